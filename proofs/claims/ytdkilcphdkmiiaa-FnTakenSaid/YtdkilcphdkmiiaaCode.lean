/- What functions of the program answer: part Code. -/
import Derived.Test.YtdkilcphdkmiiaaViEv
import Derived.Test.YtdkilcphdkmiiaaViComp
import Derived.Test.YtdkilcphdkmiiaaChecked
import Derived.KernelRfl
set_option linter.unusedVariables false
set_option linter.unusedSimpArgs false
set_option linter.unusedSectionVars false
namespace Go.Proofs.Ytdkilcphdkmiiaa
open Go Go.Proofs.Ytdkilcphdkmiiaa.VI
noncomputable def kk : FuncId → Option KF := fun f => cFunc Try.prog (!([43, 50] : List Nat).contains f) f
/-- loop.example/g01263/laws.FnExactValidBoard -/
def k3 : KF := ⟨14, (.seq (.region [⟨(some 1), .box 23 (.t 0), none⟩, ⟨(some 2), .mov (.k (.c (.bool false))), none⟩])
  (.seq (.region [⟨(some 5), .loadN 6 (.t 1), none⟩, ⟨(some 6), .call (.k (.c (.fn 16 []))) [(.t 5)], none⟩, ⟨(some 7), .call (.k (.c (.fn 15 []))) [(.t 6)], none⟩, ⟨(some 3), .mov (.t 7), none⟩])
  (.seq (.region [⟨(some 8), .loadN 6 (.t 1), none⟩, ⟨(some 9), .call (.k (.c (.fn 16 []))) [(.t 8)], none⟩, ⟨(some 10), .call (.k (.c (.fn 17 []))) [(.t 9)], none⟩, ⟨(some 4), .mov (.t 10), none⟩])
  (.seq (.seq (.region [⟨(some 11), .mov (.t 4), none⟩, ⟨(some 12), .mov (.t 3), none⟩, ⟨(some 13), .bin .neq .bool (.t 11) (.t 12), none⟩])
  (.cond (.t 13) (.seq (.region [⟨(some 2), .mov (.k (.c (.bool false))), none⟩])
  .ret) .skip))
  (.seq (.region [⟨(some 2), .mov (.k (.c (.bool true))), none⟩])
  .ret))))), [.tmp 2], true⟩
theorem c3 : kk 3 = some k3 := by kernel_rfl
/-- loop.example/g01263/laws.FnExactCountersOn -/
def k4 : KF := ⟨27, (.seq (.region [⟨(some 1), .box 23 (.t 0), none⟩, ⟨(some 2), .mov (.k (.c (.bool false))), none⟩])
  (.seq (.region [⟨(some 8), .loadN 6 (.t 1), none⟩, ⟨(some 9), .call (.k (.c (.fn 16 []))) [(.t 8)], none⟩, ⟨(some 10), .call (.k (.c (.fn 18 []))) [(.t 9)], none⟩, ⟨(some 7), .mov (.t 10), none⟩, ⟨(some 11), .ext (.t 7) 0, none⟩, ⟨(some 12), .ext (.t 7) 1, none⟩, ⟨(some 3), .mov (.t 11), none⟩, ⟨(some 4), .mov (.t 12), none⟩])
  (.seq (.region [⟨(some 14), .loadN 6 (.t 1), none⟩, ⟨(some 15), .call (.k (.c (.fn 16 []))) [(.t 14)], none⟩, ⟨(some 16), .call (.k (.c (.fn 19 []))) [(.t 15)], none⟩, ⟨(some 13), .mov (.t 16), none⟩, ⟨(some 17), .ext (.t 13) 0, none⟩, ⟨(some 18), .ext (.t 13) 1, none⟩, ⟨(some 5), .mov (.t 17), none⟩, ⟨(some 6), .mov (.t 18), none⟩])
  (.seq (.seq (.region [⟨(some 19), .mov (.t 5), none⟩, ⟨(some 20), .mov (.t 3), none⟩, ⟨(some 21), .bin .neq .int (.t 19) (.t 20), none⟩, ⟨(some 22), .mov (.t 21), none⟩, ⟨(some 23), .mov (.t 6), some (22, false)⟩, ⟨(some 24), .mov (.t 4), some (22, false)⟩, ⟨(some 25), .bin .neq .int (.t 23) (.t 24), some (22, false)⟩, ⟨(some 26), .pick (.t 22) (.k (.c (.bool true))) (.t 25), none⟩])
  (.cond (.t 26) (.seq (.region [⟨(some 2), .mov (.k (.c (.bool false))), none⟩])
  .ret) .skip))
  (.seq (.region [⟨(some 2), .mov (.k (.c (.bool true))), none⟩])
  .ret))))), [.tmp 2], true⟩
theorem c4 : kk 4 = some k4 := by kernel_rfl
/-- loop.example/g01263/laws.FnExactBoardFor -/
def k5 : KF := ⟨26, (.seq (.region [⟨(some 2), .mov (.k (.c (.bool false))), none⟩])
  (.seq (.region [⟨(some 8), .mov (.t 0), none⟩, ⟨(some 9), .call (.k (.c (.fn 20 []))) [(.t 8)], none⟩, ⟨(some 7), .mov (.t 9), none⟩, ⟨(some 10), .ext (.t 7) 0, none⟩, ⟨(some 11), .ext (.t 7) 1, none⟩, ⟨(some 3), .alloc 25 [(.int .i16 0), (.int .i16 0), (.int .i16 0), (.int .i16 0), (.int .i16 0), (.int .i16 0)], none⟩, ⟨none, .store 6 (.t 3) (.t 10), none⟩, ⟨(some 4), .mov (.t 11), none⟩])
  (.seq (.region [⟨(some 13), .mov (.t 0), none⟩, ⟨(some 14), .call (.k (.c (.fn 21 []))) [(.t 13)], none⟩, ⟨(some 12), .mov (.t 14), none⟩, ⟨(some 15), .ext (.t 12) 0, none⟩, ⟨(some 16), .ext (.t 12) 1, none⟩, ⟨(some 5), .alloc 25 [(.int .i16 0), (.int .i16 0), (.int .i16 0), (.int .i16 0), (.int .i16 0), (.int .i16 0)], none⟩, ⟨none, .store 6 (.t 5) (.t 15), none⟩, ⟨(some 6), .mov (.t 16), none⟩])
  (.seq (.seq (.region [⟨(some 17), .loadN 6 (.t 5), none⟩, ⟨(some 18), .loadN 6 (.t 3), none⟩, ⟨(some 19), .call (.k (.c (.fn 22 []))) [(.t 17), (.t 18)], none⟩, ⟨(some 20), .un .not (.t 19), none⟩, ⟨(some 21), .mov (.t 20), none⟩, ⟨(some 22), .mov (.t 6), some (21, false)⟩, ⟨(some 23), .mov (.t 4), some (21, false)⟩, ⟨(some 24), .bin .neq .int (.t 22) (.t 23), some (21, false)⟩, ⟨(some 25), .pick (.t 21) (.k (.c (.bool true))) (.t 24), none⟩])
  (.cond (.t 25) (.seq (.region [⟨(some 2), .mov (.k (.c (.bool false))), none⟩])
  .ret) .skip))
  (.seq (.region [⟨(some 2), .mov (.k (.c (.bool true))), none⟩])
  .ret))))), [.tmp 2], true⟩
theorem c5 : kk 5 = some k5 := by kernel_rfl
/-- loop.example/g01263/laws.FnExactAmountOnBoard -/
def k6 : KF := ⟨27, (.seq (.region [⟨(some 1), .box 23 (.t 0), none⟩, ⟨(some 2), .mov (.k (.c (.bool false))), none⟩])
  (.seq (.region [⟨(some 8), .loadN 6 (.t 1), none⟩, ⟨(some 9), .call (.k (.c (.fn 16 []))) [(.t 8)], none⟩, ⟨(some 10), .call (.k (.c (.fn 23 []))) [(.t 9)], none⟩, ⟨(some 7), .mov (.t 10), none⟩, ⟨(some 11), .ext (.t 7) 0, none⟩, ⟨(some 12), .ext (.t 7) 1, none⟩, ⟨(some 3), .mov (.t 11), none⟩, ⟨(some 4), .mov (.t 12), none⟩])
  (.seq (.region [⟨(some 14), .loadN 6 (.t 1), none⟩, ⟨(some 15), .call (.k (.c (.fn 16 []))) [(.t 14)], none⟩, ⟨(some 16), .call (.k (.c (.fn 24 []))) [(.t 15)], none⟩, ⟨(some 13), .mov (.t 16), none⟩, ⟨(some 17), .ext (.t 13) 0, none⟩, ⟨(some 18), .ext (.t 13) 1, none⟩, ⟨(some 5), .mov (.t 17), none⟩, ⟨(some 6), .mov (.t 18), none⟩])
  (.seq (.seq (.region [⟨(some 19), .mov (.t 5), none⟩, ⟨(some 20), .mov (.t 3), none⟩, ⟨(some 21), .bin .neq .int (.t 19) (.t 20), none⟩, ⟨(some 22), .mov (.t 21), none⟩, ⟨(some 23), .mov (.t 6), some (22, false)⟩, ⟨(some 24), .mov (.t 4), some (22, false)⟩, ⟨(some 25), .bin .neq .int (.t 23) (.t 24), some (22, false)⟩, ⟨(some 26), .pick (.t 22) (.k (.c (.bool true))) (.t 25), none⟩])
  (.cond (.t 26) (.seq (.region [⟨(some 2), .mov (.k (.c (.bool false))), none⟩])
  .ret) .skip))
  (.seq (.region [⟨(some 2), .mov (.k (.c (.bool true))), none⟩])
  .ret))))), [.tmp 2], true⟩
theorem c6 : kk 6 = some k6 := by kernel_rfl
/-- loop.example/g01263/laws.FnBoards -/
def k7 : KF := ⟨322, (.seq (.region [⟨(some 4), .mov (.k (.c (.bool false))), none⟩])
  (.seq (.seq (.region [⟨(some 51), .mov (.t 0), none⟩, ⟨(some 52), .mov (.t 1), none⟩, ⟨(some 53), .call (.k (.c (.fn 25 []))) [(.t 51), (.t 52)], none⟩])
  (.cond (.t 53) (.seq (.region [⟨(some 4), .mov (.k (.c (.bool true))), none⟩])
  .ret) .skip))
  (.seq (.region [⟨(some 54), .mov (.t 0), none⟩, ⟨(some 55), .call (.k (.c (.fn 26 []))) [(.t 54)], none⟩, ⟨(some 5), .alloc 25 [(.int .i16 0), (.int .i16 0), (.int .i16 0), (.int .i16 0), (.int .i16 0), (.int .i16 0)], none⟩, ⟨none, .store 6 (.t 5) (.t 55), none⟩])
  (.seq (.region [⟨(some 56), .mov (.t 1), none⟩, ⟨(some 57), .call (.k (.c (.fn 27 []))) [(.t 56), (.k (.c (.int .i64 0))), (.k (.c (.int .i64 5)))], none⟩, ⟨(some 6), .mov (.t 57), none⟩])
  (.seq (.region [⟨(some 59), .loadN 6 (.t 5), none⟩, ⟨(some 60), .call (.k (.c (.fn 24 []))) [(.t 59)], none⟩, ⟨(some 58), .mov (.t 60), none⟩, ⟨(some 61), .ext (.t 58) 0, none⟩, ⟨(some 62), .ext (.t 58) 1, none⟩, ⟨(some 7), .mov (.t 61), none⟩, ⟨(some 8), .mov (.t 62), none⟩])
  (.seq (.region [⟨(some 64), .loadN 6 (.t 5), none⟩, ⟨(some 65), .call (.k (.c (.fn 23 []))) [(.t 64)], none⟩, ⟨(some 63), .mov (.t 65), none⟩, ⟨(some 66), .ext (.t 63) 0, none⟩, ⟨(some 67), .ext (.t 63) 1, none⟩, ⟨(some 9), .mov (.t 66), none⟩, ⟨(some 10), .mov (.t 67), none⟩])
  (.seq (.region [⟨(some 69), .loadN 6 (.t 5), none⟩, ⟨(some 70), .call (.k (.c (.fn 28 []))) [(.t 69)], none⟩, ⟨(some 68), .mov (.t 70), none⟩, ⟨(some 71), .ext (.t 68) 0, none⟩, ⟨(some 72), .ext (.t 68) 1, none⟩, ⟨(some 73), .ext (.t 68) 2, none⟩, ⟨(some 11), .alloc 25 [(.int .i16 0), (.int .i16 0), (.int .i16 0), (.int .i16 0), (.int .i16 0), (.int .i16 0)], none⟩, ⟨none, .store 6 (.t 11) (.t 71), none⟩, ⟨(some 12), .mov (.t 72), none⟩, ⟨(some 13), .mov (.t 73), none⟩])
  (.seq (.region [⟨(some 75), .loadN 6 (.t 5), none⟩, ⟨(some 76), .call (.k (.c (.fn 29 []))) [(.t 75)], none⟩, ⟨(some 74), .mov (.t 76), none⟩, ⟨(some 77), .ext (.t 74) 0, none⟩, ⟨(some 78), .ext (.t 74) 1, none⟩, ⟨(some 79), .ext (.t 74) 2, none⟩, ⟨(some 14), .alloc 25 [(.int .i16 0), (.int .i16 0), (.int .i16 0), (.int .i16 0), (.int .i16 0), (.int .i16 0)], none⟩, ⟨none, .store 6 (.t 14) (.t 77), none⟩, ⟨(some 15), .mov (.t 78), none⟩, ⟨(some 16), .mov (.t 79), none⟩])
  (.seq (.seq (.region [⟨(some 80), .mov (.t 8), none⟩, ⟨(some 81), .mov (.t 10), none⟩, ⟨(some 82), .bin .neq .int (.t 80) (.t 81), none⟩, ⟨(some 83), .mov (.t 82), none⟩, ⟨(some 84), .mov (.t 8), some (83, false)⟩, ⟨(some 85), .bin .neq .int (.t 84) (.k (.c (.int .i64 0))), some (83, false)⟩, ⟨(some 86), .pick (.t 83) (.k (.c (.bool true))) (.t 85), none⟩, ⟨(some 87), .mov (.t 86), none⟩, ⟨(some 88), .mov (.t 7), some (87, false)⟩, ⟨(some 89), .mov (.t 9), some (87, false)⟩, ⟨(some 90), .bin .neq .int (.t 88) (.t 89), some (87, false)⟩, ⟨(some 91), .pick (.t 87) (.k (.c (.bool true))) (.t 90), none⟩, ⟨(some 92), .mov (.t 91), none⟩, ⟨(some 93), .mov (.t 13), some (92, false)⟩, ⟨(some 94), .mov (.t 16), some (92, false)⟩, ⟨(some 95), .bin .neq .int (.t 93) (.t 94), some (92, false)⟩, ⟨(some 96), .pick (.t 92) (.k (.c (.bool true))) (.t 95), none⟩, ⟨(some 97), .mov (.t 96), none⟩, ⟨(some 98), .mov (.t 13), some (97, false)⟩, ⟨(some 99), .bin .neq .int (.t 98) (.k (.c (.int .i64 0))), some (97, false)⟩, ⟨(some 100), .pick (.t 97) (.k (.c (.bool true))) (.t 99), none⟩, ⟨(some 101), .mov (.t 100), none⟩, ⟨(some 102), .loadN 6 (.t 11), some (101, false)⟩, ⟨(some 103), .loadN 6 (.t 14), some (101, false)⟩, ⟨(some 104), .bin .neq (.agg [.int, .int, .int, .int, .int, .int]) (.t 102) (.t 103), some (101, false)⟩, ⟨(some 105), .pick (.t 101) (.k (.c (.bool true))) (.t 104), none⟩, ⟨(some 106), .mov (.t 105), none⟩, ⟨(some 107), .mov (.t 12), some (106, false)⟩, ⟨(some 108), .mov (.t 15), some (106, false)⟩, ⟨(some 109), .bin .neq .int (.t 107) (.t 108), some (106, false)⟩, ⟨(some 110), .pick (.t 106) (.k (.c (.bool true))) (.t 109), none⟩, ⟨(some 111), .mov (.t 110), none⟩, ⟨(some 112), .loadN 6 (.t 5), some (111, false)⟩, ⟨(some 113), .call (.k (.c (.fn 17 []))) [(.t 112)], some (111, false)⟩, ⟨(some 114), .un .not (.t 113), some (111, false)⟩, ⟨(some 115), .pick (.t 111) (.k (.c (.bool true))) (.t 114), none⟩, ⟨(some 116), .mov (.t 115), none⟩, ⟨(some 117), .loadN 6 (.t 14), some (116, false)⟩, ⟨(some 118), .call (.k (.c (.fn 17 []))) [(.t 117)], some (116, false)⟩, ⟨(some 119), .un .not (.t 118), some (116, false)⟩, ⟨(some 120), .pick (.t 116) (.k (.c (.bool true))) (.t 119), none⟩])
  (.cond (.t 120) (.seq (.region [⟨(some 4), .mov (.k (.c (.bool false))), none⟩])
  .ret) .skip))
  (.seq (.region [⟨(some 122), .mov (.t 9), none⟩, ⟨(some 123), .call (.k (.c (.fn 21 []))) [(.t 122)], none⟩, ⟨(some 121), .mov (.t 123), none⟩, ⟨(some 124), .ext (.t 121) 0, none⟩, ⟨(some 125), .ext (.t 121) 1, none⟩, ⟨(some 17), .alloc 25 [(.int .i16 0), (.int .i16 0), (.int .i16 0), (.int .i16 0), (.int .i16 0), (.int .i16 0)], none⟩, ⟨none, .store 6 (.t 17) (.t 124), none⟩, ⟨(some 18), .mov (.t 125), none⟩])
  (.seq (.region [⟨(some 127), .loadN 6 (.t 14), none⟩, ⟨(some 128), .call (.k (.c (.fn 28 []))) [(.t 127)], none⟩, ⟨(some 126), .mov (.t 128), none⟩, ⟨(some 129), .ext (.t 126) 0, none⟩, ⟨(some 130), .ext (.t 126) 1, none⟩, ⟨(some 131), .ext (.t 126) 2, none⟩, ⟨(some 19), .alloc 25 [(.int .i16 0), (.int .i16 0), (.int .i16 0), (.int .i16 0), (.int .i16 0), (.int .i16 0)], none⟩, ⟨none, .store 6 (.t 19) (.t 129), none⟩, ⟨(some 20), .mov (.t 130), none⟩, ⟨(some 21), .mov (.t 131), none⟩])
  (.seq (.region [⟨(some 133), .loadN 6 (.t 14), none⟩, ⟨(some 134), .call (.k (.c (.fn 24 []))) [(.t 133)], none⟩, ⟨(some 132), .mov (.t 134), none⟩, ⟨(some 135), .ext (.t 132) 0, none⟩, ⟨(some 136), .ext (.t 132) 1, none⟩, ⟨(some 22), .mov (.t 135), none⟩, ⟨(some 23), .mov (.t 136), none⟩])
  (.seq (.seq (.region [⟨(some 137), .mov (.t 18), none⟩, ⟨(some 138), .bin .neq .int (.t 137) (.k (.c (.int .i64 0))), none⟩, ⟨(some 139), .mov (.t 138), none⟩, ⟨(some 140), .loadN 6 (.t 17), some (139, false)⟩, ⟨(some 141), .loadN 6 (.t 14), some (139, false)⟩, ⟨(some 142), .bin .neq (.agg [.int, .int, .int, .int, .int, .int]) (.t 140) (.t 141), some (139, false)⟩, ⟨(some 143), .pick (.t 139) (.k (.c (.bool true))) (.t 142), none⟩, ⟨(some 144), .mov (.t 143), none⟩, ⟨(some 145), .mov (.t 21), some (144, false)⟩, ⟨(some 146), .bin .neq .int (.t 145) (.k (.c (.int .i64 0))), some (144, false)⟩, ⟨(some 147), .pick (.t 144) (.k (.c (.bool true))) (.t 146), none⟩, ⟨(some 148), .mov (.t 147), none⟩, ⟨(some 149), .loadN 6 (.t 19), some (148, false)⟩, ⟨(some 150), .loadN 6 (.t 14), some (148, false)⟩, ⟨(some 151), .bin .neq (.agg [.int, .int, .int, .int, .int, .int]) (.t 149) (.t 150), some (148, false)⟩, ⟨(some 152), .pick (.t 148) (.k (.c (.bool true))) (.t 151), none⟩, ⟨(some 153), .mov (.t 152), none⟩, ⟨(some 154), .mov (.t 20), some (153, false)⟩, ⟨(some 155), .bin .neq .int (.t 154) (.k (.c (.int .i64 0))), some (153, false)⟩, ⟨(some 156), .pick (.t 153) (.k (.c (.bool true))) (.t 155), none⟩, ⟨(some 157), .mov (.t 156), none⟩, ⟨(some 158), .mov (.t 23), some (157, false)⟩, ⟨(some 159), .bin .neq .int (.t 158) (.k (.c (.int .i64 0))), some (157, false)⟩, ⟨(some 160), .pick (.t 157) (.k (.c (.bool true))) (.t 159), none⟩, ⟨(some 161), .mov (.t 160), none⟩, ⟨(some 162), .mov (.t 22), some (161, false)⟩, ⟨(some 163), .mov (.t 9), some (161, false)⟩, ⟨(some 164), .bin .neq .int (.t 162) (.t 163), some (161, false)⟩, ⟨(some 165), .pick (.t 161) (.k (.c (.bool true))) (.t 164), none⟩])
  (.cond (.t 165) (.seq (.region [⟨(some 4), .mov (.k (.c (.bool false))), none⟩])
  .ret) .skip))
  (.seq (.region [⟨(some 167), .loadN 6 (.t 5), none⟩, ⟨(some 168), .mov (.t 6), none⟩, ⟨(some 169), .call (.k (.c (.fn 30 []))) [(.t 167), (.t 168)], none⟩, ⟨(some 166), .mov (.t 169), none⟩, ⟨(some 170), .ext (.t 166) 0, none⟩, ⟨(some 171), .ext (.t 166) 1, none⟩, ⟨(some 24), .alloc 25 [(.int .i16 0), (.int .i16 0), (.int .i16 0), (.int .i16 0), (.int .i16 0), (.int .i16 0)], none⟩, ⟨none, .store 6 (.t 24) (.t 170), none⟩, ⟨(some 25), .mov (.t 171), none⟩])
  (.seq (.region [⟨(some 173), .loadN 6 (.t 5), none⟩, ⟨(some 174), .mov (.t 6), none⟩, ⟨(some 175), .call (.k (.c (.fn 31 []))) [(.t 173), (.t 174)], none⟩, ⟨(some 172), .mov (.t 175), none⟩, ⟨(some 176), .ext (.t 172) 0, none⟩, ⟨(some 177), .ext (.t 172) 1, none⟩, ⟨(some 26), .alloc 25 [(.int .i16 0), (.int .i16 0), (.int .i16 0), (.int .i16 0), (.int .i16 0), (.int .i16 0)], none⟩, ⟨none, .store 6 (.t 26) (.t 176), none⟩, ⟨(some 27), .mov (.t 177), none⟩])
  (.seq (.region [⟨(some 179), .loadN 6 (.t 5), none⟩, ⟨(some 180), .mov (.t 6), none⟩, ⟨(some 181), .call (.k (.c (.fn 32 []))) [(.t 179), (.t 180)], none⟩, ⟨(some 178), .mov (.t 181), none⟩, ⟨(some 182), .ext (.t 178) 0, none⟩, ⟨(some 183), .ext (.t 178) 1, none⟩, ⟨(some 28), .alloc 25 [(.int .i16 0), (.int .i16 0), (.int .i16 0), (.int .i16 0), (.int .i16 0), (.int .i16 0)], none⟩, ⟨none, .store 6 (.t 28) (.t 182), none⟩, ⟨(some 29), .mov (.t 183), none⟩])
  (.seq (.region [⟨(some 185), .loadN 6 (.t 5), none⟩, ⟨(some 186), .mov (.t 6), none⟩, ⟨(some 187), .call (.k (.c (.fn 33 []))) [(.t 185), (.t 186)], none⟩, ⟨(some 184), .mov (.t 187), none⟩, ⟨(some 188), .ext (.t 184) 0, none⟩, ⟨(some 189), .ext (.t 184) 1, none⟩, ⟨(some 30), .alloc 25 [(.int .i16 0), (.int .i16 0), (.int .i16 0), (.int .i16 0), (.int .i16 0), (.int .i16 0)], none⟩, ⟨none, .store 6 (.t 30) (.t 188), none⟩, ⟨(some 31), .mov (.t 189), none⟩])
  (.seq (.seq (.region [⟨(some 190), .mov (.t 25), none⟩, ⟨(some 191), .mov (.t 27), none⟩, ⟨(some 192), .bin .neq .int (.t 190) (.t 191), none⟩, ⟨(some 193), .mov (.t 192), none⟩, ⟨(some 194), .loadN 6 (.t 24), some (193, false)⟩, ⟨(some 195), .loadN 6 (.t 26), some (193, false)⟩, ⟨(some 196), .bin .neq (.agg [.int, .int, .int, .int, .int, .int]) (.t 194) (.t 195), some (193, false)⟩, ⟨(some 197), .pick (.t 193) (.k (.c (.bool true))) (.t 196), none⟩, ⟨(some 198), .mov (.t 197), none⟩, ⟨(some 199), .mov (.t 29), some (198, false)⟩, ⟨(some 200), .mov (.t 31), some (198, false)⟩, ⟨(some 201), .bin .neq .int (.t 199) (.t 200), some (198, false)⟩, ⟨(some 202), .pick (.t 198) (.k (.c (.bool true))) (.t 201), none⟩, ⟨(some 203), .mov (.t 202), none⟩, ⟨(some 204), .loadN 6 (.t 28), some (203, false)⟩, ⟨(some 205), .loadN 6 (.t 30), some (203, false)⟩, ⟨(some 206), .bin .neq (.agg [.int, .int, .int, .int, .int, .int]) (.t 204) (.t 205), some (203, false)⟩, ⟨(some 207), .pick (.t 203) (.k (.c (.bool true))) (.t 206), none⟩])
  (.cond (.t 207) (.seq (.region [⟨(some 4), .mov (.k (.c (.bool false))), none⟩])
  .ret) .skip))
  (.seq (.seq (.region [⟨(some 208), .mov (.t 25), none⟩, ⟨(some 209), .bin .eql .int (.t 208) (.k (.c (.int .i64 0))), none⟩])
  (.cond (.t 209) (.seq (.region [⟨(some 211), .loadN 6 (.t 26), none⟩, ⟨(some 212), .call (.k (.c (.fn 24 []))) [(.t 211)], none⟩, ⟨(some 210), .mov (.t 212), none⟩, ⟨(some 213), .ext (.t 210) 0, none⟩, ⟨(some 214), .ext (.t 210) 1, none⟩, ⟨(some 32), .mov (.t 213), none⟩, ⟨(some 33), .mov (.t 214), none⟩])
  (.seq (.region [⟨(some 216), .loadN 6 (.t 26), none⟩, ⟨(some 217), .mov (.t 6), none⟩, ⟨(some 218), .call (.k (.c (.fn 32 []))) [(.t 216), (.t 217)], none⟩, ⟨(some 215), .mov (.t 218), none⟩, ⟨(some 219), .ext (.t 215) 0, none⟩, ⟨(some 220), .ext (.t 215) 1, none⟩, ⟨(some 34), .alloc 25 [(.int .i16 0), (.int .i16 0), (.int .i16 0), (.int .i16 0), (.int .i16 0), (.int .i16 0)], none⟩, ⟨none, .store 6 (.t 34) (.t 219), none⟩, ⟨(some 35), .mov (.t 220), none⟩])
  (.seq (.region [⟨(some 221), .mov (.t 33), none⟩, ⟨(some 222), .bin .neq .int (.t 221) (.k (.c (.int .i64 0))), none⟩, ⟨(some 223), .mov (.t 222), none⟩, ⟨(some 224), .mov (.t 32), some (223, false)⟩, ⟨(some 225), .mov (.t 9), some (223, false)⟩, ⟨(some 226), .bin .neq .int (.t 224) (.t 225), some (223, false)⟩, ⟨(some 227), .pick (.t 223) (.k (.c (.bool true))) (.t 226), none⟩, ⟨(some 228), .mov (.t 227), none⟩, ⟨(some 229), .mov (.t 35), some (228, false)⟩, ⟨(some 230), .bin .neq .int (.t 229) (.k (.c (.int .i64 0))), some (228, false)⟩, ⟨(some 231), .pick (.t 228) (.k (.c (.bool true))) (.t 230), none⟩, ⟨(some 232), .mov (.t 231), none⟩, ⟨(some 233), .loadN 6 (.t 34), some (232, false)⟩, ⟨(some 234), .loadN 6 (.t 5), some (232, false)⟩, ⟨(some 235), .bin .neq (.agg [.int, .int, .int, .int, .int, .int]) (.t 233) (.t 234), some (232, false)⟩, ⟨(some 236), .pick (.t 232) (.k (.c (.bool true))) (.t 235), none⟩])
  (.cond (.t 236) (.seq (.region [⟨(some 4), .mov (.k (.c (.bool false))), none⟩])
  .ret) .skip)))) (.seq (.region [⟨(some 237), .mov (.t 25), none⟩, ⟨(some 238), .bin .neq .int (.t 237) (.k (.c (.int .i64 4))), none⟩])
  (.cond (.t 238) (.seq (.region [⟨(some 4), .mov (.k (.c (.bool false))), none⟩])
  .ret) .skip))))
  (.seq (.seq (.region [⟨(some 239), .mov (.t 29), none⟩, ⟨(some 240), .bin .eql .int (.t 239) (.k (.c (.int .i64 0))), none⟩])
  (.cond (.t 240) (.seq (.region [⟨(some 242), .loadN 6 (.t 30), none⟩, ⟨(some 243), .call (.k (.c (.fn 24 []))) [(.t 242)], none⟩, ⟨(some 241), .mov (.t 243), none⟩, ⟨(some 244), .ext (.t 241) 0, none⟩, ⟨(some 245), .ext (.t 241) 1, none⟩, ⟨(some 36), .mov (.t 244), none⟩, ⟨(some 37), .mov (.t 245), none⟩])
  (.seq (.region [⟨(some 246), .mov (.t 37), none⟩, ⟨(some 247), .bin .neq .int (.t 246) (.k (.c (.int .i64 0))), none⟩, ⟨(some 248), .mov (.t 247), none⟩, ⟨(some 249), .mov (.t 36), some (248, false)⟩, ⟨(some 250), .mov (.t 9), some (248, false)⟩, ⟨(some 251), .bin .neq .int (.t 249) (.t 250), some (248, false)⟩, ⟨(some 252), .pick (.t 248) (.k (.c (.bool true))) (.t 251), none⟩])
  (.cond (.t 252) (.seq (.region [⟨(some 4), .mov (.k (.c (.bool false))), none⟩])
  .ret) .skip))) .skip))
  (.seq (.region [⟨(some 253), .mov (.t 1), none⟩, ⟨(some 254), .call (.k (.c (.fn 26 []))) [(.t 253)], none⟩, ⟨(some 38), .alloc 25 [(.int .i16 0), (.int .i16 0), (.int .i16 0), (.int .i16 0), (.int .i16 0), (.int .i16 0)], none⟩, ⟨none, .store 6 (.t 38) (.t 254), none⟩])
  (.seq (.region [⟨(some 256), .loadN 6 (.t 5), none⟩, ⟨(some 257), .loadN 6 (.t 38), none⟩, ⟨(some 258), .call (.k (.c (.fn 34 []))) [(.t 256), (.t 257)], none⟩, ⟨(some 255), .mov (.t 258), none⟩, ⟨(some 259), .ext (.t 255) 0, none⟩, ⟨(some 260), .ext (.t 255) 1, none⟩, ⟨(some 39), .alloc 25 [(.int .i16 0), (.int .i16 0), (.int .i16 0), (.int .i16 0), (.int .i16 0), (.int .i16 0)], none⟩, ⟨none, .store 6 (.t 39) (.t 259), none⟩, ⟨(some 40), .mov (.t 260), none⟩])
  (.seq (.region [⟨(some 262), .loadN 6 (.t 38), none⟩, ⟨(some 263), .call (.k (.c (.fn 23 []))) [(.t 262)], none⟩, ⟨(some 261), .mov (.t 263), none⟩, ⟨(some 264), .ext (.t 261) 0, none⟩, ⟨(some 265), .ext (.t 261) 1, none⟩, ⟨(some 41), .mov (.t 264), none⟩, ⟨(some 42), .mov (.t 265), none⟩])
  (.seq (.region [⟨(some 267), .loadN 6 (.t 39), none⟩, ⟨(some 268), .call (.k (.c (.fn 24 []))) [(.t 267)], none⟩, ⟨(some 266), .mov (.t 268), none⟩, ⟨(some 269), .ext (.t 266) 0, none⟩, ⟨(some 270), .ext (.t 266) 1, none⟩, ⟨(some 43), .mov (.t 269), none⟩, ⟨(some 44), .mov (.t 270), none⟩])
  (.seq (.region [⟨(some 272), .loadN 6 (.t 39), none⟩, ⟨(some 273), .call (.k (.c (.fn 19 []))) [(.t 272)], none⟩, ⟨(some 271), .mov (.t 273), none⟩, ⟨(some 274), .ext (.t 271) 0, none⟩, ⟨(some 275), .ext (.t 271) 1, none⟩, ⟨(some 45), .mov (.t 274), none⟩, ⟨(some 46), .mov (.t 275), none⟩])
  (.seq (.region [⟨(some 277), .loadN 6 (.t 5), none⟩, ⟨(some 278), .call (.k (.c (.fn 19 []))) [(.t 277)], none⟩, ⟨(some 276), .mov (.t 278), none⟩, ⟨(some 279), .ext (.t 276) 0, none⟩, ⟨(some 280), .ext (.t 276) 1, none⟩, ⟨(some 47), .mov (.t 279), none⟩, ⟨(some 48), .mov (.t 280), none⟩])
  (.seq (.region [⟨(some 282), .loadN 6 (.t 38), none⟩, ⟨(some 283), .call (.k (.c (.fn 19 []))) [(.t 282)], none⟩, ⟨(some 281), .mov (.t 283), none⟩, ⟨(some 284), .ext (.t 281) 0, none⟩, ⟨(some 285), .ext (.t 281) 1, none⟩, ⟨(some 49), .mov (.t 284), none⟩, ⟨(some 50), .mov (.t 285), none⟩])
  (.seq (.region [⟨(some 286), .mov (.t 40), none⟩, ⟨(some 287), .bin .eql .int (.t 286) (.k (.c (.int .i64 0))), none⟩, ⟨(some 288), .mov (.t 287), none⟩, ⟨(some 289), .mov (.t 42), some (288, true)⟩, ⟨(some 290), .bin .eql .int (.t 289) (.k (.c (.int .i64 0))), some (288, true)⟩, ⟨(some 291), .pick (.t 288) (.t 290) (.k (.c (.bool false))), none⟩, ⟨(some 292), .mov (.t 291), none⟩, ⟨(some 293), .mov (.t 44), some (292, true)⟩, ⟨(some 294), .bin .eql .int (.t 293) (.k (.c (.int .i64 0))), some (292, true)⟩, ⟨(some 295), .pick (.t 292) (.t 294) (.k (.c (.bool false))), none⟩, ⟨(some 296), .mov (.t 295), none⟩, ⟨(some 297), .mov (.t 43), some (296, true)⟩, ⟨(some 298), .mov (.t 9), some (296, true)⟩, ⟨(some 299), .mov (.t 41), some (296, true)⟩, ⟨(some 300), .bin .add .int (.t 298) (.t 299), some (296, true)⟩, ⟨(some 301), .bin .eql .int (.t 297) (.t 300), some (296, true)⟩, ⟨(some 302), .pick (.t 296) (.t 301) (.k (.c (.bool false))), none⟩, ⟨(some 303), .mov (.t 302), none⟩, ⟨(some 304), .mov (.t 46), some (303, true)⟩, ⟨(some 305), .bin .eql .int (.t 304) (.k (.c (.int .i64 0))), some (303, true)⟩, ⟨(some 306), .pick (.t 303) (.t 305) (.k (.c (.bool false))), none⟩, ⟨(some 307), .mov (.t 306), none⟩, ⟨(some 308), .mov (.t 48), some (307, true)⟩, ⟨(some 309), .bin .eql .int (.t 308) (.k (.c (.int .i64 0))), some (307, true)⟩, ⟨(some 310), .pick (.t 307) (.t 309) (.k (.c (.bool false))), none⟩, ⟨(some 311), .mov (.t 310), none⟩, ⟨(some 312), .mov (.t 50), some (311, true)⟩, ⟨(some 313), .bin .eql .int (.t 312) (.k (.c (.int .i64 0))), some (311, true)⟩, ⟨(some 314), .pick (.t 311) (.t 313) (.k (.c (.bool false))), none⟩, ⟨(some 315), .mov (.t 314), none⟩, ⟨(some 316), .mov (.t 45), some (315, true)⟩, ⟨(some 317), .mov (.t 47), some (315, true)⟩, ⟨(some 318), .mov (.t 49), some (315, true)⟩, ⟨(some 319), .bin .add .int (.t 317) (.t 318), some (315, true)⟩, ⟨(some 320), .bin .eql .int (.t 316) (.t 319), some (315, true)⟩, ⟨(some 321), .pick (.t 315) (.t 320) (.k (.c (.bool false))), none⟩, ⟨(some 4), .mov (.t 321), none⟩])
  .ret)))))))))))))))))))))))))))), [.tmp 4], true⟩
theorem c7 : kk 7 = some k7 := by kernel_rfl
/-- loop.example/g01263/laws.FnExactJoinBoards -/
def k8 : KF := ⟨34, (.seq (.region [⟨(some 2), .box 23 (.t 0), none⟩, ⟨(some 3), .box 23 (.t 1), none⟩, ⟨(some 4), .mov (.k (.c (.bool false))), none⟩])
  (.seq (.drawn [(⟨(some 10), .loadN 6 (.t 2), none⟩, []), (⟨(some 12), .loadN 6 (.t 3), none⟩, []), (⟨(some 11), .call (.k (.c (.fn 16 []))) [(.t 10)], none⟩, [⟨(some 12), .loadN 6 (.t 3), none⟩]), (⟨(some 13), .call (.k (.c (.fn 16 []))) [(.t 12)], none⟩, []), (⟨(some 14), .call (.k (.c (.fn 35 []))) [(.t 11), (.t 13)], none⟩, []), (⟨(some 9), .mov (.t 14), none⟩, []), (⟨(some 15), .ext (.t 9) 0, none⟩, []), (⟨(some 16), .ext (.t 9) 1, none⟩, []), (⟨(some 5), .alloc 25 [(.int .i16 0), (.int .i16 0), (.int .i16 0), (.int .i16 0), (.int .i16 0), (.int .i16 0)], none⟩, [⟨(some 10), .loadN 6 (.t 2), none⟩, ⟨(some 12), .loadN 6 (.t 3), none⟩]), (⟨none, .store 6 (.t 5) (.t 15), none⟩, []), (⟨(some 6), .mov (.t 16), none⟩, [])])
  (.seq (.drawn [(⟨(some 18), .loadN 6 (.t 2), none⟩, []), (⟨(some 20), .loadN 6 (.t 3), none⟩, []), (⟨(some 19), .call (.k (.c (.fn 16 []))) [(.t 18)], none⟩, [⟨(some 20), .loadN 6 (.t 3), none⟩]), (⟨(some 21), .call (.k (.c (.fn 16 []))) [(.t 20)], none⟩, []), (⟨(some 22), .call (.k (.c (.fn 34 []))) [(.t 19), (.t 21)], none⟩, []), (⟨(some 17), .mov (.t 22), none⟩, []), (⟨(some 23), .ext (.t 17) 0, none⟩, []), (⟨(some 24), .ext (.t 17) 1, none⟩, []), (⟨(some 7), .alloc 25 [(.int .i16 0), (.int .i16 0), (.int .i16 0), (.int .i16 0), (.int .i16 0), (.int .i16 0)], none⟩, [⟨(some 18), .loadN 6 (.t 2), none⟩, ⟨(some 20), .loadN 6 (.t 3), none⟩]), (⟨none, .store 6 (.t 7) (.t 23), none⟩, []), (⟨(some 8), .mov (.t 24), none⟩, [])])
  (.seq (.seq (.region [⟨(some 25), .loadN 6 (.t 7), none⟩, ⟨(some 26), .loadN 6 (.t 5), none⟩, ⟨(some 27), .call (.k (.c (.fn 22 []))) [(.t 25), (.t 26)], none⟩, ⟨(some 28), .un .not (.t 27), none⟩, ⟨(some 29), .mov (.t 28), none⟩, ⟨(some 30), .mov (.t 8), some (29, false)⟩, ⟨(some 31), .mov (.t 6), some (29, false)⟩, ⟨(some 32), .bin .neq .int (.t 30) (.t 31), some (29, false)⟩, ⟨(some 33), .pick (.t 29) (.k (.c (.bool true))) (.t 32), none⟩])
  (.cond (.t 33) (.seq (.region [⟨(some 4), .mov (.k (.c (.bool false))), none⟩])
  .ret) .skip))
  (.seq (.region [⟨(some 4), .mov (.k (.c (.bool true))), none⟩])
  .ret))))), [.tmp 4], true⟩
theorem c8 : kk 8 = some k8 := by kernel_rfl
/-- loop.example/g01263/laws.FnExactPutCounters -/
def k9 : KF := ⟨36, (.seq (.region [⟨(some 3), .box 23 (.t 0), none⟩, ⟨(some 6), .mov (.k (.c (.bool false))), none⟩])
  (.seq (.region [⟨(some 12), .loadN 6 (.t 3), none⟩, ⟨(some 13), .call (.k (.c (.fn 16 []))) [(.t 12)], none⟩, ⟨(some 14), .mov (.t 1), none⟩, ⟨(some 15), .mov (.t 2), none⟩, ⟨(some 16), .call (.k (.c (.fn 36 []))) [(.t 13), (.t 14), (.t 15)], none⟩, ⟨(some 11), .mov (.t 16), none⟩, ⟨(some 17), .ext (.t 11) 0, none⟩, ⟨(some 18), .ext (.t 11) 1, none⟩, ⟨(some 7), .alloc 25 [(.int .i16 0), (.int .i16 0), (.int .i16 0), (.int .i16 0), (.int .i16 0), (.int .i16 0)], none⟩, ⟨none, .store 6 (.t 7) (.t 17), none⟩, ⟨(some 8), .mov (.t 18), none⟩])
  (.seq (.region [⟨(some 20), .loadN 6 (.t 3), none⟩, ⟨(some 21), .call (.k (.c (.fn 16 []))) [(.t 20)], none⟩, ⟨(some 22), .mov (.t 1), none⟩, ⟨(some 23), .mov (.t 2), none⟩, ⟨(some 24), .call (.k (.c (.fn 37 []))) [(.t 21), (.t 22), (.t 23)], none⟩, ⟨(some 19), .mov (.t 24), none⟩, ⟨(some 25), .ext (.t 19) 0, none⟩, ⟨(some 26), .ext (.t 19) 1, none⟩, ⟨(some 9), .alloc 25 [(.int .i16 0), (.int .i16 0), (.int .i16 0), (.int .i16 0), (.int .i16 0), (.int .i16 0)], none⟩, ⟨none, .store 6 (.t 9) (.t 25), none⟩, ⟨(some 10), .mov (.t 26), none⟩])
  (.seq (.seq (.region [⟨(some 27), .loadN 6 (.t 9), none⟩, ⟨(some 28), .loadN 6 (.t 7), none⟩, ⟨(some 29), .call (.k (.c (.fn 22 []))) [(.t 27), (.t 28)], none⟩, ⟨(some 30), .un .not (.t 29), none⟩, ⟨(some 31), .mov (.t 30), none⟩, ⟨(some 32), .mov (.t 10), some (31, false)⟩, ⟨(some 33), .mov (.t 8), some (31, false)⟩, ⟨(some 34), .bin .neq .int (.t 32) (.t 33), some (31, false)⟩, ⟨(some 35), .pick (.t 31) (.k (.c (.bool true))) (.t 34), none⟩])
  (.cond (.t 35) (.seq (.region [⟨(some 6), .mov (.k (.c (.bool false))), none⟩])
  .ret) .skip))
  (.seq (.region [⟨(some 6), .mov (.k (.c (.bool true))), none⟩])
  .ret))))), [.tmp 6], true⟩
theorem c9 : kk 9 = some k9 := by kernel_rfl
/-- loop.example/g01263/laws.FnExactTidyBoard -/
def k10 : KF := ⟨37, (.seq (.region [⟨(some 1), .box 23 (.t 0), none⟩, ⟨(some 2), .mov (.k (.c (.bool false))), none⟩])
  (.seq (.region [⟨(some 10), .loadN 6 (.t 1), none⟩, ⟨(some 11), .call (.k (.c (.fn 16 []))) [(.t 10)], none⟩, ⟨(some 12), .call (.k (.c (.fn 29 []))) [(.t 11)], none⟩, ⟨(some 9), .mov (.t 12), none⟩, ⟨(some 13), .ext (.t 9) 0, none⟩, ⟨(some 14), .ext (.t 9) 1, none⟩, ⟨(some 15), .ext (.t 9) 2, none⟩, ⟨(some 3), .alloc 25 [(.int .i16 0), (.int .i16 0), (.int .i16 0), (.int .i16 0), (.int .i16 0), (.int .i16 0)], none⟩, ⟨none, .store 6 (.t 3) (.t 13), none⟩, ⟨(some 4), .mov (.t 14), none⟩, ⟨(some 5), .mov (.t 15), none⟩])
  (.seq (.region [⟨(some 17), .loadN 6 (.t 1), none⟩, ⟨(some 18), .call (.k (.c (.fn 16 []))) [(.t 17)], none⟩, ⟨(some 19), .call (.k (.c (.fn 28 []))) [(.t 18)], none⟩, ⟨(some 16), .mov (.t 19), none⟩, ⟨(some 20), .ext (.t 16) 0, none⟩, ⟨(some 21), .ext (.t 16) 1, none⟩, ⟨(some 22), .ext (.t 16) 2, none⟩, ⟨(some 6), .alloc 25 [(.int .i16 0), (.int .i16 0), (.int .i16 0), (.int .i16 0), (.int .i16 0), (.int .i16 0)], none⟩, ⟨none, .store 6 (.t 6) (.t 20), none⟩, ⟨(some 7), .mov (.t 21), none⟩, ⟨(some 8), .mov (.t 22), none⟩])
  (.seq (.seq (.region [⟨(some 23), .loadN 6 (.t 6), none⟩, ⟨(some 24), .loadN 6 (.t 3), none⟩, ⟨(some 25), .call (.k (.c (.fn 22 []))) [(.t 23), (.t 24)], none⟩, ⟨(some 26), .un .not (.t 25), none⟩, ⟨(some 27), .mov (.t 26), none⟩, ⟨(some 28), .mov (.t 7), some (27, false)⟩, ⟨(some 29), .mov (.t 4), some (27, false)⟩, ⟨(some 30), .bin .neq .int (.t 28) (.t 29), some (27, false)⟩, ⟨(some 31), .pick (.t 27) (.k (.c (.bool true))) (.t 30), none⟩, ⟨(some 32), .mov (.t 31), none⟩, ⟨(some 33), .mov (.t 8), some (32, false)⟩, ⟨(some 34), .mov (.t 5), some (32, false)⟩, ⟨(some 35), .bin .neq .int (.t 33) (.t 34), some (32, false)⟩, ⟨(some 36), .pick (.t 32) (.k (.c (.bool true))) (.t 35), none⟩])
  (.cond (.t 36) (.seq (.region [⟨(some 2), .mov (.k (.c (.bool false))), none⟩])
  .ret) .skip))
  (.seq (.region [⟨(some 2), .mov (.k (.c (.bool true))), none⟩])
  .ret))))), [.tmp 2], true⟩
theorem c10 : kk 10 = some k10 := by kernel_rfl
/-- loop.example/g01263/laws.FnExactBorrowDown -/
def k11 : KF := ⟨32, (.seq (.region [⟨(some 2), .box 23 (.t 0), none⟩, ⟨(some 4), .mov (.k (.c (.bool false))), none⟩])
  (.seq (.region [⟨(some 10), .loadN 6 (.t 2), none⟩, ⟨(some 11), .call (.k (.c (.fn 16 []))) [(.t 10)], none⟩, ⟨(some 12), .mov (.t 1), none⟩, ⟨(some 13), .call (.k (.c (.fn 33 []))) [(.t 11), (.t 12)], none⟩, ⟨(some 9), .mov (.t 13), none⟩, ⟨(some 14), .ext (.t 9) 0, none⟩, ⟨(some 15), .ext (.t 9) 1, none⟩, ⟨(some 5), .alloc 25 [(.int .i16 0), (.int .i16 0), (.int .i16 0), (.int .i16 0), (.int .i16 0), (.int .i16 0)], none⟩, ⟨none, .store 6 (.t 5) (.t 14), none⟩, ⟨(some 6), .mov (.t 15), none⟩])
  (.seq (.region [⟨(some 17), .loadN 6 (.t 2), none⟩, ⟨(some 18), .call (.k (.c (.fn 16 []))) [(.t 17)], none⟩, ⟨(some 19), .mov (.t 1), none⟩, ⟨(some 20), .call (.k (.c (.fn 32 []))) [(.t 18), (.t 19)], none⟩, ⟨(some 16), .mov (.t 20), none⟩, ⟨(some 21), .ext (.t 16) 0, none⟩, ⟨(some 22), .ext (.t 16) 1, none⟩, ⟨(some 7), .alloc 25 [(.int .i16 0), (.int .i16 0), (.int .i16 0), (.int .i16 0), (.int .i16 0), (.int .i16 0)], none⟩, ⟨none, .store 6 (.t 7) (.t 21), none⟩, ⟨(some 8), .mov (.t 22), none⟩])
  (.seq (.seq (.region [⟨(some 23), .loadN 6 (.t 7), none⟩, ⟨(some 24), .loadN 6 (.t 5), none⟩, ⟨(some 25), .call (.k (.c (.fn 22 []))) [(.t 23), (.t 24)], none⟩, ⟨(some 26), .un .not (.t 25), none⟩, ⟨(some 27), .mov (.t 26), none⟩, ⟨(some 28), .mov (.t 8), some (27, false)⟩, ⟨(some 29), .mov (.t 6), some (27, false)⟩, ⟨(some 30), .bin .neq .int (.t 28) (.t 29), some (27, false)⟩, ⟨(some 31), .pick (.t 27) (.k (.c (.bool true))) (.t 30), none⟩])
  (.cond (.t 31) (.seq (.region [⟨(some 4), .mov (.k (.c (.bool false))), none⟩])
  .ret) .skip))
  (.seq (.region [⟨(some 4), .mov (.k (.c (.bool true))), none⟩])
  .ret))))), [.tmp 4], true⟩
theorem c11 : kk 11 = some k11 := by kernel_rfl
/-- loop.example/g01263/laws.FnExactCarryUp -/
def k12 : KF := ⟨32, (.seq (.region [⟨(some 2), .box 23 (.t 0), none⟩, ⟨(some 4), .mov (.k (.c (.bool false))), none⟩])
  (.seq (.region [⟨(some 10), .loadN 6 (.t 2), none⟩, ⟨(some 11), .call (.k (.c (.fn 16 []))) [(.t 10)], none⟩, ⟨(some 12), .mov (.t 1), none⟩, ⟨(some 13), .call (.k (.c (.fn 31 []))) [(.t 11), (.t 12)], none⟩, ⟨(some 9), .mov (.t 13), none⟩, ⟨(some 14), .ext (.t 9) 0, none⟩, ⟨(some 15), .ext (.t 9) 1, none⟩, ⟨(some 5), .alloc 25 [(.int .i16 0), (.int .i16 0), (.int .i16 0), (.int .i16 0), (.int .i16 0), (.int .i16 0)], none⟩, ⟨none, .store 6 (.t 5) (.t 14), none⟩, ⟨(some 6), .mov (.t 15), none⟩])
  (.seq (.region [⟨(some 17), .loadN 6 (.t 2), none⟩, ⟨(some 18), .call (.k (.c (.fn 16 []))) [(.t 17)], none⟩, ⟨(some 19), .mov (.t 1), none⟩, ⟨(some 20), .call (.k (.c (.fn 30 []))) [(.t 18), (.t 19)], none⟩, ⟨(some 16), .mov (.t 20), none⟩, ⟨(some 21), .ext (.t 16) 0, none⟩, ⟨(some 22), .ext (.t 16) 1, none⟩, ⟨(some 7), .alloc 25 [(.int .i16 0), (.int .i16 0), (.int .i16 0), (.int .i16 0), (.int .i16 0), (.int .i16 0)], none⟩, ⟨none, .store 6 (.t 7) (.t 21), none⟩, ⟨(some 8), .mov (.t 22), none⟩])
  (.seq (.seq (.region [⟨(some 23), .loadN 6 (.t 7), none⟩, ⟨(some 24), .loadN 6 (.t 5), none⟩, ⟨(some 25), .call (.k (.c (.fn 22 []))) [(.t 23), (.t 24)], none⟩, ⟨(some 26), .un .not (.t 25), none⟩, ⟨(some 27), .mov (.t 26), none⟩, ⟨(some 28), .mov (.t 8), some (27, false)⟩, ⟨(some 29), .mov (.t 6), some (27, false)⟩, ⟨(some 30), .bin .neq .int (.t 28) (.t 29), some (27, false)⟩, ⟨(some 31), .pick (.t 27) (.k (.c (.bool true))) (.t 30), none⟩])
  (.cond (.t 31) (.seq (.region [⟨(some 4), .mov (.k (.c (.bool false))), none⟩])
  .ret) .skip))
  (.seq (.region [⟨(some 4), .mov (.k (.c (.bool true))), none⟩])
  .ret))))), [.tmp 4], true⟩
theorem c12 : kk 12 = some k12 := by kernel_rfl
/-- loop.example/g01263/laws.FnExactTakeBoard -/
def k13 : KF := ⟨43, (.seq (.region [⟨(some 2), .box 23 (.t 0), none⟩, ⟨(some 3), .box 23 (.t 1), none⟩, ⟨(some 4), .mov (.k (.c (.bool false))), none⟩])
  (.seq (.drawn [(⟨(some 12), .loadN 6 (.t 2), none⟩, []), (⟨(some 14), .loadN 6 (.t 3), none⟩, []), (⟨(some 13), .call (.k (.c (.fn 16 []))) [(.t 12)], none⟩, [⟨(some 14), .loadN 6 (.t 3), none⟩]), (⟨(some 15), .call (.k (.c (.fn 16 []))) [(.t 14)], none⟩, []), (⟨(some 16), .call (.k (.c (.fn 38 []))) [(.t 13), (.t 15)], none⟩, []), (⟨(some 11), .mov (.t 16), none⟩, []), (⟨(some 17), .ext (.t 11) 0, none⟩, []), (⟨(some 18), .ext (.t 11) 1, none⟩, []), (⟨(some 19), .ext (.t 11) 2, none⟩, []), (⟨(some 5), .alloc 25 [(.int .i16 0), (.int .i16 0), (.int .i16 0), (.int .i16 0), (.int .i16 0), (.int .i16 0)], none⟩, [⟨(some 12), .loadN 6 (.t 2), none⟩, ⟨(some 14), .loadN 6 (.t 3), none⟩]), (⟨none, .store 6 (.t 5) (.t 17), none⟩, []), (⟨(some 6), .mov (.t 18), none⟩, []), (⟨(some 7), .mov (.t 19), none⟩, [])])
  (.seq (.drawn [(⟨(some 21), .loadN 6 (.t 2), none⟩, []), (⟨(some 23), .loadN 6 (.t 3), none⟩, []), (⟨(some 22), .call (.k (.c (.fn 16 []))) [(.t 21)], none⟩, [⟨(some 23), .loadN 6 (.t 3), none⟩]), (⟨(some 24), .call (.k (.c (.fn 16 []))) [(.t 23)], none⟩, []), (⟨(some 25), .call (.k (.c (.fn 39 []))) [(.t 22), (.t 24)], none⟩, []), (⟨(some 20), .mov (.t 25), none⟩, []), (⟨(some 26), .ext (.t 20) 0, none⟩, []), (⟨(some 27), .ext (.t 20) 1, none⟩, []), (⟨(some 28), .ext (.t 20) 2, none⟩, []), (⟨(some 8), .alloc 25 [(.int .i16 0), (.int .i16 0), (.int .i16 0), (.int .i16 0), (.int .i16 0), (.int .i16 0)], none⟩, [⟨(some 21), .loadN 6 (.t 2), none⟩, ⟨(some 23), .loadN 6 (.t 3), none⟩]), (⟨none, .store 6 (.t 8) (.t 26), none⟩, []), (⟨(some 9), .mov (.t 27), none⟩, []), (⟨(some 10), .mov (.t 28), none⟩, [])])
  (.seq (.seq (.region [⟨(some 29), .loadN 6 (.t 8), none⟩, ⟨(some 30), .loadN 6 (.t 5), none⟩, ⟨(some 31), .call (.k (.c (.fn 22 []))) [(.t 29), (.t 30)], none⟩, ⟨(some 32), .un .not (.t 31), none⟩, ⟨(some 33), .mov (.t 32), none⟩, ⟨(some 34), .mov (.t 9), some (33, false)⟩, ⟨(some 35), .mov (.t 6), some (33, false)⟩, ⟨(some 36), .bin .neq .int (.t 34) (.t 35), some (33, false)⟩, ⟨(some 37), .pick (.t 33) (.k (.c (.bool true))) (.t 36), none⟩, ⟨(some 38), .mov (.t 37), none⟩, ⟨(some 39), .mov (.t 10), some (38, false)⟩, ⟨(some 40), .mov (.t 7), some (38, false)⟩, ⟨(some 41), .bin .neq .int (.t 39) (.t 40), some (38, false)⟩, ⟨(some 42), .pick (.t 38) (.k (.c (.bool true))) (.t 41), none⟩])
  (.cond (.t 42) (.seq (.region [⟨(some 4), .mov (.k (.c (.bool false))), none⟩])
  .ret) .skip))
  (.seq (.region [⟨(some 4), .mov (.k (.c (.bool true))), none⟩])
  .ret))))), [.tmp 4], true⟩
theorem c13 : kk 13 = some k13 := by kernel_rfl
/-- loop.example/g01263/laws.FnTaken -/
def k14 : KF := ⟨194, (.seq (.region [⟨(some 4), .mov (.k (.c (.bool false))), none⟩])
  (.seq (.seq (.region [⟨(some 31), .mov (.t 0), none⟩, ⟨(some 32), .mov (.t 1), none⟩, ⟨(some 33), .call (.k (.c (.fn 25 []))) [(.t 31), (.t 32)], none⟩])
  (.cond (.t 33) (.seq (.region [⟨(some 4), .mov (.k (.c (.bool true))), none⟩])
  .ret) .skip))
  (.seq (.region [⟨(some 34), .mov (.t 0), none⟩, ⟨(some 35), .call (.k (.c (.fn 26 []))) [(.t 34)], none⟩, ⟨(some 5), .alloc 25 [(.int .i16 0), (.int .i16 0), (.int .i16 0), (.int .i16 0), (.int .i16 0), (.int .i16 0)], none⟩, ⟨none, .store 6 (.t 5) (.t 35), none⟩])
  (.seq (.region [⟨(some 36), .mov (.t 1), none⟩, ⟨(some 37), .call (.k (.c (.fn 26 []))) [(.t 36)], none⟩, ⟨(some 6), .alloc 25 [(.int .i16 0), (.int .i16 0), (.int .i16 0), (.int .i16 0), (.int .i16 0), (.int .i16 0)], none⟩, ⟨none, .store 6 (.t 6) (.t 37), none⟩])
  (.seq (.region [⟨(some 39), .loadN 6 (.t 5), none⟩, ⟨(some 40), .call (.k (.c (.fn 23 []))) [(.t 39)], none⟩, ⟨(some 38), .mov (.t 40), none⟩, ⟨(some 41), .ext (.t 38) 0, none⟩, ⟨(some 42), .ext (.t 38) 1, none⟩, ⟨(some 7), .mov (.t 41), none⟩, ⟨(some 8), .mov (.t 42), none⟩])
  (.seq (.region [⟨(some 44), .loadN 6 (.t 6), none⟩, ⟨(some 45), .call (.k (.c (.fn 23 []))) [(.t 44)], none⟩, ⟨(some 43), .mov (.t 45), none⟩, ⟨(some 46), .ext (.t 43) 0, none⟩, ⟨(some 47), .ext (.t 43) 1, none⟩, ⟨(some 9), .mov (.t 46), none⟩, ⟨(some 10), .mov (.t 47), none⟩])
  (.seq (.region [⟨(some 49), .loadN 6 (.t 5), none⟩, ⟨(some 50), .loadN 6 (.t 6), none⟩, ⟨(some 51), .call (.k (.c (.fn 39 []))) [(.t 49), (.t 50)], none⟩, ⟨(some 48), .mov (.t 51), none⟩, ⟨(some 52), .ext (.t 48) 0, none⟩, ⟨(some 53), .ext (.t 48) 1, none⟩, ⟨(some 54), .ext (.t 48) 2, none⟩, ⟨(some 11), .alloc 25 [(.int .i16 0), (.int .i16 0), (.int .i16 0), (.int .i16 0), (.int .i16 0), (.int .i16 0)], none⟩, ⟨none, .store 6 (.t 11) (.t 52), none⟩, ⟨(some 12), .mov (.t 53), none⟩, ⟨(some 13), .mov (.t 54), none⟩])
  (.seq (.region [⟨(some 56), .loadN 6 (.t 5), none⟩, ⟨(some 57), .loadN 6 (.t 6), none⟩, ⟨(some 58), .call (.k (.c (.fn 38 []))) [(.t 56), (.t 57)], none⟩, ⟨(some 55), .mov (.t 58), none⟩, ⟨(some 59), .ext (.t 55) 0, none⟩, ⟨(some 60), .ext (.t 55) 1, none⟩, ⟨(some 61), .ext (.t 55) 2, none⟩, ⟨(some 14), .alloc 25 [(.int .i16 0), (.int .i16 0), (.int .i16 0), (.int .i16 0), (.int .i16 0), (.int .i16 0)], none⟩, ⟨none, .store 6 (.t 14) (.t 59), none⟩, ⟨(some 15), .mov (.t 60), none⟩, ⟨(some 16), .mov (.t 61), none⟩])
  (.seq (.seq (.region [⟨(some 62), .mov (.t 8), none⟩, ⟨(some 63), .bin .neq .int (.t 62) (.k (.c (.int .i64 0))), none⟩, ⟨(some 64), .mov (.t 63), none⟩, ⟨(some 65), .mov (.t 10), some (64, false)⟩, ⟨(some 66), .bin .neq .int (.t 65) (.k (.c (.int .i64 0))), some (64, false)⟩, ⟨(some 67), .pick (.t 64) (.k (.c (.bool true))) (.t 66), none⟩, ⟨(some 68), .mov (.t 67), none⟩, ⟨(some 69), .mov (.t 13), some (68, false)⟩, ⟨(some 70), .mov (.t 16), some (68, false)⟩, ⟨(some 71), .bin .neq .int (.t 69) (.t 70), some (68, false)⟩, ⟨(some 72), .pick (.t 68) (.k (.c (.bool true))) (.t 71), none⟩, ⟨(some 73), .mov (.t 72), none⟩, ⟨(some 74), .loadN 6 (.t 11), some (73, false)⟩, ⟨(some 75), .loadN 6 (.t 14), some (73, false)⟩, ⟨(some 76), .bin .neq (.agg [.int, .int, .int, .int, .int, .int]) (.t 74) (.t 75), some (73, false)⟩, ⟨(some 77), .pick (.t 73) (.k (.c (.bool true))) (.t 76), none⟩, ⟨(some 78), .mov (.t 77), none⟩, ⟨(some 79), .mov (.t 12), some (78, false)⟩, ⟨(some 80), .mov (.t 15), some (78, false)⟩, ⟨(some 81), .bin .neq .int (.t 79) (.t 80), some (78, false)⟩, ⟨(some 82), .pick (.t 78) (.k (.c (.bool true))) (.t 81), none⟩, ⟨(some 83), .mov (.t 82), none⟩, ⟨(some 84), .mov (.t 13), some (83, false)⟩, ⟨(some 85), .bin .eql .int (.t 84) (.k (.c (.int .i64 0))), some (83, false)⟩, ⟨(some 86), .mov (.t 7), some (83, false)⟩, ⟨(some 87), .mov (.t 9), some (83, false)⟩, ⟨(some 88), .bin .geq .int (.t 86) (.t 87), some (83, false)⟩, ⟨(some 89), .bin .neq .bool (.t 85) (.t 88), some (83, false)⟩, ⟨(some 90), .pick (.t 83) (.k (.c (.bool true))) (.t 89), none⟩])
  (.cond (.t 90) (.seq (.region [⟨(some 4), .mov (.k (.c (.bool false))), none⟩])
  .ret) .skip))
  (.seq (.seq (.region [⟨(some 91), .mov (.t 13), none⟩, ⟨(some 92), .bin .eql .int (.t 91) (.k (.c (.int .i64 0))), none⟩])
  (.cond (.t 92) (.seq (.region [⟨(some 94), .mov (.t 7), none⟩, ⟨(some 95), .mov (.t 9), none⟩, ⟨(some 96), .bin .sub .int (.t 94) (.t 95), none⟩, ⟨(some 97), .call (.k (.c (.fn 21 []))) [(.t 96)], none⟩, ⟨(some 93), .mov (.t 97), none⟩, ⟨(some 98), .ext (.t 93) 0, none⟩, ⟨(some 99), .ext (.t 93) 1, none⟩, ⟨(some 17), .alloc 25 [(.int .i16 0), (.int .i16 0), (.int .i16 0), (.int .i16 0), (.int .i16 0), (.int .i16 0)], none⟩, ⟨none, .store 6 (.t 17) (.t 98), none⟩, ⟨(some 18), .mov (.t 99), none⟩])
  (.seq (.region [⟨(some 100), .mov (.t 18), none⟩, ⟨(some 101), .bin .neq .int (.t 100) (.k (.c (.int .i64 0))), none⟩, ⟨(some 102), .mov (.t 101), none⟩, ⟨(some 103), .loadN 6 (.t 17), some (102, false)⟩, ⟨(some 104), .loadN 6 (.t 14), some (102, false)⟩, ⟨(some 105), .bin .neq (.agg [.int, .int, .int, .int, .int, .int]) (.t 103) (.t 104), some (102, false)⟩, ⟨(some 106), .pick (.t 102) (.k (.c (.bool true))) (.t 105), none⟩, ⟨(some 107), .mov (.t 106), none⟩, ⟨(some 108), .mov (.t 15), some (107, false)⟩, ⟨(some 109), .bin .lss .int (.t 108) (.k (.c (.int .i64 0))), some (107, false)⟩, ⟨(some 110), .pick (.t 107) (.k (.c (.bool true))) (.t 109), none⟩, ⟨(some 111), .mov (.t 110), none⟩, ⟨(some 112), .mov (.t 15), some (111, false)⟩, ⟨(some 113), .bin .gtr .int (.t 112) (.k (.c (.int .i64 5))), some (111, false)⟩, ⟨(some 114), .pick (.t 111) (.k (.c (.bool true))) (.t 113), none⟩])
  (.cond (.t 114) (.seq (.region [⟨(some 4), .mov (.k (.c (.bool false))), none⟩])
  .ret) .skip))) (.seq (.region [⟨(some 115), .mov (.t 13), none⟩, ⟨(some 116), .bin .neq .int (.t 115) (.k (.c (.int .i64 4))), none⟩])
  (.cond (.t 116) (.seq (.region [⟨(some 4), .mov (.k (.c (.bool false))), none⟩])
  .ret) .skip))))
  (.seq (.region [⟨(some 117), .mov (.t 1), none⟩, ⟨(some 118), .call (.k (.c (.fn 27 []))) [(.t 117), (.k (.c (.int .i64 0))), (.k (.c (.int .i64 6)))], none⟩, ⟨(some 19), .mov (.t 118), none⟩])
  (.seq (.region [⟨(some 119), .mov (.t 1), none⟩, ⟨(some 120), .call (.k (.c (.fn 27 []))) [(.t 119), (.k (.c (.int .i64 1))), (.k (.c (.int .i64 100)))], none⟩, ⟨(some 20), .mov (.t 120), none⟩])
  (.seq (.region [⟨(some 122), .loadN 6 (.t 5), none⟩, ⟨(some 123), .mov (.t 19), none⟩, ⟨(some 124), .mov (.t 20), none⟩, ⟨(some 125), .call (.k (.c (.fn 37 []))) [(.t 122), (.t 123), (.t 124)], none⟩, ⟨(some 121), .mov (.t 125), none⟩, ⟨(some 126), .ext (.t 121) 0, none⟩, ⟨(some 127), .ext (.t 121) 1, none⟩, ⟨(some 21), .alloc 25 [(.int .i16 0), (.int .i16 0), (.int .i16 0), (.int .i16 0), (.int .i16 0), (.int .i16 0)], none⟩, ⟨none, .store 6 (.t 21) (.t 126), none⟩, ⟨(some 22), .mov (.t 127), none⟩])
  (.seq (.region [⟨(some 129), .loadN 6 (.t 21), none⟩, ⟨(some 130), .mov (.t 19), none⟩, ⟨(some 131), .mov (.t 20), none⟩, ⟨(some 132), .un .neg (.t 131), none⟩, ⟨(some 133), .call (.k (.c (.fn 37 []))) [(.t 129), (.t 130), (.t 132)], none⟩, ⟨(some 128), .mov (.t 133), none⟩, ⟨(some 134), .ext (.t 128) 0, none⟩, ⟨(some 135), .ext (.t 128) 1, none⟩, ⟨(some 23), .alloc 25 [(.int .i16 0), (.int .i16 0), (.int .i16 0), (.int .i16 0), (.int .i16 0), (.int .i16 0)], none⟩, ⟨none, .store 6 (.t 23) (.t 134), none⟩, ⟨(some 24), .mov (.t 135), none⟩])
  (.seq (.region [⟨(some 137), .mov (.t 19), none⟩, ⟨(some 138), .call (.k (.c (.fn 40 []))) [(.t 137)], none⟩, ⟨(some 136), .mov (.t 138), none⟩, ⟨(some 139), .ext (.t 136) 0, none⟩, ⟨(some 140), .ext (.t 136) 1, none⟩, ⟨(some 25), .mov (.t 139), none⟩, ⟨(some 26), .mov (.t 140), none⟩])
  (.seq (.region [⟨(some 142), .loadN 6 (.t 21), none⟩, ⟨(some 143), .call (.k (.c (.fn 24 []))) [(.t 142)], none⟩, ⟨(some 141), .mov (.t 143), none⟩, ⟨(some 144), .ext (.t 141) 0, none⟩, ⟨(some 145), .ext (.t 141) 1, none⟩, ⟨(some 27), .mov (.t 144), none⟩, ⟨(some 28), .mov (.t 145), none⟩])
  (.seq (.region [⟨(some 147), .loadN 6 (.t 5), none⟩, ⟨(some 148), .mov (.t 19), none⟩, ⟨(some 149), .call (.k (.c (.fn 37 []))) [(.t 147), (.t 148), (.k (.c (.int .i64 (-1000))))], none⟩, ⟨(some 146), .mov (.t 149), none⟩, ⟨(some 150), .ext (.t 146) 0, none⟩, ⟨(some 151), .ext (.t 146) 1, none⟩, ⟨(some 29), .alloc 25 [(.int .i16 0), (.int .i16 0), (.int .i16 0), (.int .i16 0), (.int .i16 0), (.int .i16 0)], none⟩, ⟨none, .store 6 (.t 29) (.t 150), none⟩, ⟨(some 30), .mov (.t 151), none⟩])
  (.seq (.region [⟨(some 152), .mov (.t 22), none⟩, ⟨(some 153), .bin .eql .int (.t 152) (.k (.c (.int .i64 0))), none⟩, ⟨(some 154), .mov (.t 153), none⟩, ⟨(some 155), .mov (.t 24), some (154, true)⟩, ⟨(some 156), .bin .eql .int (.t 155) (.k (.c (.int .i64 0))), some (154, true)⟩, ⟨(some 157), .pick (.t 154) (.t 156) (.k (.c (.bool false))), none⟩, ⟨(some 158), .mov (.t 157), none⟩, ⟨(some 159), .loadN 6 (.t 23), some (158, true)⟩, ⟨(some 160), .loadN 6 (.t 5), some (158, true)⟩, ⟨(some 161), .bin .eql (.agg [.int, .int, .int, .int, .int, .int]) (.t 159) (.t 160), some (158, true)⟩, ⟨(some 162), .pick (.t 158) (.t 161) (.k (.c (.bool false))), none⟩, ⟨(some 163), .mov (.t 162), none⟩, ⟨(some 164), .mov (.t 26), some (163, true)⟩, ⟨(some 165), .bin .eql .int (.t 164) (.k (.c (.int .i64 0))), some (163, true)⟩, ⟨(some 166), .pick (.t 163) (.t 165) (.k (.c (.bool false))), none⟩, ⟨(some 167), .mov (.t 166), none⟩, ⟨(some 168), .mov (.t 28), some (167, true)⟩, ⟨(some 169), .bin .eql .int (.t 168) (.k (.c (.int .i64 0))), some (167, true)⟩, ⟨(some 170), .pick (.t 167) (.t 169) (.k (.c (.bool false))), none⟩, ⟨(some 171), .mov (.t 170), none⟩, ⟨(some 172), .mov (.t 27), some (171, true)⟩, ⟨(some 173), .mov (.t 7), some (171, true)⟩, ⟨(some 174), .mov (.t 20), some (171, true)⟩, ⟨(some 175), .mov (.t 25), some (171, true)⟩, ⟨(some 176), .bin .mul .int (.t 174) (.t 175), some (171, true)⟩, ⟨(some 177), .bin .add .int (.t 173) (.t 176), some (171, true)⟩, ⟨(some 178), .bin .eql .int (.t 172) (.t 177), some (171, true)⟩, ⟨(some 179), .pick (.t 171) (.t 178) (.k (.c (.bool false))), none⟩, ⟨(some 180), .mov (.t 179), none⟩, ⟨(some 181), .mov (.t 30), some (180, true)⟩, ⟨(some 182), .bin .eql .int (.t 181) (.k (.c (.int .i64 4))), some (180, true)⟩, ⟨(some 183), .mov (.t 182), some (180, true)⟩, ⟨(some 184), .mov (.t 30), some (183, false)⟩, ⟨(some 185), .bin .eql .int (.t 184) (.k (.c (.int .i64 0))), some (183, false)⟩, ⟨(some 186), .mov (.t 185), some (183, false)⟩, ⟨(some 187), .mov (.t 19), some (186, true)⟩, ⟨(some 188), .idxA 6 1 (.t 5) (.t 187), some (186, true)⟩, ⟨(some 189), .load1 (.t 188), some (186, true)⟩, ⟨(some 190), .bin .eql .int (.t 189) (.k (.c (.int .i16 1000))), some (186, true)⟩, ⟨(some 191), .pick (.t 186) (.t 190) (.k (.c (.bool false))), some (183, false)⟩, ⟨(some 192), .pick (.t 183) (.k (.c (.bool true))) (.t 191), some (180, true)⟩, ⟨(some 193), .pick (.t 180) (.t 192) (.k (.c (.bool false))), none⟩, ⟨(some 4), .mov (.t 193), none⟩])
  .ret)))))))))))))))))), [.tmp 4], true⟩
theorem c14 : kk 14 = some k14 := by kernel_rfl
/-- loop.example/g01263/spec.ValidBoard -/
def k15 : KF := ⟨5, (.seq (.region [⟨(some 1), .box 25 (.t 0), none⟩, ⟨(some 2), .mov (.k (.c (.bool false))), none⟩])
  (.seq (.region [⟨(some 3), .loadN 6 (.t 1), none⟩, ⟨(some 4), .call (.k (.c (.fn 41 []))) [(.t 3)], none⟩, ⟨(some 2), .mov (.t 4), none⟩])
  .ret)), [.tmp 2], true⟩
theorem c15 : kk 15 = some k15 := by kernel_rfl
/-- loop.example/g01263/laws.toBoard -/
def k16 : KF := ⟨15, (.seq (.region [⟨(some 1), .box 23 (.t 0), none⟩, ⟨(some 2), .alloc 25 [(.int .i16 0), (.int .i16 0), (.int .i16 0), (.int .i16 0), (.int .i16 0), (.int .i16 0)], none⟩])
  (.seq (.region [⟨(some 3), .alloc 25 [(.int .i16 0), (.int .i16 0), (.int .i16 0), (.int .i16 0), (.int .i16 0), (.int .i16 0)], none⟩])
  (.seq (.seq (.region [⟨(some 4), .mov (.k (.c (.int .i64 0))), none⟩])
  (.block 0 (.loop (.seq (.seq (.region [⟨(some 5), .mov (.t 4), none⟩, ⟨(some 6), .bin .lss .int (.t 5) (.k (.c (.int .i64 6))), none⟩])
  (.cond (.t 6) .skip (.exit 0)))
  (.seq (.block 1 (.region [⟨(some 9), .mov (.t 4), none⟩, ⟨(some 10), .mov (.t 4), none⟩, ⟨(some 11), .idxA 6 1 (.t 1) (.t 10), none⟩, ⟨(some 12), .load1 (.t 11), none⟩, ⟨(some 13), .idxA 6 1 (.t 3) (.t 9), none⟩, ⟨none, .store 1 (.t 13) (.t 12), none⟩]))
  (.region [⟨(some 7), .mov (.t 4), none⟩, ⟨(some 8), .bin .add .int (.t 7) (.k (.c (.int .i64 1))), none⟩, ⟨(some 4), .mov (.t 8), none⟩]))))))
  (.seq (.region [⟨(some 14), .loadN 6 (.t 3), none⟩, ⟨none, .store 6 (.t 2) (.t 14), none⟩])
  .ret)))), [.cellN 2 6], true⟩
theorem c16 : kk 16 = some k16 := by kernel_rfl
/-- loop.example/g01263/impl.ValidBoard -/
def k17 : KF := ⟨16, (.seq (.region [⟨(some 1), .box 25 (.t 0), none⟩, ⟨(some 2), .mov (.k (.c (.bool false))), none⟩])
  (.seq (.seq (.region [⟨(some 5), .loadN 6 (.t 1), none⟩, ⟨(some 6), .mov (.k (.c (.int .i64 0))), none⟩])
  (.block 0 (.loop (.seq (.region [⟨(some 7), .bin .lss .int (.t 6) (.k (.c (.int .i64 6))), none⟩])
  (.seq (.cond (.t 7) .skip (.exit 0))
  (.seq (.block 1 (.seq (.region [⟨(some 8), .idx1 6 (.t 5) (.t 6), none⟩, ⟨(some 4), .mov (.t 8), none⟩])
  (.seq (.region [⟨(some 9), .mov (.t 4), none⟩, ⟨(some 10), .bin .lss .int (.t 9) (.k (.c (.int .i16 0))), none⟩, ⟨(some 11), .mov (.t 10), none⟩, ⟨(some 12), .mov (.t 4), some (11, false)⟩, ⟨(some 13), .bin .gtr .int (.t 12) (.k (.c (.int .i16 1000))), some (11, false)⟩, ⟨(some 14), .pick (.t 11) (.k (.c (.bool true))) (.t 13), none⟩])
  (.cond (.t 14) (.seq (.region [⟨(some 2), .mov (.k (.c (.bool false))), none⟩])
  .ret) .skip))))
  (.region [⟨(some 15), .bin .add .int (.t 6) (.k (.c (.int .i64 1))), none⟩, ⟨(some 6), .mov (.t 15), none⟩])))))))
  (.seq (.region [⟨(some 2), .mov (.k (.c (.bool true))), none⟩])
  .ret))), [.tmp 2], true⟩
theorem c17 : kk 17 = some k17 := by kernel_rfl
/-- loop.example/g01263/spec.CountersOn -/
def k18 : KF := ⟨20, (.seq (.region [⟨(some 1), .box 25 (.t 0), none⟩, ⟨(some 2), .mov (.k (.c (.int .i64 0))), none⟩, ⟨(some 3), .mov (.k (.c (.int .i64 0))), none⟩])
  (.seq (.seq (.region [⟨(some 6), .loadN 6 (.t 1), none⟩, ⟨(some 7), .call (.k (.c (.fn 41 []))) [(.t 6)], none⟩, ⟨(some 8), .un .not (.t 7), none⟩])
  (.cond (.t 8) (.seq (.region [⟨(some 2), .mov (.k (.c (.int .i64 0))), none⟩, ⟨(some 3), .mov (.k (.c (.int .i64 1))), none⟩])
  .ret) .skip))
  (.seq (.region [⟨(some 4), .mov (.k (.c (.int .i64 0))), none⟩])
  (.seq (.seq (.region [⟨(some 5), .mov (.k (.c (.int .i64 0))), none⟩])
  (.block 0 (.loop (.seq (.seq (.region [⟨(some 9), .mov (.t 5), none⟩, ⟨(some 10), .bin .lss .int (.t 9) (.k (.c (.int .i64 6))), none⟩])
  (.cond (.t 10) .skip (.exit 0)))
  (.seq (.block 1 (.region [⟨(some 13), .mov (.t 4), none⟩, ⟨(some 14), .mov (.t 5), none⟩, ⟨(some 15), .idxA 6 1 (.t 1) (.t 14), none⟩, ⟨(some 16), .load1 (.t 15), none⟩, ⟨(some 17), .conv .i64 (.t 16), none⟩, ⟨(some 18), .bin .add .int (.t 13) (.t 17), none⟩, ⟨(some 4), .mov (.t 18), none⟩]))
  (.region [⟨(some 11), .mov (.t 5), none⟩, ⟨(some 12), .bin .add .int (.t 11) (.k (.c (.int .i64 1))), none⟩, ⟨(some 5), .mov (.t 12), none⟩]))))))
  (.seq (.region [⟨(some 19), .mov (.t 4), none⟩, ⟨(some 2), .mov (.t 19), none⟩, ⟨(some 3), .mov (.k (.c (.int .i64 0))), none⟩])
  .ret))))), [.tmp 2, .tmp 3], true⟩
theorem c18 : kk 18 = some k18 := by kernel_rfl
/-- loop.example/g01263/impl.CountersOn -/
def k19 : KF := ⟨20, (.seq (.region [⟨(some 1), .box 25 (.t 0), none⟩, ⟨(some 2), .mov (.k (.c (.int .i64 0))), none⟩, ⟨(some 3), .mov (.k (.c (.int .i64 0))), none⟩])
  (.seq (.seq (.region [⟨(some 7), .loadN 6 (.t 1), none⟩, ⟨(some 8), .call (.k (.c (.fn 17 []))) [(.t 7)], none⟩, ⟨(some 9), .un .not (.t 8), none⟩])
  (.cond (.t 9) (.seq (.region [⟨(some 2), .mov (.k (.c (.int .i64 0))), none⟩, ⟨(some 3), .mov (.k (.c (.int .i64 1))), none⟩])
  .ret) .skip))
  (.seq (.region [⟨(some 4), .mov (.k (.c (.int .i64 0))), none⟩])
  (.seq (.seq (.region [⟨(some 10), .loadN 6 (.t 1), none⟩, ⟨(some 11), .mov (.k (.c (.int .i64 0))), none⟩])
  (.block 0 (.loop (.seq (.region [⟨(some 12), .bin .lss .int (.t 11) (.k (.c (.int .i64 6))), none⟩])
  (.seq (.cond (.t 12) .skip (.exit 0))
  (.seq (.block 1 (.seq (.region [⟨(some 13), .idx1 6 (.t 10) (.t 11), none⟩, ⟨(some 6), .mov (.t 13), none⟩])
  (.region [⟨(some 14), .mov (.t 4), none⟩, ⟨(some 15), .mov (.t 6), none⟩, ⟨(some 16), .conv .i64 (.t 15), none⟩, ⟨(some 17), .bin .add .int (.t 14) (.t 16), none⟩, ⟨(some 4), .mov (.t 17), none⟩])))
  (.region [⟨(some 18), .bin .add .int (.t 11) (.k (.c (.int .i64 1))), none⟩, ⟨(some 11), .mov (.t 18), none⟩])))))))
  (.seq (.region [⟨(some 19), .mov (.t 4), none⟩, ⟨(some 2), .mov (.t 19), none⟩, ⟨(some 3), .mov (.k (.c (.int .i64 0))), none⟩])
  .ret))))), [.tmp 2, .tmp 3], true⟩
theorem c19 : kk 19 = some k19 := by kernel_rfl
/-- loop.example/g01263/spec.BoardFor -/
def k20 : KF := ⟨31, (.seq (.region [⟨(some 2), .alloc 25 [(.int .i16 0), (.int .i16 0), (.int .i16 0), (.int .i16 0), (.int .i16 0), (.int .i16 0)], none⟩, ⟨(some 3), .mov (.k (.c (.int .i64 0))), none⟩])
  (.seq (.seq (.region [⟨(some 6), .mov (.t 0), none⟩, ⟨(some 7), .call (.k (.c (.fn 42 []))) [(.t 6)], none⟩, ⟨(some 8), .un .not (.t 7), none⟩])
  (.cond (.t 8) (.seq (.region [⟨(some 9), .build [(.int .i16 0), (.int .i16 0), (.int .i16 0), (.int .i16 0), (.int .i16 0), (.int .i16 0)] [], none⟩, ⟨none, .store 6 (.t 2) (.t 9), none⟩, ⟨(some 3), .mov (.k (.c (.int .i64 2))), none⟩])
  .ret) .skip))
  (.seq (.region [⟨(some 10), .build [(.int .i16 0), (.int .i16 0), (.int .i16 0), (.int .i16 0), (.int .i16 0), (.int .i16 0)] [], none⟩, ⟨(some 4), .alloc 25 [(.int .i16 0), (.int .i16 0), (.int .i16 0), (.int .i16 0), (.int .i16 0), (.int .i16 0)], none⟩, ⟨none, .store 6 (.t 4) (.t 10), none⟩])
  (.seq (.seq (.region [⟨(some 5), .mov (.k (.c (.int .i64 5))), none⟩])
  (.block 0 (.loop (.seq (.seq (.region [⟨(some 11), .mov (.t 5), none⟩, ⟨(some 12), .bin .geq .int (.t 11) (.k (.c (.int .i64 0))), none⟩])
  (.cond (.t 12) .skip (.exit 0)))
  (.seq (.block 1 (.seq (.region [⟨(some 15), .mov (.t 5), none⟩, ⟨(some 16), .mov (.t 0), none⟩, ⟨(some 17), .call (.k (.c (.fn 43 []))) [], none⟩, ⟨(some 18), .mov (.t 5), none⟩, ⟨(some 19), .idxS 1 (.t 17) (.t 18), none⟩, ⟨(some 20), .load1 (.t 19), none⟩, ⟨(some 21), .bin .quo .int (.t 16) (.t 20), none⟩, ⟨(some 22), .conv .i16 (.t 21), none⟩, ⟨(some 23), .idxA 6 1 (.t 4) (.t 15), none⟩, ⟨none, .store 1 (.t 23) (.t 22), none⟩])
  (.region [⟨(some 24), .mov (.t 0), none⟩, ⟨(some 25), .call (.k (.c (.fn 43 []))) [], none⟩, ⟨(some 26), .mov (.t 5), none⟩, ⟨(some 27), .idxS 1 (.t 25) (.t 26), none⟩, ⟨(some 28), .load1 (.t 27), none⟩, ⟨(some 29), .bin .rem .int (.t 24) (.t 28), none⟩, ⟨(some 0), .mov (.t 29), none⟩])))
  (.region [⟨(some 13), .mov (.t 5), none⟩, ⟨(some 14), .bin .sub .int (.t 13) (.k (.c (.int .i64 1))), none⟩, ⟨(some 5), .mov (.t 14), none⟩]))))))
  (.seq (.region [⟨(some 30), .loadN 6 (.t 4), none⟩, ⟨none, .store 6 (.t 2) (.t 30), none⟩, ⟨(some 3), .mov (.k (.c (.int .i64 0))), none⟩])
  .ret))))), [.cellN 2 6, .tmp 3], true⟩
theorem c20 : kk 20 = some k20 := by kernel_rfl
/-- loop.example/g01263/impl.BoardFor -/
def k21 : KF := ⟨29, (.seq (.region [⟨(some 2), .alloc 25 [(.int .i16 0), (.int .i16 0), (.int .i16 0), (.int .i16 0), (.int .i16 0), (.int .i16 0)], none⟩, ⟨(some 3), .mov (.k (.c (.int .i64 0))), none⟩])
  (.seq (.seq (.region [⟨(some 6), .mov (.t 0), none⟩, ⟨(some 7), .call (.k (.c (.fn 44 []))) [(.t 6)], none⟩, ⟨(some 8), .un .not (.t 7), none⟩])
  (.cond (.t 8) (.seq (.region [⟨(some 9), .build [(.int .i16 0), (.int .i16 0), (.int .i16 0), (.int .i16 0), (.int .i16 0), (.int .i16 0)] [], none⟩, ⟨none, .store 6 (.t 2) (.t 9), none⟩, ⟨(some 3), .mov (.k (.c (.int .i64 2))), none⟩])
  .ret) .skip))
  (.seq (.region [⟨(some 10), .build [(.int .i64 0), (.int .i64 0), (.int .i64 0), (.int .i64 0), (.int .i64 0), (.int .i64 0)] [], none⟩, ⟨(some 4), .alloc 51 [(.int .i64 0), (.int .i64 0), (.int .i64 0), (.int .i64 0), (.int .i64 0), (.int .i64 0)], none⟩, ⟨none, .store 6 (.t 4) (.t 10), none⟩])
  (.seq (.seq (.region [⟨(some 5), .mov (.k (.c (.int .i64 5))), none⟩])
  (.block 0 (.loop (.seq (.seq (.region [⟨(some 11), .mov (.t 5), none⟩, ⟨(some 12), .bin .geq .int (.t 11) (.k (.c (.int .i64 0))), none⟩])
  (.cond (.t 12) .skip (.exit 0)))
  (.seq (.block 1 (.seq (.region [⟨(some 15), .mov (.t 5), none⟩, ⟨(some 16), .mov (.t 0), none⟩, ⟨(some 17), .mov (.t 5), none⟩, ⟨(some 18), .call (.k (.c (.fn 45 []))) [(.t 17)], none⟩, ⟨(some 19), .bin .quo .int (.t 16) (.t 18), none⟩, ⟨(some 20), .idxA 6 1 (.t 4) (.t 15), none⟩, ⟨none, .store 1 (.t 20) (.t 19), none⟩])
  (.region [⟨(some 21), .mov (.t 0), none⟩, ⟨(some 22), .mov (.t 5), none⟩, ⟨(some 23), .call (.k (.c (.fn 45 []))) [(.t 22)], none⟩, ⟨(some 24), .bin .rem .int (.t 21) (.t 23), none⟩, ⟨(some 0), .mov (.t 24), none⟩])))
  (.region [⟨(some 13), .mov (.t 5), none⟩, ⟨(some 14), .bin .sub .int (.t 13) (.k (.c (.int .i64 1))), none⟩, ⟨(some 5), .mov (.t 14), none⟩]))))))
  (.seq (.region [⟨(some 25), .loadN 6 (.t 4), none⟩, ⟨(some 26), .call (.k (.c (.fn 46 []))) [(.t 25)], none⟩, ⟨(some 27), .ext (.t 26) 0, none⟩, ⟨(some 28), .ext (.t 26) 1, none⟩, ⟨none, .store 6 (.t 2) (.t 27), none⟩, ⟨(some 3), .mov (.t 28), none⟩])
  .ret))))), [.cellN 2 6, .tmp 3], true⟩
theorem c21 : kk 21 = some k21 := by kernel_rfl
/-- loop.example/g01263/laws.eqBoard -/
def k22 : KF := ⟨17, (.seq (.region [⟨(some 2), .box 25 (.t 0), none⟩, ⟨(some 3), .box 25 (.t 1), none⟩, ⟨(some 4), .mov (.k (.c (.bool false))), none⟩])
  (.seq (.seq (.region [⟨(some 5), .mov (.k (.c (.int .i64 0))), none⟩])
  (.block 0 (.loop (.seq (.seq (.region [⟨(some 6), .mov (.t 5), none⟩, ⟨(some 7), .bin .lss .int (.t 6) (.k (.c (.int .i64 6))), none⟩])
  (.cond (.t 7) .skip (.exit 0)))
  (.seq (.block 1 (.seq (.drawn [(⟨(some 10), .mov (.t 5), none⟩, []), (⟨(some 11), .idxA 6 1 (.t 2) (.t 10), none⟩, []), (⟨(some 12), .load1 (.t 11), none⟩, []), (⟨(some 13), .mov (.t 5), none⟩, []), (⟨(some 14), .idxA 6 1 (.t 3) (.t 13), none⟩, []), (⟨(some 15), .load1 (.t 14), none⟩, []), (⟨(some 16), .bin .neq .int (.t 12) (.t 15), none⟩, [])])
  (.cond (.t 16) (.seq (.region [⟨(some 4), .mov (.k (.c (.bool false))), none⟩])
  .ret) .skip)))
  (.region [⟨(some 8), .mov (.t 5), none⟩, ⟨(some 9), .bin .add .int (.t 8) (.k (.c (.int .i64 1))), none⟩, ⟨(some 5), .mov (.t 9), none⟩]))))))
  (.seq (.region [⟨(some 4), .mov (.k (.c (.bool true))), none⟩])
  .ret))), [.tmp 4], true⟩
theorem c22 : kk 22 = some k22 := by kernel_rfl
/-- loop.example/g01263/spec.AmountOnBoard -/
def k23 : KF := ⟨9, (.seq (.region [⟨(some 1), .box 25 (.t 0), none⟩, ⟨(some 2), .mov (.k (.c (.int .i64 0))), none⟩, ⟨(some 3), .mov (.k (.c (.int .i64 0))), none⟩])
  (.seq (.seq (.region [⟨(some 4), .loadN 6 (.t 1), none⟩, ⟨(some 5), .call (.k (.c (.fn 41 []))) [(.t 4)], none⟩, ⟨(some 6), .un .not (.t 5), none⟩])
  (.cond (.t 6) (.seq (.region [⟨(some 2), .mov (.k (.c (.int .i64 0))), none⟩, ⟨(some 3), .mov (.k (.c (.int .i64 1))), none⟩])
  .ret) .skip))
  (.seq (.region [⟨(some 7), .loadN 6 (.t 1), none⟩, ⟨(some 8), .call (.k (.c (.fn 47 []))) [(.t 7)], none⟩, ⟨(some 2), .mov (.t 8), none⟩, ⟨(some 3), .mov (.k (.c (.int .i64 0))), none⟩])
  .ret))), [.tmp 2, .tmp 3], true⟩
theorem c23 : kk 23 = some k23 := by kernel_rfl
/-- loop.example/g01263/impl.AmountOnBoard -/
def k24 : KF := ⟨10, (.seq (.region [⟨(some 1), .box 25 (.t 0), none⟩, ⟨(some 2), .mov (.k (.c (.int .i64 0))), none⟩, ⟨(some 3), .mov (.k (.c (.int .i64 0))), none⟩])
  (.seq (.seq (.region [⟨(some 4), .loadN 6 (.t 1), none⟩, ⟨(some 5), .call (.k (.c (.fn 17 []))) [(.t 4)], none⟩, ⟨(some 6), .un .not (.t 5), none⟩])
  (.cond (.t 6) (.seq (.region [⟨(some 2), .mov (.k (.c (.int .i64 0))), none⟩, ⟨(some 3), .mov (.k (.c (.int .i64 1))), none⟩])
  .ret) .skip))
  (.seq (.region [⟨(some 7), .loadN 6 (.t 1), none⟩, ⟨(some 8), .call (.k (.c (.fn 48 []))) [(.t 7)], none⟩, ⟨(some 9), .call (.k (.c (.fn 49 []))) [(.t 8)], none⟩, ⟨(some 2), .mov (.t 9), none⟩, ⟨(some 3), .mov (.k (.c (.int .i64 0))), none⟩])
  .ret))), [.tmp 2, .tmp 3], true⟩
theorem c24 : kk 24 = some k24 := by kernel_rfl
/-- loop.example/g01263/laws.a2Long -/
def k25 : KF := ⟨13, (.seq (.region [⟨(some 4), .mov (.k (.c (.bool false))), none⟩])
  (.seq (.region [⟨(some 5), .mov (.t 0), none⟩, ⟨(some 6), .len false (.t 5), none⟩, ⟨(some 7), .bin .gtr .int (.t 6) (.k (.c (.int .i64 3000))), none⟩, ⟨(some 8), .mov (.t 7), none⟩, ⟨(some 9), .mov (.t 1), some (8, false)⟩, ⟨(some 10), .len false (.t 9), some (8, false)⟩, ⟨(some 11), .bin .gtr .int (.t 10) (.k (.c (.int .i64 3000))), some (8, false)⟩, ⟨(some 12), .pick (.t 8) (.k (.c (.bool true))) (.t 11), none⟩, ⟨(some 4), .mov (.t 12), none⟩])
  .ret)), [.tmp 4], true⟩
theorem c25 : kk 25 = some k25 := by kernel_rfl
/-- loop.example/g01263/spec.A2Board -/
def k26 : KF := ⟨19, (.seq (.region [⟨(some 2), .alloc 25 [(.int .i16 0), (.int .i16 0), (.int .i16 0), (.int .i16 0), (.int .i16 0), (.int .i16 0)], none⟩])
  (.seq (.region [⟨(some 6), .mov (.t 0), none⟩, ⟨(some 7), .call (.k (.c (.fn 50 []))) [(.t 6)], none⟩, ⟨(some 3), .mov (.t 7), none⟩])
  (.seq (.region [⟨(some 8), .build [(.int .i16 0), (.int .i16 0), (.int .i16 0), (.int .i16 0), (.int .i16 0), (.int .i16 0)] [], none⟩, ⟨(some 4), .alloc 25 [(.int .i16 0), (.int .i16 0), (.int .i16 0), (.int .i16 0), (.int .i16 0), (.int .i16 0)], none⟩, ⟨none, .store 6 (.t 4) (.t 8), none⟩])
  (.seq (.seq (.region [⟨(some 5), .mov (.k (.c (.int .i64 0))), none⟩])
  (.block 0 (.loop (.seq (.seq (.region [⟨(some 9), .mov (.t 5), none⟩, ⟨(some 10), .bin .lss .int (.t 9) (.k (.c (.int .i64 6))), none⟩])
  (.cond (.t 10) .skip (.exit 0)))
  (.seq (.block 1 (.region [⟨(some 13), .mov (.t 5), none⟩, ⟨(some 14), .mov (.t 3), none⟩, ⟨(some 15), .call (.k (.c (.fn 51 []))) [(.t 14), (.k (.c (.int .i64 40)))], none⟩, ⟨(some 16), .conv .i16 (.t 15), none⟩, ⟨(some 17), .idxA 6 1 (.t 4) (.t 13), none⟩, ⟨none, .store 1 (.t 17) (.t 16), none⟩]))
  (.region [⟨(some 11), .mov (.t 5), none⟩, ⟨(some 12), .bin .add .int (.t 11) (.k (.c (.int .i64 1))), none⟩, ⟨(some 5), .mov (.t 12), none⟩]))))))
  (.seq (.region [⟨(some 18), .loadN 6 (.t 4), none⟩, ⟨none, .store 6 (.t 2) (.t 18), none⟩])
  .ret))))), [.cellN 2 6], true⟩
theorem c26 : kk 26 = some k26 := by kernel_rfl
/-- loop.example/g01263/laws.a2At -/
def k27 : KF := ⟨22, (.seq (.region [⟨(some 6), .mov (.k (.c (.int .i64 0))), none⟩])
  (.seq (.seq (.region [⟨(some 7), .mov (.t 1), none⟩, ⟨(some 8), .mov (.t 0), none⟩, ⟨(some 9), .len false (.t 8), none⟩, ⟨(some 10), .bin .geq .int (.t 7) (.t 9), none⟩, ⟨(some 11), .mov (.t 10), none⟩, ⟨(some 12), .mov (.t 2), some (11, false)⟩, ⟨(some 13), .bin .lss .int (.t 12) (.k (.c (.int .i64 1))), some (11, false)⟩, ⟨(some 14), .pick (.t 11) (.k (.c (.bool true))) (.t 13), none⟩])
  (.cond (.t 14) (.seq (.region [⟨(some 6), .mov (.k (.c (.int .i64 0))), none⟩])
  .ret) .skip))
  (.seq (.region [⟨(some 15), .mov (.t 0), none⟩, ⟨(some 16), .mov (.t 1), none⟩, ⟨(some 17), .idxS 1 (.t 15) (.t 16), none⟩, ⟨(some 18), .load1 (.t 17), none⟩, ⟨(some 19), .conv .i64 (.t 18), none⟩, ⟨(some 20), .mov (.t 2), none⟩, ⟨(some 21), .bin .rem .int (.t 19) (.t 20), none⟩, ⟨(some 6), .mov (.t 21), none⟩])
  .ret))), [.tmp 6], true⟩
theorem c27 : kk 27 = some k27 := by kernel_rfl
/-- loop.example/g01263/impl.TidyBoard -/
def k28 : KF := ⟨27, (.seq (.region [⟨(some 1), .box 25 (.t 0), none⟩, ⟨(some 2), .alloc 25 [(.int .i16 0), (.int .i16 0), (.int .i16 0), (.int .i16 0), (.int .i16 0), (.int .i16 0)], none⟩, ⟨(some 3), .mov (.k (.c (.int .i64 0))), none⟩, ⟨(some 4), .mov (.k (.c (.int .i64 0))), none⟩])
  (.seq (.seq (.region [⟨(some 9), .loadN 6 (.t 1), none⟩, ⟨(some 10), .call (.k (.c (.fn 17 []))) [(.t 9)], none⟩, ⟨(some 11), .un .not (.t 10), none⟩])
  (.cond (.t 11) (.seq (.region [⟨(some 12), .build [(.int .i16 0), (.int .i16 0), (.int .i16 0), (.int .i16 0), (.int .i16 0), (.int .i16 0)] [], none⟩, ⟨none, .store 6 (.t 2) (.t 12), none⟩, ⟨(some 3), .mov (.k (.c (.int .i64 0))), none⟩, ⟨(some 4), .mov (.k (.c (.int .i64 1))), none⟩])
  .ret) .skip))
  (.seq (.region [⟨(some 13), .loadN 6 (.t 1), none⟩, ⟨(some 14), .call (.k (.c (.fn 48 []))) [(.t 13)], none⟩, ⟨(some 5), .alloc 51 [(.int .i64 0), (.int .i64 0), (.int .i64 0), (.int .i64 0), (.int .i64 0), (.int .i64 0)], none⟩, ⟨none, .store 6 (.t 5) (.t 14), none⟩])
  (.seq (.region [⟨(some 15), .call (.k (.c (.fn 52 []))) [(.t 5)], none⟩, ⟨(some 6), .mov (.t 15), none⟩])
  (.seq (.region [⟨(some 17), .loadN 6 (.t 5), none⟩, ⟨(some 18), .call (.k (.c (.fn 46 []))) [(.t 17)], none⟩, ⟨(some 16), .mov (.t 18), none⟩, ⟨(some 19), .ext (.t 16) 0, none⟩, ⟨(some 20), .ext (.t 16) 1, none⟩, ⟨(some 7), .alloc 25 [(.int .i16 0), (.int .i16 0), (.int .i16 0), (.int .i16 0), (.int .i16 0), (.int .i16 0)], none⟩, ⟨none, .store 6 (.t 7) (.t 19), none⟩, ⟨(some 8), .mov (.t 20), none⟩])
  (.seq (.seq (.region [⟨(some 21), .mov (.t 8), none⟩, ⟨(some 22), .bin .neq .int (.t 21) (.k (.c (.int .i64 0))), none⟩])
  (.cond (.t 22) (.seq (.region [⟨(some 23), .build [(.int .i16 0), (.int .i16 0), (.int .i16 0), (.int .i16 0), (.int .i16 0), (.int .i16 0)] [], none⟩, ⟨(some 24), .mov (.t 8), none⟩, ⟨none, .store 6 (.t 2) (.t 23), none⟩, ⟨(some 3), .mov (.k (.c (.int .i64 0))), none⟩, ⟨(some 4), .mov (.t 24), none⟩])
  .ret) .skip))
  (.seq (.region [⟨(some 25), .loadN 6 (.t 7), none⟩, ⟨(some 26), .mov (.t 6), none⟩, ⟨none, .store 6 (.t 2) (.t 25), none⟩, ⟨(some 3), .mov (.t 26), none⟩, ⟨(some 4), .mov (.k (.c (.int .i64 0))), none⟩])
  .ret))))))), [.cellN 2 6, .tmp 3, .tmp 4], true⟩
theorem c28 : kk 28 = some k28 := by kernel_rfl
/-- loop.example/g01263/spec.TidyBoard -/
def k29 : KF := ⟨22, (.seq (.region [⟨(some 1), .box 25 (.t 0), none⟩, ⟨(some 2), .alloc 25 [(.int .i16 0), (.int .i16 0), (.int .i16 0), (.int .i16 0), (.int .i16 0), (.int .i16 0)], none⟩, ⟨(some 3), .mov (.k (.c (.int .i64 0))), none⟩, ⟨(some 4), .mov (.k (.c (.int .i64 0))), none⟩])
  (.seq (.seq (.region [⟨(some 7), .loadN 6 (.t 1), none⟩, ⟨(some 8), .call (.k (.c (.fn 41 []))) [(.t 7)], none⟩, ⟨(some 9), .un .not (.t 8), none⟩])
  (.cond (.t 9) (.seq (.region [⟨(some 10), .build [(.int .i16 0), (.int .i16 0), (.int .i16 0), (.int .i16 0), (.int .i16 0), (.int .i16 0)] [], none⟩, ⟨none, .store 6 (.t 2) (.t 10), none⟩, ⟨(some 3), .mov (.k (.c (.int .i64 0))), none⟩, ⟨(some 4), .mov (.k (.c (.int .i64 1))), none⟩])
  .ret) .skip))
  (.seq (.region [⟨(some 12), .loadN 6 (.t 1), none⟩, ⟨(some 13), .call (.k (.c (.fn 53 []))) [(.t 12)], none⟩, ⟨(some 11), .mov (.t 13), none⟩, ⟨(some 14), .ext (.t 11) 0, none⟩, ⟨(some 15), .ext (.t 11) 1, none⟩, ⟨(some 5), .alloc 25 [(.int .i16 0), (.int .i16 0), (.int .i16 0), (.int .i16 0), (.int .i16 0), (.int .i16 0)], none⟩, ⟨none, .store 6 (.t 5) (.t 14), none⟩, ⟨(some 6), .mov (.t 15), none⟩])
  (.seq (.seq (.region [⟨(some 16), .loadN 6 (.t 5), none⟩, ⟨(some 17), .call (.k (.c (.fn 41 []))) [(.t 16)], none⟩, ⟨(some 18), .un .not (.t 17), none⟩])
  (.cond (.t 18) (.seq (.region [⟨(some 19), .build [(.int .i16 0), (.int .i16 0), (.int .i16 0), (.int .i16 0), (.int .i16 0), (.int .i16 0)] [], none⟩, ⟨none, .store 6 (.t 2) (.t 19), none⟩, ⟨(some 3), .mov (.k (.c (.int .i64 0))), none⟩, ⟨(some 4), .mov (.k (.c (.int .i64 3))), none⟩])
  .ret) .skip))
  (.seq (.region [⟨(some 20), .loadN 6 (.t 5), none⟩, ⟨(some 21), .mov (.t 6), none⟩, ⟨none, .store 6 (.t 2) (.t 20), none⟩, ⟨(some 3), .mov (.t 21), none⟩, ⟨(some 4), .mov (.k (.c (.int .i64 0))), none⟩])
  .ret))))), [.cellN 2 6, .tmp 3, .tmp 4], true⟩
theorem c29 : kk 29 = some k29 := by kernel_rfl
/-- loop.example/g01263/impl.CarryUp -/
def k30 : KF := ⟨45, (.seq (.region [⟨(some 2), .box 25 (.t 0), none⟩, ⟨(some 4), .alloc 25 [(.int .i16 0), (.int .i16 0), (.int .i16 0), (.int .i16 0), (.int .i16 0), (.int .i16 0)], none⟩, ⟨(some 5), .mov (.k (.c (.int .i64 0))), none⟩])
  (.seq (.block 0 (.seq (.region [⟨(some 8), .loadN 6 (.t 2), none⟩, ⟨(some 9), .call (.k (.c (.fn 17 []))) [(.t 8)], none⟩, ⟨(some 10), .un .not (.t 9), none⟩, ⟨(some 7), .mov (.t 10), none⟩])
  (.cond (.t 7) (.seq (.region [⟨(some 11), .build [(.int .i16 0), (.int .i16 0), (.int .i16 0), (.int .i16 0), (.int .i16 0), (.int .i16 0)] [], none⟩, ⟨none, .store 6 (.t 4) (.t 11), none⟩, ⟨(some 5), .mov (.k (.c (.int .i64 1))), none⟩])
  .ret) (.seq (.region [⟨(some 13), .mov (.t 1), none⟩, ⟨(some 14), .call (.k (.c (.fn 54 []))) [(.t 13)], none⟩, ⟨(some 15), .un .not (.t 14), none⟩, ⟨(some 16), .mov (.t 15), none⟩, ⟨(some 17), .mov (.t 1), some (16, false)⟩, ⟨(some 18), .bin .eql .int (.t 17) (.k (.c (.int .i64 5))), some (16, false)⟩, ⟨(some 19), .pick (.t 16) (.k (.c (.bool true))) (.t 18), none⟩, ⟨(some 12), .mov (.t 19), none⟩])
  (.cond (.t 12) (.seq (.region [⟨(some 20), .build [(.int .i16 0), (.int .i16 0), (.int .i16 0), (.int .i16 0), (.int .i16 0), (.int .i16 0)] [], none⟩, ⟨none, .store 6 (.t 4) (.t 20), none⟩, ⟨(some 5), .mov (.k (.c (.int .i64 2))), none⟩])
  .ret) .skip)))))
  (.seq (.region [⟨(some 21), .loadN 6 (.t 2), none⟩, ⟨(some 22), .call (.k (.c (.fn 48 []))) [(.t 21)], none⟩, ⟨(some 6), .alloc 51 [(.int .i64 0), (.int .i64 0), (.int .i64 0), (.int .i64 0), (.int .i64 0), (.int .i64 0)], none⟩, ⟨none, .store 6 (.t 6) (.t 22), none⟩])
  (.seq (.drawn [(⟨(some 23), .mov (.t 1), none⟩, []), (⟨(some 24), .idxA 6 1 (.t 6) (.t 23), none⟩, []), (⟨(some 25), .load1 (.t 24), none⟩, []), (⟨(some 26), .mov (.t 1), none⟩, []), (⟨(some 27), .call (.k (.c (.fn 55 []))) [(.t 26)], none⟩, [⟨(some 25), .load1 (.t 24), none⟩]), (⟨(some 28), .bin .sub .int (.t 25) (.t 27), none⟩, []), (⟨(some 29), .idxA 6 1 (.t 6) (.t 23), none⟩, []), (⟨none, .store 1 (.t 29) (.t 28), none⟩, [])])
  (.seq (.region [⟨(some 30), .mov (.t 1), none⟩, ⟨(some 31), .bin .add .int (.t 30) (.k (.c (.int .i64 1))), none⟩, ⟨(some 32), .idxA 6 1 (.t 6) (.t 31), none⟩, ⟨(some 33), .load1 (.t 32), none⟩, ⟨(some 34), .bin .add .int (.t 33) (.k (.c (.int .i64 1))), none⟩, ⟨(some 35), .idxA 6 1 (.t 6) (.t 31), none⟩, ⟨none, .store 1 (.t 35) (.t 34), none⟩])
  (.seq (.seq (.region [⟨(some 36), .mov (.t 1), none⟩, ⟨(some 37), .idxA 6 1 (.t 6) (.t 36), none⟩, ⟨(some 38), .load1 (.t 37), none⟩, ⟨(some 39), .bin .lss .int (.t 38) (.k (.c (.int .i64 0))), none⟩])
  (.cond (.t 39) (.seq (.region [⟨(some 40), .build [(.int .i16 0), (.int .i16 0), (.int .i16 0), (.int .i16 0), (.int .i16 0), (.int .i16 0)] [], none⟩, ⟨none, .store 6 (.t 4) (.t 40), none⟩, ⟨(some 5), .mov (.k (.c (.int .i64 4))), none⟩])
  .ret) .skip))
  (.seq (.region [⟨(some 41), .loadN 6 (.t 6), none⟩, ⟨(some 42), .call (.k (.c (.fn 46 []))) [(.t 41)], none⟩, ⟨(some 43), .ext (.t 42) 0, none⟩, ⟨(some 44), .ext (.t 42) 1, none⟩, ⟨none, .store 6 (.t 4) (.t 43), none⟩, ⟨(some 5), .mov (.t 44), none⟩])
  .ret))))))), [.cellN 4 6, .tmp 5], true⟩
theorem c30 : kk 30 = some k30 := by kernel_rfl
/-- loop.example/g01263/spec.CarryUp -/
def k31 : KF := ⟨38, (.seq (.region [⟨(some 2), .box 25 (.t 0), none⟩, ⟨(some 4), .alloc 25 [(.int .i16 0), (.int .i16 0), (.int .i16 0), (.int .i16 0), (.int .i16 0), (.int .i16 0)], none⟩, ⟨(some 5), .mov (.k (.c (.int .i64 0))), none⟩])
  (.seq (.seq (.region [⟨(some 7), .loadN 6 (.t 2), none⟩, ⟨(some 8), .mov (.t 1), none⟩, ⟨(some 9), .call (.k (.c (.fn 56 []))) [(.t 7), (.t 8)], none⟩, ⟨(some 6), .mov (.t 9), none⟩])
  (.seq (.region [⟨(some 10), .mov (.t 6), none⟩, ⟨(some 11), .bin .neq .int (.t 10) (.k (.c (.int .i64 0))), none⟩])
  (.cond (.t 11) (.seq (.region [⟨(some 12), .build [(.int .i16 0), (.int .i16 0), (.int .i16 0), (.int .i16 0), (.int .i16 0), (.int .i16 0)] [], none⟩, ⟨(some 13), .mov (.t 6), none⟩, ⟨none, .store 6 (.t 4) (.t 12), none⟩, ⟨(some 5), .mov (.t 13), none⟩])
  .ret) .skip)))
  (.seq (.seq (.drawn [(⟨(some 14), .mov (.t 1), none⟩, []), (⟨(some 15), .idxA 6 1 (.t 2) (.t 14), none⟩, []), (⟨(some 16), .load1 (.t 15), none⟩, []), (⟨(some 17), .mov (.t 1), none⟩, []), (⟨(some 18), .call (.k (.c (.fn 57 []))) [(.t 17)], none⟩, [⟨(some 16), .load1 (.t 15), none⟩]), (⟨(some 19), .bin .lss .int (.t 16) (.t 18), none⟩, [])])
  (.cond (.t 19) (.seq (.region [⟨(some 20), .build [(.int .i16 0), (.int .i16 0), (.int .i16 0), (.int .i16 0), (.int .i16 0), (.int .i16 0)] [], none⟩, ⟨none, .store 6 (.t 4) (.t 20), none⟩, ⟨(some 5), .mov (.k (.c (.int .i64 4))), none⟩])
  .ret) .skip))
  (.seq (.drawn [(⟨(some 21), .mov (.t 1), none⟩, []), (⟨(some 22), .idxA 6 1 (.t 2) (.t 21), none⟩, []), (⟨(some 23), .load1 (.t 22), none⟩, []), (⟨(some 24), .mov (.t 1), none⟩, []), (⟨(some 25), .call (.k (.c (.fn 57 []))) [(.t 24)], none⟩, [⟨(some 23), .load1 (.t 22), none⟩]), (⟨(some 26), .bin .sub .int (.t 23) (.t 25), none⟩, []), (⟨(some 27), .idxA 6 1 (.t 2) (.t 21), none⟩, []), (⟨none, .store 1 (.t 27) (.t 26), none⟩, [])])
  (.seq (.region [⟨(some 28), .mov (.t 1), none⟩, ⟨(some 29), .bin .add .int (.t 28) (.k (.c (.int .i64 1))), none⟩, ⟨(some 30), .idxA 6 1 (.t 2) (.t 29), none⟩, ⟨(some 31), .load1 (.t 30), none⟩, ⟨(some 32), .bin .add .int (.t 31) (.k (.c (.int .i16 1))), none⟩, ⟨(some 33), .idxA 6 1 (.t 2) (.t 29), none⟩, ⟨none, .store 1 (.t 33) (.t 32), none⟩])
  (.seq (.region [⟨(some 34), .loadN 6 (.t 2), none⟩, ⟨(some 35), .call (.k (.c (.fn 58 []))) [(.t 34)], none⟩, ⟨(some 36), .ext (.t 35) 0, none⟩, ⟨(some 37), .ext (.t 35) 1, none⟩, ⟨none, .store 6 (.t 4) (.t 36), none⟩, ⟨(some 5), .mov (.t 37), none⟩])
  .ret)))))), [.cellN 4 6, .tmp 5], true⟩
theorem c31 : kk 31 = some k31 := by kernel_rfl
/-- loop.example/g01263/impl.BorrowDown -/
def k32 : KF := ⟨46, (.seq (.region [⟨(some 2), .box 25 (.t 0), none⟩, ⟨(some 4), .alloc 25 [(.int .i16 0), (.int .i16 0), (.int .i16 0), (.int .i16 0), (.int .i16 0), (.int .i16 0)], none⟩, ⟨(some 5), .mov (.k (.c (.int .i64 0))), none⟩])
  (.seq (.block 0 (.seq (.region [⟨(some 8), .loadN 6 (.t 2), none⟩, ⟨(some 9), .call (.k (.c (.fn 17 []))) [(.t 8)], none⟩, ⟨(some 10), .un .not (.t 9), none⟩, ⟨(some 7), .mov (.t 10), none⟩])
  (.cond (.t 7) (.seq (.region [⟨(some 11), .build [(.int .i16 0), (.int .i16 0), (.int .i16 0), (.int .i16 0), (.int .i16 0), (.int .i16 0)] [], none⟩, ⟨none, .store 6 (.t 4) (.t 11), none⟩, ⟨(some 5), .mov (.k (.c (.int .i64 1))), none⟩])
  .ret) (.seq (.region [⟨(some 13), .mov (.t 1), none⟩, ⟨(some 14), .call (.k (.c (.fn 54 []))) [(.t 13)], none⟩, ⟨(some 15), .un .not (.t 14), none⟩, ⟨(some 16), .mov (.t 15), none⟩, ⟨(some 17), .mov (.t 1), some (16, false)⟩, ⟨(some 18), .bin .eql .int (.t 17) (.k (.c (.int .i64 5))), some (16, false)⟩, ⟨(some 19), .pick (.t 16) (.k (.c (.bool true))) (.t 18), none⟩, ⟨(some 12), .mov (.t 19), none⟩])
  (.cond (.t 12) (.seq (.region [⟨(some 20), .build [(.int .i16 0), (.int .i16 0), (.int .i16 0), (.int .i16 0), (.int .i16 0), (.int .i16 0)] [], none⟩, ⟨none, .store 6 (.t 4) (.t 20), none⟩, ⟨(some 5), .mov (.k (.c (.int .i64 2))), none⟩])
  .ret) .skip)))))
  (.seq (.region [⟨(some 21), .loadN 6 (.t 2), none⟩, ⟨(some 22), .call (.k (.c (.fn 48 []))) [(.t 21)], none⟩, ⟨(some 6), .alloc 51 [(.int .i64 0), (.int .i64 0), (.int .i64 0), (.int .i64 0), (.int .i64 0), (.int .i64 0)], none⟩, ⟨none, .store 6 (.t 6) (.t 22), none⟩])
  (.seq (.drawn [(⟨(some 23), .mov (.t 1), none⟩, []), (⟨(some 24), .idxA 6 1 (.t 6) (.t 23), none⟩, []), (⟨(some 25), .load1 (.t 24), none⟩, []), (⟨(some 26), .mov (.t 1), none⟩, []), (⟨(some 27), .call (.k (.c (.fn 55 []))) [(.t 26)], none⟩, [⟨(some 25), .load1 (.t 24), none⟩]), (⟨(some 28), .bin .add .int (.t 25) (.t 27), none⟩, []), (⟨(some 29), .idxA 6 1 (.t 6) (.t 23), none⟩, []), (⟨none, .store 1 (.t 29) (.t 28), none⟩, [])])
  (.seq (.region [⟨(some 30), .mov (.t 1), none⟩, ⟨(some 31), .bin .add .int (.t 30) (.k (.c (.int .i64 1))), none⟩, ⟨(some 32), .idxA 6 1 (.t 6) (.t 31), none⟩, ⟨(some 33), .load1 (.t 32), none⟩, ⟨(some 34), .bin .sub .int (.t 33) (.k (.c (.int .i64 1))), none⟩, ⟨(some 35), .idxA 6 1 (.t 6) (.t 31), none⟩, ⟨none, .store 1 (.t 35) (.t 34), none⟩])
  (.seq (.seq (.region [⟨(some 36), .mov (.t 1), none⟩, ⟨(some 37), .bin .add .int (.t 36) (.k (.c (.int .i64 1))), none⟩, ⟨(some 38), .idxA 6 1 (.t 6) (.t 37), none⟩, ⟨(some 39), .load1 (.t 38), none⟩, ⟨(some 40), .bin .lss .int (.t 39) (.k (.c (.int .i64 0))), none⟩])
  (.cond (.t 40) (.seq (.region [⟨(some 41), .build [(.int .i16 0), (.int .i16 0), (.int .i16 0), (.int .i16 0), (.int .i16 0), (.int .i16 0)] [], none⟩, ⟨none, .store 6 (.t 4) (.t 41), none⟩, ⟨(some 5), .mov (.k (.c (.int .i64 4))), none⟩])
  .ret) .skip))
  (.seq (.region [⟨(some 42), .loadN 6 (.t 6), none⟩, ⟨(some 43), .call (.k (.c (.fn 46 []))) [(.t 42)], none⟩, ⟨(some 44), .ext (.t 43) 0, none⟩, ⟨(some 45), .ext (.t 43) 1, none⟩, ⟨none, .store 6 (.t 4) (.t 44), none⟩, ⟨(some 5), .mov (.t 45), none⟩])
  .ret))))))), [.cellN 4 6, .tmp 5], true⟩
theorem c32 : kk 32 = some k32 := by kernel_rfl
/-- loop.example/g01263/spec.BorrowDown -/
def k33 : KF := ⟨37, (.seq (.region [⟨(some 2), .box 25 (.t 0), none⟩, ⟨(some 4), .alloc 25 [(.int .i16 0), (.int .i16 0), (.int .i16 0), (.int .i16 0), (.int .i16 0), (.int .i16 0)], none⟩, ⟨(some 5), .mov (.k (.c (.int .i64 0))), none⟩])
  (.seq (.seq (.region [⟨(some 7), .loadN 6 (.t 2), none⟩, ⟨(some 8), .mov (.t 1), none⟩, ⟨(some 9), .call (.k (.c (.fn 56 []))) [(.t 7), (.t 8)], none⟩, ⟨(some 6), .mov (.t 9), none⟩])
  (.seq (.region [⟨(some 10), .mov (.t 6), none⟩, ⟨(some 11), .bin .neq .int (.t 10) (.k (.c (.int .i64 0))), none⟩])
  (.cond (.t 11) (.seq (.region [⟨(some 12), .build [(.int .i16 0), (.int .i16 0), (.int .i16 0), (.int .i16 0), (.int .i16 0), (.int .i16 0)] [], none⟩, ⟨(some 13), .mov (.t 6), none⟩, ⟨none, .store 6 (.t 4) (.t 12), none⟩, ⟨(some 5), .mov (.t 13), none⟩])
  .ret) .skip)))
  (.seq (.seq (.region [⟨(some 14), .mov (.t 1), none⟩, ⟨(some 15), .bin .add .int (.t 14) (.k (.c (.int .i64 1))), none⟩, ⟨(some 16), .idxA 6 1 (.t 2) (.t 15), none⟩, ⟨(some 17), .load1 (.t 16), none⟩, ⟨(some 18), .bin .eql .int (.t 17) (.k (.c (.int .i16 0))), none⟩])
  (.cond (.t 18) (.seq (.region [⟨(some 19), .build [(.int .i16 0), (.int .i16 0), (.int .i16 0), (.int .i16 0), (.int .i16 0), (.int .i16 0)] [], none⟩, ⟨none, .store 6 (.t 4) (.t 19), none⟩, ⟨(some 5), .mov (.k (.c (.int .i64 4))), none⟩])
  .ret) .skip))
  (.seq (.region [⟨(some 20), .mov (.t 1), none⟩, ⟨(some 21), .bin .add .int (.t 20) (.k (.c (.int .i64 1))), none⟩, ⟨(some 22), .idxA 6 1 (.t 2) (.t 21), none⟩, ⟨(some 23), .load1 (.t 22), none⟩, ⟨(some 24), .bin .sub .int (.t 23) (.k (.c (.int .i16 1))), none⟩, ⟨(some 25), .idxA 6 1 (.t 2) (.t 21), none⟩, ⟨none, .store 1 (.t 25) (.t 24), none⟩])
  (.seq (.drawn [(⟨(some 26), .mov (.t 1), none⟩, []), (⟨(some 27), .idxA 6 1 (.t 2) (.t 26), none⟩, []), (⟨(some 28), .load1 (.t 27), none⟩, []), (⟨(some 29), .mov (.t 1), none⟩, []), (⟨(some 30), .call (.k (.c (.fn 57 []))) [(.t 29)], none⟩, [⟨(some 28), .load1 (.t 27), none⟩]), (⟨(some 31), .bin .add .int (.t 28) (.t 30), none⟩, []), (⟨(some 32), .idxA 6 1 (.t 2) (.t 26), none⟩, []), (⟨none, .store 1 (.t 32) (.t 31), none⟩, [])])
  (.seq (.region [⟨(some 33), .loadN 6 (.t 2), none⟩, ⟨(some 34), .call (.k (.c (.fn 58 []))) [(.t 33)], none⟩, ⟨(some 35), .ext (.t 34) 0, none⟩, ⟨(some 36), .ext (.t 34) 1, none⟩, ⟨none, .store 6 (.t 4) (.t 35), none⟩, ⟨(some 5), .mov (.t 36), none⟩])
  .ret)))))), [.cellN 4 6, .tmp 5], true⟩
theorem c33 : kk 33 = some k33 := by kernel_rfl
/-- loop.example/g01263/impl.JoinBoards -/
def k34 : KF := ⟨37, (.seq (.region [⟨(some 2), .box 25 (.t 0), none⟩, ⟨(some 3), .box 25 (.t 1), none⟩, ⟨(some 4), .alloc 25 [(.int .i16 0), (.int .i16 0), (.int .i16 0), (.int .i16 0), (.int .i16 0), (.int .i16 0)], none⟩, ⟨(some 5), .mov (.k (.c (.int .i64 0))), none⟩])
  (.seq (.seq (.region [⟨(some 9), .loadN 6 (.t 2), none⟩, ⟨(some 10), .call (.k (.c (.fn 17 []))) [(.t 9)], none⟩, ⟨(some 11), .un .not (.t 10), none⟩, ⟨(some 12), .mov (.t 11), none⟩, ⟨(some 13), .loadN 6 (.t 3), some (12, false)⟩, ⟨(some 14), .call (.k (.c (.fn 17 []))) [(.t 13)], some (12, false)⟩, ⟨(some 15), .un .not (.t 14), some (12, false)⟩, ⟨(some 16), .pick (.t 12) (.k (.c (.bool true))) (.t 15), none⟩])
  (.cond (.t 16) (.seq (.region [⟨(some 17), .build [(.int .i16 0), (.int .i16 0), (.int .i16 0), (.int .i16 0), (.int .i16 0), (.int .i16 0)] [], none⟩, ⟨none, .store 6 (.t 4) (.t 17), none⟩, ⟨(some 5), .mov (.k (.c (.int .i64 1))), none⟩])
  .ret) .skip))
  (.seq (.region [⟨(some 18), .loadN 6 (.t 2), none⟩, ⟨(some 19), .call (.k (.c (.fn 48 []))) [(.t 18)], none⟩, ⟨(some 6), .alloc 51 [(.int .i64 0), (.int .i64 0), (.int .i64 0), (.int .i64 0), (.int .i64 0), (.int .i64 0)], none⟩, ⟨none, .store 6 (.t 6) (.t 19), none⟩])
  (.seq (.seq (.region [⟨(some 20), .loadN 6 (.t 3), none⟩, ⟨(some 21), .mov (.k (.c (.int .i64 0))), none⟩])
  (.block 0 (.loop (.seq (.region [⟨(some 22), .bin .lss .int (.t 21) (.k (.c (.int .i64 6))), none⟩])
  (.seq (.cond (.t 22) .skip (.exit 0))
  (.seq (.block 1 (.seq (.region [⟨(some 23), .mov (.t 21), none⟩, ⟨(some 24), .idx1 6 (.t 20) (.t 21), none⟩, ⟨(some 7), .mov (.t 23), none⟩, ⟨(some 8), .mov (.t 24), none⟩])
  (.region [⟨(some 25), .mov (.t 7), none⟩, ⟨(some 26), .idxA 6 1 (.t 6) (.t 25), none⟩, ⟨(some 27), .load1 (.t 26), none⟩, ⟨(some 28), .mov (.t 8), none⟩, ⟨(some 29), .conv .i64 (.t 28), none⟩, ⟨(some 30), .bin .add .int (.t 27) (.t 29), none⟩, ⟨(some 31), .idxA 6 1 (.t 6) (.t 25), none⟩, ⟨none, .store 1 (.t 31) (.t 30), none⟩])))
  (.region [⟨(some 32), .bin .add .int (.t 21) (.k (.c (.int .i64 1))), none⟩, ⟨(some 21), .mov (.t 32), none⟩])))))))
  (.seq (.region [⟨(some 33), .loadN 6 (.t 6), none⟩, ⟨(some 34), .call (.k (.c (.fn 46 []))) [(.t 33)], none⟩, ⟨(some 35), .ext (.t 34) 0, none⟩, ⟨(some 36), .ext (.t 34) 1, none⟩, ⟨none, .store 6 (.t 4) (.t 35), none⟩, ⟨(some 5), .mov (.t 36), none⟩])
  .ret))))), [.cellN 4 6, .tmp 5], true⟩
theorem c34 : kk 34 = some k34 := by kernel_rfl
/-- loop.example/g01263/spec.JoinBoards -/
def k35 : KF := ⟨32, (.seq (.region [⟨(some 2), .box 25 (.t 0), none⟩, ⟨(some 3), .box 25 (.t 1), none⟩, ⟨(some 4), .alloc 25 [(.int .i16 0), (.int .i16 0), (.int .i16 0), (.int .i16 0), (.int .i16 0), (.int .i16 0)], none⟩, ⟨(some 5), .mov (.k (.c (.int .i64 0))), none⟩])
  (.seq (.seq (.region [⟨(some 7), .loadN 6 (.t 2), none⟩, ⟨(some 8), .call (.k (.c (.fn 41 []))) [(.t 7)], none⟩, ⟨(some 9), .un .not (.t 8), none⟩, ⟨(some 10), .mov (.t 9), none⟩, ⟨(some 11), .loadN 6 (.t 3), some (10, false)⟩, ⟨(some 12), .call (.k (.c (.fn 41 []))) [(.t 11)], some (10, false)⟩, ⟨(some 13), .un .not (.t 12), some (10, false)⟩, ⟨(some 14), .pick (.t 10) (.k (.c (.bool true))) (.t 13), none⟩])
  (.cond (.t 14) (.seq (.region [⟨(some 15), .build [(.int .i16 0), (.int .i16 0), (.int .i16 0), (.int .i16 0), (.int .i16 0), (.int .i16 0)] [], none⟩, ⟨none, .store 6 (.t 4) (.t 15), none⟩, ⟨(some 5), .mov (.k (.c (.int .i64 1))), none⟩])
  .ret) .skip))
  (.seq (.seq (.region [⟨(some 6), .mov (.k (.c (.int .i64 0))), none⟩])
  (.block 0 (.loop (.seq (.seq (.region [⟨(some 16), .mov (.t 6), none⟩, ⟨(some 17), .bin .lss .int (.t 16) (.k (.c (.int .i64 6))), none⟩])
  (.cond (.t 17) .skip (.exit 0)))
  (.seq (.block 1 (.drawn [(⟨(some 20), .mov (.t 6), none⟩, []), (⟨(some 21), .idxA 6 1 (.t 2) (.t 20), none⟩, []), (⟨(some 22), .load1 (.t 21), none⟩, []), (⟨(some 23), .mov (.t 6), none⟩, []), (⟨(some 24), .idxA 6 1 (.t 3) (.t 23), none⟩, []), (⟨(some 25), .load1 (.t 24), none⟩, []), (⟨(some 26), .bin .add .int (.t 22) (.t 25), none⟩, []), (⟨(some 27), .idxA 6 1 (.t 2) (.t 20), none⟩, []), (⟨none, .store 1 (.t 27) (.t 26), none⟩, [])]))
  (.region [⟨(some 18), .mov (.t 6), none⟩, ⟨(some 19), .bin .add .int (.t 18) (.k (.c (.int .i64 1))), none⟩, ⟨(some 6), .mov (.t 19), none⟩]))))))
  (.seq (.region [⟨(some 28), .loadN 6 (.t 2), none⟩, ⟨(some 29), .call (.k (.c (.fn 58 []))) [(.t 28)], none⟩, ⟨(some 30), .ext (.t 29) 0, none⟩, ⟨(some 31), .ext (.t 29) 1, none⟩, ⟨none, .store 6 (.t 4) (.t 30), none⟩, ⟨(some 5), .mov (.t 31), none⟩])
  .ret)))), [.cellN 4 6, .tmp 5], true⟩
theorem c35 : kk 35 = some k35 := by kernel_rfl
/-- loop.example/g01263/spec.PutCounters -/
def k36 : KF := ⟨37, (.seq (.region [⟨(some 3), .box 25 (.t 0), none⟩, ⟨(some 6), .alloc 25 [(.int .i16 0), (.int .i16 0), (.int .i16 0), (.int .i16 0), (.int .i16 0), (.int .i16 0)], none⟩, ⟨(some 7), .mov (.k (.c (.int .i64 0))), none⟩])
  (.seq (.seq (.region [⟨(some 8), .loadN 6 (.t 3), none⟩, ⟨(some 9), .call (.k (.c (.fn 41 []))) [(.t 8)], none⟩, ⟨(some 10), .un .not (.t 9), none⟩])
  (.cond (.t 10) (.seq (.region [⟨(some 11), .build [(.int .i16 0), (.int .i16 0), (.int .i16 0), (.int .i16 0), (.int .i16 0), (.int .i16 0)] [], none⟩, ⟨none, .store 6 (.t 6) (.t 11), none⟩, ⟨(some 7), .mov (.k (.c (.int .i64 1))), none⟩])
  .ret) .skip))
  (.seq (.seq (.region [⟨(some 12), .mov (.t 1), none⟩, ⟨(some 13), .call (.k (.c (.fn 59 []))) [(.t 12)], none⟩, ⟨(some 14), .un .not (.t 13), none⟩, ⟨(some 15), .mov (.t 14), none⟩, ⟨(some 16), .mov (.t 2), some (15, false)⟩, ⟨(some 17), .call (.k (.c (.fn 60 []))) [(.t 16), (.k (.c (.int .i64 (-1000)))), (.k (.c (.int .i64 1000)))], some (15, false)⟩, ⟨(some 18), .un .not (.t 17), some (15, false)⟩, ⟨(some 19), .pick (.t 15) (.k (.c (.bool true))) (.t 18), none⟩])
  (.cond (.t 19) (.seq (.region [⟨(some 20), .build [(.int .i16 0), (.int .i16 0), (.int .i16 0), (.int .i16 0), (.int .i16 0), (.int .i16 0)] [], none⟩, ⟨none, .store 6 (.t 6) (.t 20), none⟩, ⟨(some 7), .mov (.k (.c (.int .i64 2))), none⟩])
  .ret) .skip))
  (.seq (.region [⟨(some 21), .mov (.t 1), none⟩, ⟨(some 22), .idxA 6 1 (.t 3) (.t 21), none⟩, ⟨(some 23), .load1 (.t 22), none⟩, ⟨(some 24), .mov (.t 2), none⟩, ⟨(some 25), .conv .i16 (.t 24), none⟩, ⟨(some 26), .bin .add .int (.t 23) (.t 25), none⟩, ⟨(some 27), .idxA 6 1 (.t 3) (.t 21), none⟩, ⟨none, .store 1 (.t 27) (.t 26), none⟩])
  (.seq (.seq (.region [⟨(some 28), .mov (.t 1), none⟩, ⟨(some 29), .idxA 6 1 (.t 3) (.t 28), none⟩, ⟨(some 30), .load1 (.t 29), none⟩, ⟨(some 31), .bin .lss .int (.t 30) (.k (.c (.int .i16 0))), none⟩])
  (.cond (.t 31) (.seq (.region [⟨(some 32), .build [(.int .i16 0), (.int .i16 0), (.int .i16 0), (.int .i16 0), (.int .i16 0), (.int .i16 0)] [], none⟩, ⟨none, .store 6 (.t 6) (.t 32), none⟩, ⟨(some 7), .mov (.k (.c (.int .i64 4))), none⟩])
  .ret) .skip))
  (.seq (.region [⟨(some 33), .loadN 6 (.t 3), none⟩, ⟨(some 34), .call (.k (.c (.fn 58 []))) [(.t 33)], none⟩, ⟨(some 35), .ext (.t 34) 0, none⟩, ⟨(some 36), .ext (.t 34) 1, none⟩, ⟨none, .store 6 (.t 6) (.t 35), none⟩, ⟨(some 7), .mov (.t 36), none⟩])
  .ret)))))), [.cellN 6 6, .tmp 7], true⟩
theorem c36 : kk 36 = some k36 := by kernel_rfl
/-- loop.example/g01263/impl.PutCounters -/
def k37 : KF := ⟨44, (.seq (.region [⟨(some 3), .box 25 (.t 0), none⟩, ⟨(some 6), .alloc 25 [(.int .i16 0), (.int .i16 0), (.int .i16 0), (.int .i16 0), (.int .i16 0), (.int .i16 0)], none⟩, ⟨(some 7), .mov (.k (.c (.int .i64 0))), none⟩])
  (.seq (.block 0 (.seq (.region [⟨(some 10), .loadN 6 (.t 3), none⟩, ⟨(some 11), .call (.k (.c (.fn 17 []))) [(.t 10)], none⟩, ⟨(some 12), .un .not (.t 11), none⟩, ⟨(some 9), .mov (.t 12), none⟩])
  (.cond (.t 9) (.seq (.region [⟨(some 13), .build [(.int .i16 0), (.int .i16 0), (.int .i16 0), (.int .i16 0), (.int .i16 0), (.int .i16 0)] [], none⟩, ⟨none, .store 6 (.t 6) (.t 13), none⟩, ⟨(some 7), .mov (.k (.c (.int .i64 1))), none⟩])
  .ret) (.seq (.region [⟨(some 15), .mov (.t 1), none⟩, ⟨(some 16), .call (.k (.c (.fn 54 []))) [(.t 15)], none⟩, ⟨(some 17), .un .not (.t 16), none⟩, ⟨(some 18), .mov (.t 17), none⟩, ⟨(some 19), .mov (.t 2), some (18, false)⟩, ⟨(some 20), .bin .lss .int (.t 19) (.k (.c (.int .i64 (-1000)))), some (18, false)⟩, ⟨(some 21), .pick (.t 18) (.k (.c (.bool true))) (.t 20), none⟩, ⟨(some 22), .mov (.t 21), none⟩, ⟨(some 23), .mov (.t 2), some (22, false)⟩, ⟨(some 24), .bin .gtr .int (.t 23) (.k (.c (.int .i64 1000))), some (22, false)⟩, ⟨(some 25), .pick (.t 22) (.k (.c (.bool true))) (.t 24), none⟩, ⟨(some 14), .mov (.t 25), none⟩])
  (.cond (.t 14) (.seq (.region [⟨(some 26), .build [(.int .i16 0), (.int .i16 0), (.int .i16 0), (.int .i16 0), (.int .i16 0), (.int .i16 0)] [], none⟩, ⟨none, .store 6 (.t 6) (.t 26), none⟩, ⟨(some 7), .mov (.k (.c (.int .i64 2))), none⟩])
  .ret) .skip)))))
  (.seq (.region [⟨(some 27), .loadN 6 (.t 3), none⟩, ⟨(some 28), .call (.k (.c (.fn 48 []))) [(.t 27)], none⟩, ⟨(some 8), .alloc 51 [(.int .i64 0), (.int .i64 0), (.int .i64 0), (.int .i64 0), (.int .i64 0), (.int .i64 0)], none⟩, ⟨none, .store 6 (.t 8) (.t 28), none⟩])
  (.seq (.region [⟨(some 29), .mov (.t 1), none⟩, ⟨(some 30), .idxA 6 1 (.t 8) (.t 29), none⟩, ⟨(some 31), .load1 (.t 30), none⟩, ⟨(some 32), .mov (.t 2), none⟩, ⟨(some 33), .bin .add .int (.t 31) (.t 32), none⟩, ⟨(some 34), .idxA 6 1 (.t 8) (.t 29), none⟩, ⟨none, .store 1 (.t 34) (.t 33), none⟩])
  (.seq (.seq (.region [⟨(some 35), .mov (.t 1), none⟩, ⟨(some 36), .idxA 6 1 (.t 8) (.t 35), none⟩, ⟨(some 37), .load1 (.t 36), none⟩, ⟨(some 38), .bin .lss .int (.t 37) (.k (.c (.int .i64 0))), none⟩])
  (.cond (.t 38) (.seq (.region [⟨(some 39), .build [(.int .i16 0), (.int .i16 0), (.int .i16 0), (.int .i16 0), (.int .i16 0), (.int .i16 0)] [], none⟩, ⟨none, .store 6 (.t 6) (.t 39), none⟩, ⟨(some 7), .mov (.k (.c (.int .i64 4))), none⟩])
  .ret) .skip))
  (.seq (.region [⟨(some 40), .loadN 6 (.t 8), none⟩, ⟨(some 41), .call (.k (.c (.fn 46 []))) [(.t 40)], none⟩, ⟨(some 42), .ext (.t 41) 0, none⟩, ⟨(some 43), .ext (.t 41) 1, none⟩, ⟨none, .store 6 (.t 6) (.t 42), none⟩, ⟨(some 7), .mov (.t 43), none⟩])
  .ret)))))), [.cellN 6 6, .tmp 7], true⟩
theorem c37 : kk 37 = some k37 := by kernel_rfl
/-- loop.example/g01263/spec.TakeBoard -/
def l38_0 : KC := (.seq (.seq (.region [⟨(some 47), .mov (.t 12), none⟩, ⟨(some 48), .bin .lss .int (.t 47) (.k (.c (.int .i64 6))), none⟩])
  (.cond (.t 48) .skip (.exit 0)))
  (.seq (.block 1 (.seq (.seq (.drawn [(⟨(some 51), .mov (.t 12), none⟩, []), (⟨(some 52), .idxA 6 1 (.t 7) (.t 51), none⟩, []), (⟨(some 53), .load1 (.t 52), none⟩, []), (⟨(some 54), .mov (.t 12), none⟩, []), (⟨(some 55), .idxA 6 1 (.t 9) (.t 54), none⟩, []), (⟨(some 56), .load1 (.t 55), none⟩, []), (⟨(some 57), .bin .lss .int (.t 53) (.t 56), none⟩, [])])
  (.cond (.t 57) (.region [⟨(some 58), .mov (.t 12), none⟩, ⟨(some 59), .call (.k (.c (.fn 61 []))) [(.t 7), (.t 58), (.t 11)], none⟩]) .skip))
  (.drawn [(⟨(some 60), .mov (.t 12), none⟩, []), (⟨(some 61), .idxA 6 1 (.t 7) (.t 60), none⟩, []), (⟨(some 62), .load1 (.t 61), none⟩, []), (⟨(some 63), .mov (.t 12), none⟩, []), (⟨(some 64), .idxA 6 1 (.t 9) (.t 63), none⟩, []), (⟨(some 65), .load1 (.t 64), none⟩, []), (⟨(some 66), .bin .sub .int (.t 62) (.t 65), none⟩, []), (⟨(some 67), .idxA 6 1 (.t 7) (.t 60), none⟩, []), (⟨none, .store 1 (.t 67) (.t 66), none⟩, [])])))
  (.region [⟨(some 49), .mov (.t 12), none⟩, ⟨(some 50), .bin .add .int (.t 49) (.k (.c (.int .i64 1))), none⟩, ⟨(some 12), .mov (.t 50), none⟩])))
def k38 : KF := ⟨70, (.seq (.region [⟨(some 2), .box 25 (.t 0), none⟩, ⟨(some 3), .box 25 (.t 1), none⟩, ⟨(some 4), .alloc 25 [(.int .i16 0), (.int .i16 0), (.int .i16 0), (.int .i16 0), (.int .i16 0), (.int .i16 0)], none⟩, ⟨(some 5), .mov (.k (.c (.int .i64 0))), none⟩, ⟨(some 6), .mov (.k (.c (.int .i64 0))), none⟩])
  (.seq (.seq (.region [⟨(some 13), .loadN 6 (.t 2), none⟩, ⟨(some 14), .call (.k (.c (.fn 41 []))) [(.t 13)], none⟩, ⟨(some 15), .un .not (.t 14), none⟩, ⟨(some 16), .mov (.t 15), none⟩, ⟨(some 17), .loadN 6 (.t 3), some (16, false)⟩, ⟨(some 18), .call (.k (.c (.fn 41 []))) [(.t 17)], some (16, false)⟩, ⟨(some 19), .un .not (.t 18), some (16, false)⟩, ⟨(some 20), .pick (.t 16) (.k (.c (.bool true))) (.t 19), none⟩])
  (.cond (.t 20) (.seq (.region [⟨(some 21), .build [(.int .i16 0), (.int .i16 0), (.int .i16 0), (.int .i16 0), (.int .i16 0), (.int .i16 0)] [], none⟩, ⟨none, .store 6 (.t 4) (.t 21), none⟩, ⟨(some 5), .mov (.k (.c (.int .i64 0))), none⟩, ⟨(some 6), .mov (.k (.c (.int .i64 1))), none⟩])
  .ret) .skip))
  (.seq (.seq (.drawn [(⟨(some 22), .loadN 6 (.t 2), none⟩, []), (⟨(some 24), .loadN 6 (.t 3), none⟩, []), (⟨(some 23), .call (.k (.c (.fn 47 []))) [(.t 22)], none⟩, [⟨(some 24), .loadN 6 (.t 3), none⟩]), (⟨(some 25), .call (.k (.c (.fn 47 []))) [(.t 24)], none⟩, []), (⟨(some 26), .bin .lss .int (.t 23) (.t 25), none⟩, [])])
  (.cond (.t 26) (.seq (.region [⟨(some 27), .build [(.int .i16 0), (.int .i16 0), (.int .i16 0), (.int .i16 0), (.int .i16 0), (.int .i16 0)] [], none⟩, ⟨none, .store 6 (.t 4) (.t 27), none⟩, ⟨(some 5), .mov (.k (.c (.int .i64 0))), none⟩, ⟨(some 6), .mov (.k (.c (.int .i64 4))), none⟩])
  .ret) .skip))
  (.seq (.region [⟨(some 29), .loadN 6 (.t 2), none⟩, ⟨(some 30), .call (.k (.c (.fn 53 []))) [(.t 29)], none⟩, ⟨(some 28), .mov (.t 30), none⟩, ⟨(some 31), .ext (.t 28) 0, none⟩, ⟨(some 32), .ext (.t 28) 1, none⟩, ⟨(some 7), .alloc 25 [(.int .i16 0), (.int .i16 0), (.int .i16 0), (.int .i16 0), (.int .i16 0), (.int .i16 0)], none⟩, ⟨none, .store 6 (.t 7) (.t 31), none⟩, ⟨(some 8), .mov (.t 32), none⟩])
  (.seq (.region [⟨(some 34), .loadN 6 (.t 3), none⟩, ⟨(some 35), .call (.k (.c (.fn 53 []))) [(.t 34)], none⟩, ⟨(some 33), .mov (.t 35), none⟩, ⟨(some 36), .ext (.t 33) 0, none⟩, ⟨(some 37), .ext (.t 33) 1, none⟩, ⟨(some 9), .alloc 25 [(.int .i16 0), (.int .i16 0), (.int .i16 0), (.int .i16 0), (.int .i16 0), (.int .i16 0)], none⟩, ⟨none, .store 6 (.t 9) (.t 36), none⟩, ⟨(some 10), .mov (.t 37), none⟩])
  (.seq (.seq (.region [⟨(some 38), .loadN 6 (.t 7), none⟩, ⟨(some 39), .call (.k (.c (.fn 41 []))) [(.t 38)], none⟩, ⟨(some 40), .un .not (.t 39), none⟩, ⟨(some 41), .mov (.t 40), none⟩, ⟨(some 42), .loadN 6 (.t 9), some (41, false)⟩, ⟨(some 43), .call (.k (.c (.fn 41 []))) [(.t 42)], some (41, false)⟩, ⟨(some 44), .un .not (.t 43), some (41, false)⟩, ⟨(some 45), .pick (.t 41) (.k (.c (.bool true))) (.t 44), none⟩])
  (.cond (.t 45) (.seq (.region [⟨(some 46), .build [(.int .i16 0), (.int .i16 0), (.int .i16 0), (.int .i16 0), (.int .i16 0), (.int .i16 0)] [], none⟩, ⟨none, .store 6 (.t 4) (.t 46), none⟩, ⟨(some 5), .mov (.k (.c (.int .i64 0))), none⟩, ⟨(some 6), .mov (.k (.c (.int .i64 3))), none⟩])
  .ret) .skip))
  (.seq (.region [⟨(some 11), .alloc 2 [(.int .i64 0)], none⟩, ⟨none, .store 1 (.t 11) (.k (.c (.int .i64 0))), none⟩])
  (.seq (.seq (.region [⟨(some 12), .mov (.k (.c (.int .i64 0))), none⟩])
  (.block 0 (.loop l38_0)))
  (.seq (.drawn [(⟨(some 68), .loadN 6 (.t 7), none⟩, []), (⟨(some 69), .load1 (.t 11), none⟩, []), (⟨none, .store 6 (.t 4) (.t 68), none⟩, [⟨(some 69), .load1 (.t 11), none⟩]), (⟨(some 5), .mov (.t 69), none⟩, []), (⟨(some 6), .mov (.k (.c (.int .i64 0))), none⟩, [])])
  .ret))))))))), [.cellN 4 6, .tmp 5, .tmp 6], true⟩
theorem c38 : kk 38 = some k38 := by kernel_rfl
/-- loop.example/g01263/impl.TakeBoard -/
def l39_0 : KC := (.seq (.seq (.drawn [(⟨(some 59), .mov (.t 14), none⟩, []), (⟨(some 60), .idxA 6 1 (.t 7) (.t 59), none⟩, []), (⟨(some 61), .load1 (.t 60), none⟩, []), (⟨(some 62), .mov (.t 14), none⟩, []), (⟨(some 63), .idxA 6 1 (.t 8) (.t 62), none⟩, []), (⟨(some 64), .load1 (.t 63), none⟩, []), (⟨(some 65), .bin .lss .int (.t 61) (.t 64), none⟩, [])])
  (.cond (.t 65) .skip (.exit 2)))
  (.block 3 (.region [⟨(some 66), .mov (.t 13), none⟩, ⟨(some 67), .mov (.t 14), none⟩, ⟨(some 68), .call (.k (.c (.fn 62 []))) [(.t 7), (.t 67)], none⟩, ⟨(some 69), .bin .add .int (.t 66) (.t 68), none⟩, ⟨(some 13), .mov (.t 69), none⟩])))
def l39_1 : KC := (.seq (.seq (.region [⟨(some 55), .mov (.t 14), none⟩, ⟨(some 56), .bin .leq .int (.t 55) (.k (.c (.int .i64 5))), none⟩])
  (.cond (.t 56) .skip (.exit 0)))
  (.seq (.block 1 (.seq (.block 2 (.loop l39_0))
  (.drawn [(⟨(some 70), .mov (.t 14), none⟩, []), (⟨(some 71), .idxA 6 1 (.t 7) (.t 70), none⟩, []), (⟨(some 72), .load1 (.t 71), none⟩, []), (⟨(some 73), .mov (.t 14), none⟩, []), (⟨(some 74), .idxA 6 1 (.t 8) (.t 73), none⟩, []), (⟨(some 75), .load1 (.t 74), none⟩, []), (⟨(some 76), .bin .sub .int (.t 72) (.t 75), none⟩, []), (⟨(some 77), .idxA 6 1 (.t 7) (.t 70), none⟩, []), (⟨none, .store 1 (.t 77) (.t 76), none⟩, [])])))
  (.region [⟨(some 57), .mov (.t 14), none⟩, ⟨(some 58), .bin .add .int (.t 57) (.k (.c (.int .i64 1))), none⟩, ⟨(some 14), .mov (.t 58), none⟩])))
def k39 : KF := ⟨86, (.seq (.region [⟨(some 2), .box 25 (.t 0), none⟩, ⟨(some 3), .box 25 (.t 1), none⟩, ⟨(some 4), .alloc 25 [(.int .i16 0), (.int .i16 0), (.int .i16 0), (.int .i16 0), (.int .i16 0), (.int .i16 0)], none⟩, ⟨(some 5), .mov (.k (.c (.int .i64 0))), none⟩, ⟨(some 6), .mov (.k (.c (.int .i64 0))), none⟩])
  (.seq (.seq (.region [⟨(some 17), .loadN 6 (.t 2), none⟩, ⟨(some 18), .call (.k (.c (.fn 17 []))) [(.t 17)], none⟩, ⟨(some 19), .un .not (.t 18), none⟩, ⟨(some 20), .mov (.t 19), none⟩, ⟨(some 21), .loadN 6 (.t 3), some (20, false)⟩, ⟨(some 22), .call (.k (.c (.fn 17 []))) [(.t 21)], some (20, false)⟩, ⟨(some 23), .un .not (.t 22), some (20, false)⟩, ⟨(some 24), .pick (.t 20) (.k (.c (.bool true))) (.t 23), none⟩])
  (.cond (.t 24) (.seq (.region [⟨(some 25), .build [(.int .i16 0), (.int .i16 0), (.int .i16 0), (.int .i16 0), (.int .i16 0), (.int .i16 0)] [], none⟩, ⟨none, .store 6 (.t 4) (.t 25), none⟩, ⟨(some 5), .mov (.k (.c (.int .i64 0))), none⟩, ⟨(some 6), .mov (.k (.c (.int .i64 1))), none⟩])
  .ret) .skip))
  (.seq (.drawn [(⟨(some 26), .loadN 6 (.t 2), none⟩, []), (⟨(some 28), .loadN 6 (.t 3), none⟩, []), (⟨(some 27), .call (.k (.c (.fn 48 []))) [(.t 26)], none⟩, [⟨(some 28), .loadN 6 (.t 3), none⟩]), (⟨(some 29), .call (.k (.c (.fn 48 []))) [(.t 28)], none⟩, []), (⟨(some 7), .alloc 51 [(.int .i64 0), (.int .i64 0), (.int .i64 0), (.int .i64 0), (.int .i64 0), (.int .i64 0)], none⟩, [⟨(some 26), .loadN 6 (.t 2), none⟩, ⟨(some 28), .loadN 6 (.t 3), none⟩]), (⟨(some 8), .alloc 51 [(.int .i64 0), (.int .i64 0), (.int .i64 0), (.int .i64 0), (.int .i64 0), (.int .i64 0)], none⟩, [⟨(some 26), .loadN 6 (.t 2), none⟩, ⟨(some 28), .loadN 6 (.t 3), none⟩]), (⟨none, .store 6 (.t 7) (.t 27), none⟩, []), (⟨none, .store 6 (.t 8) (.t 29), none⟩, [])])
  (.seq (.seq (.drawn [(⟨(some 30), .loadN 6 (.t 7), none⟩, []), (⟨(some 32), .loadN 6 (.t 8), none⟩, []), (⟨(some 31), .call (.k (.c (.fn 49 []))) [(.t 30)], none⟩, [⟨(some 32), .loadN 6 (.t 8), none⟩]), (⟨(some 33), .call (.k (.c (.fn 49 []))) [(.t 32)], none⟩, []), (⟨(some 34), .bin .lss .int (.t 31) (.t 33), none⟩, [])])
  (.cond (.t 34) (.seq (.region [⟨(some 35), .build [(.int .i16 0), (.int .i16 0), (.int .i16 0), (.int .i16 0), (.int .i16 0), (.int .i16 0)] [], none⟩, ⟨none, .store 6 (.t 4) (.t 35), none⟩, ⟨(some 5), .mov (.k (.c (.int .i64 0))), none⟩, ⟨(some 6), .mov (.k (.c (.int .i64 4))), none⟩])
  .ret) .skip))
  (.seq (.region [⟨(some 36), .call (.k (.c (.fn 52 []))) [(.t 7)], none⟩])
  (.seq (.region [⟨(some 37), .call (.k (.c (.fn 52 []))) [(.t 8)], none⟩])
  (.seq (.region [⟨(some 39), .loadN 6 (.t 7), none⟩, ⟨(some 40), .call (.k (.c (.fn 46 []))) [(.t 39)], none⟩, ⟨(some 38), .mov (.t 40), none⟩, ⟨(some 41), .ext (.t 38) 0, none⟩, ⟨(some 42), .ext (.t 38) 1, none⟩, ⟨(some 9), .alloc 25 [(.int .i16 0), (.int .i16 0), (.int .i16 0), (.int .i16 0), (.int .i16 0), (.int .i16 0)], none⟩, ⟨none, .store 6 (.t 9) (.t 41), none⟩, ⟨(some 10), .mov (.t 42), none⟩])
  (.seq (.region [⟨(some 44), .loadN 6 (.t 8), none⟩, ⟨(some 45), .call (.k (.c (.fn 46 []))) [(.t 44)], none⟩, ⟨(some 43), .mov (.t 45), none⟩, ⟨(some 46), .ext (.t 43) 0, none⟩, ⟨(some 47), .ext (.t 43) 1, none⟩, ⟨(some 11), .alloc 25 [(.int .i16 0), (.int .i16 0), (.int .i16 0), (.int .i16 0), (.int .i16 0), (.int .i16 0)], none⟩, ⟨none, .store 6 (.t 11) (.t 46), none⟩, ⟨(some 12), .mov (.t 47), none⟩])
  (.seq (.seq (.region [⟨(some 48), .mov (.t 10), none⟩, ⟨(some 49), .bin .neq .int (.t 48) (.k (.c (.int .i64 0))), none⟩, ⟨(some 50), .mov (.t 49), none⟩, ⟨(some 51), .mov (.t 12), some (50, false)⟩, ⟨(some 52), .bin .neq .int (.t 51) (.k (.c (.int .i64 0))), some (50, false)⟩, ⟨(some 53), .pick (.t 50) (.k (.c (.bool true))) (.t 52), none⟩])
  (.cond (.t 53) (.seq (.region [⟨(some 54), .build [(.int .i16 0), (.int .i16 0), (.int .i16 0), (.int .i16 0), (.int .i16 0), (.int .i16 0)] [], none⟩, ⟨none, .store 6 (.t 4) (.t 54), none⟩, ⟨(some 5), .mov (.k (.c (.int .i64 0))), none⟩, ⟨(some 6), .mov (.k (.c (.int .i64 3))), none⟩])
  .ret) .skip))
  (.seq (.region [⟨(some 13), .mov (.k (.c (.int .i64 0))), none⟩])
  (.seq (.seq (.region [⟨(some 14), .mov (.k (.c (.int .i64 0))), none⟩])
  (.block 0 (.loop l39_1)))
  (.seq (.region [⟨(some 79), .loadN 6 (.t 7), none⟩, ⟨(some 80), .call (.k (.c (.fn 46 []))) [(.t 79)], none⟩, ⟨(some 78), .mov (.t 80), none⟩, ⟨(some 81), .ext (.t 78) 0, none⟩, ⟨(some 82), .ext (.t 78) 1, none⟩, ⟨(some 15), .alloc 25 [(.int .i16 0), (.int .i16 0), (.int .i16 0), (.int .i16 0), (.int .i16 0), (.int .i16 0)], none⟩, ⟨none, .store 6 (.t 15) (.t 81), none⟩, ⟨(some 16), .mov (.t 82), none⟩])
  (.seq (.region [⟨(some 83), .loadN 6 (.t 15), none⟩, ⟨(some 84), .mov (.t 13), none⟩, ⟨(some 85), .mov (.t 16), none⟩, ⟨none, .store 6 (.t 4) (.t 83), none⟩, ⟨(some 5), .mov (.t 84), none⟩, ⟨(some 6), .mov (.t 85), none⟩])
  .ret))))))))))))), [.cellN 4 6, .tmp 5, .tmp 6], true⟩
theorem c39 : kk 39 = some k39 := by kernel_rfl
/-- loop.example/g01263/impl.WorthOf -/
def k40 : KF := ⟨9, (.seq (.region [⟨(some 2), .mov (.k (.c (.int .i64 0))), none⟩, ⟨(some 3), .mov (.k (.c (.int .i64 0))), none⟩])
  (.seq (.seq (.region [⟨(some 4), .mov (.t 0), none⟩, ⟨(some 5), .call (.k (.c (.fn 54 []))) [(.t 4)], none⟩, ⟨(some 6), .un .not (.t 5), none⟩])
  (.cond (.t 6) (.seq (.region [⟨(some 2), .mov (.k (.c (.int .i64 0))), none⟩, ⟨(some 3), .mov (.k (.c (.int .i64 2))), none⟩])
  .ret) .skip))
  (.seq (.region [⟨(some 7), .mov (.t 0), none⟩, ⟨(some 8), .call (.k (.c (.fn 45 []))) [(.t 7)], none⟩, ⟨(some 2), .mov (.t 8), none⟩, ⟨(some 3), .mov (.k (.c (.int .i64 0))), none⟩])
  .ret))), [.tmp 2, .tmp 3], true⟩
theorem c40 : kk 40 = some k40 := by kernel_rfl
/-- loop.example/g01263/spec.l05Board -/
def k41 : KF := ⟨18, (.seq (.region [⟨(some 1), .box 25 (.t 0), none⟩, ⟨(some 2), .mov (.k (.c (.bool false))), none⟩])
  (.seq (.seq (.region [⟨(some 3), .mov (.k (.c (.int .i64 0))), none⟩])
  (.block 0 (.loop (.seq (.seq (.region [⟨(some 4), .mov (.t 3), none⟩, ⟨(some 5), .bin .lss .int (.t 4) (.k (.c (.int .i64 6))), none⟩])
  (.cond (.t 5) .skip (.exit 0)))
  (.seq (.block 1 (.seq (.region [⟨(some 8), .mov (.t 3), none⟩, ⟨(some 9), .idxA 6 1 (.t 1) (.t 8), none⟩, ⟨(some 10), .load1 (.t 9), none⟩, ⟨(some 11), .bin .lss .int (.t 10) (.k (.c (.int .i16 0))), none⟩, ⟨(some 12), .mov (.t 11), none⟩, ⟨(some 13), .mov (.t 3), some (12, false)⟩, ⟨(some 14), .idxA 6 1 (.t 1) (.t 13), some (12, false)⟩, ⟨(some 15), .load1 (.t 14), some (12, false)⟩, ⟨(some 16), .bin .gtr .int (.t 15) (.k (.c (.int .i16 1000))), some (12, false)⟩, ⟨(some 17), .pick (.t 12) (.k (.c (.bool true))) (.t 16), none⟩])
  (.cond (.t 17) (.seq (.region [⟨(some 2), .mov (.k (.c (.bool false))), none⟩])
  .ret) .skip)))
  (.region [⟨(some 6), .mov (.t 3), none⟩, ⟨(some 7), .bin .add .int (.t 6) (.k (.c (.int .i64 1))), none⟩, ⟨(some 3), .mov (.t 7), none⟩]))))))
  (.seq (.region [⟨(some 2), .mov (.k (.c (.bool true))), none⟩])
  .ret))), [.tmp 2], true⟩
theorem c41 : kk 41 = some k41 := by kernel_rfl
/-- loop.example/g01263/spec.l01Amount -/
def k42 : KF := ⟨5, (.seq (.region [⟨(some 2), .mov (.k (.c (.bool false))), none⟩])
  (.seq (.region [⟨(some 3), .mov (.t 0), none⟩, ⟨(some 4), .call (.k (.c (.fn 60 []))) [(.t 3), (.k (.c (.int .i64 0))), (.k (.c (.int .i64 100000000)))], none⟩, ⟨(some 2), .mov (.t 4), none⟩])
  .ret)), [.tmp 2], true⟩
theorem c42 : kk 42 = some k42 := by kernel_rfl
/-- loop.example/g01263/spec.l01Worths -/
def k43 : KF := ⟨2, (.seq (.region [⟨(some 0), .mov (.k (.c (.slice none 0 (.exact 0)))), none⟩])
  (.seq (.region [⟨(some 1), .buildSl 2 6 [(.int .i64 0), (.int .i64 0), (.int .i64 0), (.int .i64 0), (.int .i64 0), (.int .i64 0)] [(0, 1, (.k (.c (.int .i64 1)))), (1, 1, (.k (.c (.int .i64 12)))), (2, 1, (.k (.c (.int .i64 240)))), (3, 1, (.k (.c (.int .i64 4800)))), (4, 1, (.k (.c (.int .i64 24000)))), (5, 1, (.k (.c (.int .i64 240000))))], none⟩, ⟨(some 0), .mov (.t 1), none⟩])
  .ret)), [.tmp 0], false⟩
theorem c43 : kk 43 = some k43 := by kernel_rfl
/-- loop.example/g01263/impl.isAmount -/
def k44 : KF := ⟨9, (.seq (.region [⟨(some 2), .mov (.k (.c (.bool false))), none⟩])
  (.seq (.region [⟨(some 3), .mov (.t 0), none⟩, ⟨(some 4), .bin .geq .int (.t 3) (.k (.c (.int .i64 0))), none⟩, ⟨(some 5), .mov (.t 4), none⟩, ⟨(some 6), .mov (.t 0), some (5, true)⟩, ⟨(some 7), .bin .leq .int (.t 6) (.k (.c (.int .i64 100000000))), some (5, true)⟩, ⟨(some 8), .pick (.t 5) (.t 7) (.k (.c (.bool false))), none⟩, ⟨(some 2), .mov (.t 8), none⟩])
  .ret)), [.tmp 2], true⟩
theorem c44 : kk 44 = some k44 := by kernel_rfl
/-- loop.example/g01263/impl.worth -/
def k45 : KF := ⟨7, (.seq (.region [⟨(some 2), .mov (.k (.c (.int .i64 0))), none⟩])
  (.seq (.region [⟨(some 3), .buildSl 2 6 [(.int .i64 0), (.int .i64 0), (.int .i64 0), (.int .i64 0), (.int .i64 0), (.int .i64 0)] [(0, 1, (.k (.c (.int .i64 1)))), (1, 1, (.k (.c (.int .i64 12)))), (2, 1, (.k (.c (.int .i64 240)))), (3, 1, (.k (.c (.int .i64 4800)))), (4, 1, (.k (.c (.int .i64 24000)))), (5, 1, (.k (.c (.int .i64 240000))))], none⟩, ⟨(some 4), .mov (.t 0), none⟩, ⟨(some 5), .idxS 1 (.t 3) (.t 4), none⟩, ⟨(some 6), .load1 (.t 5), none⟩, ⟨(some 2), .mov (.t 6), none⟩])
  .ret)), [.tmp 2], true⟩
theorem c45 : kk 45 = some k45 := by kernel_rfl
/-- (loop.example/g01263/impl.columns).board -/
def k46 : KF := ⟨22, (.seq (.region [⟨(some 1), .box 51 (.t 0), none⟩, ⟨(some 2), .alloc 25 [(.int .i16 0), (.int .i16 0), (.int .i16 0), (.int .i16 0), (.int .i16 0), (.int .i16 0)], none⟩, ⟨(some 3), .mov (.k (.c (.int .i64 0))), none⟩])
  (.seq (.region [⟨(some 7), .build [(.int .i16 0), (.int .i16 0), (.int .i16 0), (.int .i16 0), (.int .i16 0), (.int .i16 0)] [], none⟩, ⟨(some 4), .alloc 25 [(.int .i16 0), (.int .i16 0), (.int .i16 0), (.int .i16 0), (.int .i16 0), (.int .i16 0)], none⟩, ⟨none, .store 6 (.t 4) (.t 7), none⟩])
  (.seq (.seq (.region [⟨(some 8), .loadN 6 (.t 1), none⟩, ⟨(some 9), .mov (.k (.c (.int .i64 0))), none⟩])
  (.block 0 (.loop (.seq (.region [⟨(some 10), .bin .lss .int (.t 9) (.k (.c (.int .i64 6))), none⟩])
  (.seq (.cond (.t 10) .skip (.exit 0))
  (.seq (.block 1 (.seq (.region [⟨(some 11), .mov (.t 9), none⟩, ⟨(some 12), .idx1 6 (.t 8) (.t 9), none⟩, ⟨(some 5), .mov (.t 11), none⟩, ⟨(some 6), .mov (.t 12), none⟩])
  (.seq (.seq (.region [⟨(some 13), .mov (.t 6), none⟩, ⟨(some 14), .bin .gtr .int (.t 13) (.k (.c (.int .i64 1000))), none⟩])
  (.cond (.t 14) (.seq (.region [⟨(some 15), .build [(.int .i16 0), (.int .i16 0), (.int .i16 0), (.int .i16 0), (.int .i16 0), (.int .i16 0)] [], none⟩, ⟨none, .store 6 (.t 2) (.t 15), none⟩, ⟨(some 3), .mov (.k (.c (.int .i64 3))), none⟩])
  .ret) .skip))
  (.region [⟨(some 16), .mov (.t 5), none⟩, ⟨(some 17), .mov (.t 6), none⟩, ⟨(some 18), .conv .i16 (.t 17), none⟩, ⟨(some 19), .idxA 6 1 (.t 4) (.t 16), none⟩, ⟨none, .store 1 (.t 19) (.t 18), none⟩]))))
  (.region [⟨(some 20), .bin .add .int (.t 9) (.k (.c (.int .i64 1))), none⟩, ⟨(some 9), .mov (.t 20), none⟩])))))))
  (.seq (.region [⟨(some 21), .loadN 6 (.t 4), none⟩, ⟨none, .store 6 (.t 2) (.t 21), none⟩, ⟨(some 3), .mov (.k (.c (.int .i64 0))), none⟩])
  .ret)))), [.cellN 2 6, .tmp 3], true⟩
theorem c46 : kk 46 = some k46 := by kernel_rfl
/-- loop.example/g01263/spec.l05Amount -/
def k47 : KF := ⟨21, (.seq (.region [⟨(some 1), .box 25 (.t 0), none⟩, ⟨(some 2), .mov (.k (.c (.int .i64 0))), none⟩])
  (.seq (.region [⟨(some 3), .mov (.k (.c (.int .i64 0))), none⟩])
  (.seq (.seq (.region [⟨(some 4), .mov (.k (.c (.int .i64 0))), none⟩])
  (.block 0 (.loop (.seq (.seq (.region [⟨(some 5), .mov (.t 4), none⟩, ⟨(some 6), .bin .lss .int (.t 5) (.k (.c (.int .i64 6))), none⟩])
  (.cond (.t 6) .skip (.exit 0)))
  (.seq (.block 1 (.drawn [(⟨(some 9), .mov (.t 3), none⟩, []), (⟨(some 10), .mov (.t 4), none⟩, []), (⟨(some 11), .idxA 6 1 (.t 1) (.t 10), none⟩, []), (⟨(some 12), .load1 (.t 11), none⟩, []), (⟨(some 13), .conv .i64 (.t 12), none⟩, []), (⟨(some 15), .mov (.t 4), none⟩, []), (⟨(some 14), .call (.k (.c (.fn 43 []))) [], none⟩, [⟨(some 12), .load1 (.t 11), none⟩]), (⟨(some 16), .idxS 1 (.t 14) (.t 15), none⟩, []), (⟨(some 17), .load1 (.t 16), none⟩, []), (⟨(some 18), .bin .mul .int (.t 13) (.t 17), none⟩, []), (⟨(some 19), .bin .add .int (.t 9) (.t 18), none⟩, []), (⟨(some 3), .mov (.t 19), none⟩, [])]))
  (.region [⟨(some 7), .mov (.t 4), none⟩, ⟨(some 8), .bin .add .int (.t 7) (.k (.c (.int .i64 1))), none⟩, ⟨(some 4), .mov (.t 8), none⟩]))))))
  (.seq (.region [⟨(some 20), .mov (.t 3), none⟩, ⟨(some 2), .mov (.t 20), none⟩])
  .ret)))), [.tmp 2], true⟩
theorem c47 : kk 47 = some k47 := by kernel_rfl
/-- loop.example/g01263/impl.columnsOf -/
def k48 : KF := ⟨18, (.seq (.region [⟨(some 1), .box 25 (.t 0), none⟩, ⟨(some 2), .alloc 51 [(.int .i64 0), (.int .i64 0), (.int .i64 0), (.int .i64 0), (.int .i64 0), (.int .i64 0)], none⟩])
  (.seq (.region [⟨(some 6), .build [(.int .i64 0), (.int .i64 0), (.int .i64 0), (.int .i64 0), (.int .i64 0), (.int .i64 0)] [], none⟩, ⟨(some 3), .alloc 51 [(.int .i64 0), (.int .i64 0), (.int .i64 0), (.int .i64 0), (.int .i64 0), (.int .i64 0)], none⟩, ⟨none, .store 6 (.t 3) (.t 6), none⟩])
  (.seq (.seq (.region [⟨(some 7), .loadN 6 (.t 1), none⟩, ⟨(some 8), .mov (.k (.c (.int .i64 0))), none⟩])
  (.block 0 (.loop (.seq (.region [⟨(some 9), .bin .lss .int (.t 8) (.k (.c (.int .i64 6))), none⟩])
  (.seq (.cond (.t 9) .skip (.exit 0))
  (.seq (.block 1 (.seq (.region [⟨(some 10), .mov (.t 8), none⟩, ⟨(some 11), .idx1 6 (.t 7) (.t 8), none⟩, ⟨(some 4), .mov (.t 10), none⟩, ⟨(some 5), .mov (.t 11), none⟩])
  (.region [⟨(some 12), .mov (.t 4), none⟩, ⟨(some 13), .mov (.t 5), none⟩, ⟨(some 14), .conv .i64 (.t 13), none⟩, ⟨(some 15), .idxA 6 1 (.t 3) (.t 12), none⟩, ⟨none, .store 1 (.t 15) (.t 14), none⟩])))
  (.region [⟨(some 16), .bin .add .int (.t 8) (.k (.c (.int .i64 1))), none⟩, ⟨(some 8), .mov (.t 16), none⟩])))))))
  (.seq (.region [⟨(some 17), .loadN 6 (.t 3), none⟩, ⟨none, .store 6 (.t 2) (.t 17), none⟩])
  .ret)))), [.cellN 2 6], true⟩
theorem c48 : kk 48 = some k48 := by kernel_rfl
/-- (loop.example/g01263/impl.columns).amount -/
def k49 : KF := ⟨19, (.seq (.region [⟨(some 1), .box 51 (.t 0), none⟩, ⟨(some 2), .mov (.k (.c (.int .i64 0))), none⟩])
  (.seq (.region [⟨(some 3), .mov (.k (.c (.int .i64 0))), none⟩])
  (.seq (.seq (.region [⟨(some 6), .loadN 6 (.t 1), none⟩, ⟨(some 7), .mov (.k (.c (.int .i64 0))), none⟩])
  (.block 0 (.loop (.seq (.region [⟨(some 8), .bin .lss .int (.t 7) (.k (.c (.int .i64 6))), none⟩])
  (.seq (.cond (.t 8) .skip (.exit 0))
  (.seq (.block 1 (.seq (.region [⟨(some 9), .mov (.t 7), none⟩, ⟨(some 10), .idx1 6 (.t 6) (.t 7), none⟩, ⟨(some 4), .mov (.t 9), none⟩, ⟨(some 5), .mov (.t 10), none⟩])
  (.region [⟨(some 11), .mov (.t 3), none⟩, ⟨(some 12), .mov (.t 5), none⟩, ⟨(some 13), .mov (.t 4), none⟩, ⟨(some 14), .call (.k (.c (.fn 45 []))) [(.t 13)], none⟩, ⟨(some 15), .bin .mul .int (.t 12) (.t 14), none⟩, ⟨(some 16), .bin .add .int (.t 11) (.t 15), none⟩, ⟨(some 3), .mov (.t 16), none⟩])))
  (.region [⟨(some 17), .bin .add .int (.t 7) (.k (.c (.int .i64 1))), none⟩, ⟨(some 7), .mov (.t 17), none⟩])))))))
  (.seq (.region [⟨(some 18), .mov (.t 3), none⟩, ⟨(some 2), .mov (.t 18), none⟩])
  .ret)))), [.tmp 2], true⟩
theorem c49 : kk 49 = some k49 := by kernel_rfl
/-- loop.example/g01263/spec.l00From -/
def k50 : KF := ⟨6, (.seq (.region [⟨(some 2), .mov (.k (.c (.ptr none))), none⟩])
  (.seq (.region [⟨(some 3), .mov (.t 0), none⟩, ⟨(some 4), .build [(.slice none 0 (.exact 0)), (.int .i64 0), (.int .u64 0)] [(0, 1, (.t 3))], none⟩, ⟨(some 5), .box 68 (.t 4), none⟩, ⟨(some 2), .mov (.t 5), none⟩])
  .ret)), [.tmp 2], false⟩
theorem c50 : kk 50 = some k50 := by kernel_rfl
/-- (*loop.example/g01263/spec.l00Src).pick -/
def k51 : KF := ⟨20, (.seq (.region [⟨(some 4), .mov (.k (.c (.int .i64 0))), none⟩])
  (.seq (.seq (.region [⟨(some 6), .mov (.t 1), none⟩, ⟨(some 7), .bin .leq .int (.t 6) (.k (.c (.int .i64 1))), none⟩])
  (.cond (.t 7) (.seq (.region [⟨(some 4), .mov (.k (.c (.int .i64 0))), none⟩])
  .ret) .skip))
  (.seq (.region [⟨(some 8), .mov (.t 0), none⟩, ⟨(some 9), .call (.k (.c (.fn 63 []))) [(.t 8)], none⟩, ⟨(some 5), .mov (.t 9), none⟩])
  (.seq (.seq (.region [⟨(some 10), .mov (.t 1), none⟩, ⟨(some 11), .bin .gtr .int (.t 10) (.k (.c (.int .i64 200))), none⟩])
  (.cond (.t 11) (.region [⟨(some 12), .mov (.t 5), none⟩, ⟨(some 13), .bin .mul .int (.t 12) (.k (.c (.int .i64 256))), none⟩, ⟨(some 14), .mov (.t 0), none⟩, ⟨(some 15), .call (.k (.c (.fn 63 []))) [(.t 14)], none⟩, ⟨(some 16), .bin .add .int (.t 13) (.t 15), none⟩, ⟨(some 5), .mov (.t 16), none⟩]) .skip))
  (.seq (.region [⟨(some 17), .mov (.t 5), none⟩, ⟨(some 18), .mov (.t 1), none⟩, ⟨(some 19), .bin .rem .int (.t 17) (.t 18), none⟩, ⟨(some 4), .mov (.t 19), none⟩])
  .ret))))), [.tmp 4], true⟩
theorem c51 : kk 51 = some k51 := by kernel_rfl
/-- (*loop.example/g01263/impl.columns).tidy -/
def k52 : KF := ⟨42, (.seq (.region [⟨(some 2), .mov (.k (.c (.int .i64 0))), none⟩])
  (.seq (.region [⟨(some 3), .mov (.k (.c (.int .i64 0))), none⟩])
  (.seq (.seq (.region [⟨(some 4), .mov (.k (.c (.int .i64 0))), none⟩])
  (.block 0 (.loop (.seq (.seq (.region [⟨(some 6), .mov (.t 4), none⟩, ⟨(some 7), .bin .lss .int (.t 6) (.k (.c (.int .i64 5))), none⟩])
  (.cond (.t 7) .skip (.exit 0)))
  (.seq (.block 1 (.seq (.drawn [(⟨(some 10), .mov (.t 0), none⟩, []), (⟨(some 11), .mov (.t 4), none⟩, []), (⟨(some 12), .nilchk (.t 10), none⟩, []), (⟨(some 13), .idxA 6 1 (.t 12) (.t 11), none⟩, []), (⟨(some 14), .load1 (.t 13), none⟩, []), (⟨(some 15), .mov (.t 4), none⟩, []), (⟨(some 16), .call (.k (.c (.fn 55 []))) [(.t 15)], none⟩, [⟨(some 14), .load1 (.t 13), none⟩]), (⟨(some 17), .bin .quo .int (.t 14) (.t 16), none⟩, []), (⟨(some 5), .mov (.t 17), none⟩, [])])
  (.seq (.drawn [(⟨(some 18), .mov (.t 0), none⟩, []), (⟨(some 19), .mov (.t 4), none⟩, []), (⟨(some 20), .nilchk (.t 18), none⟩, []), (⟨(some 21), .idxA 6 1 (.t 20) (.t 19), none⟩, []), (⟨(some 22), .load1 (.t 21), none⟩, []), (⟨(some 23), .mov (.t 4), none⟩, []), (⟨(some 26), .nilchk (.t 18), none⟩, []), (⟨(some 24), .call (.k (.c (.fn 55 []))) [(.t 23)], none⟩, [⟨(some 22), .load1 (.t 21), none⟩]), (⟨(some 25), .bin .rem .int (.t 22) (.t 24), none⟩, []), (⟨(some 27), .idxA 6 1 (.t 26) (.t 19), none⟩, []), (⟨none, .store 1 (.t 27) (.t 25), none⟩, [])])
  (.seq (.drawn [(⟨(some 28), .mov (.t 0), none⟩, []), (⟨(some 29), .mov (.t 4), none⟩, []), (⟨(some 30), .bin .add .int (.t 29) (.k (.c (.int .i64 1))), none⟩, []), (⟨(some 31), .nilchk (.t 28), none⟩, []), (⟨(some 32), .idxA 6 1 (.t 31) (.t 30), none⟩, []), (⟨(some 33), .load1 (.t 32), none⟩, []), (⟨(some 34), .mov (.t 5), none⟩, []), (⟨(some 35), .bin .add .int (.t 33) (.t 34), none⟩, []), (⟨(some 36), .nilchk (.t 28), none⟩, []), (⟨(some 37), .idxA 6 1 (.t 36) (.t 30), none⟩, []), (⟨none, .store 1 (.t 37) (.t 35), none⟩, [])])
  (.region [⟨(some 38), .mov (.t 3), none⟩, ⟨(some 39), .mov (.t 5), none⟩, ⟨(some 40), .bin .add .int (.t 38) (.t 39), none⟩, ⟨(some 3), .mov (.t 40), none⟩])))))
  (.region [⟨(some 8), .mov (.t 4), none⟩, ⟨(some 9), .bin .add .int (.t 8) (.k (.c (.int .i64 1))), none⟩, ⟨(some 4), .mov (.t 9), none⟩]))))))
  (.seq (.region [⟨(some 41), .mov (.t 3), none⟩, ⟨(some 2), .mov (.t 41), none⟩])
  .ret)))), [.tmp 2], true⟩
theorem c52 : kk 52 = some k52 := by kernel_rfl
/-- loop.example/g01263/spec.l05Tidy -/
def k53 : KF := ⟨41, (.seq (.region [⟨(some 1), .box 25 (.t 0), none⟩, ⟨(some 2), .alloc 25 [(.int .i16 0), (.int .i16 0), (.int .i16 0), (.int .i16 0), (.int .i16 0), (.int .i16 0)], none⟩, ⟨(some 3), .mov (.k (.c (.int .i64 0))), none⟩])
  (.seq (.region [⟨(some 4), .mov (.k (.c (.int .i64 0))), none⟩])
  (.seq (.seq (.region [⟨(some 5), .mov (.k (.c (.int .i64 0))), none⟩])
  (.block 0 (.loop (.seq (.seq (.region [⟨(some 7), .mov (.t 5), none⟩, ⟨(some 8), .bin .lss .int (.t 7) (.k (.c (.int .i64 5))), none⟩])
  (.cond (.t 8) .skip (.exit 0)))
  (.seq (.block 1 (.seq (.region [⟨(some 11), .mov (.t 5), none⟩, ⟨(some 12), .call (.k (.c (.fn 57 []))) [(.t 11)], none⟩, ⟨(some 6), .mov (.t 12), none⟩])
  (.seq (.region [⟨(some 13), .mov (.t 4), none⟩, ⟨(some 14), .mov (.t 5), none⟩, ⟨(some 15), .idxA 6 1 (.t 1) (.t 14), none⟩, ⟨(some 16), .load1 (.t 15), none⟩, ⟨(some 17), .mov (.t 6), none⟩, ⟨(some 18), .bin .quo .int (.t 16) (.t 17), none⟩, ⟨(some 19), .conv .i64 (.t 18), none⟩, ⟨(some 20), .bin .add .int (.t 13) (.t 19), none⟩, ⟨(some 4), .mov (.t 20), none⟩])
  (.seq (.drawn [(⟨(some 21), .mov (.t 5), none⟩, []), (⟨(some 22), .bin .add .int (.t 21) (.k (.c (.int .i64 1))), none⟩, []), (⟨(some 23), .idxA 6 1 (.t 1) (.t 22), none⟩, []), (⟨(some 24), .load1 (.t 23), none⟩, []), (⟨(some 25), .mov (.t 5), none⟩, []), (⟨(some 26), .idxA 6 1 (.t 1) (.t 25), none⟩, []), (⟨(some 27), .load1 (.t 26), none⟩, []), (⟨(some 28), .mov (.t 6), none⟩, []), (⟨(some 29), .bin .quo .int (.t 27) (.t 28), none⟩, []), (⟨(some 30), .bin .add .int (.t 24) (.t 29), none⟩, []), (⟨(some 31), .idxA 6 1 (.t 1) (.t 22), none⟩, []), (⟨none, .store 1 (.t 31) (.t 30), none⟩, [])])
  (.region [⟨(some 32), .mov (.t 5), none⟩, ⟨(some 33), .mov (.t 5), none⟩, ⟨(some 34), .idxA 6 1 (.t 1) (.t 33), none⟩, ⟨(some 35), .load1 (.t 34), none⟩, ⟨(some 36), .mov (.t 6), none⟩, ⟨(some 37), .bin .rem .int (.t 35) (.t 36), none⟩, ⟨(some 38), .idxA 6 1 (.t 1) (.t 32), none⟩, ⟨none, .store 1 (.t 38) (.t 37), none⟩])))))
  (.region [⟨(some 9), .mov (.t 5), none⟩, ⟨(some 10), .bin .add .int (.t 9) (.k (.c (.int .i64 1))), none⟩, ⟨(some 5), .mov (.t 10), none⟩]))))))
  (.seq (.region [⟨(some 39), .loadN 6 (.t 1), none⟩, ⟨(some 40), .mov (.t 4), none⟩, ⟨none, .store 6 (.t 2) (.t 39), none⟩, ⟨(some 3), .mov (.t 40), none⟩])
  .ret)))), [.cellN 2 6, .tmp 3], true⟩
theorem c53 : kk 53 = some k53 := by kernel_rfl
/-- loop.example/g01263/impl.isKind -/
def k54 : KF := ⟨9, (.seq (.region [⟨(some 2), .mov (.k (.c (.bool false))), none⟩])
  (.seq (.region [⟨(some 3), .mov (.t 0), none⟩, ⟨(some 4), .bin .geq .int (.t 3) (.k (.c (.int .i64 0))), none⟩, ⟨(some 5), .mov (.t 4), none⟩, ⟨(some 6), .mov (.t 0), some (5, true)⟩, ⟨(some 7), .bin .leq .int (.t 6) (.k (.c (.int .i64 5))), some (5, true)⟩, ⟨(some 8), .pick (.t 5) (.t 7) (.k (.c (.bool false))), none⟩, ⟨(some 2), .mov (.t 8), none⟩])
  .ret)), [.tmp 2], true⟩
theorem c54 : kk 54 = some k54 := by kernel_rfl
/-- loop.example/g01263/impl.per -/
def k55 : KF := ⟨7, (.seq (.region [⟨(some 2), .mov (.k (.c (.int .i64 0))), none⟩])
  (.seq (.region [⟨(some 3), .buildSl 2 5 [(.int .i64 0), (.int .i64 0), (.int .i64 0), (.int .i64 0), (.int .i64 0)] [(0, 1, (.k (.c (.int .i64 12)))), (1, 1, (.k (.c (.int .i64 20)))), (2, 1, (.k (.c (.int .i64 20)))), (3, 1, (.k (.c (.int .i64 5)))), (4, 1, (.k (.c (.int .i64 10))))], none⟩, ⟨(some 4), .mov (.t 0), none⟩, ⟨(some 5), .idxS 1 (.t 3) (.t 4), none⟩, ⟨(some 6), .load1 (.t 5), none⟩, ⟨(some 2), .mov (.t 6), none⟩])
  .ret)), [.tmp 2], true⟩
theorem c55 : kk 55 = some k55 := by kernel_rfl
/-- loop.example/g01263/spec.l05Asked -/
def k56 : KF := ⟨11, (.seq (.region [⟨(some 2), .box 25 (.t 0), none⟩, ⟨(some 4), .mov (.k (.c (.int .i64 0))), none⟩])
  (.seq (.seq (.region [⟨(some 5), .loadN 6 (.t 2), none⟩, ⟨(some 6), .call (.k (.c (.fn 41 []))) [(.t 5)], none⟩, ⟨(some 7), .un .not (.t 6), none⟩])
  (.cond (.t 7) (.seq (.region [⟨(some 4), .mov (.k (.c (.int .i64 1))), none⟩])
  .ret) .skip))
  (.seq (.seq (.region [⟨(some 8), .mov (.t 1), none⟩, ⟨(some 9), .call (.k (.c (.fn 60 []))) [(.t 8), (.k (.c (.int .i64 0))), (.k (.c (.int .i64 4)))], none⟩, ⟨(some 10), .un .not (.t 9), none⟩])
  (.cond (.t 10) (.seq (.region [⟨(some 4), .mov (.k (.c (.int .i64 2))), none⟩])
  .ret) .skip))
  (.seq (.region [⟨(some 4), .mov (.k (.c (.int .i64 0))), none⟩])
  .ret)))), [.tmp 4], true⟩
theorem c56 : kk 56 = some k56 := by kernel_rfl
/-- loop.example/g01263/spec.l05Up -/
def k57 : KF := ⟨14, (.seq (.region [⟨(some 2), .mov (.k (.c (.int .i16 0))), none⟩])
  (.seq (.drawn [(⟨(some 4), .mov (.t 0), none⟩, []), (⟨(some 5), .bin .add .int (.t 4) (.k (.c (.int .i64 1))), none⟩, []), (⟨(some 9), .mov (.t 0), none⟩, []), (⟨(some 3), .call (.k (.c (.fn 43 []))) [], none⟩, []), (⟨(some 6), .idxS 1 (.t 3) (.t 5), none⟩, []), (⟨(some 7), .load1 (.t 6), none⟩, []), (⟨(some 8), .call (.k (.c (.fn 43 []))) [], none⟩, [⟨(some 7), .load1 (.t 6), none⟩]), (⟨(some 10), .idxS 1 (.t 8) (.t 9), none⟩, []), (⟨(some 11), .load1 (.t 10), none⟩, []), (⟨(some 12), .bin .quo .int (.t 7) (.t 11), none⟩, []), (⟨(some 13), .conv .i16 (.t 12), none⟩, []), (⟨(some 2), .mov (.t 13), none⟩, [])])
  .ret)), [.tmp 2], true⟩
theorem c57 : kk 57 = some k57 := by kernel_rfl
/-- loop.example/g01263/spec.l05Made -/
def k58 : KF := ⟨9, (.seq (.region [⟨(some 1), .box 25 (.t 0), none⟩, ⟨(some 2), .alloc 25 [(.int .i16 0), (.int .i16 0), (.int .i16 0), (.int .i16 0), (.int .i16 0), (.int .i16 0)], none⟩, ⟨(some 3), .mov (.k (.c (.int .i64 0))), none⟩])
  (.seq (.seq (.region [⟨(some 4), .loadN 6 (.t 1), none⟩, ⟨(some 5), .call (.k (.c (.fn 41 []))) [(.t 4)], none⟩, ⟨(some 6), .un .not (.t 5), none⟩])
  (.cond (.t 6) (.seq (.region [⟨(some 7), .build [(.int .i16 0), (.int .i16 0), (.int .i16 0), (.int .i16 0), (.int .i16 0), (.int .i16 0)] [], none⟩, ⟨none, .store 6 (.t 2) (.t 7), none⟩, ⟨(some 3), .mov (.k (.c (.int .i64 3))), none⟩])
  .ret) .skip))
  (.seq (.region [⟨(some 8), .loadN 6 (.t 1), none⟩, ⟨none, .store 6 (.t 2) (.t 8), none⟩, ⟨(some 3), .mov (.k (.c (.int .i64 0))), none⟩])
  .ret))), [.cellN 2 6, .tmp 3], true⟩
theorem c58 : kk 58 = some k58 := by kernel_rfl
/-- loop.example/g01263/spec.l01Kind -/
def k59 : KF := ⟨5, (.seq (.region [⟨(some 2), .mov (.k (.c (.bool false))), none⟩])
  (.seq (.region [⟨(some 3), .mov (.t 0), none⟩, ⟨(some 4), .call (.k (.c (.fn 60 []))) [(.t 3), (.k (.c (.int .i64 0))), (.k (.c (.int .i64 5)))], none⟩, ⟨(some 2), .mov (.t 4), none⟩])
  .ret)), [.tmp 2], true⟩
theorem c59 : kk 59 = some k59 := by kernel_rfl
/-- loop.example/g01263/spec.l00In -/
def k60 : KF := ⟨15, (.seq (.region [⟨(some 6), .mov (.k (.c (.bool false))), none⟩])
  (.seq (.region [⟨(some 7), .mov (.t 0), none⟩, ⟨(some 8), .mov (.t 1), none⟩, ⟨(some 9), .bin .geq .int (.t 7) (.t 8), none⟩, ⟨(some 10), .mov (.t 9), none⟩, ⟨(some 11), .mov (.t 0), some (10, true)⟩, ⟨(some 12), .mov (.t 2), some (10, true)⟩, ⟨(some 13), .bin .leq .int (.t 11) (.t 12), some (10, true)⟩, ⟨(some 14), .pick (.t 10) (.t 13) (.k (.c (.bool false))), none⟩, ⟨(some 6), .mov (.t 14), none⟩])
  .ret)), [.tmp 6], true⟩
theorem c60 : kk 60 = some k60 := by kernel_rfl
/-- loop.example/g01263/spec.l05Borrow -/
def k61 : KF := ⟨42, (.seq (.seq (.region [⟨(some 6), .mov (.t 0), none⟩, ⟨(some 7), .mov (.t 1), none⟩, ⟨(some 8), .bin .add .int (.t 7) (.k (.c (.int .i64 1))), none⟩, ⟨(some 9), .nilchk (.t 6), none⟩, ⟨(some 10), .idxA 6 1 (.t 9) (.t 8), none⟩, ⟨(some 11), .load1 (.t 10), none⟩, ⟨(some 12), .bin .eql .int (.t 11) (.k (.c (.int .i16 0))), none⟩])
  (.cond (.t 12) (.region [⟨(some 13), .mov (.t 0), none⟩, ⟨(some 14), .mov (.t 1), none⟩, ⟨(some 15), .bin .add .int (.t 14) (.k (.c (.int .i64 1))), none⟩, ⟨(some 16), .mov (.t 2), none⟩, ⟨(some 17), .call (.k (.c (.fn 61 []))) [(.t 13), (.t 15), (.t 16)], none⟩]) .skip))
  (.seq (.drawn [(⟨(some 18), .mov (.t 0), none⟩, []), (⟨(some 19), .mov (.t 1), none⟩, []), (⟨(some 20), .bin .add .int (.t 19) (.k (.c (.int .i64 1))), none⟩, []), (⟨(some 21), .nilchk (.t 18), none⟩, []), (⟨(some 22), .idxA 6 1 (.t 21) (.t 20), none⟩, []), (⟨(some 23), .load1 (.t 22), none⟩, []), (⟨(some 24), .bin .sub .int (.t 23) (.k (.c (.int .i16 1))), none⟩, []), (⟨(some 25), .nilchk (.t 18), none⟩, []), (⟨(some 26), .idxA 6 1 (.t 25) (.t 20), none⟩, []), (⟨none, .store 1 (.t 26) (.t 24), none⟩, [])])
  (.seq (.drawn [(⟨(some 27), .mov (.t 0), none⟩, []), (⟨(some 28), .mov (.t 1), none⟩, []), (⟨(some 29), .nilchk (.t 27), none⟩, []), (⟨(some 30), .idxA 6 1 (.t 29) (.t 28), none⟩, []), (⟨(some 31), .load1 (.t 30), none⟩, []), (⟨(some 32), .mov (.t 1), none⟩, []), (⟨(some 35), .nilchk (.t 27), none⟩, []), (⟨(some 33), .call (.k (.c (.fn 57 []))) [(.t 32)], none⟩, [⟨(some 31), .load1 (.t 30), none⟩]), (⟨(some 34), .bin .add .int (.t 31) (.t 33), none⟩, []), (⟨(some 36), .idxA 6 1 (.t 35) (.t 28), none⟩, []), (⟨none, .store 1 (.t 36) (.t 34), none⟩, [])])
  (.region [⟨(some 37), .mov (.t 2), none⟩, ⟨(some 38), .nilchk (.t 37), none⟩, ⟨(some 39), .load1 (.t 38), none⟩, ⟨(some 40), .bin .add .int (.t 39) (.k (.c (.int .i64 1))), none⟩, ⟨(some 41), .nilchk (.t 37), none⟩, ⟨none, .store 1 (.t 41) (.t 40), none⟩])))), [], true⟩
theorem c61 : kk 61 = some k61 := by kernel_rfl
/-- (*loop.example/g01263/impl.columns).borrow -/
def k62 : KF := ⟨39, (.seq (.region [⟨(some 4), .mov (.k (.c (.int .i64 0))), none⟩])
  (.seq (.region [⟨(some 5), .mov (.k (.c (.int .i64 1))), none⟩])
  (.seq (.seq (.region [⟨(some 6), .mov (.t 0), none⟩, ⟨(some 7), .mov (.t 1), none⟩, ⟨(some 8), .bin .add .int (.t 7) (.k (.c (.int .i64 1))), none⟩, ⟨(some 9), .nilchk (.t 6), none⟩, ⟨(some 10), .idxA 6 1 (.t 9) (.t 8), none⟩, ⟨(some 11), .load1 (.t 10), none⟩, ⟨(some 12), .bin .eql .int (.t 11) (.k (.c (.int .i64 0))), none⟩])
  (.cond (.t 12) (.region [⟨(some 13), .mov (.t 5), none⟩, ⟨(some 14), .mov (.t 0), none⟩, ⟨(some 15), .mov (.t 1), none⟩, ⟨(some 16), .bin .add .int (.t 15) (.k (.c (.int .i64 1))), none⟩, ⟨(some 17), .call (.k (.c (.fn 62 []))) [(.t 14), (.t 16)], none⟩, ⟨(some 18), .bin .add .int (.t 13) (.t 17), none⟩, ⟨(some 5), .mov (.t 18), none⟩]) .skip))
  (.seq (.drawn [(⟨(some 19), .mov (.t 0), none⟩, []), (⟨(some 20), .mov (.t 1), none⟩, []), (⟨(some 21), .bin .add .int (.t 20) (.k (.c (.int .i64 1))), none⟩, []), (⟨(some 22), .nilchk (.t 19), none⟩, []), (⟨(some 23), .idxA 6 1 (.t 22) (.t 21), none⟩, []), (⟨(some 24), .load1 (.t 23), none⟩, []), (⟨(some 25), .bin .sub .int (.t 24) (.k (.c (.int .i64 1))), none⟩, []), (⟨(some 26), .nilchk (.t 19), none⟩, []), (⟨(some 27), .idxA 6 1 (.t 26) (.t 21), none⟩, []), (⟨none, .store 1 (.t 27) (.t 25), none⟩, [])])
  (.seq (.drawn [(⟨(some 28), .mov (.t 0), none⟩, []), (⟨(some 29), .mov (.t 1), none⟩, []), (⟨(some 30), .nilchk (.t 28), none⟩, []), (⟨(some 31), .idxA 6 1 (.t 30) (.t 29), none⟩, []), (⟨(some 32), .load1 (.t 31), none⟩, []), (⟨(some 33), .mov (.t 1), none⟩, []), (⟨(some 36), .nilchk (.t 28), none⟩, []), (⟨(some 34), .call (.k (.c (.fn 55 []))) [(.t 33)], none⟩, [⟨(some 32), .load1 (.t 31), none⟩]), (⟨(some 35), .bin .add .int (.t 32) (.t 34), none⟩, []), (⟨(some 37), .idxA 6 1 (.t 36) (.t 29), none⟩, []), (⟨none, .store 1 (.t 37) (.t 35), none⟩, [])])
  (.seq (.region [⟨(some 38), .mov (.t 5), none⟩, ⟨(some 4), .mov (.t 38), none⟩])
  .ret)))))), [.tmp 4], true⟩
theorem c62 : kk 62 = some k62 := by kernel_rfl
/-- (*loop.example/g01263/spec.l00Src).next -/
def k63 : KF := ⟨62, (.seq (.region [⟨(some 2), .mov (.k (.c (.int .i64 0))), none⟩])
  (.seq (.region [⟨(some 3), .mov (.k (.c (.int .i64 0))), none⟩])
  (.seq (.seq (.drawn [(⟨(some 4), .mov (.t 0), none⟩, []), (⟨(some 5), .nilchk (.t 4), none⟩, []), (⟨(some 6), .fldA 1 (.t 5), none⟩, []), (⟨(some 7), .load1 (.t 6), none⟩, []), (⟨(some 8), .mov (.t 0), none⟩, []), (⟨(some 9), .nilchk (.t 8), none⟩, []), (⟨(some 10), .fldA 0 (.t 9), none⟩, []), (⟨(some 11), .load1 (.t 10), none⟩, []), (⟨(some 12), .len false (.t 11), none⟩, []), (⟨(some 13), .bin .lss .int (.t 7) (.t 12), none⟩, [])])
  (.cond (.t 13) (.drawn [(⟨(some 14), .mov (.t 0), none⟩, []), (⟨(some 15), .nilchk (.t 14), none⟩, []), (⟨(some 16), .fldA 0 (.t 15), none⟩, []), (⟨(some 17), .load1 (.t 16), none⟩, []), (⟨(some 18), .mov (.t 0), none⟩, []), (⟨(some 19), .nilchk (.t 18), none⟩, []), (⟨(some 20), .fldA 1 (.t 19), none⟩, []), (⟨(some 21), .load1 (.t 20), none⟩, []), (⟨(some 22), .idxS 1 (.t 17) (.t 21), none⟩, []), (⟨(some 23), .load1 (.t 22), none⟩, []), (⟨(some 24), .conv .i64 (.t 23), none⟩, []), (⟨(some 3), .mov (.t 24), none⟩, [])]) .skip))
  (.seq (.region [⟨(some 25), .mov (.t 0), none⟩, ⟨(some 26), .nilchk (.t 25), none⟩, ⟨(some 27), .fldA 1 (.t 26), none⟩, ⟨(some 28), .load1 (.t 27), none⟩, ⟨(some 29), .bin .add .int (.t 28) (.k (.c (.int .i64 1))), none⟩, ⟨(some 30), .nilchk (.t 25), none⟩, ⟨(some 31), .fldA 1 (.t 30), none⟩, ⟨none, .store 1 (.t 31) (.t 29), none⟩])
  (.seq (.region [⟨(some 32), .mov (.t 0), none⟩, ⟨(some 33), .mov (.t 0), none⟩, ⟨(some 34), .nilchk (.t 33), none⟩, ⟨(some 35), .fldA 2 (.t 34), none⟩, ⟨(some 36), .load1 (.t 35), none⟩, ⟨(some 37), .bin .mul .int (.t 36) (.k (.c (.int .u64 6364136223846793005))), none⟩, ⟨(some 38), .mov (.t 3), none⟩, ⟨(some 39), .conv .u64 (.t 38), none⟩, ⟨(some 40), .bin .add .int (.t 37) (.t 39), none⟩, ⟨(some 41), .bin .add .int (.t 40) (.k (.c (.int .u64 1442695040888963407))), none⟩, ⟨(some 42), .nilchk (.t 32), none⟩, ⟨(some 43), .fldA 2 (.t 42), none⟩, ⟨none, .store 1 (.t 43) (.t 41), none⟩])
  (.seq (.seq (.drawn [(⟨(some 44), .mov (.t 0), none⟩, []), (⟨(some 45), .nilchk (.t 44), none⟩, []), (⟨(some 46), .fldA 1 (.t 45), none⟩, []), (⟨(some 47), .load1 (.t 46), none⟩, []), (⟨(some 48), .mov (.t 0), none⟩, []), (⟨(some 49), .nilchk (.t 48), none⟩, []), (⟨(some 50), .fldA 0 (.t 49), none⟩, []), (⟨(some 51), .load1 (.t 50), none⟩, []), (⟨(some 52), .len false (.t 51), none⟩, []), (⟨(some 53), .bin .leq .int (.t 47) (.t 52), none⟩, [])])
  (.cond (.t 53) (.seq (.region [⟨(some 54), .mov (.t 3), none⟩, ⟨(some 2), .mov (.t 54), none⟩])
  .ret) .skip))
  (.seq (.region [⟨(some 55), .mov (.t 0), none⟩, ⟨(some 56), .nilchk (.t 55), none⟩, ⟨(some 57), .fldA 2 (.t 56), none⟩, ⟨(some 58), .load1 (.t 57), none⟩, ⟨(some 59), .bin .shr .int (.t 58) (.k (.c (.int .u64 40))), none⟩, ⟨(some 60), .bin .and .int (.t 59) (.k (.c (.int .u64 255))), none⟩, ⟨(some 61), .conv .i64 (.t 60), none⟩, ⟨(some 2), .mov (.t 61), none⟩])
  .ret))))))), [.tmp 2], true⟩
theorem c63 : kk 63 = some k63 := by kernel_rfl
end Go.Proofs.Ytdkilcphdkmiiaa
