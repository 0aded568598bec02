/- What functions of the program answer: part Code. -/
import Derived.Test.YtmockobmiagbcaaDoorViE
import Derived.Test.YtmockobmiagbcaaDoorViC
import Derived.Test.YtmockobmiagbcaaDoorViA
import Derived.Test.YtmockobmiagbcaaDoorChecked
import Derived.KernelRfl
set_option linter.unusedVariables false
set_option linter.unusedSimpArgs false
set_option linter.unusedSectionVars false
namespace Go.Proofs.YtmockobmiagbcaaDoor
open Go Go.Proofs.YtmockobmiagbcaaDoor.VI
def k30 : KF := kNat 2 3 cutA
def k58 : KF := kNat 2 1 (splitA 9)
def k61 : KF := kNat 2 1 joinA
def k62 : KF := kNat 2 1 fmtA
def k70 : KF := kNat 2 1 idxByteA
def k66 : KF := kNat 1 1 decA
noncomputable def kk : FuncId → Option KF := fun f => if f = 30 then some k30 else if f = 58 then some k58 else if f = 61 then some k61 else if f = 62 then some k62 else if f = 70 then some k70 else if f = 66 then some k66 else cFunc Tryd.prog (!([28, 50, 58, 69, 80] : List Nat).contains f) f
/-- loop.example/g01263/laws.FnInterest -/
def k3 : KF := ⟨335, (.seq (.region [⟨(some 4), .mov (.k (.c (.bool false))), none⟩])
  (.seq (.seq (.region [⟨(some 40), .mov (.t 0), none⟩, ⟨(some 41), .call (.k (.c (.fn 6 []))) [(.t 40)], none⟩, ⟨(some 42), .mov (.t 41), none⟩, ⟨(some 43), .mov (.t 1), some (42, false)⟩, ⟨(some 44), .call (.k (.c (.fn 6 []))) [(.t 43)], some (42, false)⟩, ⟨(some 45), .pick (.t 42) (.k (.c (.bool true))) (.t 44), none⟩])
  (.cond (.t 45) (.seq (.region [⟨(some 4), .mov (.k (.c (.bool true))), none⟩])
  .ret) .skip))
  (.seq (.region [⟨(some 46), .mov (.t 0), none⟩, ⟨(some 47), .call (.k (.c (.fn 7 []))) [(.t 46)], none⟩, ⟨(some 5), .alloc 27 [(.int .i64 0), (.int .i64 0), (.int .i64 0), (.int .i64 0), (.int .i64 0)], none⟩, ⟨none, .store 5 (.t 5) (.t 47), none⟩])
  (.seq (.region [⟨(some 48), .mov (.t 1), none⟩, ⟨(some 49), .call (.k (.c (.fn 8 []))) [(.t 48)], none⟩, ⟨(some 6), .alloc 25 [(.int .i64 0), (.int .i64 0)], none⟩, ⟨none, .store 2 (.t 6) (.t 49), none⟩])
  (.seq (.region [⟨(some 50), .mov (.t 1), none⟩, ⟨(some 51), .call (.k (.c (.fn 9 []))) [(.t 50), (.k (.c (.int .i64 1500)))], none⟩, ⟨(some 7), .mov (.t 51), none⟩])
  (.seq (.region [⟨(some 53), .loadN 5 (.t 5), none⟩, ⟨(some 54), .call (.k (.c (.fn 11 []))) [(.t 53)], none⟩, ⟨(some 55), .call (.k (.c (.fn 10 []))) [(.t 54)], none⟩, ⟨(some 52), .mov (.t 55), none⟩, ⟨(some 56), .ext (.t 52) 0, none⟩, ⟨(some 57), .ext (.t 52) 1, none⟩, ⟨(some 8), .alloc 27 [(.int .i64 0), (.int .i64 0), (.int .i64 0), (.int .i64 0), (.int .i64 0)], none⟩, ⟨none, .store 5 (.t 8) (.t 56), none⟩, ⟨(some 9), .mov (.t 57), none⟩])
  (.seq (.region [⟨(some 59), .fldA 0 (.t 5), none⟩, ⟨(some 60), .load1 (.t 59), none⟩, ⟨(some 61), .loadN 2 (.t 6), none⟩, ⟨(some 62), .mov (.t 7), none⟩, ⟨(some 63), .call (.k (.c (.fn 12 []))) [(.t 60), (.t 61), (.t 62)], none⟩, ⟨(some 58), .mov (.t 63), none⟩, ⟨(some 64), .ext (.t 58) 0, none⟩, ⟨(some 65), .ext (.t 58) 1, none⟩, ⟨(some 10), .mov (.t 64), none⟩, ⟨(some 11), .mov (.t 65), none⟩])
  (.seq (.region [⟨(some 67), .fldA 0 (.t 5), none⟩, ⟨(some 68), .load1 (.t 67), none⟩, ⟨(some 69), .loadN 2 (.t 6), none⟩, ⟨(some 70), .mov (.t 7), none⟩, ⟨(some 71), .call (.k (.c (.fn 13 []))) [(.t 68), (.t 69), (.t 70)], none⟩, ⟨(some 66), .mov (.t 71), none⟩, ⟨(some 72), .ext (.t 66) 0, none⟩, ⟨(some 73), .ext (.t 66) 1, none⟩, ⟨(some 12), .mov (.t 72), none⟩, ⟨(some 13), .mov (.t 73), none⟩])
  (.seq (.region [⟨(some 75), .fldA 0 (.t 5), none⟩, ⟨(some 76), .load1 (.t 75), none⟩, ⟨(some 77), .loadN 2 (.t 6), none⟩, ⟨(some 78), .mov (.t 7), none⟩, ⟨(some 79), .bin .add .int (.t 78) (.k (.c (.int .i64 1))), none⟩, ⟨(some 80), .call (.k (.c (.fn 12 []))) [(.t 76), (.t 77), (.t 79)], none⟩, ⟨(some 74), .mov (.t 80), none⟩, ⟨(some 81), .ext (.t 74) 0, none⟩, ⟨(some 82), .ext (.t 74) 1, none⟩, ⟨(some 14), .mov (.t 81), none⟩, ⟨(some 15), .mov (.t 82), none⟩])
  (.seq (.region [⟨(some 84), .fldA 0 (.t 5), none⟩, ⟨(some 85), .load1 (.t 84), none⟩, ⟨(some 86), .bin .add .int (.t 85) (.k (.c (.int .i64 1))), none⟩, ⟨(some 87), .loadN 2 (.t 6), none⟩, ⟨(some 88), .mov (.t 7), none⟩, ⟨(some 89), .call (.k (.c (.fn 12 []))) [(.t 86), (.t 87), (.t 88)], none⟩, ⟨(some 83), .mov (.t 89), none⟩, ⟨(some 90), .ext (.t 83) 0, none⟩, ⟨(some 91), .ext (.t 83) 1, none⟩, ⟨(some 16), .mov (.t 90), none⟩, ⟨(some 17), .mov (.t 91), none⟩])
  (.seq (.seq (.region [⟨(some 92), .mov (.t 9), none⟩, ⟨(some 93), .bin .neq .int (.t 92) (.k (.c (.int .i64 0))), none⟩, ⟨(some 94), .mov (.t 93), none⟩, ⟨(some 95), .loadN 5 (.t 8), some (94, false)⟩, ⟨(some 96), .loadN 5 (.t 5), some (94, false)⟩, ⟨(some 97), .bin .neq (.agg [.int, .int, .int, .int, .int]) (.t 95) (.t 96), some (94, false)⟩, ⟨(some 98), .pick (.t 94) (.k (.c (.bool true))) (.t 97), none⟩, ⟨(some 99), .mov (.t 98), none⟩, ⟨(some 100), .loadN 5 (.t 5), some (99, false)⟩, ⟨(some 101), .call (.k (.c (.fn 14 []))) [(.t 100)], some (99, false)⟩, ⟨(some 102), .un .not (.t 101), some (99, false)⟩, ⟨(some 103), .pick (.t 99) (.k (.c (.bool true))) (.t 102), none⟩, ⟨(some 104), .mov (.t 103), none⟩, ⟨(some 105), .loadN 2 (.t 6), some (104, false)⟩, ⟨(some 106), .call (.k (.c (.fn 15 []))) [(.t 105)], some (104, false)⟩, ⟨(some 107), .un .not (.t 106), some (104, false)⟩, ⟨(some 108), .pick (.t 104) (.k (.c (.bool true))) (.t 107), none⟩, ⟨(some 109), .mov (.t 108), none⟩, ⟨(some 110), .mov (.t 11), some (109, false)⟩, ⟨(some 111), .mov (.t 13), some (109, false)⟩, ⟨(some 112), .bin .neq .int (.t 110) (.t 111), some (109, false)⟩, ⟨(some 113), .pick (.t 109) (.k (.c (.bool true))) (.t 112), none⟩, ⟨(some 114), .mov (.t 113), none⟩, ⟨(some 115), .mov (.t 11), some (114, false)⟩, ⟨(some 116), .bin .neq .int (.t 115) (.k (.c (.int .i64 0))), some (114, false)⟩, ⟨(some 117), .pick (.t 114) (.k (.c (.bool true))) (.t 116), none⟩, ⟨(some 118), .mov (.t 117), none⟩, ⟨(some 119), .mov (.t 10), some (118, false)⟩, ⟨(some 120), .mov (.t 12), some (118, false)⟩, ⟨(some 121), .bin .neq .int (.t 119) (.t 120), some (118, false)⟩, ⟨(some 122), .pick (.t 118) (.k (.c (.bool true))) (.t 121), none⟩, ⟨(some 123), .mov (.t 122), none⟩, ⟨(some 124), .mov (.t 15), some (123, false)⟩, ⟨(some 125), .bin .neq .int (.t 124) (.k (.c (.int .i64 0))), some (123, false)⟩, ⟨(some 126), .pick (.t 123) (.k (.c (.bool true))) (.t 125), none⟩, ⟨(some 127), .mov (.t 126), none⟩, ⟨(some 128), .mov (.t 14), some (127, false)⟩, ⟨(some 129), .mov (.t 12), some (127, false)⟩, ⟨(some 130), .bin .lss .int (.t 128) (.t 129), some (127, false)⟩, ⟨(some 131), .pick (.t 127) (.k (.c (.bool true))) (.t 130), none⟩, ⟨(some 132), .mov (.t 131), none⟩, ⟨(some 133), .mov (.t 17), some (132, false)⟩, ⟨(some 134), .bin .neq .int (.t 133) (.k (.c (.int .i64 0))), some (132, false)⟩, ⟨(some 135), .pick (.t 132) (.k (.c (.bool true))) (.t 134), none⟩, ⟨(some 136), .mov (.t 135), none⟩, ⟨(some 137), .mov (.t 16), some (136, false)⟩, ⟨(some 138), .mov (.t 12), some (136, false)⟩, ⟨(some 139), .bin .lss .int (.t 137) (.t 138), some (136, false)⟩, ⟨(some 140), .pick (.t 136) (.k (.c (.bool true))) (.t 139), none⟩])
  (.cond (.t 140) (.seq (.region [⟨(some 4), .mov (.k (.c (.bool false))), none⟩])
  .ret) .skip))
  (.seq (.region [⟨(some 142), .fldA 0 (.t 5), none⟩, ⟨(some 143), .load1 (.t 142), none⟩, ⟨(some 144), .loadN 2 (.t 6), none⟩, ⟨(some 145), .mov (.t 7), none⟩, ⟨(some 146), .call (.k (.c (.fn 16 []))) [(.t 143), (.t 144), (.t 145), (.k (.c (.int .i64 0)))], none⟩, ⟨(some 141), .mov (.t 146), none⟩, ⟨(some 147), .ext (.t 141) 0, none⟩, ⟨(some 148), .ext (.t 141) 1, none⟩, ⟨(some 18), .mov (.t 147), none⟩, ⟨(some 19), .mov (.t 148), none⟩])
  (.seq (.region [⟨(some 150), .fldA 0 (.t 5), none⟩, ⟨(some 151), .load1 (.t 150), none⟩, ⟨(some 152), .loadN 2 (.t 6), none⟩, ⟨(some 153), .mov (.t 7), none⟩, ⟨(some 154), .call (.k (.c (.fn 16 []))) [(.t 151), (.t 152), (.t 153), (.k (.c (.int .i64 100)))], none⟩, ⟨(some 149), .mov (.t 154), none⟩, ⟨(some 155), .ext (.t 149) 0, none⟩, ⟨(some 156), .ext (.t 149) 1, none⟩, ⟨(some 20), .mov (.t 155), none⟩, ⟨(some 21), .mov (.t 156), none⟩])
  (.seq (.region [⟨(some 158), .fldA 0 (.t 5), none⟩, ⟨(some 159), .load1 (.t 158), none⟩, ⟨(some 160), .loadN 2 (.t 6), none⟩, ⟨(some 161), .mov (.t 7), none⟩, ⟨(some 162), .call (.k (.c (.fn 17 []))) [(.t 159), (.t 160), (.t 161), (.k (.c (.int .i64 100)))], none⟩, ⟨(some 157), .mov (.t 162), none⟩, ⟨(some 163), .ext (.t 157) 0, none⟩, ⟨(some 164), .ext (.t 157) 1, none⟩, ⟨(some 22), .mov (.t 163), none⟩, ⟨(some 23), .mov (.t 164), none⟩])
  (.seq (.seq (.region [⟨(some 165), .mov (.t 19), none⟩, ⟨(some 166), .bin .neq .int (.t 165) (.k (.c (.int .i64 0))), none⟩, ⟨(some 167), .mov (.t 166), none⟩, ⟨(some 168), .mov (.t 18), some (167, false)⟩, ⟨(some 169), .fldA 0 (.t 5), some (167, false)⟩, ⟨(some 170), .load1 (.t 169), some (167, false)⟩, ⟨(some 171), .mov (.t 12), some (167, false)⟩, ⟨(some 172), .bin .add .int (.t 170) (.t 171), some (167, false)⟩, ⟨(some 173), .bin .neq .int (.t 168) (.t 172), some (167, false)⟩, ⟨(some 174), .pick (.t 167) (.k (.c (.bool true))) (.t 173), none⟩, ⟨(some 175), .mov (.t 174), none⟩, ⟨(some 176), .mov (.t 21), some (175, false)⟩, ⟨(some 177), .mov (.t 23), some (175, false)⟩, ⟨(some 178), .bin .neq .int (.t 176) (.t 177), some (175, false)⟩, ⟨(some 179), .pick (.t 175) (.k (.c (.bool true))) (.t 178), none⟩, ⟨(some 180), .mov (.t 179), none⟩, ⟨(some 181), .mov (.t 21), some (180, false)⟩, ⟨(some 182), .bin .neq .int (.t 181) (.k (.c (.int .i64 0))), some (180, false)⟩, ⟨(some 183), .pick (.t 180) (.k (.c (.bool true))) (.t 182), none⟩, ⟨(some 184), .mov (.t 183), none⟩, ⟨(some 185), .mov (.t 20), some (184, false)⟩, ⟨(some 186), .mov (.t 22), some (184, false)⟩, ⟨(some 187), .bin .neq .int (.t 185) (.t 186), some (184, false)⟩, ⟨(some 188), .pick (.t 184) (.k (.c (.bool true))) (.t 187), none⟩, ⟨(some 189), .mov (.t 188), none⟩, ⟨(some 190), .mov (.t 22), some (189, false)⟩, ⟨(some 191), .fldA 0 (.t 5), some (189, false)⟩, ⟨(some 192), .load1 (.t 191), some (189, false)⟩, ⟨(some 193), .bin .lss .int (.t 190) (.t 192), some (189, false)⟩, ⟨(some 194), .pick (.t 189) (.k (.c (.bool true))) (.t 193), none⟩, ⟨(some 195), .mov (.t 194), none⟩, ⟨(some 196), .mov (.t 22), some (195, false)⟩, ⟨(some 197), .mov (.t 7), some (195, false)⟩, ⟨(some 198), .bin .quo .int (.t 197) (.k (.c (.int .i64 100))), some (195, false)⟩, ⟨(some 199), .bin .add .int (.t 196) (.t 198), some (195, false)⟩, ⟨(some 200), .bin .add .int (.t 199) (.k (.c (.int .i64 1))), some (195, false)⟩, ⟨(some 201), .mov (.t 18), some (195, false)⟩, ⟨(some 202), .bin .lss .int (.t 200) (.t 201), some (195, false)⟩, ⟨(some 203), .pick (.t 195) (.k (.c (.bool true))) (.t 202), none⟩])
  (.cond (.t 203) (.seq (.region [⟨(some 4), .mov (.k (.c (.bool false))), none⟩])
  .ret) .skip))
  (.seq (.region [⟨(some 205), .loadN 5 (.t 5), none⟩, ⟨(some 206), .fldA 1 (.t 5), none⟩, ⟨(some 207), .load1 (.t 206), none⟩, ⟨(some 208), .mov (.t 7), none⟩, ⟨(some 209), .bin .add .int (.t 207) (.t 208), none⟩, ⟨(some 210), .call (.k (.c (.fn 18 []))) [(.t 205), (.t 209)], none⟩, ⟨(some 204), .mov (.t 210), none⟩, ⟨(some 211), .ext (.t 204) 0, none⟩, ⟨(some 212), .ext (.t 204) 1, none⟩, ⟨(some 24), .mov (.t 211), none⟩, ⟨(some 25), .mov (.t 212), none⟩])
  (.seq (.region [⟨(some 214), .loadN 5 (.t 5), none⟩, ⟨(some 215), .fldA 1 (.t 5), none⟩, ⟨(some 216), .load1 (.t 215), none⟩, ⟨(some 217), .mov (.t 7), none⟩, ⟨(some 218), .bin .add .int (.t 216) (.t 217), none⟩, ⟨(some 219), .call (.k (.c (.fn 19 []))) [(.t 214), (.t 218)], none⟩, ⟨(some 213), .mov (.t 219), none⟩, ⟨(some 220), .ext (.t 213) 0, none⟩, ⟨(some 221), .ext (.t 213) 1, none⟩, ⟨(some 26), .mov (.t 220), none⟩, ⟨(some 27), .mov (.t 221), none⟩])
  (.seq (.region [⟨(some 223), .loadN 2 (.t 6), none⟩, ⟨(some 224), .fldA 2 (.t 5), none⟩, ⟨(some 225), .loadN 2 (.t 224), none⟩, ⟨(some 226), .call (.k (.c (.fn 20 []))) [(.t 223), (.t 225)], none⟩, ⟨(some 222), .mov (.t 226), none⟩, ⟨(some 227), .ext (.t 222) 0, none⟩, ⟨(some 228), .ext (.t 222) 1, none⟩, ⟨(some 28), .mov (.t 227), none⟩, ⟨(some 29), .mov (.t 228), none⟩])
  (.seq (.region [⟨(some 230), .fldA 2 (.t 5), none⟩, ⟨(some 231), .loadN 2 (.t 230), none⟩, ⟨(some 232), .loadN 2 (.t 6), none⟩, ⟨(some 233), .call (.k (.c (.fn 20 []))) [(.t 231), (.t 232)], none⟩, ⟨(some 229), .mov (.t 233), none⟩, ⟨(some 234), .ext (.t 229) 0, none⟩, ⟨(some 235), .ext (.t 229) 1, none⟩, ⟨(some 30), .mov (.t 234), none⟩, ⟨(some 31), .mov (.t 235), none⟩])
  (.seq (.seq (.region [⟨(some 236), .mov (.t 25), none⟩, ⟨(some 237), .mov (.t 27), none⟩, ⟨(some 238), .bin .neq .int (.t 236) (.t 237), none⟩, ⟨(some 239), .mov (.t 238), none⟩, ⟨(some 240), .mov (.t 24), some (239, false)⟩, ⟨(some 241), .mov (.t 26), some (239, false)⟩, ⟨(some 242), .bin .neq .int (.t 240) (.t 241), some (239, false)⟩, ⟨(some 243), .pick (.t 239) (.k (.c (.bool true))) (.t 242), none⟩, ⟨(some 244), .mov (.t 243), none⟩, ⟨(some 245), .mov (.t 29), some (244, false)⟩, ⟨(some 246), .bin .neq .int (.t 245) (.k (.c (.int .i64 0))), some (244, false)⟩, ⟨(some 247), .pick (.t 244) (.k (.c (.bool true))) (.t 246), none⟩, ⟨(some 248), .mov (.t 247), none⟩, ⟨(some 249), .mov (.t 31), some (248, false)⟩, ⟨(some 250), .bin .neq .int (.t 249) (.k (.c (.int .i64 0))), some (248, false)⟩, ⟨(some 251), .pick (.t 248) (.k (.c (.bool true))) (.t 250), none⟩, ⟨(some 252), .mov (.t 251), none⟩, ⟨(some 253), .mov (.t 28), some (252, false)⟩, ⟨(some 254), .mov (.t 30), some (252, false)⟩, ⟨(some 255), .un .neg (.t 254), some (252, false)⟩, ⟨(some 256), .bin .neq .int (.t 253) (.t 255), some (252, false)⟩, ⟨(some 257), .pick (.t 252) (.k (.c (.bool true))) (.t 256), none⟩])
  (.cond (.t 257) (.seq (.region [⟨(some 4), .mov (.k (.c (.bool false))), none⟩])
  .ret) .skip))
  (.seq (.region [⟨(some 259), .fldA 0 (.t 5), none⟩, ⟨(some 260), .load1 (.t 259), none⟩, ⟨(some 261), .bin .add .int (.t 260) (.k (.c (.int .i64 1))), none⟩, ⟨(some 262), .loadN 2 (.t 6), none⟩, ⟨(some 263), .fldA 4 (.t 5), none⟩, ⟨(some 264), .load1 (.t 263), none⟩, ⟨(some 265), .call (.k (.c (.fn 21 []))) [(.t 261), (.t 262), (.t 264)], none⟩, ⟨(some 258), .mov (.t 265), none⟩, ⟨(some 266), .ext (.t 258) 0, none⟩, ⟨(some 267), .ext (.t 258) 1, none⟩, ⟨(some 32), .mov (.t 266), none⟩, ⟨(some 33), .mov (.t 267), none⟩])
  (.seq (.region [⟨(some 269), .fldA 0 (.t 5), none⟩, ⟨(some 270), .load1 (.t 269), none⟩, ⟨(some 271), .bin .add .int (.t 270) (.k (.c (.int .i64 1))), none⟩, ⟨(some 272), .loadN 2 (.t 6), none⟩, ⟨(some 273), .fldA 4 (.t 5), none⟩, ⟨(some 274), .load1 (.t 273), none⟩, ⟨(some 275), .call (.k (.c (.fn 22 []))) [(.t 271), (.t 272), (.t 274)], none⟩, ⟨(some 268), .mov (.t 275), none⟩, ⟨(some 276), .ext (.t 268) 0, none⟩, ⟨(some 277), .ext (.t 268) 1, none⟩, ⟨(some 34), .mov (.t 276), none⟩, ⟨(some 35), .mov (.t 277), none⟩])
  (.seq (.seq (.region [⟨(some 278), .mov (.t 33), none⟩, ⟨(some 279), .mov (.t 35), none⟩, ⟨(some 280), .bin .neq .int (.t 278) (.t 279), none⟩, ⟨(some 281), .mov (.t 280), none⟩, ⟨(some 282), .mov (.t 32), some (281, false)⟩, ⟨(some 283), .mov (.t 34), some (281, false)⟩, ⟨(some 284), .bin .neq .int (.t 282) (.t 283), some (281, false)⟩, ⟨(some 285), .pick (.t 281) (.k (.c (.bool true))) (.t 284), none⟩])
  (.cond (.t 285) (.seq (.region [⟨(some 4), .mov (.k (.c (.bool false))), none⟩])
  .ret) .skip))
  (.seq (.seq (.region [⟨(some 286), .mov (.t 33), none⟩, ⟨(some 287), .bin .neq .int (.t 286) (.k (.c (.int .i64 0))), none⟩])
  (.cond (.t 287) (.seq (.region [⟨(some 288), .mov (.t 33), none⟩, ⟨(some 289), .bin .eql .int (.t 288) (.k (.c (.int .i64 6))), none⟩, ⟨(some 4), .mov (.t 289), none⟩])
  .ret) .skip))
  (.seq (.region [⟨(some 291), .fldA 0 (.t 5), none⟩, ⟨(some 292), .load1 (.t 291), none⟩, ⟨(some 293), .bin .add .int (.t 292) (.k (.c (.int .i64 1))), none⟩, ⟨(some 294), .loadN 2 (.t 6), none⟩, ⟨(some 295), .mov (.t 34), none⟩, ⟨(some 296), .fldA 4 (.t 5), none⟩, ⟨(some 297), .load1 (.t 296), none⟩, ⟨(some 298), .call (.k (.c (.fn 16 []))) [(.t 293), (.t 294), (.t 295), (.t 297)], none⟩, ⟨(some 290), .mov (.t 298), none⟩, ⟨(some 299), .ext (.t 290) 0, none⟩, ⟨(some 300), .ext (.t 290) 1, none⟩, ⟨(some 36), .mov (.t 299), none⟩, ⟨(some 37), .mov (.t 300), none⟩])
  (.seq (.seq (.region [⟨(some 301), .mov (.t 37), none⟩, ⟨(some 302), .bin .neq .int (.t 301) (.k (.c (.int .i64 0))), none⟩, ⟨(some 303), .mov (.t 302), none⟩, ⟨(some 304), .mov (.t 36), some (303, false)⟩, ⟨(some 305), .fldA 0 (.t 5), some (303, false)⟩, ⟨(some 306), .load1 (.t 305), some (303, false)⟩, ⟨(some 307), .bin .add .int (.t 306) (.k (.c (.int .i64 1))), some (303, false)⟩, ⟨(some 308), .bin .mul .int (.k (.c (.int .i64 2))) (.t 307), some (303, false)⟩, ⟨(some 309), .bin .lss .int (.t 304) (.t 308), some (303, false)⟩, ⟨(some 310), .pick (.t 303) (.k (.c (.bool true))) (.t 309), none⟩])
  (.cond (.t 310) (.seq (.region [⟨(some 4), .mov (.k (.c (.bool false))), none⟩])
  .ret) .skip))
  (.seq (.seq (.region [⟨(some 311), .mov (.t 34), none⟩, ⟨(some 312), .bin .eql .int (.t 311) (.k (.c (.int .i64 0))), none⟩])
  (.cond (.t 312) (.seq (.region [⟨(some 4), .mov (.k (.c (.bool false))), none⟩])
  .ret) .skip))
  (.seq (.region [⟨(some 314), .fldA 0 (.t 5), none⟩, ⟨(some 315), .load1 (.t 314), none⟩, ⟨(some 316), .bin .add .int (.t 315) (.k (.c (.int .i64 1))), none⟩, ⟨(some 317), .loadN 2 (.t 6), none⟩, ⟨(some 318), .mov (.t 34), none⟩, ⟨(some 319), .bin .sub .int (.t 318) (.k (.c (.int .i64 1))), none⟩, ⟨(some 320), .fldA 4 (.t 5), none⟩, ⟨(some 321), .load1 (.t 320), none⟩, ⟨(some 322), .call (.k (.c (.fn 16 []))) [(.t 316), (.t 317), (.t 319), (.t 321)], none⟩, ⟨(some 313), .mov (.t 322), none⟩, ⟨(some 323), .ext (.t 313) 0, none⟩, ⟨(some 324), .ext (.t 313) 1, none⟩, ⟨(some 38), .mov (.t 323), none⟩, ⟨(some 39), .mov (.t 324), none⟩])
  (.seq (.region [⟨(some 325), .mov (.t 39), none⟩, ⟨(some 326), .bin .eql .int (.t 325) (.k (.c (.int .i64 0))), none⟩, ⟨(some 327), .mov (.t 326), none⟩, ⟨(some 328), .mov (.t 38), some (327, true)⟩, ⟨(some 329), .fldA 0 (.t 5), some (327, true)⟩, ⟨(some 330), .load1 (.t 329), some (327, true)⟩, ⟨(some 331), .bin .add .int (.t 330) (.k (.c (.int .i64 1))), some (327, true)⟩, ⟨(some 332), .bin .mul .int (.k (.c (.int .i64 2))) (.t 331), some (327, true)⟩, ⟨(some 333), .bin .lss .int (.t 328) (.t 332), some (327, true)⟩, ⟨(some 334), .pick (.t 327) (.t 333) (.k (.c (.bool false))), none⟩, ⟨(some 4), .mov (.t 334), none⟩])
  .ret))))))))))))))))))))))))))))), [.tmp 4], true⟩
theorem c3 : kk 3 = some k3 := by kernel_rfl
/-- loop.example/g01263/laws.FnExactLoanText -/
def k4 : KF := ⟨14, (.seq (.region [⟨(some 1), .box 44 (.t 0), none⟩, ⟨(some 2), .mov (.k (.c (.bool false))), none⟩])
  (.seq (.region [⟨(some 5), .loadN 5 (.t 1), none⟩, ⟨(some 6), .call (.k (.c (.fn 24 []))) [(.t 5)], none⟩, ⟨(some 7), .call (.k (.c (.fn 23 []))) [(.t 6)], none⟩, ⟨(some 3), .mov (.t 7), none⟩])
  (.seq (.region [⟨(some 8), .loadN 5 (.t 1), none⟩, ⟨(some 9), .call (.k (.c (.fn 24 []))) [(.t 8)], none⟩, ⟨(some 10), .call (.k (.c (.fn 11 []))) [(.t 9)], none⟩, ⟨(some 4), .mov (.t 10), none⟩])
  (.seq (.seq (.region [⟨(some 11), .mov (.t 4), none⟩, ⟨(some 12), .mov (.t 3), none⟩, ⟨(some 13), .bin .neq .str (.t 11) (.t 12), none⟩])
  (.cond (.t 13) (.seq (.region [⟨(some 2), .mov (.k (.c (.bool false))), none⟩])
  .ret) .skip))
  (.seq (.region [⟨(some 2), .mov (.k (.c (.bool true))), none⟩])
  .ret))))), [.tmp 2], true⟩
theorem c4 : kk 4 = some k4 := by kernel_rfl
/-- loop.example/g01263/laws.FnExactReadLoan -/
def k5 : KF := ⟨29, (.seq (.region [⟨(some 2), .mov (.k (.c (.bool false))), none⟩])
  (.seq (.seq (.region [⟨(some 7), .mov (.t 0), none⟩, ⟨(some 8), .len true (.t 7), none⟩, ⟨(some 9), .bin .gtr .int (.t 8) (.k (.c (.int .i64 1048576))), none⟩])
  (.cond (.t 9) (.seq (.region [⟨(some 2), .mov (.k (.c (.bool true))), none⟩])
  .ret) .skip))
  (.seq (.region [⟨(some 11), .mov (.t 0), none⟩, ⟨(some 12), .call (.k (.c (.fn 25 []))) [(.t 11)], none⟩, ⟨(some 10), .mov (.t 12), none⟩, ⟨(some 13), .ext (.t 10) 0, none⟩, ⟨(some 14), .ext (.t 10) 1, none⟩, ⟨(some 3), .alloc 27 [(.int .i64 0), (.int .i64 0), (.int .i64 0), (.int .i64 0), (.int .i64 0)], none⟩, ⟨none, .store 5 (.t 3) (.t 13), none⟩, ⟨(some 4), .mov (.t 14), none⟩])
  (.seq (.region [⟨(some 16), .mov (.t 0), none⟩, ⟨(some 17), .call (.k (.c (.fn 10 []))) [(.t 16)], none⟩, ⟨(some 15), .mov (.t 17), none⟩, ⟨(some 18), .ext (.t 15) 0, none⟩, ⟨(some 19), .ext (.t 15) 1, none⟩, ⟨(some 5), .alloc 27 [(.int .i64 0), (.int .i64 0), (.int .i64 0), (.int .i64 0), (.int .i64 0)], none⟩, ⟨none, .store 5 (.t 5) (.t 18), none⟩, ⟨(some 6), .mov (.t 19), none⟩])
  (.seq (.seq (.region [⟨(some 20), .loadN 5 (.t 5), none⟩, ⟨(some 21), .loadN 5 (.t 3), none⟩, ⟨(some 22), .call (.k (.c (.fn 26 []))) [(.t 20), (.t 21)], none⟩, ⟨(some 23), .un .not (.t 22), none⟩, ⟨(some 24), .mov (.t 23), none⟩, ⟨(some 25), .mov (.t 6), some (24, false)⟩, ⟨(some 26), .mov (.t 4), some (24, false)⟩, ⟨(some 27), .bin .neq .int (.t 25) (.t 26), some (24, false)⟩, ⟨(some 28), .pick (.t 24) (.k (.c (.bool true))) (.t 27), none⟩])
  (.cond (.t 28) (.seq (.region [⟨(some 2), .mov (.k (.c (.bool false))), none⟩])
  .ret) .skip))
  (.seq (.region [⟨(some 2), .mov (.k (.c (.bool true))), none⟩])
  .ret)))))), [.tmp 2], true⟩
theorem c5 : kk 5 = some k5 := by kernel_rfl
/-- loop.example/g01263/laws.f6big -/
def k6 : KF := ⟨6, (.seq (.region [⟨(some 2), .mov (.k (.c (.bool false))), none⟩])
  (.seq (.region [⟨(some 3), .mov (.t 0), none⟩, ⟨(some 4), .len false (.t 3), none⟩, ⟨(some 5), .bin .gtr .int (.t 4) (.k (.c (.int .i64 4096))), none⟩, ⟨(some 2), .mov (.t 5), none⟩])
  .ret)), [.tmp 2], true⟩
theorem c6 : kk 6 = some k6 := by kernel_rfl
/-- loop.example/g01263/spec.P6Loan -/
def k7 : KF := ⟨6, (.seq (.region [⟨(some 2), .alloc 27 [(.int .i64 0), (.int .i64 0), (.int .i64 0), (.int .i64 0), (.int .i64 0)], none⟩])
  (.seq (.region [⟨(some 3), .mov (.t 0), none⟩, ⟨(some 4), .call (.k (.c (.fn 28 []))) [(.t 3)], none⟩, ⟨(some 5), .call (.k (.c (.fn 27 []))) [(.t 4)], none⟩, ⟨none, .store 5 (.t 2) (.t 5), none⟩])
  .ret)), [.cellN 2 5], true⟩
theorem c7 : kk 7 = some k7 := by kernel_rfl
/-- loop.example/g01263/spec.P6Rate -/
def k8 : KF := ⟨12, (.seq (.region [⟨(some 2), .alloc 25 [(.int .i64 0), (.int .i64 0)], none⟩])
  (.seq (.region [⟨(some 4), .mov (.t 0), none⟩, ⟨(some 5), .call (.k (.c (.fn 28 []))) [(.t 4)], none⟩, ⟨(some 3), .mov (.t 5), none⟩])
  (.seq (.region [⟨(some 6), .mov (.t 3), none⟩, ⟨(some 7), .call (.k (.c (.fn 29 []))) [(.t 6), (.k (.c (.int .i64 30)))], none⟩, ⟨(some 8), .mov (.t 3), none⟩, ⟨(some 9), .call (.k (.c (.fn 29 []))) [(.t 8), (.k (.c (.int .i64 170)))], none⟩, ⟨(some 10), .bin .add .int (.k (.c (.int .i64 30))) (.t 9), none⟩, ⟨(some 11), .build [(.int .i64 0), (.int .i64 0)] [(0, 1, (.t 7)), (1, 1, (.t 10))], none⟩, ⟨none, .store 2 (.t 2) (.t 11), none⟩])
  .ret))), [.cellN 2 2], true⟩
theorem c8 : kk 8 = some k8 := by kernel_rfl
/-- loop.example/g01263/spec.P6Pick -/
def k9 : KF := ⟨9, (.seq (.region [⟨(some 4), .mov (.k (.c (.int .i64 0))), none⟩])
  (.seq (.region [⟨(some 5), .mov (.t 0), none⟩, ⟨(some 6), .call (.k (.c (.fn 28 []))) [(.t 5)], none⟩, ⟨(some 7), .mov (.t 1), none⟩, ⟨(some 8), .call (.k (.c (.fn 29 []))) [(.t 6), (.t 7)], none⟩, ⟨(some 4), .mov (.t 8), none⟩])
  .ret)), [.tmp 4], true⟩
theorem c9 : kk 9 = some k9 := by kernel_rfl
/-- loop.example/g01263/impl.ReadLoan -/
def l10_0 : KC := (.seq (.region [⟨(some 93), .bin .lss .int (.t 92) (.t 91), none⟩])
  (.seq (.cond (.t 93) .skip (.exit 0))
  (.seq (.block 1 (.seq (.region [⟨(some 94), .mov (.t 92), none⟩, ⟨(some 95), .idxS 1 (.t 90) (.t 92), none⟩, ⟨(some 96), .load1 (.t 95), none⟩, ⟨(some 21), .mov (.t 94), none⟩, ⟨(some 22), .mov (.t 96), none⟩])
  (.seq (.region [⟨(some 98), .mov (.t 22), none⟩, ⟨(some 99), .call (.k (.c (.fn 32 []))) [(.t 98)], none⟩, ⟨(some 97), .mov (.t 99), none⟩, ⟨(some 100), .ext (.t 97) 0, none⟩, ⟨(some 101), .ext (.t 97) 1, none⟩, ⟨(some 23), .mov (.t 100), none⟩, ⟨(some 24), .mov (.t 101), none⟩])
  (.seq (.seq (.region [⟨(some 102), .mov (.t 24), none⟩, ⟨(some 103), .un .not (.t 102), none⟩])
  (.cond (.t 103) (.seq (.region [⟨(some 104), .build [(.int .i64 0), (.int .i64 0), (.int .i64 0), (.int .i64 0), (.int .i64 0)] [], none⟩, ⟨none, .store 5 (.t 2) (.t 104), none⟩, ⟨(some 3), .mov (.k (.c (.int .i64 5))), none⟩])
  .ret) .skip))
  (.region [⟨(some 105), .mov (.t 19), none⟩, ⟨(some 106), .mov (.t 21), none⟩, ⟨(some 107), .idxS 1 (.t 105) (.t 106), none⟩, ⟨(some 108), .load1 (.t 107), none⟩, ⟨(some 109), .mov (.t 23), none⟩, ⟨(some 110), .nilchk (.t 108), none⟩, ⟨none, .store 1 (.t 110) (.t 109), none⟩])))))
  (.region [⟨(some 111), .bin .add .int (.t 92) (.k (.c (.int .i64 1))), none⟩, ⟨(some 92), .mov (.t 111), none⟩]))))
def k10 : KF := ⟨123, (.seq (.region [⟨(some 2), .alloc 27 [(.int .i64 0), (.int .i64 0), (.int .i64 0), (.int .i64 0), (.int .i64 0)], none⟩, ⟨(some 3), .mov (.k (.c (.int .i64 0))), none⟩])
  (.seq (.region [⟨(some 26), .mov (.t 0), none⟩, ⟨(some 27), .call (.k (.c (.fn 30 []))) [(.t 26), (.k (.c (.str ⟨#[32, 111, 110, 32]⟩)))], none⟩, ⟨(some 25), .mov (.t 27), none⟩, ⟨(some 28), .ext (.t 25) 0, none⟩, ⟨(some 29), .ext (.t 25) 1, none⟩, ⟨(some 30), .ext (.t 25) 2, none⟩, ⟨(some 4), .mov (.t 28), none⟩, ⟨(some 5), .mov (.t 29), none⟩, ⟨(some 6), .mov (.t 30), none⟩])
  (.seq (.region [⟨(some 32), .mov (.t 5), none⟩, ⟨(some 33), .call (.k (.c (.fn 30 []))) [(.t 32), (.k (.c (.str ⟨#[32, 97, 116, 32]⟩)))], none⟩, ⟨(some 31), .mov (.t 33), none⟩, ⟨(some 34), .ext (.t 31) 0, none⟩, ⟨(some 35), .ext (.t 31) 1, none⟩, ⟨(some 36), .ext (.t 31) 2, none⟩, ⟨(some 7), .mov (.t 34), none⟩, ⟨(some 8), .mov (.t 35), none⟩, ⟨(some 9), .mov (.t 36), none⟩])
  (.seq (.region [⟨(some 38), .mov (.t 8), none⟩, ⟨(some 39), .call (.k (.c (.fn 30 []))) [(.t 38), (.k (.c (.str ⟨#[32, 101, 118, 101, 114, 121, 32]⟩)))], none⟩, ⟨(some 37), .mov (.t 39), none⟩, ⟨(some 40), .ext (.t 37) 0, none⟩, ⟨(some 41), .ext (.t 37) 1, none⟩, ⟨(some 42), .ext (.t 37) 2, none⟩, ⟨(some 10), .mov (.t 40), none⟩, ⟨(some 11), .mov (.t 41), none⟩, ⟨(some 12), .mov (.t 42), none⟩])
  (.seq (.region [⟨(some 44), .mov (.t 10), none⟩, ⟨(some 45), .call (.k (.c (.fn 30 []))) [(.t 44), (.k (.c (.str ⟨#[47]⟩)))], none⟩, ⟨(some 43), .mov (.t 45), none⟩, ⟨(some 46), .ext (.t 43) 0, none⟩, ⟨(some 47), .ext (.t 43) 1, none⟩, ⟨(some 48), .ext (.t 43) 2, none⟩, ⟨(some 13), .mov (.t 46), none⟩, ⟨(some 14), .mov (.t 47), none⟩, ⟨(some 15), .mov (.t 48), none⟩])
  (.seq (.region [⟨(some 50), .mov (.t 4), none⟩, ⟨(some 51), .call (.k (.c (.fn 31 []))) [(.t 50)], none⟩, ⟨(some 49), .mov (.t 51), none⟩, ⟨(some 52), .ext (.t 49) 0, none⟩, ⟨(some 53), .ext (.t 49) 1, none⟩, ⟨(some 16), .mov (.t 52), none⟩, ⟨(some 17), .mov (.t 53), none⟩])
  (.seq (.seq (.region [⟨(some 54), .mov (.t 6), none⟩, ⟨(some 55), .un .not (.t 54), none⟩, ⟨(some 56), .mov (.t 55), none⟩, ⟨(some 57), .mov (.t 9), some (56, false)⟩, ⟨(some 58), .un .not (.t 57), some (56, false)⟩, ⟨(some 59), .pick (.t 56) (.k (.c (.bool true))) (.t 58), none⟩, ⟨(some 60), .mov (.t 59), none⟩, ⟨(some 61), .mov (.t 15), some (60, false)⟩, ⟨(some 62), .un .not (.t 61), some (60, false)⟩, ⟨(some 63), .pick (.t 60) (.k (.c (.bool true))) (.t 62), none⟩, ⟨(some 64), .mov (.t 63), none⟩, ⟨(some 65), .mov (.t 17), some (64, false)⟩, ⟨(some 66), .bin .neq .int (.t 65) (.k (.c (.int .i64 0))), some (64, false)⟩, ⟨(some 67), .pick (.t 64) (.k (.c (.bool true))) (.t 66), none⟩])
  (.cond (.t 67) (.seq (.region [⟨(some 68), .build [(.int .i64 0), (.int .i64 0), (.int .i64 0), (.int .i64 0), (.int .i64 0)] [], none⟩, ⟨none, .store 5 (.t 2) (.t 68), none⟩, ⟨(some 3), .mov (.k (.c (.int .i64 5))), none⟩])
  .ret) .skip))
  (.seq (.region [⟨(some 69), .mov (.t 16), none⟩, ⟨(some 70), .build [(.int .i64 0), (.int .i64 0), (.int .i64 0), (.int .i64 0), (.int .i64 0)] [(0, 1, (.t 69))], none⟩, ⟨(some 18), .alloc 27 [(.int .i64 0), (.int .i64 0), (.int .i64 0), (.int .i64 0), (.int .i64 0)], none⟩, ⟨none, .store 5 (.t 18) (.t 70), none⟩])
  (.seq (.region [⟨(some 71), .fldA 1 (.t 18), none⟩, ⟨(some 72), .fldA 2 (.t 18), none⟩, ⟨(some 73), .fldA 0 (.t 72), none⟩, ⟨(some 74), .fldA 2 (.t 18), none⟩, ⟨(some 75), .fldA 1 (.t 74), none⟩, ⟨(some 76), .buildSl 56 3 [(.ptr none), (.ptr none), (.ptr none)] [(0, 1, (.t 71)), (1, 1, (.t 73)), (2, 1, (.t 75))], none⟩, ⟨(some 19), .mov (.t 76), none⟩])
  (.seq (.region [⟨(some 77), .mov (.t 7), none⟩, ⟨(some 78), .mov (.t 13), none⟩, ⟨(some 79), .mov (.t 14), none⟩, ⟨(some 80), .buildSl 9 3 [(.str ⟨#[]⟩), (.str ⟨#[]⟩), (.str ⟨#[]⟩)] [(0, 1, (.t 77)), (1, 1, (.t 78)), (2, 1, (.t 79))], none⟩, ⟨(some 20), .mov (.t 80), none⟩])
  (.seq (.seq (.region [⟨(some 81), .mov (.t 12), none⟩])
  (.cond (.t 81) (.seq (.region [⟨(some 82), .mov (.t 19), none⟩, ⟨(some 83), .fldA 4 (.t 18), none⟩, ⟨(some 84), .buildSl 56 1 [(.ptr none)] [(0, 1, (.t 83))], none⟩, ⟨(some 85), .app 56 1 8 (.t 82) (.t 84), none⟩, ⟨(some 19), .mov (.t 85), none⟩])
  (.region [⟨(some 86), .mov (.t 20), none⟩, ⟨(some 87), .mov (.t 11), none⟩, ⟨(some 88), .buildSl 9 1 [(.str ⟨#[]⟩)] [(0, 1, (.t 87))], none⟩, ⟨(some 89), .app 9 1 16 (.t 86) (.t 88), none⟩, ⟨(some 20), .mov (.t 89), none⟩])) .skip))
  (.seq (.seq (.region [⟨(some 90), .mov (.t 20), none⟩, ⟨(some 91), .len false (.t 90), none⟩, ⟨(some 92), .mov (.k (.c (.int .i64 0))), none⟩])
  (.block 0 (.loop l10_0)))
  (.seq (.seq (.region [⟨(some 112), .loadN 5 (.t 18), none⟩, ⟨(some 113), .call (.k (.c (.fn 14 []))) [(.t 112)], none⟩, ⟨(some 114), .un .not (.t 113), none⟩, ⟨(some 115), .mov (.t 114), none⟩, ⟨(some 116), .loadN 5 (.t 18), some (115, false)⟩, ⟨(some 117), .call (.k (.c (.fn 11 []))) [(.t 116)], some (115, false)⟩, ⟨(some 118), .mov (.t 0), some (115, false)⟩, ⟨(some 119), .bin .neq .str (.t 117) (.t 118), some (115, false)⟩, ⟨(some 120), .pick (.t 115) (.k (.c (.bool true))) (.t 119), none⟩])
  (.cond (.t 120) (.seq (.region [⟨(some 121), .build [(.int .i64 0), (.int .i64 0), (.int .i64 0), (.int .i64 0), (.int .i64 0)] [], none⟩, ⟨none, .store 5 (.t 2) (.t 121), none⟩, ⟨(some 3), .mov (.k (.c (.int .i64 5))), none⟩])
  .ret) .skip))
  (.seq (.region [⟨(some 122), .loadN 5 (.t 18), none⟩, ⟨none, .store 5 (.t 2) (.t 122), none⟩, ⟨(some 3), .mov (.k (.c (.int .i64 0))), none⟩])
  .ret)))))))))))))), [.cellN 2 5, .tmp 3], true⟩
theorem c10 : kk 10 = some k10 := by kernel_rfl
/-- loop.example/g01263/impl.LoanText -/
def k11 : KF := ⟨37, (.seq (.region [⟨(some 1), .box 27 (.t 0), none⟩, ⟨(some 2), .mov (.k (.c (.str ⟨#[]⟩))), none⟩])
  (.seq (.seq (.region [⟨(some 4), .loadN 5 (.t 1), none⟩, ⟨(some 5), .call (.k (.c (.fn 14 []))) [(.t 4)], none⟩, ⟨(some 6), .un .not (.t 5), none⟩])
  (.cond (.t 6) (.seq (.region [⟨(some 2), .mov (.k (.c (.str ⟨#[]⟩))), none⟩])
  .ret) .skip))
  (.seq (.drawn [(⟨(some 7), .fldA 0 (.t 1), none⟩, []), (⟨(some 8), .load1 (.t 7), none⟩, []), (⟨(some 11), .fldA 1 (.t 1), none⟩, []), (⟨(some 12), .load1 (.t 11), none⟩, []), (⟨(some 16), .fldA 2 (.t 1), none⟩, []), (⟨(some 17), .fldA 0 (.t 16), none⟩, []), (⟨(some 18), .load1 (.t 17), none⟩, []), (⟨(some 22), .fldA 2 (.t 1), none⟩, []), (⟨(some 23), .fldA 1 (.t 22), none⟩, []), (⟨(some 24), .load1 (.t 23), none⟩, []), (⟨(some 9), .call (.k (.c (.fn 33 []))) [(.t 8)], none⟩, [⟨(some 12), .load1 (.t 11), none⟩, ⟨(some 18), .load1 (.t 17), none⟩, ⟨(some 24), .load1 (.t 23), none⟩]), (⟨(some 10), .bin .add .str (.t 9) (.k (.c (.str ⟨#[32, 111, 110, 32]⟩))), none⟩, []), (⟨(some 13), .call (.k (.c (.fn 34 []))) [(.t 12)], none⟩, [⟨(some 18), .load1 (.t 17), none⟩, ⟨(some 24), .load1 (.t 23), none⟩]), (⟨(some 14), .bin .add .str (.t 10) (.t 13), none⟩, []), (⟨(some 15), .bin .add .str (.t 14) (.k (.c (.str ⟨#[32, 97, 116, 32]⟩))), none⟩, []), (⟨(some 19), .call (.k (.c (.fn 34 []))) [(.t 18)], none⟩, [⟨(some 24), .load1 (.t 23), none⟩]), (⟨(some 20), .bin .add .str (.t 15) (.t 19), none⟩, []), (⟨(some 21), .bin .add .str (.t 20) (.k (.c (.str ⟨#[47]⟩))), none⟩, []), (⟨(some 25), .call (.k (.c (.fn 34 []))) [(.t 24)], none⟩, []), (⟨(some 26), .bin .add .str (.t 21) (.t 25), none⟩, []), (⟨(some 3), .mov (.t 26), none⟩, [])])
  (.seq (.seq (.region [⟨(some 27), .fldA 4 (.t 1), none⟩, ⟨(some 28), .load1 (.t 27), none⟩, ⟨(some 29), .bin .gtr .int (.t 28) (.k (.c (.int .i64 0))), none⟩])
  (.cond (.t 29) (.region [⟨(some 30), .mov (.t 3), none⟩, ⟨(some 31), .fldA 4 (.t 1), none⟩, ⟨(some 32), .load1 (.t 31), none⟩, ⟨(some 33), .call (.k (.c (.fn 34 []))) [(.t 32)], none⟩, ⟨(some 34), .bin .add .str (.k (.c (.str ⟨#[32, 101, 118, 101, 114, 121, 32]⟩))) (.t 33), none⟩, ⟨(some 35), .bin .add .str (.t 30) (.t 34), none⟩, ⟨(some 3), .mov (.t 35), none⟩]) .skip))
  (.seq (.region [⟨(some 36), .mov (.t 3), none⟩, ⟨(some 2), .mov (.t 36), none⟩])
  .ret))))), [.tmp 2], true⟩
theorem c11 : kk 11 = some k11 := by kernel_rfl
/-- loop.example/g01263/impl.InterestFor -/
def k12 : KF := ⟨25, (.seq (.region [⟨(some 4), .box 25 (.t 1), none⟩, ⟨(some 6), .mov (.k (.c (.int .i64 0))), none⟩, ⟨(some 7), .mov (.k (.c (.int .i64 0))), none⟩])
  (.seq (.seq (.region [⟨(some 9), .loadN 2 (.t 4), none⟩, ⟨(some 10), .mov (.t 0), none⟩, ⟨(some 11), .buildSl 2 1 [(.int .i64 0)] [(0, 1, (.t 10))], none⟩, ⟨(some 12), .mov (.t 2), none⟩, ⟨(some 13), .buildSl 2 1 [(.int .i64 0)] [(0, 1, (.t 12))], none⟩, ⟨(some 14), .call (.k (.c (.fn 35 []))) [(.t 9), (.t 11), (.t 13)], none⟩, ⟨(some 8), .mov (.t 14), none⟩])
  (.seq (.region [⟨(some 15), .mov (.t 8), none⟩, ⟨(some 16), .bin .neq .int (.t 15) (.k (.c (.int .i64 0))), none⟩])
  (.cond (.t 16) (.seq (.region [⟨(some 17), .mov (.t 8), none⟩, ⟨(some 6), .mov (.k (.c (.int .i64 0))), none⟩, ⟨(some 7), .mov (.t 17), none⟩])
  .ret) .skip)))
  (.seq (.region [⟨(some 18), .mov (.t 0), none⟩, ⟨(some 19), .loadN 2 (.t 4), none⟩, ⟨(some 20), .mov (.t 2), none⟩, ⟨(some 21), .call (.k (.c (.fn 37 []))) [(.t 18), (.t 19), (.t 20)], none⟩, ⟨(some 22), .call (.k (.c (.fn 36 []))) [(.t 21)], none⟩, ⟨(some 23), .ext (.t 22) 0, none⟩, ⟨(some 24), .ext (.t 22) 1, none⟩, ⟨(some 6), .mov (.t 23), none⟩, ⟨(some 7), .mov (.t 24), none⟩])
  .ret))), [.tmp 6, .tmp 7], true⟩
theorem c12 : kk 12 = some k12 := by kernel_rfl
/-- loop.example/g01263/spec.InterestFor -/
def k13 : KF := ⟨23, (.seq (.region [⟨(some 4), .box 25 (.t 1), none⟩, ⟨(some 6), .mov (.k (.c (.int .i64 0))), none⟩, ⟨(some 7), .mov (.k (.c (.int .i64 0))), none⟩])
  (.seq (.seq (.region [⟨(some 9), .mov (.t 0), none⟩, ⟨(some 10), .loadN 2 (.t 4), none⟩, ⟨(some 11), .mov (.t 2), none⟩, ⟨(some 12), .call (.k (.c (.fn 38 []))) [(.t 9), (.t 10), (.t 11)], none⟩, ⟨(some 8), .mov (.t 12), none⟩])
  (.seq (.region [⟨(some 13), .mov (.t 8), none⟩, ⟨(some 14), .bin .neq .int (.t 13) (.k (.c (.int .i64 0))), none⟩])
  (.cond (.t 14) (.seq (.region [⟨(some 15), .mov (.t 8), none⟩, ⟨(some 6), .mov (.k (.c (.int .i64 0))), none⟩, ⟨(some 7), .mov (.t 15), none⟩])
  .ret) .skip)))
  (.seq (.region [⟨(some 16), .mov (.t 0), none⟩, ⟨(some 17), .loadN 2 (.t 4), none⟩, ⟨(some 18), .mov (.t 2), none⟩, ⟨(some 19), .call (.k (.c (.fn 40 []))) [(.t 16), (.t 17), (.t 18)], none⟩, ⟨(some 20), .call (.k (.c (.fn 39 []))) [(.t 19)], none⟩, ⟨(some 21), .ext (.t 20) 0, none⟩, ⟨(some 22), .ext (.t 20) 1, none⟩, ⟨(some 6), .mov (.t 21), none⟩, ⟨(some 7), .mov (.t 22), none⟩])
  .ret))), [.tmp 6, .tmp 7], true⟩
theorem c13 : kk 13 = some k13 := by kernel_rfl
/-- loop.example/g01263/impl.ValidLoan -/
def k14 : KF := ⟨21, (.seq (.region [⟨(some 1), .box 27 (.t 0), none⟩, ⟨(some 2), .mov (.k (.c (.bool false))), none⟩])
  (.seq (.region [⟨(some 3), .fldA 0 (.t 1), none⟩, ⟨(some 4), .load1 (.t 3), none⟩, ⟨(some 5), .call (.k (.c (.fn 41 []))) [(.t 4)], none⟩, ⟨(some 6), .mov (.t 5), none⟩, ⟨(some 7), .fldA 1 (.t 1), some (6, true)⟩, ⟨(some 8), .load1 (.t 7), some (6, true)⟩, ⟨(some 9), .call (.k (.c (.fn 42 []))) [(.t 8)], some (6, true)⟩, ⟨(some 10), .pick (.t 6) (.t 9) (.k (.c (.bool false))), none⟩, ⟨(some 11), .mov (.t 10), none⟩, ⟨(some 12), .fldA 2 (.t 1), some (11, true)⟩, ⟨(some 13), .loadN 2 (.t 12), some (11, true)⟩, ⟨(some 14), .call (.k (.c (.fn 15 []))) [(.t 13)], some (11, true)⟩, ⟨(some 15), .pick (.t 11) (.t 14) (.k (.c (.bool false))), none⟩, ⟨(some 16), .mov (.t 15), none⟩, ⟨(some 17), .fldA 4 (.t 1), some (16, true)⟩, ⟨(some 18), .load1 (.t 17), some (16, true)⟩, ⟨(some 19), .call (.k (.c (.fn 42 []))) [(.t 18)], some (16, true)⟩, ⟨(some 20), .pick (.t 16) (.t 19) (.k (.c (.bool false))), none⟩, ⟨(some 2), .mov (.t 20), none⟩])
  .ret)), [.tmp 2], true⟩
theorem c14 : kk 14 = some k14 := by kernel_rfl
/-- loop.example/g01263/impl.ValidRate -/
def k15 : KF := ⟨23, (.seq (.region [⟨(some 1), .box 25 (.t 0), none⟩, ⟨(some 2), .mov (.k (.c (.bool false))), none⟩])
  (.seq (.region [⟨(some 3), .fldA 1 (.t 1), none⟩, ⟨(some 4), .load1 (.t 3), none⟩, ⟨(some 5), .bin .geq .int (.t 4) (.k (.c (.int .i64 1))), none⟩, ⟨(some 6), .mov (.t 5), none⟩, ⟨(some 7), .fldA 1 (.t 1), some (6, true)⟩, ⟨(some 8), .load1 (.t 7), some (6, true)⟩, ⟨(some 9), .bin .leq .int (.t 8) (.k (.c (.int .i64 10000))), some (6, true)⟩, ⟨(some 10), .pick (.t 6) (.t 9) (.k (.c (.bool false))), none⟩, ⟨(some 11), .mov (.t 10), none⟩, ⟨(some 12), .fldA 0 (.t 1), some (11, true)⟩, ⟨(some 13), .load1 (.t 12), some (11, true)⟩, ⟨(some 14), .bin .geq .int (.t 13) (.k (.c (.int .i64 0))), some (11, true)⟩, ⟨(some 15), .pick (.t 11) (.t 14) (.k (.c (.bool false))), none⟩, ⟨(some 16), .mov (.t 15), none⟩, ⟨(some 17), .fldA 0 (.t 1), some (16, true)⟩, ⟨(some 18), .load1 (.t 17), some (16, true)⟩, ⟨(some 19), .fldA 1 (.t 1), some (16, true)⟩, ⟨(some 20), .load1 (.t 19), some (16, true)⟩, ⟨(some 21), .bin .leq .int (.t 18) (.t 20), some (16, true)⟩, ⟨(some 22), .pick (.t 16) (.t 21) (.k (.c (.bool false))), none⟩, ⟨(some 2), .mov (.t 22), none⟩])
  .ret)), [.tmp 2], true⟩
theorem c15 : kk 15 = some k15 := by kernel_rfl
/-- loop.example/g01263/impl.GrownAmount -/
def k16 : KF := ⟨29, (.seq (.region [⟨(some 5), .box 25 (.t 1), none⟩, ⟨(some 8), .mov (.k (.c (.int .i64 0))), none⟩, ⟨(some 9), .mov (.k (.c (.int .i64 0))), none⟩])
  (.seq (.seq (.region [⟨(some 11), .loadN 2 (.t 5), none⟩, ⟨(some 12), .mov (.t 0), none⟩, ⟨(some 13), .buildSl 2 1 [(.int .i64 0)] [(0, 1, (.t 12))], none⟩, ⟨(some 14), .mov (.t 2), none⟩, ⟨(some 15), .mov (.t 3), none⟩, ⟨(some 16), .buildSl 2 2 [(.int .i64 0), (.int .i64 0)] [(0, 1, (.t 14)), (1, 1, (.t 15))], none⟩, ⟨(some 17), .call (.k (.c (.fn 35 []))) [(.t 11), (.t 13), (.t 16)], none⟩, ⟨(some 10), .mov (.t 17), none⟩])
  (.seq (.region [⟨(some 18), .mov (.t 10), none⟩, ⟨(some 19), .bin .neq .int (.t 18) (.k (.c (.int .i64 0))), none⟩])
  (.cond (.t 19) (.seq (.region [⟨(some 20), .mov (.t 10), none⟩, ⟨(some 8), .mov (.k (.c (.int .i64 0))), none⟩, ⟨(some 9), .mov (.t 20), none⟩])
  .ret) .skip)))
  (.seq (.region [⟨(some 21), .mov (.t 0), none⟩, ⟨(some 22), .loadN 2 (.t 5), none⟩, ⟨(some 23), .mov (.t 2), none⟩, ⟨(some 24), .mov (.t 3), none⟩, ⟨(some 25), .call (.k (.c (.fn 43 []))) [(.t 21), (.t 22), (.t 23), (.t 24)], none⟩, ⟨(some 26), .call (.k (.c (.fn 36 []))) [(.t 25)], none⟩, ⟨(some 27), .ext (.t 26) 0, none⟩, ⟨(some 28), .ext (.t 26) 1, none⟩, ⟨(some 8), .mov (.t 27), none⟩, ⟨(some 9), .mov (.t 28), none⟩])
  .ret))), [.tmp 8, .tmp 9], true⟩
theorem c16 : kk 16 = some k16 := by kernel_rfl
/-- loop.example/g01263/spec.GrownAmount -/
def k17 : KF := ⟨32, (.seq (.region [⟨(some 5), .box 25 (.t 1), none⟩, ⟨(some 8), .mov (.k (.c (.int .i64 0))), none⟩, ⟨(some 9), .mov (.k (.c (.int .i64 0))), none⟩])
  (.seq (.region [⟨(some 11), .mov (.t 0), none⟩, ⟨(some 12), .loadN 2 (.t 5), none⟩, ⟨(some 13), .mov (.t 2), none⟩, ⟨(some 14), .call (.k (.c (.fn 38 []))) [(.t 11), (.t 12), (.t 13)], none⟩, ⟨(some 10), .mov (.t 14), none⟩])
  (.seq (.seq (.region [⟨(some 15), .mov (.t 10), none⟩, ⟨(some 16), .bin .eql .int (.t 15) (.k (.c (.int .i64 0))), none⟩, ⟨(some 17), .mov (.t 16), none⟩, ⟨(some 18), .mov (.t 3), some (17, true)⟩, ⟨(some 19), .call (.k (.c (.fn 44 []))) [(.t 18)], some (17, true)⟩, ⟨(some 20), .un .not (.t 19), some (17, true)⟩, ⟨(some 21), .pick (.t 17) (.t 20) (.k (.c (.bool false))), none⟩])
  (.cond (.t 21) (.region [⟨(some 10), .mov (.k (.c (.int .i64 2))), none⟩]) .skip))
  (.seq (.seq (.region [⟨(some 22), .mov (.t 10), none⟩, ⟨(some 23), .bin .neq .int (.t 22) (.k (.c (.int .i64 0))), none⟩])
  (.cond (.t 23) (.seq (.region [⟨(some 24), .mov (.t 10), none⟩, ⟨(some 8), .mov (.k (.c (.int .i64 0))), none⟩, ⟨(some 9), .mov (.t 24), none⟩])
  .ret) .skip))
  (.seq (.region [⟨(some 25), .mov (.t 0), none⟩, ⟨(some 26), .loadN 2 (.t 5), none⟩, ⟨(some 27), .mov (.t 2), none⟩, ⟨(some 28), .mov (.t 3), none⟩, ⟨(some 29), .call (.k (.c (.fn 45 []))) [(.t 25), (.t 26), (.t 27), (.t 28)], none⟩, ⟨(some 30), .ext (.t 29) 0, none⟩, ⟨(some 31), .ext (.t 29) 1, none⟩, ⟨(some 8), .mov (.t 30), none⟩, ⟨(some 9), .mov (.t 31), none⟩])
  .ret))))), [.tmp 8, .tmp 9], true⟩
theorem c17 : kk 17 = some k17 := by kernel_rfl
/-- loop.example/g01263/impl.DueOn -/
def k18 : KF := ⟨34, (.seq (.region [⟨(some 2), .box 27 (.t 0), none⟩, ⟨(some 4), .mov (.k (.c (.int .i64 0))), none⟩, ⟨(some 5), .mov (.k (.c (.int .i64 0))), none⟩])
  (.seq (.block 0 (.seq (.region [⟨(some 7), .loadN 5 (.t 2), none⟩, ⟨(some 8), .call (.k (.c (.fn 14 []))) [(.t 7)], none⟩, ⟨(some 9), .un .not (.t 8), none⟩, ⟨(some 6), .mov (.t 9), none⟩])
  (.cond (.t 6) (.seq (.region [⟨(some 4), .mov (.k (.c (.int .i64 0))), none⟩, ⟨(some 5), .mov (.k (.c (.int .i64 1))), none⟩])
  .ret) (.seq (.region [⟨(some 11), .mov (.t 1), none⟩, ⟨(some 12), .call (.k (.c (.fn 42 []))) [(.t 11)], none⟩, ⟨(some 13), .un .not (.t 12), none⟩, ⟨(some 14), .mov (.t 13), none⟩, ⟨(some 15), .mov (.t 1), some (14, false)⟩, ⟨(some 16), .fldA 1 (.t 2), some (14, false)⟩, ⟨(some 17), .load1 (.t 16), some (14, false)⟩, ⟨(some 18), .bin .lss .int (.t 15) (.t 17), some (14, false)⟩, ⟨(some 19), .pick (.t 14) (.k (.c (.bool true))) (.t 18), none⟩, ⟨(some 10), .mov (.t 19), none⟩])
  (.cond (.t 10) (.seq (.region [⟨(some 4), .mov (.k (.c (.int .i64 0))), none⟩, ⟨(some 5), .mov (.k (.c (.int .i64 2))), none⟩])
  .ret) .skip)))))
  (.seq (.region [⟨(some 20), .fldA 0 (.t 2), none⟩, ⟨(some 21), .load1 (.t 20), none⟩, ⟨(some 22), .fldA 2 (.t 2), none⟩, ⟨(some 23), .loadN 2 (.t 22), none⟩, ⟨(some 24), .mov (.t 1), none⟩, ⟨(some 25), .fldA 1 (.t 2), none⟩, ⟨(some 26), .load1 (.t 25), none⟩, ⟨(some 27), .bin .sub .int (.t 24) (.t 26), none⟩, ⟨(some 28), .fldA 4 (.t 2), none⟩, ⟨(some 29), .load1 (.t 28), none⟩, ⟨(some 30), .call (.k (.c (.fn 43 []))) [(.t 21), (.t 23), (.t 27), (.t 29)], none⟩, ⟨(some 31), .call (.k (.c (.fn 36 []))) [(.t 30)], none⟩, ⟨(some 32), .ext (.t 31) 0, none⟩, ⟨(some 33), .ext (.t 31) 1, none⟩, ⟨(some 4), .mov (.t 32), none⟩, ⟨(some 5), .mov (.t 33), none⟩])
  .ret))), [.tmp 4, .tmp 5], true⟩
theorem c18 : kk 18 = some k18 := by kernel_rfl
/-- loop.example/g01263/spec.DueOn -/
def k19 : KF := ⟨26, (.seq (.region [⟨(some 2), .box 27 (.t 0), none⟩, ⟨(some 4), .mov (.k (.c (.int .i64 0))), none⟩, ⟨(some 5), .mov (.k (.c (.int .i64 0))), none⟩])
  (.seq (.seq (.region [⟨(some 6), .call (.k (.c (.fn 46 []))) [(.t 2)], none⟩, ⟨(some 7), .un .not (.t 6), none⟩])
  (.cond (.t 7) (.seq (.region [⟨(some 4), .mov (.k (.c (.int .i64 0))), none⟩, ⟨(some 5), .mov (.k (.c (.int .i64 1))), none⟩])
  .ret) .skip))
  (.seq (.seq (.region [⟨(some 8), .mov (.t 1), none⟩, ⟨(some 9), .fldA 1 (.t 2), none⟩, ⟨(some 10), .load1 (.t 9), none⟩, ⟨(some 11), .call (.k (.c (.fn 47 []))) [(.t 8), (.t 10), (.k (.c (.int .i64 40000)))], none⟩, ⟨(some 12), .un .not (.t 11), none⟩])
  (.cond (.t 12) (.seq (.region [⟨(some 4), .mov (.k (.c (.int .i64 0))), none⟩, ⟨(some 5), .mov (.k (.c (.int .i64 2))), none⟩])
  .ret) .skip))
  (.seq (.region [⟨(some 13), .fldA 0 (.t 2), none⟩, ⟨(some 14), .load1 (.t 13), none⟩, ⟨(some 15), .fldA 2 (.t 2), none⟩, ⟨(some 16), .loadN 2 (.t 15), none⟩, ⟨(some 17), .mov (.t 1), none⟩, ⟨(some 18), .fldA 1 (.t 2), none⟩, ⟨(some 19), .load1 (.t 18), none⟩, ⟨(some 20), .bin .sub .int (.t 17) (.t 19), none⟩, ⟨(some 21), .fldA 4 (.t 2), none⟩, ⟨(some 22), .load1 (.t 21), none⟩, ⟨(some 23), .call (.k (.c (.fn 45 []))) [(.t 14), (.t 16), (.t 20), (.t 22)], none⟩, ⟨(some 24), .ext (.t 23) 0, none⟩, ⟨(some 25), .ext (.t 23) 1, none⟩, ⟨(some 4), .mov (.t 24), none⟩, ⟨(some 5), .mov (.t 25), none⟩])
  .ret)))), [.tmp 4, .tmp 5], true⟩
theorem c19 : kk 19 = some k19 := by kernel_rfl
/-- loop.example/g01263/impl.CompareRates -/
def k20 : KF := ⟨32, (.seq (.region [⟨(some 2), .box 25 (.t 0), none⟩, ⟨(some 3), .box 25 (.t 1), none⟩, ⟨(some 4), .mov (.k (.c (.int .i64 0))), none⟩, ⟨(some 5), .mov (.k (.c (.int .i64 0))), none⟩])
  (.seq (.seq (.region [⟨(some 7), .loadN 2 (.t 2), none⟩, ⟨(some 8), .call (.k (.c (.fn 15 []))) [(.t 7)], none⟩, ⟨(some 9), .un .not (.t 8), none⟩, ⟨(some 10), .mov (.t 9), none⟩, ⟨(some 11), .loadN 2 (.t 3), some (10, false)⟩, ⟨(some 12), .call (.k (.c (.fn 15 []))) [(.t 11)], some (10, false)⟩, ⟨(some 13), .un .not (.t 12), some (10, false)⟩, ⟨(some 14), .pick (.t 10) (.k (.c (.bool true))) (.t 13), none⟩])
  (.cond (.t 14) (.seq (.region [⟨(some 4), .mov (.k (.c (.int .i64 0))), none⟩, ⟨(some 5), .mov (.k (.c (.int .i64 1))), none⟩])
  .ret) .skip))
  (.seq (.seq (.region [⟨(some 15), .fldA 0 (.t 2), none⟩, ⟨(some 16), .load1 (.t 15), none⟩, ⟨(some 17), .fldA 1 (.t 3), none⟩, ⟨(some 18), .load1 (.t 17), none⟩, ⟨(some 19), .bin .mul .int (.t 16) (.t 18), none⟩, ⟨(some 20), .fldA 0 (.t 3), none⟩, ⟨(some 21), .load1 (.t 20), none⟩, ⟨(some 22), .fldA 1 (.t 2), none⟩, ⟨(some 23), .load1 (.t 22), none⟩, ⟨(some 24), .bin .mul .int (.t 21) (.t 23), none⟩, ⟨(some 25), .bin .sub .int (.t 19) (.t 24), none⟩, ⟨(some 6), .mov (.t 25), none⟩])
  (.block 0 (.seq (.region [⟨(some 27), .mov (.t 6), none⟩, ⟨(some 28), .bin .lss .int (.t 27) (.k (.c (.int .i64 0))), none⟩, ⟨(some 26), .mov (.t 28), none⟩])
  (.cond (.t 26) (.seq (.region [⟨(some 4), .mov (.k (.c (.int .i64 (-1)))), none⟩, ⟨(some 5), .mov (.k (.c (.int .i64 0))), none⟩])
  .ret) (.seq (.region [⟨(some 30), .mov (.t 6), none⟩, ⟨(some 31), .bin .gtr .int (.t 30) (.k (.c (.int .i64 0))), none⟩, ⟨(some 29), .mov (.t 31), none⟩])
  (.cond (.t 29) (.seq (.region [⟨(some 4), .mov (.k (.c (.int .i64 1))), none⟩, ⟨(some 5), .mov (.k (.c (.int .i64 0))), none⟩])
  .ret) .skip))))))
  (.seq (.region [⟨(some 4), .mov (.k (.c (.int .i64 0))), none⟩, ⟨(some 5), .mov (.k (.c (.int .i64 0))), none⟩])
  .ret)))), [.tmp 4, .tmp 5], true⟩
theorem c20 : kk 20 = some k20 := by kernel_rfl
/-- loop.example/g01263/impl.DayDouble -/
def l21_0 : KC := (.seq (.region [⟨(some 24), .bin .lss .int (.t 23) (.k (.c (.int .i64 40001))), none⟩])
  (.seq (.cond (.t 24) .skip (.exit 0))
  (.seq (.block 1 (.seq (.region [⟨(some 25), .mov (.t 23), none⟩, ⟨(some 11), .mov (.t 25), none⟩])
  (.seq (.seq (.region [⟨(some 26), .mov (.t 2), none⟩, ⟨(some 27), .bin .gtr .int (.t 26) (.k (.c (.int .i64 0))), none⟩, ⟨(some 28), .mov (.t 27), none⟩, ⟨(some 29), .mov (.t 11), some (28, true)⟩, ⟨(some 30), .mov (.t 10), some (28, true)⟩, ⟨(some 31), .bin .sub .int (.t 29) (.t 30), some (28, true)⟩, ⟨(some 32), .mov (.t 2), some (28, true)⟩, ⟨(some 33), .bin .eql .int (.t 31) (.t 32), some (28, true)⟩, ⟨(some 34), .pick (.t 28) (.t 33) (.k (.c (.bool false))), none⟩])
  (.cond (.t 34) (.seq (.region [⟨(some 35), .mov (.t 9), none⟩, ⟨(some 36), .mov (.t 9), none⟩, ⟨(some 37), .loadN 2 (.t 4), none⟩, ⟨(some 38), .mov (.t 2), none⟩, ⟨(some 39), .call (.k (.c (.fn 37 []))) [(.t 36), (.t 37), (.t 38)], none⟩, ⟨(some 40), .bin .add .int (.t 35) (.t 39), none⟩, ⟨(some 9), .mov (.t 40), none⟩])
  (.region [⟨(some 41), .mov (.t 11), none⟩, ⟨(some 10), .mov (.t 41), none⟩])) .skip))
  (.seq (.region [⟨(some 42), .mov (.t 9), none⟩, ⟨(some 12), .mov (.t 42), none⟩])
  (.seq (.seq (.region [⟨(some 43), .mov (.t 12), none⟩, ⟨(some 44), .bin .leq .int (.t 43) (.k (.c (.int .i64 100000000))), none⟩])
  (.cond (.t 44) (.region [⟨(some 45), .mov (.t 12), none⟩, ⟨(some 46), .mov (.t 9), none⟩, ⟨(some 47), .loadN 2 (.t 4), none⟩, ⟨(some 48), .mov (.t 11), none⟩, ⟨(some 49), .mov (.t 10), none⟩, ⟨(some 50), .bin .sub .int (.t 48) (.t 49), none⟩, ⟨(some 51), .call (.k (.c (.fn 37 []))) [(.t 46), (.t 47), (.t 50)], none⟩, ⟨(some 52), .bin .add .int (.t 45) (.t 51), none⟩, ⟨(some 12), .mov (.t 52), none⟩]) .skip))
  (.seq (.seq (.region [⟨(some 53), .mov (.t 12), none⟩, ⟨(some 54), .bin .gtr .int (.t 53) (.k (.c (.int .i64 100000000))), none⟩])
  (.cond (.t 54) (.seq (.region [⟨(some 6), .mov (.k (.c (.int .i64 0))), none⟩, ⟨(some 7), .mov (.k (.c (.int .i64 6))), none⟩])
  .ret) .skip))
  (.seq (.region [⟨(some 55), .mov (.t 12), none⟩, ⟨(some 56), .mov (.t 0), none⟩, ⟨(some 57), .bin .mul .int (.k (.c (.int .i64 2))) (.t 56), none⟩, ⟨(some 58), .bin .geq .int (.t 55) (.t 57), none⟩])
  (.cond (.t 58) (.seq (.region [⟨(some 59), .mov (.t 11), none⟩, ⟨(some 6), .mov (.t 59), none⟩, ⟨(some 7), .mov (.k (.c (.int .i64 0))), none⟩])
  .ret) .skip))))))))
  (.region [⟨(some 60), .bin .add .int (.t 23) (.k (.c (.int .i64 1))), none⟩, ⟨(some 23), .mov (.t 60), none⟩]))))
def k21 : KF := ⟨61, (.seq (.region [⟨(some 4), .box 25 (.t 1), none⟩, ⟨(some 6), .mov (.k (.c (.int .i64 0))), none⟩, ⟨(some 7), .mov (.k (.c (.int .i64 0))), none⟩])
  (.seq (.seq (.region [⟨(some 13), .loadN 2 (.t 4), none⟩, ⟨(some 14), .mov (.t 0), none⟩, ⟨(some 15), .buildSl 2 1 [(.int .i64 0)] [(0, 1, (.t 14))], none⟩, ⟨(some 16), .mov (.t 2), none⟩, ⟨(some 17), .buildSl 2 1 [(.int .i64 0)] [(0, 1, (.t 16))], none⟩, ⟨(some 18), .call (.k (.c (.fn 35 []))) [(.t 13), (.t 15), (.t 17)], none⟩, ⟨(some 8), .mov (.t 18), none⟩])
  (.seq (.region [⟨(some 19), .mov (.t 8), none⟩, ⟨(some 20), .bin .neq .int (.t 19) (.k (.c (.int .i64 0))), none⟩])
  (.cond (.t 20) (.seq (.region [⟨(some 21), .mov (.t 8), none⟩, ⟨(some 6), .mov (.k (.c (.int .i64 0))), none⟩, ⟨(some 7), .mov (.t 21), none⟩])
  .ret) .skip)))
  (.seq (.region [⟨(some 22), .mov (.t 0), none⟩, ⟨(some 9), .mov (.t 22), none⟩, ⟨(some 10), .mov (.k (.c (.int .i64 0))), none⟩])
  (.seq (.seq (.region [⟨(some 23), .mov (.k (.c (.int .i64 0))), none⟩])
  (.block 0 (.loop l21_0)))
  (.seq (.region [⟨(some 6), .mov (.k (.c (.int .i64 0))), none⟩, ⟨(some 7), .mov (.k (.c (.int .i64 6))), none⟩])
  .ret))))), [.tmp 6, .tmp 7], true⟩
theorem c21 : kk 21 = some k21 := by kernel_rfl
/-- loop.example/g01263/spec.DayDouble -/
def l22_0 : KC := (.seq (.seq (.region [⟨(some 29), .mov (.t 9), none⟩, ⟨(some 30), .mov (.t 10), none⟩, ⟨(some 31), .bin .lss .int (.t 29) (.t 30), none⟩])
  (.cond (.t 31) .skip (.exit 0)))
  (.block 1 (.seq (.region [⟨(some 32), .mov (.t 9), none⟩, ⟨(some 33), .mov (.t 10), none⟩, ⟨(some 34), .bin .add .int (.t 32) (.t 33), none⟩, ⟨(some 35), .bin .quo .int (.t 34) (.k (.c (.int .i64 2))), none⟩, ⟨(some 11), .mov (.t 35), none⟩])
  (.seq (.region [⟨(some 37), .mov (.t 0), none⟩, ⟨(some 38), .loadN 2 (.t 4), none⟩, ⟨(some 39), .mov (.t 11), none⟩, ⟨(some 40), .mov (.t 2), none⟩, ⟨(some 41), .call (.k (.c (.fn 45 []))) [(.t 37), (.t 38), (.t 39), (.t 40)], none⟩, ⟨(some 36), .mov (.t 41), none⟩, ⟨(some 42), .ext (.t 36) 0, none⟩, ⟨(some 43), .ext (.t 36) 1, none⟩, ⟨(some 12), .mov (.t 42), none⟩, ⟨(some 13), .mov (.t 43), none⟩])
  (.seq (.region [⟨(some 44), .mov (.t 13), none⟩, ⟨(some 45), .bin .neq .int (.t 44) (.k (.c (.int .i64 0))), none⟩, ⟨(some 46), .mov (.t 45), none⟩, ⟨(some 47), .mov (.t 12), some (46, false)⟩, ⟨(some 48), .mov (.t 0), some (46, false)⟩, ⟨(some 49), .bin .mul .int (.k (.c (.int .i64 2))) (.t 48), some (46, false)⟩, ⟨(some 50), .bin .geq .int (.t 47) (.t 49), some (46, false)⟩, ⟨(some 51), .pick (.t 46) (.k (.c (.bool true))) (.t 50), none⟩])
  (.cond (.t 51) (.region [⟨(some 52), .mov (.t 11), none⟩, ⟨(some 10), .mov (.t 52), none⟩]) (.region [⟨(some 53), .mov (.t 11), none⟩, ⟨(some 54), .bin .add .int (.t 53) (.k (.c (.int .i64 1))), none⟩, ⟨(some 9), .mov (.t 54), none⟩])))))))
def k22 : KF := ⟨68, (.seq (.region [⟨(some 4), .box 25 (.t 1), none⟩, ⟨(some 6), .mov (.k (.c (.int .i64 0))), none⟩, ⟨(some 7), .mov (.k (.c (.int .i64 0))), none⟩])
  (.seq (.region [⟨(some 16), .mov (.t 0), none⟩, ⟨(some 17), .loadN 2 (.t 4), none⟩, ⟨(some 18), .call (.k (.c (.fn 38 []))) [(.t 16), (.t 17), (.k (.c (.int .i64 0)))], none⟩, ⟨(some 8), .mov (.t 18), none⟩])
  (.seq (.seq (.region [⟨(some 19), .mov (.t 8), none⟩, ⟨(some 20), .bin .eql .int (.t 19) (.k (.c (.int .i64 0))), none⟩, ⟨(some 21), .mov (.t 20), none⟩, ⟨(some 22), .mov (.t 2), some (21, true)⟩, ⟨(some 23), .call (.k (.c (.fn 44 []))) [(.t 22)], some (21, true)⟩, ⟨(some 24), .un .not (.t 23), some (21, true)⟩, ⟨(some 25), .pick (.t 21) (.t 24) (.k (.c (.bool false))), none⟩])
  (.cond (.t 25) (.region [⟨(some 8), .mov (.k (.c (.int .i64 2))), none⟩]) .skip))
  (.seq (.seq (.region [⟨(some 26), .mov (.t 8), none⟩, ⟨(some 27), .bin .neq .int (.t 26) (.k (.c (.int .i64 0))), none⟩])
  (.cond (.t 27) (.seq (.region [⟨(some 28), .mov (.t 8), none⟩, ⟨(some 6), .mov (.k (.c (.int .i64 0))), none⟩, ⟨(some 7), .mov (.t 28), none⟩])
  .ret) .skip))
  (.seq (.region [⟨(some 9), .mov (.k (.c (.int .i64 0))), none⟩])
  (.seq (.region [⟨(some 10), .mov (.k (.c (.int .i64 40001))), none⟩])
  (.seq (.block 0 (.loop l22_0))
  (.seq (.seq (.region [⟨(some 55), .mov (.t 9), none⟩, ⟨(some 56), .bin .gtr .int (.t 55) (.k (.c (.int .i64 40000))), none⟩])
  (.cond (.t 56) (.seq (.region [⟨(some 6), .mov (.k (.c (.int .i64 0))), none⟩, ⟨(some 7), .mov (.k (.c (.int .i64 6))), none⟩])
  .ret) .skip))
  (.seq (.seq (.region [⟨(some 58), .mov (.t 0), none⟩, ⟨(some 59), .loadN 2 (.t 4), none⟩, ⟨(some 60), .mov (.t 9), none⟩, ⟨(some 61), .mov (.t 2), none⟩, ⟨(some 62), .call (.k (.c (.fn 45 []))) [(.t 58), (.t 59), (.t 60), (.t 61)], none⟩, ⟨(some 57), .mov (.t 62), none⟩, ⟨(some 63), .ext (.t 57) 0, none⟩, ⟨(some 64), .ext (.t 57) 1, none⟩, ⟨(some 14), .mov (.t 63), none⟩, ⟨(some 15), .mov (.t 64), none⟩])
  (.seq (.region [⟨(some 65), .mov (.t 15), none⟩, ⟨(some 66), .bin .neq .int (.t 65) (.k (.c (.int .i64 0))), none⟩])
  (.cond (.t 66) (.seq (.region [⟨(some 6), .mov (.k (.c (.int .i64 0))), none⟩, ⟨(some 7), .mov (.k (.c (.int .i64 6))), none⟩])
  .ret) .skip)))
  (.seq (.region [⟨(some 67), .mov (.t 9), none⟩, ⟨(some 6), .mov (.t 67), none⟩, ⟨(some 7), .mov (.k (.c (.int .i64 0))), none⟩])
  .ret)))))))))), [.tmp 6, .tmp 7], true⟩
theorem c22 : kk 22 = some k22 := by kernel_rfl
/-- loop.example/g01263/spec.l03Drawn -/
def k27 : KF := ⟨21, (.seq (.region [⟨(some 2), .alloc 27 [(.int .i64 0), (.int .i64 0), (.int .i64 0), (.int .i64 0), (.int .i64 0)], none⟩])
  (.seq (.region [⟨(some 4), .mov (.t 0), none⟩, ⟨(some 5), .call (.k (.c (.fn 29 []))) [(.t 4), (.k (.c (.int .i64 60000)))], none⟩, ⟨(some 6), .mov (.t 0), none⟩, ⟨(some 7), .call (.k (.c (.fn 29 []))) [(.t 6), (.k (.c (.int .i64 1000)))], none⟩, ⟨(some 8), .build [(.int .i64 0), (.int .i64 0), (.int .i64 0), (.int .i64 0), (.int .i64 0)] [(0, 1, (.t 5)), (1, 1, (.t 7))], none⟩, ⟨(some 3), .alloc 27 [(.int .i64 0), (.int .i64 0), (.int .i64 0), (.int .i64 0), (.int .i64 0)], none⟩, ⟨none, .store 5 (.t 3) (.t 8), none⟩])
  (.seq (.region [⟨(some 9), .mov (.t 0), none⟩, ⟨(some 10), .call (.k (.c (.fn 29 []))) [(.t 9), (.k (.c (.int .i64 30)))], none⟩, ⟨(some 11), .mov (.t 0), none⟩, ⟨(some 12), .call (.k (.c (.fn 29 []))) [(.t 11), (.k (.c (.int .i64 170)))], none⟩, ⟨(some 13), .bin .add .int (.k (.c (.int .i64 30))) (.t 12), none⟩, ⟨(some 14), .build [(.int .i64 0), (.int .i64 0)] [(0, 1, (.t 10)), (1, 1, (.t 13))], none⟩, ⟨(some 15), .fldA 2 (.t 3), none⟩, ⟨none, .store 2 (.t 15) (.t 14), none⟩])
  (.seq (.region [⟨(some 16), .mov (.t 0), none⟩, ⟨(some 17), .buildSl 2 5 [(.int .i64 0), (.int .i64 0), (.int .i64 0), (.int .i64 0), (.int .i64 0)] [(0, 1, (.k (.c (.int .i64 0)))), (1, 1, (.k (.c (.int .i64 30)))), (2, 1, (.k (.c (.int .i64 90)))), (3, 1, (.k (.c (.int .i64 365)))), (4, 1, (.k (.c (.int .i64 1))))], none⟩, ⟨(some 18), .call (.k (.c (.fn 55 []))) [(.t 16), (.t 17)], none⟩, ⟨(some 19), .fldA 4 (.t 3), none⟩, ⟨none, .store 1 (.t 19) (.t 18), none⟩])
  (.seq (.region [⟨(some 20), .loadN 5 (.t 3), none⟩, ⟨none, .store 5 (.t 2) (.t 20), none⟩])
  .ret))))), [.cellN 2 5], true⟩
theorem c27 : kk 27 = some k27 := by kernel_rfl
/-- loop.example/g01263/spec.l00From -/
def k28 : KF := ⟨6, (.seq (.region [⟨(some 2), .mov (.k (.c (.ptr none))), none⟩])
  (.seq (.region [⟨(some 3), .mov (.t 0), none⟩, ⟨(some 4), .build [(.slice none 0 (.exact 0)), (.int .i64 0), (.int .u64 0)] [(0, 1, (.t 3))], none⟩, ⟨(some 5), .box 79 (.t 4), none⟩, ⟨(some 2), .mov (.t 5), none⟩])
  .ret)), [.tmp 2], false⟩
theorem c28 : kk 28 = some k28 := by kernel_rfl
/-- (*loop.example/g01263/spec.l00Src).pick -/
def k29 : KF := ⟨20, (.seq (.region [⟨(some 4), .mov (.k (.c (.int .i64 0))), none⟩])
  (.seq (.seq (.region [⟨(some 6), .mov (.t 1), none⟩, ⟨(some 7), .bin .leq .int (.t 6) (.k (.c (.int .i64 1))), none⟩])
  (.cond (.t 7) (.seq (.region [⟨(some 4), .mov (.k (.c (.int .i64 0))), none⟩])
  .ret) .skip))
  (.seq (.region [⟨(some 8), .mov (.t 0), none⟩, ⟨(some 9), .call (.k (.c (.fn 56 []))) [(.t 8)], none⟩, ⟨(some 5), .mov (.t 9), none⟩])
  (.seq (.seq (.region [⟨(some 10), .mov (.t 1), none⟩, ⟨(some 11), .bin .gtr .int (.t 10) (.k (.c (.int .i64 200))), none⟩])
  (.cond (.t 11) (.region [⟨(some 12), .mov (.t 5), none⟩, ⟨(some 13), .bin .mul .int (.t 12) (.k (.c (.int .i64 256))), none⟩, ⟨(some 14), .mov (.t 0), none⟩, ⟨(some 15), .call (.k (.c (.fn 56 []))) [(.t 14)], none⟩, ⟨(some 16), .bin .add .int (.t 13) (.t 15), none⟩, ⟨(some 5), .mov (.t 16), none⟩]) .skip))
  (.seq (.region [⟨(some 17), .mov (.t 5), none⟩, ⟨(some 18), .mov (.t 1), none⟩, ⟨(some 19), .bin .rem .int (.t 17) (.t 18), none⟩, ⟨(some 4), .mov (.t 19), none⟩])
  .ret))))), [.tmp 4], true⟩
theorem c29 : kk 29 = some k29 := by kernel_rfl
/-- loop.example/g01263/impl.ReadAmount -/
def l31_0 : KC := (.seq (.region [⟨(some 17), .bin .lss .int (.t 16) (.t 15), none⟩])
  (.seq (.cond (.t 17) .skip (.exit 0))
  (.seq (.block 1 (.seq (.region [⟨(some 18), .idxS 1 (.t 14) (.t 16), none⟩, ⟨(some 19), .load1 (.t 18), none⟩, ⟨(some 6), .mov (.t 19), none⟩])
  (.seq (.seq (.region [⟨(some 20), .mov (.t 6), none⟩, ⟨(some 21), .bin .eql .str (.t 20) (.k (.c (.str ⟨#[]⟩))), none⟩])
  (.cond (.t 21) (.seq (.region [⟨(some 2), .mov (.k (.c (.int .i64 0))), none⟩, ⟨(some 3), .mov (.k (.c (.int .i64 5))), none⟩])
  .ret) .skip))
  (.seq (.region [⟨(some 23), .mov (.t 6), none⟩, ⟨(some 24), .mov (.t 6), none⟩, ⟨(some 25), .len true (.t 24), none⟩, ⟨(some 26), .bin .sub .int (.t 25) (.k (.c (.int .i64 1))), none⟩, ⟨(some 27), .sliceStr (.t 23) none (some (.t 26)), none⟩, ⟨(some 28), .call (.k (.c (.fn 32 []))) [(.t 27)], none⟩, ⟨(some 22), .mov (.t 28), none⟩, ⟨(some 29), .ext (.t 22) 0, none⟩, ⟨(some 30), .ext (.t 22) 1, none⟩, ⟨(some 7), .mov (.t 29), none⟩, ⟨(some 8), .mov (.t 30), none⟩])
  (.seq (.region [⟨(some 31), .mov (.t 6), none⟩, ⟨(some 32), .mov (.t 6), none⟩, ⟨(some 33), .len true (.t 32), none⟩, ⟨(some 34), .bin .sub .int (.t 33) (.k (.c (.int .i64 1))), none⟩, ⟨(some 35), .idxStr (.t 31) (.t 34), none⟩, ⟨(some 36), .call (.k (.c (.fn 59 []))) [(.k (.c (.str ⟨#[100, 115, 108]⟩))), (.t 35)], none⟩, ⟨(some 9), .mov (.t 36), none⟩])
  (.seq (.seq (.region [⟨(some 37), .mov (.t 8), none⟩, ⟨(some 38), .un .not (.t 37), none⟩, ⟨(some 39), .mov (.t 38), none⟩, ⟨(some 40), .mov (.t 9), some (39, false)⟩, ⟨(some 41), .bin .lss .int (.t 40) (.k (.c (.int .i64 0))), some (39, false)⟩, ⟨(some 42), .pick (.t 39) (.k (.c (.bool true))) (.t 41), none⟩])
  (.cond (.t 42) (.seq (.region [⟨(some 2), .mov (.k (.c (.int .i64 0))), none⟩, ⟨(some 3), .mov (.k (.c (.int .i64 5))), none⟩])
  .ret) .skip))
  (.region [⟨(some 43), .mov (.t 4), none⟩, ⟨(some 44), .mov (.t 7), none⟩, ⟨(some 45), .mov (.t 9), none⟩, ⟨(some 46), .call (.k (.c (.fn 60 []))) [(.t 45)], none⟩, ⟨(some 47), .bin .mul .int (.t 44) (.t 46), none⟩, ⟨(some 48), .bin .add .int (.t 43) (.t 47), none⟩, ⟨(some 4), .mov (.t 48), none⟩])))))))
  (.region [⟨(some 49), .bin .add .int (.t 16) (.k (.c (.int .i64 1))), none⟩, ⟨(some 16), .mov (.t 49), none⟩]))))
def k31 : KF := ⟨55, (.seq (.region [⟨(some 2), .mov (.k (.c (.int .i64 0))), none⟩, ⟨(some 3), .mov (.k (.c (.int .i64 0))), none⟩])
  (.seq (.seq (.region [⟨(some 10), .mov (.t 0), none⟩, ⟨(some 11), .len true (.t 10), none⟩, ⟨(some 12), .bin .gtr .int (.t 11) (.k (.c (.int .i64 30))), none⟩])
  (.cond (.t 12) (.seq (.region [⟨(some 2), .mov (.k (.c (.int .i64 0))), none⟩, ⟨(some 3), .mov (.k (.c (.int .i64 5))), none⟩])
  .ret) .skip))
  (.seq (.region [⟨(some 4), .mov (.k (.c (.int .i64 0))), none⟩])
  (.seq (.seq (.region [⟨(some 13), .mov (.t 0), none⟩, ⟨(some 14), .call (.k (.c (.fn 58 []))) [(.t 13), (.k (.c (.str ⟨#[32]⟩)))], none⟩, ⟨(some 15), .len false (.t 14), none⟩, ⟨(some 16), .mov (.k (.c (.int .i64 0))), none⟩])
  (.block 0 (.loop l31_0)))
  (.seq (.seq (.region [⟨(some 50), .mov (.t 4), none⟩, ⟨(some 51), .call (.k (.c (.fn 33 []))) [(.t 50)], none⟩, ⟨(some 52), .mov (.t 0), none⟩, ⟨(some 53), .bin .neq .str (.t 51) (.t 52), none⟩])
  (.cond (.t 53) (.seq (.region [⟨(some 2), .mov (.k (.c (.int .i64 0))), none⟩, ⟨(some 3), .mov (.k (.c (.int .i64 5))), none⟩])
  .ret) .skip))
  (.seq (.region [⟨(some 54), .mov (.t 4), none⟩, ⟨(some 2), .mov (.t 54), none⟩, ⟨(some 3), .mov (.k (.c (.int .i64 0))), none⟩])
  .ret)))))), [.tmp 2, .tmp 3], true⟩
theorem c31 : kk 31 = some k31 := by kernel_rfl
/-- loop.example/g01263/impl.number -/
def l32_0 : KC := (.seq (.region [⟨(some 26), .bin .lss .int (.t 25) (.t 24), none⟩])
  (.seq (.cond (.t 26) .skip (.exit 0))
  (.seq (.block 1 (.seq (.region [⟨(some 27), .mov (.t 25), none⟩, ⟨(some 5), .mov (.t 27), none⟩])
  (.seq (.seq (.region [⟨(some 28), .mov (.t 0), none⟩, ⟨(some 29), .mov (.t 5), none⟩, ⟨(some 30), .idxStr (.t 28) (.t 29), none⟩, ⟨(some 31), .bin .lss .int (.t 30) (.k (.c (.int .u8 48))), none⟩, ⟨(some 32), .mov (.t 31), none⟩, ⟨(some 33), .mov (.t 0), some (32, false)⟩, ⟨(some 34), .mov (.t 5), some (32, false)⟩, ⟨(some 35), .idxStr (.t 33) (.t 34), some (32, false)⟩, ⟨(some 36), .bin .gtr .int (.t 35) (.k (.c (.int .u8 57))), some (32, false)⟩, ⟨(some 37), .pick (.t 32) (.k (.c (.bool true))) (.t 36), none⟩])
  (.cond (.t 37) (.seq (.region [⟨(some 2), .mov (.k (.c (.int .i64 0))), none⟩, ⟨(some 3), .mov (.k (.c (.bool false))), none⟩])
  .ret) .skip))
  (.region [⟨(some 38), .mov (.t 4), none⟩, ⟨(some 39), .bin .mul .int (.t 38) (.k (.c (.int .i64 10))), none⟩, ⟨(some 40), .mov (.t 0), none⟩, ⟨(some 41), .mov (.t 5), none⟩, ⟨(some 42), .idxStr (.t 40) (.t 41), none⟩, ⟨(some 43), .bin .sub .int (.t 42) (.k (.c (.int .u8 48))), none⟩, ⟨(some 44), .conv .i64 (.t 43), none⟩, ⟨(some 45), .bin .add .int (.t 39) (.t 44), none⟩, ⟨(some 4), .mov (.t 45), none⟩]))))
  (.region [⟨(some 46), .bin .add .int (.t 25) (.k (.c (.int .i64 1))), none⟩, ⟨(some 25), .mov (.t 46), none⟩]))))
def k32 : KF := ⟨48, (.seq (.region [⟨(some 2), .mov (.k (.c (.int .i64 0))), none⟩, ⟨(some 3), .mov (.k (.c (.bool false))), none⟩])
  (.seq (.seq (.region [⟨(some 6), .mov (.t 0), none⟩, ⟨(some 7), .bin .eql .str (.t 6) (.k (.c (.str ⟨#[]⟩))), none⟩, ⟨(some 8), .mov (.t 7), none⟩, ⟨(some 9), .mov (.t 0), some (8, false)⟩, ⟨(some 10), .len true (.t 9), some (8, false)⟩, ⟨(some 11), .bin .gtr .int (.t 10) (.k (.c (.int .i64 9))), some (8, false)⟩, ⟨(some 12), .pick (.t 8) (.k (.c (.bool true))) (.t 11), none⟩, ⟨(some 13), .mov (.t 12), none⟩, ⟨(some 14), .mov (.t 0), some (13, false)⟩, ⟨(some 15), .idxStr (.t 14) (.k (.c (.int .i64 0))), some (13, false)⟩, ⟨(some 16), .bin .eql .int (.t 15) (.k (.c (.int .u8 48))), some (13, false)⟩, ⟨(some 17), .mov (.t 16), some (13, false)⟩, ⟨(some 18), .mov (.t 0), some (17, true)⟩, ⟨(some 19), .len true (.t 18), some (17, true)⟩, ⟨(some 20), .bin .gtr .int (.t 19) (.k (.c (.int .i64 1))), some (17, true)⟩, ⟨(some 21), .pick (.t 17) (.t 20) (.k (.c (.bool false))), some (13, false)⟩, ⟨(some 22), .pick (.t 13) (.k (.c (.bool true))) (.t 21), none⟩])
  (.cond (.t 22) (.seq (.region [⟨(some 2), .mov (.k (.c (.int .i64 0))), none⟩, ⟨(some 3), .mov (.k (.c (.bool false))), none⟩])
  .ret) .skip))
  (.seq (.region [⟨(some 4), .mov (.k (.c (.int .i64 0))), none⟩])
  (.seq (.seq (.region [⟨(some 23), .mov (.t 0), none⟩, ⟨(some 24), .len true (.t 23), none⟩, ⟨(some 25), .mov (.k (.c (.int .i64 0))), none⟩])
  (.block 0 (.loop l32_0)))
  (.seq (.region [⟨(some 47), .mov (.t 4), none⟩, ⟨(some 2), .mov (.t 47), none⟩, ⟨(some 3), .mov (.k (.c (.bool true))), none⟩])
  .ret))))), [.tmp 2, .tmp 3], true⟩
theorem c32 : kk 32 = some k32 := by kernel_rfl
/-- loop.example/g01263/impl.AmountText -/
def l33_0 : KC := (.seq (.region [⟨(some 22), .bin .lss .int (.t 21) (.t 20), none⟩])
  (.seq (.cond (.t 22) .skip (.exit 0))
  (.seq (.block 1 (.seq (.region [⟨(some 23), .mov (.t 21), none⟩, ⟨(some 24), .idxS 1 (.t 19) (.t 21), none⟩, ⟨(some 25), .load1 (.t 24), none⟩, ⟨(some 4), .mov (.t 23), none⟩, ⟨(some 5), .mov (.t 25), none⟩])
  (.seq (.region [⟨(some 26), .mov (.t 5), none⟩, ⟨(some 27), .bin .gtr .int (.t 26) (.k (.c (.int .i64 0))), none⟩])
  (.cond (.t 27) (.drawn [(⟨(some 28), .mov (.t 3), none⟩, []), (⟨(some 29), .mov (.t 5), none⟩, []), (⟨(some 31), .mov (.t 4), none⟩, []), (⟨(some 32), .mov (.t 4), none⟩, []), (⟨(some 33), .bin .add .int (.t 32) (.k (.c (.int .i64 1))), none⟩, []), (⟨(some 34), .sliceStr (.k (.c (.str ⟨#[108, 115, 100]⟩))) (some (.t 31)) (some (.t 33)), none⟩, []), (⟨(some 30), .call (.k (.c (.fn 34 []))) [(.t 29)], none⟩, []), (⟨(some 35), .bin .add .str (.t 30) (.t 34), none⟩, []), (⟨(some 36), .buildSl 9 1 [(.str ⟨#[]⟩)] [(0, 1, (.t 35))], none⟩, []), (⟨(some 37), .app 9 1 16 (.t 28) (.t 36), none⟩, []), (⟨(some 3), .mov (.t 37), none⟩, [])]) .skip))))
  (.region [⟨(some 38), .bin .add .int (.t 21) (.k (.c (.int .i64 1))), none⟩, ⟨(some 21), .mov (.t 38), none⟩]))))
def k33 : KF := ⟨41, (.seq (.region [⟨(some 2), .mov (.k (.c (.str ⟨#[]⟩))), none⟩])
  (.seq (.seq (.region [⟨(some 6), .mov (.t 0), none⟩, ⟨(some 7), .call (.k (.c (.fn 41 []))) [(.t 6)], none⟩, ⟨(some 8), .un .not (.t 7), none⟩])
  (.cond (.t 8) (.seq (.region [⟨(some 2), .mov (.k (.c (.str ⟨#[]⟩))), none⟩])
  .ret) .skip))
  (.seq (.seq (.region [⟨(some 9), .mov (.t 0), none⟩, ⟨(some 10), .bin .eql .int (.t 9) (.k (.c (.int .i64 0))), none⟩])
  (.cond (.t 10) (.seq (.region [⟨(some 2), .mov (.k (.c (.str ⟨#[48, 100]⟩))), none⟩])
  .ret) .skip))
  (.seq (.region [⟨(some 11), .buildSl 9 0 [] [], none⟩, ⟨(some 3), .mov (.t 11), none⟩])
  (.seq (.seq (.region [⟨(some 12), .mov (.t 0), none⟩, ⟨(some 13), .bin .quo .int (.t 12) (.k (.c (.int .i64 240))), none⟩, ⟨(some 14), .mov (.t 0), none⟩, ⟨(some 15), .bin .quo .int (.t 14) (.k (.c (.int .i64 12))), none⟩, ⟨(some 16), .bin .rem .int (.t 15) (.k (.c (.int .i64 20))), none⟩, ⟨(some 17), .mov (.t 0), none⟩, ⟨(some 18), .bin .rem .int (.t 17) (.k (.c (.int .i64 12))), none⟩, ⟨(some 19), .buildSl 2 3 [(.int .i64 0), (.int .i64 0), (.int .i64 0)] [(0, 1, (.t 13)), (1, 1, (.t 16)), (2, 1, (.t 18))], none⟩, ⟨(some 20), .len false (.t 19), none⟩, ⟨(some 21), .mov (.k (.c (.int .i64 0))), none⟩])
  (.block 0 (.loop l33_0)))
  (.seq (.region [⟨(some 39), .mov (.t 3), none⟩, ⟨(some 40), .call (.k (.c (.fn 61 []))) [(.t 39), (.k (.c (.str ⟨#[32]⟩)))], none⟩, ⟨(some 2), .mov (.t 40), none⟩])
  .ret)))))), [.tmp 2], true⟩
theorem c33 : kk 33 = some k33 := by kernel_rfl
/-- loop.example/g01263/impl.decimal -/
def k34 : KF := ⟨5, (.seq (.region [⟨(some 2), .mov (.k (.c (.str ⟨#[]⟩))), none⟩])
  (.seq (.region [⟨(some 3), .mov (.t 0), none⟩, ⟨(some 4), .call (.k (.c (.fn 62 []))) [(.t 3), (.k (.c (.int .i64 10)))], none⟩, ⟨(some 2), .mov (.t 4), none⟩])
  .ret)), [.tmp 2], true⟩
theorem c34 : kk 34 = some k34 := by kernel_rfl
/-- loop.example/g01263/impl.rateCode -/
def l35_0 : KC := (.seq (.region [⟨(some 17), .bin .lss .int (.t 16) (.t 15), none⟩])
  (.seq (.cond (.t 17) .skip (.exit 0))
  (.seq (.block 1 (.seq (.region [⟨(some 18), .idxS 1 (.t 14) (.t 16), none⟩, ⟨(some 19), .load1 (.t 18), none⟩, ⟨(some 8), .mov (.t 19), none⟩])
  (.seq (.region [⟨(some 20), .mov (.t 8), none⟩, ⟨(some 21), .call (.k (.c (.fn 41 []))) [(.t 20)], none⟩, ⟨(some 22), .un .not (.t 21), none⟩])
  (.cond (.t 22) (.seq (.region [⟨(some 6), .mov (.k (.c (.int .i64 2))), none⟩])
  .ret) .skip))))
  (.region [⟨(some 23), .bin .add .int (.t 16) (.k (.c (.int .i64 1))), none⟩, ⟨(some 16), .mov (.t 23), none⟩]))))
def l35_1 : KC := (.seq (.region [⟨(some 27), .bin .lss .int (.t 26) (.t 25), none⟩])
  (.seq (.cond (.t 27) .skip (.exit 2))
  (.seq (.block 3 (.seq (.region [⟨(some 28), .idxS 1 (.t 24) (.t 26), none⟩, ⟨(some 29), .load1 (.t 28), none⟩, ⟨(some 10), .mov (.t 29), none⟩])
  (.seq (.region [⟨(some 30), .mov (.t 10), none⟩, ⟨(some 31), .call (.k (.c (.fn 42 []))) [(.t 30)], none⟩, ⟨(some 32), .un .not (.t 31), none⟩])
  (.cond (.t 32) (.seq (.region [⟨(some 6), .mov (.k (.c (.int .i64 2))), none⟩])
  .ret) .skip))))
  (.region [⟨(some 33), .bin .add .int (.t 26) (.k (.c (.int .i64 1))), none⟩, ⟨(some 26), .mov (.t 33), none⟩]))))
def k35 : KF := ⟨34, (.seq (.region [⟨(some 3), .box 25 (.t 0), none⟩, ⟨(some 6), .mov (.k (.c (.int .i64 0))), none⟩])
  (.seq (.seq (.region [⟨(some 11), .loadN 2 (.t 3), none⟩, ⟨(some 12), .call (.k (.c (.fn 15 []))) [(.t 11)], none⟩, ⟨(some 13), .un .not (.t 12), none⟩])
  (.cond (.t 13) (.seq (.region [⟨(some 6), .mov (.k (.c (.int .i64 1))), none⟩])
  .ret) .skip))
  (.seq (.seq (.region [⟨(some 14), .mov (.t 1), none⟩, ⟨(some 15), .len false (.t 14), none⟩, ⟨(some 16), .mov (.k (.c (.int .i64 0))), none⟩])
  (.block 0 (.loop l35_0)))
  (.seq (.seq (.region [⟨(some 24), .mov (.t 2), none⟩, ⟨(some 25), .len false (.t 24), none⟩, ⟨(some 26), .mov (.k (.c (.int .i64 0))), none⟩])
  (.block 2 (.loop l35_1)))
  (.seq (.region [⟨(some 6), .mov (.k (.c (.int .i64 0))), none⟩])
  .ret))))), [.tmp 6], true⟩
theorem c35 : kk 35 = some k35 := by kernel_rfl
/-- loop.example/g01263/impl.limited -/
def k36 : KF := ⟨7, (.seq (.region [⟨(some 2), .mov (.k (.c (.int .i64 0))), none⟩, ⟨(some 3), .mov (.k (.c (.int .i64 0))), none⟩])
  (.seq (.seq (.region [⟨(some 4), .mov (.t 0), none⟩, ⟨(some 5), .bin .gtr .int (.t 4) (.k (.c (.int .i64 100000000))), none⟩])
  (.cond (.t 5) (.seq (.region [⟨(some 2), .mov (.k (.c (.int .i64 0))), none⟩, ⟨(some 3), .mov (.k (.c (.int .i64 3))), none⟩])
  .ret) .skip))
  (.seq (.region [⟨(some 6), .mov (.t 0), none⟩, ⟨(some 2), .mov (.t 6), none⟩, ⟨(some 3), .mov (.k (.c (.int .i64 0))), none⟩])
  .ret))), [.tmp 2, .tmp 3], true⟩
theorem c36 : kk 36 = some k36 := by kernel_rfl
/-- loop.example/g01263/impl.interest -/
def k37 : KF := ⟨17, (.seq (.region [⟨(some 4), .box 25 (.t 1), none⟩, ⟨(some 6), .mov (.k (.c (.int .i64 0))), none⟩])
  (.seq (.region [⟨(some 7), .mov (.t 0), none⟩, ⟨(some 8), .fldA 0 (.t 4), none⟩, ⟨(some 9), .load1 (.t 8), none⟩, ⟨(some 10), .bin .mul .int (.t 7) (.t 9), none⟩, ⟨(some 11), .mov (.t 2), none⟩, ⟨(some 12), .bin .mul .int (.t 10) (.t 11), none⟩, ⟨(some 13), .fldA 1 (.t 4), none⟩, ⟨(some 14), .load1 (.t 13), none⟩, ⟨(some 15), .bin .mul .int (.t 14) (.k (.c (.int .i64 365))), none⟩, ⟨(some 16), .bin .quo .int (.t 12) (.t 15), none⟩, ⟨(some 6), .mov (.t 16), none⟩])
  .ret)), [.tmp 6], true⟩
theorem c37 : kk 37 = some k37 := by kernel_rfl
/-- loop.example/g01263/spec.l03Asked -/
def k38 : KF := ⟨18, (.seq (.region [⟨(some 4), .box 25 (.t 1), none⟩, ⟨(some 6), .mov (.k (.c (.int .i64 0))), none⟩])
  (.seq (.seq (.region [⟨(some 7), .loadN 2 (.t 4), none⟩, ⟨(some 8), .call (.k (.c (.fn 63 []))) [(.t 7)], none⟩, ⟨(some 9), .un .not (.t 8), none⟩])
  (.cond (.t 9) (.seq (.region [⟨(some 6), .mov (.k (.c (.int .i64 1))), none⟩])
  .ret) .skip))
  (.seq (.seq (.region [⟨(some 10), .mov (.t 0), none⟩, ⟨(some 11), .call (.k (.c (.fn 64 []))) [(.t 10)], none⟩, ⟨(some 12), .un .not (.t 11), none⟩, ⟨(some 13), .mov (.t 12), none⟩, ⟨(some 14), .mov (.t 2), some (13, false)⟩, ⟨(some 15), .call (.k (.c (.fn 44 []))) [(.t 14)], some (13, false)⟩, ⟨(some 16), .un .not (.t 15), some (13, false)⟩, ⟨(some 17), .pick (.t 13) (.k (.c (.bool true))) (.t 16), none⟩])
  (.cond (.t 17) (.seq (.region [⟨(some 6), .mov (.k (.c (.int .i64 2))), none⟩])
  .ret) .skip))
  (.seq (.region [⟨(some 6), .mov (.k (.c (.int .i64 0))), none⟩])
  .ret)))), [.tmp 6], true⟩
theorem c38 : kk 38 = some k38 := by kernel_rfl
/-- loop.example/g01263/spec.l03Told -/
def k39 : KF := ⟨7, (.seq (.region [⟨(some 2), .mov (.k (.c (.int .i64 0))), none⟩, ⟨(some 3), .mov (.k (.c (.int .i64 0))), none⟩])
  (.seq (.seq (.region [⟨(some 4), .mov (.t 0), none⟩, ⟨(some 5), .bin .gtr .int (.t 4) (.k (.c (.int .i64 100000000))), none⟩])
  (.cond (.t 5) (.seq (.region [⟨(some 2), .mov (.k (.c (.int .i64 0))), none⟩, ⟨(some 3), .mov (.k (.c (.int .i64 3))), none⟩])
  .ret) .skip))
  (.seq (.region [⟨(some 6), .mov (.t 0), none⟩, ⟨(some 2), .mov (.t 6), none⟩, ⟨(some 3), .mov (.k (.c (.int .i64 0))), none⟩])
  .ret))), [.tmp 2, .tmp 3], true⟩
theorem c39 : kk 39 = some k39 := by kernel_rfl
/-- loop.example/g01263/spec.l03Interest -/
def k40 : KF := ⟨17, (.seq (.region [⟨(some 4), .box 25 (.t 1), none⟩, ⟨(some 6), .mov (.k (.c (.int .i64 0))), none⟩])
  (.seq (.region [⟨(some 7), .mov (.t 0), none⟩, ⟨(some 8), .fldA 0 (.t 4), none⟩, ⟨(some 9), .load1 (.t 8), none⟩, ⟨(some 10), .bin .mul .int (.t 7) (.t 9), none⟩, ⟨(some 11), .mov (.t 2), none⟩, ⟨(some 12), .bin .mul .int (.t 10) (.t 11), none⟩, ⟨(some 13), .fldA 1 (.t 4), none⟩, ⟨(some 14), .load1 (.t 13), none⟩, ⟨(some 15), .bin .mul .int (.t 14) (.k (.c (.int .i64 365))), none⟩, ⟨(some 16), .bin .quo .int (.t 12) (.t 15), none⟩, ⟨(some 6), .mov (.t 16), none⟩])
  .ret)), [.tmp 6], true⟩
theorem c40 : kk 40 = some k40 := by kernel_rfl
/-- loop.example/g01263/impl.isAmount -/
def k41 : KF := ⟨9, (.seq (.region [⟨(some 2), .mov (.k (.c (.bool false))), none⟩])
  (.seq (.region [⟨(some 3), .mov (.t 0), none⟩, ⟨(some 4), .bin .geq .int (.t 3) (.k (.c (.int .i64 0))), none⟩, ⟨(some 5), .mov (.t 4), none⟩, ⟨(some 6), .mov (.t 0), some (5, true)⟩, ⟨(some 7), .bin .leq .int (.t 6) (.k (.c (.int .i64 100000000))), some (5, true)⟩, ⟨(some 8), .pick (.t 5) (.t 7) (.k (.c (.bool false))), none⟩, ⟨(some 2), .mov (.t 8), none⟩])
  .ret)), [.tmp 2], true⟩
theorem c41 : kk 41 = some k41 := by kernel_rfl
/-- loop.example/g01263/impl.isDay -/
def k42 : KF := ⟨9, (.seq (.region [⟨(some 2), .mov (.k (.c (.bool false))), none⟩])
  (.seq (.region [⟨(some 3), .mov (.t 0), none⟩, ⟨(some 4), .bin .geq .int (.t 3) (.k (.c (.int .i64 0))), none⟩, ⟨(some 5), .mov (.t 4), none⟩, ⟨(some 6), .mov (.t 0), some (5, true)⟩, ⟨(some 7), .bin .leq .int (.t 6) (.k (.c (.int .i64 40000))), some (5, true)⟩, ⟨(some 8), .pick (.t 5) (.t 7) (.k (.c (.bool false))), none⟩, ⟨(some 2), .mov (.t 8), none⟩])
  .ret)), [.tmp 2], true⟩
theorem c42 : kk 42 = some k42 := by kernel_rfl
/-- loop.example/g01263/impl.grown -/
def l43_0 : KC := (.seq (.seq (.region [⟨(some 11), .mov (.t 2), none⟩, ⟨(some 12), .mov (.t 3), none⟩, ⟨(some 13), .bin .geq .int (.t 11) (.t 12), none⟩, ⟨(some 14), .mov (.t 13), none⟩, ⟨(some 15), .mov (.t 0), some (14, true)⟩, ⟨(some 16), .bin .leq .int (.t 15) (.k (.c (.int .i64 100000000))), some (14, true)⟩, ⟨(some 17), .pick (.t 14) (.t 16) (.k (.c (.bool false))), none⟩])
  (.cond (.t 17) .skip (.exit 0)))
  (.seq (.block 1 (.region [⟨(some 21), .mov (.t 0), none⟩, ⟨(some 22), .mov (.t 0), none⟩, ⟨(some 23), .loadN 2 (.t 5), none⟩, ⟨(some 24), .mov (.t 3), none⟩, ⟨(some 25), .call (.k (.c (.fn 37 []))) [(.t 22), (.t 23), (.t 24)], none⟩, ⟨(some 26), .bin .add .int (.t 21) (.t 25), none⟩, ⟨(some 0), .mov (.t 26), none⟩]))
  (.region [⟨(some 18), .mov (.t 2), none⟩, ⟨(some 19), .mov (.t 3), none⟩, ⟨(some 20), .bin .sub .int (.t 18) (.t 19), none⟩, ⟨(some 2), .mov (.t 20), none⟩])))
def k43 : KF := ⟨36, (.seq (.region [⟨(some 5), .box 25 (.t 1), none⟩, ⟨(some 8), .mov (.k (.c (.int .i64 0))), none⟩])
  (.seq (.seq (.region [⟨(some 9), .mov (.t 3), none⟩, ⟨(some 10), .bin .gtr .int (.t 9) (.k (.c (.int .i64 0))), none⟩])
  (.cond (.t 10) (.block 0 (.loop l43_0)) .skip))
  (.seq (.seq (.region [⟨(some 27), .mov (.t 0), none⟩, ⟨(some 28), .bin .gtr .int (.t 27) (.k (.c (.int .i64 100000000))), none⟩])
  (.cond (.t 28) (.seq (.region [⟨(some 29), .mov (.t 0), none⟩, ⟨(some 8), .mov (.t 29), none⟩])
  .ret) .skip))
  (.seq (.region [⟨(some 30), .mov (.t 0), none⟩, ⟨(some 31), .mov (.t 0), none⟩, ⟨(some 32), .loadN 2 (.t 5), none⟩, ⟨(some 33), .mov (.t 2), none⟩, ⟨(some 34), .call (.k (.c (.fn 37 []))) [(.t 31), (.t 32), (.t 33)], none⟩, ⟨(some 35), .bin .add .int (.t 30) (.t 34), none⟩, ⟨(some 8), .mov (.t 35), none⟩])
  .ret)))), [.tmp 8], true⟩
theorem c43 : kk 43 = some k43 := by kernel_rfl
/-- loop.example/g01263/spec.l03Day -/
def k44 : KF := ⟨5, (.seq (.region [⟨(some 2), .mov (.k (.c (.bool false))), none⟩])
  (.seq (.region [⟨(some 3), .mov (.t 0), none⟩, ⟨(some 4), .call (.k (.c (.fn 47 []))) [(.t 3), (.k (.c (.int .i64 0))), (.k (.c (.int .i64 40000)))], none⟩, ⟨(some 2), .mov (.t 4), none⟩])
  .ret)), [.tmp 2], true⟩
theorem c44 : kk 44 = some k44 := by kernel_rfl
/-- loop.example/g01263/spec.l03Grown -/
def l45_0 : KC := (.seq (.seq (.region [⟨(some 23), .mov (.t 2), none⟩, ⟨(some 24), .mov (.t 3), none⟩, ⟨(some 25), .bin .geq .int (.t 23) (.t 24), none⟩])
  (.cond (.t 25) .skip (.exit 0)))
  (.block 1 (.seq (.region [⟨(some 27), .mov (.t 0), none⟩, ⟨(some 28), .mov (.t 0), none⟩, ⟨(some 29), .loadN 2 (.t 5), none⟩, ⟨(some 30), .mov (.t 3), none⟩, ⟨(some 31), .call (.k (.c (.fn 40 []))) [(.t 28), (.t 29), (.t 30)], none⟩, ⟨(some 32), .bin .add .int (.t 27) (.t 31), none⟩, ⟨(some 33), .call (.k (.c (.fn 39 []))) [(.t 32)], none⟩, ⟨(some 26), .mov (.t 33), none⟩, ⟨(some 34), .ext (.t 26) 0, none⟩, ⟨(some 35), .ext (.t 26) 1, none⟩, ⟨(some 10), .mov (.t 34), none⟩, ⟨(some 11), .mov (.t 35), none⟩])
  (.seq (.seq (.region [⟨(some 36), .mov (.t 11), none⟩, ⟨(some 37), .bin .neq .int (.t 36) (.k (.c (.int .i64 0))), none⟩])
  (.cond (.t 37) (.seq (.region [⟨(some 38), .mov (.t 11), none⟩, ⟨(some 8), .mov (.k (.c (.int .i64 0))), none⟩, ⟨(some 9), .mov (.t 38), none⟩])
  .ret) .skip))
  (.seq (.region [⟨(some 39), .mov (.t 10), none⟩, ⟨(some 0), .mov (.t 39), none⟩])
  (.region [⟨(some 40), .mov (.t 2), none⟩, ⟨(some 41), .mov (.t 3), none⟩, ⟨(some 42), .bin .sub .int (.t 40) (.t 41), none⟩, ⟨(some 2), .mov (.t 42), none⟩]))))))
def k45 : KF := ⟨52, (.seq (.region [⟨(some 5), .box 25 (.t 1), none⟩, ⟨(some 8), .mov (.k (.c (.int .i64 0))), none⟩, ⟨(some 9), .mov (.k (.c (.int .i64 0))), none⟩])
  (.seq (.seq (.region [⟨(some 12), .mov (.t 3), none⟩, ⟨(some 13), .bin .eql .int (.t 12) (.k (.c (.int .i64 0))), none⟩])
  (.cond (.t 13) (.seq (.region [⟨(some 14), .mov (.t 0), none⟩, ⟨(some 15), .mov (.t 0), none⟩, ⟨(some 16), .loadN 2 (.t 5), none⟩, ⟨(some 17), .mov (.t 2), none⟩, ⟨(some 18), .call (.k (.c (.fn 40 []))) [(.t 15), (.t 16), (.t 17)], none⟩, ⟨(some 19), .bin .add .int (.t 14) (.t 18), none⟩, ⟨(some 20), .call (.k (.c (.fn 39 []))) [(.t 19)], none⟩, ⟨(some 21), .ext (.t 20) 0, none⟩, ⟨(some 22), .ext (.t 20) 1, none⟩, ⟨(some 8), .mov (.t 21), none⟩, ⟨(some 9), .mov (.t 22), none⟩])
  .ret) .skip))
  (.seq (.block 0 (.loop l45_0))
  (.seq (.region [⟨(some 43), .mov (.t 0), none⟩, ⟨(some 44), .mov (.t 0), none⟩, ⟨(some 45), .loadN 2 (.t 5), none⟩, ⟨(some 46), .mov (.t 2), none⟩, ⟨(some 47), .call (.k (.c (.fn 40 []))) [(.t 44), (.t 45), (.t 46)], none⟩, ⟨(some 48), .bin .add .int (.t 43) (.t 47), none⟩, ⟨(some 49), .call (.k (.c (.fn 39 []))) [(.t 48)], none⟩, ⟨(some 50), .ext (.t 49) 0, none⟩, ⟨(some 51), .ext (.t 49) 1, none⟩, ⟨(some 8), .mov (.t 50), none⟩, ⟨(some 9), .mov (.t 51), none⟩])
  .ret)))), [.tmp 8, .tmp 9], true⟩
theorem c45 : kk 45 = some k45 := by kernel_rfl
/-- loop.example/g01263/spec.l03Ok -/
def k46 : KF := ⟨29, (.seq (.region [⟨(some 2), .mov (.k (.c (.bool false))), none⟩])
  (.seq (.region [⟨(some 3), .mov (.t 0), none⟩, ⟨(some 4), .nilchk (.t 3), none⟩, ⟨(some 5), .fldA 0 (.t 4), none⟩, ⟨(some 6), .load1 (.t 5), none⟩, ⟨(some 7), .call (.k (.c (.fn 64 []))) [(.t 6)], none⟩, ⟨(some 8), .mov (.t 7), none⟩, ⟨(some 9), .mov (.t 0), some (8, true)⟩, ⟨(some 10), .nilchk (.t 9), some (8, true)⟩, ⟨(some 11), .fldA 1 (.t 10), some (8, true)⟩, ⟨(some 12), .load1 (.t 11), some (8, true)⟩, ⟨(some 13), .call (.k (.c (.fn 44 []))) [(.t 12)], some (8, true)⟩, ⟨(some 14), .pick (.t 8) (.t 13) (.k (.c (.bool false))), none⟩, ⟨(some 15), .mov (.t 14), none⟩, ⟨(some 16), .mov (.t 0), some (15, true)⟩, ⟨(some 17), .nilchk (.t 16), some (15, true)⟩, ⟨(some 18), .fldA 2 (.t 17), some (15, true)⟩, ⟨(some 19), .loadN 2 (.t 18), some (15, true)⟩, ⟨(some 20), .call (.k (.c (.fn 63 []))) [(.t 19)], some (15, true)⟩, ⟨(some 21), .pick (.t 15) (.t 20) (.k (.c (.bool false))), none⟩, ⟨(some 22), .mov (.t 21), none⟩, ⟨(some 23), .mov (.t 0), some (22, true)⟩, ⟨(some 24), .nilchk (.t 23), some (22, true)⟩, ⟨(some 25), .fldA 4 (.t 24), some (22, true)⟩, ⟨(some 26), .load1 (.t 25), some (22, true)⟩, ⟨(some 27), .call (.k (.c (.fn 44 []))) [(.t 26)], some (22, true)⟩, ⟨(some 28), .pick (.t 22) (.t 27) (.k (.c (.bool false))), none⟩, ⟨(some 2), .mov (.t 28), none⟩])
  .ret)), [.tmp 2], true⟩
theorem c46 : kk 46 = some k46 := by kernel_rfl
/-- loop.example/g01263/spec.l00In -/
def k47 : KF := ⟨15, (.seq (.region [⟨(some 6), .mov (.k (.c (.bool false))), none⟩])
  (.seq (.region [⟨(some 7), .mov (.t 0), none⟩, ⟨(some 8), .mov (.t 1), none⟩, ⟨(some 9), .bin .geq .int (.t 7) (.t 8), none⟩, ⟨(some 10), .mov (.t 9), none⟩, ⟨(some 11), .mov (.t 0), some (10, true)⟩, ⟨(some 12), .mov (.t 2), some (10, true)⟩, ⟨(some 13), .bin .leq .int (.t 11) (.t 12), some (10, true)⟩, ⟨(some 14), .pick (.t 10) (.t 13) (.k (.c (.bool false))), none⟩, ⟨(some 6), .mov (.t 14), none⟩])
  .ret)), [.tmp 6], true⟩
theorem c47 : kk 47 = some k47 := by kernel_rfl
/-- (*loop.example/g01263/spec.l00Src).among -/
def k55 : KF := ⟨12, (.seq (.region [⟨(some 4), .mov (.k (.c (.int .i64 0))), none⟩])
  (.seq (.region [⟨(some 5), .mov (.t 1), none⟩, ⟨(some 6), .mov (.t 0), none⟩, ⟨(some 7), .mov (.t 1), none⟩, ⟨(some 8), .len false (.t 7), none⟩, ⟨(some 9), .call (.k (.c (.fn 29 []))) [(.t 6), (.t 8)], none⟩, ⟨(some 10), .idxS 1 (.t 5) (.t 9), none⟩, ⟨(some 11), .load1 (.t 10), none⟩, ⟨(some 4), .mov (.t 11), none⟩])
  .ret)), [.tmp 4], true⟩
theorem c55 : kk 55 = some k55 := by kernel_rfl
/-- (*loop.example/g01263/spec.l00Src).next -/
def k56 : KF := ⟨62, (.seq (.region [⟨(some 2), .mov (.k (.c (.int .i64 0))), none⟩])
  (.seq (.region [⟨(some 3), .mov (.k (.c (.int .i64 0))), none⟩])
  (.seq (.seq (.drawn [(⟨(some 4), .mov (.t 0), none⟩, []), (⟨(some 5), .nilchk (.t 4), none⟩, []), (⟨(some 6), .fldA 1 (.t 5), none⟩, []), (⟨(some 7), .load1 (.t 6), none⟩, []), (⟨(some 8), .mov (.t 0), none⟩, []), (⟨(some 9), .nilchk (.t 8), none⟩, []), (⟨(some 10), .fldA 0 (.t 9), none⟩, []), (⟨(some 11), .load1 (.t 10), none⟩, []), (⟨(some 12), .len false (.t 11), none⟩, []), (⟨(some 13), .bin .lss .int (.t 7) (.t 12), none⟩, [])])
  (.cond (.t 13) (.drawn [(⟨(some 14), .mov (.t 0), none⟩, []), (⟨(some 15), .nilchk (.t 14), none⟩, []), (⟨(some 16), .fldA 0 (.t 15), none⟩, []), (⟨(some 17), .load1 (.t 16), none⟩, []), (⟨(some 18), .mov (.t 0), none⟩, []), (⟨(some 19), .nilchk (.t 18), none⟩, []), (⟨(some 20), .fldA 1 (.t 19), none⟩, []), (⟨(some 21), .load1 (.t 20), none⟩, []), (⟨(some 22), .idxS 1 (.t 17) (.t 21), none⟩, []), (⟨(some 23), .load1 (.t 22), none⟩, []), (⟨(some 24), .conv .i64 (.t 23), none⟩, []), (⟨(some 3), .mov (.t 24), none⟩, [])]) .skip))
  (.seq (.region [⟨(some 25), .mov (.t 0), none⟩, ⟨(some 26), .nilchk (.t 25), none⟩, ⟨(some 27), .fldA 1 (.t 26), none⟩, ⟨(some 28), .load1 (.t 27), none⟩, ⟨(some 29), .bin .add .int (.t 28) (.k (.c (.int .i64 1))), none⟩, ⟨(some 30), .nilchk (.t 25), none⟩, ⟨(some 31), .fldA 1 (.t 30), none⟩, ⟨none, .store 1 (.t 31) (.t 29), none⟩])
  (.seq (.region [⟨(some 32), .mov (.t 0), none⟩, ⟨(some 33), .mov (.t 0), none⟩, ⟨(some 34), .nilchk (.t 33), none⟩, ⟨(some 35), .fldA 2 (.t 34), none⟩, ⟨(some 36), .load1 (.t 35), none⟩, ⟨(some 37), .bin .mul .int (.t 36) (.k (.c (.int .u64 6364136223846793005))), none⟩, ⟨(some 38), .mov (.t 3), none⟩, ⟨(some 39), .conv .u64 (.t 38), none⟩, ⟨(some 40), .bin .add .int (.t 37) (.t 39), none⟩, ⟨(some 41), .bin .add .int (.t 40) (.k (.c (.int .u64 1442695040888963407))), none⟩, ⟨(some 42), .nilchk (.t 32), none⟩, ⟨(some 43), .fldA 2 (.t 42), none⟩, ⟨none, .store 1 (.t 43) (.t 41), none⟩])
  (.seq (.seq (.drawn [(⟨(some 44), .mov (.t 0), none⟩, []), (⟨(some 45), .nilchk (.t 44), none⟩, []), (⟨(some 46), .fldA 1 (.t 45), none⟩, []), (⟨(some 47), .load1 (.t 46), none⟩, []), (⟨(some 48), .mov (.t 0), none⟩, []), (⟨(some 49), .nilchk (.t 48), none⟩, []), (⟨(some 50), .fldA 0 (.t 49), none⟩, []), (⟨(some 51), .load1 (.t 50), none⟩, []), (⟨(some 52), .len false (.t 51), none⟩, []), (⟨(some 53), .bin .leq .int (.t 47) (.t 52), none⟩, [])])
  (.cond (.t 53) (.seq (.region [⟨(some 54), .mov (.t 3), none⟩, ⟨(some 2), .mov (.t 54), none⟩])
  .ret) .skip))
  (.seq (.region [⟨(some 55), .mov (.t 0), none⟩, ⟨(some 56), .nilchk (.t 55), none⟩, ⟨(some 57), .fldA 2 (.t 56), none⟩, ⟨(some 58), .load1 (.t 57), none⟩, ⟨(some 59), .bin .shr .int (.t 58) (.k (.c (.int .u64 40))), none⟩, ⟨(some 60), .bin .and .int (.t 59) (.k (.c (.int .u64 255))), none⟩, ⟨(some 61), .conv .i64 (.t 60), none⟩, ⟨(some 2), .mov (.t 61), none⟩])
  .ret))))))), [.tmp 2], true⟩
theorem c56 : kk 56 = some k56 := by kernel_rfl
/-- strings.IndexByte -/
def k59 : KF := ⟨8, (.seq (.region [⟨(some 4), .mov (.k (.c (.int .i64 0))), none⟩])
  (.seq (.region [⟨(some 5), .mov (.t 0), none⟩, ⟨(some 6), .mov (.t 1), none⟩, ⟨(some 7), .call (.k (.c (.fn 70 []))) [(.t 5), (.t 6)], none⟩, ⟨(some 4), .mov (.t 7), none⟩])
  .ret)), [.tmp 4], true⟩
theorem c59 : kk 59 = some k59 := by kernel_rfl
/-- loop.example/g01263/impl.worth -/
def k60 : KF := ⟨7, (.seq (.region [⟨(some 2), .mov (.k (.c (.int .i64 0))), none⟩])
  (.seq (.region [⟨(some 3), .buildSl 2 6 [(.int .i64 0), (.int .i64 0), (.int .i64 0), (.int .i64 0), (.int .i64 0), (.int .i64 0)] [(0, 1, (.k (.c (.int .i64 1)))), (1, 1, (.k (.c (.int .i64 12)))), (2, 1, (.k (.c (.int .i64 240)))), (3, 1, (.k (.c (.int .i64 4800)))), (4, 1, (.k (.c (.int .i64 24000)))), (5, 1, (.k (.c (.int .i64 240000))))], none⟩, ⟨(some 4), .mov (.t 0), none⟩, ⟨(some 5), .idxS 1 (.t 3) (.t 4), none⟩, ⟨(some 6), .load1 (.t 5), none⟩, ⟨(some 2), .mov (.t 6), none⟩])
  .ret)), [.tmp 2], true⟩
theorem c60 : kk 60 = some k60 := by kernel_rfl
/-- loop.example/g01263/spec.l03Rate -/
def k63 : KF := ⟨13, (.seq (.region [⟨(some 1), .box 25 (.t 0), none⟩, ⟨(some 2), .mov (.k (.c (.bool false))), none⟩])
  (.seq (.region [⟨(some 3), .fldA 1 (.t 1), none⟩, ⟨(some 4), .load1 (.t 3), none⟩, ⟨(some 5), .call (.k (.c (.fn 47 []))) [(.t 4), (.k (.c (.int .i64 1))), (.k (.c (.int .i64 10000)))], none⟩, ⟨(some 6), .mov (.t 5), none⟩, ⟨(some 7), .fldA 0 (.t 1), some (6, true)⟩, ⟨(some 8), .load1 (.t 7), some (6, true)⟩, ⟨(some 9), .fldA 1 (.t 1), some (6, true)⟩, ⟨(some 10), .load1 (.t 9), some (6, true)⟩, ⟨(some 11), .call (.k (.c (.fn 47 []))) [(.t 8), (.k (.c (.int .i64 0))), (.t 10)], some (6, true)⟩, ⟨(some 12), .pick (.t 6) (.t 11) (.k (.c (.bool false))), none⟩, ⟨(some 2), .mov (.t 12), none⟩])
  .ret)), [.tmp 2], true⟩
theorem c63 : kk 63 = some k63 := by kernel_rfl
/-- loop.example/g01263/spec.l03Amount -/
def k64 : KF := ⟨5, (.seq (.region [⟨(some 2), .mov (.k (.c (.bool false))), none⟩])
  (.seq (.region [⟨(some 3), .mov (.t 0), none⟩, ⟨(some 4), .call (.k (.c (.fn 47 []))) [(.t 3), (.k (.c (.int .i64 0))), (.k (.c (.int .i64 100000000)))], none⟩, ⟨(some 2), .mov (.t 4), none⟩])
  .ret)), [.tmp 2], true⟩
theorem c64 : kk 64 = some k64 := by kernel_rfl
theorem c30 : kk 30 = some k30 := by kernel_rfl
theorem c58 : kk 58 = some k58 := by kernel_rfl
theorem c61 : kk 61 = some k61 := by kernel_rfl
theorem c62 : kk 62 = some k62 := by kernel_rfl
theorem c70 : kk 70 = some k70 := by kernel_rfl
end Go.Proofs.YtmockobmiagbcaaDoor
