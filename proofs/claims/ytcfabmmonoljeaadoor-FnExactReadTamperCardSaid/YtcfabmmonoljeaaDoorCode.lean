/- What functions of the program answer: part Code. -/
import Derived.Test.YtcfabmmonoljeaaDoorViE
import Derived.Test.YtcfabmmonoljeaaDoorViC
import Derived.Test.YtcfabmmonoljeaaDoorViA
import Derived.Test.YtcfabmmonoljeaaDoorChecked
import Derived.KernelRfl
set_option linter.unusedVariables false
set_option linter.unusedSimpArgs false
set_option linter.unusedSectionVars false
namespace Go.Proofs.YtcfabmmonoljeaaDoor
open Go Go.Proofs.YtcfabmmonoljeaaDoor.VI
def k41 : KF := kNat 2 1 (splitA 9)
def k43 : KF := kNat 2 1 indexA
def k75 : KF := kNat 2 1 fmtA
def k80 : KF := kNat 1 1 decA
def k92 : KF := kNat 3 1 (insA 91 2 4)
noncomputable def kk : FuncId → Option KF := fun f => if f = 41 then some k41 else if f = 43 then some k43 else if f = 75 then some k75 else if f = 80 then some k80 else if f = 92 then some k92 else cFunc Tryd.prog (!([7, 8, 9, 12, 13, 24, 25, 26, 31, 32, 33, 35, 37, 38, 41, 52, 57, 62, 63, 67, 68, 71, 73, 78, 81, 83, 84, 85] : List Nat).contains f) f
/-- loop.example/g01263/laws.FnWood -/
def k3 : KF := ⟨279, (.seq (.region [⟨(some 4), .mov (.k (.c (.bool false))), none⟩])
  (.seq (.seq (.region [⟨(some 43), .mov (.t 0), none⟩, ⟨(some 44), .call (.k (.c (.fn 6 []))) [(.t 43)], none⟩, ⟨(some 45), .mov (.t 44), none⟩, ⟨(some 46), .mov (.t 1), some (45, false)⟩, ⟨(some 47), .call (.k (.c (.fn 6 []))) [(.t 46)], some (45, false)⟩, ⟨(some 48), .pick (.t 45) (.k (.c (.bool true))) (.t 47), none⟩])
  (.cond (.t 48) (.seq (.region [⟨(some 4), .mov (.k (.c (.bool true))), none⟩])
  .ret) .skip))
  (.seq (.region [⟨(some 49), .mov (.t 0), none⟩, ⟨(some 50), .call (.k (.c (.fn 7 []))) [(.t 49)], none⟩, ⟨(some 5), .alloc 29 [(.bool false), (.slice none 0 (.exact 0)), (.int .i8 0), (.int .i8 0), (.int .i8 0), (.int .i8 0), (.int .i8 0), (.int .i8 0), (.int .i8 0), (.int .i8 0), (.int .i8 0), (.int .i8 0), (.int .i8 0), (.int .i8 0), (.int .i8 0), (.int .i8 0), (.int .i8 0), (.int .i8 0)], none⟩, ⟨none, .store 18 (.t 5) (.t 50), none⟩])
  (.seq (.region [⟨(some 52), .loadN 18 (.t 5), none⟩, ⟨(some 53), .call (.k (.c (.fn 8 []))) [(.t 52)], none⟩, ⟨(some 51), .mov (.t 53), none⟩, ⟨(some 54), .ext (.t 51) 0, none⟩, ⟨(some 55), .ext (.t 51) 1, none⟩, ⟨(some 6), .mov (.t 54), none⟩, ⟨(some 7), .mov (.t 55), none⟩])
  (.seq (.region [⟨(some 57), .loadN 18 (.t 5), none⟩, ⟨(some 58), .call (.k (.c (.fn 9 []))) [(.t 57)], none⟩, ⟨(some 56), .mov (.t 58), none⟩, ⟨(some 59), .ext (.t 56) 0, none⟩, ⟨(some 60), .ext (.t 56) 1, none⟩, ⟨(some 8), .mov (.t 59), none⟩, ⟨(some 9), .mov (.t 60), none⟩])
  (.seq (.seq (.region [⟨(some 61), .mov (.t 7), none⟩, ⟨(some 62), .mov (.t 9), none⟩, ⟨(some 63), .bin .neq .int (.t 61) (.t 62), none⟩, ⟨(some 64), .mov (.t 63), none⟩, ⟨(some 65), .mov (.t 7), some (64, false)⟩, ⟨(some 66), .bin .neq .int (.t 65) (.k (.c (.int .i64 0))), some (64, false)⟩, ⟨(some 67), .pick (.t 64) (.k (.c (.bool true))) (.t 66), none⟩, ⟨(some 68), .mov (.t 67), none⟩, ⟨(some 69), .mov (.t 6), some (68, false)⟩, ⟨(some 70), .mov (.t 8), some (68, false)⟩, ⟨(some 71), .call (.k (.c (.fn 10 []))) [(.t 69), (.t 70)], some (68, false)⟩, ⟨(some 72), .un .not (.t 71), some (68, false)⟩, ⟨(some 73), .pick (.t 68) (.k (.c (.bool true))) (.t 72), none⟩])
  (.cond (.t 73) (.seq (.region [⟨(some 4), .mov (.k (.c (.bool false))), none⟩])
  .ret) .skip))
  (.seq (.region [⟨(some 75), .mov (.t 1), none⟩, ⟨(some 76), .loadN 18 (.t 5), none⟩, ⟨(some 77), .call (.k (.c (.fn 11 []))) [(.t 75), (.t 76)], none⟩, ⟨(some 74), .mov (.t 77), none⟩, ⟨(some 78), .ext (.t 74) 0, none⟩, ⟨(some 79), .ext (.t 74) 1, none⟩, ⟨(some 10), .alloc 37 [(.int .i8 0), (.int .i8 0), (.int .i16 0), (.int .i16 0)], none⟩, ⟨none, .store 4 (.t 10) (.t 78), none⟩, ⟨(some 11), .mov (.t 79), none⟩])
  (.seq (.seq (.region [⟨(some 80), .mov (.t 11), none⟩, ⟨(some 81), .un .not (.t 80), none⟩])
  (.cond (.t 81) (.seq (.region [⟨(some 82), .mov (.t 8), none⟩, ⟨(some 83), .len false (.t 82), none⟩, ⟨(some 84), .bin .eql .int (.t 83) (.k (.c (.int .i64 0))), none⟩, ⟨(some 4), .mov (.t 84), none⟩])
  .ret) .skip))
  (.seq (.region [⟨(some 86), .loadN 18 (.t 5), none⟩, ⟨(some 87), .loadN 4 (.t 10), none⟩, ⟨(some 88), .call (.k (.c (.fn 12 []))) [(.t 86), (.t 87)], none⟩, ⟨(some 85), .mov (.t 88), none⟩, ⟨(some 89), .ext (.t 85) 0, none⟩, ⟨(some 90), .ext (.t 85) 1, none⟩, ⟨(some 12), .alloc 29 [(.bool false), (.slice none 0 (.exact 0)), (.int .i8 0), (.int .i8 0), (.int .i8 0), (.int .i8 0), (.int .i8 0), (.int .i8 0), (.int .i8 0), (.int .i8 0), (.int .i8 0), (.int .i8 0), (.int .i8 0), (.int .i8 0), (.int .i8 0), (.int .i8 0), (.int .i8 0), (.int .i8 0)], none⟩, ⟨none, .store 18 (.t 12) (.t 89), none⟩, ⟨(some 13), .mov (.t 90), none⟩])
  (.seq (.region [⟨(some 92), .loadN 18 (.t 5), none⟩, ⟨(some 93), .loadN 4 (.t 10), none⟩, ⟨(some 94), .call (.k (.c (.fn 13 []))) [(.t 92), (.t 93)], none⟩, ⟨(some 91), .mov (.t 94), none⟩, ⟨(some 95), .ext (.t 91) 0, none⟩, ⟨(some 96), .ext (.t 91) 1, none⟩, ⟨(some 14), .alloc 29 [(.bool false), (.slice none 0 (.exact 0)), (.int .i8 0), (.int .i8 0), (.int .i8 0), (.int .i8 0), (.int .i8 0), (.int .i8 0), (.int .i8 0), (.int .i8 0), (.int .i8 0), (.int .i8 0), (.int .i8 0), (.int .i8 0), (.int .i8 0), (.int .i8 0), (.int .i8 0), (.int .i8 0)], none⟩, ⟨none, .store 18 (.t 14) (.t 95), none⟩, ⟨(some 15), .mov (.t 96), none⟩])
  (.seq (.region [⟨(some 98), .loadN 18 (.t 5), none⟩, ⟨(some 99), .loadN 4 (.t 10), none⟩, ⟨(some 100), .call (.k (.c (.fn 14 []))) [(.t 98), (.t 99)], none⟩, ⟨(some 97), .mov (.t 100), none⟩, ⟨(some 101), .ext (.t 97) 0, none⟩, ⟨(some 102), .ext (.t 97) 1, none⟩, ⟨(some 16), .mov (.t 101), none⟩, ⟨(some 17), .mov (.t 102), none⟩])
  (.seq (.region [⟨(some 104), .loadN 18 (.t 5), none⟩, ⟨(some 105), .call (.k (.c (.fn 15 []))) [(.t 104)], none⟩, ⟨(some 103), .mov (.t 105), none⟩, ⟨(some 106), .ext (.t 103) 0, none⟩, ⟨(some 107), .ext (.t 103) 1, none⟩, ⟨(some 18), .alloc 46 [(.int .u64 0), (.int .u64 0), (.int .u64 0), (.int .u64 0)], none⟩, ⟨none, .store 4 (.t 18) (.t 106), none⟩, ⟨(some 19), .mov (.t 107), none⟩])
  (.seq (.region [⟨(some 109), .loadN 18 (.t 14), none⟩, ⟨(some 110), .call (.k (.c (.fn 15 []))) [(.t 109)], none⟩, ⟨(some 108), .mov (.t 110), none⟩, ⟨(some 111), .ext (.t 108) 0, none⟩, ⟨(some 112), .ext (.t 108) 1, none⟩, ⟨(some 20), .alloc 46 [(.int .u64 0), (.int .u64 0), (.int .u64 0), (.int .u64 0)], none⟩, ⟨none, .store 4 (.t 20) (.t 111), none⟩, ⟨(some 21), .mov (.t 112), none⟩])
  (.seq (.region [⟨(some 114), .loadN 4 (.t 10), none⟩, ⟨(some 115), .call (.k (.c (.fn 17 []))) [(.t 114)], none⟩, ⟨(some 116), .call (.k (.c (.fn 16 []))) [(.t 115)], none⟩, ⟨(some 113), .mov (.t 116), none⟩, ⟨(some 117), .ext (.t 113) 0, none⟩, ⟨(some 118), .ext (.t 113) 1, none⟩, ⟨(some 22), .alloc 37 [(.int .i8 0), (.int .i8 0), (.int .i16 0), (.int .i16 0)], none⟩, ⟨none, .store 4 (.t 22) (.t 117), none⟩, ⟨(some 23), .mov (.t 118), none⟩])
  (.seq (.seq (.drawn [(⟨(some 119), .mov (.t 13), none⟩, []), (⟨(some 120), .mov (.t 15), none⟩, []), (⟨(some 121), .bin .neq .int (.t 119) (.t 120), none⟩, []), (⟨(some 122), .mov (.t 121), none⟩, []), (⟨(some 123), .mov (.t 13), some (122, false)⟩, []), (⟨(some 124), .bin .neq .int (.t 123) (.k (.c (.int .i64 0))), some (122, false)⟩, []), (⟨(some 125), .pick (.t 122) (.k (.c (.bool true))) (.t 124), none⟩, []), (⟨(some 126), .mov (.t 125), none⟩, []), (⟨(some 127), .loadN 18 (.t 12), some (126, false)⟩, []), (⟨(some 128), .loadN 18 (.t 14), some (126, false)⟩, []), (⟨(some 129), .call (.k (.c (.fn 18 []))) [(.t 127), (.t 128)], some (126, false)⟩, []), (⟨(some 130), .un .not (.t 129), some (126, false)⟩, []), (⟨(some 131), .pick (.t 126) (.k (.c (.bool true))) (.t 130), none⟩, []), (⟨(some 132), .mov (.t 131), none⟩, []), (⟨(some 133), .loadN 18 (.t 14), some (132, false)⟩, []), (⟨(some 134), .call (.k (.c (.fn 19 []))) [(.t 133)], some (132, false)⟩, []), (⟨(some 135), .un .not (.t 134), some (132, false)⟩, []), (⟨(some 136), .pick (.t 132) (.k (.c (.bool true))) (.t 135), none⟩, []), (⟨(some 137), .mov (.t 136), none⟩, []), (⟨(some 138), .mov (.t 17), some (137, false)⟩, []), (⟨(some 139), .bin .neq .int (.t 138) (.k (.c (.int .i64 0))), some (137, false)⟩, []), (⟨(some 140), .pick (.t 137) (.k (.c (.bool true))) (.t 139), none⟩, []), (⟨(some 141), .mov (.t 140), none⟩, []), (⟨(some 142), .mov (.t 16), some (141, false)⟩, []), (⟨(some 143), .bin .leq .int (.t 142) (.k (.c (.int .i64 0))), some (141, false)⟩, []), (⟨(some 144), .pick (.t 141) (.k (.c (.bool true))) (.t 143), none⟩, []), (⟨(some 145), .mov (.t 144), none⟩, []), (⟨(some 146), .mov (.t 19), some (145, false)⟩, []), (⟨(some 147), .bin .neq .int (.t 146) (.k (.c (.int .i64 0))), some (145, false)⟩, []), (⟨(some 148), .pick (.t 145) (.k (.c (.bool true))) (.t 147), none⟩, []), (⟨(some 149), .mov (.t 148), none⟩, []), (⟨(some 150), .mov (.t 21), some (149, false)⟩, []), (⟨(some 151), .bin .neq .int (.t 150) (.k (.c (.int .i64 0))), some (149, false)⟩, []), (⟨(some 152), .pick (.t 149) (.k (.c (.bool true))) (.t 151), none⟩, []), (⟨(some 153), .mov (.t 152), none⟩, []), (⟨(some 154), .loadN 4 (.t 18), some (153, false)⟩, []), (⟨(some 155), .loadN 4 (.t 20), some (153, false)⟩, []), (⟨(some 156), .call (.k (.c (.fn 20 []))) [(.t 154), (.t 155)], some (153, false)⟩, []), (⟨(some 157), .un .not (.t 156), some (153, false)⟩, []), (⟨(some 158), .pick (.t 153) (.k (.c (.bool true))) (.t 157), none⟩, []), (⟨(some 159), .mov (.t 158), none⟩, []), (⟨(some 160), .loadN 4 (.t 20), some (159, false)⟩, []), (⟨(some 162), .loadN 4 (.t 18), some (159, false)⟩, []), (⟨(some 161), .call (.k (.c (.fn 21 []))) [(.t 160)], some (159, false)⟩, [⟨(some 162), .loadN 4 (.t 18), some (159, false)⟩]), (⟨(some 163), .call (.k (.c (.fn 21 []))) [(.t 162)], some (159, false)⟩, []), (⟨(some 164), .bin .leq .int (.t 161) (.t 163), some (159, false)⟩, []), (⟨(some 165), .pick (.t 159) (.k (.c (.bool true))) (.t 164), none⟩, []), (⟨(some 166), .mov (.t 165), none⟩, []), (⟨(some 167), .mov (.t 23), some (166, false)⟩, []), (⟨(some 168), .bin .neq .int (.t 167) (.k (.c (.int .i64 0))), some (166, false)⟩, []), (⟨(some 169), .pick (.t 166) (.k (.c (.bool true))) (.t 168), none⟩, []), (⟨(some 170), .mov (.t 169), none⟩, []), (⟨(some 171), .loadN 4 (.t 22), some (170, false)⟩, []), (⟨(some 172), .loadN 4 (.t 10), some (170, false)⟩, []), (⟨(some 173), .bin .neq (.agg [.int, .int, .int, .int]) (.t 171) (.t 172), some (170, false)⟩, []), (⟨(some 174), .pick (.t 170) (.k (.c (.bool true))) (.t 173), none⟩, [])])
  (.cond (.t 174) (.seq (.region [⟨(some 4), .mov (.k (.c (.bool false))), none⟩])
  .ret) .skip))
  (.seq (.region [⟨(some 176), .loadN 18 (.t 5), none⟩, ⟨(some 177), .call (.k (.c (.fn 22 []))) [(.t 176)], none⟩, ⟨(some 175), .mov (.t 177), none⟩, ⟨(some 178), .ext (.t 175) 0, none⟩, ⟨(some 179), .ext (.t 175) 1, none⟩, ⟨(some 24), .mov (.t 178), none⟩, ⟨(some 25), .mov (.t 179), none⟩])
  (.seq (.region [⟨(some 181), .loadN 18 (.t 14), none⟩, ⟨(some 182), .call (.k (.c (.fn 22 []))) [(.t 181)], none⟩, ⟨(some 180), .mov (.t 182), none⟩, ⟨(some 183), .ext (.t 180) 0, none⟩, ⟨(some 184), .ext (.t 180) 1, none⟩, ⟨(some 26), .mov (.t 183), none⟩, ⟨(some 27), .mov (.t 184), none⟩])
  (.seq (.region [⟨(some 186), .loadN 18 (.t 5), none⟩, ⟨(some 187), .loadN 18 (.t 14), none⟩, ⟨(some 188), .call (.k (.c (.fn 23 []))) [(.t 186), (.t 187)], none⟩, ⟨(some 185), .mov (.t 188), none⟩, ⟨(some 189), .ext (.t 185) 0, none⟩, ⟨(some 190), .ext (.t 185) 1, none⟩, ⟨(some 28), .mov (.t 189), none⟩, ⟨(some 29), .mov (.t 190), none⟩])
  (.seq (.region [⟨(some 192), .loadN 18 (.t 14), none⟩, ⟨(some 193), .loadN 18 (.t 5), none⟩, ⟨(some 194), .call (.k (.c (.fn 23 []))) [(.t 192), (.t 193)], none⟩, ⟨(some 191), .mov (.t 194), none⟩, ⟨(some 195), .ext (.t 191) 0, none⟩, ⟨(some 196), .ext (.t 191) 1, none⟩, ⟨(some 30), .mov (.t 195), none⟩, ⟨(some 31), .mov (.t 196), none⟩])
  (.seq (.region [⟨(some 198), .loadN 18 (.t 5), none⟩, ⟨(some 199), .loadN 4 (.t 10), none⟩, ⟨(some 200), .buildSl 37 1 [(.int .i8 0), (.int .i8 0), (.int .i16 0), (.int .i16 0)] [(0, 4, (.t 199))], none⟩, ⟨(some 201), .call (.k (.c (.fn 24 []))) [(.t 198), (.t 200)], none⟩, ⟨(some 197), .mov (.t 201), none⟩, ⟨(some 202), .ext (.t 197) 0, none⟩, ⟨(some 203), .ext (.t 197) 1, none⟩, ⟨(some 204), .ext (.t 197) 2, none⟩, ⟨(some 32), .alloc 29 [(.bool false), (.slice none 0 (.exact 0)), (.int .i8 0), (.int .i8 0), (.int .i8 0), (.int .i8 0), (.int .i8 0), (.int .i8 0), (.int .i8 0), (.int .i8 0), (.int .i8 0), (.int .i8 0), (.int .i8 0), (.int .i8 0), (.int .i8 0), (.int .i8 0), (.int .i8 0), (.int .i8 0)], none⟩, ⟨none, .store 18 (.t 32) (.t 202), none⟩, ⟨(some 33), .mov (.t 203), none⟩, ⟨(some 34), .mov (.t 204), none⟩])
  (.seq (.seq (.region [⟨(some 205), .mov (.t 25), none⟩, ⟨(some 206), .bin .neq .int (.t 205) (.k (.c (.int .i64 0))), none⟩, ⟨(some 207), .mov (.t 206), none⟩, ⟨(some 208), .mov (.t 27), some (207, false)⟩, ⟨(some 209), .bin .neq .int (.t 208) (.k (.c (.int .i64 0))), some (207, false)⟩, ⟨(some 210), .pick (.t 207) (.k (.c (.bool true))) (.t 209), none⟩, ⟨(some 211), .mov (.t 210), none⟩, ⟨(some 212), .mov (.t 26), some (211, false)⟩, ⟨(some 213), .mov (.t 24), some (211, false)⟩, ⟨(some 214), .mov (.t 16), some (211, false)⟩, ⟨(some 215), .bin .add .int (.t 213) (.t 214), some (211, false)⟩, ⟨(some 216), .bin .neq .int (.t 212) (.t 215), some (211, false)⟩, ⟨(some 217), .pick (.t 211) (.k (.c (.bool true))) (.t 216), none⟩, ⟨(some 218), .mov (.t 217), none⟩, ⟨(some 219), .mov (.t 29), some (218, false)⟩, ⟨(some 220), .bin .neq .int (.t 219) (.k (.c (.int .i64 0))), some (218, false)⟩, ⟨(some 221), .pick (.t 218) (.k (.c (.bool true))) (.t 220), none⟩, ⟨(some 222), .mov (.t 221), none⟩, ⟨(some 223), .mov (.t 28), some (222, false)⟩, ⟨(some 224), .un .not (.t 223), some (222, false)⟩, ⟨(some 225), .pick (.t 222) (.k (.c (.bool true))) (.t 224), none⟩, ⟨(some 226), .mov (.t 225), none⟩, ⟨(some 227), .mov (.t 31), some (226, false)⟩, ⟨(some 228), .bin .neq .int (.t 227) (.k (.c (.int .i64 0))), some (226, false)⟩, ⟨(some 229), .pick (.t 226) (.k (.c (.bool true))) (.t 228), none⟩, ⟨(some 230), .mov (.t 229), none⟩, ⟨(some 231), .mov (.t 30), some (230, false)⟩, ⟨(some 232), .pick (.t 230) (.k (.c (.bool true))) (.t 231), none⟩, ⟨(some 233), .mov (.t 232), none⟩, ⟨(some 234), .mov (.t 34), some (233, false)⟩, ⟨(some 235), .bin .neq .int (.t 234) (.k (.c (.int .i64 0))), some (233, false)⟩, ⟨(some 236), .pick (.t 233) (.k (.c (.bool true))) (.t 235), none⟩, ⟨(some 237), .mov (.t 236), none⟩, ⟨(some 238), .mov (.t 33), some (237, false)⟩, ⟨(some 239), .bin .neq .int (.t 238) (.k (.c (.int .i64 1))), some (237, false)⟩, ⟨(some 240), .pick (.t 237) (.k (.c (.bool true))) (.t 239), none⟩, ⟨(some 241), .mov (.t 240), none⟩, ⟨(some 242), .loadN 18 (.t 32), some (241, false)⟩, ⟨(some 243), .loadN 18 (.t 14), some (241, false)⟩, ⟨(some 244), .call (.k (.c (.fn 18 []))) [(.t 242), (.t 243)], some (241, false)⟩, ⟨(some 245), .un .not (.t 244), some (241, false)⟩, ⟨(some 246), .pick (.t 241) (.k (.c (.bool true))) (.t 245), none⟩])
  (.cond (.t 246) (.seq (.region [⟨(some 4), .mov (.k (.c (.bool false))), none⟩])
  .ret) .skip))
  (.seq (.region [⟨(some 248), .loadN 18 (.t 5), none⟩, ⟨(some 249), .call (.k (.c (.fn 25 []))) [(.t 248), (.k (.c (.int .u32 9)))], none⟩, ⟨(some 247), .mov (.t 249), none⟩, ⟨(some 250), .ext (.t 247) 0, none⟩, ⟨(some 251), .ext (.t 247) 1, none⟩, ⟨(some 252), .ext (.t 247) 2, none⟩, ⟨(some 253), .ext (.t 247) 3, none⟩, ⟨(some 35), .alloc 29 [(.bool false), (.slice none 0 (.exact 0)), (.int .i8 0), (.int .i8 0), (.int .i8 0), (.int .i8 0), (.int .i8 0), (.int .i8 0), (.int .i8 0), (.int .i8 0), (.int .i8 0), (.int .i8 0), (.int .i8 0), (.int .i8 0), (.int .i8 0), (.int .i8 0), (.int .i8 0), (.int .i8 0)], none⟩, ⟨(some 36), .alloc 37 [(.int .i8 0), (.int .i8 0), (.int .i16 0), (.int .i16 0)], none⟩, ⟨none, .store 18 (.t 35) (.t 250), none⟩, ⟨none, .store 4 (.t 36) (.t 251), none⟩, ⟨(some 37), .mov (.t 252), none⟩, ⟨(some 38), .mov (.t 253), none⟩])
  (.seq (.region [⟨(some 255), .loadN 18 (.t 5), none⟩, ⟨(some 256), .call (.k (.c (.fn 26 []))) [(.t 255), (.k (.c (.int .u32 9)))], none⟩, ⟨(some 254), .mov (.t 256), none⟩, ⟨(some 257), .ext (.t 254) 0, none⟩, ⟨(some 258), .ext (.t 254) 1, none⟩, ⟨(some 259), .ext (.t 254) 2, none⟩, ⟨(some 260), .ext (.t 254) 3, none⟩, ⟨(some 39), .alloc 29 [(.bool false), (.slice none 0 (.exact 0)), (.int .i8 0), (.int .i8 0), (.int .i8 0), (.int .i8 0), (.int .i8 0), (.int .i8 0), (.int .i8 0), (.int .i8 0), (.int .i8 0), (.int .i8 0), (.int .i8 0), (.int .i8 0), (.int .i8 0), (.int .i8 0), (.int .i8 0), (.int .i8 0)], none⟩, ⟨(some 40), .alloc 37 [(.int .i8 0), (.int .i8 0), (.int .i16 0), (.int .i16 0)], none⟩, ⟨none, .store 18 (.t 39) (.t 257), none⟩, ⟨none, .store 4 (.t 40) (.t 258), none⟩, ⟨(some 41), .mov (.t 259), none⟩, ⟨(some 42), .mov (.t 260), none⟩])
  (.seq (.region [⟨(some 261), .mov (.t 38), none⟩, ⟨(some 262), .mov (.t 42), none⟩, ⟨(some 263), .bin .eql .int (.t 261) (.t 262), none⟩, ⟨(some 264), .mov (.t 263), none⟩, ⟨(some 265), .loadN 18 (.t 35), some (264, true)⟩, ⟨(some 266), .loadN 18 (.t 39), some (264, true)⟩, ⟨(some 267), .call (.k (.c (.fn 18 []))) [(.t 265), (.t 266)], some (264, true)⟩, ⟨(some 268), .pick (.t 264) (.t 267) (.k (.c (.bool false))), none⟩, ⟨(some 269), .mov (.t 268), none⟩, ⟨(some 270), .loadN 4 (.t 36), some (269, true)⟩, ⟨(some 271), .loadN 4 (.t 40), some (269, true)⟩, ⟨(some 272), .bin .eql (.agg [.int, .int, .int, .int]) (.t 270) (.t 271), some (269, true)⟩, ⟨(some 273), .pick (.t 269) (.t 272) (.k (.c (.bool false))), none⟩, ⟨(some 274), .mov (.t 273), none⟩, ⟨(some 275), .mov (.t 37), some (274, true)⟩, ⟨(some 276), .mov (.t 41), some (274, true)⟩, ⟨(some 277), .bin .eql .int (.t 275) (.t 276), some (274, true)⟩, ⟨(some 278), .pick (.t 274) (.t 277) (.k (.c (.bool false))), none⟩, ⟨(some 4), .mov (.t 278), none⟩])
  .ret)))))))))))))))))))))))), [.tmp 4], true⟩
theorem c3 : kk 3 = some k3 := by kernel_rfl
/-- loop.example/g01263/laws.FnExactTamperText -/
def k4 : KF := ⟨14, (.seq (.region [⟨(some 1), .box 65 (.t 0), none⟩, ⟨(some 2), .mov (.k (.c (.bool false))), none⟩])
  (.seq (.region [⟨(some 5), .loadN 4 (.t 1), none⟩, ⟨(some 6), .call (.k (.c (.fn 28 []))) [(.t 5)], none⟩, ⟨(some 7), .call (.k (.c (.fn 27 []))) [(.t 6)], none⟩, ⟨(some 3), .mov (.t 7), none⟩])
  (.seq (.region [⟨(some 8), .loadN 4 (.t 1), none⟩, ⟨(some 9), .call (.k (.c (.fn 28 []))) [(.t 8)], none⟩, ⟨(some 10), .call (.k (.c (.fn 17 []))) [(.t 9)], none⟩, ⟨(some 4), .mov (.t 10), none⟩])
  (.seq (.seq (.region [⟨(some 11), .mov (.t 4), none⟩, ⟨(some 12), .mov (.t 3), none⟩, ⟨(some 13), .bin .neq .str (.t 11) (.t 12), none⟩])
  (.cond (.t 13) (.seq (.region [⟨(some 2), .mov (.k (.c (.bool false))), none⟩])
  .ret) .skip))
  (.seq (.region [⟨(some 2), .mov (.k (.c (.bool true))), none⟩])
  .ret))))), [.tmp 2], true⟩
theorem c4 : kk 4 = some k4 := by kernel_rfl
/-- loop.example/g01263/laws.FnExactReadTamper -/
def k5 : KF := ⟨29, (.seq (.region [⟨(some 2), .mov (.k (.c (.bool false))), none⟩])
  (.seq (.seq (.region [⟨(some 7), .mov (.t 0), none⟩, ⟨(some 8), .len true (.t 7), none⟩, ⟨(some 9), .bin .gtr .int (.t 8) (.k (.c (.int .i64 1048576))), none⟩])
  (.cond (.t 9) (.seq (.region [⟨(some 2), .mov (.k (.c (.bool true))), none⟩])
  .ret) .skip))
  (.seq (.region [⟨(some 11), .mov (.t 0), none⟩, ⟨(some 12), .call (.k (.c (.fn 29 []))) [(.t 11)], none⟩, ⟨(some 10), .mov (.t 12), none⟩, ⟨(some 13), .ext (.t 10) 0, none⟩, ⟨(some 14), .ext (.t 10) 1, none⟩, ⟨(some 3), .alloc 37 [(.int .i8 0), (.int .i8 0), (.int .i16 0), (.int .i16 0)], none⟩, ⟨none, .store 4 (.t 3) (.t 13), none⟩, ⟨(some 4), .mov (.t 14), none⟩])
  (.seq (.region [⟨(some 16), .mov (.t 0), none⟩, ⟨(some 17), .call (.k (.c (.fn 16 []))) [(.t 16)], none⟩, ⟨(some 15), .mov (.t 17), none⟩, ⟨(some 18), .ext (.t 15) 0, none⟩, ⟨(some 19), .ext (.t 15) 1, none⟩, ⟨(some 5), .alloc 37 [(.int .i8 0), (.int .i8 0), (.int .i16 0), (.int .i16 0)], none⟩, ⟨none, .store 4 (.t 5) (.t 18), none⟩, ⟨(some 6), .mov (.t 19), none⟩])
  (.seq (.seq (.region [⟨(some 20), .loadN 4 (.t 5), none⟩, ⟨(some 21), .loadN 4 (.t 3), none⟩, ⟨(some 22), .call (.k (.c (.fn 30 []))) [(.t 20), (.t 21)], none⟩, ⟨(some 23), .un .not (.t 22), none⟩, ⟨(some 24), .mov (.t 23), none⟩, ⟨(some 25), .mov (.t 6), some (24, false)⟩, ⟨(some 26), .mov (.t 4), some (24, false)⟩, ⟨(some 27), .bin .neq .int (.t 25) (.t 26), some (24, false)⟩, ⟨(some 28), .pick (.t 24) (.k (.c (.bool true))) (.t 27), none⟩])
  (.cond (.t 28) (.seq (.region [⟨(some 2), .mov (.k (.c (.bool false))), none⟩])
  .ret) .skip))
  (.seq (.region [⟨(some 2), .mov (.k (.c (.bool true))), none⟩])
  .ret)))))), [.tmp 2], true⟩
theorem c5 : kk 5 = some k5 := by kernel_rfl
/-- loop.example/g01263/impl.ReadTamper -/
def k16 : KF := ⟨81, (.seq (.region [⟨(some 2), .alloc 37 [(.int .i8 0), (.int .i8 0), (.int .i16 0), (.int .i16 0)], none⟩, ⟨(some 3), .mov (.k (.c (.int .i64 0))), none⟩])
  (.seq (.region [⟨(some 11), .mov (.t 0), none⟩, ⟨(some 12), .call (.k (.c (.fn 41 []))) [(.t 11), (.k (.c (.str ⟨#[32]⟩)))], none⟩, ⟨(some 4), .mov (.t 12), none⟩])
  (.seq (.seq (.region [⟨(some 13), .mov (.t 4), none⟩, ⟨(some 14), .len false (.t 13), none⟩, ⟨(some 15), .bin .neq .int (.t 14) (.k (.c (.int .i64 3))), none⟩])
  (.cond (.t 15) (.seq (.region [⟨(some 16), .build [(.int .i8 0), (.int .i8 0), (.int .i16 0), (.int .i16 0)] [], none⟩, ⟨none, .store 4 (.t 2) (.t 16), none⟩, ⟨(some 3), .mov (.k (.c (.int .i64 5))), none⟩])
  .ret) .skip))
  (.seq (.drawn [(⟨(some 17), .build [(.int .i8 0), (.int .i8 0), (.int .i16 0), (.int .i16 0)] [(0, 1, (.k (.c (.int .i8 1))))], none⟩, []), (⟨(some 18), .mov (.t 4), none⟩, []), (⟨(some 19), .idxS 1 (.t 18) (.k (.c (.int .i64 1))), none⟩, []), (⟨(some 20), .load1 (.t 19), none⟩, []), (⟨(some 21), .mov (.t 4), none⟩, []), (⟨(some 22), .idxS 1 (.t 21) (.k (.c (.int .i64 2))), none⟩, []), (⟨(some 23), .load1 (.t 22), none⟩, []), (⟨(some 5), .alloc 37 [(.int .i8 0), (.int .i8 0), (.int .i16 0), (.int .i16 0)], none⟩, [⟨(some 20), .load1 (.t 19), none⟩, ⟨(some 23), .load1 (.t 22), none⟩]), (⟨none, .store 4 (.t 5) (.t 17), none⟩, [⟨(some 20), .load1 (.t 19), none⟩, ⟨(some 23), .load1 (.t 22), none⟩]), (⟨(some 6), .mov (.t 20), none⟩, []), (⟨(some 7), .mov (.t 23), none⟩, [])])
  (.seq (.seq (.region [⟨(some 24), .mov (.t 4), none⟩, ⟨(some 25), .idxS 1 (.t 24) (.k (.c (.int .i64 0))), none⟩, ⟨(some 26), .load1 (.t 25), none⟩, ⟨(some 27), .bin .eql .str (.t 26) (.k (.c (.str ⟨#[119, 105, 100, 101, 110]⟩))), none⟩])
  (.cond (.t 27) (.seq (.region [⟨(some 28), .fldA 0 (.t 5), none⟩, ⟨none, .store 1 (.t 28) (.k (.c (.int .i8 2))), none⟩])
  (.drawn [(⟨(some 29), .mov (.t 4), none⟩, []), (⟨(some 30), .idxS 1 (.t 29) (.k (.c (.int .i64 2))), none⟩, []), (⟨(some 31), .load1 (.t 30), none⟩, []), (⟨(some 32), .mov (.t 4), none⟩, []), (⟨(some 33), .idxS 1 (.t 32) (.k (.c (.int .i64 1))), none⟩, []), (⟨(some 34), .load1 (.t 33), none⟩, []), (⟨(some 6), .mov (.t 31), none⟩, []), (⟨(some 7), .mov (.t 34), none⟩, [])])) .skip))
  (.seq (.region [⟨(some 36), .mov (.t 7), none⟩, ⟨(some 37), .call (.k (.c (.fn 42 []))) [(.t 36)], none⟩, ⟨(some 35), .mov (.t 37), none⟩, ⟨(some 38), .ext (.t 35) 0, none⟩, ⟨(some 39), .ext (.t 35) 1, none⟩, ⟨(some 8), .mov (.t 38), none⟩, ⟨(some 9), .mov (.t 39), none⟩])
  (.seq (.region [⟨(some 40), .mov (.t 6), none⟩, ⟨(some 41), .call (.k (.c (.fn 43 []))) [(.k (.c (.str ⟨#[100, 115, 108, 118, 99, 109]⟩))), (.t 40)], none⟩, ⟨(some 10), .mov (.t 41), none⟩])
  (.seq (.seq (.region [⟨(some 42), .mov (.t 9), none⟩, ⟨(some 43), .un .not (.t 42), none⟩, ⟨(some 44), .mov (.t 43), none⟩, ⟨(some 45), .mov (.t 8), some (44, false)⟩, ⟨(some 46), .bin .gtr .int (.t 45) (.k (.c (.int .i64 200))), some (44, false)⟩, ⟨(some 47), .pick (.t 44) (.k (.c (.bool true))) (.t 46), none⟩, ⟨(some 48), .mov (.t 47), none⟩, ⟨(some 49), .mov (.t 6), some (48, false)⟩, ⟨(some 50), .len true (.t 49), some (48, false)⟩, ⟨(some 51), .bin .neq .int (.t 50) (.k (.c (.int .i64 1))), some (48, false)⟩, ⟨(some 52), .pick (.t 48) (.k (.c (.bool true))) (.t 51), none⟩, ⟨(some 53), .mov (.t 52), none⟩, ⟨(some 54), .mov (.t 10), some (53, false)⟩, ⟨(some 55), .bin .lss .int (.t 54) (.k (.c (.int .i64 0))), some (53, false)⟩, ⟨(some 56), .pick (.t 53) (.k (.c (.bool true))) (.t 55), none⟩])
  (.cond (.t 56) (.seq (.region [⟨(some 57), .build [(.int .i8 0), (.int .i8 0), (.int .i16 0), (.int .i16 0)] [], none⟩, ⟨none, .store 4 (.t 2) (.t 57), none⟩, ⟨(some 3), .mov (.k (.c (.int .i64 5))), none⟩])
  .ret) .skip))
  (.seq (.region [⟨(some 58), .mov (.t 10), none⟩, ⟨(some 59), .conv .i8 (.t 58), none⟩, ⟨(some 60), .fldA 1 (.t 5), none⟩, ⟨none, .store 1 (.t 60) (.t 59), none⟩])
  (.seq (.seq (.region [⟨(some 61), .fldA 0 (.t 5), none⟩, ⟨(some 62), .load1 (.t 61), none⟩, ⟨(some 63), .bin .eql .int (.t 62) (.k (.c (.int .i8 1))), none⟩])
  (.cond (.t 63) (.region [⟨(some 64), .mov (.t 8), none⟩, ⟨(some 65), .conv .i16 (.t 64), none⟩, ⟨(some 66), .fldA 3 (.t 5), none⟩, ⟨none, .store 1 (.t 66) (.t 65), none⟩]) (.region [⟨(some 67), .mov (.t 8), none⟩, ⟨(some 68), .conv .i16 (.t 67), none⟩, ⟨(some 69), .fldA 2 (.t 5), none⟩, ⟨none, .store 1 (.t 69) (.t 68), none⟩])))
  (.seq (.seq (.region [⟨(some 70), .loadN 4 (.t 5), none⟩, ⟨(some 71), .call (.k (.c (.fn 44 []))) [(.t 70)], none⟩, ⟨(some 72), .un .not (.t 71), none⟩, ⟨(some 73), .mov (.t 72), none⟩, ⟨(some 74), .loadN 4 (.t 5), some (73, false)⟩, ⟨(some 75), .call (.k (.c (.fn 17 []))) [(.t 74)], some (73, false)⟩, ⟨(some 76), .mov (.t 0), some (73, false)⟩, ⟨(some 77), .bin .neq .str (.t 75) (.t 76), some (73, false)⟩, ⟨(some 78), .pick (.t 73) (.k (.c (.bool true))) (.t 77), none⟩])
  (.cond (.t 78) (.seq (.region [⟨(some 79), .build [(.int .i8 0), (.int .i8 0), (.int .i16 0), (.int .i16 0)] [], none⟩, ⟨none, .store 4 (.t 2) (.t 79), none⟩, ⟨(some 3), .mov (.k (.c (.int .i64 5))), none⟩])
  .ret) .skip))
  (.seq (.region [⟨(some 80), .loadN 4 (.t 5), none⟩, ⟨none, .store 4 (.t 2) (.t 80), none⟩, ⟨(some 3), .mov (.k (.c (.int .i64 0))), none⟩])
  .ret)))))))))))), [.cellN 2 4, .tmp 3], true⟩
theorem c16 : kk 16 = some k16 := by kernel_rfl
/-- loop.example/g01263/impl.TamperText -/
def k17 : KF := ⟨32, (.seq (.region [⟨(some 1), .box 37 (.t 0), none⟩, ⟨(some 2), .mov (.k (.c (.str ⟨#[]⟩))), none⟩])
  (.seq (.seq (.region [⟨(some 4), .loadN 4 (.t 1), none⟩, ⟨(some 5), .call (.k (.c (.fn 44 []))) [(.t 4)], none⟩, ⟨(some 6), .un .not (.t 5), none⟩])
  (.cond (.t 6) (.seq (.region [⟨(some 2), .mov (.k (.c (.str ⟨#[]⟩))), none⟩])
  .ret) .skip))
  (.seq (.region [⟨(some 7), .fldA 1 (.t 1), none⟩, ⟨(some 8), .load1 (.t 7), none⟩, ⟨(some 9), .fldA 1 (.t 1), none⟩, ⟨(some 10), .load1 (.t 9), none⟩, ⟨(some 11), .bin .add .int (.t 10) (.k (.c (.int .i8 1))), none⟩, ⟨(some 12), .sliceStr (.k (.c (.str ⟨#[100, 115, 108, 118, 99, 109]⟩))) (some (.t 8)) (some (.t 11)), none⟩, ⟨(some 3), .mov (.t 12), none⟩])
  (.seq (.seq (.region [⟨(some 13), .fldA 0 (.t 1), none⟩, ⟨(some 14), .load1 (.t 13), none⟩, ⟨(some 15), .bin .eql .int (.t 14) (.k (.c (.int .i8 1))), none⟩])
  (.cond (.t 15) (.seq (.region [⟨(some 16), .mov (.t 3), none⟩, ⟨(some 17), .bin .add .str (.k (.c (.str ⟨#[97, 100, 100, 32]⟩))) (.t 16), none⟩, ⟨(some 18), .bin .add .str (.t 17) (.k (.c (.str ⟨#[32]⟩))), none⟩, ⟨(some 19), .fldA 3 (.t 1), none⟩, ⟨(some 20), .load1 (.t 19), none⟩, ⟨(some 21), .conv .i64 (.t 20), none⟩, ⟨(some 22), .call (.k (.c (.fn 45 []))) [(.t 21)], none⟩, ⟨(some 23), .bin .add .str (.t 18) (.t 22), none⟩, ⟨(some 2), .mov (.t 23), none⟩])
  .ret) .skip))
  (.seq (.region [⟨(some 24), .fldA 2 (.t 1), none⟩, ⟨(some 25), .load1 (.t 24), none⟩, ⟨(some 26), .conv .i64 (.t 25), none⟩, ⟨(some 27), .call (.k (.c (.fn 45 []))) [(.t 26)], none⟩, ⟨(some 28), .bin .add .str (.k (.c (.str ⟨#[119, 105, 100, 101, 110, 32]⟩))) (.t 27), none⟩, ⟨(some 29), .bin .add .str (.t 28) (.k (.c (.str ⟨#[32]⟩))), none⟩, ⟨(some 30), .mov (.t 3), none⟩, ⟨(some 31), .bin .add .str (.t 29) (.t 30), none⟩, ⟨(some 2), .mov (.t 31), none⟩])
  .ret))))), [.tmp 2], true⟩
theorem c17 : kk 17 = some k17 := by kernel_rfl
/-- loop.example/g01263/spec.ReadTamper -/
def k29 : KF := ⟨66, (.seq (.region [⟨(some 2), .alloc 37 [(.int .i8 0), (.int .i8 0), (.int .i16 0), (.int .i16 0)], none⟩, ⟨(some 3), .mov (.k (.c (.int .i64 0))), none⟩])
  (.seq (.region [⟨(some 9), .mov (.t 0), none⟩, ⟨(some 10), .call (.k (.c (.fn 57 []))) [(.t 9), (.k (.c (.int .u8 32)))], none⟩, ⟨(some 4), .mov (.t 10), none⟩])
  (.seq (.seq (.region [⟨(some 11), .mov (.t 4), none⟩, ⟨(some 12), .len false (.t 11), none⟩, ⟨(some 13), .bin .neq .int (.t 12) (.k (.c (.int .i64 3))), none⟩])
  (.cond (.t 13) (.seq (.region [⟨(some 14), .build [(.int .i8 0), (.int .i8 0), (.int .i16 0), (.int .i16 0)] [], none⟩, ⟨none, .store 4 (.t 2) (.t 14), none⟩, ⟨(some 3), .mov (.k (.c (.int .i64 5))), none⟩])
  .ret) .skip))
  (.seq (.region [⟨(some 15), .build [(.int .i8 0), (.int .i8 0), (.int .i16 0), (.int .i16 0)] [], none⟩, ⟨(some 5), .alloc 37 [(.int .i8 0), (.int .i8 0), (.int .i16 0), (.int .i16 0)], none⟩, ⟨none, .store 4 (.t 5) (.t 15), none⟩])
  (.seq (.region [⟨(some 16), .mov (.t 4), none⟩, ⟨(some 17), .idxS 1 (.t 16) (.k (.c (.int .i64 1))), none⟩, ⟨(some 18), .load1 (.t 17), none⟩, ⟨(some 6), .mov (.t 18), none⟩])
  (.seq (.seq (.region [⟨(some 19), .mov (.t 4), none⟩, ⟨(some 20), .idxS 1 (.t 19) (.k (.c (.int .i64 0))), none⟩, ⟨(some 21), .load1 (.t 20), none⟩])
  (.block 0 (.seq (.region [⟨(some 23), .bin .eql .str (.t 21) (.k (.c (.str ⟨#[97, 100, 100]⟩))), none⟩, ⟨(some 22), .mov (.t 23), none⟩])
  (.cond (.t 22) (.seq (.region [⟨(some 24), .fldA 0 (.t 5), none⟩, ⟨none, .store 1 (.t 24) (.k (.c (.int .i8 1))), none⟩])
  (.seq (.region [⟨(some 25), .mov (.t 4), none⟩, ⟨(some 26), .idxS 1 (.t 25) (.k (.c (.int .i64 1))), none⟩, ⟨(some 27), .load1 (.t 26), none⟩, ⟨(some 28), .call (.k (.c (.fn 58 []))) [(.t 27)], none⟩, ⟨(some 29), .fldA 1 (.t 5), none⟩, ⟨none, .store 1 (.t 29) (.t 28), none⟩])
  (.region [⟨(some 30), .mov (.t 4), none⟩, ⟨(some 31), .idxS 1 (.t 30) (.k (.c (.int .i64 2))), none⟩, ⟨(some 32), .load1 (.t 31), none⟩, ⟨(some 6), .mov (.t 32), none⟩]))) (.seq (.region [⟨(some 34), .bin .eql .str (.t 21) (.k (.c (.str ⟨#[119, 105, 100, 101, 110]⟩))), none⟩, ⟨(some 33), .mov (.t 34), none⟩])
  (.cond (.t 33) (.seq (.region [⟨(some 35), .fldA 0 (.t 5), none⟩, ⟨none, .store 1 (.t 35) (.k (.c (.int .i8 2))), none⟩])
  (.region [⟨(some 36), .mov (.t 4), none⟩, ⟨(some 37), .idxS 1 (.t 36) (.k (.c (.int .i64 2))), none⟩, ⟨(some 38), .load1 (.t 37), none⟩, ⟨(some 39), .call (.k (.c (.fn 58 []))) [(.t 38)], none⟩, ⟨(some 40), .fldA 1 (.t 5), none⟩, ⟨none, .store 1 (.t 40) (.t 39), none⟩])) .skip))))))
  (.seq (.region [⟨(some 42), .mov (.t 6), none⟩, ⟨(some 43), .call (.k (.c (.fn 59 []))) [(.t 42)], none⟩, ⟨(some 41), .mov (.t 43), none⟩, ⟨(some 44), .ext (.t 41) 0, none⟩, ⟨(some 45), .ext (.t 41) 1, none⟩, ⟨(some 7), .mov (.t 44), none⟩, ⟨(some 8), .mov (.t 45), none⟩])
  (.seq (.seq (.region [⟨(some 46), .mov (.t 8), none⟩, ⟨(some 47), .un .not (.t 46), none⟩, ⟨(some 48), .mov (.t 47), none⟩, ⟨(some 49), .mov (.t 7), some (48, false)⟩, ⟨(some 50), .bin .gtr .int (.t 49) (.k (.c (.int .i64 200))), some (48, false)⟩, ⟨(some 51), .pick (.t 48) (.k (.c (.bool true))) (.t 50), none⟩])
  (.cond (.t 51) (.seq (.region [⟨(some 52), .build [(.int .i8 0), (.int .i8 0), (.int .i16 0), (.int .i16 0)] [], none⟩, ⟨none, .store 4 (.t 2) (.t 52), none⟩, ⟨(some 3), .mov (.k (.c (.int .i64 5))), none⟩])
  .ret) .skip))
  (.seq (.seq (.region [⟨(some 53), .fldA 0 (.t 5), none⟩, ⟨(some 54), .load1 (.t 53), none⟩, ⟨(some 55), .bin .eql .int (.t 54) (.k (.c (.int .i8 1))), none⟩])
  (.cond (.t 55) (.region [⟨(some 56), .mov (.t 7), none⟩, ⟨(some 57), .conv .i16 (.t 56), none⟩, ⟨(some 58), .fldA 3 (.t 5), none⟩, ⟨none, .store 1 (.t 58) (.t 57), none⟩]) (.region [⟨(some 59), .mov (.t 7), none⟩, ⟨(some 60), .conv .i16 (.t 59), none⟩, ⟨(some 61), .fldA 2 (.t 5), none⟩, ⟨none, .store 1 (.t 61) (.t 60), none⟩])))
  (.seq (.seq (.region [⟨(some 62), .call (.k (.c (.fn 55 []))) [(.t 5)], none⟩, ⟨(some 63), .un .not (.t 62), none⟩])
  (.cond (.t 63) (.seq (.region [⟨(some 64), .build [(.int .i8 0), (.int .i8 0), (.int .i16 0), (.int .i16 0)] [], none⟩, ⟨none, .store 4 (.t 2) (.t 64), none⟩, ⟨(some 3), .mov (.k (.c (.int .i64 5))), none⟩])
  .ret) .skip))
  (.seq (.region [⟨(some 65), .loadN 4 (.t 5), none⟩, ⟨none, .store 4 (.t 2) (.t 65), none⟩, ⟨(some 3), .mov (.k (.c (.int .i64 0))), none⟩])
  .ret))))))))))), [.cellN 2 4, .tmp 3], true⟩
theorem c29 : kk 29 = some k29 := by kernel_rfl
/-- loop.example/g01263/laws.eqTamper -/
def k30 : KF := ⟨25, (.seq (.region [⟨(some 2), .box 37 (.t 0), none⟩, ⟨(some 3), .box 37 (.t 1), none⟩, ⟨(some 4), .mov (.k (.c (.bool false))), none⟩])
  (.seq (.seq (.region [⟨(some 5), .fldA 0 (.t 2), none⟩, ⟨(some 6), .load1 (.t 5), none⟩, ⟨(some 7), .fldA 0 (.t 3), none⟩, ⟨(some 8), .load1 (.t 7), none⟩, ⟨(some 9), .bin .neq .int (.t 6) (.t 8), none⟩])
  (.cond (.t 9) (.seq (.region [⟨(some 4), .mov (.k (.c (.bool false))), none⟩])
  .ret) .skip))
  (.seq (.seq (.region [⟨(some 10), .fldA 1 (.t 2), none⟩, ⟨(some 11), .load1 (.t 10), none⟩, ⟨(some 12), .fldA 1 (.t 3), none⟩, ⟨(some 13), .load1 (.t 12), none⟩, ⟨(some 14), .bin .neq .int (.t 11) (.t 13), none⟩])
  (.cond (.t 14) (.seq (.region [⟨(some 4), .mov (.k (.c (.bool false))), none⟩])
  .ret) .skip))
  (.seq (.seq (.region [⟨(some 15), .fldA 2 (.t 2), none⟩, ⟨(some 16), .load1 (.t 15), none⟩, ⟨(some 17), .fldA 2 (.t 3), none⟩, ⟨(some 18), .load1 (.t 17), none⟩, ⟨(some 19), .bin .neq .int (.t 16) (.t 18), none⟩])
  (.cond (.t 19) (.seq (.region [⟨(some 4), .mov (.k (.c (.bool false))), none⟩])
  .ret) .skip))
  (.seq (.seq (.region [⟨(some 20), .fldA 3 (.t 2), none⟩, ⟨(some 21), .load1 (.t 20), none⟩, ⟨(some 22), .fldA 3 (.t 3), none⟩, ⟨(some 23), .load1 (.t 22), none⟩, ⟨(some 24), .bin .neq .int (.t 21) (.t 23), none⟩])
  (.cond (.t 24) (.seq (.region [⟨(some 4), .mov (.k (.c (.bool false))), none⟩])
  .ret) .skip))
  (.seq (.region [⟨(some 4), .mov (.k (.c (.bool true))), none⟩])
  .ret)))))), [.tmp 4], true⟩
theorem c30 : kk 30 = some k30 := by kernel_rfl
/-- loop.example/g01263/impl.number -/
def l42_0 : KC := (.seq (.region [⟨(some 26), .bin .lss .int (.t 25) (.t 24), none⟩])
  (.seq (.cond (.t 26) .skip (.exit 0))
  (.seq (.block 1 (.seq (.region [⟨(some 27), .mov (.t 25), none⟩, ⟨(some 5), .mov (.t 27), none⟩])
  (.seq (.seq (.region [⟨(some 28), .mov (.t 0), none⟩, ⟨(some 29), .mov (.t 5), none⟩, ⟨(some 30), .idxStr (.t 28) (.t 29), none⟩, ⟨(some 31), .bin .lss .int (.t 30) (.k (.c (.int .u8 48))), none⟩, ⟨(some 32), .mov (.t 31), none⟩, ⟨(some 33), .mov (.t 0), some (32, false)⟩, ⟨(some 34), .mov (.t 5), some (32, false)⟩, ⟨(some 35), .idxStr (.t 33) (.t 34), some (32, false)⟩, ⟨(some 36), .bin .gtr .int (.t 35) (.k (.c (.int .u8 57))), some (32, false)⟩, ⟨(some 37), .pick (.t 32) (.k (.c (.bool true))) (.t 36), none⟩])
  (.cond (.t 37) (.seq (.region [⟨(some 2), .mov (.k (.c (.int .i64 0))), none⟩, ⟨(some 3), .mov (.k (.c (.bool false))), none⟩])
  .ret) .skip))
  (.region [⟨(some 38), .mov (.t 4), none⟩, ⟨(some 39), .bin .mul .int (.t 38) (.k (.c (.int .i64 10))), none⟩, ⟨(some 40), .mov (.t 0), none⟩, ⟨(some 41), .mov (.t 5), none⟩, ⟨(some 42), .idxStr (.t 40) (.t 41), none⟩, ⟨(some 43), .bin .sub .int (.t 42) (.k (.c (.int .u8 48))), none⟩, ⟨(some 44), .conv .i64 (.t 43), none⟩, ⟨(some 45), .bin .add .int (.t 39) (.t 44), none⟩, ⟨(some 4), .mov (.t 45), none⟩]))))
  (.region [⟨(some 46), .bin .add .int (.t 25) (.k (.c (.int .i64 1))), none⟩, ⟨(some 25), .mov (.t 46), none⟩]))))
def k42 : KF := ⟨48, (.seq (.region [⟨(some 2), .mov (.k (.c (.int .i64 0))), none⟩, ⟨(some 3), .mov (.k (.c (.bool false))), none⟩])
  (.seq (.seq (.region [⟨(some 6), .mov (.t 0), none⟩, ⟨(some 7), .bin .eql .str (.t 6) (.k (.c (.str ⟨#[]⟩))), none⟩, ⟨(some 8), .mov (.t 7), none⟩, ⟨(some 9), .mov (.t 0), some (8, false)⟩, ⟨(some 10), .len true (.t 9), some (8, false)⟩, ⟨(some 11), .bin .gtr .int (.t 10) (.k (.c (.int .i64 9))), some (8, false)⟩, ⟨(some 12), .pick (.t 8) (.k (.c (.bool true))) (.t 11), none⟩, ⟨(some 13), .mov (.t 12), none⟩, ⟨(some 14), .mov (.t 0), some (13, false)⟩, ⟨(some 15), .idxStr (.t 14) (.k (.c (.int .i64 0))), some (13, false)⟩, ⟨(some 16), .bin .eql .int (.t 15) (.k (.c (.int .u8 48))), some (13, false)⟩, ⟨(some 17), .mov (.t 16), some (13, false)⟩, ⟨(some 18), .mov (.t 0), some (17, true)⟩, ⟨(some 19), .len true (.t 18), some (17, true)⟩, ⟨(some 20), .bin .gtr .int (.t 19) (.k (.c (.int .i64 1))), some (17, true)⟩, ⟨(some 21), .pick (.t 17) (.t 20) (.k (.c (.bool false))), some (13, false)⟩, ⟨(some 22), .pick (.t 13) (.k (.c (.bool true))) (.t 21), none⟩])
  (.cond (.t 22) (.seq (.region [⟨(some 2), .mov (.k (.c (.int .i64 0))), none⟩, ⟨(some 3), .mov (.k (.c (.bool false))), none⟩])
  .ret) .skip))
  (.seq (.region [⟨(some 4), .mov (.k (.c (.int .i64 0))), none⟩])
  (.seq (.seq (.region [⟨(some 23), .mov (.t 0), none⟩, ⟨(some 24), .len true (.t 23), none⟩, ⟨(some 25), .mov (.k (.c (.int .i64 0))), none⟩])
  (.block 0 (.loop l42_0)))
  (.seq (.region [⟨(some 47), .mov (.t 4), none⟩, ⟨(some 2), .mov (.t 47), none⟩, ⟨(some 3), .mov (.k (.c (.bool true))), none⟩])
  .ret))))), [.tmp 2, .tmp 3], true⟩
theorem c42 : kk 42 = some k42 := by kernel_rfl
/-- loop.example/g01263/impl.isTamper -/
def k44 : KF := ⟨40, (.seq (.region [⟨(some 1), .box 37 (.t 0), none⟩, ⟨(some 2), .mov (.k (.c (.bool false))), none⟩])
  (.seq (.seq (.region [⟨(some 3), .fldA 1 (.t 1), none⟩, ⟨(some 4), .load1 (.t 3), none⟩, ⟨(some 5), .conv .i64 (.t 4), none⟩, ⟨(some 6), .call (.k (.c (.fn 48 []))) [(.t 5)], none⟩, ⟨(some 7), .un .not (.t 6), none⟩])
  (.cond (.t 7) (.seq (.region [⟨(some 2), .mov (.k (.c (.bool false))), none⟩])
  .ret) .skip))
  (.seq (.seq (.region [⟨(some 8), .fldA 0 (.t 1), none⟩, ⟨(some 9), .load1 (.t 8), none⟩])
  (.block 0 (.seq (.region [⟨(some 11), .bin .eql .int (.t 9) (.k (.c (.int .i8 1))), none⟩, ⟨(some 10), .mov (.t 11), none⟩])
  (.cond (.t 10) (.seq (.region [⟨(some 12), .fldA 2 (.t 1), none⟩, ⟨(some 13), .load1 (.t 12), none⟩, ⟨(some 14), .bin .eql .int (.t 13) (.k (.c (.int .i16 0))), none⟩, ⟨(some 15), .mov (.t 14), none⟩, ⟨(some 16), .fldA 3 (.t 1), some (15, true)⟩, ⟨(some 17), .load1 (.t 16), some (15, true)⟩, ⟨(some 18), .bin .geq .int (.t 17) (.k (.c (.int .i16 0))), some (15, true)⟩, ⟨(some 19), .pick (.t 15) (.t 18) (.k (.c (.bool false))), none⟩, ⟨(some 20), .mov (.t 19), none⟩, ⟨(some 21), .fldA 3 (.t 1), some (20, true)⟩, ⟨(some 22), .load1 (.t 21), some (20, true)⟩, ⟨(some 23), .bin .leq .int (.t 22) (.k (.c (.int .i16 200))), some (20, true)⟩, ⟨(some 24), .pick (.t 20) (.t 23) (.k (.c (.bool false))), none⟩, ⟨(some 2), .mov (.t 24), none⟩])
  .ret) (.seq (.region [⟨(some 26), .bin .eql .int (.t 9) (.k (.c (.int .i8 2))), none⟩, ⟨(some 25), .mov (.t 26), none⟩])
  (.cond (.t 25) (.seq (.region [⟨(some 27), .fldA 3 (.t 1), none⟩, ⟨(some 28), .load1 (.t 27), none⟩, ⟨(some 29), .bin .eql .int (.t 28) (.k (.c (.int .i16 0))), none⟩, ⟨(some 30), .mov (.t 29), none⟩, ⟨(some 31), .fldA 2 (.t 1), some (30, true)⟩, ⟨(some 32), .load1 (.t 31), some (30, true)⟩, ⟨(some 33), .bin .geq .int (.t 32) (.k (.c (.int .i16 0))), some (30, true)⟩, ⟨(some 34), .pick (.t 30) (.t 33) (.k (.c (.bool false))), none⟩, ⟨(some 35), .mov (.t 34), none⟩, ⟨(some 36), .fldA 2 (.t 1), some (35, true)⟩, ⟨(some 37), .load1 (.t 36), some (35, true)⟩, ⟨(some 38), .bin .lss .int (.t 37) (.k (.c (.int .i16 60))), some (35, true)⟩, ⟨(some 39), .pick (.t 35) (.t 38) (.k (.c (.bool false))), none⟩, ⟨(some 2), .mov (.t 39), none⟩])
  .ret) .skip))))))
  (.seq (.region [⟨(some 2), .mov (.k (.c (.bool false))), none⟩])
  .ret)))), [.tmp 2], true⟩
theorem c44 : kk 44 = some k44 := by kernel_rfl
/-- loop.example/g01263/impl.decimal -/
def k45 : KF := ⟨5, (.seq (.region [⟨(some 2), .mov (.k (.c (.str ⟨#[]⟩))), none⟩])
  (.seq (.region [⟨(some 3), .mov (.t 0), none⟩, ⟨(some 4), .call (.k (.c (.fn 75 []))) [(.t 3), (.k (.c (.int .i64 10)))], none⟩, ⟨(some 2), .mov (.t 4), none⟩])
  .ret)), [.tmp 2], true⟩
theorem c45 : kk 45 = some k45 := by kernel_rfl
/-- loop.example/g01263/impl.isKind -/
def k48 : KF := ⟨9, (.seq (.region [⟨(some 2), .mov (.k (.c (.bool false))), none⟩])
  (.seq (.region [⟨(some 3), .mov (.t 0), none⟩, ⟨(some 4), .bin .geq .int (.t 3) (.k (.c (.int .i64 0))), none⟩, ⟨(some 5), .mov (.t 4), none⟩, ⟨(some 6), .mov (.t 0), some (5, true)⟩, ⟨(some 7), .bin .leq .int (.t 6) (.k (.c (.int .i64 5))), some (5, true)⟩, ⟨(some 8), .pick (.t 5) (.t 7) (.k (.c (.bool false))), none⟩, ⟨(some 2), .mov (.t 8), none⟩])
  .ret)), [.tmp 2], true⟩
theorem c48 : kk 48 = some k48 := by kernel_rfl
/-- loop.example/g01263/spec.l04Told -/
def k55 : KF := ⟨44, (.seq (.region [⟨(some 2), .mov (.k (.c (.bool false))), none⟩])
  (.seq (.seq (.region [⟨(some 3), .mov (.t 0), none⟩, ⟨(some 4), .nilchk (.t 3), none⟩, ⟨(some 5), .fldA 1 (.t 4), none⟩, ⟨(some 6), .load1 (.t 5), none⟩, ⟨(some 7), .conv .i64 (.t 6), none⟩, ⟨(some 8), .call (.k (.c (.fn 69 []))) [(.t 7)], none⟩, ⟨(some 9), .un .not (.t 8), none⟩])
  (.cond (.t 9) (.seq (.region [⟨(some 2), .mov (.k (.c (.bool false))), none⟩])
  .ret) .skip))
  (.seq (.seq (.region [⟨(some 10), .mov (.t 0), none⟩, ⟨(some 11), .nilchk (.t 10), none⟩, ⟨(some 12), .fldA 0 (.t 11), none⟩, ⟨(some 13), .load1 (.t 12), none⟩])
  (.block 0 (.seq (.region [⟨(some 15), .bin .eql .int (.t 13) (.k (.c (.int .i8 1))), none⟩, ⟨(some 14), .mov (.t 15), none⟩])
  (.cond (.t 14) (.seq (.region [⟨(some 16), .mov (.t 0), none⟩, ⟨(some 17), .nilchk (.t 16), none⟩, ⟨(some 18), .fldA 2 (.t 17), none⟩, ⟨(some 19), .load1 (.t 18), none⟩, ⟨(some 20), .bin .eql .int (.t 19) (.k (.c (.int .i16 0))), none⟩, ⟨(some 21), .mov (.t 20), none⟩, ⟨(some 22), .mov (.t 0), some (21, true)⟩, ⟨(some 23), .nilchk (.t 22), some (21, true)⟩, ⟨(some 24), .fldA 3 (.t 23), some (21, true)⟩, ⟨(some 25), .load1 (.t 24), some (21, true)⟩, ⟨(some 26), .conv .i64 (.t 25), some (21, true)⟩, ⟨(some 27), .call (.k (.c (.fn 70 []))) [(.t 26), (.k (.c (.int .i64 0))), (.k (.c (.int .i64 200)))], some (21, true)⟩, ⟨(some 28), .pick (.t 21) (.t 27) (.k (.c (.bool false))), none⟩, ⟨(some 2), .mov (.t 28), none⟩])
  .ret) (.seq (.region [⟨(some 30), .bin .eql .int (.t 13) (.k (.c (.int .i8 2))), none⟩, ⟨(some 29), .mov (.t 30), none⟩])
  (.cond (.t 29) (.seq (.region [⟨(some 31), .mov (.t 0), none⟩, ⟨(some 32), .nilchk (.t 31), none⟩, ⟨(some 33), .fldA 3 (.t 32), none⟩, ⟨(some 34), .load1 (.t 33), none⟩, ⟨(some 35), .bin .eql .int (.t 34) (.k (.c (.int .i16 0))), none⟩, ⟨(some 36), .mov (.t 35), none⟩, ⟨(some 37), .mov (.t 0), some (36, true)⟩, ⟨(some 38), .nilchk (.t 37), some (36, true)⟩, ⟨(some 39), .fldA 2 (.t 38), some (36, true)⟩, ⟨(some 40), .load1 (.t 39), some (36, true)⟩, ⟨(some 41), .conv .i64 (.t 40), some (36, true)⟩, ⟨(some 42), .call (.k (.c (.fn 70 []))) [(.t 41), (.k (.c (.int .i64 0))), (.k (.c (.int .i64 59)))], some (36, true)⟩, ⟨(some 43), .pick (.t 36) (.t 42) (.k (.c (.bool false))), none⟩, ⟨(some 2), .mov (.t 43), none⟩])
  .ret) .skip))))))
  (.seq (.region [⟨(some 2), .mov (.k (.c (.bool false))), none⟩])
  .ret)))), [.tmp 2], true⟩
theorem c55 : kk 55 = some k55 := by kernel_rfl
/-- loop.example/g01263/spec.l01Split -/
def l57_0 : KC := (.seq (.seq (.region [⟨(some 9), .mov (.t 7), none⟩, ⟨(some 10), .mov (.t 0), none⟩, ⟨(some 11), .len true (.t 10), none⟩, ⟨(some 12), .bin .lss .int (.t 9) (.t 11), none⟩])
  (.cond (.t 12) .skip (.exit 0)))
  (.seq (.block 1 (.seq (.region [⟨(some 15), .mov (.t 0), none⟩, ⟨(some 16), .mov (.t 7), none⟩, ⟨(some 17), .idxStr (.t 15) (.t 16), none⟩, ⟨(some 18), .mov (.t 1), none⟩, ⟨(some 19), .bin .eql .int (.t 17) (.t 18), none⟩])
  (.cond (.t 19) (.seq (.region [⟨(some 20), .mov (.t 5), none⟩, ⟨(some 21), .mov (.t 0), none⟩, ⟨(some 22), .mov (.t 6), none⟩, ⟨(some 23), .mov (.t 7), none⟩, ⟨(some 24), .sliceStr (.t 21) (some (.t 22)) (some (.t 23)), none⟩, ⟨(some 25), .buildSl 9 1 [(.str ⟨#[]⟩)] [(0, 1, (.t 24))], none⟩, ⟨(some 26), .app 9 1 16 (.t 20) (.t 25), none⟩, ⟨(some 5), .mov (.t 26), none⟩])
  (.region [⟨(some 27), .mov (.t 7), none⟩, ⟨(some 28), .bin .add .int (.t 27) (.k (.c (.int .i64 1))), none⟩, ⟨(some 6), .mov (.t 28), none⟩])) .skip)))
  (.region [⟨(some 13), .mov (.t 7), none⟩, ⟨(some 14), .bin .add .int (.t 13) (.k (.c (.int .i64 1))), none⟩, ⟨(some 7), .mov (.t 14), none⟩])))
def k57 : KF := ⟨35, (.seq (.region [⟨(some 4), .mov (.k (.c (.slice none 0 (.exact 0)))), none⟩])
  (.seq (.region [⟨(some 8), .buildSl 9 0 [] [], none⟩, ⟨(some 5), .mov (.t 8), none⟩])
  (.seq (.region [⟨(some 6), .mov (.k (.c (.int .i64 0))), none⟩])
  (.seq (.seq (.region [⟨(some 7), .mov (.k (.c (.int .i64 0))), none⟩])
  (.block 0 (.loop l57_0)))
  (.seq (.region [⟨(some 29), .mov (.t 5), none⟩, ⟨(some 30), .mov (.t 0), none⟩, ⟨(some 31), .mov (.t 6), none⟩, ⟨(some 32), .sliceStr (.t 30) (some (.t 31)) none, none⟩, ⟨(some 33), .buildSl 9 1 [(.str ⟨#[]⟩)] [(0, 1, (.t 32))], none⟩, ⟨(some 34), .app 9 1 16 (.t 29) (.t 33), none⟩, ⟨(some 4), .mov (.t 34), none⟩])
  .ret))))), [.tmp 4], false⟩
theorem c57 : kk 57 = some k57 := by kernel_rfl
/-- loop.example/g01263/spec.l04Letter -/
def l58_0 : KC := (.seq (.seq (.region [⟨(some 6), .mov (.t 4), none⟩, ⟨(some 7), .mov (.t 3), none⟩, ⟨(some 8), .len true (.t 7), none⟩, ⟨(some 9), .bin .lss .int (.t 6) (.t 8), none⟩])
  (.cond (.t 9) .skip (.exit 0)))
  (.seq (.block 1 (.seq (.region [⟨(some 12), .mov (.t 0), none⟩, ⟨(some 13), .mov (.t 3), none⟩, ⟨(some 14), .mov (.t 4), none⟩, ⟨(some 15), .mov (.t 4), none⟩, ⟨(some 16), .bin .add .int (.t 15) (.k (.c (.int .i64 1))), none⟩, ⟨(some 17), .sliceStr (.t 13) (some (.t 14)) (some (.t 16)), none⟩, ⟨(some 18), .bin .eql .str (.t 12) (.t 17), none⟩])
  (.cond (.t 18) (.seq (.region [⟨(some 19), .mov (.t 4), none⟩, ⟨(some 20), .conv .i8 (.t 19), none⟩, ⟨(some 2), .mov (.t 20), none⟩])
  .ret) .skip)))
  (.region [⟨(some 10), .mov (.t 4), none⟩, ⟨(some 11), .bin .add .int (.t 10) (.k (.c (.int .i64 1))), none⟩, ⟨(some 4), .mov (.t 11), none⟩])))
def k58 : KF := ⟨21, (.seq (.region [⟨(some 2), .mov (.k (.c (.int .i8 0))), none⟩])
  (.seq (.region [⟨(some 5), .call (.k (.c (.fn 79 []))) [], none⟩, ⟨(some 3), .mov (.t 5), none⟩])
  (.seq (.seq (.region [⟨(some 4), .mov (.k (.c (.int .i64 0))), none⟩])
  (.block 0 (.loop l58_0)))
  (.seq (.region [⟨(some 2), .mov (.k (.c (.int .i8 (-1)))), none⟩])
  .ret)))), [.tmp 2], true⟩
theorem c58 : kk 58 = some k58 := by kernel_rfl
/-- loop.example/g01263/spec.l01Number -/
def l59_0 : KC := (.seq (.seq (.region [⟨(some 23), .mov (.t 5), none⟩, ⟨(some 24), .mov (.t 0), none⟩, ⟨(some 25), .len true (.t 24), none⟩, ⟨(some 26), .bin .lss .int (.t 23) (.t 25), none⟩])
  (.cond (.t 26) .skip (.exit 0)))
  (.seq (.block 1 (.seq (.seq (.region [⟨(some 29), .mov (.t 0), none⟩, ⟨(some 30), .mov (.t 5), none⟩, ⟨(some 31), .idxStr (.t 29) (.t 30), none⟩, ⟨(some 32), .bin .lss .int (.t 31) (.k (.c (.int .u8 48))), none⟩, ⟨(some 33), .mov (.t 32), none⟩, ⟨(some 34), .mov (.t 0), some (33, false)⟩, ⟨(some 35), .mov (.t 5), some (33, false)⟩, ⟨(some 36), .idxStr (.t 34) (.t 35), some (33, false)⟩, ⟨(some 37), .bin .gtr .int (.t 36) (.k (.c (.int .u8 57))), some (33, false)⟩, ⟨(some 38), .pick (.t 33) (.k (.c (.bool true))) (.t 37), none⟩])
  (.cond (.t 38) (.seq (.region [⟨(some 2), .mov (.k (.c (.int .i64 0))), none⟩, ⟨(some 3), .mov (.k (.c (.bool false))), none⟩])
  .ret) .skip))
  (.region [⟨(some 39), .mov (.t 4), none⟩, ⟨(some 40), .bin .mul .int (.k (.c (.int .i64 10))) (.t 39), none⟩, ⟨(some 41), .mov (.t 0), none⟩, ⟨(some 42), .mov (.t 5), none⟩, ⟨(some 43), .idxStr (.t 41) (.t 42), none⟩, ⟨(some 44), .bin .sub .int (.t 43) (.k (.c (.int .u8 48))), none⟩, ⟨(some 45), .conv .i64 (.t 44), none⟩, ⟨(some 46), .bin .add .int (.t 40) (.t 45), none⟩, ⟨(some 4), .mov (.t 46), none⟩])))
  (.region [⟨(some 27), .mov (.t 5), none⟩, ⟨(some 28), .bin .add .int (.t 27) (.k (.c (.int .i64 1))), none⟩, ⟨(some 5), .mov (.t 28), none⟩])))
def k59 : KF := ⟨48, (.seq (.region [⟨(some 2), .mov (.k (.c (.int .i64 0))), none⟩, ⟨(some 3), .mov (.k (.c (.bool false))), none⟩])
  (.seq (.seq (.region [⟨(some 6), .mov (.t 0), none⟩, ⟨(some 7), .bin .eql .str (.t 6) (.k (.c (.str ⟨#[]⟩))), none⟩, ⟨(some 8), .mov (.t 7), none⟩, ⟨(some 9), .mov (.t 0), some (8, false)⟩, ⟨(some 10), .len true (.t 9), some (8, false)⟩, ⟨(some 11), .bin .gtr .int (.t 10) (.k (.c (.int .i64 10))), some (8, false)⟩, ⟨(some 12), .pick (.t 8) (.k (.c (.bool true))) (.t 11), none⟩, ⟨(some 13), .mov (.t 12), none⟩, ⟨(some 14), .mov (.t 0), some (13, false)⟩, ⟨(some 15), .idxStr (.t 14) (.k (.c (.int .i64 0))), some (13, false)⟩, ⟨(some 16), .bin .eql .int (.t 15) (.k (.c (.int .u8 48))), some (13, false)⟩, ⟨(some 17), .mov (.t 16), some (13, false)⟩, ⟨(some 18), .mov (.t 0), some (17, true)⟩, ⟨(some 19), .len true (.t 18), some (17, true)⟩, ⟨(some 20), .bin .gtr .int (.t 19) (.k (.c (.int .i64 1))), some (17, true)⟩, ⟨(some 21), .pick (.t 17) (.t 20) (.k (.c (.bool false))), some (13, false)⟩, ⟨(some 22), .pick (.t 13) (.k (.c (.bool true))) (.t 21), none⟩])
  (.cond (.t 22) (.seq (.region [⟨(some 2), .mov (.k (.c (.int .i64 0))), none⟩, ⟨(some 3), .mov (.k (.c (.bool false))), none⟩])
  .ret) .skip))
  (.seq (.region [⟨(some 4), .mov (.k (.c (.int .i64 0))), none⟩])
  (.seq (.seq (.region [⟨(some 5), .mov (.k (.c (.int .i64 0))), none⟩])
  (.block 0 (.loop l59_0)))
  (.seq (.region [⟨(some 47), .mov (.t 4), none⟩, ⟨(some 2), .mov (.t 47), none⟩, ⟨(some 3), .mov (.k (.c (.bool true))), none⟩])
  .ret))))), [.tmp 2, .tmp 3], true⟩
theorem c59 : kk 59 = some k59 := by kernel_rfl
/-- loop.example/g01263/spec.l01Kind -/
def k69 : KF := ⟨5, (.seq (.region [⟨(some 2), .mov (.k (.c (.bool false))), none⟩])
  (.seq (.region [⟨(some 3), .mov (.t 0), none⟩, ⟨(some 4), .call (.k (.c (.fn 70 []))) [(.t 3), (.k (.c (.int .i64 0))), (.k (.c (.int .i64 5)))], none⟩, ⟨(some 2), .mov (.t 4), none⟩])
  .ret)), [.tmp 2], true⟩
theorem c69 : kk 69 = some k69 := by kernel_rfl
/-- loop.example/g01263/spec.l00In -/
def k70 : KF := ⟨15, (.seq (.region [⟨(some 6), .mov (.k (.c (.bool false))), none⟩])
  (.seq (.region [⟨(some 7), .mov (.t 0), none⟩, ⟨(some 8), .mov (.t 1), none⟩, ⟨(some 9), .bin .geq .int (.t 7) (.t 8), none⟩, ⟨(some 10), .mov (.t 9), none⟩, ⟨(some 11), .mov (.t 0), some (10, true)⟩, ⟨(some 12), .mov (.t 2), some (10, true)⟩, ⟨(some 13), .bin .leq .int (.t 11) (.t 12), some (10, true)⟩, ⟨(some 14), .pick (.t 10) (.t 13) (.k (.c (.bool false))), none⟩, ⟨(some 6), .mov (.t 14), none⟩])
  .ret)), [.tmp 6], true⟩
theorem c70 : kk 70 = some k70 := by kernel_rfl
/-- loop.example/g01263/spec.l01Letters -/
def k79 : KF := ⟨1, (.seq (.region [⟨(some 0), .mov (.k (.c (.str ⟨#[]⟩))), none⟩])
  (.seq (.region [⟨(some 0), .mov (.k (.c (.str ⟨#[100, 115, 108, 118, 99, 109]⟩))), none⟩])
  .ret)), [.tmp 0], true⟩
theorem c79 : kk 79 = some k79 := by kernel_rfl
theorem c41 : kk 41 = some k41 := by kernel_rfl
theorem c43 : kk 43 = some k43 := by kernel_rfl
theorem c75 : kk 75 = some k75 := by kernel_rfl
end Go.Proofs.YtcfabmmonoljeaaDoor
