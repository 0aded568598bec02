/- What functions of the program answer: part Code. -/
import Derived.Test.YtcfabmmonoljeaaDoorViE
import Derived.Test.YtcfabmmonoljeaaDoorViC
import Derived.Test.YtcfabmmonoljeaaDoorViA
import Derived.Test.YtcfabmmonoljeaaDoorChecked
import Derived.KernelRfl
set_option linter.unusedVariables false
set_option linter.unusedSimpArgs false
set_option linter.unusedSectionVars false
namespace Go.Proofs.YtcfabmmonoljeaaDoor
open Go Go.Proofs.YtcfabmmonoljeaaDoor.VI
def k41 : KF := kNat 2 1 (splitA 9)
def k43 : KF := kNat 2 1 indexA
def k75 : KF := kNat 2 1 fmtA
def k80 : KF := kNat 1 1 decA
def k92 : KF := kNat 3 1 (insA 91 2 4)
noncomputable def kk : FuncId → Option KF := fun f => if f = 41 then some k41 else if f = 43 then some k43 else if f = 75 then some k75 else if f = 80 then some k80 else if f = 92 then some k92 else cFunc Tryd.prog (!([7, 8, 9, 12, 13, 24, 25, 26, 31, 32, 33, 35, 37, 38, 41, 52, 57, 62, 63, 67, 68, 71, 73, 78, 81, 83, 84, 85] : List Nat).contains f) f
/-- loop.example/g01263/laws.FnWood -/
def k3 : KF := ⟨279, (.seq (.region [⟨(some 4), .mov (.k (.c (.bool false))), none⟩])
  (.seq (.seq (.region [⟨(some 43), .mov (.t 0), none⟩, ⟨(some 44), .call (.k (.c (.fn 6 []))) [(.t 43)], none⟩, ⟨(some 45), .mov (.t 44), none⟩, ⟨(some 46), .mov (.t 1), some (45, false)⟩, ⟨(some 47), .call (.k (.c (.fn 6 []))) [(.t 46)], some (45, false)⟩, ⟨(some 48), .pick (.t 45) (.k (.c (.bool true))) (.t 47), none⟩])
  (.cond (.t 48) (.seq (.region [⟨(some 4), .mov (.k (.c (.bool true))), none⟩])
  .ret) .skip))
  (.seq (.region [⟨(some 49), .mov (.t 0), none⟩, ⟨(some 50), .call (.k (.c (.fn 7 []))) [(.t 49)], none⟩, ⟨(some 5), .alloc 29 [(.bool false), (.slice none 0 (.exact 0)), (.int .i8 0), (.int .i8 0), (.int .i8 0), (.int .i8 0), (.int .i8 0), (.int .i8 0), (.int .i8 0), (.int .i8 0), (.int .i8 0), (.int .i8 0), (.int .i8 0), (.int .i8 0), (.int .i8 0), (.int .i8 0), (.int .i8 0), (.int .i8 0)], none⟩, ⟨none, .store 18 (.t 5) (.t 50), none⟩])
  (.seq (.region [⟨(some 52), .loadN 18 (.t 5), none⟩, ⟨(some 53), .call (.k (.c (.fn 8 []))) [(.t 52)], none⟩, ⟨(some 51), .mov (.t 53), none⟩, ⟨(some 54), .ext (.t 51) 0, none⟩, ⟨(some 55), .ext (.t 51) 1, none⟩, ⟨(some 6), .mov (.t 54), none⟩, ⟨(some 7), .mov (.t 55), none⟩])
  (.seq (.region [⟨(some 57), .loadN 18 (.t 5), none⟩, ⟨(some 58), .call (.k (.c (.fn 9 []))) [(.t 57)], none⟩, ⟨(some 56), .mov (.t 58), none⟩, ⟨(some 59), .ext (.t 56) 0, none⟩, ⟨(some 60), .ext (.t 56) 1, none⟩, ⟨(some 8), .mov (.t 59), none⟩, ⟨(some 9), .mov (.t 60), none⟩])
  (.seq (.seq (.region [⟨(some 61), .mov (.t 7), none⟩, ⟨(some 62), .mov (.t 9), none⟩, ⟨(some 63), .bin .neq .int (.t 61) (.t 62), none⟩, ⟨(some 64), .mov (.t 63), none⟩, ⟨(some 65), .mov (.t 7), some (64, false)⟩, ⟨(some 66), .bin .neq .int (.t 65) (.k (.c (.int .i64 0))), some (64, false)⟩, ⟨(some 67), .pick (.t 64) (.k (.c (.bool true))) (.t 66), none⟩, ⟨(some 68), .mov (.t 67), none⟩, ⟨(some 69), .mov (.t 6), some (68, false)⟩, ⟨(some 70), .mov (.t 8), some (68, false)⟩, ⟨(some 71), .call (.k (.c (.fn 10 []))) [(.t 69), (.t 70)], some (68, false)⟩, ⟨(some 72), .un .not (.t 71), some (68, false)⟩, ⟨(some 73), .pick (.t 68) (.k (.c (.bool true))) (.t 72), none⟩])
  (.cond (.t 73) (.seq (.region [⟨(some 4), .mov (.k (.c (.bool false))), none⟩])
  .ret) .skip))
  (.seq (.region [⟨(some 75), .mov (.t 1), none⟩, ⟨(some 76), .loadN 18 (.t 5), none⟩, ⟨(some 77), .call (.k (.c (.fn 11 []))) [(.t 75), (.t 76)], none⟩, ⟨(some 74), .mov (.t 77), none⟩, ⟨(some 78), .ext (.t 74) 0, none⟩, ⟨(some 79), .ext (.t 74) 1, none⟩, ⟨(some 10), .alloc 37 [(.int .i8 0), (.int .i8 0), (.int .i16 0), (.int .i16 0)], none⟩, ⟨none, .store 4 (.t 10) (.t 78), none⟩, ⟨(some 11), .mov (.t 79), none⟩])
  (.seq (.seq (.region [⟨(some 80), .mov (.t 11), none⟩, ⟨(some 81), .un .not (.t 80), none⟩])
  (.cond (.t 81) (.seq (.region [⟨(some 82), .mov (.t 8), none⟩, ⟨(some 83), .len false (.t 82), none⟩, ⟨(some 84), .bin .eql .int (.t 83) (.k (.c (.int .i64 0))), none⟩, ⟨(some 4), .mov (.t 84), none⟩])
  .ret) .skip))
  (.seq (.region [⟨(some 86), .loadN 18 (.t 5), none⟩, ⟨(some 87), .loadN 4 (.t 10), none⟩, ⟨(some 88), .call (.k (.c (.fn 12 []))) [(.t 86), (.t 87)], none⟩, ⟨(some 85), .mov (.t 88), none⟩, ⟨(some 89), .ext (.t 85) 0, none⟩, ⟨(some 90), .ext (.t 85) 1, none⟩, ⟨(some 12), .alloc 29 [(.bool false), (.slice none 0 (.exact 0)), (.int .i8 0), (.int .i8 0), (.int .i8 0), (.int .i8 0), (.int .i8 0), (.int .i8 0), (.int .i8 0), (.int .i8 0), (.int .i8 0), (.int .i8 0), (.int .i8 0), (.int .i8 0), (.int .i8 0), (.int .i8 0), (.int .i8 0), (.int .i8 0)], none⟩, ⟨none, .store 18 (.t 12) (.t 89), none⟩, ⟨(some 13), .mov (.t 90), none⟩])
  (.seq (.region [⟨(some 92), .loadN 18 (.t 5), none⟩, ⟨(some 93), .loadN 4 (.t 10), none⟩, ⟨(some 94), .call (.k (.c (.fn 13 []))) [(.t 92), (.t 93)], none⟩, ⟨(some 91), .mov (.t 94), none⟩, ⟨(some 95), .ext (.t 91) 0, none⟩, ⟨(some 96), .ext (.t 91) 1, none⟩, ⟨(some 14), .alloc 29 [(.bool false), (.slice none 0 (.exact 0)), (.int .i8 0), (.int .i8 0), (.int .i8 0), (.int .i8 0), (.int .i8 0), (.int .i8 0), (.int .i8 0), (.int .i8 0), (.int .i8 0), (.int .i8 0), (.int .i8 0), (.int .i8 0), (.int .i8 0), (.int .i8 0), (.int .i8 0), (.int .i8 0)], none⟩, ⟨none, .store 18 (.t 14) (.t 95), none⟩, ⟨(some 15), .mov (.t 96), none⟩])
  (.seq (.region [⟨(some 98), .loadN 18 (.t 5), none⟩, ⟨(some 99), .loadN 4 (.t 10), none⟩, ⟨(some 100), .call (.k (.c (.fn 14 []))) [(.t 98), (.t 99)], none⟩, ⟨(some 97), .mov (.t 100), none⟩, ⟨(some 101), .ext (.t 97) 0, none⟩, ⟨(some 102), .ext (.t 97) 1, none⟩, ⟨(some 16), .mov (.t 101), none⟩, ⟨(some 17), .mov (.t 102), none⟩])
  (.seq (.region [⟨(some 104), .loadN 18 (.t 5), none⟩, ⟨(some 105), .call (.k (.c (.fn 15 []))) [(.t 104)], none⟩, ⟨(some 103), .mov (.t 105), none⟩, ⟨(some 106), .ext (.t 103) 0, none⟩, ⟨(some 107), .ext (.t 103) 1, none⟩, ⟨(some 18), .alloc 46 [(.int .u64 0), (.int .u64 0), (.int .u64 0), (.int .u64 0)], none⟩, ⟨none, .store 4 (.t 18) (.t 106), none⟩, ⟨(some 19), .mov (.t 107), none⟩])
  (.seq (.region [⟨(some 109), .loadN 18 (.t 14), none⟩, ⟨(some 110), .call (.k (.c (.fn 15 []))) [(.t 109)], none⟩, ⟨(some 108), .mov (.t 110), none⟩, ⟨(some 111), .ext (.t 108) 0, none⟩, ⟨(some 112), .ext (.t 108) 1, none⟩, ⟨(some 20), .alloc 46 [(.int .u64 0), (.int .u64 0), (.int .u64 0), (.int .u64 0)], none⟩, ⟨none, .store 4 (.t 20) (.t 111), none⟩, ⟨(some 21), .mov (.t 112), none⟩])
  (.seq (.region [⟨(some 114), .loadN 4 (.t 10), none⟩, ⟨(some 115), .call (.k (.c (.fn 17 []))) [(.t 114)], none⟩, ⟨(some 116), .call (.k (.c (.fn 16 []))) [(.t 115)], none⟩, ⟨(some 113), .mov (.t 116), none⟩, ⟨(some 117), .ext (.t 113) 0, none⟩, ⟨(some 118), .ext (.t 113) 1, none⟩, ⟨(some 22), .alloc 37 [(.int .i8 0), (.int .i8 0), (.int .i16 0), (.int .i16 0)], none⟩, ⟨none, .store 4 (.t 22) (.t 117), none⟩, ⟨(some 23), .mov (.t 118), none⟩])
  (.seq (.seq (.drawn [(⟨(some 119), .mov (.t 13), none⟩, []), (⟨(some 120), .mov (.t 15), none⟩, []), (⟨(some 121), .bin .neq .int (.t 119) (.t 120), none⟩, []), (⟨(some 122), .mov (.t 121), none⟩, []), (⟨(some 123), .mov (.t 13), some (122, false)⟩, []), (⟨(some 124), .bin .neq .int (.t 123) (.k (.c (.int .i64 0))), some (122, false)⟩, []), (⟨(some 125), .pick (.t 122) (.k (.c (.bool true))) (.t 124), none⟩, []), (⟨(some 126), .mov (.t 125), none⟩, []), (⟨(some 127), .loadN 18 (.t 12), some (126, false)⟩, []), (⟨(some 128), .loadN 18 (.t 14), some (126, false)⟩, []), (⟨(some 129), .call (.k (.c (.fn 18 []))) [(.t 127), (.t 128)], some (126, false)⟩, []), (⟨(some 130), .un .not (.t 129), some (126, false)⟩, []), (⟨(some 131), .pick (.t 126) (.k (.c (.bool true))) (.t 130), none⟩, []), (⟨(some 132), .mov (.t 131), none⟩, []), (⟨(some 133), .loadN 18 (.t 14), some (132, false)⟩, []), (⟨(some 134), .call (.k (.c (.fn 19 []))) [(.t 133)], some (132, false)⟩, []), (⟨(some 135), .un .not (.t 134), some (132, false)⟩, []), (⟨(some 136), .pick (.t 132) (.k (.c (.bool true))) (.t 135), none⟩, []), (⟨(some 137), .mov (.t 136), none⟩, []), (⟨(some 138), .mov (.t 17), some (137, false)⟩, []), (⟨(some 139), .bin .neq .int (.t 138) (.k (.c (.int .i64 0))), some (137, false)⟩, []), (⟨(some 140), .pick (.t 137) (.k (.c (.bool true))) (.t 139), none⟩, []), (⟨(some 141), .mov (.t 140), none⟩, []), (⟨(some 142), .mov (.t 16), some (141, false)⟩, []), (⟨(some 143), .bin .leq .int (.t 142) (.k (.c (.int .i64 0))), some (141, false)⟩, []), (⟨(some 144), .pick (.t 141) (.k (.c (.bool true))) (.t 143), none⟩, []), (⟨(some 145), .mov (.t 144), none⟩, []), (⟨(some 146), .mov (.t 19), some (145, false)⟩, []), (⟨(some 147), .bin .neq .int (.t 146) (.k (.c (.int .i64 0))), some (145, false)⟩, []), (⟨(some 148), .pick (.t 145) (.k (.c (.bool true))) (.t 147), none⟩, []), (⟨(some 149), .mov (.t 148), none⟩, []), (⟨(some 150), .mov (.t 21), some (149, false)⟩, []), (⟨(some 151), .bin .neq .int (.t 150) (.k (.c (.int .i64 0))), some (149, false)⟩, []), (⟨(some 152), .pick (.t 149) (.k (.c (.bool true))) (.t 151), none⟩, []), (⟨(some 153), .mov (.t 152), none⟩, []), (⟨(some 154), .loadN 4 (.t 18), some (153, false)⟩, []), (⟨(some 155), .loadN 4 (.t 20), some (153, false)⟩, []), (⟨(some 156), .call (.k (.c (.fn 20 []))) [(.t 154), (.t 155)], some (153, false)⟩, []), (⟨(some 157), .un .not (.t 156), some (153, false)⟩, []), (⟨(some 158), .pick (.t 153) (.k (.c (.bool true))) (.t 157), none⟩, []), (⟨(some 159), .mov (.t 158), none⟩, []), (⟨(some 160), .loadN 4 (.t 20), some (159, false)⟩, []), (⟨(some 162), .loadN 4 (.t 18), some (159, false)⟩, []), (⟨(some 161), .call (.k (.c (.fn 21 []))) [(.t 160)], some (159, false)⟩, [⟨(some 162), .loadN 4 (.t 18), some (159, false)⟩]), (⟨(some 163), .call (.k (.c (.fn 21 []))) [(.t 162)], some (159, false)⟩, []), (⟨(some 164), .bin .leq .int (.t 161) (.t 163), some (159, false)⟩, []), (⟨(some 165), .pick (.t 159) (.k (.c (.bool true))) (.t 164), none⟩, []), (⟨(some 166), .mov (.t 165), none⟩, []), (⟨(some 167), .mov (.t 23), some (166, false)⟩, []), (⟨(some 168), .bin .neq .int (.t 167) (.k (.c (.int .i64 0))), some (166, false)⟩, []), (⟨(some 169), .pick (.t 166) (.k (.c (.bool true))) (.t 168), none⟩, []), (⟨(some 170), .mov (.t 169), none⟩, []), (⟨(some 171), .loadN 4 (.t 22), some (170, false)⟩, []), (⟨(some 172), .loadN 4 (.t 10), some (170, false)⟩, []), (⟨(some 173), .bin .neq (.agg [.int, .int, .int, .int]) (.t 171) (.t 172), some (170, false)⟩, []), (⟨(some 174), .pick (.t 170) (.k (.c (.bool true))) (.t 173), none⟩, [])])
  (.cond (.t 174) (.seq (.region [⟨(some 4), .mov (.k (.c (.bool false))), none⟩])
  .ret) .skip))
  (.seq (.region [⟨(some 176), .loadN 18 (.t 5), none⟩, ⟨(some 177), .call (.k (.c (.fn 22 []))) [(.t 176)], none⟩, ⟨(some 175), .mov (.t 177), none⟩, ⟨(some 178), .ext (.t 175) 0, none⟩, ⟨(some 179), .ext (.t 175) 1, none⟩, ⟨(some 24), .mov (.t 178), none⟩, ⟨(some 25), .mov (.t 179), none⟩])
  (.seq (.region [⟨(some 181), .loadN 18 (.t 14), none⟩, ⟨(some 182), .call (.k (.c (.fn 22 []))) [(.t 181)], none⟩, ⟨(some 180), .mov (.t 182), none⟩, ⟨(some 183), .ext (.t 180) 0, none⟩, ⟨(some 184), .ext (.t 180) 1, none⟩, ⟨(some 26), .mov (.t 183), none⟩, ⟨(some 27), .mov (.t 184), none⟩])
  (.seq (.region [⟨(some 186), .loadN 18 (.t 5), none⟩, ⟨(some 187), .loadN 18 (.t 14), none⟩, ⟨(some 188), .call (.k (.c (.fn 23 []))) [(.t 186), (.t 187)], none⟩, ⟨(some 185), .mov (.t 188), none⟩, ⟨(some 189), .ext (.t 185) 0, none⟩, ⟨(some 190), .ext (.t 185) 1, none⟩, ⟨(some 28), .mov (.t 189), none⟩, ⟨(some 29), .mov (.t 190), none⟩])
  (.seq (.region [⟨(some 192), .loadN 18 (.t 14), none⟩, ⟨(some 193), .loadN 18 (.t 5), none⟩, ⟨(some 194), .call (.k (.c (.fn 23 []))) [(.t 192), (.t 193)], none⟩, ⟨(some 191), .mov (.t 194), none⟩, ⟨(some 195), .ext (.t 191) 0, none⟩, ⟨(some 196), .ext (.t 191) 1, none⟩, ⟨(some 30), .mov (.t 195), none⟩, ⟨(some 31), .mov (.t 196), none⟩])
  (.seq (.region [⟨(some 198), .loadN 18 (.t 5), none⟩, ⟨(some 199), .loadN 4 (.t 10), none⟩, ⟨(some 200), .buildSl 37 1 [(.int .i8 0), (.int .i8 0), (.int .i16 0), (.int .i16 0)] [(0, 4, (.t 199))], none⟩, ⟨(some 201), .call (.k (.c (.fn 24 []))) [(.t 198), (.t 200)], none⟩, ⟨(some 197), .mov (.t 201), none⟩, ⟨(some 202), .ext (.t 197) 0, none⟩, ⟨(some 203), .ext (.t 197) 1, none⟩, ⟨(some 204), .ext (.t 197) 2, none⟩, ⟨(some 32), .alloc 29 [(.bool false), (.slice none 0 (.exact 0)), (.int .i8 0), (.int .i8 0), (.int .i8 0), (.int .i8 0), (.int .i8 0), (.int .i8 0), (.int .i8 0), (.int .i8 0), (.int .i8 0), (.int .i8 0), (.int .i8 0), (.int .i8 0), (.int .i8 0), (.int .i8 0), (.int .i8 0), (.int .i8 0)], none⟩, ⟨none, .store 18 (.t 32) (.t 202), none⟩, ⟨(some 33), .mov (.t 203), none⟩, ⟨(some 34), .mov (.t 204), none⟩])
  (.seq (.seq (.region [⟨(some 205), .mov (.t 25), none⟩, ⟨(some 206), .bin .neq .int (.t 205) (.k (.c (.int .i64 0))), none⟩, ⟨(some 207), .mov (.t 206), none⟩, ⟨(some 208), .mov (.t 27), some (207, false)⟩, ⟨(some 209), .bin .neq .int (.t 208) (.k (.c (.int .i64 0))), some (207, false)⟩, ⟨(some 210), .pick (.t 207) (.k (.c (.bool true))) (.t 209), none⟩, ⟨(some 211), .mov (.t 210), none⟩, ⟨(some 212), .mov (.t 26), some (211, false)⟩, ⟨(some 213), .mov (.t 24), some (211, false)⟩, ⟨(some 214), .mov (.t 16), some (211, false)⟩, ⟨(some 215), .bin .add .int (.t 213) (.t 214), some (211, false)⟩, ⟨(some 216), .bin .neq .int (.t 212) (.t 215), some (211, false)⟩, ⟨(some 217), .pick (.t 211) (.k (.c (.bool true))) (.t 216), none⟩, ⟨(some 218), .mov (.t 217), none⟩, ⟨(some 219), .mov (.t 29), some (218, false)⟩, ⟨(some 220), .bin .neq .int (.t 219) (.k (.c (.int .i64 0))), some (218, false)⟩, ⟨(some 221), .pick (.t 218) (.k (.c (.bool true))) (.t 220), none⟩, ⟨(some 222), .mov (.t 221), none⟩, ⟨(some 223), .mov (.t 28), some (222, false)⟩, ⟨(some 224), .un .not (.t 223), some (222, false)⟩, ⟨(some 225), .pick (.t 222) (.k (.c (.bool true))) (.t 224), none⟩, ⟨(some 226), .mov (.t 225), none⟩, ⟨(some 227), .mov (.t 31), some (226, false)⟩, ⟨(some 228), .bin .neq .int (.t 227) (.k (.c (.int .i64 0))), some (226, false)⟩, ⟨(some 229), .pick (.t 226) (.k (.c (.bool true))) (.t 228), none⟩, ⟨(some 230), .mov (.t 229), none⟩, ⟨(some 231), .mov (.t 30), some (230, false)⟩, ⟨(some 232), .pick (.t 230) (.k (.c (.bool true))) (.t 231), none⟩, ⟨(some 233), .mov (.t 232), none⟩, ⟨(some 234), .mov (.t 34), some (233, false)⟩, ⟨(some 235), .bin .neq .int (.t 234) (.k (.c (.int .i64 0))), some (233, false)⟩, ⟨(some 236), .pick (.t 233) (.k (.c (.bool true))) (.t 235), none⟩, ⟨(some 237), .mov (.t 236), none⟩, ⟨(some 238), .mov (.t 33), some (237, false)⟩, ⟨(some 239), .bin .neq .int (.t 238) (.k (.c (.int .i64 1))), some (237, false)⟩, ⟨(some 240), .pick (.t 237) (.k (.c (.bool true))) (.t 239), none⟩, ⟨(some 241), .mov (.t 240), none⟩, ⟨(some 242), .loadN 18 (.t 32), some (241, false)⟩, ⟨(some 243), .loadN 18 (.t 14), some (241, false)⟩, ⟨(some 244), .call (.k (.c (.fn 18 []))) [(.t 242), (.t 243)], some (241, false)⟩, ⟨(some 245), .un .not (.t 244), some (241, false)⟩, ⟨(some 246), .pick (.t 241) (.k (.c (.bool true))) (.t 245), none⟩])
  (.cond (.t 246) (.seq (.region [⟨(some 4), .mov (.k (.c (.bool false))), none⟩])
  .ret) .skip))
  (.seq (.region [⟨(some 248), .loadN 18 (.t 5), none⟩, ⟨(some 249), .call (.k (.c (.fn 25 []))) [(.t 248), (.k (.c (.int .u32 9)))], none⟩, ⟨(some 247), .mov (.t 249), none⟩, ⟨(some 250), .ext (.t 247) 0, none⟩, ⟨(some 251), .ext (.t 247) 1, none⟩, ⟨(some 252), .ext (.t 247) 2, none⟩, ⟨(some 253), .ext (.t 247) 3, none⟩, ⟨(some 35), .alloc 29 [(.bool false), (.slice none 0 (.exact 0)), (.int .i8 0), (.int .i8 0), (.int .i8 0), (.int .i8 0), (.int .i8 0), (.int .i8 0), (.int .i8 0), (.int .i8 0), (.int .i8 0), (.int .i8 0), (.int .i8 0), (.int .i8 0), (.int .i8 0), (.int .i8 0), (.int .i8 0), (.int .i8 0)], none⟩, ⟨(some 36), .alloc 37 [(.int .i8 0), (.int .i8 0), (.int .i16 0), (.int .i16 0)], none⟩, ⟨none, .store 18 (.t 35) (.t 250), none⟩, ⟨none, .store 4 (.t 36) (.t 251), none⟩, ⟨(some 37), .mov (.t 252), none⟩, ⟨(some 38), .mov (.t 253), none⟩])
  (.seq (.region [⟨(some 255), .loadN 18 (.t 5), none⟩, ⟨(some 256), .call (.k (.c (.fn 26 []))) [(.t 255), (.k (.c (.int .u32 9)))], none⟩, ⟨(some 254), .mov (.t 256), none⟩, ⟨(some 257), .ext (.t 254) 0, none⟩, ⟨(some 258), .ext (.t 254) 1, none⟩, ⟨(some 259), .ext (.t 254) 2, none⟩, ⟨(some 260), .ext (.t 254) 3, none⟩, ⟨(some 39), .alloc 29 [(.bool false), (.slice none 0 (.exact 0)), (.int .i8 0), (.int .i8 0), (.int .i8 0), (.int .i8 0), (.int .i8 0), (.int .i8 0), (.int .i8 0), (.int .i8 0), (.int .i8 0), (.int .i8 0), (.int .i8 0), (.int .i8 0), (.int .i8 0), (.int .i8 0), (.int .i8 0), (.int .i8 0)], none⟩, ⟨(some 40), .alloc 37 [(.int .i8 0), (.int .i8 0), (.int .i16 0), (.int .i16 0)], none⟩, ⟨none, .store 18 (.t 39) (.t 257), none⟩, ⟨none, .store 4 (.t 40) (.t 258), none⟩, ⟨(some 41), .mov (.t 259), none⟩, ⟨(some 42), .mov (.t 260), none⟩])
  (.seq (.region [⟨(some 261), .mov (.t 38), none⟩, ⟨(some 262), .mov (.t 42), none⟩, ⟨(some 263), .bin .eql .int (.t 261) (.t 262), none⟩, ⟨(some 264), .mov (.t 263), none⟩, ⟨(some 265), .loadN 18 (.t 35), some (264, true)⟩, ⟨(some 266), .loadN 18 (.t 39), some (264, true)⟩, ⟨(some 267), .call (.k (.c (.fn 18 []))) [(.t 265), (.t 266)], some (264, true)⟩, ⟨(some 268), .pick (.t 264) (.t 267) (.k (.c (.bool false))), none⟩, ⟨(some 269), .mov (.t 268), none⟩, ⟨(some 270), .loadN 4 (.t 36), some (269, true)⟩, ⟨(some 271), .loadN 4 (.t 40), some (269, true)⟩, ⟨(some 272), .bin .eql (.agg [.int, .int, .int, .int]) (.t 270) (.t 271), some (269, true)⟩, ⟨(some 273), .pick (.t 269) (.t 272) (.k (.c (.bool false))), none⟩, ⟨(some 274), .mov (.t 273), none⟩, ⟨(some 275), .mov (.t 37), some (274, true)⟩, ⟨(some 276), .mov (.t 41), some (274, true)⟩, ⟨(some 277), .bin .eql .int (.t 275) (.t 276), some (274, true)⟩, ⟨(some 278), .pick (.t 274) (.t 277) (.k (.c (.bool false))), none⟩, ⟨(some 4), .mov (.t 278), none⟩])
  .ret)))))))))))))))))))))))), [.tmp 4], true⟩
theorem c3 : kk 3 = some k3 := by kernel_rfl
/-- loop.example/g01263/laws.FnExactTamperText -/
def k4 : KF := ⟨14, (.seq (.region [⟨(some 1), .box 65 (.t 0), none⟩, ⟨(some 2), .mov (.k (.c (.bool false))), none⟩])
  (.seq (.region [⟨(some 5), .loadN 4 (.t 1), none⟩, ⟨(some 6), .call (.k (.c (.fn 28 []))) [(.t 5)], none⟩, ⟨(some 7), .call (.k (.c (.fn 27 []))) [(.t 6)], none⟩, ⟨(some 3), .mov (.t 7), none⟩])
  (.seq (.region [⟨(some 8), .loadN 4 (.t 1), none⟩, ⟨(some 9), .call (.k (.c (.fn 28 []))) [(.t 8)], none⟩, ⟨(some 10), .call (.k (.c (.fn 17 []))) [(.t 9)], none⟩, ⟨(some 4), .mov (.t 10), none⟩])
  (.seq (.seq (.region [⟨(some 11), .mov (.t 4), none⟩, ⟨(some 12), .mov (.t 3), none⟩, ⟨(some 13), .bin .neq .str (.t 11) (.t 12), none⟩])
  (.cond (.t 13) (.seq (.region [⟨(some 2), .mov (.k (.c (.bool false))), none⟩])
  .ret) .skip))
  (.seq (.region [⟨(some 2), .mov (.k (.c (.bool true))), none⟩])
  .ret))))), [.tmp 2], true⟩
theorem c4 : kk 4 = some k4 := by kernel_rfl
/-- loop.example/g01263/laws.FnExactReadTamper -/
def k5 : KF := ⟨29, (.seq (.region [⟨(some 2), .mov (.k (.c (.bool false))), none⟩])
  (.seq (.seq (.region [⟨(some 7), .mov (.t 0), none⟩, ⟨(some 8), .len true (.t 7), none⟩, ⟨(some 9), .bin .gtr .int (.t 8) (.k (.c (.int .i64 1048576))), none⟩])
  (.cond (.t 9) (.seq (.region [⟨(some 2), .mov (.k (.c (.bool true))), none⟩])
  .ret) .skip))
  (.seq (.region [⟨(some 11), .mov (.t 0), none⟩, ⟨(some 12), .call (.k (.c (.fn 29 []))) [(.t 11)], none⟩, ⟨(some 10), .mov (.t 12), none⟩, ⟨(some 13), .ext (.t 10) 0, none⟩, ⟨(some 14), .ext (.t 10) 1, none⟩, ⟨(some 3), .alloc 37 [(.int .i8 0), (.int .i8 0), (.int .i16 0), (.int .i16 0)], none⟩, ⟨none, .store 4 (.t 3) (.t 13), none⟩, ⟨(some 4), .mov (.t 14), none⟩])
  (.seq (.region [⟨(some 16), .mov (.t 0), none⟩, ⟨(some 17), .call (.k (.c (.fn 16 []))) [(.t 16)], none⟩, ⟨(some 15), .mov (.t 17), none⟩, ⟨(some 18), .ext (.t 15) 0, none⟩, ⟨(some 19), .ext (.t 15) 1, none⟩, ⟨(some 5), .alloc 37 [(.int .i8 0), (.int .i8 0), (.int .i16 0), (.int .i16 0)], none⟩, ⟨none, .store 4 (.t 5) (.t 18), none⟩, ⟨(some 6), .mov (.t 19), none⟩])
  (.seq (.seq (.region [⟨(some 20), .loadN 4 (.t 5), none⟩, ⟨(some 21), .loadN 4 (.t 3), none⟩, ⟨(some 22), .call (.k (.c (.fn 30 []))) [(.t 20), (.t 21)], none⟩, ⟨(some 23), .un .not (.t 22), none⟩, ⟨(some 24), .mov (.t 23), none⟩, ⟨(some 25), .mov (.t 6), some (24, false)⟩, ⟨(some 26), .mov (.t 4), some (24, false)⟩, ⟨(some 27), .bin .neq .int (.t 25) (.t 26), some (24, false)⟩, ⟨(some 28), .pick (.t 24) (.k (.c (.bool true))) (.t 27), none⟩])
  (.cond (.t 28) (.seq (.region [⟨(some 2), .mov (.k (.c (.bool false))), none⟩])
  .ret) .skip))
  (.seq (.region [⟨(some 2), .mov (.k (.c (.bool true))), none⟩])
  .ret)))))), [.tmp 2], true⟩
theorem c5 : kk 5 = some k5 := by kernel_rfl
/-- loop.example/g01263/laws.f6big -/
def k6 : KF := ⟨6, (.seq (.region [⟨(some 2), .mov (.k (.c (.bool false))), none⟩])
  (.seq (.region [⟨(some 3), .mov (.t 0), none⟩, ⟨(some 4), .len false (.t 3), none⟩, ⟨(some 5), .bin .gtr .int (.t 4) (.k (.c (.int .i64 4096))), none⟩, ⟨(some 2), .mov (.t 5), none⟩])
  .ret)), [.tmp 2], true⟩
theorem c6 : kk 6 = some k6 := by kernel_rfl
/-- loop.example/g01263/spec.P6Half -/
def k7 : KF := ⟨6, (.seq (.region [⟨(some 2), .alloc 29 [(.bool false), (.slice none 0 (.exact 0)), (.int .i8 0), (.int .i8 0), (.int .i8 0), (.int .i8 0), (.int .i8 0), (.int .i8 0), (.int .i8 0), (.int .i8 0), (.int .i8 0), (.int .i8 0), (.int .i8 0), (.int .i8 0), (.int .i8 0), (.int .i8 0), (.int .i8 0), (.int .i8 0)], none⟩])
  (.seq (.region [⟨(some 3), .mov (.t 0), none⟩, ⟨(some 4), .call (.k (.c (.fn 32 []))) [(.t 3)], none⟩, ⟨(some 5), .call (.k (.c (.fn 31 []))) [(.t 4)], none⟩, ⟨none, .store 18 (.t 2) (.t 5), none⟩])
  .ret)), [.cellN 2 18], false⟩
theorem c7 : kk 7 = some k7 := by kernel_rfl
/-- loop.example/g01263/impl.TampersOf -/
def k8 : KF := ⟨9, (.seq (.region [⟨(some 1), .box 29 (.t 0), none⟩, ⟨(some 2), .mov (.k (.c (.slice none 0 (.exact 0)))), none⟩, ⟨(some 3), .mov (.k (.c (.int .i64 0))), none⟩])
  (.seq (.seq (.region [⟨(some 4), .loadN 18 (.t 1), none⟩, ⟨(some 5), .call (.k (.c (.fn 19 []))) [(.t 4)], none⟩, ⟨(some 6), .un .not (.t 5), none⟩])
  (.cond (.t 6) (.seq (.region [⟨(some 2), .mov (.k (.c (.slice none 0 (.exact 0)))), none⟩, ⟨(some 3), .mov (.k (.c (.int .i64 1))), none⟩])
  .ret) .skip))
  (.seq (.region [⟨(some 7), .loadN 18 (.t 1), none⟩, ⟨(some 8), .call (.k (.c (.fn 33 []))) [(.t 7)], none⟩, ⟨(some 2), .mov (.t 8), none⟩, ⟨(some 3), .mov (.k (.c (.int .i64 0))), none⟩])
  .ret))), [.tmp 2, .tmp 3], false⟩
theorem c8 : kk 8 = some k8 := by kernel_rfl
/-- loop.example/g01263/spec.TampersOf -/
def k9 : KF := ⟨8, (.seq (.region [⟨(some 1), .box 29 (.t 0), none⟩, ⟨(some 2), .mov (.k (.c (.slice none 0 (.exact 0)))), none⟩, ⟨(some 3), .mov (.k (.c (.int .i64 0))), none⟩])
  (.seq (.seq (.region [⟨(some 4), .call (.k (.c (.fn 34 []))) [(.t 1)], none⟩, ⟨(some 5), .un .not (.t 4), none⟩])
  (.cond (.t 5) (.seq (.region [⟨(some 6), .buildSl 37 0 [] [], none⟩, ⟨(some 2), .mov (.t 6), none⟩, ⟨(some 3), .mov (.k (.c (.int .i64 1))), none⟩])
  .ret) .skip))
  (.seq (.region [⟨(some 7), .call (.k (.c (.fn 35 []))) [(.t 1)], none⟩, ⟨(some 2), .mov (.t 7), none⟩, ⟨(some 3), .mov (.k (.c (.int .i64 0))), none⟩])
  .ret))), [.tmp 2, .tmp 3], false⟩
theorem c9 : kk 9 = some k9 := by kernel_rfl
/-- loop.example/g01263/spec.SameTampers -/
def l10_0 : KC := (.seq (.seq (.region [⟨(some 11), .mov (.t 5), none⟩, ⟨(some 12), .mov (.t 0), none⟩, ⟨(some 13), .len false (.t 12), none⟩, ⟨(some 14), .bin .lss .int (.t 11) (.t 13), none⟩])
  (.cond (.t 14) .skip (.exit 0)))
  (.seq (.block 1 (.seq (.drawn [(⟨(some 17), .mov (.t 0), none⟩, []), (⟨(some 18), .mov (.t 5), none⟩, []), (⟨(some 19), .idxS 4 (.t 17) (.t 18), none⟩, []), (⟨(some 20), .loadN 4 (.t 19), none⟩, []), (⟨(some 21), .mov (.t 1), none⟩, []), (⟨(some 22), .mov (.t 5), none⟩, []), (⟨(some 23), .idxS 4 (.t 21) (.t 22), none⟩, []), (⟨(some 24), .loadN 4 (.t 23), none⟩, []), (⟨(some 25), .bin .neq (.agg [.int, .int, .int, .int]) (.t 20) (.t 24), none⟩, [])])
  (.cond (.t 25) (.seq (.region [⟨(some 4), .mov (.k (.c (.bool false))), none⟩])
  .ret) .skip)))
  (.region [⟨(some 15), .mov (.t 5), none⟩, ⟨(some 16), .bin .add .int (.t 15) (.k (.c (.int .i64 1))), none⟩, ⟨(some 5), .mov (.t 16), none⟩])))
def k10 : KF := ⟨26, (.seq (.region [⟨(some 4), .mov (.k (.c (.bool false))), none⟩])
  (.seq (.seq (.region [⟨(some 6), .mov (.t 0), none⟩, ⟨(some 7), .len false (.t 6), none⟩, ⟨(some 8), .mov (.t 1), none⟩, ⟨(some 9), .len false (.t 8), none⟩, ⟨(some 10), .bin .neq .int (.t 7) (.t 9), none⟩])
  (.cond (.t 10) (.seq (.region [⟨(some 4), .mov (.k (.c (.bool false))), none⟩])
  .ret) .skip))
  (.seq (.seq (.region [⟨(some 5), .mov (.k (.c (.int .i64 0))), none⟩])
  (.block 0 (.loop l10_0)))
  (.seq (.region [⟨(some 4), .mov (.k (.c (.bool true))), none⟩])
  .ret)))), [.tmp 4], true⟩
theorem c10 : kk 10 = some k10 := by kernel_rfl
/-- loop.example/g01263/spec.P6Way -/
def k11 : KF := ⟨20, (.seq (.region [⟨(some 3), .box 29 (.t 1), none⟩, ⟨(some 4), .alloc 37 [(.int .i8 0), (.int .i8 0), (.int .i16 0), (.int .i16 0)], none⟩, ⟨(some 5), .mov (.k (.c (.bool false))), none⟩])
  (.seq (.region [⟨(some 7), .call (.k (.c (.fn 35 []))) [(.t 3)], none⟩, ⟨(some 6), .mov (.t 7), none⟩])
  (.seq (.seq (.region [⟨(some 8), .mov (.t 6), none⟩, ⟨(some 9), .len false (.t 8), none⟩, ⟨(some 10), .bin .eql .int (.t 9) (.k (.c (.int .i64 0))), none⟩])
  (.cond (.t 10) (.seq (.region [⟨(some 11), .build [(.int .i8 0), (.int .i8 0), (.int .i16 0), (.int .i16 0)] [], none⟩, ⟨none, .store 4 (.t 4) (.t 11), none⟩, ⟨(some 5), .mov (.k (.c (.bool false))), none⟩])
  .ret) .skip))
  (.seq (.region [⟨(some 12), .mov (.t 6), none⟩, ⟨(some 13), .mov (.t 0), none⟩, ⟨(some 14), .call (.k (.c (.fn 32 []))) [(.t 13)], none⟩, ⟨(some 15), .mov (.t 6), none⟩, ⟨(some 16), .len false (.t 15), none⟩, ⟨(some 17), .call (.k (.c (.fn 36 []))) [(.t 14), (.t 16)], none⟩, ⟨(some 18), .idxS 4 (.t 12) (.t 17), none⟩, ⟨(some 19), .loadN 4 (.t 18), none⟩, ⟨none, .store 4 (.t 4) (.t 19), none⟩, ⟨(some 5), .mov (.k (.c (.bool true))), none⟩])
  .ret)))), [.cellN 4 4, .tmp 5], true⟩
theorem c11 : kk 11 = some k11 := by kernel_rfl
/-- loop.example/g01263/impl.TamperHalf -/
def k12 : KF := ⟨15, (.seq (.region [⟨(some 2), .box 29 (.t 0), none⟩, ⟨(some 3), .box 37 (.t 1), none⟩, ⟨(some 4), .alloc 29 [(.bool false), (.slice none 0 (.exact 0)), (.int .i8 0), (.int .i8 0), (.int .i8 0), (.int .i8 0), (.int .i8 0), (.int .i8 0), (.int .i8 0), (.int .i8 0), (.int .i8 0), (.int .i8 0), (.int .i8 0), (.int .i8 0), (.int .i8 0), (.int .i8 0), (.int .i8 0), (.int .i8 0)], none⟩, ⟨(some 5), .mov (.k (.c (.int .i64 0))), none⟩])
  (.seq (.seq (.region [⟨(some 6), .loadN 18 (.t 2), none⟩, ⟨(some 7), .call (.k (.c (.fn 19 []))) [(.t 6)], none⟩, ⟨(some 8), .un .not (.t 7), none⟩])
  (.cond (.t 8) (.seq (.region [⟨(some 9), .build [(.bool false), (.slice none 0 (.exact 0)), (.int .i8 0), (.int .i8 0), (.int .i8 0), (.int .i8 0), (.int .i8 0), (.int .i8 0), (.int .i8 0), (.int .i8 0), (.int .i8 0), (.int .i8 0), (.int .i8 0), (.int .i8 0), (.int .i8 0), (.int .i8 0), (.int .i8 0), (.int .i8 0)] [], none⟩, ⟨none, .store 18 (.t 4) (.t 9), none⟩, ⟨(some 5), .mov (.k (.c (.int .i64 1))), none⟩])
  .ret) .skip))
  (.seq (.region [⟨(some 10), .loadN 18 (.t 2), none⟩, ⟨(some 11), .loadN 4 (.t 3), none⟩, ⟨(some 12), .call (.k (.c (.fn 37 []))) [(.t 10), (.t 11)], none⟩, ⟨(some 13), .ext (.t 12) 0, none⟩, ⟨(some 14), .ext (.t 12) 1, none⟩, ⟨none, .store 18 (.t 4) (.t 13), none⟩, ⟨(some 5), .mov (.t 14), none⟩])
  .ret))), [.cellN 4 18, .tmp 5], false⟩
theorem c12 : kk 12 = some k12 := by kernel_rfl
/-- loop.example/g01263/spec.TamperHalf -/
def k13 : KF := ⟨13, (.seq (.region [⟨(some 2), .box 29 (.t 0), none⟩, ⟨(some 3), .box 37 (.t 1), none⟩, ⟨(some 4), .alloc 29 [(.bool false), (.slice none 0 (.exact 0)), (.int .i8 0), (.int .i8 0), (.int .i8 0), (.int .i8 0), (.int .i8 0), (.int .i8 0), (.int .i8 0), (.int .i8 0), (.int .i8 0), (.int .i8 0), (.int .i8 0), (.int .i8 0), (.int .i8 0), (.int .i8 0), (.int .i8 0), (.int .i8 0)], none⟩, ⟨(some 5), .mov (.k (.c (.int .i64 0))), none⟩])
  (.seq (.seq (.region [⟨(some 6), .call (.k (.c (.fn 34 []))) [(.t 2)], none⟩, ⟨(some 7), .un .not (.t 6), none⟩])
  (.cond (.t 7) (.seq (.region [⟨(some 8), .build [(.bool false), (.slice none 0 (.exact 0)), (.int .i8 0), (.int .i8 0), (.int .i8 0), (.int .i8 0), (.int .i8 0), (.int .i8 0), (.int .i8 0), (.int .i8 0), (.int .i8 0), (.int .i8 0), (.int .i8 0), (.int .i8 0), (.int .i8 0), (.int .i8 0), (.int .i8 0), (.int .i8 0)] [], none⟩, ⟨none, .store 18 (.t 4) (.t 8), none⟩, ⟨(some 5), .mov (.k (.c (.int .i64 1))), none⟩])
  .ret) .skip))
  (.seq (.region [⟨(some 9), .loadN 4 (.t 3), none⟩, ⟨(some 10), .call (.k (.c (.fn 38 []))) [(.t 2), (.t 9)], none⟩, ⟨(some 11), .ext (.t 10) 0, none⟩, ⟨(some 12), .ext (.t 10) 1, none⟩, ⟨none, .store 18 (.t 4) (.t 11), none⟩, ⟨(some 5), .mov (.t 12), none⟩])
  .ret))), [.cellN 4 18, .tmp 5], false⟩
theorem c13 : kk 13 = some k13 := by kernel_rfl
/-- loop.example/g01263/impl.GainOf -/
def k14 : KF := ⟨22, (.seq (.region [⟨(some 2), .box 29 (.t 0), none⟩, ⟨(some 3), .box 37 (.t 1), none⟩, ⟨(some 4), .mov (.k (.c (.int .i64 0))), none⟩, ⟨(some 5), .mov (.k (.c (.int .i64 0))), none⟩])
  (.seq (.region [⟨(some 9), .loadN 18 (.t 2), none⟩, ⟨(some 10), .loadN 4 (.t 3), none⟩, ⟨(some 11), .call (.k (.c (.fn 12 []))) [(.t 9), (.t 10)], none⟩, ⟨(some 8), .mov (.t 11), none⟩, ⟨(some 12), .ext (.t 8) 0, none⟩, ⟨(some 13), .ext (.t 8) 1, none⟩, ⟨(some 6), .alloc 29 [(.bool false), (.slice none 0 (.exact 0)), (.int .i8 0), (.int .i8 0), (.int .i8 0), (.int .i8 0), (.int .i8 0), (.int .i8 0), (.int .i8 0), (.int .i8 0), (.int .i8 0), (.int .i8 0), (.int .i8 0), (.int .i8 0), (.int .i8 0), (.int .i8 0), (.int .i8 0), (.int .i8 0)], none⟩, ⟨none, .store 18 (.t 6) (.t 12), none⟩, ⟨(some 7), .mov (.t 13), none⟩])
  (.seq (.seq (.region [⟨(some 14), .mov (.t 7), none⟩, ⟨(some 15), .bin .neq .int (.t 14) (.k (.c (.int .i64 0))), none⟩])
  (.cond (.t 15) (.seq (.region [⟨(some 16), .mov (.t 7), none⟩, ⟨(some 4), .mov (.k (.c (.int .i64 0))), none⟩, ⟨(some 5), .mov (.t 16), none⟩])
  .ret) .skip))
  (.seq (.drawn [(⟨(some 17), .loadN 18 (.t 6), none⟩, []), (⟨(some 19), .loadN 18 (.t 2), none⟩, []), (⟨(some 18), .call (.k (.c (.fn 39 []))) [(.t 17)], none⟩, [⟨(some 19), .loadN 18 (.t 2), none⟩]), (⟨(some 20), .call (.k (.c (.fn 39 []))) [(.t 19)], none⟩, []), (⟨(some 21), .bin .sub .int (.t 18) (.t 20), none⟩, []), (⟨(some 4), .mov (.t 21), none⟩, []), (⟨(some 5), .mov (.k (.c (.int .i64 0))), none⟩, [])])
  .ret)))), [.tmp 4, .tmp 5], true⟩
theorem c14 : kk 14 = some k14 := by kernel_rfl
/-- loop.example/g01263/impl.WoodOf -/
def k15 : KF := ⟨10, (.seq (.region [⟨(some 1), .box 29 (.t 0), none⟩, ⟨(some 2), .alloc 46 [(.int .u64 0), (.int .u64 0), (.int .u64 0), (.int .u64 0)], none⟩, ⟨(some 3), .mov (.k (.c (.int .i64 0))), none⟩])
  (.seq (.seq (.region [⟨(some 4), .loadN 18 (.t 1), none⟩, ⟨(some 5), .call (.k (.c (.fn 19 []))) [(.t 4)], none⟩, ⟨(some 6), .un .not (.t 5), none⟩])
  (.cond (.t 6) (.seq (.region [⟨(some 7), .build [(.int .u64 0), (.int .u64 0), (.int .u64 0), (.int .u64 0)] [], none⟩, ⟨none, .store 4 (.t 2) (.t 7), none⟩, ⟨(some 3), .mov (.k (.c (.int .i64 1))), none⟩])
  .ret) .skip))
  (.seq (.region [⟨(some 8), .loadN 18 (.t 1), none⟩, ⟨(some 9), .call (.k (.c (.fn 40 []))) [(.t 8)], none⟩, ⟨none, .store 4 (.t 2) (.t 9), none⟩, ⟨(some 3), .mov (.k (.c (.int .i64 0))), none⟩])
  .ret))), [.cellN 2 4, .tmp 3], true⟩
theorem c15 : kk 15 = some k15 := by kernel_rfl
/-- loop.example/g01263/impl.ReadTamper -/
def k16 : KF := ⟨81, (.seq (.region [⟨(some 2), .alloc 37 [(.int .i8 0), (.int .i8 0), (.int .i16 0), (.int .i16 0)], none⟩, ⟨(some 3), .mov (.k (.c (.int .i64 0))), none⟩])
  (.seq (.region [⟨(some 11), .mov (.t 0), none⟩, ⟨(some 12), .call (.k (.c (.fn 41 []))) [(.t 11), (.k (.c (.str ⟨#[32]⟩)))], none⟩, ⟨(some 4), .mov (.t 12), none⟩])
  (.seq (.seq (.region [⟨(some 13), .mov (.t 4), none⟩, ⟨(some 14), .len false (.t 13), none⟩, ⟨(some 15), .bin .neq .int (.t 14) (.k (.c (.int .i64 3))), none⟩])
  (.cond (.t 15) (.seq (.region [⟨(some 16), .build [(.int .i8 0), (.int .i8 0), (.int .i16 0), (.int .i16 0)] [], none⟩, ⟨none, .store 4 (.t 2) (.t 16), none⟩, ⟨(some 3), .mov (.k (.c (.int .i64 5))), none⟩])
  .ret) .skip))
  (.seq (.drawn [(⟨(some 17), .build [(.int .i8 0), (.int .i8 0), (.int .i16 0), (.int .i16 0)] [(0, 1, (.k (.c (.int .i8 1))))], none⟩, []), (⟨(some 18), .mov (.t 4), none⟩, []), (⟨(some 19), .idxS 1 (.t 18) (.k (.c (.int .i64 1))), none⟩, []), (⟨(some 20), .load1 (.t 19), none⟩, []), (⟨(some 21), .mov (.t 4), none⟩, []), (⟨(some 22), .idxS 1 (.t 21) (.k (.c (.int .i64 2))), none⟩, []), (⟨(some 23), .load1 (.t 22), none⟩, []), (⟨(some 5), .alloc 37 [(.int .i8 0), (.int .i8 0), (.int .i16 0), (.int .i16 0)], none⟩, [⟨(some 20), .load1 (.t 19), none⟩, ⟨(some 23), .load1 (.t 22), none⟩]), (⟨none, .store 4 (.t 5) (.t 17), none⟩, [⟨(some 20), .load1 (.t 19), none⟩, ⟨(some 23), .load1 (.t 22), none⟩]), (⟨(some 6), .mov (.t 20), none⟩, []), (⟨(some 7), .mov (.t 23), none⟩, [])])
  (.seq (.seq (.region [⟨(some 24), .mov (.t 4), none⟩, ⟨(some 25), .idxS 1 (.t 24) (.k (.c (.int .i64 0))), none⟩, ⟨(some 26), .load1 (.t 25), none⟩, ⟨(some 27), .bin .eql .str (.t 26) (.k (.c (.str ⟨#[119, 105, 100, 101, 110]⟩))), none⟩])
  (.cond (.t 27) (.seq (.region [⟨(some 28), .fldA 0 (.t 5), none⟩, ⟨none, .store 1 (.t 28) (.k (.c (.int .i8 2))), none⟩])
  (.drawn [(⟨(some 29), .mov (.t 4), none⟩, []), (⟨(some 30), .idxS 1 (.t 29) (.k (.c (.int .i64 2))), none⟩, []), (⟨(some 31), .load1 (.t 30), none⟩, []), (⟨(some 32), .mov (.t 4), none⟩, []), (⟨(some 33), .idxS 1 (.t 32) (.k (.c (.int .i64 1))), none⟩, []), (⟨(some 34), .load1 (.t 33), none⟩, []), (⟨(some 6), .mov (.t 31), none⟩, []), (⟨(some 7), .mov (.t 34), none⟩, [])])) .skip))
  (.seq (.region [⟨(some 36), .mov (.t 7), none⟩, ⟨(some 37), .call (.k (.c (.fn 42 []))) [(.t 36)], none⟩, ⟨(some 35), .mov (.t 37), none⟩, ⟨(some 38), .ext (.t 35) 0, none⟩, ⟨(some 39), .ext (.t 35) 1, none⟩, ⟨(some 8), .mov (.t 38), none⟩, ⟨(some 9), .mov (.t 39), none⟩])
  (.seq (.region [⟨(some 40), .mov (.t 6), none⟩, ⟨(some 41), .call (.k (.c (.fn 43 []))) [(.k (.c (.str ⟨#[100, 115, 108, 118, 99, 109]⟩))), (.t 40)], none⟩, ⟨(some 10), .mov (.t 41), none⟩])
  (.seq (.seq (.region [⟨(some 42), .mov (.t 9), none⟩, ⟨(some 43), .un .not (.t 42), none⟩, ⟨(some 44), .mov (.t 43), none⟩, ⟨(some 45), .mov (.t 8), some (44, false)⟩, ⟨(some 46), .bin .gtr .int (.t 45) (.k (.c (.int .i64 200))), some (44, false)⟩, ⟨(some 47), .pick (.t 44) (.k (.c (.bool true))) (.t 46), none⟩, ⟨(some 48), .mov (.t 47), none⟩, ⟨(some 49), .mov (.t 6), some (48, false)⟩, ⟨(some 50), .len true (.t 49), some (48, false)⟩, ⟨(some 51), .bin .neq .int (.t 50) (.k (.c (.int .i64 1))), some (48, false)⟩, ⟨(some 52), .pick (.t 48) (.k (.c (.bool true))) (.t 51), none⟩, ⟨(some 53), .mov (.t 52), none⟩, ⟨(some 54), .mov (.t 10), some (53, false)⟩, ⟨(some 55), .bin .lss .int (.t 54) (.k (.c (.int .i64 0))), some (53, false)⟩, ⟨(some 56), .pick (.t 53) (.k (.c (.bool true))) (.t 55), none⟩])
  (.cond (.t 56) (.seq (.region [⟨(some 57), .build [(.int .i8 0), (.int .i8 0), (.int .i16 0), (.int .i16 0)] [], none⟩, ⟨none, .store 4 (.t 2) (.t 57), none⟩, ⟨(some 3), .mov (.k (.c (.int .i64 5))), none⟩])
  .ret) .skip))
  (.seq (.region [⟨(some 58), .mov (.t 10), none⟩, ⟨(some 59), .conv .i8 (.t 58), none⟩, ⟨(some 60), .fldA 1 (.t 5), none⟩, ⟨none, .store 1 (.t 60) (.t 59), none⟩])
  (.seq (.seq (.region [⟨(some 61), .fldA 0 (.t 5), none⟩, ⟨(some 62), .load1 (.t 61), none⟩, ⟨(some 63), .bin .eql .int (.t 62) (.k (.c (.int .i8 1))), none⟩])
  (.cond (.t 63) (.region [⟨(some 64), .mov (.t 8), none⟩, ⟨(some 65), .conv .i16 (.t 64), none⟩, ⟨(some 66), .fldA 3 (.t 5), none⟩, ⟨none, .store 1 (.t 66) (.t 65), none⟩]) (.region [⟨(some 67), .mov (.t 8), none⟩, ⟨(some 68), .conv .i16 (.t 67), none⟩, ⟨(some 69), .fldA 2 (.t 5), none⟩, ⟨none, .store 1 (.t 69) (.t 68), none⟩])))
  (.seq (.seq (.region [⟨(some 70), .loadN 4 (.t 5), none⟩, ⟨(some 71), .call (.k (.c (.fn 44 []))) [(.t 70)], none⟩, ⟨(some 72), .un .not (.t 71), none⟩, ⟨(some 73), .mov (.t 72), none⟩, ⟨(some 74), .loadN 4 (.t 5), some (73, false)⟩, ⟨(some 75), .call (.k (.c (.fn 17 []))) [(.t 74)], some (73, false)⟩, ⟨(some 76), .mov (.t 0), some (73, false)⟩, ⟨(some 77), .bin .neq .str (.t 75) (.t 76), some (73, false)⟩, ⟨(some 78), .pick (.t 73) (.k (.c (.bool true))) (.t 77), none⟩])
  (.cond (.t 78) (.seq (.region [⟨(some 79), .build [(.int .i8 0), (.int .i8 0), (.int .i16 0), (.int .i16 0)] [], none⟩, ⟨none, .store 4 (.t 2) (.t 79), none⟩, ⟨(some 3), .mov (.k (.c (.int .i64 5))), none⟩])
  .ret) .skip))
  (.seq (.region [⟨(some 80), .loadN 4 (.t 5), none⟩, ⟨none, .store 4 (.t 2) (.t 80), none⟩, ⟨(some 3), .mov (.k (.c (.int .i64 0))), none⟩])
  .ret)))))))))))), [.cellN 2 4, .tmp 3], true⟩
theorem c16 : kk 16 = some k16 := by kernel_rfl
/-- loop.example/g01263/impl.TamperText -/
def k17 : KF := ⟨32, (.seq (.region [⟨(some 1), .box 37 (.t 0), none⟩, ⟨(some 2), .mov (.k (.c (.str ⟨#[]⟩))), none⟩])
  (.seq (.seq (.region [⟨(some 4), .loadN 4 (.t 1), none⟩, ⟨(some 5), .call (.k (.c (.fn 44 []))) [(.t 4)], none⟩, ⟨(some 6), .un .not (.t 5), none⟩])
  (.cond (.t 6) (.seq (.region [⟨(some 2), .mov (.k (.c (.str ⟨#[]⟩))), none⟩])
  .ret) .skip))
  (.seq (.region [⟨(some 7), .fldA 1 (.t 1), none⟩, ⟨(some 8), .load1 (.t 7), none⟩, ⟨(some 9), .fldA 1 (.t 1), none⟩, ⟨(some 10), .load1 (.t 9), none⟩, ⟨(some 11), .bin .add .int (.t 10) (.k (.c (.int .i8 1))), none⟩, ⟨(some 12), .sliceStr (.k (.c (.str ⟨#[100, 115, 108, 118, 99, 109]⟩))) (some (.t 8)) (some (.t 11)), none⟩, ⟨(some 3), .mov (.t 12), none⟩])
  (.seq (.seq (.region [⟨(some 13), .fldA 0 (.t 1), none⟩, ⟨(some 14), .load1 (.t 13), none⟩, ⟨(some 15), .bin .eql .int (.t 14) (.k (.c (.int .i8 1))), none⟩])
  (.cond (.t 15) (.seq (.region [⟨(some 16), .mov (.t 3), none⟩, ⟨(some 17), .bin .add .str (.k (.c (.str ⟨#[97, 100, 100, 32]⟩))) (.t 16), none⟩, ⟨(some 18), .bin .add .str (.t 17) (.k (.c (.str ⟨#[32]⟩))), none⟩, ⟨(some 19), .fldA 3 (.t 1), none⟩, ⟨(some 20), .load1 (.t 19), none⟩, ⟨(some 21), .conv .i64 (.t 20), none⟩, ⟨(some 22), .call (.k (.c (.fn 45 []))) [(.t 21)], none⟩, ⟨(some 23), .bin .add .str (.t 18) (.t 22), none⟩, ⟨(some 2), .mov (.t 23), none⟩])
  .ret) .skip))
  (.seq (.region [⟨(some 24), .fldA 2 (.t 1), none⟩, ⟨(some 25), .load1 (.t 24), none⟩, ⟨(some 26), .conv .i64 (.t 25), none⟩, ⟨(some 27), .call (.k (.c (.fn 45 []))) [(.t 26)], none⟩, ⟨(some 28), .bin .add .str (.k (.c (.str ⟨#[119, 105, 100, 101, 110, 32]⟩))) (.t 27), none⟩, ⟨(some 29), .bin .add .str (.t 28) (.k (.c (.str ⟨#[32]⟩))), none⟩, ⟨(some 30), .mov (.t 3), none⟩, ⟨(some 31), .bin .add .str (.t 29) (.t 30), none⟩, ⟨(some 2), .mov (.t 31), none⟩])
  .ret))))), [.tmp 2], true⟩
theorem c17 : kk 17 = some k17 := by kernel_rfl
/-- loop.example/g01263/spec.SameHalf -/
def k18 : KF := ⟨6, (.seq (.region [⟨(some 2), .box 29 (.t 0), none⟩, ⟨(some 3), .box 29 (.t 1), none⟩, ⟨(some 4), .mov (.k (.c (.bool false))), none⟩])
  (.seq (.region [⟨(some 5), .call (.k (.c (.fn 46 []))) [(.t 2), (.t 3)], none⟩, ⟨(some 4), .mov (.t 5), none⟩])
  .ret)), [.tmp 4], true⟩
theorem c18 : kk 18 = some k18 := by kernel_rfl
/-- loop.example/g01263/impl.ValidHalf -/
def l19_0 : KC := (.seq (.region [⟨(some 19), .bin .lss .int (.t 18) (.t 17), none⟩])
  (.seq (.cond (.t 19) .skip (.exit 0))
  (.seq (.block 1 (.seq (.region [⟨(some 20), .mov (.t 18), none⟩, ⟨(some 21), .idxS 2 (.t 16) (.t 18), none⟩, ⟨(some 22), .loadN 2 (.t 21), none⟩, ⟨(some 4), .alloc 91 [(.int .i8 0), (.int .i16 0)], none⟩, ⟨(some 3), .mov (.t 20), none⟩, ⟨none, .store 2 (.t 4) (.t 22), none⟩])
  (.seq (.seq (.region [⟨(some 23), .fldA 0 (.t 4), none⟩, ⟨(some 24), .load1 (.t 23), none⟩, ⟨(some 25), .conv .i64 (.t 24), none⟩, ⟨(some 26), .call (.k (.c (.fn 48 []))) [(.t 25)], none⟩, ⟨(some 27), .un .not (.t 26), none⟩, ⟨(some 28), .mov (.t 27), none⟩, ⟨(some 29), .fldA 1 (.t 4), some (28, false)⟩, ⟨(some 30), .load1 (.t 29), some (28, false)⟩, ⟨(some 31), .bin .lss .int (.t 30) (.k (.c (.int .i16 0))), some (28, false)⟩, ⟨(some 32), .pick (.t 28) (.k (.c (.bool true))) (.t 31), none⟩, ⟨(some 33), .mov (.t 32), none⟩, ⟨(some 34), .loadN 2 (.t 4), some (33, false)⟩, ⟨(some 35), .call (.k (.c (.fn 49 []))) [(.t 34)], some (33, false)⟩, ⟨(some 36), .bin .gtr .int (.t 35) (.k (.c (.int .i64 200))), some (33, false)⟩, ⟨(some 37), .pick (.t 33) (.k (.c (.bool true))) (.t 36), none⟩])
  (.cond (.t 37) (.seq (.region [⟨(some 2), .mov (.k (.c (.bool false))), none⟩])
  .ret) .skip))
  (.seq (.drawn [(⟨(some 38), .mov (.t 3), none⟩, []), (⟨(some 39), .bin .gtr .int (.t 38) (.k (.c (.int .i64 0))), none⟩, []), (⟨(some 40), .mov (.t 39), none⟩, []), (⟨(some 41), .fldA 1 (.t 4), some (40, true)⟩, []), (⟨(some 42), .load1 (.t 41), some (40, true)⟩, []), (⟨(some 43), .conv .i64 (.t 42), some (40, true)⟩, []), (⟨(some 44), .fldA 1 (.t 1), some (40, true)⟩, []), (⟨(some 45), .load1 (.t 44), some (40, true)⟩, []), (⟨(some 46), .mov (.t 3), some (40, true)⟩, []), (⟨(some 47), .bin .sub .int (.t 46) (.k (.c (.int .i64 1))), some (40, true)⟩, []), (⟨(some 48), .idxS 2 (.t 45) (.t 47), some (40, true)⟩, []), (⟨(some 49), .loadN 2 (.t 48), some (40, true)⟩, []), (⟨(some 50), .call (.k (.c (.fn 49 []))) [(.t 49)], some (40, true)⟩, [⟨(some 42), .load1 (.t 41), some (40, true)⟩]), (⟨(some 51), .bin .leq .int (.t 43) (.t 50), some (40, true)⟩, []), (⟨(some 52), .mov (.t 51), some (40, true)⟩, []), (⟨(some 53), .fldA 0 (.t 4), some (52, false)⟩, []), (⟨(some 54), .load1 (.t 53), some (52, false)⟩, []), (⟨(some 55), .fldA 1 (.t 1), some (52, false)⟩, []), (⟨(some 56), .load1 (.t 55), some (52, false)⟩, []), (⟨(some 57), .mov (.t 3), some (52, false)⟩, []), (⟨(some 58), .bin .sub .int (.t 57) (.k (.c (.int .i64 1))), some (52, false)⟩, []), (⟨(some 59), .idxS 2 (.t 56) (.t 58), some (52, false)⟩, []), (⟨(some 60), .fldA 0 (.t 59), some (52, false)⟩, []), (⟨(some 61), .load1 (.t 60), some (52, false)⟩, []), (⟨(some 62), .bin .gtr .int (.t 54) (.t 61), some (52, false)⟩, []), (⟨(some 63), .pick (.t 52) (.k (.c (.bool true))) (.t 62), some (40, true)⟩, []), (⟨(some 64), .pick (.t 40) (.t 63) (.k (.c (.bool false))), none⟩, [])])
  (.cond (.t 64) (.seq (.region [⟨(some 2), .mov (.k (.c (.bool false))), none⟩])
  .ret) .skip)))))
  (.region [⟨(some 65), .bin .add .int (.t 18) (.k (.c (.int .i64 1))), none⟩, ⟨(some 18), .mov (.t 65), none⟩]))))
def k19 : KF := ⟨66, (.seq (.region [⟨(some 1), .box 29 (.t 0), none⟩, ⟨(some 2), .mov (.k (.c (.bool false))), none⟩])
  (.seq (.seq (.region [⟨(some 5), .fldA 1 (.t 1), none⟩, ⟨(some 6), .load1 (.t 5), none⟩, ⟨(some 7), .len false (.t 6), none⟩, ⟨(some 8), .bin .gtr .int (.t 7) (.k (.c (.int .i64 60))), none⟩, ⟨(some 9), .mov (.t 8), none⟩, ⟨(some 10), .fldA 2 (.t 1), some (9, false)⟩, ⟨(some 11), .loadN 16 (.t 10), some (9, false)⟩, ⟨(some 12), .call (.k (.c (.fn 47 []))) [(.t 11)], some (9, false)⟩, ⟨(some 13), .un .not (.t 12), some (9, false)⟩, ⟨(some 14), .pick (.t 9) (.k (.c (.bool true))) (.t 13), none⟩])
  (.cond (.t 14) (.seq (.region [⟨(some 2), .mov (.k (.c (.bool false))), none⟩])
  .ret) .skip))
  (.seq (.seq (.region [⟨(some 15), .fldA 1 (.t 1), none⟩, ⟨(some 16), .load1 (.t 15), none⟩, ⟨(some 17), .len false (.t 16), none⟩, ⟨(some 18), .mov (.k (.c (.int .i64 0))), none⟩])
  (.block 0 (.loop l19_0)))
  (.seq (.region [⟨(some 2), .mov (.k (.c (.bool true))), none⟩])
  .ret)))), [.tmp 2], true⟩
theorem c19 : kk 19 = some k19 := by kernel_rfl
/-- loop.example/g01263/impl.IsInWood -/
def l20_0 : KC := (.seq (.region [⟨(some 7), .bin .lss .int (.t 6) (.k (.c (.int .i64 4))), none⟩])
  (.seq (.cond (.t 7) .skip (.exit 0))
  (.seq (.block 1 (.seq (.region [⟨(some 8), .mov (.t 6), none⟩, ⟨(some 5), .mov (.t 8), none⟩])
  (.seq (.drawn [(⟨(some 9), .mov (.t 5), none⟩, []), (⟨(some 10), .idxA 4 1 (.t 2) (.t 9), none⟩, []), (⟨(some 11), .load1 (.t 10), none⟩, []), (⟨(some 12), .mov (.t 5), none⟩, []), (⟨(some 13), .idxA 4 1 (.t 3) (.t 12), none⟩, []), (⟨(some 14), .load1 (.t 13), none⟩, []), (⟨(some 15), .bin .andNot .int (.t 11) (.t 14), none⟩, []), (⟨(some 16), .bin .neq .int (.t 15) (.k (.c (.int .u64 0))), none⟩, [])])
  (.cond (.t 16) (.seq (.region [⟨(some 4), .mov (.k (.c (.bool false))), none⟩])
  .ret) .skip))))
  (.region [⟨(some 17), .bin .add .int (.t 6) (.k (.c (.int .i64 1))), none⟩, ⟨(some 6), .mov (.t 17), none⟩]))))
def k20 : KF := ⟨18, (.seq (.region [⟨(some 2), .box 46 (.t 0), none⟩, ⟨(some 3), .box 46 (.t 1), none⟩, ⟨(some 4), .mov (.k (.c (.bool false))), none⟩])
  (.seq (.seq (.region [⟨(some 6), .mov (.k (.c (.int .i64 0))), none⟩])
  (.block 0 (.loop l20_0)))
  (.seq (.region [⟨(some 4), .mov (.k (.c (.bool true))), none⟩])
  .ret))), [.tmp 4], true⟩
theorem c20 : kk 20 = some k20 := by kernel_rfl
/-- loop.example/g01263/impl.CountWood -/
def l21_0 : KC := (.seq (.region [⟨(some 8), .bin .lss .int (.t 7) (.k (.c (.int .i64 4))), none⟩])
  (.seq (.cond (.t 8) .skip (.exit 0))
  (.seq (.block 1 (.seq (.region [⟨(some 9), .idx1 4 (.t 6) (.t 7), none⟩, ⟨(some 5), .mov (.t 9), none⟩])
  (.region [⟨(some 10), .mov (.t 3), none⟩, ⟨(some 11), .mov (.t 5), none⟩, ⟨(some 12), .call (.k (.c (.fn 50 []))) [(.t 11)], none⟩, ⟨(some 13), .bin .add .int (.t 10) (.t 12), none⟩, ⟨(some 3), .mov (.t 13), none⟩])))
  (.region [⟨(some 14), .bin .add .int (.t 7) (.k (.c (.int .i64 1))), none⟩, ⟨(some 7), .mov (.t 14), none⟩]))))
def k21 : KF := ⟨16, (.seq (.region [⟨(some 1), .box 46 (.t 0), none⟩, ⟨(some 2), .mov (.k (.c (.int .i64 0))), none⟩])
  (.seq (.region [⟨(some 3), .mov (.k (.c (.int .i64 0))), none⟩])
  (.seq (.seq (.region [⟨(some 6), .loadN 4 (.t 1), none⟩, ⟨(some 7), .mov (.k (.c (.int .i64 0))), none⟩])
  (.block 0 (.loop l21_0)))
  (.seq (.region [⟨(some 15), .mov (.t 3), none⟩, ⟨(some 2), .mov (.t 15), none⟩])
  .ret)))), [.tmp 2], true⟩
theorem c21 : kk 21 = some k21 := by kernel_rfl
/-- loop.example/g01263/spec.AmountOf -/
def k22 : KF := ⟨9, (.seq (.region [⟨(some 1), .box 29 (.t 0), none⟩, ⟨(some 2), .mov (.k (.c (.int .i64 0))), none⟩, ⟨(some 3), .mov (.k (.c (.int .i64 0))), none⟩])
  (.seq (.seq (.region [⟨(some 4), .call (.k (.c (.fn 34 []))) [(.t 1)], none⟩, ⟨(some 5), .un .not (.t 4), none⟩])
  (.cond (.t 5) (.seq (.region [⟨(some 2), .mov (.k (.c (.int .i64 0))), none⟩, ⟨(some 3), .mov (.k (.c (.int .i64 1))), none⟩])
  .ret) .skip))
  (.seq (.region [⟨(some 6), .fldA 1 (.t 1), none⟩, ⟨(some 7), .load1 (.t 6), none⟩, ⟨(some 8), .call (.k (.c (.fn 51 []))) [(.t 7)], none⟩, ⟨(some 2), .mov (.t 8), none⟩, ⟨(some 3), .mov (.k (.c (.int .i64 0))), none⟩])
  .ret))), [.tmp 2, .tmp 3], true⟩
theorem c22 : kk 22 = some k22 := by kernel_rfl
/-- loop.example/g01263/impl.CouldBecome -/
def k23 : KF := ⟨26, (.seq (.region [⟨(some 2), .box 29 (.t 0), none⟩, ⟨(some 3), .box 29 (.t 1), none⟩, ⟨(some 4), .mov (.k (.c (.bool false))), none⟩, ⟨(some 5), .mov (.k (.c (.int .i64 0))), none⟩])
  (.seq (.seq (.region [⟨(some 6), .loadN 18 (.t 2), none⟩, ⟨(some 7), .call (.k (.c (.fn 19 []))) [(.t 6)], none⟩, ⟨(some 8), .un .not (.t 7), none⟩, ⟨(some 9), .mov (.t 8), none⟩, ⟨(some 10), .loadN 18 (.t 3), some (9, false)⟩, ⟨(some 11), .call (.k (.c (.fn 19 []))) [(.t 10)], some (9, false)⟩, ⟨(some 12), .un .not (.t 11), some (9, false)⟩, ⟨(some 13), .pick (.t 9) (.k (.c (.bool true))) (.t 12), none⟩])
  (.cond (.t 13) (.seq (.region [⟨(some 4), .mov (.k (.c (.bool false))), none⟩, ⟨(some 5), .mov (.k (.c (.int .i64 1))), none⟩])
  .ret) .skip))
  (.seq (.drawn [(⟨(some 14), .fldA 0 (.t 2), none⟩, []), (⟨(some 15), .load1 (.t 14), none⟩, []), (⟨(some 16), .fldA 0 (.t 3), none⟩, []), (⟨(some 17), .load1 (.t 16), none⟩, []), (⟨(some 18), .bin .eql .bool (.t 15) (.t 17), none⟩, []), (⟨(some 19), .mov (.t 18), none⟩, []), (⟨(some 20), .loadN 18 (.t 2), some (19, true)⟩, []), (⟨(some 22), .loadN 18 (.t 3), some (19, true)⟩, []), (⟨(some 21), .call (.k (.c (.fn 40 []))) [(.t 20)], some (19, true)⟩, [⟨(some 22), .loadN 18 (.t 3), some (19, true)⟩]), (⟨(some 23), .call (.k (.c (.fn 40 []))) [(.t 22)], some (19, true)⟩, []), (⟨(some 24), .call (.k (.c (.fn 20 []))) [(.t 21), (.t 23)], some (19, true)⟩, []), (⟨(some 25), .pick (.t 19) (.t 24) (.k (.c (.bool false))), none⟩, []), (⟨(some 4), .mov (.t 25), none⟩, []), (⟨(some 5), .mov (.k (.c (.int .i64 0))), none⟩, [])])
  .ret))), [.tmp 4, .tmp 5], true⟩
theorem c23 : kk 23 = some k23 := by kernel_rfl
/-- loop.example/g01263/impl.TamperAll -/
def l24_0 : KC := (.seq (.region [⟨(some 28), .bin .lss .int (.t 27) (.t 26), none⟩])
  (.seq (.cond (.t 28) .skip (.exit 1))
  (.seq (.block 2 (.seq (.region [⟨(some 29), .idxS 4 (.t 25) (.t 27), none⟩, ⟨(some 30), .loadN 4 (.t 29), none⟩, ⟨(some 8), .alloc 37 [(.int .i8 0), (.int .i8 0), (.int .i16 0), (.int .i16 0)], none⟩, ⟨none, .store 4 (.t 8) (.t 30), none⟩])
  (.seq (.region [⟨(some 32), .loadN 18 (.t 2), none⟩, ⟨(some 33), .loadN 4 (.t 8), none⟩, ⟨(some 34), .call (.k (.c (.fn 37 []))) [(.t 32), (.t 33)], none⟩, ⟨(some 31), .mov (.t 34), none⟩, ⟨(some 35), .ext (.t 31) 0, none⟩, ⟨(some 36), .ext (.t 31) 1, none⟩, ⟨(some 9), .alloc 29 [(.bool false), (.slice none 0 (.exact 0)), (.int .i8 0), (.int .i8 0), (.int .i8 0), (.int .i8 0), (.int .i8 0), (.int .i8 0), (.int .i8 0), (.int .i8 0), (.int .i8 0), (.int .i8 0), (.int .i8 0), (.int .i8 0), (.int .i8 0), (.int .i8 0), (.int .i8 0), (.int .i8 0)], none⟩, ⟨none, .store 18 (.t 9) (.t 35), none⟩, ⟨(some 10), .mov (.t 36), none⟩])
  (.seq (.seq (.region [⟨(some 37), .mov (.t 10), none⟩, ⟨(some 38), .bin .neq .int (.t 37) (.k (.c (.int .i64 0))), none⟩])
  (.cond (.t 38) (.seq (.region [⟨(some 39), .build [(.bool false), (.slice none 0 (.exact 0)), (.int .i8 0), (.int .i8 0), (.int .i8 0), (.int .i8 0), (.int .i8 0), (.int .i8 0), (.int .i8 0), (.int .i8 0), (.int .i8 0), (.int .i8 0), (.int .i8 0), (.int .i8 0), (.int .i8 0), (.int .i8 0), (.int .i8 0), (.int .i8 0)] [], none⟩, ⟨(some 40), .mov (.t 10), none⟩, ⟨none, .store 18 (.t 4) (.t 39), none⟩, ⟨(some 5), .mov (.k (.c (.int .i64 0))), none⟩, ⟨(some 6), .mov (.t 40), none⟩])
  .ret) .skip))
  (.region [⟨(some 41), .loadN 18 (.t 9), none⟩, ⟨none, .store 18 (.t 2) (.t 41), none⟩])))))
  (.region [⟨(some 42), .bin .add .int (.t 27) (.k (.c (.int .i64 1))), none⟩, ⟨(some 27), .mov (.t 42), none⟩]))))
def k24 : KF := ⟨46, (.seq (.region [⟨(some 2), .box 29 (.t 0), none⟩, ⟨(some 4), .alloc 29 [(.bool false), (.slice none 0 (.exact 0)), (.int .i8 0), (.int .i8 0), (.int .i8 0), (.int .i8 0), (.int .i8 0), (.int .i8 0), (.int .i8 0), (.int .i8 0), (.int .i8 0), (.int .i8 0), (.int .i8 0), (.int .i8 0), (.int .i8 0), (.int .i8 0), (.int .i8 0), (.int .i8 0)], none⟩, ⟨(some 5), .mov (.k (.c (.int .i64 0))), none⟩, ⟨(some 6), .mov (.k (.c (.int .i64 0))), none⟩])
  (.seq (.block 0 (.seq (.region [⟨(some 12), .loadN 18 (.t 2), none⟩, ⟨(some 13), .call (.k (.c (.fn 19 []))) [(.t 12)], none⟩, ⟨(some 14), .un .not (.t 13), none⟩, ⟨(some 11), .mov (.t 14), none⟩])
  (.cond (.t 11) (.seq (.region [⟨(some 15), .build [(.bool false), (.slice none 0 (.exact 0)), (.int .i8 0), (.int .i8 0), (.int .i8 0), (.int .i8 0), (.int .i8 0), (.int .i8 0), (.int .i8 0), (.int .i8 0), (.int .i8 0), (.int .i8 0), (.int .i8 0), (.int .i8 0), (.int .i8 0), (.int .i8 0), (.int .i8 0), (.int .i8 0)] [], none⟩, ⟨none, .store 18 (.t 4) (.t 15), none⟩, ⟨(some 5), .mov (.k (.c (.int .i64 0))), none⟩, ⟨(some 6), .mov (.k (.c (.int .i64 1))), none⟩])
  .ret) (.seq (.region [⟨(some 17), .mov (.t 1), none⟩, ⟨(some 18), .len false (.t 17), none⟩, ⟨(some 19), .bin .gtr .int (.t 18) (.k (.c (.int .i64 40))), none⟩, ⟨(some 16), .mov (.t 19), none⟩])
  (.cond (.t 16) (.seq (.region [⟨(some 20), .build [(.bool false), (.slice none 0 (.exact 0)), (.int .i8 0), (.int .i8 0), (.int .i8 0), (.int .i8 0), (.int .i8 0), (.int .i8 0), (.int .i8 0), (.int .i8 0), (.int .i8 0), (.int .i8 0), (.int .i8 0), (.int .i8 0), (.int .i8 0), (.int .i8 0), (.int .i8 0), (.int .i8 0)] [], none⟩, ⟨none, .store 18 (.t 4) (.t 20), none⟩, ⟨(some 5), .mov (.k (.c (.int .i64 0))), none⟩, ⟨(some 6), .mov (.k (.c (.int .i64 2))), none⟩])
  .ret) .skip)))))
  (.seq (.region [⟨(some 21), .fldA 1 (.t 2), none⟩, ⟨(some 22), .load1 (.t 21), none⟩, ⟨(some 23), .call (.k (.c (.fn 52 []))) [(.t 22)], none⟩, ⟨(some 24), .fldA 1 (.t 2), none⟩, ⟨none, .store 1 (.t 24) (.t 23), none⟩])
  (.seq (.seq (.region [⟨(some 25), .mov (.t 1), none⟩, ⟨(some 26), .len false (.t 25), none⟩, ⟨(some 27), .mov (.k (.c (.int .i64 0))), none⟩])
  (.block 1 (.loop l24_0)))
  (.seq (.region [⟨(some 43), .loadN 18 (.t 2), none⟩, ⟨(some 44), .mov (.t 1), none⟩, ⟨(some 45), .len false (.t 44), none⟩, ⟨none, .store 18 (.t 4) (.t 43), none⟩, ⟨(some 5), .mov (.t 45), none⟩, ⟨(some 6), .mov (.k (.c (.int .i64 0))), none⟩])
  .ret))))), [.cellN 4 18, .tmp 5, .tmp 6], false⟩
theorem c24 : kk 24 = some k24 := by kernel_rfl
/-- loop.example/g01263/impl.ChanceTamper -/
def k25 : KF := ⟨44, (.seq (.region [⟨(some 2), .box 29 (.t 0), none⟩, ⟨(some 4), .alloc 29 [(.bool false), (.slice none 0 (.exact 0)), (.int .i8 0), (.int .i8 0), (.int .i8 0), (.int .i8 0), (.int .i8 0), (.int .i8 0), (.int .i8 0), (.int .i8 0), (.int .i8 0), (.int .i8 0), (.int .i8 0), (.int .i8 0), (.int .i8 0), (.int .i8 0), (.int .i8 0), (.int .i8 0)], none⟩, ⟨(some 5), .alloc 37 [(.int .i8 0), (.int .i8 0), (.int .i16 0), (.int .i16 0)], none⟩, ⟨(some 6), .mov (.k (.c (.int .u32 0))), none⟩, ⟨(some 7), .mov (.k (.c (.int .i64 0))), none⟩])
  (.seq (.seq (.region [⟨(some 12), .loadN 18 (.t 2), none⟩, ⟨(some 13), .call (.k (.c (.fn 19 []))) [(.t 12)], none⟩, ⟨(some 14), .un .not (.t 13), none⟩])
  (.cond (.t 14) (.seq (.region [⟨(some 15), .build [(.bool false), (.slice none 0 (.exact 0)), (.int .i8 0), (.int .i8 0), (.int .i8 0), (.int .i8 0), (.int .i8 0), (.int .i8 0), (.int .i8 0), (.int .i8 0), (.int .i8 0), (.int .i8 0), (.int .i8 0), (.int .i8 0), (.int .i8 0), (.int .i8 0), (.int .i8 0), (.int .i8 0)] [], none⟩, ⟨(some 16), .build [(.int .i8 0), (.int .i8 0), (.int .i16 0), (.int .i16 0)] [], none⟩, ⟨none, .store 18 (.t 4) (.t 15), none⟩, ⟨none, .store 4 (.t 5) (.t 16), none⟩, ⟨(some 6), .mov (.k (.c (.int .u32 0))), none⟩, ⟨(some 7), .mov (.k (.c (.int .i64 1))), none⟩])
  .ret) .skip))
  (.seq (.region [⟨(some 17), .loadN 18 (.t 2), none⟩, ⟨(some 18), .call (.k (.c (.fn 33 []))) [(.t 17)], none⟩, ⟨(some 8), .mov (.t 18), none⟩])
  (.seq (.seq (.region [⟨(some 19), .mov (.t 8), none⟩, ⟨(some 20), .len false (.t 19), none⟩, ⟨(some 21), .bin .eql .int (.t 20) (.k (.c (.int .i64 0))), none⟩])
  (.cond (.t 21) (.seq (.region [⟨(some 22), .build [(.bool false), (.slice none 0 (.exact 0)), (.int .i8 0), (.int .i8 0), (.int .i8 0), (.int .i8 0), (.int .i8 0), (.int .i8 0), (.int .i8 0), (.int .i8 0), (.int .i8 0), (.int .i8 0), (.int .i8 0), (.int .i8 0), (.int .i8 0), (.int .i8 0), (.int .i8 0), (.int .i8 0)] [], none⟩, ⟨(some 23), .build [(.int .i8 0), (.int .i8 0), (.int .i16 0), (.int .i16 0)] [], none⟩, ⟨none, .store 18 (.t 4) (.t 22), none⟩, ⟨none, .store 4 (.t 5) (.t 23), none⟩, ⟨(some 6), .mov (.k (.c (.int .u32 0))), none⟩, ⟨(some 7), .mov (.k (.c (.int .i64 6))), none⟩])
  .ret) .skip))
  (.seq (.region [⟨(some 24), .mov (.t 1), none⟩, ⟨(some 25), .call (.k (.c (.fn 53 []))) [(.t 24)], none⟩, ⟨(some 1), .mov (.t 25), none⟩])
  (.seq (.region [⟨(some 26), .mov (.t 8), none⟩, ⟨(some 27), .mov (.t 1), none⟩, ⟨(some 28), .bin .shr .int (.t 27) (.k (.c (.int .u64 16))), none⟩, ⟨(some 29), .conv .i64 (.t 28), none⟩, ⟨(some 30), .mov (.t 8), none⟩, ⟨(some 31), .len false (.t 30), none⟩, ⟨(some 32), .bin .rem .int (.t 29) (.t 31), none⟩, ⟨(some 33), .idxS 4 (.t 26) (.t 32), none⟩, ⟨(some 34), .loadN 4 (.t 33), none⟩, ⟨(some 9), .alloc 37 [(.int .i8 0), (.int .i8 0), (.int .i16 0), (.int .i16 0)], none⟩, ⟨none, .store 4 (.t 9) (.t 34), none⟩])
  (.seq (.region [⟨(some 36), .loadN 18 (.t 2), none⟩, ⟨(some 37), .loadN 4 (.t 9), none⟩, ⟨(some 38), .call (.k (.c (.fn 37 []))) [(.t 36), (.t 37)], none⟩, ⟨(some 35), .mov (.t 38), none⟩, ⟨(some 39), .ext (.t 35) 0, none⟩, ⟨(some 40), .ext (.t 35) 1, none⟩, ⟨(some 10), .alloc 29 [(.bool false), (.slice none 0 (.exact 0)), (.int .i8 0), (.int .i8 0), (.int .i8 0), (.int .i8 0), (.int .i8 0), (.int .i8 0), (.int .i8 0), (.int .i8 0), (.int .i8 0), (.int .i8 0), (.int .i8 0), (.int .i8 0), (.int .i8 0), (.int .i8 0), (.int .i8 0), (.int .i8 0)], none⟩, ⟨none, .store 18 (.t 10) (.t 39), none⟩, ⟨(some 11), .mov (.t 40), none⟩])
  (.seq (.drawn [(⟨(some 41), .loadN 18 (.t 10), none⟩, []), (⟨(some 42), .loadN 4 (.t 9), none⟩, []), (⟨(some 43), .mov (.t 1), none⟩, []), (⟨none, .store 18 (.t 4) (.t 41), none⟩, [⟨(some 42), .loadN 4 (.t 9), none⟩]), (⟨none, .store 4 (.t 5) (.t 42), none⟩, []), (⟨(some 6), .mov (.t 43), none⟩, []), (⟨(some 7), .mov (.k (.c (.int .i64 0))), none⟩, [])])
  .ret)))))))), [.cellN 4 18, .cellN 5 4, .tmp 6, .tmp 7], false⟩
theorem c25 : kk 25 = some k25 := by kernel_rfl
/-- loop.example/g01263/spec.ChanceTamper -/
def k26 : KF := ⟨41, (.seq (.region [⟨(some 2), .box 29 (.t 0), none⟩, ⟨(some 4), .alloc 29 [(.bool false), (.slice none 0 (.exact 0)), (.int .i8 0), (.int .i8 0), (.int .i8 0), (.int .i8 0), (.int .i8 0), (.int .i8 0), (.int .i8 0), (.int .i8 0), (.int .i8 0), (.int .i8 0), (.int .i8 0), (.int .i8 0), (.int .i8 0), (.int .i8 0), (.int .i8 0), (.int .i8 0)], none⟩, ⟨(some 5), .alloc 37 [(.int .i8 0), (.int .i8 0), (.int .i16 0), (.int .i16 0)], none⟩, ⟨(some 6), .mov (.k (.c (.int .u32 0))), none⟩, ⟨(some 7), .mov (.k (.c (.int .i64 0))), none⟩])
  (.seq (.seq (.region [⟨(some 12), .call (.k (.c (.fn 34 []))) [(.t 2)], none⟩, ⟨(some 13), .un .not (.t 12), none⟩])
  (.cond (.t 13) (.seq (.region [⟨(some 14), .build [(.bool false), (.slice none 0 (.exact 0)), (.int .i8 0), (.int .i8 0), (.int .i8 0), (.int .i8 0), (.int .i8 0), (.int .i8 0), (.int .i8 0), (.int .i8 0), (.int .i8 0), (.int .i8 0), (.int .i8 0), (.int .i8 0), (.int .i8 0), (.int .i8 0), (.int .i8 0), (.int .i8 0)] [], none⟩, ⟨(some 15), .build [(.int .i8 0), (.int .i8 0), (.int .i16 0), (.int .i16 0)] [], none⟩, ⟨none, .store 18 (.t 4) (.t 14), none⟩, ⟨none, .store 4 (.t 5) (.t 15), none⟩, ⟨(some 6), .mov (.k (.c (.int .u32 0))), none⟩, ⟨(some 7), .mov (.k (.c (.int .i64 1))), none⟩])
  .ret) .skip))
  (.seq (.region [⟨(some 16), .call (.k (.c (.fn 35 []))) [(.t 2)], none⟩, ⟨(some 8), .mov (.t 16), none⟩])
  (.seq (.seq (.region [⟨(some 17), .mov (.t 8), none⟩, ⟨(some 18), .len false (.t 17), none⟩, ⟨(some 19), .bin .eql .int (.t 18) (.k (.c (.int .i64 0))), none⟩])
  (.cond (.t 19) (.seq (.region [⟨(some 20), .build [(.bool false), (.slice none 0 (.exact 0)), (.int .i8 0), (.int .i8 0), (.int .i8 0), (.int .i8 0), (.int .i8 0), (.int .i8 0), (.int .i8 0), (.int .i8 0), (.int .i8 0), (.int .i8 0), (.int .i8 0), (.int .i8 0), (.int .i8 0), (.int .i8 0), (.int .i8 0), (.int .i8 0)] [], none⟩, ⟨(some 21), .build [(.int .i8 0), (.int .i8 0), (.int .i16 0), (.int .i16 0)] [], none⟩, ⟨none, .store 18 (.t 4) (.t 20), none⟩, ⟨none, .store 4 (.t 5) (.t 21), none⟩, ⟨(some 6), .mov (.k (.c (.int .u32 0))), none⟩, ⟨(some 7), .mov (.k (.c (.int .i64 6))), none⟩])
  .ret) .skip))
  (.seq (.region [⟨(some 22), .mov (.t 1), none⟩, ⟨(some 23), .call (.k (.c (.fn 54 []))) [(.t 22)], none⟩, ⟨(some 1), .mov (.t 23), none⟩])
  (.seq (.region [⟨(some 24), .mov (.t 8), none⟩, ⟨(some 25), .mov (.t 1), none⟩, ⟨(some 26), .bin .shr .int (.t 25) (.k (.c (.int .u64 16))), none⟩, ⟨(some 27), .conv .i64 (.t 26), none⟩, ⟨(some 28), .mov (.t 8), none⟩, ⟨(some 29), .len false (.t 28), none⟩, ⟨(some 30), .bin .rem .int (.t 27) (.t 29), none⟩, ⟨(some 31), .idxS 4 (.t 24) (.t 30), none⟩, ⟨(some 32), .loadN 4 (.t 31), none⟩, ⟨(some 9), .alloc 37 [(.int .i8 0), (.int .i8 0), (.int .i16 0), (.int .i16 0)], none⟩, ⟨none, .store 4 (.t 9) (.t 32), none⟩])
  (.seq (.region [⟨(some 34), .loadN 4 (.t 9), none⟩, ⟨(some 35), .call (.k (.c (.fn 38 []))) [(.t 2), (.t 34)], none⟩, ⟨(some 33), .mov (.t 35), none⟩, ⟨(some 36), .ext (.t 33) 0, none⟩, ⟨(some 37), .ext (.t 33) 1, none⟩, ⟨(some 10), .alloc 29 [(.bool false), (.slice none 0 (.exact 0)), (.int .i8 0), (.int .i8 0), (.int .i8 0), (.int .i8 0), (.int .i8 0), (.int .i8 0), (.int .i8 0), (.int .i8 0), (.int .i8 0), (.int .i8 0), (.int .i8 0), (.int .i8 0), (.int .i8 0), (.int .i8 0), (.int .i8 0), (.int .i8 0)], none⟩, ⟨none, .store 18 (.t 10) (.t 36), none⟩, ⟨(some 11), .mov (.t 37), none⟩])
  (.seq (.drawn [(⟨(some 38), .loadN 18 (.t 10), none⟩, []), (⟨(some 39), .loadN 4 (.t 9), none⟩, []), (⟨(some 40), .mov (.t 1), none⟩, []), (⟨none, .store 18 (.t 4) (.t 38), none⟩, [⟨(some 39), .loadN 4 (.t 9), none⟩]), (⟨none, .store 4 (.t 5) (.t 39), none⟩, []), (⟨(some 6), .mov (.t 40), none⟩, []), (⟨(some 7), .mov (.k (.c (.int .i64 0))), none⟩, [])])
  .ret)))))))), [.cellN 4 18, .cellN 5 4, .tmp 6, .tmp 7], false⟩
theorem c26 : kk 26 = some k26 := by kernel_rfl
/-- loop.example/g01263/spec.l04Small -/
def l31_0 : KC := (.seq (.seq (.region [⟨(some 27), .mov (.t 7), none⟩, ⟨(some 28), .bin .gtr .int (.t 27) (.k (.c (.int .i64 0))), none⟩])
  (.cond (.t 28) .skip (.exit 0)))
  (.seq (.block 1 (.seq (.region [⟨(some 31), .fldA 1 (.t 3), none⟩, ⟨(some 32), .load1 (.t 31), none⟩, ⟨(some 33), .mov (.t 6), none⟩, ⟨(some 34), .mov (.t 5), none⟩, ⟨(some 35), .conv .i16 (.t 34), none⟩, ⟨(some 36), .build [(.int .i8 0), (.int .i16 0)] [(0, 1, (.t 33)), (1, 1, (.t 35))], none⟩, ⟨(some 37), .buildSl 91 1 [(.int .i8 0), (.int .i16 0)] [(0, 2, (.t 36))], none⟩, ⟨(some 38), .app 91 2 4 (.t 32) (.t 37), none⟩, ⟨(some 39), .fldA 1 (.t 3), none⟩, ⟨none, .store 1 (.t 39) (.t 38), none⟩])
  (.seq (.drawn [(⟨(some 40), .mov (.t 5), none⟩, []), (⟨(some 42), .mov (.t 6), none⟩, []), (⟨(some 46), .mov (.t 0), none⟩, []), (⟨(some 41), .call (.k (.c (.fn 62 []))) [], none⟩, []), (⟨(some 43), .idxS 1 (.t 41) (.t 42), none⟩, []), (⟨(some 44), .load1 (.t 43), none⟩, []), (⟨(some 45), .bin .add .int (.t 44) (.k (.c (.int .i64 1))), none⟩, []), (⟨(some 47), .call (.k (.c (.fn 36 []))) [(.t 46), (.k (.c (.int .i64 6)))], none⟩, [⟨(some 44), .load1 (.t 43), none⟩]), (⟨(some 48), .bin .add .int (.t 45) (.t 47), none⟩, []), (⟨(some 49), .bin .add .int (.t 40) (.t 48), none⟩, []), (⟨(some 5), .mov (.t 49), none⟩, [])])
  (.seq (.region [⟨(some 50), .mov (.t 6), none⟩, ⟨(some 51), .bin .gtr .int (.t 50) (.k (.c (.int .i8 0))), none⟩, ⟨(some 52), .mov (.t 51), none⟩, ⟨(some 53), .mov (.t 0), some (52, true)⟩, ⟨(some 54), .call (.k (.c (.fn 60 []))) [(.t 53), (.k (.c (.int .i64 2)))], some (52, true)⟩, ⟨(some 55), .pick (.t 52) (.t 54) (.k (.c (.bool false))), none⟩])
  (.cond (.t 55) (.region [⟨(some 56), .mov (.t 6), none⟩, ⟨(some 57), .bin .sub .int (.t 56) (.k (.c (.int .i8 1))), none⟩, ⟨(some 6), .mov (.t 57), none⟩]) .skip)))))
  (.region [⟨(some 29), .mov (.t 7), none⟩, ⟨(some 30), .bin .sub .int (.t 29) (.k (.c (.int .i64 1))), none⟩, ⟨(some 7), .mov (.t 30), none⟩])))
def k31 : KF := ⟨59, (.seq (.region [⟨(some 2), .alloc 29 [(.bool false), (.slice none 0 (.exact 0)), (.int .i8 0), (.int .i8 0), (.int .i8 0), (.int .i8 0), (.int .i8 0), (.int .i8 0), (.int .i8 0), (.int .i8 0), (.int .i8 0), (.int .i8 0), (.int .i8 0), (.int .i8 0), (.int .i8 0), (.int .i8 0), (.int .i8 0), (.int .i8 0)], none⟩])
  (.seq (.region [⟨(some 8), .mov (.t 0), none⟩, ⟨(some 9), .call (.k (.c (.fn 60 []))) [(.t 8), (.k (.c (.int .i64 2)))], none⟩, ⟨(some 10), .build [(.bool false), (.slice none 0 (.exact 0)), (.int .i8 0), (.int .i8 0), (.int .i8 0), (.int .i8 0), (.int .i8 0), (.int .i8 0), (.int .i8 0), (.int .i8 0), (.int .i8 0), (.int .i8 0), (.int .i8 0), (.int .i8 0), (.int .i8 0), (.int .i8 0), (.int .i8 0), (.int .i8 0)] [(0, 1, (.t 9))], none⟩, ⟨(some 3), .alloc 29 [(.bool false), (.slice none 0 (.exact 0)), (.int .i8 0), (.int .i8 0), (.int .i8 0), (.int .i8 0), (.int .i8 0), (.int .i8 0), (.int .i8 0), (.int .i8 0), (.int .i8 0), (.int .i8 0), (.int .i8 0), (.int .i8 0), (.int .i8 0), (.int .i8 0), (.int .i8 0), (.int .i8 0)], none⟩, ⟨none, .store 18 (.t 3) (.t 10), none⟩])
  (.seq (.region [⟨(some 11), .mov (.t 0), none⟩, ⟨(some 12), .call (.k (.c (.fn 36 []))) [(.t 11), (.k (.c (.int .i64 1073741824)))], none⟩, ⟨(some 13), .conv .u32 (.t 12), none⟩, ⟨(some 4), .mov (.t 13), none⟩])
  (.seq (.region [⟨(some 15), .mov (.t 4), none⟩, ⟨(some 16), .call (.k (.c (.fn 61 []))) [(.t 15)], none⟩, ⟨(some 14), .mov (.t 16), none⟩, ⟨(some 17), .ext (.t 14) 0, none⟩, ⟨(some 18), .ext (.t 14) 1, none⟩, ⟨(some 19), .fldA 2 (.t 3), none⟩, ⟨none, .store 16 (.t 19) (.t 17), none⟩, ⟨(some 4), .mov (.t 18), none⟩])
  (.seq (.region [⟨(some 20), .mov (.t 0), none⟩, ⟨(some 21), .call (.k (.c (.fn 36 []))) [(.t 20), (.k (.c (.int .i64 3)))], none⟩, ⟨(some 5), .mov (.t 21), none⟩])
  (.seq (.region [⟨(some 22), .mov (.t 0), none⟩, ⟨(some 23), .call (.k (.c (.fn 36 []))) [(.t 22), (.k (.c (.int .i64 5)))], none⟩, ⟨(some 24), .conv .i8 (.t 23), none⟩, ⟨(some 6), .mov (.t 24), none⟩])
  (.seq (.seq (.region [⟨(some 25), .mov (.t 0), none⟩, ⟨(some 26), .call (.k (.c (.fn 36 []))) [(.t 25), (.k (.c (.int .i64 6)))], none⟩, ⟨(some 7), .mov (.t 26), none⟩])
  (.block 0 (.loop l31_0)))
  (.seq (.region [⟨(some 58), .loadN 18 (.t 3), none⟩, ⟨none, .store 18 (.t 2) (.t 58), none⟩])
  .ret)))))))), [.cellN 2 18], false⟩
theorem c31 : kk 31 = some k31 := by kernel_rfl
/-- loop.example/g01263/spec.l00From -/
def k32 : KF := ⟨6, (.seq (.region [⟨(some 2), .mov (.k (.c (.ptr none))), none⟩])
  (.seq (.region [⟨(some 3), .mov (.t 0), none⟩, ⟨(some 4), .build [(.slice none 0 (.exact 0)), (.int .i64 0), (.int .u64 0)] [(0, 1, (.t 3))], none⟩, ⟨(some 5), .box 109 (.t 4), none⟩, ⟨(some 2), .mov (.t 5), none⟩])
  .ret)), [.tmp 2], false⟩
theorem c32 : kk 32 = some k32 := by kernel_rfl
/-- loop.example/g01263/impl.tampers -/
def l33_0 : KC := (.seq (.seq (.region [⟨(some 18), .mov (.t 5), none⟩, ⟨(some 19), .bin .leq .int (.t 18) (.k (.c (.int .i8 5))), none⟩])
  (.cond (.t 19) .skip (.exit 2)))
  (.seq (.block 3 (.seq (.region [⟨(some 22), .mov (.t 5), none⟩, ⟨(some 23), .mov (.t 4), none⟩, ⟨(some 24), .conv .i16 (.t 23), none⟩, ⟨(some 25), .build [(.int .i8 0), (.int .i8 0), (.int .i16 0), (.int .i16 0)] [(0, 1, (.k (.c (.int .i8 2)))), (1, 1, (.t 22)), (2, 1, (.t 24))], none⟩, ⟨(some 6), .alloc 37 [(.int .i8 0), (.int .i8 0), (.int .i16 0), (.int .i16 0)], none⟩, ⟨none, .store 4 (.t 6) (.t 25), none⟩])
  (.seq (.region [⟨(some 27), .loadN 18 (.t 1), none⟩, ⟨(some 28), .loadN 4 (.t 6), none⟩, ⟨(some 29), .call (.k (.c (.fn 37 []))) [(.t 27), (.t 28)], none⟩, ⟨(some 26), .mov (.t 29), none⟩, ⟨(some 30), .ext (.t 26) 0, none⟩, ⟨(some 31), .ext (.t 26) 1, none⟩, ⟨(some 7), .alloc 29 [(.bool false), (.slice none 0 (.exact 0)), (.int .i8 0), (.int .i8 0), (.int .i8 0), (.int .i8 0), (.int .i8 0), (.int .i8 0), (.int .i8 0), (.int .i8 0), (.int .i8 0), (.int .i8 0), (.int .i8 0), (.int .i8 0), (.int .i8 0), (.int .i8 0), (.int .i8 0), (.int .i8 0)], none⟩, ⟨none, .store 18 (.t 7) (.t 30), none⟩, ⟨(some 8), .mov (.t 31), none⟩])
  (.seq (.region [⟨(some 32), .mov (.t 8), none⟩, ⟨(some 33), .bin .eql .int (.t 32) (.k (.c (.int .i64 0))), none⟩])
  (.cond (.t 33) (.region [⟨(some 34), .mov (.t 3), none⟩, ⟨(some 35), .loadN 4 (.t 6), none⟩, ⟨(some 36), .buildSl 37 1 [(.int .i8 0), (.int .i8 0), (.int .i16 0), (.int .i16 0)] [(0, 4, (.t 35))], none⟩, ⟨(some 37), .app 37 4 6 (.t 34) (.t 36), none⟩, ⟨(some 3), .mov (.t 37), none⟩]) .skip)))))
  (.region [⟨(some 20), .mov (.t 5), none⟩, ⟨(some 21), .bin .add .int (.t 20) (.k (.c (.int .i8 1))), none⟩, ⟨(some 5), .mov (.t 21), none⟩])))
def l33_1 : KC := (.seq (.region [⟨(some 16), .bin .lss .int (.t 15) (.t 14), none⟩])
  (.seq (.cond (.t 16) .skip (.exit 0))
  (.seq (.block 1 (.seq (.region [⟨(some 17), .mov (.t 15), none⟩, ⟨(some 4), .mov (.t 17), none⟩])
  (.seq (.region [⟨(some 5), .mov (.k (.c (.int .i8 0))), none⟩])
  (.block 2 (.loop l33_0)))))
  (.region [⟨(some 38), .bin .add .int (.t 15) (.k (.c (.int .i64 1))), none⟩, ⟨(some 15), .mov (.t 38), none⟩]))))
def l33_2 : KC := (.seq (.seq (.region [⟨(some 39), .mov (.t 9), none⟩, ⟨(some 40), .bin .leq .int (.t 39) (.k (.c (.int .i8 5))), none⟩])
  (.cond (.t 40) .skip (.exit 4)))
  (.seq (.block 5 (.seq (.region [⟨(some 43), .loadN 18 (.t 1), none⟩, ⟨(some 44), .mov (.t 9), none⟩, ⟨(some 45), .conv .i64 (.t 44), none⟩, ⟨(some 46), .call (.k (.c (.fn 63 []))) [(.t 43), (.t 45)], none⟩, ⟨(some 10), .mov (.t 46), none⟩])
  (.seq (.region [⟨(some 47), .mov (.t 10), none⟩, ⟨(some 48), .len false (.t 47), none⟩, ⟨(some 49), .bin .gtr .int (.t 48) (.k (.c (.int .i64 0))), none⟩])
  (.cond (.t 49) (.region [⟨(some 50), .mov (.t 3), none⟩, ⟨(some 51), .mov (.t 9), none⟩, ⟨(some 52), .mov (.t 10), none⟩, ⟨(some 53), .idxS 1 (.t 52) (.k (.c (.int .i64 0))), none⟩, ⟨(some 54), .load1 (.t 53), none⟩, ⟨(some 55), .conv .i16 (.t 54), none⟩, ⟨(some 56), .build [(.int .i8 0), (.int .i8 0), (.int .i16 0), (.int .i16 0)] [(0, 1, (.k (.c (.int .i8 1)))), (1, 1, (.t 51)), (3, 1, (.t 55))], none⟩, ⟨(some 57), .buildSl 37 1 [(.int .i8 0), (.int .i8 0), (.int .i16 0), (.int .i16 0)] [(0, 4, (.t 56))], none⟩, ⟨(some 58), .app 37 4 6 (.t 50) (.t 57), none⟩, ⟨(some 3), .mov (.t 58), none⟩]) .skip))))
  (.region [⟨(some 41), .mov (.t 9), none⟩, ⟨(some 42), .bin .add .int (.t 41) (.k (.c (.int .i8 1))), none⟩, ⟨(some 9), .mov (.t 42), none⟩])))
def k33 : KF := ⟨60, (.seq (.region [⟨(some 1), .box 29 (.t 0), none⟩, ⟨(some 2), .mov (.k (.c (.slice none 0 (.exact 0)))), none⟩])
  (.seq (.region [⟨(some 11), .buildSl 37 0 [] [], none⟩, ⟨(some 3), .mov (.t 11), none⟩])
  (.seq (.seq (.region [⟨(some 12), .fldA 1 (.t 1), none⟩, ⟨(some 13), .load1 (.t 12), none⟩, ⟨(some 14), .len false (.t 13), none⟩, ⟨(some 15), .mov (.k (.c (.int .i64 0))), none⟩])
  (.block 0 (.loop l33_1)))
  (.seq (.seq (.region [⟨(some 9), .mov (.k (.c (.int .i8 0))), none⟩])
  (.block 4 (.loop l33_2)))
  (.seq (.region [⟨(some 59), .mov (.t 3), none⟩, ⟨(some 2), .mov (.t 59), none⟩])
  .ret))))), [.tmp 2], false⟩
theorem c33 : kk 33 = some k33 := by kernel_rfl
/-- loop.example/g01263/spec.l01Ok -/
def k34 : KF := ⟨15, (.seq (.region [⟨(some 2), .mov (.k (.c (.bool false))), none⟩])
  (.seq (.region [⟨(some 3), .mov (.t 0), none⟩, ⟨(some 4), .nilchk (.t 3), none⟩, ⟨(some 5), .fldA 1 (.t 4), none⟩, ⟨(some 6), .load1 (.t 5), none⟩, ⟨(some 7), .call (.k (.c (.fn 64 []))) [(.t 6)], none⟩, ⟨(some 8), .mov (.t 7), none⟩, ⟨(some 9), .mov (.t 0), some (8, true)⟩, ⟨(some 10), .nilchk (.t 9), some (8, true)⟩, ⟨(some 11), .fldA 2 (.t 10), some (8, true)⟩, ⟨(some 12), .loadN 16 (.t 11), some (8, true)⟩, ⟨(some 13), .call (.k (.c (.fn 65 []))) [(.t 12)], some (8, true)⟩, ⟨(some 14), .pick (.t 8) (.t 13) (.k (.c (.bool false))), none⟩, ⟨(some 2), .mov (.t 14), none⟩])
  .ret)), [.tmp 2], true⟩
theorem c34 : kk 34 = some k34 := by kernel_rfl
/-- loop.example/g01263/spec.l04Ways -/
def l35_0 : KC := (.seq (.seq (.region [⟨(some 24), .mov (.t 5), none⟩, ⟨(some 25), .bin .leq .int (.t 24) (.k (.c (.int .i8 5))), none⟩])
  (.cond (.t 25) .skip (.exit 2)))
  (.seq (.block 3 (.seq (.region [⟨(some 28), .mov (.t 5), none⟩, ⟨(some 29), .mov (.t 4), none⟩, ⟨(some 30), .conv .i16 (.t 29), none⟩, ⟨(some 31), .build [(.int .i8 0), (.int .i8 0), (.int .i16 0), (.int .i16 0)] [(0, 1, (.k (.c (.int .i8 2)))), (1, 1, (.t 28)), (2, 1, (.t 30))], none⟩, ⟨(some 6), .alloc 37 [(.int .i8 0), (.int .i8 0), (.int .i16 0), (.int .i16 0)], none⟩, ⟨none, .store 4 (.t 6) (.t 31), none⟩])
  (.seq (.region [⟨(some 33), .mov (.t 0), none⟩, ⟨(some 34), .loadN 4 (.t 6), none⟩, ⟨(some 35), .call (.k (.c (.fn 38 []))) [(.t 33), (.t 34)], none⟩, ⟨(some 32), .mov (.t 35), none⟩, ⟨(some 36), .ext (.t 32) 0, none⟩, ⟨(some 37), .ext (.t 32) 1, none⟩, ⟨(some 7), .alloc 29 [(.bool false), (.slice none 0 (.exact 0)), (.int .i8 0), (.int .i8 0), (.int .i8 0), (.int .i8 0), (.int .i8 0), (.int .i8 0), (.int .i8 0), (.int .i8 0), (.int .i8 0), (.int .i8 0), (.int .i8 0), (.int .i8 0), (.int .i8 0), (.int .i8 0), (.int .i8 0), (.int .i8 0)], none⟩, ⟨none, .store 18 (.t 7) (.t 36), none⟩, ⟨(some 8), .mov (.t 37), none⟩])
  (.seq (.region [⟨(some 38), .mov (.t 8), none⟩, ⟨(some 39), .bin .eql .int (.t 38) (.k (.c (.int .i64 0))), none⟩])
  (.cond (.t 39) (.region [⟨(some 40), .mov (.t 3), none⟩, ⟨(some 41), .loadN 4 (.t 6), none⟩, ⟨(some 42), .buildSl 37 1 [(.int .i8 0), (.int .i8 0), (.int .i16 0), (.int .i16 0)] [(0, 4, (.t 41))], none⟩, ⟨(some 43), .app 37 4 6 (.t 40) (.t 42), none⟩, ⟨(some 3), .mov (.t 43), none⟩]) .skip)))))
  (.region [⟨(some 26), .mov (.t 5), none⟩, ⟨(some 27), .bin .add .int (.t 26) (.k (.c (.int .i8 1))), none⟩, ⟨(some 5), .mov (.t 27), none⟩])))
def l35_1 : KC := (.seq (.seq (.region [⟨(some 15), .mov (.t 4), none⟩, ⟨(some 16), .mov (.t 0), none⟩, ⟨(some 17), .nilchk (.t 16), none⟩, ⟨(some 18), .fldA 1 (.t 17), none⟩, ⟨(some 19), .load1 (.t 18), none⟩, ⟨(some 20), .len false (.t 19), none⟩, ⟨(some 21), .bin .lss .int (.t 15) (.t 20), none⟩])
  (.cond (.t 21) .skip (.exit 0)))
  (.seq (.block 1 (.seq (.region [⟨(some 5), .mov (.k (.c (.int .i8 0))), none⟩])
  (.block 2 (.loop l35_0))))
  (.region [⟨(some 22), .mov (.t 4), none⟩, ⟨(some 23), .bin .add .int (.t 22) (.k (.c (.int .i64 1))), none⟩, ⟨(some 4), .mov (.t 23), none⟩])))
def l35_2 : KC := (.seq (.seq (.region [⟨(some 48), .mov (.t 10), none⟩, ⟨(some 49), .bin .leq .int (.t 48) (.k (.c (.int .i64 200))), none⟩])
  (.cond (.t 49) .skip (.exit 6)))
  (.seq (.block 7 (.seq (.region [⟨(some 52), .mov (.t 9), none⟩, ⟨(some 53), .mov (.t 10), none⟩, ⟨(some 54), .conv .i16 (.t 53), none⟩, ⟨(some 55), .build [(.int .i8 0), (.int .i8 0), (.int .i16 0), (.int .i16 0)] [(0, 1, (.k (.c (.int .i8 1)))), (1, 1, (.t 52)), (3, 1, (.t 54))], none⟩, ⟨(some 11), .alloc 37 [(.int .i8 0), (.int .i8 0), (.int .i16 0), (.int .i16 0)], none⟩, ⟨none, .store 4 (.t 11) (.t 55), none⟩])
  (.seq (.region [⟨(some 57), .mov (.t 0), none⟩, ⟨(some 58), .loadN 4 (.t 11), none⟩, ⟨(some 59), .call (.k (.c (.fn 38 []))) [(.t 57), (.t 58)], none⟩, ⟨(some 56), .mov (.t 59), none⟩, ⟨(some 60), .ext (.t 56) 0, none⟩, ⟨(some 61), .ext (.t 56) 1, none⟩, ⟨(some 12), .alloc 29 [(.bool false), (.slice none 0 (.exact 0)), (.int .i8 0), (.int .i8 0), (.int .i8 0), (.int .i8 0), (.int .i8 0), (.int .i8 0), (.int .i8 0), (.int .i8 0), (.int .i8 0), (.int .i8 0), (.int .i8 0), (.int .i8 0), (.int .i8 0), (.int .i8 0), (.int .i8 0), (.int .i8 0)], none⟩, ⟨none, .store 18 (.t 12) (.t 60), none⟩, ⟨(some 13), .mov (.t 61), none⟩])
  (.seq (.region [⟨(some 62), .mov (.t 13), none⟩, ⟨(some 63), .bin .eql .int (.t 62) (.k (.c (.int .i64 0))), none⟩])
  (.cond (.t 63) (.seq (.region [⟨(some 64), .mov (.t 3), none⟩, ⟨(some 65), .loadN 4 (.t 11), none⟩, ⟨(some 66), .buildSl 37 1 [(.int .i8 0), (.int .i8 0), (.int .i16 0), (.int .i16 0)] [(0, 4, (.t 65))], none⟩, ⟨(some 67), .app 37 4 6 (.t 64) (.t 66), none⟩, ⟨(some 3), .mov (.t 67), none⟩])
  (.exit 6)) .skip)))))
  (.region [⟨(some 50), .mov (.t 10), none⟩, ⟨(some 51), .bin .add .int (.t 50) (.k (.c (.int .i64 1))), none⟩, ⟨(some 10), .mov (.t 51), none⟩])))
def l35_3 : KC := (.seq (.seq (.region [⟨(some 44), .mov (.t 9), none⟩, ⟨(some 45), .bin .leq .int (.t 44) (.k (.c (.int .i8 5))), none⟩])
  (.cond (.t 45) .skip (.exit 4)))
  (.seq (.block 5 (.seq (.region [⟨(some 10), .mov (.k (.c (.int .i64 0))), none⟩])
  (.block 6 (.loop l35_2))))
  (.region [⟨(some 46), .mov (.t 9), none⟩, ⟨(some 47), .bin .add .int (.t 46) (.k (.c (.int .i8 1))), none⟩, ⟨(some 9), .mov (.t 47), none⟩])))
def k35 : KF := ⟨69, (.seq (.region [⟨(some 2), .mov (.k (.c (.slice none 0 (.exact 0)))), none⟩])
  (.seq (.region [⟨(some 14), .buildSl 37 0 [] [], none⟩, ⟨(some 3), .mov (.t 14), none⟩])
  (.seq (.seq (.region [⟨(some 4), .mov (.k (.c (.int .i64 0))), none⟩])
  (.block 0 (.loop l35_1)))
  (.seq (.seq (.region [⟨(some 9), .mov (.k (.c (.int .i8 0))), none⟩])
  (.block 4 (.loop l35_3)))
  (.seq (.region [⟨(some 68), .mov (.t 3), none⟩, ⟨(some 2), .mov (.t 68), none⟩])
  .ret))))), [.tmp 2], false⟩
theorem c35 : kk 35 = some k35 := by kernel_rfl
/-- (*loop.example/g01263/spec.l00Src).pick -/
def k36 : KF := ⟨20, (.seq (.region [⟨(some 4), .mov (.k (.c (.int .i64 0))), none⟩])
  (.seq (.seq (.region [⟨(some 6), .mov (.t 1), none⟩, ⟨(some 7), .bin .leq .int (.t 6) (.k (.c (.int .i64 1))), none⟩])
  (.cond (.t 7) (.seq (.region [⟨(some 4), .mov (.k (.c (.int .i64 0))), none⟩])
  .ret) .skip))
  (.seq (.region [⟨(some 8), .mov (.t 0), none⟩, ⟨(some 9), .call (.k (.c (.fn 66 []))) [(.t 8)], none⟩, ⟨(some 5), .mov (.t 9), none⟩])
  (.seq (.seq (.region [⟨(some 10), .mov (.t 1), none⟩, ⟨(some 11), .bin .gtr .int (.t 10) (.k (.c (.int .i64 200))), none⟩])
  (.cond (.t 11) (.region [⟨(some 12), .mov (.t 5), none⟩, ⟨(some 13), .bin .mul .int (.t 12) (.k (.c (.int .i64 256))), none⟩, ⟨(some 14), .mov (.t 0), none⟩, ⟨(some 15), .call (.k (.c (.fn 66 []))) [(.t 14)], none⟩, ⟨(some 16), .bin .add .int (.t 13) (.t 15), none⟩, ⟨(some 5), .mov (.t 16), none⟩]) .skip))
  (.seq (.region [⟨(some 17), .mov (.t 5), none⟩, ⟨(some 18), .mov (.t 1), none⟩, ⟨(some 19), .bin .rem .int (.t 17) (.t 18), none⟩, ⟨(some 4), .mov (.t 19), none⟩])
  .ret))))), [.tmp 4], true⟩
theorem c36 : kk 36 = some k36 := by kernel_rfl
/-- loop.example/g01263/impl.tamper -/
def k37 : KF := ⟨65, (.seq (.region [⟨(some 2), .box 29 (.t 0), none⟩, ⟨(some 3), .box 37 (.t 1), none⟩, ⟨(some 4), .alloc 29 [(.bool false), (.slice none 0 (.exact 0)), (.int .i8 0), (.int .i8 0), (.int .i8 0), (.int .i8 0), (.int .i8 0), (.int .i8 0), (.int .i8 0), (.int .i8 0), (.int .i8 0), (.int .i8 0), (.int .i8 0), (.int .i8 0), (.int .i8 0), (.int .i8 0), (.int .i8 0), (.int .i8 0)], none⟩, ⟨(some 5), .mov (.k (.c (.int .i64 0))), none⟩])
  (.seq (.seq (.region [⟨(some 7), .loadN 4 (.t 3), none⟩, ⟨(some 8), .call (.k (.c (.fn 44 []))) [(.t 7)], none⟩, ⟨(some 9), .un .not (.t 8), none⟩, ⟨(some 10), .mov (.t 9), none⟩, ⟨(some 11), .fldA 0 (.t 3), some (10, false)⟩, ⟨(some 12), .load1 (.t 11), some (10, false)⟩, ⟨(some 13), .bin .eql .int (.t 12) (.k (.c (.int .i8 2))), some (10, false)⟩, ⟨(some 14), .mov (.t 13), some (10, false)⟩, ⟨(some 15), .fldA 2 (.t 3), some (14, true)⟩, ⟨(some 16), .load1 (.t 15), some (14, true)⟩, ⟨(some 17), .conv .i64 (.t 16), some (14, true)⟩, ⟨(some 18), .fldA 1 (.t 2), some (14, true)⟩, ⟨(some 19), .load1 (.t 18), some (14, true)⟩, ⟨(some 20), .len false (.t 19), some (14, true)⟩, ⟨(some 21), .bin .geq .int (.t 17) (.t 20), some (14, true)⟩, ⟨(some 22), .pick (.t 14) (.t 21) (.k (.c (.bool false))), some (10, false)⟩, ⟨(some 23), .pick (.t 10) (.k (.c (.bool true))) (.t 22), none⟩])
  (.cond (.t 23) (.seq (.region [⟨(some 24), .build [(.bool false), (.slice none 0 (.exact 0)), (.int .i8 0), (.int .i8 0), (.int .i8 0), (.int .i8 0), (.int .i8 0), (.int .i8 0), (.int .i8 0), (.int .i8 0), (.int .i8 0), (.int .i8 0), (.int .i8 0), (.int .i8 0), (.int .i8 0), (.int .i8 0), (.int .i8 0), (.int .i8 0)] [], none⟩, ⟨none, .store 18 (.t 4) (.t 24), none⟩, ⟨(some 5), .mov (.k (.c (.int .i64 2))), none⟩])
  .ret) .skip))
  (.seq (.seq (.region [⟨(some 25), .fldA 0 (.t 3), none⟩, ⟨(some 26), .load1 (.t 25), none⟩, ⟨(some 27), .bin .eql .int (.t 26) (.k (.c (.int .i8 1))), none⟩])
  (.cond (.t 27) (.seq (.region [⟨(some 28), .loadN 18 (.t 2), none⟩, ⟨(some 29), .fldA 1 (.t 3), none⟩, ⟨(some 30), .load1 (.t 29), none⟩, ⟨(some 31), .conv .i64 (.t 30), none⟩, ⟨(some 32), .fldA 3 (.t 3), none⟩, ⟨(some 33), .load1 (.t 32), none⟩, ⟨(some 34), .conv .i64 (.t 33), none⟩, ⟨(some 35), .call (.k (.c (.fn 67 []))) [(.t 28), (.t 31), (.t 34)], none⟩, ⟨(some 36), .ext (.t 35) 0, none⟩, ⟨(some 37), .ext (.t 35) 1, none⟩, ⟨none, .store 18 (.t 4) (.t 36), none⟩, ⟨(some 5), .mov (.t 37), none⟩])
  .ret) .skip))
  (.seq (.region [⟨(some 38), .fldA 1 (.t 2), none⟩, ⟨(some 39), .load1 (.t 38), none⟩, ⟨(some 40), .call (.k (.c (.fn 52 []))) [(.t 39)], none⟩, ⟨(some 41), .fldA 1 (.t 2), none⟩, ⟨none, .store 1 (.t 41) (.t 40), none⟩])
  (.seq (.region [⟨(some 42), .fldA 1 (.t 2), none⟩, ⟨(some 43), .load1 (.t 42), none⟩, ⟨(some 44), .fldA 2 (.t 3), none⟩, ⟨(some 45), .load1 (.t 44), none⟩, ⟨(some 46), .idxS 2 (.t 43) (.t 45), none⟩, ⟨(some 6), .mov (.t 46), none⟩])
  (.seq (.seq (.drawn [(⟨(some 47), .fldA 1 (.t 3), none⟩, []), (⟨(some 48), .load1 (.t 47), none⟩, []), (⟨(some 49), .mov (.t 6), none⟩, []), (⟨(some 50), .nilchk (.t 49), none⟩, []), (⟨(some 51), .fldA 0 (.t 50), none⟩, []), (⟨(some 52), .load1 (.t 51), none⟩, []), (⟨(some 53), .bin .leq .int (.t 48) (.t 52), none⟩, [])])
  (.cond (.t 53) (.seq (.region [⟨(some 54), .build [(.bool false), (.slice none 0 (.exact 0)), (.int .i8 0), (.int .i8 0), (.int .i8 0), (.int .i8 0), (.int .i8 0), (.int .i8 0), (.int .i8 0), (.int .i8 0), (.int .i8 0), (.int .i8 0), (.int .i8 0), (.int .i8 0), (.int .i8 0), (.int .i8 0), (.int .i8 0), (.int .i8 0)] [], none⟩, ⟨none, .store 18 (.t 4) (.t 54), none⟩, ⟨(some 5), .mov (.k (.c (.int .i64 4))), none⟩])
  .ret) .skip))
  (.seq (.region [⟨(some 55), .mov (.t 6), none⟩, ⟨(some 56), .fldA 1 (.t 3), none⟩, ⟨(some 57), .load1 (.t 56), none⟩, ⟨(some 58), .nilchk (.t 55), none⟩, ⟨(some 59), .fldA 0 (.t 58), none⟩, ⟨none, .store 1 (.t 59) (.t 57), none⟩])
  (.seq (.seq (.region [⟨(some 60), .loadN 18 (.t 2), none⟩, ⟨(some 61), .call (.k (.c (.fn 19 []))) [(.t 60)], none⟩, ⟨(some 62), .un .not (.t 61), none⟩])
  (.cond (.t 62) (.seq (.region [⟨(some 63), .build [(.bool false), (.slice none 0 (.exact 0)), (.int .i8 0), (.int .i8 0), (.int .i8 0), (.int .i8 0), (.int .i8 0), (.int .i8 0), (.int .i8 0), (.int .i8 0), (.int .i8 0), (.int .i8 0), (.int .i8 0), (.int .i8 0), (.int .i8 0), (.int .i8 0), (.int .i8 0), (.int .i8 0)] [], none⟩, ⟨none, .store 18 (.t 4) (.t 63), none⟩, ⟨(some 5), .mov (.k (.c (.int .i64 4))), none⟩])
  .ret) .skip))
  (.seq (.region [⟨(some 64), .loadN 18 (.t 2), none⟩, ⟨none, .store 18 (.t 4) (.t 64), none⟩, ⟨(some 5), .mov (.k (.c (.int .i64 0))), none⟩])
  .ret))))))))), [.cellN 4 18, .tmp 5], false⟩
theorem c37 : kk 37 = some k37 := by kernel_rfl
/-- loop.example/g01263/spec.l04Tamper -/
def k38 : KF := ⟨79, (.seq (.region [⟨(some 3), .box 37 (.t 1), none⟩, ⟨(some 4), .alloc 29 [(.bool false), (.slice none 0 (.exact 0)), (.int .i8 0), (.int .i8 0), (.int .i8 0), (.int .i8 0), (.int .i8 0), (.int .i8 0), (.int .i8 0), (.int .i8 0), (.int .i8 0), (.int .i8 0), (.int .i8 0), (.int .i8 0), (.int .i8 0), (.int .i8 0), (.int .i8 0), (.int .i8 0)], none⟩, ⟨(some 5), .mov (.k (.c (.int .i64 0))), none⟩])
  (.seq (.seq (.region [⟨(some 7), .fldA 0 (.t 3), none⟩, ⟨(some 8), .load1 (.t 7), none⟩])
  (.block 0 (.seq (.region [⟨(some 10), .bin .eql .int (.t 8) (.k (.c (.int .i8 1))), none⟩, ⟨(some 9), .mov (.t 10), none⟩])
  (.cond (.t 9) (.seq (.seq (.region [⟨(some 11), .fldA 2 (.t 3), none⟩, ⟨(some 12), .load1 (.t 11), none⟩, ⟨(some 13), .bin .neq .int (.t 12) (.k (.c (.int .i16 0))), none⟩])
  (.cond (.t 13) (.seq (.region [⟨(some 14), .build [(.bool false), (.slice none 0 (.exact 0)), (.int .i8 0), (.int .i8 0), (.int .i8 0), (.int .i8 0), (.int .i8 0), (.int .i8 0), (.int .i8 0), (.int .i8 0), (.int .i8 0), (.int .i8 0), (.int .i8 0), (.int .i8 0), (.int .i8 0), (.int .i8 0), (.int .i8 0), (.int .i8 0)] [], none⟩, ⟨none, .store 18 (.t 4) (.t 14), none⟩, ⟨(some 5), .mov (.k (.c (.int .i64 2))), none⟩])
  .ret) .skip))
  (.seq (.drawn [(⟨(some 15), .mov (.t 0), none⟩, []), (⟨(some 16), .nilchk (.t 15), none⟩, []), (⟨(some 17), .loadN 18 (.t 16), none⟩, []), (⟨(some 18), .fldA 1 (.t 3), none⟩, []), (⟨(some 19), .load1 (.t 18), none⟩, []), (⟨(some 20), .conv .i64 (.t 19), none⟩, []), (⟨(some 21), .fldA 3 (.t 3), none⟩, []), (⟨(some 22), .load1 (.t 21), none⟩, []), (⟨(some 23), .conv .i64 (.t 22), none⟩, []), (⟨(some 24), .call (.k (.c (.fn 68 []))) [(.t 17), (.t 20), (.t 23)], none⟩, []), (⟨(some 25), .ext (.t 24) 0, none⟩, []), (⟨(some 26), .ext (.t 24) 1, none⟩, []), (⟨none, .store 18 (.t 4) (.t 25), none⟩, []), (⟨(some 5), .mov (.t 26), none⟩, [])])
  .ret)) (.seq (.region [⟨(some 28), .bin .eql .int (.t 8) (.k (.c (.int .i8 2))), none⟩, ⟨(some 27), .mov (.t 28), none⟩])
  (.cond (.t 27) (.seq (.seq (.drawn [(⟨(some 29), .fldA 3 (.t 3), none⟩, []), (⟨(some 30), .load1 (.t 29), none⟩, []), (⟨(some 31), .bin .neq .int (.t 30) (.k (.c (.int .i16 0))), none⟩, []), (⟨(some 32), .mov (.t 31), none⟩, []), (⟨(some 33), .fldA 1 (.t 3), some (32, false)⟩, []), (⟨(some 34), .load1 (.t 33), some (32, false)⟩, []), (⟨(some 35), .conv .i64 (.t 34), some (32, false)⟩, []), (⟨(some 36), .call (.k (.c (.fn 69 []))) [(.t 35)], some (32, false)⟩, []), (⟨(some 37), .un .not (.t 36), some (32, false)⟩, []), (⟨(some 38), .pick (.t 32) (.k (.c (.bool true))) (.t 37), none⟩, []), (⟨(some 39), .mov (.t 38), none⟩, []), (⟨(some 40), .fldA 2 (.t 3), some (39, false)⟩, []), (⟨(some 41), .load1 (.t 40), some (39, false)⟩, []), (⟨(some 42), .conv .i64 (.t 41), some (39, false)⟩, []), (⟨(some 43), .mov (.t 0), some (39, false)⟩, []), (⟨(some 44), .nilchk (.t 43), some (39, false)⟩, []), (⟨(some 45), .fldA 1 (.t 44), some (39, false)⟩, []), (⟨(some 46), .load1 (.t 45), some (39, false)⟩, []), (⟨(some 47), .len false (.t 46), some (39, false)⟩, []), (⟨(some 48), .bin .sub .int (.t 47) (.k (.c (.int .i64 1))), some (39, false)⟩, []), (⟨(some 49), .call (.k (.c (.fn 70 []))) [(.t 42), (.k (.c (.int .i64 0))), (.t 48)], some (39, false)⟩, []), (⟨(some 50), .un .not (.t 49), some (39, false)⟩, []), (⟨(some 51), .pick (.t 39) (.k (.c (.bool true))) (.t 50), none⟩, [])])
  (.cond (.t 51) (.seq (.region [⟨(some 52), .build [(.bool false), (.slice none 0 (.exact 0)), (.int .i8 0), (.int .i8 0), (.int .i8 0), (.int .i8 0), (.int .i8 0), (.int .i8 0), (.int .i8 0), (.int .i8 0), (.int .i8 0), (.int .i8 0), (.int .i8 0), (.int .i8 0), (.int .i8 0), (.int .i8 0), (.int .i8 0), (.int .i8 0)] [], none⟩, ⟨none, .store 18 (.t 4) (.t 52), none⟩, ⟨(some 5), .mov (.k (.c (.int .i64 2))), none⟩])
  .ret) .skip))
  (.seq (.region [⟨(some 53), .mov (.t 0), none⟩, ⟨(some 54), .call (.k (.c (.fn 71 []))) [(.t 53)], none⟩, ⟨(some 6), .alloc 29 [(.bool false), (.slice none 0 (.exact 0)), (.int .i8 0), (.int .i8 0), (.int .i8 0), (.int .i8 0), (.int .i8 0), (.int .i8 0), (.int .i8 0), (.int .i8 0), (.int .i8 0), (.int .i8 0), (.int .i8 0), (.int .i8 0), (.int .i8 0), (.int .i8 0), (.int .i8 0), (.int .i8 0)], none⟩, ⟨none, .store 18 (.t 6) (.t 54), none⟩])
  (.seq (.seq (.drawn [(⟨(some 55), .fldA 1 (.t 3), none⟩, []), (⟨(some 56), .load1 (.t 55), none⟩, []), (⟨(some 57), .fldA 1 (.t 6), none⟩, []), (⟨(some 58), .load1 (.t 57), none⟩, []), (⟨(some 59), .fldA 2 (.t 3), none⟩, []), (⟨(some 60), .load1 (.t 59), none⟩, []), (⟨(some 61), .idxS 2 (.t 58) (.t 60), none⟩, []), (⟨(some 62), .fldA 0 (.t 61), none⟩, []), (⟨(some 63), .load1 (.t 62), none⟩, []), (⟨(some 64), .bin .leq .int (.t 56) (.t 63), none⟩, [])])
  (.cond (.t 64) (.seq (.region [⟨(some 65), .build [(.bool false), (.slice none 0 (.exact 0)), (.int .i8 0), (.int .i8 0), (.int .i8 0), (.int .i8 0), (.int .i8 0), (.int .i8 0), (.int .i8 0), (.int .i8 0), (.int .i8 0), (.int .i8 0), (.int .i8 0), (.int .i8 0), (.int .i8 0), (.int .i8 0), (.int .i8 0), (.int .i8 0)] [], none⟩, ⟨none, .store 18 (.t 4) (.t 65), none⟩, ⟨(some 5), .mov (.k (.c (.int .i64 4))), none⟩])
  .ret) .skip))
  (.seq (.region [⟨(some 66), .fldA 1 (.t 6), none⟩, ⟨(some 67), .load1 (.t 66), none⟩, ⟨(some 68), .fldA 2 (.t 3), none⟩, ⟨(some 69), .load1 (.t 68), none⟩, ⟨(some 70), .fldA 1 (.t 3), none⟩, ⟨(some 71), .load1 (.t 70), none⟩, ⟨(some 72), .idxS 2 (.t 67) (.t 69), none⟩, ⟨(some 73), .fldA 0 (.t 72), none⟩, ⟨none, .store 1 (.t 73) (.t 71), none⟩])
  (.seq (.seq (.region [⟨(some 74), .call (.k (.c (.fn 34 []))) [(.t 6)], none⟩, ⟨(some 75), .un .not (.t 74), none⟩])
  (.cond (.t 75) (.seq (.region [⟨(some 76), .build [(.bool false), (.slice none 0 (.exact 0)), (.int .i8 0), (.int .i8 0), (.int .i8 0), (.int .i8 0), (.int .i8 0), (.int .i8 0), (.int .i8 0), (.int .i8 0), (.int .i8 0), (.int .i8 0), (.int .i8 0), (.int .i8 0), (.int .i8 0), (.int .i8 0), (.int .i8 0), (.int .i8 0)] [], none⟩, ⟨none, .store 18 (.t 4) (.t 76), none⟩, ⟨(some 5), .mov (.k (.c (.int .i64 4))), none⟩])
  .ret) .skip))
  (.seq (.region [⟨(some 77), .loadN 18 (.t 6), none⟩, ⟨none, .store 18 (.t 4) (.t 77), none⟩, ⟨(some 5), .mov (.k (.c (.int .i64 0))), none⟩])
  .ret)))))) .skip))))))
  (.seq (.region [⟨(some 78), .build [(.bool false), (.slice none 0 (.exact 0)), (.int .i8 0), (.int .i8 0), (.int .i8 0), (.int .i8 0), (.int .i8 0), (.int .i8 0), (.int .i8 0), (.int .i8 0), (.int .i8 0), (.int .i8 0), (.int .i8 0), (.int .i8 0), (.int .i8 0), (.int .i8 0), (.int .i8 0), (.int .i8 0)] [], none⟩, ⟨none, .store 18 (.t 4) (.t 78), none⟩, ⟨(some 5), .mov (.k (.c (.int .i64 2))), none⟩])
  .ret))), [.cellN 4 18, .tmp 5], false⟩
theorem c38 : kk 38 = some k38 := by kernel_rfl
/-- loop.example/g01263/impl.amountOf -/
def l39_0 : KC := (.seq (.region [⟨(some 10), .bin .lss .int (.t 9) (.t 8), none⟩])
  (.seq (.cond (.t 10) .skip (.exit 0))
  (.seq (.block 1 (.seq (.region [⟨(some 11), .idxS 2 (.t 7) (.t 9), none⟩, ⟨(some 12), .loadN 2 (.t 11), none⟩, ⟨(some 5), .alloc 91 [(.int .i8 0), (.int .i16 0)], none⟩, ⟨none, .store 2 (.t 5) (.t 12), none⟩])
  (.region [⟨(some 13), .mov (.t 3), none⟩, ⟨(some 14), .fldA 0 (.t 5), none⟩, ⟨(some 15), .load1 (.t 14), none⟩, ⟨(some 16), .conv .i64 (.t 15), none⟩, ⟨(some 17), .call (.k (.c (.fn 72 []))) [(.t 16)], none⟩, ⟨(some 18), .bin .add .int (.t 13) (.t 17), none⟩, ⟨(some 3), .mov (.t 18), none⟩])))
  (.region [⟨(some 19), .bin .add .int (.t 9) (.k (.c (.int .i64 1))), none⟩, ⟨(some 9), .mov (.t 19), none⟩]))))
def k39 : KF := ⟨21, (.seq (.region [⟨(some 1), .box 29 (.t 0), none⟩, ⟨(some 2), .mov (.k (.c (.int .i64 0))), none⟩])
  (.seq (.region [⟨(some 3), .mov (.k (.c (.int .i64 0))), none⟩])
  (.seq (.seq (.region [⟨(some 6), .fldA 1 (.t 1), none⟩, ⟨(some 7), .load1 (.t 6), none⟩, ⟨(some 8), .len false (.t 7), none⟩, ⟨(some 9), .mov (.k (.c (.int .i64 0))), none⟩])
  (.block 0 (.loop l39_0)))
  (.seq (.region [⟨(some 20), .mov (.t 3), none⟩, ⟨(some 2), .mov (.t 20), none⟩])
  .ret)))), [.tmp 2], true⟩
theorem c39 : kk 39 = some k39 := by kernel_rfl
/-- loop.example/g01263/impl.wood -/
def l40_0 : KC := (.seq (.seq (.region [⟨(some 18), .mov (.t 6), none⟩, ⟨(some 19), .loadN 2 (.t 5), none⟩, ⟨(some 20), .call (.k (.c (.fn 49 []))) [(.t 19)], none⟩, ⟨(some 21), .bin .lss .int (.t 18) (.t 20), none⟩])
  (.cond (.t 21) .skip (.exit 2)))
  (.seq (.block 3 (.drawn [(⟨(some 24), .mov (.t 6), none⟩, []), (⟨(some 25), .bin .quo .int (.t 24) (.k (.c (.int .i64 64))), none⟩, []), (⟨(some 26), .idxA 4 1 (.t 3) (.t 25), none⟩, []), (⟨(some 27), .load1 (.t 26), none⟩, []), (⟨(some 28), .mov (.t 6), none⟩, []), (⟨(some 29), .bin .rem .int (.t 28) (.k (.c (.int .i64 64))), none⟩, []), (⟨(some 30), .bin .shl .int (.k (.c (.int .u64 1))) (.t 29), none⟩, []), (⟨(some 31), .bin .or .int (.t 27) (.t 30), none⟩, []), (⟨(some 32), .idxA 4 1 (.t 3) (.t 25), none⟩, []), (⟨none, .store 1 (.t 32) (.t 31), none⟩, [])]))
  (.region [⟨(some 22), .mov (.t 6), none⟩, ⟨(some 23), .bin .add .int (.t 22) (.k (.c (.int .i64 1))), none⟩, ⟨(some 6), .mov (.t 23), none⟩])))
def l40_1 : KC := (.seq (.region [⟨(some 12), .bin .lss .int (.t 11) (.t 10), none⟩])
  (.seq (.cond (.t 12) .skip (.exit 0))
  (.seq (.block 1 (.seq (.region [⟨(some 13), .idxS 2 (.t 9) (.t 11), none⟩, ⟨(some 14), .loadN 2 (.t 13), none⟩, ⟨(some 5), .alloc 91 [(.int .i8 0), (.int .i16 0)], none⟩, ⟨none, .store 2 (.t 5) (.t 14), none⟩])
  (.seq (.region [⟨(some 15), .fldA 1 (.t 5), none⟩, ⟨(some 16), .load1 (.t 15), none⟩, ⟨(some 17), .conv .i64 (.t 16), none⟩, ⟨(some 6), .mov (.t 17), none⟩])
  (.block 2 (.loop l40_0)))))
  (.region [⟨(some 33), .bin .add .int (.t 11) (.k (.c (.int .i64 1))), none⟩, ⟨(some 11), .mov (.t 33), none⟩]))))
def k40 : KF := ⟨35, (.seq (.region [⟨(some 1), .box 29 (.t 0), none⟩, ⟨(some 2), .alloc 46 [(.int .u64 0), (.int .u64 0), (.int .u64 0), (.int .u64 0)], none⟩])
  (.seq (.region [⟨(some 7), .build [(.int .u64 0), (.int .u64 0), (.int .u64 0), (.int .u64 0)] [], none⟩, ⟨(some 3), .alloc 46 [(.int .u64 0), (.int .u64 0), (.int .u64 0), (.int .u64 0)], none⟩, ⟨none, .store 4 (.t 3) (.t 7), none⟩])
  (.seq (.seq (.region [⟨(some 8), .fldA 1 (.t 1), none⟩, ⟨(some 9), .load1 (.t 8), none⟩, ⟨(some 10), .len false (.t 9), none⟩, ⟨(some 11), .mov (.k (.c (.int .i64 0))), none⟩])
  (.block 0 (.loop l40_1)))
  (.seq (.region [⟨(some 34), .loadN 4 (.t 3), none⟩, ⟨none, .store 4 (.t 2) (.t 34), none⟩])
  .ret)))), [.cellN 2 4], true⟩
theorem c40 : kk 40 = some k40 := by kernel_rfl
/-- loop.example/g01263/impl.number -/
def l42_0 : KC := (.seq (.region [⟨(some 26), .bin .lss .int (.t 25) (.t 24), none⟩])
  (.seq (.cond (.t 26) .skip (.exit 0))
  (.seq (.block 1 (.seq (.region [⟨(some 27), .mov (.t 25), none⟩, ⟨(some 5), .mov (.t 27), none⟩])
  (.seq (.seq (.region [⟨(some 28), .mov (.t 0), none⟩, ⟨(some 29), .mov (.t 5), none⟩, ⟨(some 30), .idxStr (.t 28) (.t 29), none⟩, ⟨(some 31), .bin .lss .int (.t 30) (.k (.c (.int .u8 48))), none⟩, ⟨(some 32), .mov (.t 31), none⟩, ⟨(some 33), .mov (.t 0), some (32, false)⟩, ⟨(some 34), .mov (.t 5), some (32, false)⟩, ⟨(some 35), .idxStr (.t 33) (.t 34), some (32, false)⟩, ⟨(some 36), .bin .gtr .int (.t 35) (.k (.c (.int .u8 57))), some (32, false)⟩, ⟨(some 37), .pick (.t 32) (.k (.c (.bool true))) (.t 36), none⟩])
  (.cond (.t 37) (.seq (.region [⟨(some 2), .mov (.k (.c (.int .i64 0))), none⟩, ⟨(some 3), .mov (.k (.c (.bool false))), none⟩])
  .ret) .skip))
  (.region [⟨(some 38), .mov (.t 4), none⟩, ⟨(some 39), .bin .mul .int (.t 38) (.k (.c (.int .i64 10))), none⟩, ⟨(some 40), .mov (.t 0), none⟩, ⟨(some 41), .mov (.t 5), none⟩, ⟨(some 42), .idxStr (.t 40) (.t 41), none⟩, ⟨(some 43), .bin .sub .int (.t 42) (.k (.c (.int .u8 48))), none⟩, ⟨(some 44), .conv .i64 (.t 43), none⟩, ⟨(some 45), .bin .add .int (.t 39) (.t 44), none⟩, ⟨(some 4), .mov (.t 45), none⟩]))))
  (.region [⟨(some 46), .bin .add .int (.t 25) (.k (.c (.int .i64 1))), none⟩, ⟨(some 25), .mov (.t 46), none⟩]))))
def k42 : KF := ⟨48, (.seq (.region [⟨(some 2), .mov (.k (.c (.int .i64 0))), none⟩, ⟨(some 3), .mov (.k (.c (.bool false))), none⟩])
  (.seq (.seq (.region [⟨(some 6), .mov (.t 0), none⟩, ⟨(some 7), .bin .eql .str (.t 6) (.k (.c (.str ⟨#[]⟩))), none⟩, ⟨(some 8), .mov (.t 7), none⟩, ⟨(some 9), .mov (.t 0), some (8, false)⟩, ⟨(some 10), .len true (.t 9), some (8, false)⟩, ⟨(some 11), .bin .gtr .int (.t 10) (.k (.c (.int .i64 9))), some (8, false)⟩, ⟨(some 12), .pick (.t 8) (.k (.c (.bool true))) (.t 11), none⟩, ⟨(some 13), .mov (.t 12), none⟩, ⟨(some 14), .mov (.t 0), some (13, false)⟩, ⟨(some 15), .idxStr (.t 14) (.k (.c (.int .i64 0))), some (13, false)⟩, ⟨(some 16), .bin .eql .int (.t 15) (.k (.c (.int .u8 48))), some (13, false)⟩, ⟨(some 17), .mov (.t 16), some (13, false)⟩, ⟨(some 18), .mov (.t 0), some (17, true)⟩, ⟨(some 19), .len true (.t 18), some (17, true)⟩, ⟨(some 20), .bin .gtr .int (.t 19) (.k (.c (.int .i64 1))), some (17, true)⟩, ⟨(some 21), .pick (.t 17) (.t 20) (.k (.c (.bool false))), some (13, false)⟩, ⟨(some 22), .pick (.t 13) (.k (.c (.bool true))) (.t 21), none⟩])
  (.cond (.t 22) (.seq (.region [⟨(some 2), .mov (.k (.c (.int .i64 0))), none⟩, ⟨(some 3), .mov (.k (.c (.bool false))), none⟩])
  .ret) .skip))
  (.seq (.region [⟨(some 4), .mov (.k (.c (.int .i64 0))), none⟩])
  (.seq (.seq (.region [⟨(some 23), .mov (.t 0), none⟩, ⟨(some 24), .len true (.t 23), none⟩, ⟨(some 25), .mov (.k (.c (.int .i64 0))), none⟩])
  (.block 0 (.loop l42_0)))
  (.seq (.region [⟨(some 47), .mov (.t 4), none⟩, ⟨(some 2), .mov (.t 47), none⟩, ⟨(some 3), .mov (.k (.c (.bool true))), none⟩])
  .ret))))), [.tmp 2, .tmp 3], true⟩
theorem c42 : kk 42 = some k42 := by kernel_rfl
/-- loop.example/g01263/impl.isTamper -/
def k44 : KF := ⟨40, (.seq (.region [⟨(some 1), .box 37 (.t 0), none⟩, ⟨(some 2), .mov (.k (.c (.bool false))), none⟩])
  (.seq (.seq (.region [⟨(some 3), .fldA 1 (.t 1), none⟩, ⟨(some 4), .load1 (.t 3), none⟩, ⟨(some 5), .conv .i64 (.t 4), none⟩, ⟨(some 6), .call (.k (.c (.fn 48 []))) [(.t 5)], none⟩, ⟨(some 7), .un .not (.t 6), none⟩])
  (.cond (.t 7) (.seq (.region [⟨(some 2), .mov (.k (.c (.bool false))), none⟩])
  .ret) .skip))
  (.seq (.seq (.region [⟨(some 8), .fldA 0 (.t 1), none⟩, ⟨(some 9), .load1 (.t 8), none⟩])
  (.block 0 (.seq (.region [⟨(some 11), .bin .eql .int (.t 9) (.k (.c (.int .i8 1))), none⟩, ⟨(some 10), .mov (.t 11), none⟩])
  (.cond (.t 10) (.seq (.region [⟨(some 12), .fldA 2 (.t 1), none⟩, ⟨(some 13), .load1 (.t 12), none⟩, ⟨(some 14), .bin .eql .int (.t 13) (.k (.c (.int .i16 0))), none⟩, ⟨(some 15), .mov (.t 14), none⟩, ⟨(some 16), .fldA 3 (.t 1), some (15, true)⟩, ⟨(some 17), .load1 (.t 16), some (15, true)⟩, ⟨(some 18), .bin .geq .int (.t 17) (.k (.c (.int .i16 0))), some (15, true)⟩, ⟨(some 19), .pick (.t 15) (.t 18) (.k (.c (.bool false))), none⟩, ⟨(some 20), .mov (.t 19), none⟩, ⟨(some 21), .fldA 3 (.t 1), some (20, true)⟩, ⟨(some 22), .load1 (.t 21), some (20, true)⟩, ⟨(some 23), .bin .leq .int (.t 22) (.k (.c (.int .i16 200))), some (20, true)⟩, ⟨(some 24), .pick (.t 20) (.t 23) (.k (.c (.bool false))), none⟩, ⟨(some 2), .mov (.t 24), none⟩])
  .ret) (.seq (.region [⟨(some 26), .bin .eql .int (.t 9) (.k (.c (.int .i8 2))), none⟩, ⟨(some 25), .mov (.t 26), none⟩])
  (.cond (.t 25) (.seq (.region [⟨(some 27), .fldA 3 (.t 1), none⟩, ⟨(some 28), .load1 (.t 27), none⟩, ⟨(some 29), .bin .eql .int (.t 28) (.k (.c (.int .i16 0))), none⟩, ⟨(some 30), .mov (.t 29), none⟩, ⟨(some 31), .fldA 2 (.t 1), some (30, true)⟩, ⟨(some 32), .load1 (.t 31), some (30, true)⟩, ⟨(some 33), .bin .geq .int (.t 32) (.k (.c (.int .i16 0))), some (30, true)⟩, ⟨(some 34), .pick (.t 30) (.t 33) (.k (.c (.bool false))), none⟩, ⟨(some 35), .mov (.t 34), none⟩, ⟨(some 36), .fldA 2 (.t 1), some (35, true)⟩, ⟨(some 37), .load1 (.t 36), some (35, true)⟩, ⟨(some 38), .bin .lss .int (.t 37) (.k (.c (.int .i16 60))), some (35, true)⟩, ⟨(some 39), .pick (.t 35) (.t 38) (.k (.c (.bool false))), none⟩, ⟨(some 2), .mov (.t 39), none⟩])
  .ret) .skip))))))
  (.seq (.region [⟨(some 2), .mov (.k (.c (.bool false))), none⟩])
  .ret)))), [.tmp 2], true⟩
theorem c44 : kk 44 = some k44 := by kernel_rfl
/-- loop.example/g01263/impl.decimal -/
def k45 : KF := ⟨5, (.seq (.region [⟨(some 2), .mov (.k (.c (.str ⟨#[]⟩))), none⟩])
  (.seq (.region [⟨(some 3), .mov (.t 0), none⟩, ⟨(some 4), .call (.k (.c (.fn 75 []))) [(.t 3), (.k (.c (.int .i64 10)))], none⟩, ⟨(some 2), .mov (.t 4), none⟩])
  .ret)), [.tmp 2], true⟩
theorem c45 : kk 45 = some k45 := by kernel_rfl
/-- loop.example/g01263/spec.l01Same -/
def k46 : KF := ⟨36, (.seq (.region [⟨(some 4), .mov (.k (.c (.bool false))), none⟩])
  (.seq (.drawn [(⟨(some 5), .mov (.t 0), none⟩, []), (⟨(some 6), .nilchk (.t 5), none⟩, []), (⟨(some 7), .fldA 0 (.t 6), none⟩, []), (⟨(some 8), .load1 (.t 7), none⟩, []), (⟨(some 9), .mov (.t 1), none⟩, []), (⟨(some 10), .nilchk (.t 9), none⟩, []), (⟨(some 11), .fldA 0 (.t 10), none⟩, []), (⟨(some 12), .load1 (.t 11), none⟩, []), (⟨(some 13), .bin .eql .bool (.t 8) (.t 12), none⟩, []), (⟨(some 14), .mov (.t 13), none⟩, []), (⟨(some 15), .mov (.t 0), some (14, true)⟩, []), (⟨(some 16), .nilchk (.t 15), some (14, true)⟩, []), (⟨(some 17), .fldA 2 (.t 16), some (14, true)⟩, []), (⟨(some 18), .loadN 16 (.t 17), some (14, true)⟩, []), (⟨(some 19), .mov (.t 1), some (14, true)⟩, []), (⟨(some 20), .nilchk (.t 19), some (14, true)⟩, []), (⟨(some 21), .fldA 2 (.t 20), some (14, true)⟩, []), (⟨(some 22), .loadN 16 (.t 21), some (14, true)⟩, []), (⟨(some 23), .bin .eql (.agg [.int, .int, .int, .int, .int, .int, .int, .int, .int, .int, .int, .int, .int, .int, .int, .int]) (.t 18) (.t 22), some (14, true)⟩, []), (⟨(some 24), .pick (.t 14) (.t 23) (.k (.c (.bool false))), none⟩, []), (⟨(some 25), .mov (.t 24), none⟩, []), (⟨(some 26), .mov (.t 0), some (25, true)⟩, []), (⟨(some 27), .nilchk (.t 26), some (25, true)⟩, []), (⟨(some 28), .fldA 1 (.t 27), some (25, true)⟩, []), (⟨(some 29), .load1 (.t 28), some (25, true)⟩, []), (⟨(some 30), .mov (.t 1), some (25, true)⟩, []), (⟨(some 31), .nilchk (.t 30), some (25, true)⟩, []), (⟨(some 32), .fldA 1 (.t 31), some (25, true)⟩, []), (⟨(some 33), .load1 (.t 32), some (25, true)⟩, []), (⟨(some 34), .call (.k (.c (.fn 76 []))) [(.t 29), (.t 33)], some (25, true)⟩, []), (⟨(some 35), .pick (.t 25) (.t 34) (.k (.c (.bool false))), none⟩, []), (⟨(some 4), .mov (.t 35), none⟩, [])])
  .ret)), [.tmp 4], true⟩
theorem c46 : kk 46 = some k46 := by kernel_rfl
/-- loop.example/g01263/impl.ValidGrain -/
def l47_0 : KC := (.seq (.region [⟨(some 7), .bin .lss .int (.t 6) (.k (.c (.int .i64 16))), none⟩])
  (.seq (.cond (.t 7) .skip (.exit 0))
  (.seq (.block 1 (.seq (.region [⟨(some 8), .idx1 16 (.t 5) (.t 6), none⟩, ⟨(some 4), .mov (.t 8), none⟩])
  (.seq (.region [⟨(some 9), .mov (.t 4), none⟩, ⟨(some 10), .bin .lss .int (.t 9) (.k (.c (.int .i8 (-3)))), none⟩, ⟨(some 11), .mov (.t 10), none⟩, ⟨(some 12), .mov (.t 4), some (11, false)⟩, ⟨(some 13), .bin .gtr .int (.t 12) (.k (.c (.int .i8 3))), some (11, false)⟩, ⟨(some 14), .pick (.t 11) (.k (.c (.bool true))) (.t 13), none⟩])
  (.cond (.t 14) (.seq (.region [⟨(some 2), .mov (.k (.c (.bool false))), none⟩])
  .ret) .skip))))
  (.region [⟨(some 15), .bin .add .int (.t 6) (.k (.c (.int .i64 1))), none⟩, ⟨(some 6), .mov (.t 15), none⟩]))))
def k47 : KF := ⟨16, (.seq (.region [⟨(some 1), .box 27 (.t 0), none⟩, ⟨(some 2), .mov (.k (.c (.bool false))), none⟩])
  (.seq (.seq (.region [⟨(some 5), .loadN 16 (.t 1), none⟩, ⟨(some 6), .mov (.k (.c (.int .i64 0))), none⟩])
  (.block 0 (.loop l47_0)))
  (.seq (.region [⟨(some 2), .mov (.k (.c (.bool true))), none⟩])
  .ret))), [.tmp 2], true⟩
theorem c47 : kk 47 = some k47 := by kernel_rfl
/-- loop.example/g01263/impl.isKind -/
def k48 : KF := ⟨9, (.seq (.region [⟨(some 2), .mov (.k (.c (.bool false))), none⟩])
  (.seq (.region [⟨(some 3), .mov (.t 0), none⟩, ⟨(some 4), .bin .geq .int (.t 3) (.k (.c (.int .i64 0))), none⟩, ⟨(some 5), .mov (.t 4), none⟩, ⟨(some 6), .mov (.t 0), some (5, true)⟩, ⟨(some 7), .bin .leq .int (.t 6) (.k (.c (.int .i64 5))), some (5, true)⟩, ⟨(some 8), .pick (.t 5) (.t 7) (.k (.c (.bool false))), none⟩, ⟨(some 2), .mov (.t 8), none⟩])
  .ret)), [.tmp 2], true⟩
theorem c48 : kk 48 = some k48 := by kernel_rfl
/-- (loop.example/g01263/impl.Notch).end -/
def k49 : KF := ⟨11, (.seq (.region [⟨(some 1), .box 91 (.t 0), none⟩, ⟨(some 2), .mov (.k (.c (.int .i64 0))), none⟩])
  (.seq (.drawn [(⟨(some 3), .fldA 1 (.t 1), none⟩, []), (⟨(some 4), .load1 (.t 3), none⟩, []), (⟨(some 5), .conv .i64 (.t 4), none⟩, []), (⟨(some 6), .fldA 0 (.t 1), none⟩, []), (⟨(some 7), .load1 (.t 6), none⟩, []), (⟨(some 8), .conv .i64 (.t 7), none⟩, []), (⟨(some 9), .call (.k (.c (.fn 77 []))) [(.t 8)], none⟩, [⟨(some 4), .load1 (.t 3), none⟩]), (⟨(some 10), .bin .add .int (.t 5) (.t 9), none⟩, []), (⟨(some 2), .mov (.t 10), none⟩, [])])
  .ret)), [.tmp 2], true⟩
theorem c49 : kk 49 = some k49 := by kernel_rfl
/-- math/bits.OnesCount64 -/
def k50 : KF := ⟨35, (.seq (.region [⟨(some 2), .mov (.k (.c (.int .i64 0))), none⟩])
  (.seq (.region [⟨(some 3), .mov (.t 0), none⟩, ⟨(some 4), .bin .shr .int (.t 3) (.k (.c (.int .u64 1))), none⟩, ⟨(some 5), .bin .and .int (.t 4) (.k (.c (.int .u64 6148914691236517205))), none⟩, ⟨(some 6), .mov (.t 0), none⟩, ⟨(some 7), .bin .and .int (.t 6) (.k (.c (.int .u64 6148914691236517205))), none⟩, ⟨(some 8), .bin .add .int (.t 5) (.t 7), none⟩, ⟨(some 0), .mov (.t 8), none⟩])
  (.seq (.region [⟨(some 9), .mov (.t 0), none⟩, ⟨(some 10), .bin .shr .int (.t 9) (.k (.c (.int .u64 2))), none⟩, ⟨(some 11), .bin .and .int (.t 10) (.k (.c (.int .u64 3689348814741910323))), none⟩, ⟨(some 12), .mov (.t 0), none⟩, ⟨(some 13), .bin .and .int (.t 12) (.k (.c (.int .u64 3689348814741910323))), none⟩, ⟨(some 14), .bin .add .int (.t 11) (.t 13), none⟩, ⟨(some 0), .mov (.t 14), none⟩])
  (.seq (.region [⟨(some 15), .mov (.t 0), none⟩, ⟨(some 16), .bin .shr .int (.t 15) (.k (.c (.int .u64 4))), none⟩, ⟨(some 17), .mov (.t 0), none⟩, ⟨(some 18), .bin .add .int (.t 16) (.t 17), none⟩, ⟨(some 19), .bin .and .int (.t 18) (.k (.c (.int .u64 1085102592571150095))), none⟩, ⟨(some 0), .mov (.t 19), none⟩])
  (.seq (.region [⟨(some 20), .mov (.t 0), none⟩, ⟨(some 21), .mov (.t 0), none⟩, ⟨(some 22), .bin .shr .int (.t 21) (.k (.c (.int .u64 8))), none⟩, ⟨(some 23), .bin .add .int (.t 20) (.t 22), none⟩, ⟨(some 0), .mov (.t 23), none⟩])
  (.seq (.region [⟨(some 24), .mov (.t 0), none⟩, ⟨(some 25), .mov (.t 0), none⟩, ⟨(some 26), .bin .shr .int (.t 25) (.k (.c (.int .u64 16))), none⟩, ⟨(some 27), .bin .add .int (.t 24) (.t 26), none⟩, ⟨(some 0), .mov (.t 27), none⟩])
  (.seq (.region [⟨(some 28), .mov (.t 0), none⟩, ⟨(some 29), .mov (.t 0), none⟩, ⟨(some 30), .bin .shr .int (.t 29) (.k (.c (.int .u64 32))), none⟩, ⟨(some 31), .bin .add .int (.t 28) (.t 30), none⟩, ⟨(some 0), .mov (.t 31), none⟩])
  (.seq (.region [⟨(some 32), .mov (.t 0), none⟩, ⟨(some 33), .conv .i64 (.t 32), none⟩, ⟨(some 34), .bin .and .int (.t 33) (.k (.c (.int .i64 127))), none⟩, ⟨(some 2), .mov (.t 34), none⟩])
  .ret)))))))), [.tmp 2], true⟩
theorem c50 : kk 50 = some k50 := by kernel_rfl
/-- loop.example/g01263/spec.l01Sum -/
def l51_0 : KC := (.seq (.seq (.region [⟨(some 5), .mov (.t 4), none⟩, ⟨(some 6), .mov (.t 0), none⟩, ⟨(some 7), .len false (.t 6), none⟩, ⟨(some 8), .bin .lss .int (.t 5) (.t 7), none⟩])
  (.cond (.t 8) .skip (.exit 0)))
  (.seq (.block 1 (.drawn [(⟨(some 11), .mov (.t 3), none⟩, []), (⟨(some 13), .mov (.t 0), none⟩, []), (⟨(some 14), .mov (.t 4), none⟩, []), (⟨(some 15), .idxS 2 (.t 13) (.t 14), none⟩, []), (⟨(some 16), .fldA 0 (.t 15), none⟩, []), (⟨(some 17), .load1 (.t 16), none⟩, []), (⟨(some 12), .call (.k (.c (.fn 78 []))) [], none⟩, [⟨(some 17), .load1 (.t 16), none⟩]), (⟨(some 18), .idxS 1 (.t 12) (.t 17), none⟩, []), (⟨(some 19), .load1 (.t 18), none⟩, []), (⟨(some 20), .bin .add .int (.t 11) (.t 19), none⟩, []), (⟨(some 3), .mov (.t 20), none⟩, [])]))
  (.region [⟨(some 9), .mov (.t 4), none⟩, ⟨(some 10), .bin .add .int (.t 9) (.k (.c (.int .i64 1))), none⟩, ⟨(some 4), .mov (.t 10), none⟩])))
def k51 : KF := ⟨22, (.seq (.region [⟨(some 2), .mov (.k (.c (.int .i64 0))), none⟩])
  (.seq (.region [⟨(some 3), .mov (.k (.c (.int .i64 0))), none⟩])
  (.seq (.seq (.region [⟨(some 4), .mov (.k (.c (.int .i64 0))), none⟩])
  (.block 0 (.loop l51_0)))
  (.seq (.region [⟨(some 21), .mov (.t 3), none⟩, ⟨(some 2), .mov (.t 21), none⟩])
  .ret)))), [.tmp 2], true⟩
theorem c51 : kk 51 = some k51 := by kernel_rfl
/-- slices.Clone[[]loop.example/g01263/impl.Notch,loop.example/g01263/impl.Notch] -/
def k52 : KF := ⟨8, (.seq (.region [⟨(some 2), .mov (.k (.c (.slice none 0 (.exact 0)))), none⟩])
  (.seq (.seq (.region [⟨(some 3), .mov (.t 0), none⟩, ⟨(some 4), .bin .eql .slice (.t 3) (.k (.c (.slice none 0 (.exact 0)))), none⟩])
  (.cond (.t 4) (.seq (.region [⟨(some 2), .mov (.k (.c (.slice none 0 (.exact 0)))), none⟩])
  .ret) .skip))
  (.seq (.region [⟨(some 5), .buildSl 91 0 [] [], none⟩, ⟨(some 6), .mov (.t 0), none⟩, ⟨(some 7), .app 91 2 4 (.t 5) (.t 6), none⟩, ⟨(some 2), .mov (.t 7), none⟩])
  .ret))), [.tmp 2], false⟩
theorem c52 : kk 52 = some k52 := by kernel_rfl
/-- loop.example/g01263/impl.nextSeed -/
def k53 : KF := ⟨6, (.seq (.region [⟨(some 2), .mov (.k (.c (.int .u32 0))), none⟩])
  (.seq (.region [⟨(some 3), .mov (.t 0), none⟩, ⟨(some 4), .bin .mul .int (.k (.c (.int .u32 1664525))) (.t 3), none⟩, ⟨(some 5), .bin .add .int (.t 4) (.k (.c (.int .u32 1013904223))), none⟩, ⟨(some 2), .mov (.t 5), none⟩])
  .ret)), [.tmp 2], true⟩
theorem c53 : kk 53 = some k53 := by kernel_rfl
/-- loop.example/g01263/spec.l04Next -/
def k54 : KF := ⟨6, (.seq (.region [⟨(some 2), .mov (.k (.c (.int .u32 0))), none⟩])
  (.seq (.region [⟨(some 3), .mov (.t 0), none⟩, ⟨(some 4), .bin .mul .int (.k (.c (.int .u32 1664525))) (.t 3), none⟩, ⟨(some 5), .bin .add .int (.t 4) (.k (.c (.int .u32 1013904223))), none⟩, ⟨(some 2), .mov (.t 5), none⟩])
  .ret)), [.tmp 2], true⟩
theorem c54 : kk 54 = some k54 := by kernel_rfl
/-- (*loop.example/g01263/spec.l00Src).one -/
def k60 : KF := ⟨9, (.seq (.region [⟨(some 4), .mov (.k (.c (.bool false))), none⟩])
  (.seq (.region [⟨(some 5), .mov (.t 0), none⟩, ⟨(some 6), .mov (.t 1), none⟩, ⟨(some 7), .call (.k (.c (.fn 36 []))) [(.t 5), (.t 6)], none⟩, ⟨(some 8), .bin .eql .int (.t 7) (.k (.c (.int .i64 0))), none⟩, ⟨(some 4), .mov (.t 8), none⟩])
  .ret)), [.tmp 4], true⟩
theorem c60 : kk 60 = some k60 := by kernel_rfl
/-- loop.example/g01263/spec.GrainFrom -/
def l61_0 : KC := (.seq (.seq (.region [⟨(some 7), .mov (.t 5), none⟩, ⟨(some 8), .bin .lss .int (.t 7) (.k (.c (.int .i64 16))), none⟩])
  (.cond (.t 8) .skip (.exit 0)))
  (.seq (.block 1 (.seq (.region [⟨(some 11), .mov (.t 0), none⟩, ⟨(some 12), .bin .mul .int (.k (.c (.int .u32 1664525))) (.t 11), none⟩, ⟨(some 13), .bin .add .int (.t 12) (.k (.c (.int .u32 1013904223))), none⟩, ⟨(some 0), .mov (.t 13), none⟩])
  (.region [⟨(some 14), .mov (.t 5), none⟩, ⟨(some 15), .mov (.t 0), none⟩, ⟨(some 16), .bin .quo .int (.t 15) (.k (.c (.int .u32 65536))), none⟩, ⟨(some 17), .bin .rem .int (.t 16) (.k (.c (.int .u32 7))), none⟩, ⟨(some 18), .conv .i8 (.t 17), none⟩, ⟨(some 19), .bin .sub .int (.t 18) (.k (.c (.int .i8 3))), none⟩, ⟨(some 20), .idxA 16 1 (.t 4) (.t 14), none⟩, ⟨none, .store 1 (.t 20) (.t 19), none⟩])))
  (.region [⟨(some 9), .mov (.t 5), none⟩, ⟨(some 10), .bin .add .int (.t 9) (.k (.c (.int .i64 1))), none⟩, ⟨(some 5), .mov (.t 10), none⟩])))
def k61 : KF := ⟨23, (.seq (.region [⟨(some 2), .alloc 27 [(.int .i8 0), (.int .i8 0), (.int .i8 0), (.int .i8 0), (.int .i8 0), (.int .i8 0), (.int .i8 0), (.int .i8 0), (.int .i8 0), (.int .i8 0), (.int .i8 0), (.int .i8 0), (.int .i8 0), (.int .i8 0), (.int .i8 0), (.int .i8 0)], none⟩, ⟨(some 3), .mov (.k (.c (.int .u32 0))), none⟩])
  (.seq (.region [⟨(some 6), .build [(.int .i8 0), (.int .i8 0), (.int .i8 0), (.int .i8 0), (.int .i8 0), (.int .i8 0), (.int .i8 0), (.int .i8 0), (.int .i8 0), (.int .i8 0), (.int .i8 0), (.int .i8 0), (.int .i8 0), (.int .i8 0), (.int .i8 0), (.int .i8 0)] [], none⟩, ⟨(some 4), .alloc 27 [(.int .i8 0), (.int .i8 0), (.int .i8 0), (.int .i8 0), (.int .i8 0), (.int .i8 0), (.int .i8 0), (.int .i8 0), (.int .i8 0), (.int .i8 0), (.int .i8 0), (.int .i8 0), (.int .i8 0), (.int .i8 0), (.int .i8 0), (.int .i8 0)], none⟩, ⟨none, .store 16 (.t 4) (.t 6), none⟩])
  (.seq (.seq (.region [⟨(some 5), .mov (.k (.c (.int .i64 0))), none⟩])
  (.block 0 (.loop l61_0)))
  (.seq (.region [⟨(some 21), .loadN 16 (.t 4), none⟩, ⟨(some 22), .mov (.t 0), none⟩, ⟨none, .store 16 (.t 2) (.t 21), none⟩, ⟨(some 3), .mov (.t 22), none⟩])
  .ret)))), [.cellN 2 16, .tmp 3], true⟩
theorem c61 : kk 61 = some k61 := by kernel_rfl
/-- loop.example/g01263/spec.l01Widths -/
def k62 : KF := ⟨2, (.seq (.region [⟨(some 0), .mov (.k (.c (.slice none 0 (.exact 0)))), none⟩])
  (.seq (.region [⟨(some 1), .buildSl 2 6 [(.int .i64 0), (.int .i64 0), (.int .i64 0), (.int .i64 0), (.int .i64 0), (.int .i64 0)] [(0, 1, (.k (.c (.int .i64 1)))), (1, 1, (.k (.c (.int .i64 2)))), (2, 1, (.k (.c (.int .i64 4)))), (3, 1, (.k (.c (.int .i64 6)))), (4, 1, (.k (.c (.int .i64 9)))), (5, 1, (.k (.c (.int .i64 12))))], none⟩, ⟨(some 0), .mov (.t 1), none⟩])
  .ret)), [.tmp 0], false⟩
theorem c62 : kk 62 = some k62 := by kernel_rfl
/-- loop.example/g01263/impl.room -/
def l63_0 : KC := (.seq (.region [⟨(some 11), .bin .lss .int (.t 10) (.k (.c (.int .i64 201))), none⟩])
  (.seq (.cond (.t 11) .skip (.exit 0))
  (.seq (.block 1 (.seq (.region [⟨(some 12), .mov (.t 10), none⟩, ⟨(some 6), .mov (.t 12), none⟩])
  (.seq (.region [⟨(some 14), .loadN 18 (.t 2), none⟩, ⟨(some 15), .mov (.t 1), none⟩, ⟨(some 16), .mov (.t 6), none⟩, ⟨(some 17), .call (.k (.c (.fn 81 []))) [(.t 14), (.t 15), (.t 16)], none⟩, ⟨(some 13), .mov (.t 17), none⟩, ⟨(some 18), .ext (.t 13) 0, none⟩, ⟨(some 19), .ext (.t 13) 1, none⟩, ⟨(some 7), .alloc 29 [(.bool false), (.slice none 0 (.exact 0)), (.int .i8 0), (.int .i8 0), (.int .i8 0), (.int .i8 0), (.int .i8 0), (.int .i8 0), (.int .i8 0), (.int .i8 0), (.int .i8 0), (.int .i8 0), (.int .i8 0), (.int .i8 0), (.int .i8 0), (.int .i8 0), (.int .i8 0), (.int .i8 0)], none⟩, ⟨none, .store 18 (.t 7) (.t 18), none⟩, ⟨(some 8), .mov (.t 19), none⟩])
  (.seq (.region [⟨(some 20), .mov (.t 8), none⟩])
  (.cond (.t 20) (.region [⟨(some 21), .mov (.t 5), none⟩, ⟨(some 22), .mov (.t 6), none⟩, ⟨(some 23), .buildSl 2 1 [(.int .i64 0)] [(0, 1, (.t 22))], none⟩, ⟨(some 24), .app 2 1 8 (.t 21) (.t 23), none⟩, ⟨(some 5), .mov (.t 24), none⟩]) .skip)))))
  (.region [⟨(some 25), .bin .add .int (.t 10) (.k (.c (.int .i64 1))), none⟩, ⟨(some 10), .mov (.t 25), none⟩]))))
def k63 : KF := ⟨27, (.seq (.region [⟨(some 2), .box 29 (.t 0), none⟩, ⟨(some 4), .mov (.k (.c (.slice none 0 (.exact 0)))), none⟩])
  (.seq (.region [⟨(some 9), .buildSl 2 0 [] [], none⟩, ⟨(some 5), .mov (.t 9), none⟩])
  (.seq (.seq (.region [⟨(some 10), .mov (.k (.c (.int .i64 0))), none⟩])
  (.block 0 (.loop l63_0)))
  (.seq (.region [⟨(some 26), .mov (.t 5), none⟩, ⟨(some 4), .mov (.t 26), none⟩])
  .ret)))), [.tmp 4], false⟩
theorem c63 : kk 63 = some k63 := by kernel_rfl
/-- loop.example/g01263/spec.l01Notches -/
def l64_0 : KC := (.seq (.seq (.region [⟨(some 8), .mov (.t 3), none⟩, ⟨(some 9), .mov (.t 0), none⟩, ⟨(some 10), .len false (.t 9), none⟩, ⟨(some 11), .bin .lss .int (.t 8) (.t 10), none⟩])
  (.cond (.t 11) .skip (.exit 0)))
  (.seq (.block 1 (.seq (.region [⟨(some 14), .mov (.t 0), none⟩, ⟨(some 15), .mov (.t 3), none⟩, ⟨(some 16), .idxS 2 (.t 14) (.t 15), none⟩, ⟨(some 17), .loadN 2 (.t 16), none⟩, ⟨(some 4), .alloc 91 [(.int .i8 0), (.int .i16 0)], none⟩, ⟨none, .store 2 (.t 4) (.t 17), none⟩])
  (.seq (.seq (.region [⟨(some 18), .fldA 0 (.t 4), none⟩, ⟨(some 19), .load1 (.t 18), none⟩, ⟨(some 20), .conv .i64 (.t 19), none⟩, ⟨(some 21), .call (.k (.c (.fn 69 []))) [(.t 20)], none⟩, ⟨(some 22), .un .not (.t 21), none⟩, ⟨(some 23), .mov (.t 22), none⟩, ⟨(some 24), .fldA 1 (.t 4), some (23, false)⟩, ⟨(some 25), .load1 (.t 24), some (23, false)⟩, ⟨(some 26), .bin .lss .int (.t 25) (.k (.c (.int .i16 0))), some (23, false)⟩, ⟨(some 27), .pick (.t 23) (.k (.c (.bool true))) (.t 26), none⟩, ⟨(some 28), .mov (.t 27), none⟩, ⟨(some 29), .loadN 2 (.t 4), some (28, false)⟩, ⟨(some 30), .call (.k (.c (.fn 82 []))) [(.t 29)], some (28, false)⟩, ⟨(some 31), .bin .gtr .int (.t 30) (.k (.c (.int .i64 200))), some (28, false)⟩, ⟨(some 32), .pick (.t 28) (.k (.c (.bool true))) (.t 31), none⟩])
  (.cond (.t 32) (.seq (.region [⟨(some 2), .mov (.k (.c (.bool false))), none⟩])
  .ret) .skip))
  (.seq (.drawn [(⟨(some 33), .mov (.t 3), none⟩, []), (⟨(some 34), .bin .gtr .int (.t 33) (.k (.c (.int .i64 0))), none⟩, []), (⟨(some 35), .mov (.t 34), none⟩, []), (⟨(some 36), .fldA 0 (.t 4), some (35, true)⟩, []), (⟨(some 37), .load1 (.t 36), some (35, true)⟩, []), (⟨(some 38), .mov (.t 0), some (35, true)⟩, []), (⟨(some 39), .mov (.t 3), some (35, true)⟩, []), (⟨(some 40), .bin .sub .int (.t 39) (.k (.c (.int .i64 1))), some (35, true)⟩, []), (⟨(some 41), .idxS 2 (.t 38) (.t 40), some (35, true)⟩, []), (⟨(some 42), .fldA 0 (.t 41), some (35, true)⟩, []), (⟨(some 43), .load1 (.t 42), some (35, true)⟩, []), (⟨(some 44), .bin .gtr .int (.t 37) (.t 43), some (35, true)⟩, []), (⟨(some 45), .mov (.t 44), some (35, true)⟩, []), (⟨(some 46), .fldA 1 (.t 4), some (45, false)⟩, []), (⟨(some 47), .load1 (.t 46), some (45, false)⟩, []), (⟨(some 48), .conv .i64 (.t 47), some (45, false)⟩, []), (⟨(some 49), .mov (.t 0), some (45, false)⟩, []), (⟨(some 50), .mov (.t 3), some (45, false)⟩, []), (⟨(some 51), .bin .sub .int (.t 50) (.k (.c (.int .i64 1))), some (45, false)⟩, []), (⟨(some 52), .idxS 2 (.t 49) (.t 51), some (45, false)⟩, []), (⟨(some 53), .loadN 2 (.t 52), some (45, false)⟩, []), (⟨(some 54), .call (.k (.c (.fn 82 []))) [(.t 53)], some (45, false)⟩, [⟨(some 47), .load1 (.t 46), some (45, false)⟩]), (⟨(some 55), .bin .leq .int (.t 48) (.t 54), some (45, false)⟩, []), (⟨(some 56), .pick (.t 45) (.k (.c (.bool true))) (.t 55), some (35, true)⟩, []), (⟨(some 57), .pick (.t 35) (.t 56) (.k (.c (.bool false))), none⟩, [])])
  (.cond (.t 57) (.seq (.region [⟨(some 2), .mov (.k (.c (.bool false))), none⟩])
  .ret) .skip)))))
  (.region [⟨(some 12), .mov (.t 3), none⟩, ⟨(some 13), .bin .add .int (.t 12) (.k (.c (.int .i64 1))), none⟩, ⟨(some 3), .mov (.t 13), none⟩])))
def k64 : KF := ⟨58, (.seq (.region [⟨(some 2), .mov (.k (.c (.bool false))), none⟩])
  (.seq (.seq (.region [⟨(some 5), .mov (.t 0), none⟩, ⟨(some 6), .len false (.t 5), none⟩, ⟨(some 7), .bin .gtr .int (.t 6) (.k (.c (.int .i64 60))), none⟩])
  (.cond (.t 7) (.seq (.region [⟨(some 2), .mov (.k (.c (.bool false))), none⟩])
  .ret) .skip))
  (.seq (.seq (.region [⟨(some 3), .mov (.k (.c (.int .i64 0))), none⟩])
  (.block 0 (.loop l64_0)))
  (.seq (.region [⟨(some 2), .mov (.k (.c (.bool true))), none⟩])
  .ret)))), [.tmp 2], true⟩
theorem c64 : kk 64 = some k64 := by kernel_rfl
/-- loop.example/g01263/spec.l01Grain -/
def l65_0 : KC := (.seq (.seq (.region [⟨(some 4), .mov (.t 3), none⟩, ⟨(some 5), .bin .lss .int (.t 4) (.k (.c (.int .i64 16))), none⟩])
  (.cond (.t 5) .skip (.exit 0)))
  (.seq (.block 1 (.seq (.region [⟨(some 8), .mov (.t 3), none⟩, ⟨(some 9), .idxA 16 1 (.t 1) (.t 8), none⟩, ⟨(some 10), .load1 (.t 9), none⟩, ⟨(some 11), .bin .lss .int (.t 10) (.k (.c (.int .i8 (-3)))), none⟩, ⟨(some 12), .mov (.t 11), none⟩, ⟨(some 13), .mov (.t 3), some (12, false)⟩, ⟨(some 14), .idxA 16 1 (.t 1) (.t 13), some (12, false)⟩, ⟨(some 15), .load1 (.t 14), some (12, false)⟩, ⟨(some 16), .bin .gtr .int (.t 15) (.k (.c (.int .i8 3))), some (12, false)⟩, ⟨(some 17), .pick (.t 12) (.k (.c (.bool true))) (.t 16), none⟩])
  (.cond (.t 17) (.seq (.region [⟨(some 2), .mov (.k (.c (.bool false))), none⟩])
  .ret) .skip)))
  (.region [⟨(some 6), .mov (.t 3), none⟩, ⟨(some 7), .bin .add .int (.t 6) (.k (.c (.int .i64 1))), none⟩, ⟨(some 3), .mov (.t 7), none⟩])))
def k65 : KF := ⟨18, (.seq (.region [⟨(some 1), .box 27 (.t 0), none⟩, ⟨(some 2), .mov (.k (.c (.bool false))), none⟩])
  (.seq (.seq (.region [⟨(some 3), .mov (.k (.c (.int .i64 0))), none⟩])
  (.block 0 (.loop l65_0)))
  (.seq (.region [⟨(some 2), .mov (.k (.c (.bool true))), none⟩])
  .ret))), [.tmp 2], true⟩
theorem c65 : kk 65 = some k65 := by kernel_rfl
/-- (*loop.example/g01263/spec.l00Src).next -/
def k66 : KF := ⟨62, (.seq (.region [⟨(some 2), .mov (.k (.c (.int .i64 0))), none⟩])
  (.seq (.region [⟨(some 3), .mov (.k (.c (.int .i64 0))), none⟩])
  (.seq (.seq (.drawn [(⟨(some 4), .mov (.t 0), none⟩, []), (⟨(some 5), .nilchk (.t 4), none⟩, []), (⟨(some 6), .fldA 1 (.t 5), none⟩, []), (⟨(some 7), .load1 (.t 6), none⟩, []), (⟨(some 8), .mov (.t 0), none⟩, []), (⟨(some 9), .nilchk (.t 8), none⟩, []), (⟨(some 10), .fldA 0 (.t 9), none⟩, []), (⟨(some 11), .load1 (.t 10), none⟩, []), (⟨(some 12), .len false (.t 11), none⟩, []), (⟨(some 13), .bin .lss .int (.t 7) (.t 12), none⟩, [])])
  (.cond (.t 13) (.drawn [(⟨(some 14), .mov (.t 0), none⟩, []), (⟨(some 15), .nilchk (.t 14), none⟩, []), (⟨(some 16), .fldA 0 (.t 15), none⟩, []), (⟨(some 17), .load1 (.t 16), none⟩, []), (⟨(some 18), .mov (.t 0), none⟩, []), (⟨(some 19), .nilchk (.t 18), none⟩, []), (⟨(some 20), .fldA 1 (.t 19), none⟩, []), (⟨(some 21), .load1 (.t 20), none⟩, []), (⟨(some 22), .idxS 1 (.t 17) (.t 21), none⟩, []), (⟨(some 23), .load1 (.t 22), none⟩, []), (⟨(some 24), .conv .i64 (.t 23), none⟩, []), (⟨(some 3), .mov (.t 24), none⟩, [])]) .skip))
  (.seq (.region [⟨(some 25), .mov (.t 0), none⟩, ⟨(some 26), .nilchk (.t 25), none⟩, ⟨(some 27), .fldA 1 (.t 26), none⟩, ⟨(some 28), .load1 (.t 27), none⟩, ⟨(some 29), .bin .add .int (.t 28) (.k (.c (.int .i64 1))), none⟩, ⟨(some 30), .nilchk (.t 25), none⟩, ⟨(some 31), .fldA 1 (.t 30), none⟩, ⟨none, .store 1 (.t 31) (.t 29), none⟩])
  (.seq (.region [⟨(some 32), .mov (.t 0), none⟩, ⟨(some 33), .mov (.t 0), none⟩, ⟨(some 34), .nilchk (.t 33), none⟩, ⟨(some 35), .fldA 2 (.t 34), none⟩, ⟨(some 36), .load1 (.t 35), none⟩, ⟨(some 37), .bin .mul .int (.t 36) (.k (.c (.int .u64 6364136223846793005))), none⟩, ⟨(some 38), .mov (.t 3), none⟩, ⟨(some 39), .conv .u64 (.t 38), none⟩, ⟨(some 40), .bin .add .int (.t 37) (.t 39), none⟩, ⟨(some 41), .bin .add .int (.t 40) (.k (.c (.int .u64 1442695040888963407))), none⟩, ⟨(some 42), .nilchk (.t 32), none⟩, ⟨(some 43), .fldA 2 (.t 42), none⟩, ⟨none, .store 1 (.t 43) (.t 41), none⟩])
  (.seq (.seq (.drawn [(⟨(some 44), .mov (.t 0), none⟩, []), (⟨(some 45), .nilchk (.t 44), none⟩, []), (⟨(some 46), .fldA 1 (.t 45), none⟩, []), (⟨(some 47), .load1 (.t 46), none⟩, []), (⟨(some 48), .mov (.t 0), none⟩, []), (⟨(some 49), .nilchk (.t 48), none⟩, []), (⟨(some 50), .fldA 0 (.t 49), none⟩, []), (⟨(some 51), .load1 (.t 50), none⟩, []), (⟨(some 52), .len false (.t 51), none⟩, []), (⟨(some 53), .bin .leq .int (.t 47) (.t 52), none⟩, [])])
  (.cond (.t 53) (.seq (.region [⟨(some 54), .mov (.t 3), none⟩, ⟨(some 2), .mov (.t 54), none⟩])
  .ret) .skip))
  (.seq (.region [⟨(some 55), .mov (.t 0), none⟩, ⟨(some 56), .nilchk (.t 55), none⟩, ⟨(some 57), .fldA 2 (.t 56), none⟩, ⟨(some 58), .load1 (.t 57), none⟩, ⟨(some 59), .bin .shr .int (.t 58) (.k (.c (.int .u64 40))), none⟩, ⟨(some 60), .bin .and .int (.t 59) (.k (.c (.int .u64 255))), none⟩, ⟨(some 61), .conv .i64 (.t 60), none⟩, ⟨(some 2), .mov (.t 61), none⟩])
  .ret))))))), [.tmp 2], true⟩
theorem c66 : kk 66 = some k66 := by kernel_rfl
/-- loop.example/g01263/impl.CutNotch -/
def k67 : KF := ⟨39, (.seq (.region [⟨(some 3), .box 29 (.t 0), none⟩, ⟨(some 6), .alloc 29 [(.bool false), (.slice none 0 (.exact 0)), (.int .i8 0), (.int .i8 0), (.int .i8 0), (.int .i8 0), (.int .i8 0), (.int .i8 0), (.int .i8 0), (.int .i8 0), (.int .i8 0), (.int .i8 0), (.int .i8 0), (.int .i8 0), (.int .i8 0), (.int .i8 0), (.int .i8 0), (.int .i8 0)], none⟩, ⟨(some 7), .mov (.k (.c (.int .i64 0))), none⟩])
  (.seq (.block 0 (.seq (.region [⟨(some 11), .loadN 18 (.t 3), none⟩, ⟨(some 12), .call (.k (.c (.fn 19 []))) [(.t 11)], none⟩, ⟨(some 13), .un .not (.t 12), none⟩, ⟨(some 10), .mov (.t 13), none⟩])
  (.cond (.t 10) (.seq (.region [⟨(some 14), .build [(.bool false), (.slice none 0 (.exact 0)), (.int .i8 0), (.int .i8 0), (.int .i8 0), (.int .i8 0), (.int .i8 0), (.int .i8 0), (.int .i8 0), (.int .i8 0), (.int .i8 0), (.int .i8 0), (.int .i8 0), (.int .i8 0), (.int .i8 0), (.int .i8 0), (.int .i8 0), (.int .i8 0)] [], none⟩, ⟨none, .store 18 (.t 6) (.t 14), none⟩, ⟨(some 7), .mov (.k (.c (.int .i64 1))), none⟩])
  .ret) (.seq (.region [⟨(some 16), .mov (.t 1), none⟩, ⟨(some 17), .call (.k (.c (.fn 48 []))) [(.t 16)], none⟩, ⟨(some 18), .un .not (.t 17), none⟩, ⟨(some 19), .mov (.t 18), none⟩, ⟨(some 20), .mov (.t 2), some (19, false)⟩, ⟨(some 21), .bin .lss .int (.t 20) (.k (.c (.int .i64 0))), some (19, false)⟩, ⟨(some 22), .pick (.t 19) (.k (.c (.bool true))) (.t 21), none⟩, ⟨(some 23), .mov (.t 22), none⟩, ⟨(some 24), .mov (.t 2), some (23, false)⟩, ⟨(some 25), .bin .gtr .int (.t 24) (.k (.c (.int .i64 200))), some (23, false)⟩, ⟨(some 26), .pick (.t 23) (.k (.c (.bool true))) (.t 25), none⟩, ⟨(some 15), .mov (.t 26), none⟩])
  (.cond (.t 15) (.seq (.region [⟨(some 27), .build [(.bool false), (.slice none 0 (.exact 0)), (.int .i8 0), (.int .i8 0), (.int .i8 0), (.int .i8 0), (.int .i8 0), (.int .i8 0), (.int .i8 0), (.int .i8 0), (.int .i8 0), (.int .i8 0), (.int .i8 0), (.int .i8 0), (.int .i8 0), (.int .i8 0), (.int .i8 0), (.int .i8 0)] [], none⟩, ⟨none, .store 18 (.t 6) (.t 27), none⟩, ⟨(some 7), .mov (.k (.c (.int .i64 2))), none⟩])
  .ret) .skip)))))
  (.seq (.region [⟨(some 29), .loadN 18 (.t 3), none⟩, ⟨(some 30), .mov (.t 1), none⟩, ⟨(some 31), .mov (.t 2), none⟩, ⟨(some 32), .call (.k (.c (.fn 81 []))) [(.t 29), (.t 30), (.t 31)], none⟩, ⟨(some 28), .mov (.t 32), none⟩, ⟨(some 33), .ext (.t 28) 0, none⟩, ⟨(some 34), .ext (.t 28) 1, none⟩, ⟨(some 8), .alloc 29 [(.bool false), (.slice none 0 (.exact 0)), (.int .i8 0), (.int .i8 0), (.int .i8 0), (.int .i8 0), (.int .i8 0), (.int .i8 0), (.int .i8 0), (.int .i8 0), (.int .i8 0), (.int .i8 0), (.int .i8 0), (.int .i8 0), (.int .i8 0), (.int .i8 0), (.int .i8 0), (.int .i8 0)], none⟩, ⟨none, .store 18 (.t 8) (.t 33), none⟩, ⟨(some 9), .mov (.t 34), none⟩])
  (.seq (.seq (.region [⟨(some 35), .mov (.t 9), none⟩, ⟨(some 36), .un .not (.t 35), none⟩])
  (.cond (.t 36) (.seq (.region [⟨(some 37), .build [(.bool false), (.slice none 0 (.exact 0)), (.int .i8 0), (.int .i8 0), (.int .i8 0), (.int .i8 0), (.int .i8 0), (.int .i8 0), (.int .i8 0), (.int .i8 0), (.int .i8 0), (.int .i8 0), (.int .i8 0), (.int .i8 0), (.int .i8 0), (.int .i8 0), (.int .i8 0), (.int .i8 0)] [], none⟩, ⟨none, .store 18 (.t 6) (.t 37), none⟩, ⟨(some 7), .mov (.k (.c (.int .i64 4))), none⟩])
  .ret) .skip))
  (.seq (.region [⟨(some 38), .loadN 18 (.t 8), none⟩, ⟨none, .store 18 (.t 6) (.t 38), none⟩, ⟨(some 7), .mov (.k (.c (.int .i64 0))), none⟩])
  .ret))))), [.cellN 6 18, .tmp 7], false⟩
theorem c67 : kk 67 = some k67 := by kernel_rfl
/-- loop.example/g01263/spec.CutNotch -/
def k68 : KF := ⟨35, (.seq (.region [⟨(some 3), .box 29 (.t 0), none⟩, ⟨(some 6), .alloc 29 [(.bool false), (.slice none 0 (.exact 0)), (.int .i8 0), (.int .i8 0), (.int .i8 0), (.int .i8 0), (.int .i8 0), (.int .i8 0), (.int .i8 0), (.int .i8 0), (.int .i8 0), (.int .i8 0), (.int .i8 0), (.int .i8 0), (.int .i8 0), (.int .i8 0), (.int .i8 0), (.int .i8 0)], none⟩, ⟨(some 7), .mov (.k (.c (.int .i64 0))), none⟩])
  (.seq (.seq (.region [⟨(some 9), .call (.k (.c (.fn 34 []))) [(.t 3)], none⟩, ⟨(some 10), .un .not (.t 9), none⟩])
  (.cond (.t 10) (.seq (.region [⟨(some 11), .build [(.bool false), (.slice none 0 (.exact 0)), (.int .i8 0), (.int .i8 0), (.int .i8 0), (.int .i8 0), (.int .i8 0), (.int .i8 0), (.int .i8 0), (.int .i8 0), (.int .i8 0), (.int .i8 0), (.int .i8 0), (.int .i8 0), (.int .i8 0), (.int .i8 0), (.int .i8 0), (.int .i8 0)] [], none⟩, ⟨none, .store 18 (.t 6) (.t 11), none⟩, ⟨(some 7), .mov (.k (.c (.int .i64 1))), none⟩])
  .ret) .skip))
  (.seq (.seq (.region [⟨(some 12), .mov (.t 1), none⟩, ⟨(some 13), .call (.k (.c (.fn 69 []))) [(.t 12)], none⟩, ⟨(some 14), .un .not (.t 13), none⟩, ⟨(some 15), .mov (.t 14), none⟩, ⟨(some 16), .mov (.t 2), some (15, false)⟩, ⟨(some 17), .call (.k (.c (.fn 70 []))) [(.t 16), (.k (.c (.int .i64 0))), (.k (.c (.int .i64 200)))], some (15, false)⟩, ⟨(some 18), .un .not (.t 17), some (15, false)⟩, ⟨(some 19), .pick (.t 15) (.k (.c (.bool true))) (.t 18), none⟩])
  (.cond (.t 19) (.seq (.region [⟨(some 20), .build [(.bool false), (.slice none 0 (.exact 0)), (.int .i8 0), (.int .i8 0), (.int .i8 0), (.int .i8 0), (.int .i8 0), (.int .i8 0), (.int .i8 0), (.int .i8 0), (.int .i8 0), (.int .i8 0), (.int .i8 0), (.int .i8 0), (.int .i8 0), (.int .i8 0), (.int .i8 0), (.int .i8 0)] [], none⟩, ⟨none, .store 18 (.t 6) (.t 20), none⟩, ⟨(some 7), .mov (.k (.c (.int .i64 2))), none⟩])
  .ret) .skip))
  (.seq (.drawn [(⟨(some 21), .fldA 0 (.t 3), none⟩, []), (⟨(some 22), .load1 (.t 21), none⟩, []), (⟨(some 23), .fldA 1 (.t 3), none⟩, []), (⟨(some 24), .load1 (.t 23), none⟩, []), (⟨(some 25), .mov (.t 1), none⟩, []), (⟨(some 26), .mov (.t 2), none⟩, []), (⟨(some 28), .fldA 2 (.t 3), none⟩, []), (⟨(some 29), .loadN 16 (.t 28), none⟩, []), (⟨(some 27), .call (.k (.c (.fn 83 []))) [(.t 24), (.t 25), (.t 26)], none⟩, [⟨(some 22), .load1 (.t 21), none⟩, ⟨(some 29), .loadN 16 (.t 28), none⟩]), (⟨(some 30), .build [(.bool false), (.slice none 0 (.exact 0)), (.int .i8 0), (.int .i8 0), (.int .i8 0), (.int .i8 0), (.int .i8 0), (.int .i8 0), (.int .i8 0), (.int .i8 0), (.int .i8 0), (.int .i8 0), (.int .i8 0), (.int .i8 0), (.int .i8 0), (.int .i8 0), (.int .i8 0), (.int .i8 0)] [(0, 1, (.t 22)), (1, 1, (.t 27)), (2, 16, (.t 29))], none⟩, []), (⟨(some 8), .alloc 29 [(.bool false), (.slice none 0 (.exact 0)), (.int .i8 0), (.int .i8 0), (.int .i8 0), (.int .i8 0), (.int .i8 0), (.int .i8 0), (.int .i8 0), (.int .i8 0), (.int .i8 0), (.int .i8 0), (.int .i8 0), (.int .i8 0), (.int .i8 0), (.int .i8 0), (.int .i8 0), (.int .i8 0)], none⟩, [⟨(some 22), .load1 (.t 21), none⟩, ⟨(some 24), .load1 (.t 23), none⟩, ⟨(some 29), .loadN 16 (.t 28), none⟩]), (⟨none, .store 18 (.t 8) (.t 30), none⟩, [])])
  (.seq (.seq (.region [⟨(some 31), .call (.k (.c (.fn 34 []))) [(.t 8)], none⟩, ⟨(some 32), .un .not (.t 31), none⟩])
  (.cond (.t 32) (.seq (.region [⟨(some 33), .build [(.bool false), (.slice none 0 (.exact 0)), (.int .i8 0), (.int .i8 0), (.int .i8 0), (.int .i8 0), (.int .i8 0), (.int .i8 0), (.int .i8 0), (.int .i8 0), (.int .i8 0), (.int .i8 0), (.int .i8 0), (.int .i8 0), (.int .i8 0), (.int .i8 0), (.int .i8 0), (.int .i8 0)] [], none⟩, ⟨none, .store 18 (.t 6) (.t 33), none⟩, ⟨(some 7), .mov (.k (.c (.int .i64 4))), none⟩])
  .ret) .skip))
  (.seq (.region [⟨(some 34), .loadN 18 (.t 8), none⟩, ⟨none, .store 18 (.t 6) (.t 34), none⟩, ⟨(some 7), .mov (.k (.c (.int .i64 0))), none⟩])
  .ret)))))), [.cellN 6 18, .tmp 7], false⟩
theorem c68 : kk 68 = some k68 := by kernel_rfl
/-- loop.example/g01263/spec.l01Kind -/
def k69 : KF := ⟨5, (.seq (.region [⟨(some 2), .mov (.k (.c (.bool false))), none⟩])
  (.seq (.region [⟨(some 3), .mov (.t 0), none⟩, ⟨(some 4), .call (.k (.c (.fn 70 []))) [(.t 3), (.k (.c (.int .i64 0))), (.k (.c (.int .i64 5)))], none⟩, ⟨(some 2), .mov (.t 4), none⟩])
  .ret)), [.tmp 2], true⟩
theorem c69 : kk 69 = some k69 := by kernel_rfl
/-- loop.example/g01263/spec.l00In -/
def k70 : KF := ⟨15, (.seq (.region [⟨(some 6), .mov (.k (.c (.bool false))), none⟩])
  (.seq (.region [⟨(some 7), .mov (.t 0), none⟩, ⟨(some 8), .mov (.t 1), none⟩, ⟨(some 9), .bin .geq .int (.t 7) (.t 8), none⟩, ⟨(some 10), .mov (.t 9), none⟩, ⟨(some 11), .mov (.t 0), some (10, true)⟩, ⟨(some 12), .mov (.t 2), some (10, true)⟩, ⟨(some 13), .bin .leq .int (.t 11) (.t 12), some (10, true)⟩, ⟨(some 14), .pick (.t 10) (.t 13) (.k (.c (.bool false))), none⟩, ⟨(some 6), .mov (.t 14), none⟩])
  .ret)), [.tmp 6], true⟩
theorem c70 : kk 70 = some k70 := by kernel_rfl
/-- loop.example/g01263/spec.l04Copy -/
def k71 : KF := ⟨17, (.seq (.region [⟨(some 2), .alloc 29 [(.bool false), (.slice none 0 (.exact 0)), (.int .i8 0), (.int .i8 0), (.int .i8 0), (.int .i8 0), (.int .i8 0), (.int .i8 0), (.int .i8 0), (.int .i8 0), (.int .i8 0), (.int .i8 0), (.int .i8 0), (.int .i8 0), (.int .i8 0), (.int .i8 0), (.int .i8 0), (.int .i8 0)], none⟩])
  (.seq (.drawn [(⟨(some 3), .mov (.t 0), none⟩, []), (⟨(some 4), .nilchk (.t 3), none⟩, []), (⟨(some 5), .fldA 0 (.t 4), none⟩, []), (⟨(some 6), .load1 (.t 5), none⟩, []), (⟨(some 7), .mov (.t 0), none⟩, []), (⟨(some 8), .nilchk (.t 7), none⟩, []), (⟨(some 9), .fldA 1 (.t 8), none⟩, []), (⟨(some 10), .load1 (.t 9), none⟩, []), (⟨(some 12), .mov (.t 0), none⟩, []), (⟨(some 13), .nilchk (.t 12), none⟩, []), (⟨(some 14), .fldA 2 (.t 13), none⟩, []), (⟨(some 15), .loadN 16 (.t 14), none⟩, []), (⟨(some 11), .call (.k (.c (.fn 84 []))) [(.t 10)], none⟩, [⟨(some 6), .load1 (.t 5), none⟩, ⟨(some 15), .loadN 16 (.t 14), none⟩]), (⟨(some 16), .build [(.bool false), (.slice none 0 (.exact 0)), (.int .i8 0), (.int .i8 0), (.int .i8 0), (.int .i8 0), (.int .i8 0), (.int .i8 0), (.int .i8 0), (.int .i8 0), (.int .i8 0), (.int .i8 0), (.int .i8 0), (.int .i8 0), (.int .i8 0), (.int .i8 0), (.int .i8 0), (.int .i8 0)] [(0, 1, (.t 6)), (1, 1, (.t 11)), (2, 16, (.t 15))], none⟩, []), (⟨none, .store 18 (.t 2) (.t 16), none⟩, [])])
  .ret)), [.cellN 2 18], false⟩
theorem c71 : kk 71 = some k71 := by kernel_rfl
/-- loop.example/g01263/impl.worth -/
def k72 : KF := ⟨7, (.seq (.region [⟨(some 2), .mov (.k (.c (.int .i64 0))), none⟩])
  (.seq (.region [⟨(some 3), .buildSl 2 6 [(.int .i64 0), (.int .i64 0), (.int .i64 0), (.int .i64 0), (.int .i64 0), (.int .i64 0)] [(0, 1, (.k (.c (.int .i64 1)))), (1, 1, (.k (.c (.int .i64 12)))), (2, 1, (.k (.c (.int .i64 240)))), (3, 1, (.k (.c (.int .i64 4800)))), (4, 1, (.k (.c (.int .i64 24000)))), (5, 1, (.k (.c (.int .i64 240000))))], none⟩, ⟨(some 4), .mov (.t 0), none⟩, ⟨(some 5), .idxS 1 (.t 3) (.t 4), none⟩, ⟨(some 6), .load1 (.t 5), none⟩, ⟨(some 2), .mov (.t 6), none⟩])
  .ret)), [.tmp 2], true⟩
theorem c72 : kk 72 = some k72 := by kernel_rfl
/-- loop.example/g01263/spec.l01SameNotches -/
def l76_0 : KC := (.seq (.seq (.region [⟨(some 11), .mov (.t 5), none⟩, ⟨(some 12), .mov (.t 0), none⟩, ⟨(some 13), .len false (.t 12), none⟩, ⟨(some 14), .bin .lss .int (.t 11) (.t 13), none⟩])
  (.cond (.t 14) .skip (.exit 0)))
  (.seq (.block 1 (.seq (.drawn [(⟨(some 17), .mov (.t 0), none⟩, []), (⟨(some 18), .mov (.t 5), none⟩, []), (⟨(some 19), .idxS 2 (.t 17) (.t 18), none⟩, []), (⟨(some 20), .loadN 2 (.t 19), none⟩, []), (⟨(some 21), .mov (.t 1), none⟩, []), (⟨(some 22), .mov (.t 5), none⟩, []), (⟨(some 23), .idxS 2 (.t 21) (.t 22), none⟩, []), (⟨(some 24), .loadN 2 (.t 23), none⟩, []), (⟨(some 25), .bin .neq (.agg [.int, .int]) (.t 20) (.t 24), none⟩, [])])
  (.cond (.t 25) (.seq (.region [⟨(some 4), .mov (.k (.c (.bool false))), none⟩])
  .ret) .skip)))
  (.region [⟨(some 15), .mov (.t 5), none⟩, ⟨(some 16), .bin .add .int (.t 15) (.k (.c (.int .i64 1))), none⟩, ⟨(some 5), .mov (.t 16), none⟩])))
def k76 : KF := ⟨26, (.seq (.region [⟨(some 4), .mov (.k (.c (.bool false))), none⟩])
  (.seq (.seq (.region [⟨(some 6), .mov (.t 0), none⟩, ⟨(some 7), .len false (.t 6), none⟩, ⟨(some 8), .mov (.t 1), none⟩, ⟨(some 9), .len false (.t 8), none⟩, ⟨(some 10), .bin .neq .int (.t 7) (.t 9), none⟩])
  (.cond (.t 10) (.seq (.region [⟨(some 4), .mov (.k (.c (.bool false))), none⟩])
  .ret) .skip))
  (.seq (.seq (.region [⟨(some 5), .mov (.k (.c (.int .i64 0))), none⟩])
  (.block 0 (.loop l76_0)))
  (.seq (.region [⟨(some 4), .mov (.k (.c (.bool true))), none⟩])
  .ret)))), [.tmp 4], true⟩
theorem c76 : kk 76 = some k76 := by kernel_rfl
/-- loop.example/g01263/impl.width -/
def k77 : KF := ⟨7, (.seq (.region [⟨(some 2), .mov (.k (.c (.int .i64 0))), none⟩])
  (.seq (.region [⟨(some 3), .buildSl 2 6 [(.int .i64 0), (.int .i64 0), (.int .i64 0), (.int .i64 0), (.int .i64 0), (.int .i64 0)] [(0, 1, (.k (.c (.int .i64 1)))), (1, 1, (.k (.c (.int .i64 2)))), (2, 1, (.k (.c (.int .i64 4)))), (3, 1, (.k (.c (.int .i64 6)))), (4, 1, (.k (.c (.int .i64 9)))), (5, 1, (.k (.c (.int .i64 12))))], none⟩, ⟨(some 4), .mov (.t 0), none⟩, ⟨(some 5), .idxS 1 (.t 3) (.t 4), none⟩, ⟨(some 6), .load1 (.t 5), none⟩, ⟨(some 2), .mov (.t 6), none⟩])
  .ret)), [.tmp 2], true⟩
theorem c77 : kk 77 = some k77 := by kernel_rfl
/-- loop.example/g01263/spec.l01Worths -/
def k78 : KF := ⟨2, (.seq (.region [⟨(some 0), .mov (.k (.c (.slice none 0 (.exact 0)))), none⟩])
  (.seq (.region [⟨(some 1), .buildSl 2 6 [(.int .i64 0), (.int .i64 0), (.int .i64 0), (.int .i64 0), (.int .i64 0), (.int .i64 0)] [(0, 1, (.k (.c (.int .i64 1)))), (1, 1, (.k (.c (.int .i64 12)))), (2, 1, (.k (.c (.int .i64 240)))), (3, 1, (.k (.c (.int .i64 4800)))), (4, 1, (.k (.c (.int .i64 24000)))), (5, 1, (.k (.c (.int .i64 240000))))], none⟩, ⟨(some 0), .mov (.t 1), none⟩])
  .ret)), [.tmp 0], false⟩
theorem c78 : kk 78 = some k78 := by kernel_rfl
/-- loop.example/g01263/impl.cut -/
def l81_0 : KC := (.seq (.seq (.region [⟨(some 9), .mov (.t 8), none⟩, ⟨(some 10), .fldA 1 (.t 3), none⟩, ⟨(some 11), .load1 (.t 10), none⟩, ⟨(some 12), .len false (.t 11), none⟩, ⟨(some 13), .bin .lss .int (.t 9) (.t 12), none⟩, ⟨(some 14), .mov (.t 13), none⟩, ⟨(some 15), .fldA 1 (.t 3), some (14, true)⟩, ⟨(some 16), .load1 (.t 15), some (14, true)⟩, ⟨(some 17), .mov (.t 8), some (14, true)⟩, ⟨(some 18), .idxS 2 (.t 16) (.t 17), some (14, true)⟩, ⟨(some 19), .fldA 1 (.t 18), some (14, true)⟩, ⟨(some 20), .load1 (.t 19), some (14, true)⟩, ⟨(some 21), .conv .i64 (.t 20), some (14, true)⟩, ⟨(some 22), .mov (.t 2), some (14, true)⟩, ⟨(some 23), .bin .leq .int (.t 21) (.t 22), some (14, true)⟩, ⟨(some 24), .pick (.t 14) (.t 23) (.k (.c (.bool false))), none⟩])
  (.cond (.t 24) .skip (.exit 0)))
  (.block 1 (.region [⟨(some 25), .mov (.t 8), none⟩, ⟨(some 26), .bin .add .int (.t 25) (.k (.c (.int .i64 1))), none⟩, ⟨(some 8), .mov (.t 26), none⟩])))
def k81 : KF := ⟨42, (.seq (.region [⟨(some 3), .box 29 (.t 0), none⟩, ⟨(some 6), .alloc 29 [(.bool false), (.slice none 0 (.exact 0)), (.int .i8 0), (.int .i8 0), (.int .i8 0), (.int .i8 0), (.int .i8 0), (.int .i8 0), (.int .i8 0), (.int .i8 0), (.int .i8 0), (.int .i8 0), (.int .i8 0), (.int .i8 0), (.int .i8 0), (.int .i8 0), (.int .i8 0), (.int .i8 0)], none⟩, ⟨(some 7), .mov (.k (.c (.bool false))), none⟩])
  (.seq (.region [⟨(some 8), .mov (.k (.c (.int .i64 0))), none⟩])
  (.seq (.block 0 (.loop l81_0))
  (.seq (.region [⟨(some 27), .fldA 1 (.t 3), none⟩, ⟨(some 28), .load1 (.t 27), none⟩, ⟨(some 29), .call (.k (.c (.fn 52 []))) [(.t 28)], none⟩, ⟨(some 30), .mov (.t 8), none⟩, ⟨(some 31), .mov (.t 1), none⟩, ⟨(some 32), .conv .i8 (.t 31), none⟩, ⟨(some 33), .mov (.t 2), none⟩, ⟨(some 34), .conv .i16 (.t 33), none⟩, ⟨(some 35), .build [(.int .i8 0), (.int .i16 0)] [(0, 1, (.t 32)), (1, 1, (.t 34))], none⟩, ⟨(some 36), .buildSl 91 1 [(.int .i8 0), (.int .i16 0)] [(0, 2, (.t 35))], none⟩, ⟨(some 37), .call (.k (.c (.fn 92 []))) [(.t 29), (.t 30), (.t 36)], none⟩, ⟨(some 38), .fldA 1 (.t 3), none⟩, ⟨none, .store 1 (.t 38) (.t 37), none⟩])
  (.seq (.drawn [(⟨(some 39), .loadN 18 (.t 3), none⟩, []), (⟨(some 40), .loadN 18 (.t 3), none⟩, []), (⟨(some 41), .call (.k (.c (.fn 19 []))) [(.t 40)], none⟩, [⟨(some 39), .loadN 18 (.t 3), none⟩]), (⟨none, .store 18 (.t 6) (.t 39), none⟩, []), (⟨(some 7), .mov (.t 41), none⟩, [])])
  .ret))))), [.cellN 6 18, .tmp 7], false⟩
theorem c81 : kk 81 = some k81 := by kernel_rfl
/-- loop.example/g01263/spec.l01Ends -/
def k82 : KF := ⟨12, (.seq (.region [⟨(some 1), .box 91 (.t 0), none⟩, ⟨(some 2), .mov (.k (.c (.int .i64 0))), none⟩])
  (.seq (.drawn [(⟨(some 3), .fldA 1 (.t 1), none⟩, []), (⟨(some 4), .load1 (.t 3), none⟩, []), (⟨(some 5), .conv .i64 (.t 4), none⟩, []), (⟨(some 7), .fldA 0 (.t 1), none⟩, []), (⟨(some 8), .load1 (.t 7), none⟩, []), (⟨(some 6), .call (.k (.c (.fn 62 []))) [], none⟩, [⟨(some 4), .load1 (.t 3), none⟩, ⟨(some 8), .load1 (.t 7), none⟩]), (⟨(some 9), .idxS 1 (.t 6) (.t 8), none⟩, []), (⟨(some 10), .load1 (.t 9), none⟩, []), (⟨(some 11), .bin .add .int (.t 5) (.t 10), none⟩, []), (⟨(some 2), .mov (.t 11), none⟩, [])])
  .ret)), [.tmp 2], true⟩
theorem c82 : kk 82 = some k82 := by kernel_rfl
/-- loop.example/g01263/spec.l01Cut -/
def l83_0 : KC := (.seq (.seq (.region [⟨(some 17), .mov (.t 10), none⟩, ⟨(some 18), .mov (.t 0), none⟩, ⟨(some 19), .len false (.t 18), none⟩, ⟨(some 20), .bin .lss .int (.t 17) (.t 19), none⟩])
  (.cond (.t 20) .skip (.exit 0)))
  (.seq (.block 1 (.seq (.seq (.drawn [(⟨(some 23), .mov (.t 9), none⟩, []), (⟨(some 24), .un .not (.t 23), none⟩, []), (⟨(some 25), .mov (.t 24), none⟩, []), (⟨(some 26), .mov (.t 0), some (25, true)⟩, []), (⟨(some 27), .mov (.t 10), some (25, true)⟩, []), (⟨(some 28), .idxS 2 (.t 26) (.t 27), some (25, true)⟩, []), (⟨(some 29), .fldA 1 (.t 28), some (25, true)⟩, []), (⟨(some 30), .load1 (.t 29), some (25, true)⟩, []), (⟨(some 31), .fldA 1 (.t 8), some (25, true)⟩, []), (⟨(some 32), .load1 (.t 31), some (25, true)⟩, []), (⟨(some 33), .bin .gtr .int (.t 30) (.t 32), some (25, true)⟩, []), (⟨(some 34), .pick (.t 25) (.t 33) (.k (.c (.bool false))), none⟩, [])])
  (.cond (.t 34) (.seq (.region [⟨(some 35), .mov (.t 7), none⟩, ⟨(some 36), .loadN 2 (.t 8), none⟩, ⟨(some 37), .buildSl 91 1 [(.int .i8 0), (.int .i16 0)] [(0, 2, (.t 36))], none⟩, ⟨(some 38), .app 91 2 4 (.t 35) (.t 37), none⟩, ⟨(some 7), .mov (.t 38), none⟩])
  (.region [⟨(some 9), .mov (.k (.c (.bool true))), none⟩])) .skip))
  (.region [⟨(some 39), .mov (.t 7), none⟩, ⟨(some 40), .mov (.t 0), none⟩, ⟨(some 41), .mov (.t 10), none⟩, ⟨(some 42), .idxS 2 (.t 40) (.t 41), none⟩, ⟨(some 43), .loadN 2 (.t 42), none⟩, ⟨(some 44), .buildSl 91 1 [(.int .i8 0), (.int .i16 0)] [(0, 2, (.t 43))], none⟩, ⟨(some 45), .app 91 2 4 (.t 39) (.t 44), none⟩, ⟨(some 7), .mov (.t 45), none⟩])))
  (.region [⟨(some 21), .mov (.t 10), none⟩, ⟨(some 22), .bin .add .int (.t 21) (.k (.c (.int .i64 1))), none⟩, ⟨(some 10), .mov (.t 22), none⟩])))
def k83 : KF := ⟨53, (.seq (.region [⟨(some 6), .mov (.k (.c (.slice none 0 (.exact 0)))), none⟩])
  (.seq (.region [⟨(some 11), .buildSl 91 0 [] [], none⟩, ⟨(some 7), .mov (.t 11), none⟩])
  (.seq (.region [⟨(some 12), .mov (.t 1), none⟩, ⟨(some 13), .conv .i8 (.t 12), none⟩, ⟨(some 14), .mov (.t 2), none⟩, ⟨(some 15), .conv .i16 (.t 14), none⟩, ⟨(some 16), .build [(.int .i8 0), (.int .i16 0)] [(0, 1, (.t 13)), (1, 1, (.t 15))], none⟩, ⟨(some 8), .alloc 91 [(.int .i8 0), (.int .i16 0)], none⟩, ⟨none, .store 2 (.t 8) (.t 16), none⟩])
  (.seq (.region [⟨(some 9), .mov (.k (.c (.bool false))), none⟩])
  (.seq (.seq (.region [⟨(some 10), .mov (.k (.c (.int .i64 0))), none⟩])
  (.block 0 (.loop l83_0)))
  (.seq (.seq (.region [⟨(some 46), .mov (.t 9), none⟩, ⟨(some 47), .un .not (.t 46), none⟩])
  (.cond (.t 47) (.region [⟨(some 48), .mov (.t 7), none⟩, ⟨(some 49), .loadN 2 (.t 8), none⟩, ⟨(some 50), .buildSl 91 1 [(.int .i8 0), (.int .i16 0)] [(0, 2, (.t 49))], none⟩, ⟨(some 51), .app 91 2 4 (.t 48) (.t 50), none⟩, ⟨(some 7), .mov (.t 51), none⟩]) .skip))
  (.seq (.region [⟨(some 52), .mov (.t 7), none⟩, ⟨(some 6), .mov (.t 52), none⟩])
  .ret))))))), [.tmp 6], false⟩
theorem c83 : kk 83 = some k83 := by kernel_rfl
/-- loop.example/g01263/spec.l01Copy -/
def k84 : KF := ⟨6, (.seq (.region [⟨(some 2), .mov (.k (.c (.slice none 0 (.exact 0)))), none⟩])
  (.seq (.region [⟨(some 3), .buildSl 91 0 [] [], none⟩, ⟨(some 4), .mov (.t 0), none⟩, ⟨(some 5), .app 91 2 4 (.t 3) (.t 4), none⟩, ⟨(some 2), .mov (.t 5), none⟩])
  .ret)), [.tmp 2], false⟩
theorem c84 : kk 84 = some k84 := by kernel_rfl
theorem c41 : kk 41 = some k41 := by kernel_rfl
theorem c43 : kk 43 = some k43 := by kernel_rfl
theorem c75 : kk 75 = some k75 := by kernel_rfl
theorem c92 : kk 92 = some k92 := by kernel_rfl
end Go.Proofs.YtcfabmmonoljeaaDoor
