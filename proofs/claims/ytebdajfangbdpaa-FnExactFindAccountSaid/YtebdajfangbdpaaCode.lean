/- What functions of the program answer: part Code. -/
import Derived.Test.YtebdajfangbdpaaViEv
import Derived.Test.YtebdajfangbdpaaViComp
import Derived.Test.YtebdajfangbdpaaChecked
import Derived.KernelRfl
set_option linter.unusedVariables false
set_option linter.unusedSimpArgs false
set_option linter.unusedSectionVars false
namespace Go.Proofs.Ytebdajfangbdpaa
open Go Go.Proofs.Ytebdajfangbdpaa.VI
noncomputable def kk : FuncId → Option KF := fun f => cFunc Try.prog (!([14, 21, 26, 27, 31, 33, 34, 35, 38, 51, 52, 60] : List Nat).contains f) f
/-- loop.example/g01263/laws.FnExactValidItems -/
def k3 : KF := ⟨27, (.seq (.region [⟨(some 2), .mov (.k (.c (.bool false))), none⟩])
  (.seq (.region [⟨(some 3), .mov (.k (.c (.int .i64 1048576))), none⟩])
  (.seq (.region [⟨(some 7), .mov (.t 0), none⟩, ⟨(some 8), .mov (.t 3), none⟩, ⟨(some 9), .call (.k (.c (.fn 12 []))) [(.t 7), (.t 8)], none⟩, ⟨(some 3), .mov (.t 9), none⟩])
  (.seq (.seq (.region [⟨(some 10), .mov (.t 3), none⟩, ⟨(some 11), .bin .lss .int (.t 10) (.k (.c (.int .i64 0))), none⟩])
  (.cond (.t 11) (.seq (.region [⟨(some 2), .mov (.k (.c (.bool true))), none⟩])
  .ret) .skip))
  (.seq (.region [⟨(some 12), .mov (.t 0), none⟩, ⟨(some 13), .call (.k (.c (.fn 14 []))) [(.t 12)], none⟩, ⟨(some 14), .call (.k (.c (.fn 13 []))) [(.t 13)], none⟩, ⟨(some 4), .mov (.t 14), none⟩])
  (.seq (.region [⟨(some 15), .mov (.t 0), none⟩, ⟨(some 16), .call (.k (.c (.fn 14 []))) [(.t 15)], none⟩, ⟨(some 5), .mov (.t 16), none⟩])
  (.seq (.region [⟨(some 17), .mov (.t 5), none⟩, ⟨(some 18), .call (.k (.c (.fn 15 []))) [(.t 17)], none⟩, ⟨(some 6), .mov (.t 18), none⟩])
  (.seq (.seq (.region [⟨(some 19), .mov (.t 6), none⟩, ⟨(some 20), .mov (.t 4), none⟩, ⟨(some 21), .bin .neq .bool (.t 19) (.t 20), none⟩])
  (.cond (.t 21) (.seq (.region [⟨(some 2), .mov (.k (.c (.bool false))), none⟩])
  .ret) .skip))
  (.seq (.seq (.region [⟨(some 22), .mov (.t 5), none⟩, ⟨(some 23), .mov (.t 0), none⟩, ⟨(some 24), .call (.k (.c (.fn 14 []))) [(.t 23)], none⟩, ⟨(some 25), .call (.k (.c (.fn 16 []))) [(.t 22), (.t 24)], none⟩, ⟨(some 26), .un .not (.t 25), none⟩])
  (.cond (.t 26) (.seq (.region [⟨(some 2), .mov (.k (.c (.bool false))), none⟩])
  .ret) .skip))
  (.seq (.region [⟨(some 2), .mov (.k (.c (.bool true))), none⟩])
  .ret)))))))))), [.tmp 2], true⟩
/-- loop.example/g01263/laws.FnExactFindAccount -/
def k11 : KF := ⟨47, (.seq (.region [⟨(some 2), .box 58 (.t 0), none⟩, ⟨(some 4), .mov (.k (.c (.bool false))), none⟩])
  (.seq (.seq (.region [⟨(some 11), .mov (.t 1), none⟩, ⟨(some 12), .len true (.t 11), none⟩, ⟨(some 13), .bin .gtr .int (.t 12) (.k (.c (.int .i64 1048576))), none⟩])
  (.cond (.t 13) (.seq (.region [⟨(some 4), .mov (.k (.c (.bool true))), none⟩])
  .ret) .skip))
  (.seq (.region [⟨(some 5), .mov (.k (.c (.int .i64 1048576))), none⟩])
  (.seq (.region [⟨(some 14), .loadN 2 (.t 2), none⟩, ⟨(some 15), .mov (.t 5), none⟩, ⟨(some 16), .call (.k (.c (.fn 36 []))) [(.t 14), (.t 15)], none⟩, ⟨(some 5), .mov (.t 16), none⟩])
  (.seq (.seq (.region [⟨(some 17), .mov (.t 5), none⟩, ⟨(some 18), .bin .lss .int (.t 17) (.k (.c (.int .i64 0))), none⟩])
  (.cond (.t 18) (.seq (.region [⟨(some 4), .mov (.k (.c (.bool true))), none⟩])
  .ret) .skip))
  (.seq (.region [⟨(some 20), .loadN 2 (.t 2), none⟩, ⟨(some 21), .call (.k (.c (.fn 38 []))) [(.t 20)], none⟩, ⟨(some 22), .mov (.t 1), none⟩, ⟨(some 23), .call (.k (.c (.fn 41 []))) [(.t 21), (.t 22)], none⟩, ⟨(some 19), .mov (.t 23), none⟩, ⟨(some 24), .ext (.t 19) 0, none⟩, ⟨(some 25), .ext (.t 19) 1, none⟩, ⟨(some 6), .mov (.t 24), none⟩, ⟨(some 7), .mov (.t 25), none⟩])
  (.seq (.region [⟨(some 26), .loadN 2 (.t 2), none⟩, ⟨(some 27), .call (.k (.c (.fn 38 []))) [(.t 26)], none⟩, ⟨(some 8), .alloc 63 [(.slice none 0 (.exact 0)), (.int .i64 0)], none⟩, ⟨none, .store 2 (.t 8) (.t 27), none⟩])
  (.seq (.region [⟨(some 29), .loadN 2 (.t 8), none⟩, ⟨(some 30), .mov (.t 1), none⟩, ⟨(some 31), .call (.k (.c (.fn 42 []))) [(.t 29), (.t 30)], none⟩, ⟨(some 28), .mov (.t 31), none⟩, ⟨(some 32), .ext (.t 28) 0, none⟩, ⟨(some 33), .ext (.t 28) 1, none⟩, ⟨(some 9), .mov (.t 32), none⟩, ⟨(some 10), .mov (.t 33), none⟩])
  (.seq (.seq (.region [⟨(some 34), .mov (.t 9), none⟩, ⟨(some 35), .mov (.t 6), none⟩, ⟨(some 36), .bin .neq .int (.t 34) (.t 35), none⟩, ⟨(some 37), .mov (.t 36), none⟩, ⟨(some 38), .mov (.t 10), some (37, false)⟩, ⟨(some 39), .mov (.t 7), some (37, false)⟩, ⟨(some 40), .bin .neq .int (.t 38) (.t 39), some (37, false)⟩, ⟨(some 41), .pick (.t 37) (.k (.c (.bool true))) (.t 40), none⟩])
  (.cond (.t 41) (.seq (.region [⟨(some 4), .mov (.k (.c (.bool false))), none⟩])
  .ret) .skip))
  (.seq (.seq (.drawn [(⟨(some 42), .loadN 2 (.t 8), none⟩, []), (⟨(some 43), .loadN 2 (.t 2), none⟩, []), (⟨(some 44), .call (.k (.c (.fn 38 []))) [(.t 43)], none⟩, [⟨(some 42), .loadN 2 (.t 8), none⟩]), (⟨(some 45), .call (.k (.c (.fn 40 []))) [(.t 42), (.t 44)], none⟩, []), (⟨(some 46), .un .not (.t 45), none⟩, [])])
  (.cond (.t 46) (.seq (.region [⟨(some 4), .mov (.k (.c (.bool false))), none⟩])
  .ret) .skip))
  (.seq (.region [⟨(some 4), .mov (.k (.c (.bool true))), none⟩])
  .ret))))))))))), [.tmp 4], true⟩
theorem c11 : kk 11 = some k11 := by kernel_rfl
/-- loop.example/g01263/laws.szItemS -/
def k12 : KF := ⟨12, (.seq (.region [⟨(some 4), .mov (.k (.c (.int .i64 0))), none⟩])
  (.seq (.region [⟨(some 5), .mov (.t 1), none⟩, ⟨(some 6), .mov (.t 0), none⟩, ⟨(some 7), .len false (.t 6), none⟩, ⟨(some 8), .bin .sub .int (.t 5) (.t 7), none⟩, ⟨(some 1), .mov (.t 8), none⟩])
  (.seq (.seq (.region [⟨(some 9), .mov (.t 1), none⟩, ⟨(some 10), .bin .lss .int (.t 9) (.k (.c (.int .i64 0))), none⟩])
  (.cond (.t 10) (.seq (.region [⟨(some 4), .mov (.k (.c (.int .i64 (-1)))), none⟩])
  .ret) .skip))
  (.seq (.region [⟨(some 11), .mov (.t 1), none⟩, ⟨(some 4), .mov (.t 11), none⟩])
  .ret)))), [.tmp 4], true⟩
theorem c12 : kk 12 = some k12 := by kernel_rfl
/-- loop.example/g01263/laws.toItemS -/
def l14_0 : KC := (.seq (.seq (.region [⟨(some 8), .mov (.t 4), none⟩, ⟨(some 9), .mov (.t 0), none⟩, ⟨(some 10), .len false (.t 9), none⟩, ⟨(some 11), .bin .lss .int (.t 8) (.t 10), none⟩])
  (.cond (.t 11) .skip (.exit 0)))
  (.seq (.block 1 (.region [⟨(some 14), .mov (.t 3), none⟩, ⟨(some 15), .mov (.t 4), none⟩, ⟨(some 16), .mov (.t 0), none⟩, ⟨(some 17), .mov (.t 4), none⟩, ⟨(some 18), .idxS 2 (.t 16) (.t 17), none⟩, ⟨(some 19), .loadN 2 (.t 18), none⟩, ⟨(some 20), .call (.k (.c (.fn 32 []))) [(.t 19)], none⟩, ⟨(some 21), .idxS 2 (.t 14) (.t 15), none⟩, ⟨none, .store 2 (.t 21) (.t 20), none⟩]))
  (.region [⟨(some 12), .mov (.t 4), none⟩, ⟨(some 13), .bin .add .int (.t 12) (.k (.c (.int .i64 1))), none⟩, ⟨(some 4), .mov (.t 13), none⟩])))
def k14 : KF := ⟨23, (.seq (.region [⟨(some 2), .mov (.k (.c (.slice none 0 (.exact 0)))), none⟩])
  (.seq (.region [⟨(some 5), .mov (.t 0), none⟩, ⟨(some 6), .len false (.t 5), none⟩, ⟨(some 7), .mkSl 51 [(.int .i8 0), (.int .i64 0)] 16 (.t 6) (.t 6), none⟩, ⟨(some 3), .mov (.t 7), none⟩])
  (.seq (.seq (.region [⟨(some 4), .mov (.k (.c (.int .i64 0))), none⟩])
  (.block 0 (.loop l14_0)))
  (.seq (.region [⟨(some 22), .mov (.t 3), none⟩, ⟨(some 2), .mov (.t 22), none⟩])
  .ret)))), [.tmp 2], false⟩
theorem c14 : kk 14 = some k14 := by kernel_rfl
/-- loop.example/g01263/impl.ValidItems -/
def l15_0 : KC := (.seq (.region [⟨(some 8), .bin .lss .int (.t 7) (.t 6), none⟩])
  (.seq (.cond (.t 8) .skip (.exit 0))
  (.seq (.block 1 (.seq (.region [⟨(some 9), .idxS 2 (.t 5) (.t 7), none⟩, ⟨(some 10), .loadN 2 (.t 9), none⟩, ⟨(some 4), .alloc 51 [(.int .i8 0), (.int .i64 0)], none⟩, ⟨none, .store 2 (.t 4) (.t 10), none⟩])
  (.seq (.region [⟨(some 11), .loadN 2 (.t 4), none⟩, ⟨(some 12), .call (.k (.c (.fn 44 []))) [(.t 11)], none⟩, ⟨(some 13), .un .not (.t 12), none⟩])
  (.cond (.t 13) (.seq (.region [⟨(some 2), .mov (.k (.c (.bool false))), none⟩])
  .ret) .skip))))
  (.region [⟨(some 14), .bin .add .int (.t 7) (.k (.c (.int .i64 1))), none⟩, ⟨(some 7), .mov (.t 14), none⟩]))))
def k15 : KF := ⟨18, (.seq (.region [⟨(some 2), .mov (.k (.c (.bool false))), none⟩])
  (.seq (.seq (.region [⟨(some 5), .mov (.t 0), none⟩, ⟨(some 6), .len false (.t 5), none⟩, ⟨(some 7), .mov (.k (.c (.int .i64 0))), none⟩])
  (.block 0 (.loop l15_0)))
  (.seq (.region [⟨(some 15), .mov (.t 0), none⟩, ⟨(some 16), .len false (.t 15), none⟩, ⟨(some 17), .bin .leq .int (.t 16) (.k (.c (.int .i64 40))), none⟩, ⟨(some 2), .mov (.t 17), none⟩])
  .ret))), [.tmp 2], true⟩
theorem c15 : kk 15 = some k15 := by kernel_rfl
/-- loop.example/g01263/laws.eqItemS -/
def l16_0 : KC := (.seq (.seq (.region [⟨(some 11), .mov (.t 5), none⟩, ⟨(some 12), .mov (.t 0), none⟩, ⟨(some 13), .len false (.t 12), none⟩, ⟨(some 14), .bin .lss .int (.t 11) (.t 13), none⟩])
  (.cond (.t 14) .skip (.exit 0)))
  (.seq (.block 1 (.seq (.drawn [(⟨(some 17), .mov (.t 0), none⟩, []), (⟨(some 18), .mov (.t 5), none⟩, []), (⟨(some 19), .idxS 2 (.t 17) (.t 18), none⟩, []), (⟨(some 20), .loadN 2 (.t 19), none⟩, []), (⟨(some 21), .mov (.t 1), none⟩, []), (⟨(some 22), .mov (.t 5), none⟩, []), (⟨(some 23), .idxS 2 (.t 21) (.t 22), none⟩, []), (⟨(some 24), .loadN 2 (.t 23), none⟩, []), (⟨(some 25), .call (.k (.c (.fn 45 []))) [(.t 20), (.t 24)], none⟩, []), (⟨(some 26), .un .not (.t 25), none⟩, [])])
  (.cond (.t 26) (.seq (.region [⟨(some 4), .mov (.k (.c (.bool false))), none⟩])
  .ret) .skip)))
  (.region [⟨(some 15), .mov (.t 5), none⟩, ⟨(some 16), .bin .add .int (.t 15) (.k (.c (.int .i64 1))), none⟩, ⟨(some 5), .mov (.t 16), none⟩])))
def k16 : KF := ⟨27, (.seq (.region [⟨(some 4), .mov (.k (.c (.bool false))), none⟩])
  (.seq (.seq (.region [⟨(some 6), .mov (.t 0), none⟩, ⟨(some 7), .len false (.t 6), none⟩, ⟨(some 8), .mov (.t 1), none⟩, ⟨(some 9), .len false (.t 8), none⟩, ⟨(some 10), .bin .neq .int (.t 7) (.t 9), none⟩])
  (.cond (.t 10) (.seq (.region [⟨(some 4), .mov (.k (.c (.bool false))), none⟩])
  .ret) .skip))
  (.seq (.seq (.region [⟨(some 5), .mov (.k (.c (.int .i64 0))), none⟩])
  (.block 0 (.loop l16_0)))
  (.seq (.region [⟨(some 4), .mov (.k (.c (.bool true))), none⟩])
  .ret)))), [.tmp 4], true⟩
theorem c16 : kk 16 = some k16 := by kernel_rfl
/-- loop.example/g01263/laws.szAccount -/
def k19 : KF := ⟨19, (.seq (.region [⟨(some 2), .box 32 (.t 0), none⟩, ⟨(some 4), .mov (.k (.c (.int .i64 0))), none⟩])
  (.seq (.region [⟨(some 5), .mov (.t 1), none⟩, ⟨(some 6), .fldA 0 (.t 2), none⟩, ⟨(some 7), .load1 (.t 6), none⟩, ⟨(some 8), .len true (.t 7), none⟩, ⟨(some 9), .bin .sub .int (.t 5) (.t 8), none⟩, ⟨(some 1), .mov (.t 9), none⟩])
  (.seq (.seq (.region [⟨(some 10), .mov (.t 1), none⟩, ⟨(some 11), .bin .lss .int (.t 10) (.k (.c (.int .i64 0))), none⟩])
  (.cond (.t 11) (.seq (.region [⟨(some 4), .mov (.k (.c (.int .i64 (-1)))), none⟩])
  .ret) .skip))
  (.seq (.region [⟨(some 12), .fldA 1 (.t 2), none⟩, ⟨(some 13), .load1 (.t 12), none⟩, ⟨(some 14), .mov (.t 1), none⟩, ⟨(some 15), .call (.k (.c (.fn 12 []))) [(.t 13), (.t 14)], none⟩, ⟨(some 1), .mov (.t 15), none⟩])
  (.seq (.seq (.region [⟨(some 16), .mov (.t 1), none⟩, ⟨(some 17), .bin .lss .int (.t 16) (.k (.c (.int .i64 0))), none⟩])
  (.cond (.t 17) (.seq (.region [⟨(some 4), .mov (.k (.c (.int .i64 (-1)))), none⟩])
  .ret) .skip))
  (.seq (.region [⟨(some 18), .mov (.t 1), none⟩, ⟨(some 4), .mov (.t 18), none⟩])
  .ret)))))), [.tmp 4], true⟩
theorem c19 : kk 19 = some k19 := by kernel_rfl
/-- loop.example/g01263/laws.toAccount -/
def k21 : KF := ⟨15, (.seq (.region [⟨(some 1), .box 32 (.t 0), none⟩, ⟨(some 2), .alloc 36 [(.str ⟨#[]⟩), (.slice none 0 (.exact 0)), (.int .i64 0)], none⟩])
  (.seq (.region [⟨(some 3), .alloc 36 [(.str ⟨#[]⟩), (.slice none 0 (.exact 0)), (.int .i64 0)], none⟩])
  (.seq (.region [⟨(some 4), .fldA 0 (.t 1), none⟩, ⟨(some 5), .load1 (.t 4), none⟩, ⟨(some 6), .fldA 0 (.t 3), none⟩, ⟨none, .store 1 (.t 6) (.t 5), none⟩])
  (.seq (.region [⟨(some 7), .fldA 1 (.t 1), none⟩, ⟨(some 8), .load1 (.t 7), none⟩, ⟨(some 9), .call (.k (.c (.fn 14 []))) [(.t 8)], none⟩, ⟨(some 10), .fldA 1 (.t 3), none⟩, ⟨none, .store 1 (.t 10) (.t 9), none⟩])
  (.seq (.region [⟨(some 11), .fldA 2 (.t 1), none⟩, ⟨(some 12), .load1 (.t 11), none⟩, ⟨(some 13), .fldA 2 (.t 3), none⟩, ⟨none, .store 1 (.t 13) (.t 12), none⟩])
  (.seq (.region [⟨(some 14), .loadN 3 (.t 3), none⟩, ⟨none, .store 3 (.t 2) (.t 14), none⟩])
  .ret)))))), [.cellN 2 3], false⟩
theorem c21 : kk 21 = some k21 := by kernel_rfl
/-- loop.example/g01263/impl.CheckAccount -/
def k22 : KF := ⟨19, (.seq (.region [⟨(some 1), .box 36 (.t 0), none⟩, ⟨(some 2), .mov (.k (.c (.bool false))), none⟩])
  (.seq (.drawn [(⟨(some 3), .fldA 0 (.t 1), none⟩, []), (⟨(some 4), .load1 (.t 3), none⟩, []), (⟨(some 5), .call (.k (.c (.fn 49 []))) [(.t 4), (.k (.c (.int .i64 16)))], none⟩, []), (⟨(some 6), .mov (.t 5), none⟩, []), (⟨(some 7), .fldA 1 (.t 1), some (6, true)⟩, []), (⟨(some 8), .load1 (.t 7), some (6, true)⟩, []), (⟨(some 9), .call (.k (.c (.fn 15 []))) [(.t 8)], some (6, true)⟩, []), (⟨(some 10), .pick (.t 6) (.t 9) (.k (.c (.bool false))), none⟩, []), (⟨(some 11), .mov (.t 10), none⟩, []), (⟨(some 12), .fldA 2 (.t 1), some (11, true)⟩, []), (⟨(some 13), .load1 (.t 12), some (11, true)⟩, []), (⟨(some 14), .fldA 1 (.t 1), some (11, true)⟩, []), (⟨(some 15), .load1 (.t 14), some (11, true)⟩, []), (⟨(some 16), .call (.k (.c (.fn 47 []))) [(.t 15)], some (11, true)⟩, [⟨(some 13), .load1 (.t 12), some (11, true)⟩]), (⟨(some 17), .bin .eql .int (.t 13) (.t 16), some (11, true)⟩, []), (⟨(some 18), .pick (.t 11) (.t 17) (.k (.c (.bool false))), none⟩, []), (⟨(some 2), .mov (.t 18), none⟩, [])])
  .ret)), [.tmp 2], true⟩
theorem c22 : kk 22 = some k22 := by kernel_rfl
/-- loop.example/g01263/laws.eqAccount -/
def k23 : KF := ⟨21, (.seq (.region [⟨(some 2), .box 36 (.t 0), none⟩, ⟨(some 3), .box 36 (.t 1), none⟩, ⟨(some 4), .mov (.k (.c (.bool false))), none⟩])
  (.seq (.seq (.region [⟨(some 5), .fldA 0 (.t 2), none⟩, ⟨(some 6), .load1 (.t 5), none⟩, ⟨(some 7), .fldA 0 (.t 3), none⟩, ⟨(some 8), .load1 (.t 7), none⟩, ⟨(some 9), .bin .neq .str (.t 6) (.t 8), none⟩])
  (.cond (.t 9) (.seq (.region [⟨(some 4), .mov (.k (.c (.bool false))), none⟩])
  .ret) .skip))
  (.seq (.seq (.region [⟨(some 10), .fldA 1 (.t 2), none⟩, ⟨(some 11), .load1 (.t 10), none⟩, ⟨(some 12), .fldA 1 (.t 3), none⟩, ⟨(some 13), .load1 (.t 12), none⟩, ⟨(some 14), .call (.k (.c (.fn 16 []))) [(.t 11), (.t 13)], none⟩, ⟨(some 15), .un .not (.t 14), none⟩])
  (.cond (.t 15) (.seq (.region [⟨(some 4), .mov (.k (.c (.bool false))), none⟩])
  .ret) .skip))
  (.seq (.seq (.region [⟨(some 16), .fldA 2 (.t 2), none⟩, ⟨(some 17), .load1 (.t 16), none⟩, ⟨(some 18), .fldA 2 (.t 3), none⟩, ⟨(some 19), .load1 (.t 18), none⟩, ⟨(some 20), .bin .neq .int (.t 17) (.t 19), none⟩])
  (.cond (.t 20) (.seq (.region [⟨(some 4), .mov (.k (.c (.bool false))), none⟩])
  .ret) .skip))
  (.seq (.region [⟨(some 4), .mov (.k (.c (.bool true))), none⟩])
  .ret))))), [.tmp 4], true⟩
theorem c23 : kk 23 = some k23 := by kernel_rfl
/-- loop.example/g01263/laws.toItem -/
def k32 : KF := ⟨11, (.seq (.region [⟨(some 1), .box 49 (.t 0), none⟩, ⟨(some 2), .alloc 51 [(.int .i8 0), (.int .i64 0)], none⟩])
  (.seq (.region [⟨(some 3), .alloc 51 [(.int .i8 0), (.int .i64 0)], none⟩])
  (.seq (.region [⟨(some 4), .fldA 0 (.t 1), none⟩, ⟨(some 5), .load1 (.t 4), none⟩, ⟨(some 6), .fldA 0 (.t 3), none⟩, ⟨none, .store 1 (.t 6) (.t 5), none⟩])
  (.seq (.region [⟨(some 7), .fldA 1 (.t 1), none⟩, ⟨(some 8), .load1 (.t 7), none⟩, ⟨(some 9), .fldA 1 (.t 3), none⟩, ⟨none, .store 1 (.t 9) (.t 8), none⟩])
  (.seq (.region [⟨(some 10), .loadN 2 (.t 3), none⟩, ⟨none, .store 2 (.t 2) (.t 10), none⟩])
  .ret))))), [.cellN 2 2], true⟩
theorem c32 : kk 32 = some k32 := by kernel_rfl
/-- loop.example/g01263/laws.szRoll -/
def k36 : KF := ⟨12, (.seq (.region [⟨(some 2), .box 58 (.t 0), none⟩, ⟨(some 4), .mov (.k (.c (.int .i64 0))), none⟩])
  (.seq (.region [⟨(some 5), .fldA 0 (.t 2), none⟩, ⟨(some 6), .load1 (.t 5), none⟩, ⟨(some 7), .mov (.t 1), none⟩, ⟨(some 8), .call (.k (.c (.fn 58 []))) [(.t 6), (.t 7)], none⟩, ⟨(some 1), .mov (.t 8), none⟩])
  (.seq (.seq (.region [⟨(some 9), .mov (.t 1), none⟩, ⟨(some 10), .bin .lss .int (.t 9) (.k (.c (.int .i64 0))), none⟩])
  (.cond (.t 10) (.seq (.region [⟨(some 4), .mov (.k (.c (.int .i64 (-1)))), none⟩])
  .ret) .skip))
  (.seq (.region [⟨(some 11), .mov (.t 1), none⟩, ⟨(some 4), .mov (.t 11), none⟩])
  .ret)))), [.tmp 4], true⟩
theorem c36 : kk 36 = some k36 := by kernel_rfl
/-- loop.example/g01263/laws.toRoll -/
def k38 : KF := ⟨12, (.seq (.region [⟨(some 1), .box 58 (.t 0), none⟩, ⟨(some 2), .alloc 63 [(.slice none 0 (.exact 0)), (.int .i64 0)], none⟩])
  (.seq (.region [⟨(some 3), .alloc 63 [(.slice none 0 (.exact 0)), (.int .i64 0)], none⟩])
  (.seq (.region [⟨(some 4), .fldA 0 (.t 1), none⟩, ⟨(some 5), .load1 (.t 4), none⟩, ⟨(some 6), .call (.k (.c (.fn 60 []))) [(.t 5)], none⟩, ⟨(some 7), .fldA 0 (.t 3), none⟩, ⟨none, .store 1 (.t 7) (.t 6), none⟩])
  (.seq (.region [⟨(some 8), .fldA 1 (.t 1), none⟩, ⟨(some 9), .load1 (.t 8), none⟩, ⟨(some 10), .fldA 1 (.t 3), none⟩, ⟨none, .store 1 (.t 10) (.t 9), none⟩])
  (.seq (.region [⟨(some 11), .loadN 2 (.t 3), none⟩, ⟨none, .store 2 (.t 2) (.t 11), none⟩])
  .ret))))), [.cellN 2 2], false⟩
theorem c38 : kk 38 = some k38 := by kernel_rfl
/-- loop.example/g01263/impl.FirstFault -/
def l39_0 : KC := (.seq (.region [⟨(some 14), .bin .lss .int (.t 13) (.t 12), none⟩])
  (.seq (.cond (.t 14) .skip (.exit 0))
  (.seq (.block 1 (.seq (.region [⟨(some 15), .mov (.t 13), none⟩, ⟨(some 16), .idxS 3 (.t 11) (.t 13), none⟩, ⟨(some 17), .loadN 3 (.t 16), none⟩, ⟨(some 5), .alloc 36 [(.str ⟨#[]⟩), (.slice none 0 (.exact 0)), (.int .i64 0)], none⟩, ⟨(some 4), .mov (.t 15), none⟩, ⟨none, .store 3 (.t 5) (.t 17), none⟩])
  (.seq (.drawn [(⟨(some 18), .loadN 3 (.t 5), none⟩, []), (⟨(some 19), .call (.k (.c (.fn 22 []))) [(.t 18)], none⟩, []), (⟨(some 20), .un .not (.t 19), none⟩, []), (⟨(some 21), .mov (.t 20), none⟩, []), (⟨(some 22), .fldA 0 (.t 1), some (21, false)⟩, []), (⟨(some 23), .load1 (.t 22), some (21, false)⟩, []), (⟨(some 24), .mov (.t 4), some (21, false)⟩, []), (⟨(some 25), .sliceS 3 (.t 23) none (some (.t 24)) none, some (21, false)⟩, []), (⟨(some 26), .fldA 0 (.t 5), some (21, false)⟩, []), (⟨(some 27), .load1 (.t 26), some (21, false)⟩, []), (⟨(some 28), .call (.k (.c (.fn 61 []))) [(.t 25), (.t 27)], some (21, false)⟩, []), (⟨(some 29), .pick (.t 21) (.k (.c (.bool true))) (.t 28), none⟩, [])])
  (.cond (.t 29) (.seq (.region [⟨(some 30), .mov (.t 4), none⟩, ⟨(some 2), .mov (.t 30), none⟩, ⟨(some 3), .mov (.k (.c (.int .i64 0))), none⟩])
  .ret) .skip))))
  (.region [⟨(some 31), .bin .add .int (.t 13) (.k (.c (.int .i64 1))), none⟩, ⟨(some 13), .mov (.t 31), none⟩]))))
def k39 : KF := ⟨41, (.seq (.region [⟨(some 1), .box 63 (.t 0), none⟩, ⟨(some 2), .mov (.k (.c (.int .i64 0))), none⟩, ⟨(some 3), .mov (.k (.c (.int .i64 0))), none⟩])
  (.seq (.seq (.region [⟨(some 6), .fldA 0 (.t 1), none⟩, ⟨(some 7), .load1 (.t 6), none⟩, ⟨(some 8), .len false (.t 7), none⟩, ⟨(some 9), .bin .gtr .int (.t 8) (.k (.c (.int .i64 20))), none⟩])
  (.cond (.t 9) (.seq (.region [⟨(some 2), .mov (.k (.c (.int .i64 0))), none⟩, ⟨(some 3), .mov (.k (.c (.int .i64 3))), none⟩])
  .ret) .skip))
  (.seq (.seq (.region [⟨(some 10), .fldA 0 (.t 1), none⟩, ⟨(some 11), .load1 (.t 10), none⟩, ⟨(some 12), .len false (.t 11), none⟩, ⟨(some 13), .mov (.k (.c (.int .i64 0))), none⟩])
  (.block 0 (.loop l39_0)))
  (.seq (.seq (.drawn [(⟨(some 32), .fldA 1 (.t 1), none⟩, []), (⟨(some 33), .load1 (.t 32), none⟩, []), (⟨(some 34), .fldA 0 (.t 1), none⟩, []), (⟨(some 35), .load1 (.t 34), none⟩, []), (⟨(some 36), .call (.k (.c (.fn 62 []))) [(.t 35)], none⟩, [⟨(some 33), .load1 (.t 32), none⟩]), (⟨(some 37), .bin .neq .int (.t 33) (.t 36), none⟩, [])])
  (.cond (.t 37) (.seq (.region [⟨(some 38), .fldA 0 (.t 1), none⟩, ⟨(some 39), .load1 (.t 38), none⟩, ⟨(some 40), .len false (.t 39), none⟩, ⟨(some 2), .mov (.t 40), none⟩, ⟨(some 3), .mov (.k (.c (.int .i64 0))), none⟩])
  .ret) .skip))
  (.seq (.region [⟨(some 2), .mov (.k (.c (.int .i64 0))), none⟩, ⟨(some 3), .mov (.k (.c (.int .i64 6))), none⟩])
  .ret))))), [.tmp 2, .tmp 3], true⟩
theorem c39 : kk 39 = some k39 := by kernel_rfl
/-- loop.example/g01263/laws.eqRoll -/
def k40 : KF := ⟨16, (.seq (.region [⟨(some 2), .box 63 (.t 0), none⟩, ⟨(some 3), .box 63 (.t 1), none⟩, ⟨(some 4), .mov (.k (.c (.bool false))), none⟩])
  (.seq (.seq (.region [⟨(some 5), .fldA 0 (.t 2), none⟩, ⟨(some 6), .load1 (.t 5), none⟩, ⟨(some 7), .fldA 0 (.t 3), none⟩, ⟨(some 8), .load1 (.t 7), none⟩, ⟨(some 9), .call (.k (.c (.fn 63 []))) [(.t 6), (.t 8)], none⟩, ⟨(some 10), .un .not (.t 9), none⟩])
  (.cond (.t 10) (.seq (.region [⟨(some 4), .mov (.k (.c (.bool false))), none⟩])
  .ret) .skip))
  (.seq (.seq (.region [⟨(some 11), .fldA 1 (.t 2), none⟩, ⟨(some 12), .load1 (.t 11), none⟩, ⟨(some 13), .fldA 1 (.t 3), none⟩, ⟨(some 14), .load1 (.t 13), none⟩, ⟨(some 15), .bin .neq .int (.t 12) (.t 14), none⟩])
  (.cond (.t 15) (.seq (.region [⟨(some 4), .mov (.k (.c (.bool false))), none⟩])
  .ret) .skip))
  (.seq (.region [⟨(some 4), .mov (.k (.c (.bool true))), none⟩])
  .ret)))), [.tmp 4], true⟩
theorem c40 : kk 40 = some k40 := by kernel_rfl
/-- loop.example/g01263/spec.FindAccount -/
def l41_0 : KC := (.seq (.seq (.region [⟨(some 9), .mov (.t 6), none⟩, ⟨(some 10), .fldA 0 (.t 2), none⟩, ⟨(some 11), .load1 (.t 10), none⟩, ⟨(some 12), .len false (.t 11), none⟩, ⟨(some 13), .bin .lss .int (.t 9) (.t 12), none⟩])
  (.cond (.t 13) .skip (.exit 0)))
  (.seq (.block 1 (.seq (.region [⟨(some 16), .fldA 0 (.t 2), none⟩, ⟨(some 17), .load1 (.t 16), none⟩, ⟨(some 18), .mov (.t 6), none⟩, ⟨(some 19), .idxS 3 (.t 17) (.t 18), none⟩, ⟨(some 20), .fldA 0 (.t 19), none⟩, ⟨(some 21), .load1 (.t 20), none⟩, ⟨(some 22), .mov (.t 1), none⟩, ⟨(some 23), .bin .eql .str (.t 21) (.t 22), none⟩])
  (.cond (.t 23) (.seq (.region [⟨(some 24), .mov (.t 6), none⟩, ⟨(some 4), .mov (.t 24), none⟩, ⟨(some 5), .mov (.k (.c (.int .i64 0))), none⟩])
  .ret) .skip)))
  (.region [⟨(some 14), .mov (.t 6), none⟩, ⟨(some 15), .bin .add .int (.t 14) (.k (.c (.int .i64 1))), none⟩, ⟨(some 6), .mov (.t 15), none⟩])))
def k41 : KF := ⟨25, (.seq (.region [⟨(some 2), .box 63 (.t 0), none⟩, ⟨(some 4), .mov (.k (.c (.int .i64 0))), none⟩, ⟨(some 5), .mov (.k (.c (.int .i64 0))), none⟩])
  (.seq (.seq (.region [⟨(some 7), .call (.k (.c (.fn 64 []))) [(.t 2)], none⟩, ⟨(some 8), .un .not (.t 7), none⟩])
  (.cond (.t 8) (.seq (.region [⟨(some 4), .mov (.k (.c (.int .i64 0))), none⟩, ⟨(some 5), .mov (.k (.c (.int .i64 1))), none⟩])
  .ret) .skip))
  (.seq (.seq (.region [⟨(some 6), .mov (.k (.c (.int .i64 0))), none⟩])
  (.block 0 (.loop l41_0)))
  (.seq (.region [⟨(some 4), .mov (.k (.c (.int .i64 0))), none⟩, ⟨(some 5), .mov (.k (.c (.int .i64 6))), none⟩])
  .ret)))), [.tmp 4, .tmp 5], true⟩
theorem c41 : kk 41 = some k41 := by kernel_rfl
/-- loop.example/g01263/impl.FindAccount -/
def k42 : KF := ⟨17, (.seq (.region [⟨(some 2), .box 63 (.t 0), none⟩, ⟨(some 3), .box 9 (.t 1), none⟩, ⟨(some 4), .mov (.k (.c (.int .i64 0))), none⟩, ⟨(some 5), .mov (.k (.c (.int .i64 0))), none⟩])
  (.seq (.seq (.region [⟨(some 7), .loadN 2 (.t 2), none⟩, ⟨(some 8), .call (.k (.c (.fn 65 []))) [(.t 7)], none⟩, ⟨(some 9), .un .not (.t 8), none⟩])
  (.cond (.t 9) (.seq (.region [⟨(some 4), .mov (.k (.c (.int .i64 0))), none⟩, ⟨(some 5), .mov (.k (.c (.int .i64 1))), none⟩])
  .ret) .skip))
  (.seq (.region [⟨(some 10), .fldA 0 (.t 2), none⟩, ⟨(some 11), .load1 (.t 10), none⟩, ⟨(some 12), .mkFn 67 [(.t 3)], none⟩, ⟨(some 13), .call (.k (.c (.fn 66 []))) [(.t 11), (.t 12)], none⟩, ⟨(some 6), .mov (.t 13), none⟩])
  (.seq (.seq (.region [⟨(some 14), .mov (.t 6), none⟩, ⟨(some 15), .bin .lss .int (.t 14) (.k (.c (.int .i64 0))), none⟩])
  (.cond (.t 15) (.seq (.region [⟨(some 4), .mov (.k (.c (.int .i64 0))), none⟩, ⟨(some 5), .mov (.k (.c (.int .i64 6))), none⟩])
  .ret) .skip))
  (.seq (.region [⟨(some 16), .mov (.t 6), none⟩, ⟨(some 4), .mov (.t 16), none⟩, ⟨(some 5), .mov (.k (.c (.int .i64 0))), none⟩])
  .ret))))), [.tmp 4, .tmp 5], true⟩
theorem c42 : kk 42 = some k42 := by kernel_rfl
/-- loop.example/g01263/spec.l05Items -/
def l43_0 : KC := (.seq (.seq (.region [⟨(some 7), .mov (.t 3), none⟩, ⟨(some 8), .mov (.t 0), none⟩, ⟨(some 9), .len false (.t 8), none⟩, ⟨(some 10), .bin .lss .int (.t 7) (.t 9), none⟩])
  (.cond (.t 10) .skip (.exit 0)))
  (.seq (.block 1 (.seq (.region [⟨(some 13), .mov (.t 0), none⟩, ⟨(some 14), .mov (.t 3), none⟩, ⟨(some 15), .idxS 2 (.t 13) (.t 14), none⟩, ⟨(some 16), .call (.k (.c (.fn 54 []))) [(.t 15)], none⟩, ⟨(some 17), .un .not (.t 16), none⟩])
  (.cond (.t 17) (.seq (.region [⟨(some 2), .mov (.k (.c (.bool false))), none⟩])
  .ret) .skip)))
  (.region [⟨(some 11), .mov (.t 3), none⟩, ⟨(some 12), .bin .add .int (.t 11) (.k (.c (.int .i64 1))), none⟩, ⟨(some 3), .mov (.t 12), none⟩])))
def k43 : KF := ⟨18, (.seq (.region [⟨(some 2), .mov (.k (.c (.bool false))), none⟩])
  (.seq (.seq (.region [⟨(some 4), .mov (.t 0), none⟩, ⟨(some 5), .len false (.t 4), none⟩, ⟨(some 6), .bin .gtr .int (.t 5) (.k (.c (.int .i64 40))), none⟩])
  (.cond (.t 6) (.seq (.region [⟨(some 2), .mov (.k (.c (.bool false))), none⟩])
  .ret) .skip))
  (.seq (.seq (.region [⟨(some 3), .mov (.k (.c (.int .i64 0))), none⟩])
  (.block 0 (.loop l43_0)))
  (.seq (.region [⟨(some 2), .mov (.k (.c (.bool true))), none⟩])
  .ret)))), [.tmp 2], true⟩
theorem c43 : kk 43 = some k43 := by kernel_rfl
/-- loop.example/g01263/impl.validItem -/
def k44 : KF := ⟨16, (.seq (.region [⟨(some 1), .box 51 (.t 0), none⟩, ⟨(some 2), .mov (.k (.c (.bool false))), none⟩])
  (.seq (.region [⟨(some 3), .fldA 0 (.t 1), none⟩, ⟨(some 4), .load1 (.t 3), none⟩, ⟨(some 5), .bin .geq .int (.t 4) (.k (.c (.int .i8 0))), none⟩, ⟨(some 6), .mov (.t 5), none⟩, ⟨(some 7), .fldA 0 (.t 1), some (6, true)⟩, ⟨(some 8), .load1 (.t 7), some (6, true)⟩, ⟨(some 9), .bin .leq .int (.t 8) (.k (.c (.int .i8 3))), some (6, true)⟩, ⟨(some 10), .pick (.t 6) (.t 9) (.k (.c (.bool false))), none⟩, ⟨(some 11), .mov (.t 10), none⟩, ⟨(some 12), .fldA 1 (.t 1), some (11, true)⟩, ⟨(some 13), .load1 (.t 12), some (11, true)⟩, ⟨(some 14), .call (.k (.c (.fn 56 []))) [(.t 13)], some (11, true)⟩, ⟨(some 15), .pick (.t 11) (.t 14) (.k (.c (.bool false))), none⟩, ⟨(some 2), .mov (.t 15), none⟩])
  .ret)), [.tmp 2], true⟩
theorem c44 : kk 44 = some k44 := by kernel_rfl
/-- loop.example/g01263/laws.eqItem -/
def k45 : KF := ⟨15, (.seq (.region [⟨(some 2), .box 51 (.t 0), none⟩, ⟨(some 3), .box 51 (.t 1), none⟩, ⟨(some 4), .mov (.k (.c (.bool false))), none⟩])
  (.seq (.seq (.region [⟨(some 5), .fldA 0 (.t 2), none⟩, ⟨(some 6), .load1 (.t 5), none⟩, ⟨(some 7), .fldA 0 (.t 3), none⟩, ⟨(some 8), .load1 (.t 7), none⟩, ⟨(some 9), .bin .neq .int (.t 6) (.t 8), none⟩])
  (.cond (.t 9) (.seq (.region [⟨(some 4), .mov (.k (.c (.bool false))), none⟩])
  .ret) .skip))
  (.seq (.seq (.region [⟨(some 10), .fldA 1 (.t 2), none⟩, ⟨(some 11), .load1 (.t 10), none⟩, ⟨(some 12), .fldA 1 (.t 3), none⟩, ⟨(some 13), .load1 (.t 12), none⟩, ⟨(some 14), .bin .neq .int (.t 11) (.t 13), none⟩])
  (.cond (.t 14) (.seq (.region [⟨(some 4), .mov (.k (.c (.bool false))), none⟩])
  .ret) .skip))
  (.seq (.region [⟨(some 4), .mov (.k (.c (.bool true))), none⟩])
  .ret)))), [.tmp 4], true⟩
theorem c45 : kk 45 = some k45 := by kernel_rfl
/-- loop.example/g01263/spec.l05Balance -/
def l46_0 : KC := (.seq (.seq (.region [⟨(some 5), .mov (.t 4), none⟩, ⟨(some 6), .mov (.t 0), none⟩, ⟨(some 7), .len false (.t 6), none⟩, ⟨(some 8), .bin .lss .int (.t 5) (.t 7), none⟩])
  (.cond (.t 8) .skip (.exit 0)))
  (.seq (.block 1 (.seq (.region [⟨(some 11), .mov (.t 0), none⟩, ⟨(some 12), .mov (.t 4), none⟩, ⟨(some 13), .idxS 2 (.t 11) (.t 12), none⟩, ⟨(some 14), .fldA 0 (.t 13), none⟩, ⟨(some 15), .load1 (.t 14), none⟩, ⟨(some 16), .bin .eql .int (.t 15) (.k (.c (.int .i8 0))), none⟩, ⟨(some 17), .mov (.t 16), none⟩, ⟨(some 18), .mov (.t 0), some (17, false)⟩, ⟨(some 19), .mov (.t 4), some (17, false)⟩, ⟨(some 20), .idxS 2 (.t 18) (.t 19), some (17, false)⟩, ⟨(some 21), .fldA 0 (.t 20), some (17, false)⟩, ⟨(some 22), .load1 (.t 21), some (17, false)⟩, ⟨(some 23), .bin .eql .int (.t 22) (.k (.c (.int .i8 1))), some (17, false)⟩, ⟨(some 24), .pick (.t 17) (.k (.c (.bool true))) (.t 23), none⟩])
  (.cond (.t 24) (.region [⟨(some 25), .mov (.t 3), none⟩, ⟨(some 26), .mov (.t 0), none⟩, ⟨(some 27), .mov (.t 4), none⟩, ⟨(some 28), .idxS 2 (.t 26) (.t 27), none⟩, ⟨(some 29), .fldA 1 (.t 28), none⟩, ⟨(some 30), .load1 (.t 29), none⟩, ⟨(some 31), .bin .add .int (.t 25) (.t 30), none⟩, ⟨(some 3), .mov (.t 31), none⟩]) (.region [⟨(some 32), .mov (.t 3), none⟩, ⟨(some 33), .mov (.t 0), none⟩, ⟨(some 34), .mov (.t 4), none⟩, ⟨(some 35), .idxS 2 (.t 33) (.t 34), none⟩, ⟨(some 36), .fldA 1 (.t 35), none⟩, ⟨(some 37), .load1 (.t 36), none⟩, ⟨(some 38), .bin .sub .int (.t 32) (.t 37), none⟩, ⟨(some 3), .mov (.t 38), none⟩]))))
  (.region [⟨(some 9), .mov (.t 4), none⟩, ⟨(some 10), .bin .add .int (.t 9) (.k (.c (.int .i64 1))), none⟩, ⟨(some 4), .mov (.t 10), none⟩])))
def k46 : KF := ⟨40, (.seq (.region [⟨(some 2), .mov (.k (.c (.int .i64 0))), none⟩])
  (.seq (.region [⟨(some 3), .mov (.k (.c (.int .i64 0))), none⟩])
  (.seq (.seq (.region [⟨(some 4), .mov (.k (.c (.int .i64 0))), none⟩])
  (.block 0 (.loop l46_0)))
  (.seq (.region [⟨(some 39), .mov (.t 3), none⟩, ⟨(some 2), .mov (.t 39), none⟩])
  .ret)))), [.tmp 2], true⟩
theorem c46 : kk 46 = some k46 := by kernel_rfl
/-- loop.example/g01263/impl.balance -/
def l47_0 : KC := (.seq (.region [⟨(some 9), .bin .lss .int (.t 8) (.t 7), none⟩])
  (.seq (.cond (.t 9) .skip (.exit 0))
  (.seq (.block 1 (.seq (.region [⟨(some 10), .idxS 2 (.t 6) (.t 8), none⟩, ⟨(some 11), .loadN 2 (.t 10), none⟩, ⟨(some 5), .alloc 51 [(.int .i8 0), (.int .i64 0)], none⟩, ⟨none, .store 2 (.t 5) (.t 11), none⟩])
  (.seq (.region [⟨(some 12), .fldA 0 (.t 5), none⟩, ⟨(some 13), .load1 (.t 12), none⟩, ⟨(some 14), .bin .eql .int (.t 13) (.k (.c (.int .i8 0))), none⟩, ⟨(some 15), .mov (.t 14), none⟩, ⟨(some 16), .fldA 0 (.t 5), some (15, false)⟩, ⟨(some 17), .load1 (.t 16), some (15, false)⟩, ⟨(some 18), .bin .eql .int (.t 17) (.k (.c (.int .i8 1))), some (15, false)⟩, ⟨(some 19), .pick (.t 15) (.k (.c (.bool true))) (.t 18), none⟩])
  (.cond (.t 19) (.region [⟨(some 20), .mov (.t 3), none⟩, ⟨(some 21), .fldA 1 (.t 5), none⟩, ⟨(some 22), .load1 (.t 21), none⟩, ⟨(some 23), .bin .add .int (.t 20) (.t 22), none⟩, ⟨(some 3), .mov (.t 23), none⟩]) (.region [⟨(some 24), .mov (.t 3), none⟩, ⟨(some 25), .fldA 1 (.t 5), none⟩, ⟨(some 26), .load1 (.t 25), none⟩, ⟨(some 27), .bin .sub .int (.t 24) (.t 26), none⟩, ⟨(some 3), .mov (.t 27), none⟩])))))
  (.region [⟨(some 28), .bin .add .int (.t 8) (.k (.c (.int .i64 1))), none⟩, ⟨(some 8), .mov (.t 28), none⟩]))))
def k47 : KF := ⟨30, (.seq (.region [⟨(some 2), .mov (.k (.c (.int .i64 0))), none⟩])
  (.seq (.region [⟨(some 3), .mov (.k (.c (.int .i64 0))), none⟩])
  (.seq (.seq (.region [⟨(some 6), .mov (.t 0), none⟩, ⟨(some 7), .len false (.t 6), none⟩, ⟨(some 8), .mov (.k (.c (.int .i64 0))), none⟩])
  (.block 0 (.loop l47_0)))
  (.seq (.region [⟨(some 29), .mov (.t 3), none⟩, ⟨(some 2), .mov (.t 29), none⟩])
  .ret)))), [.tmp 2], true⟩
theorem c47 : kk 47 = some k47 := by kernel_rfl
/-- loop.example/g01263/spec.l05Right -/
def k48 : KF := ⟨27, (.seq (.region [⟨(some 2), .mov (.k (.c (.bool false))), none⟩])
  (.seq (.drawn [(⟨(some 3), .mov (.t 0), none⟩, []), (⟨(some 4), .nilchk (.t 3), none⟩, []), (⟨(some 5), .fldA 0 (.t 4), none⟩, []), (⟨(some 6), .load1 (.t 5), none⟩, []), (⟨(some 7), .call (.k (.c (.fn 50 []))) [(.t 6)], none⟩, []), (⟨(some 8), .mov (.t 7), none⟩, []), (⟨(some 9), .mov (.t 0), some (8, true)⟩, []), (⟨(some 10), .nilchk (.t 9), some (8, true)⟩, []), (⟨(some 11), .fldA 1 (.t 10), some (8, true)⟩, []), (⟨(some 12), .load1 (.t 11), some (8, true)⟩, []), (⟨(some 13), .call (.k (.c (.fn 43 []))) [(.t 12)], some (8, true)⟩, []), (⟨(some 14), .pick (.t 8) (.t 13) (.k (.c (.bool false))), none⟩, []), (⟨(some 15), .mov (.t 14), none⟩, []), (⟨(some 16), .mov (.t 0), some (15, true)⟩, []), (⟨(some 17), .nilchk (.t 16), some (15, true)⟩, []), (⟨(some 18), .fldA 2 (.t 17), some (15, true)⟩, []), (⟨(some 19), .load1 (.t 18), some (15, true)⟩, []), (⟨(some 20), .mov (.t 0), some (15, true)⟩, []), (⟨(some 21), .nilchk (.t 20), some (15, true)⟩, []), (⟨(some 22), .fldA 1 (.t 21), some (15, true)⟩, []), (⟨(some 23), .load1 (.t 22), some (15, true)⟩, []), (⟨(some 24), .call (.k (.c (.fn 46 []))) [(.t 23)], some (15, true)⟩, [⟨(some 19), .load1 (.t 18), some (15, true)⟩]), (⟨(some 25), .bin .eql .int (.t 19) (.t 24), some (15, true)⟩, []), (⟨(some 26), .pick (.t 15) (.t 25) (.k (.c (.bool false))), none⟩, []), (⟨(some 2), .mov (.t 26), none⟩, [])])
  .ret)), [.tmp 2], true⟩
theorem c48 : kk 48 = some k48 := by kernel_rfl
/-- loop.example/g01263/impl.isLetters -/
def l49_0 : KC := (.seq (.region [⟨(some 9), .bin .lss .int (.t 8) (.t 7), none⟩])
  (.seq (.cond (.t 9) .skip (.exit 0))
  (.seq (.block 1 (.seq (.region [⟨(some 10), .mov (.t 8), none⟩, ⟨(some 5), .mov (.t 10), none⟩])
  (.seq (.region [⟨(some 11), .mov (.t 0), none⟩, ⟨(some 12), .mov (.t 5), none⟩, ⟨(some 13), .idxStr (.t 11) (.t 12), none⟩, ⟨(some 14), .bin .lss .int (.t 13) (.k (.c (.int .u8 97))), none⟩, ⟨(some 15), .mov (.t 14), none⟩, ⟨(some 16), .mov (.t 0), some (15, false)⟩, ⟨(some 17), .mov (.t 5), some (15, false)⟩, ⟨(some 18), .idxStr (.t 16) (.t 17), some (15, false)⟩, ⟨(some 19), .bin .gtr .int (.t 18) (.k (.c (.int .u8 122))), some (15, false)⟩, ⟨(some 20), .pick (.t 15) (.k (.c (.bool true))) (.t 19), none⟩])
  (.cond (.t 20) (.seq (.region [⟨(some 4), .mov (.k (.c (.bool false))), none⟩])
  .ret) .skip))))
  (.region [⟨(some 21), .bin .add .int (.t 8) (.k (.c (.int .i64 1))), none⟩, ⟨(some 8), .mov (.t 21), none⟩]))))
def k49 : KF := ⟨31, (.seq (.region [⟨(some 4), .mov (.k (.c (.bool false))), none⟩])
  (.seq (.seq (.region [⟨(some 6), .mov (.t 0), none⟩, ⟨(some 7), .len true (.t 6), none⟩, ⟨(some 8), .mov (.k (.c (.int .i64 0))), none⟩])
  (.block 0 (.loop l49_0)))
  (.seq (.region [⟨(some 22), .mov (.t 0), none⟩, ⟨(some 23), .len true (.t 22), none⟩, ⟨(some 24), .bin .geq .int (.t 23) (.k (.c (.int .i64 1))), none⟩, ⟨(some 25), .mov (.t 24), none⟩, ⟨(some 26), .mov (.t 0), some (25, true)⟩, ⟨(some 27), .len true (.t 26), some (25, true)⟩, ⟨(some 28), .mov (.t 1), some (25, true)⟩, ⟨(some 29), .bin .leq .int (.t 27) (.t 28), some (25, true)⟩, ⟨(some 30), .pick (.t 25) (.t 29) (.k (.c (.bool false))), none⟩, ⟨(some 4), .mov (.t 30), none⟩])
  .ret))), [.tmp 4], true⟩
theorem c49 : kk 49 = some k49 := by kernel_rfl
/-- loop.example/g01263/spec.l05Title -/
def l50_0 : KC := (.seq (.seq (.region [⟨(some 4), .mov (.t 3), none⟩, ⟨(some 5), .mov (.t 0), none⟩, ⟨(some 6), .len true (.t 5), none⟩, ⟨(some 7), .bin .lss .int (.t 4) (.t 6), none⟩])
  (.cond (.t 7) .skip (.exit 0)))
  (.seq (.block 1 (.seq (.region [⟨(some 10), .mov (.t 0), none⟩, ⟨(some 11), .mov (.t 3), none⟩, ⟨(some 12), .idxStr (.t 10) (.t 11), none⟩, ⟨(some 13), .bin .lss .int (.t 12) (.k (.c (.int .u8 97))), none⟩, ⟨(some 14), .mov (.t 13), none⟩, ⟨(some 15), .mov (.t 0), some (14, false)⟩, ⟨(some 16), .mov (.t 3), some (14, false)⟩, ⟨(some 17), .idxStr (.t 15) (.t 16), some (14, false)⟩, ⟨(some 18), .bin .gtr .int (.t 17) (.k (.c (.int .u8 122))), some (14, false)⟩, ⟨(some 19), .pick (.t 14) (.k (.c (.bool true))) (.t 18), none⟩])
  (.cond (.t 19) (.seq (.region [⟨(some 2), .mov (.k (.c (.bool false))), none⟩])
  .ret) .skip)))
  (.region [⟨(some 8), .mov (.t 3), none⟩, ⟨(some 9), .bin .add .int (.t 8) (.k (.c (.int .i64 1))), none⟩, ⟨(some 3), .mov (.t 9), none⟩])))
def k50 : KF := ⟨23, (.seq (.region [⟨(some 2), .mov (.k (.c (.bool false))), none⟩])
  (.seq (.seq (.region [⟨(some 3), .mov (.k (.c (.int .i64 0))), none⟩])
  (.block 0 (.loop l50_0)))
  (.seq (.region [⟨(some 20), .mov (.t 0), none⟩, ⟨(some 21), .len true (.t 20), none⟩, ⟨(some 22), .call (.k (.c (.fn 68 []))) [(.t 21), (.k (.c (.int .i64 1))), (.k (.c (.int .i64 16)))], none⟩, ⟨(some 2), .mov (.t 22), none⟩])
  .ret))), [.tmp 2], true⟩
theorem c50 : kk 50 = some k50 := by kernel_rfl
/-- loop.example/g01263/spec.l05Item -/
def k54 : KF := ⟨16, (.seq (.region [⟨(some 2), .mov (.k (.c (.bool false))), none⟩])
  (.seq (.region [⟨(some 3), .mov (.t 0), none⟩, ⟨(some 4), .nilchk (.t 3), none⟩, ⟨(some 5), .fldA 0 (.t 4), none⟩, ⟨(some 6), .load1 (.t 5), none⟩, ⟨(some 7), .conv .i64 (.t 6), none⟩, ⟨(some 8), .call (.k (.c (.fn 68 []))) [(.t 7), (.k (.c (.int .i64 0))), (.k (.c (.int .i64 3)))], none⟩, ⟨(some 9), .mov (.t 8), none⟩, ⟨(some 10), .mov (.t 0), some (9, true)⟩, ⟨(some 11), .nilchk (.t 10), some (9, true)⟩, ⟨(some 12), .fldA 1 (.t 11), some (9, true)⟩, ⟨(some 13), .load1 (.t 12), some (9, true)⟩, ⟨(some 14), .call (.k (.c (.fn 55 []))) [(.t 13)], some (9, true)⟩, ⟨(some 15), .pick (.t 9) (.t 14) (.k (.c (.bool false))), none⟩, ⟨(some 2), .mov (.t 15), none⟩])
  .ret)), [.tmp 2], true⟩
theorem c54 : kk 54 = some k54 := by kernel_rfl
/-- loop.example/g01263/spec.l01Amount -/
def k55 : KF := ⟨5, (.seq (.region [⟨(some 2), .mov (.k (.c (.bool false))), none⟩])
  (.seq (.region [⟨(some 3), .mov (.t 0), none⟩, ⟨(some 4), .call (.k (.c (.fn 68 []))) [(.t 3), (.k (.c (.int .i64 0))), (.k (.c (.int .i64 100000000)))], none⟩, ⟨(some 2), .mov (.t 4), none⟩])
  .ret)), [.tmp 2], true⟩
theorem c55 : kk 55 = some k55 := by kernel_rfl
/-- loop.example/g01263/impl.isAmount -/
def k56 : KF := ⟨9, (.seq (.region [⟨(some 2), .mov (.k (.c (.bool false))), none⟩])
  (.seq (.region [⟨(some 3), .mov (.t 0), none⟩, ⟨(some 4), .bin .geq .int (.t 3) (.k (.c (.int .i64 0))), none⟩, ⟨(some 5), .mov (.t 4), none⟩, ⟨(some 6), .mov (.t 0), some (5, true)⟩, ⟨(some 7), .bin .leq .int (.t 6) (.k (.c (.int .i64 100000000))), some (5, true)⟩, ⟨(some 8), .pick (.t 5) (.t 7) (.k (.c (.bool false))), none⟩, ⟨(some 2), .mov (.t 8), none⟩])
  .ret)), [.tmp 2], true⟩
theorem c56 : kk 56 = some k56 := by kernel_rfl
/-- loop.example/g01263/laws.szAccountS -/
def l58_0 : KC := (.seq (.seq (.region [⟨(some 12), .mov (.t 5), none⟩, ⟨(some 13), .mov (.t 0), none⟩, ⟨(some 14), .len false (.t 13), none⟩, ⟨(some 15), .bin .lss .int (.t 12) (.t 14), none⟩])
  (.cond (.t 15) .skip (.exit 0)))
  (.seq (.block 1 (.seq (.region [⟨(some 18), .mov (.t 0), none⟩, ⟨(some 19), .mov (.t 5), none⟩, ⟨(some 20), .idxS 3 (.t 18) (.t 19), none⟩, ⟨(some 21), .loadN 3 (.t 20), none⟩, ⟨(some 22), .mov (.t 1), none⟩, ⟨(some 23), .call (.k (.c (.fn 19 []))) [(.t 21), (.t 22)], none⟩, ⟨(some 1), .mov (.t 23), none⟩])
  (.seq (.region [⟨(some 24), .mov (.t 1), none⟩, ⟨(some 25), .bin .lss .int (.t 24) (.k (.c (.int .i64 0))), none⟩])
  (.cond (.t 25) (.seq (.region [⟨(some 4), .mov (.k (.c (.int .i64 (-1)))), none⟩])
  .ret) .skip))))
  (.region [⟨(some 16), .mov (.t 5), none⟩, ⟨(some 17), .bin .add .int (.t 16) (.k (.c (.int .i64 1))), none⟩, ⟨(some 5), .mov (.t 17), none⟩])))
def k58 : KF := ⟨27, (.seq (.region [⟨(some 4), .mov (.k (.c (.int .i64 0))), none⟩])
  (.seq (.region [⟨(some 6), .mov (.t 1), none⟩, ⟨(some 7), .mov (.t 0), none⟩, ⟨(some 8), .len false (.t 7), none⟩, ⟨(some 9), .bin .sub .int (.t 6) (.t 8), none⟩, ⟨(some 1), .mov (.t 9), none⟩])
  (.seq (.seq (.region [⟨(some 10), .mov (.t 1), none⟩, ⟨(some 11), .bin .lss .int (.t 10) (.k (.c (.int .i64 0))), none⟩])
  (.cond (.t 11) (.seq (.region [⟨(some 4), .mov (.k (.c (.int .i64 (-1)))), none⟩])
  .ret) .skip))
  (.seq (.seq (.region [⟨(some 5), .mov (.k (.c (.int .i64 0))), none⟩])
  (.block 0 (.loop l58_0)))
  (.seq (.region [⟨(some 26), .mov (.t 1), none⟩, ⟨(some 4), .mov (.t 26), none⟩])
  .ret))))), [.tmp 4], true⟩
theorem c58 : kk 58 = some k58 := by kernel_rfl
/-- loop.example/g01263/spec.l05Fault -/
def l59_0 : KC := (.seq (.seq (.region [⟨(some 4), .mov (.t 3), none⟩, ⟨(some 5), .mov (.t 0), none⟩, ⟨(some 6), .nilchk (.t 5), none⟩, ⟨(some 7), .fldA 0 (.t 6), none⟩, ⟨(some 8), .load1 (.t 7), none⟩, ⟨(some 9), .len false (.t 8), none⟩, ⟨(some 10), .bin .lss .int (.t 4) (.t 9), none⟩])
  (.cond (.t 10) .skip (.exit 0)))
  (.seq (.block 1 (.seq (.region [⟨(some 13), .mov (.t 0), none⟩, ⟨(some 14), .nilchk (.t 13), none⟩, ⟨(some 15), .fldA 0 (.t 14), none⟩, ⟨(some 16), .load1 (.t 15), none⟩, ⟨(some 17), .mov (.t 3), none⟩, ⟨(some 18), .idxS 3 (.t 16) (.t 17), none⟩, ⟨(some 19), .call (.k (.c (.fn 48 []))) [(.t 18)], none⟩, ⟨(some 20), .un .not (.t 19), none⟩, ⟨(some 21), .mov (.t 20), none⟩, ⟨(some 22), .mov (.t 0), some (21, false)⟩, ⟨(some 23), .nilchk (.t 22), some (21, false)⟩, ⟨(some 24), .fldA 0 (.t 23), some (21, false)⟩, ⟨(some 25), .load1 (.t 24), some (21, false)⟩, ⟨(some 26), .mov (.t 3), some (21, false)⟩, ⟨(some 27), .call (.k (.c (.fn 69 []))) [(.t 25), (.t 26)], some (21, false)⟩, ⟨(some 28), .pick (.t 21) (.k (.c (.bool true))) (.t 27), none⟩])
  (.cond (.t 28) (.seq (.region [⟨(some 29), .mov (.t 3), none⟩, ⟨(some 2), .mov (.t 29), none⟩])
  .ret) .skip)))
  (.region [⟨(some 11), .mov (.t 3), none⟩, ⟨(some 12), .bin .add .int (.t 11) (.k (.c (.int .i64 1))), none⟩, ⟨(some 3), .mov (.t 12), none⟩])))
def k59 : KF := ⟨45, (.seq (.region [⟨(some 2), .mov (.k (.c (.int .i64 0))), none⟩])
  (.seq (.seq (.region [⟨(some 3), .mov (.k (.c (.int .i64 0))), none⟩])
  (.block 0 (.loop l59_0)))
  (.seq (.seq (.drawn [(⟨(some 30), .mov (.t 0), none⟩, []), (⟨(some 31), .nilchk (.t 30), none⟩, []), (⟨(some 32), .fldA 1 (.t 31), none⟩, []), (⟨(some 33), .load1 (.t 32), none⟩, []), (⟨(some 34), .mov (.t 0), none⟩, []), (⟨(some 35), .nilchk (.t 34), none⟩, []), (⟨(some 36), .fldA 0 (.t 35), none⟩, []), (⟨(some 37), .load1 (.t 36), none⟩, []), (⟨(some 38), .call (.k (.c (.fn 70 []))) [(.t 37)], none⟩, [⟨(some 33), .load1 (.t 32), none⟩]), (⟨(some 39), .bin .neq .int (.t 33) (.t 38), none⟩, [])])
  (.cond (.t 39) (.seq (.region [⟨(some 40), .mov (.t 0), none⟩, ⟨(some 41), .nilchk (.t 40), none⟩, ⟨(some 42), .fldA 0 (.t 41), none⟩, ⟨(some 43), .load1 (.t 42), none⟩, ⟨(some 44), .len false (.t 43), none⟩, ⟨(some 2), .mov (.t 44), none⟩])
  .ret) .skip))
  (.seq (.region [⟨(some 2), .mov (.k (.c (.int .i64 (-1)))), none⟩])
  .ret)))), [.tmp 2], true⟩
theorem c59 : kk 59 = some k59 := by kernel_rfl
/-- loop.example/g01263/laws.toAccountS -/
def l60_0 : KC := (.seq (.seq (.region [⟨(some 8), .mov (.t 4), none⟩, ⟨(some 9), .mov (.t 0), none⟩, ⟨(some 10), .len false (.t 9), none⟩, ⟨(some 11), .bin .lss .int (.t 8) (.t 10), none⟩])
  (.cond (.t 11) .skip (.exit 0)))
  (.seq (.block 1 (.region [⟨(some 14), .mov (.t 3), none⟩, ⟨(some 15), .mov (.t 4), none⟩, ⟨(some 16), .mov (.t 0), none⟩, ⟨(some 17), .mov (.t 4), none⟩, ⟨(some 18), .idxS 3 (.t 16) (.t 17), none⟩, ⟨(some 19), .loadN 3 (.t 18), none⟩, ⟨(some 20), .call (.k (.c (.fn 21 []))) [(.t 19)], none⟩, ⟨(some 21), .idxS 3 (.t 14) (.t 15), none⟩, ⟨none, .store 3 (.t 21) (.t 20), none⟩]))
  (.region [⟨(some 12), .mov (.t 4), none⟩, ⟨(some 13), .bin .add .int (.t 12) (.k (.c (.int .i64 1))), none⟩, ⟨(some 4), .mov (.t 13), none⟩])))
def k60 : KF := ⟨23, (.seq (.region [⟨(some 2), .mov (.k (.c (.slice none 0 (.exact 0)))), none⟩])
  (.seq (.region [⟨(some 5), .mov (.t 0), none⟩, ⟨(some 6), .len false (.t 5), none⟩, ⟨(some 7), .mkSl 36 [(.str ⟨#[]⟩), (.slice none 0 (.exact 0)), (.int .i64 0)] 48 (.t 6) (.t 6), none⟩, ⟨(some 3), .mov (.t 7), none⟩])
  (.seq (.seq (.region [⟨(some 4), .mov (.k (.c (.int .i64 0))), none⟩])
  (.block 0 (.loop l60_0)))
  (.seq (.region [⟨(some 22), .mov (.t 3), none⟩, ⟨(some 2), .mov (.t 22), none⟩])
  .ret)))), [.tmp 2], false⟩
theorem c60 : kk 60 = some k60 := by kernel_rfl
/-- loop.example/g01263/impl.hasTitle -/
def k61 : KF := ⟨8, (.seq (.region [⟨(some 3), .box 9 (.t 1), none⟩, ⟨(some 4), .mov (.k (.c (.bool false))), none⟩])
  (.seq (.region [⟨(some 5), .mov (.t 0), none⟩, ⟨(some 6), .mkFn 72 [(.t 3)], none⟩, ⟨(some 7), .call (.k (.c (.fn 71 []))) [(.t 5), (.t 6)], none⟩, ⟨(some 4), .mov (.t 7), none⟩])
  .ret)), [.tmp 4], true⟩
theorem c61 : kk 61 = some k61 := by kernel_rfl
/-- loop.example/g01263/impl.owed -/
def l62_0 : KC := (.seq (.region [⟨(some 9), .bin .lss .int (.t 8) (.t 7), none⟩])
  (.seq (.cond (.t 9) .skip (.exit 0))
  (.seq (.block 1 (.seq (.region [⟨(some 10), .idxS 3 (.t 6) (.t 8), none⟩, ⟨(some 11), .loadN 3 (.t 10), none⟩, ⟨(some 5), .alloc 36 [(.str ⟨#[]⟩), (.slice none 0 (.exact 0)), (.int .i64 0)], none⟩, ⟨none, .store 3 (.t 5) (.t 11), none⟩])
  (.region [⟨(some 12), .mov (.t 3), none⟩, ⟨(some 13), .fldA 2 (.t 5), none⟩, ⟨(some 14), .load1 (.t 13), none⟩, ⟨(some 15), .max [(.t 14), (.k (.c (.int .i64 0)))], none⟩, ⟨(some 16), .bin .add .int (.t 12) (.t 15), none⟩, ⟨(some 3), .mov (.t 16), none⟩])))
  (.region [⟨(some 17), .bin .add .int (.t 8) (.k (.c (.int .i64 1))), none⟩, ⟨(some 8), .mov (.t 17), none⟩]))))
def k62 : KF := ⟨19, (.seq (.region [⟨(some 2), .mov (.k (.c (.int .i64 0))), none⟩])
  (.seq (.region [⟨(some 3), .mov (.k (.c (.int .i64 0))), none⟩])
  (.seq (.seq (.region [⟨(some 6), .mov (.t 0), none⟩, ⟨(some 7), .len false (.t 6), none⟩, ⟨(some 8), .mov (.k (.c (.int .i64 0))), none⟩])
  (.block 0 (.loop l62_0)))
  (.seq (.region [⟨(some 18), .mov (.t 3), none⟩, ⟨(some 2), .mov (.t 18), none⟩])
  .ret)))), [.tmp 2], true⟩
theorem c62 : kk 62 = some k62 := by kernel_rfl
/-- loop.example/g01263/laws.eqAccountS -/
def l63_0 : KC := (.seq (.seq (.region [⟨(some 11), .mov (.t 5), none⟩, ⟨(some 12), .mov (.t 0), none⟩, ⟨(some 13), .len false (.t 12), none⟩, ⟨(some 14), .bin .lss .int (.t 11) (.t 13), none⟩])
  (.cond (.t 14) .skip (.exit 0)))
  (.seq (.block 1 (.seq (.drawn [(⟨(some 17), .mov (.t 0), none⟩, []), (⟨(some 18), .mov (.t 5), none⟩, []), (⟨(some 19), .idxS 3 (.t 17) (.t 18), none⟩, []), (⟨(some 20), .loadN 3 (.t 19), none⟩, []), (⟨(some 21), .mov (.t 1), none⟩, []), (⟨(some 22), .mov (.t 5), none⟩, []), (⟨(some 23), .idxS 3 (.t 21) (.t 22), none⟩, []), (⟨(some 24), .loadN 3 (.t 23), none⟩, []), (⟨(some 25), .call (.k (.c (.fn 23 []))) [(.t 20), (.t 24)], none⟩, []), (⟨(some 26), .un .not (.t 25), none⟩, [])])
  (.cond (.t 26) (.seq (.region [⟨(some 4), .mov (.k (.c (.bool false))), none⟩])
  .ret) .skip)))
  (.region [⟨(some 15), .mov (.t 5), none⟩, ⟨(some 16), .bin .add .int (.t 15) (.k (.c (.int .i64 1))), none⟩, ⟨(some 5), .mov (.t 16), none⟩])))
def k63 : KF := ⟨27, (.seq (.region [⟨(some 4), .mov (.k (.c (.bool false))), none⟩])
  (.seq (.seq (.region [⟨(some 6), .mov (.t 0), none⟩, ⟨(some 7), .len false (.t 6), none⟩, ⟨(some 8), .mov (.t 1), none⟩, ⟨(some 9), .len false (.t 8), none⟩, ⟨(some 10), .bin .neq .int (.t 7) (.t 9), none⟩])
  (.cond (.t 10) (.seq (.region [⟨(some 4), .mov (.k (.c (.bool false))), none⟩])
  .ret) .skip))
  (.seq (.seq (.region [⟨(some 5), .mov (.k (.c (.int .i64 0))), none⟩])
  (.block 0 (.loop l63_0)))
  (.seq (.region [⟨(some 4), .mov (.k (.c (.bool true))), none⟩])
  .ret)))), [.tmp 4], true⟩
theorem c63 : kk 63 = some k63 := by kernel_rfl
/-- loop.example/g01263/spec.l05Roll -/
def k64 : KF := ⟨14, (.seq (.region [⟨(some 2), .mov (.k (.c (.bool false))), none⟩])
  (.seq (.region [⟨(some 3), .mov (.t 0), none⟩, ⟨(some 4), .nilchk (.t 3), none⟩, ⟨(some 5), .fldA 0 (.t 4), none⟩, ⟨(some 6), .load1 (.t 5), none⟩, ⟨(some 7), .len false (.t 6), none⟩, ⟨(some 8), .bin .leq .int (.t 7) (.k (.c (.int .i64 20))), none⟩, ⟨(some 9), .mov (.t 8), none⟩, ⟨(some 10), .mov (.t 0), some (9, true)⟩, ⟨(some 11), .call (.k (.c (.fn 59 []))) [(.t 10)], some (9, true)⟩, ⟨(some 12), .bin .lss .int (.t 11) (.k (.c (.int .i64 0))), some (9, true)⟩, ⟨(some 13), .pick (.t 9) (.t 12) (.k (.c (.bool false))), none⟩, ⟨(some 2), .mov (.t 13), none⟩])
  .ret)), [.tmp 2], true⟩
theorem c64 : kk 64 = some k64 := by kernel_rfl
/-- loop.example/g01263/impl.validRoll -/
def k65 : KF := ⟨12, (.seq (.region [⟨(some 1), .box 63 (.t 0), none⟩, ⟨(some 2), .mov (.k (.c (.bool false))), none⟩])
  (.seq (.region [⟨(some 6), .loadN 2 (.t 1), none⟩, ⟨(some 7), .call (.k (.c (.fn 39 []))) [(.t 6)], none⟩, ⟨(some 5), .mov (.t 7), none⟩, ⟨(some 8), .ext (.t 5) 0, none⟩, ⟨(some 9), .ext (.t 5) 1, none⟩, ⟨(some 3), .mov (.t 8), none⟩, ⟨(some 4), .mov (.t 9), none⟩])
  (.seq (.region [⟨(some 10), .mov (.t 4), none⟩, ⟨(some 11), .bin .eql .int (.t 10) (.k (.c (.int .i64 6))), none⟩, ⟨(some 2), .mov (.t 11), none⟩])
  .ret))), [.tmp 2], true⟩
theorem c65 : kk 65 = some k65 := by kernel_rfl
/-- slices.IndexFunc[[]loop.example/g01263/impl.Account,loop.example/g01263/impl.Account] -/
def l66_0 : KC := (.seq (.region [⟨(some 9), .bin .lss .int (.t 8) (.t 7), none⟩])
  (.seq (.cond (.t 9) .skip (.exit 0))
  (.seq (.block 1 (.seq (.region [⟨(some 10), .mov (.t 8), none⟩, ⟨(some 5), .mov (.t 10), none⟩])
  (.seq (.region [⟨(some 11), .mov (.t 1), none⟩, ⟨(some 12), .mov (.t 0), none⟩, ⟨(some 13), .mov (.t 5), none⟩, ⟨(some 14), .idxS 3 (.t 12) (.t 13), none⟩, ⟨(some 15), .loadN 3 (.t 14), none⟩, ⟨(some 16), .call (.t 11) [(.t 15)], none⟩])
  (.cond (.t 16) (.seq (.region [⟨(some 17), .mov (.t 5), none⟩, ⟨(some 4), .mov (.t 17), none⟩])
  .ret) .skip))))
  (.region [⟨(some 18), .bin .add .int (.t 8) (.k (.c (.int .i64 1))), none⟩, ⟨(some 8), .mov (.t 18), none⟩]))))
def k66 : KF := ⟨19, (.seq (.region [⟨(some 4), .mov (.k (.c (.int .i64 0))), none⟩])
  (.seq (.seq (.region [⟨(some 6), .mov (.t 0), none⟩, ⟨(some 7), .len false (.t 6), none⟩, ⟨(some 8), .mov (.k (.c (.int .i64 0))), none⟩])
  (.block 0 (.loop l66_0)))
  (.seq (.region [⟨(some 4), .mov (.k (.c (.int .i64 (-1)))), none⟩])
  .ret))), [.tmp 4], true⟩
theorem c66 : kk 66 = some k66 := by kernel_rfl
/-- loop.example/g01263/impl.FindAccount$1 -/
def k67 : KF := ⟨8, (.seq (.region [⟨(some 2), .box 36 (.t 0), none⟩, ⟨(some 3), .mov (.k (.c (.bool false))), none⟩])
  (.seq (.region [⟨(some 4), .fldA 0 (.t 2), none⟩, ⟨(some 5), .load1 (.t 4), none⟩, ⟨(some 6), .load1 (.t 1), none⟩, ⟨(some 7), .bin .eql .str (.t 5) (.t 6), none⟩, ⟨(some 3), .mov (.t 7), none⟩])
  .ret)), [.tmp 3], true⟩
theorem c67 : kk 67 = some k67 := by kernel_rfl
/-- loop.example/g01263/spec.l00In -/
def k68 : KF := ⟨15, (.seq (.region [⟨(some 6), .mov (.k (.c (.bool false))), none⟩])
  (.seq (.region [⟨(some 7), .mov (.t 0), none⟩, ⟨(some 8), .mov (.t 1), none⟩, ⟨(some 9), .bin .geq .int (.t 7) (.t 8), none⟩, ⟨(some 10), .mov (.t 9), none⟩, ⟨(some 11), .mov (.t 0), some (10, true)⟩, ⟨(some 12), .mov (.t 2), some (10, true)⟩, ⟨(some 13), .bin .leq .int (.t 11) (.t 12), some (10, true)⟩, ⟨(some 14), .pick (.t 10) (.t 13) (.k (.c (.bool false))), none⟩, ⟨(some 6), .mov (.t 14), none⟩])
  .ret)), [.tmp 6], true⟩
theorem c68 : kk 68 = some k68 := by kernel_rfl
/-- loop.example/g01263/spec.l05Twin -/
def l69_0 : KC := (.seq (.seq (.region [⟨(some 6), .mov (.t 5), none⟩, ⟨(some 7), .mov (.t 1), none⟩, ⟨(some 8), .bin .lss .int (.t 6) (.t 7), none⟩])
  (.cond (.t 8) .skip (.exit 0)))
  (.seq (.block 1 (.seq (.drawn [(⟨(some 11), .mov (.t 0), none⟩, []), (⟨(some 12), .mov (.t 5), none⟩, []), (⟨(some 13), .idxS 3 (.t 11) (.t 12), none⟩, []), (⟨(some 14), .fldA 0 (.t 13), none⟩, []), (⟨(some 15), .load1 (.t 14), none⟩, []), (⟨(some 16), .mov (.t 0), none⟩, []), (⟨(some 17), .mov (.t 1), none⟩, []), (⟨(some 18), .idxS 3 (.t 16) (.t 17), none⟩, []), (⟨(some 19), .fldA 0 (.t 18), none⟩, []), (⟨(some 20), .load1 (.t 19), none⟩, []), (⟨(some 21), .bin .eql .str (.t 15) (.t 20), none⟩, [])])
  (.cond (.t 21) (.seq (.region [⟨(some 4), .mov (.k (.c (.bool true))), none⟩])
  .ret) .skip)))
  (.region [⟨(some 9), .mov (.t 5), none⟩, ⟨(some 10), .bin .add .int (.t 9) (.k (.c (.int .i64 1))), none⟩, ⟨(some 5), .mov (.t 10), none⟩])))
def k69 : KF := ⟨22, (.seq (.region [⟨(some 4), .mov (.k (.c (.bool false))), none⟩])
  (.seq (.seq (.region [⟨(some 5), .mov (.k (.c (.int .i64 0))), none⟩])
  (.block 0 (.loop l69_0)))
  (.seq (.region [⟨(some 4), .mov (.k (.c (.bool false))), none⟩])
  .ret))), [.tmp 4], true⟩
theorem c69 : kk 69 = some k69 := by kernel_rfl
/-- loop.example/g01263/spec.l05Owed -/
def l70_0 : KC := (.seq (.seq (.region [⟨(some 5), .mov (.t 4), none⟩, ⟨(some 6), .mov (.t 0), none⟩, ⟨(some 7), .len false (.t 6), none⟩, ⟨(some 8), .bin .lss .int (.t 5) (.t 7), none⟩])
  (.cond (.t 8) .skip (.exit 0)))
  (.seq (.block 1 (.region [⟨(some 11), .mov (.t 3), none⟩, ⟨(some 12), .mov (.t 0), none⟩, ⟨(some 13), .mov (.t 4), none⟩, ⟨(some 14), .idxS 3 (.t 12) (.t 13), none⟩, ⟨(some 15), .fldA 2 (.t 14), none⟩, ⟨(some 16), .load1 (.t 15), none⟩, ⟨(some 17), .call (.k (.c (.fn 73 []))) [(.t 16), (.k (.c (.int .i64 0)))], none⟩, ⟨(some 18), .bin .add .int (.t 11) (.t 17), none⟩, ⟨(some 3), .mov (.t 18), none⟩]))
  (.region [⟨(some 9), .mov (.t 4), none⟩, ⟨(some 10), .bin .add .int (.t 9) (.k (.c (.int .i64 1))), none⟩, ⟨(some 4), .mov (.t 10), none⟩])))
def k70 : KF := ⟨20, (.seq (.region [⟨(some 2), .mov (.k (.c (.int .i64 0))), none⟩])
  (.seq (.region [⟨(some 3), .mov (.k (.c (.int .i64 0))), none⟩])
  (.seq (.seq (.region [⟨(some 4), .mov (.k (.c (.int .i64 0))), none⟩])
  (.block 0 (.loop l70_0)))
  (.seq (.region [⟨(some 19), .mov (.t 3), none⟩, ⟨(some 2), .mov (.t 19), none⟩])
  .ret)))), [.tmp 2], true⟩
theorem c70 : kk 70 = some k70 := by kernel_rfl
/-- slices.ContainsFunc[[]loop.example/g01263/impl.Account,loop.example/g01263/impl.Account] -/
def k71 : KF := ⟨9, (.seq (.region [⟨(some 4), .mov (.k (.c (.bool false))), none⟩])
  (.seq (.region [⟨(some 5), .mov (.t 0), none⟩, ⟨(some 6), .mov (.t 1), none⟩, ⟨(some 7), .call (.k (.c (.fn 66 []))) [(.t 5), (.t 6)], none⟩, ⟨(some 8), .bin .geq .int (.t 7) (.k (.c (.int .i64 0))), none⟩, ⟨(some 4), .mov (.t 8), none⟩])
  .ret)), [.tmp 4], true⟩
theorem c71 : kk 71 = some k71 := by kernel_rfl
/-- loop.example/g01263/impl.hasTitle$1 -/
def k72 : KF := ⟨8, (.seq (.region [⟨(some 2), .box 36 (.t 0), none⟩, ⟨(some 3), .mov (.k (.c (.bool false))), none⟩])
  (.seq (.region [⟨(some 4), .fldA 0 (.t 2), none⟩, ⟨(some 5), .load1 (.t 4), none⟩, ⟨(some 6), .load1 (.t 1), none⟩, ⟨(some 7), .bin .eql .str (.t 5) (.t 6), none⟩, ⟨(some 3), .mov (.t 7), none⟩])
  .ret)), [.tmp 3], true⟩
theorem c72 : kk 72 = some k72 := by kernel_rfl
/-- loop.example/g01263/spec.l00Max -/
def k73 : KF := ⟨10, (.seq (.region [⟨(some 4), .mov (.k (.c (.int .i64 0))), none⟩])
  (.seq (.seq (.region [⟨(some 5), .mov (.t 0), none⟩, ⟨(some 6), .mov (.t 1), none⟩, ⟨(some 7), .bin .gtr .int (.t 5) (.t 6), none⟩])
  (.cond (.t 7) (.seq (.region [⟨(some 8), .mov (.t 0), none⟩, ⟨(some 4), .mov (.t 8), none⟩])
  .ret) .skip))
  (.seq (.region [⟨(some 9), .mov (.t 1), none⟩, ⟨(some 4), .mov (.t 9), none⟩])
  .ret))), [.tmp 4], true⟩
theorem c73 : kk 73 = some k73 := by kernel_rfl
end Go.Proofs.Ytebdajfangbdpaa
