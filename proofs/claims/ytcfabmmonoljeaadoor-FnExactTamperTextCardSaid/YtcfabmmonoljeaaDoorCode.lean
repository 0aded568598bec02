/- What functions of the program answer: part Code. -/
import Derived.Test.YtcfabmmonoljeaaDoorViE
import Derived.Test.YtcfabmmonoljeaaDoorViC
import Derived.Test.YtcfabmmonoljeaaDoorViA
import Derived.Test.YtcfabmmonoljeaaDoorChecked
import Derived.KernelRfl
set_option linter.unusedVariables false
set_option linter.unusedSimpArgs false
set_option linter.unusedSectionVars false
namespace Go.Proofs.YtcfabmmonoljeaaDoor
open Go Go.Proofs.YtcfabmmonoljeaaDoor.VI
def k41 : KF := kNat 2 1 (splitA 9)
def k43 : KF := kNat 2 1 indexA
def k75 : KF := kNat 2 1 fmtA
def k80 : KF := kNat 1 1 decA
def k92 : KF := kNat 3 1 (insA 91 2 4)
noncomputable def kk : FuncId → Option KF := fun f => if f = 41 then some k41 else if f = 43 then some k43 else if f = 75 then some k75 else if f = 80 then some k80 else if f = 92 then some k92 else cFunc Tryd.prog (!([7, 8, 9, 12, 13, 24, 25, 26, 31, 32, 33, 35, 37, 38, 41, 52, 57, 62, 63, 67, 68, 71, 73, 78, 81, 83, 84, 85] : List Nat).contains f) f
/-- loop.example/g01263/laws.FnExactTamperText -/
def k4 : KF := ⟨14, (.seq (.region [⟨(some 1), .box 65 (.t 0), none⟩, ⟨(some 2), .mov (.k (.c (.bool false))), none⟩])
  (.seq (.region [⟨(some 5), .loadN 4 (.t 1), none⟩, ⟨(some 6), .call (.k (.c (.fn 28 []))) [(.t 5)], none⟩, ⟨(some 7), .call (.k (.c (.fn 27 []))) [(.t 6)], none⟩, ⟨(some 3), .mov (.t 7), none⟩])
  (.seq (.region [⟨(some 8), .loadN 4 (.t 1), none⟩, ⟨(some 9), .call (.k (.c (.fn 28 []))) [(.t 8)], none⟩, ⟨(some 10), .call (.k (.c (.fn 17 []))) [(.t 9)], none⟩, ⟨(some 4), .mov (.t 10), none⟩])
  (.seq (.seq (.region [⟨(some 11), .mov (.t 4), none⟩, ⟨(some 12), .mov (.t 3), none⟩, ⟨(some 13), .bin .neq .str (.t 11) (.t 12), none⟩])
  (.cond (.t 13) (.seq (.region [⟨(some 2), .mov (.k (.c (.bool false))), none⟩])
  .ret) .skip))
  (.seq (.region [⟨(some 2), .mov (.k (.c (.bool true))), none⟩])
  .ret))))), [.tmp 2], true⟩
theorem c4 : kk 4 = some k4 := by kernel_rfl
/-- loop.example/g01263/impl.TamperText -/
def k17 : KF := ⟨32, (.seq (.region [⟨(some 1), .box 37 (.t 0), none⟩, ⟨(some 2), .mov (.k (.c (.str ⟨#[]⟩))), none⟩])
  (.seq (.seq (.region [⟨(some 4), .loadN 4 (.t 1), none⟩, ⟨(some 5), .call (.k (.c (.fn 44 []))) [(.t 4)], none⟩, ⟨(some 6), .un .not (.t 5), none⟩])
  (.cond (.t 6) (.seq (.region [⟨(some 2), .mov (.k (.c (.str ⟨#[]⟩))), none⟩])
  .ret) .skip))
  (.seq (.region [⟨(some 7), .fldA 1 (.t 1), none⟩, ⟨(some 8), .load1 (.t 7), none⟩, ⟨(some 9), .fldA 1 (.t 1), none⟩, ⟨(some 10), .load1 (.t 9), none⟩, ⟨(some 11), .bin .add .int (.t 10) (.k (.c (.int .i8 1))), none⟩, ⟨(some 12), .sliceStr (.k (.c (.str ⟨#[100, 115, 108, 118, 99, 109]⟩))) (some (.t 8)) (some (.t 11)), none⟩, ⟨(some 3), .mov (.t 12), none⟩])
  (.seq (.seq (.region [⟨(some 13), .fldA 0 (.t 1), none⟩, ⟨(some 14), .load1 (.t 13), none⟩, ⟨(some 15), .bin .eql .int (.t 14) (.k (.c (.int .i8 1))), none⟩])
  (.cond (.t 15) (.seq (.region [⟨(some 16), .mov (.t 3), none⟩, ⟨(some 17), .bin .add .str (.k (.c (.str ⟨#[97, 100, 100, 32]⟩))) (.t 16), none⟩, ⟨(some 18), .bin .add .str (.t 17) (.k (.c (.str ⟨#[32]⟩))), none⟩, ⟨(some 19), .fldA 3 (.t 1), none⟩, ⟨(some 20), .load1 (.t 19), none⟩, ⟨(some 21), .conv .i64 (.t 20), none⟩, ⟨(some 22), .call (.k (.c (.fn 45 []))) [(.t 21)], none⟩, ⟨(some 23), .bin .add .str (.t 18) (.t 22), none⟩, ⟨(some 2), .mov (.t 23), none⟩])
  .ret) .skip))
  (.seq (.region [⟨(some 24), .fldA 2 (.t 1), none⟩, ⟨(some 25), .load1 (.t 24), none⟩, ⟨(some 26), .conv .i64 (.t 25), none⟩, ⟨(some 27), .call (.k (.c (.fn 45 []))) [(.t 26)], none⟩, ⟨(some 28), .bin .add .str (.k (.c (.str ⟨#[119, 105, 100, 101, 110, 32]⟩))) (.t 27), none⟩, ⟨(some 29), .bin .add .str (.t 28) (.k (.c (.str ⟨#[32]⟩))), none⟩, ⟨(some 30), .mov (.t 3), none⟩, ⟨(some 31), .bin .add .str (.t 29) (.t 30), none⟩, ⟨(some 2), .mov (.t 31), none⟩])
  .ret))))), [.tmp 2], true⟩
theorem c17 : kk 17 = some k17 := by kernel_rfl
/-- loop.example/g01263/spec.TamperText -/
def k27 : KF := ⟨6, (.seq (.region [⟨(some 1), .box 37 (.t 0), none⟩, ⟨(some 2), .mov (.k (.c (.str ⟨#[]⟩))), none⟩])
  (.seq (.seq (.region [⟨(some 3), .call (.k (.c (.fn 55 []))) [(.t 1)], none⟩, ⟨(some 4), .un .not (.t 3), none⟩])
  (.cond (.t 4) (.seq (.region [⟨(some 2), .mov (.k (.c (.str ⟨#[]⟩))), none⟩])
  .ret) .skip))
  (.seq (.region [⟨(some 5), .call (.k (.c (.fn 56 []))) [(.t 1)], none⟩, ⟨(some 2), .mov (.t 5), none⟩])
  .ret))), [.tmp 2], true⟩
theorem c27 : kk 27 = some k27 := by kernel_rfl
/-- loop.example/g01263/laws.toTamper -/
def k28 : KF := ⟨17, (.seq (.region [⟨(some 1), .box 65 (.t 0), none⟩, ⟨(some 2), .alloc 37 [(.int .i8 0), (.int .i8 0), (.int .i16 0), (.int .i16 0)], none⟩])
  (.seq (.region [⟨(some 3), .alloc 37 [(.int .i8 0), (.int .i8 0), (.int .i16 0), (.int .i16 0)], none⟩])
  (.seq (.region [⟨(some 4), .fldA 0 (.t 1), none⟩, ⟨(some 5), .load1 (.t 4), none⟩, ⟨(some 6), .fldA 0 (.t 3), none⟩, ⟨none, .store 1 (.t 6) (.t 5), none⟩])
  (.seq (.region [⟨(some 7), .fldA 1 (.t 1), none⟩, ⟨(some 8), .load1 (.t 7), none⟩, ⟨(some 9), .fldA 1 (.t 3), none⟩, ⟨none, .store 1 (.t 9) (.t 8), none⟩])
  (.seq (.region [⟨(some 10), .fldA 2 (.t 1), none⟩, ⟨(some 11), .load1 (.t 10), none⟩, ⟨(some 12), .fldA 2 (.t 3), none⟩, ⟨none, .store 1 (.t 12) (.t 11), none⟩])
  (.seq (.region [⟨(some 13), .fldA 3 (.t 1), none⟩, ⟨(some 14), .load1 (.t 13), none⟩, ⟨(some 15), .fldA 3 (.t 3), none⟩, ⟨none, .store 1 (.t 15) (.t 14), none⟩])
  (.seq (.region [⟨(some 16), .loadN 4 (.t 3), none⟩, ⟨none, .store 4 (.t 2) (.t 16), none⟩])
  .ret))))))), [.cellN 2 4], true⟩
theorem c28 : kk 28 = some k28 := by kernel_rfl
/-- loop.example/g01263/impl.isTamper -/
def k44 : KF := ⟨40, (.seq (.region [⟨(some 1), .box 37 (.t 0), none⟩, ⟨(some 2), .mov (.k (.c (.bool false))), none⟩])
  (.seq (.seq (.region [⟨(some 3), .fldA 1 (.t 1), none⟩, ⟨(some 4), .load1 (.t 3), none⟩, ⟨(some 5), .conv .i64 (.t 4), none⟩, ⟨(some 6), .call (.k (.c (.fn 48 []))) [(.t 5)], none⟩, ⟨(some 7), .un .not (.t 6), none⟩])
  (.cond (.t 7) (.seq (.region [⟨(some 2), .mov (.k (.c (.bool false))), none⟩])
  .ret) .skip))
  (.seq (.seq (.region [⟨(some 8), .fldA 0 (.t 1), none⟩, ⟨(some 9), .load1 (.t 8), none⟩])
  (.block 0 (.seq (.region [⟨(some 11), .bin .eql .int (.t 9) (.k (.c (.int .i8 1))), none⟩, ⟨(some 10), .mov (.t 11), none⟩])
  (.cond (.t 10) (.seq (.region [⟨(some 12), .fldA 2 (.t 1), none⟩, ⟨(some 13), .load1 (.t 12), none⟩, ⟨(some 14), .bin .eql .int (.t 13) (.k (.c (.int .i16 0))), none⟩, ⟨(some 15), .mov (.t 14), none⟩, ⟨(some 16), .fldA 3 (.t 1), some (15, true)⟩, ⟨(some 17), .load1 (.t 16), some (15, true)⟩, ⟨(some 18), .bin .geq .int (.t 17) (.k (.c (.int .i16 0))), some (15, true)⟩, ⟨(some 19), .pick (.t 15) (.t 18) (.k (.c (.bool false))), none⟩, ⟨(some 20), .mov (.t 19), none⟩, ⟨(some 21), .fldA 3 (.t 1), some (20, true)⟩, ⟨(some 22), .load1 (.t 21), some (20, true)⟩, ⟨(some 23), .bin .leq .int (.t 22) (.k (.c (.int .i16 200))), some (20, true)⟩, ⟨(some 24), .pick (.t 20) (.t 23) (.k (.c (.bool false))), none⟩, ⟨(some 2), .mov (.t 24), none⟩])
  .ret) (.seq (.region [⟨(some 26), .bin .eql .int (.t 9) (.k (.c (.int .i8 2))), none⟩, ⟨(some 25), .mov (.t 26), none⟩])
  (.cond (.t 25) (.seq (.region [⟨(some 27), .fldA 3 (.t 1), none⟩, ⟨(some 28), .load1 (.t 27), none⟩, ⟨(some 29), .bin .eql .int (.t 28) (.k (.c (.int .i16 0))), none⟩, ⟨(some 30), .mov (.t 29), none⟩, ⟨(some 31), .fldA 2 (.t 1), some (30, true)⟩, ⟨(some 32), .load1 (.t 31), some (30, true)⟩, ⟨(some 33), .bin .geq .int (.t 32) (.k (.c (.int .i16 0))), some (30, true)⟩, ⟨(some 34), .pick (.t 30) (.t 33) (.k (.c (.bool false))), none⟩, ⟨(some 35), .mov (.t 34), none⟩, ⟨(some 36), .fldA 2 (.t 1), some (35, true)⟩, ⟨(some 37), .load1 (.t 36), some (35, true)⟩, ⟨(some 38), .bin .lss .int (.t 37) (.k (.c (.int .i16 60))), some (35, true)⟩, ⟨(some 39), .pick (.t 35) (.t 38) (.k (.c (.bool false))), none⟩, ⟨(some 2), .mov (.t 39), none⟩])
  .ret) .skip))))))
  (.seq (.region [⟨(some 2), .mov (.k (.c (.bool false))), none⟩])
  .ret)))), [.tmp 2], true⟩
theorem c44 : kk 44 = some k44 := by kernel_rfl
/-- loop.example/g01263/impl.decimal -/
def k45 : KF := ⟨5, (.seq (.region [⟨(some 2), .mov (.k (.c (.str ⟨#[]⟩))), none⟩])
  (.seq (.region [⟨(some 3), .mov (.t 0), none⟩, ⟨(some 4), .call (.k (.c (.fn 75 []))) [(.t 3), (.k (.c (.int .i64 10)))], none⟩, ⟨(some 2), .mov (.t 4), none⟩])
  .ret)), [.tmp 2], true⟩
theorem c45 : kk 45 = some k45 := by kernel_rfl
/-- loop.example/g01263/impl.isKind -/
def k48 : KF := ⟨9, (.seq (.region [⟨(some 2), .mov (.k (.c (.bool false))), none⟩])
  (.seq (.region [⟨(some 3), .mov (.t 0), none⟩, ⟨(some 4), .bin .geq .int (.t 3) (.k (.c (.int .i64 0))), none⟩, ⟨(some 5), .mov (.t 4), none⟩, ⟨(some 6), .mov (.t 0), some (5, true)⟩, ⟨(some 7), .bin .leq .int (.t 6) (.k (.c (.int .i64 5))), some (5, true)⟩, ⟨(some 8), .pick (.t 5) (.t 7) (.k (.c (.bool false))), none⟩, ⟨(some 2), .mov (.t 8), none⟩])
  .ret)), [.tmp 2], true⟩
theorem c48 : kk 48 = some k48 := by kernel_rfl
/-- loop.example/g01263/spec.l04Told -/
def k55 : KF := ⟨44, (.seq (.region [⟨(some 2), .mov (.k (.c (.bool false))), none⟩])
  (.seq (.seq (.region [⟨(some 3), .mov (.t 0), none⟩, ⟨(some 4), .nilchk (.t 3), none⟩, ⟨(some 5), .fldA 1 (.t 4), none⟩, ⟨(some 6), .load1 (.t 5), none⟩, ⟨(some 7), .conv .i64 (.t 6), none⟩, ⟨(some 8), .call (.k (.c (.fn 69 []))) [(.t 7)], none⟩, ⟨(some 9), .un .not (.t 8), none⟩])
  (.cond (.t 9) (.seq (.region [⟨(some 2), .mov (.k (.c (.bool false))), none⟩])
  .ret) .skip))
  (.seq (.seq (.region [⟨(some 10), .mov (.t 0), none⟩, ⟨(some 11), .nilchk (.t 10), none⟩, ⟨(some 12), .fldA 0 (.t 11), none⟩, ⟨(some 13), .load1 (.t 12), none⟩])
  (.block 0 (.seq (.region [⟨(some 15), .bin .eql .int (.t 13) (.k (.c (.int .i8 1))), none⟩, ⟨(some 14), .mov (.t 15), none⟩])
  (.cond (.t 14) (.seq (.region [⟨(some 16), .mov (.t 0), none⟩, ⟨(some 17), .nilchk (.t 16), none⟩, ⟨(some 18), .fldA 2 (.t 17), none⟩, ⟨(some 19), .load1 (.t 18), none⟩, ⟨(some 20), .bin .eql .int (.t 19) (.k (.c (.int .i16 0))), none⟩, ⟨(some 21), .mov (.t 20), none⟩, ⟨(some 22), .mov (.t 0), some (21, true)⟩, ⟨(some 23), .nilchk (.t 22), some (21, true)⟩, ⟨(some 24), .fldA 3 (.t 23), some (21, true)⟩, ⟨(some 25), .load1 (.t 24), some (21, true)⟩, ⟨(some 26), .conv .i64 (.t 25), some (21, true)⟩, ⟨(some 27), .call (.k (.c (.fn 70 []))) [(.t 26), (.k (.c (.int .i64 0))), (.k (.c (.int .i64 200)))], some (21, true)⟩, ⟨(some 28), .pick (.t 21) (.t 27) (.k (.c (.bool false))), none⟩, ⟨(some 2), .mov (.t 28), none⟩])
  .ret) (.seq (.region [⟨(some 30), .bin .eql .int (.t 13) (.k (.c (.int .i8 2))), none⟩, ⟨(some 29), .mov (.t 30), none⟩])
  (.cond (.t 29) (.seq (.region [⟨(some 31), .mov (.t 0), none⟩, ⟨(some 32), .nilchk (.t 31), none⟩, ⟨(some 33), .fldA 3 (.t 32), none⟩, ⟨(some 34), .load1 (.t 33), none⟩, ⟨(some 35), .bin .eql .int (.t 34) (.k (.c (.int .i16 0))), none⟩, ⟨(some 36), .mov (.t 35), none⟩, ⟨(some 37), .mov (.t 0), some (36, true)⟩, ⟨(some 38), .nilchk (.t 37), some (36, true)⟩, ⟨(some 39), .fldA 2 (.t 38), some (36, true)⟩, ⟨(some 40), .load1 (.t 39), some (36, true)⟩, ⟨(some 41), .conv .i64 (.t 40), some (36, true)⟩, ⟨(some 42), .call (.k (.c (.fn 70 []))) [(.t 41), (.k (.c (.int .i64 0))), (.k (.c (.int .i64 59)))], some (36, true)⟩, ⟨(some 43), .pick (.t 36) (.t 42) (.k (.c (.bool false))), none⟩, ⟨(some 2), .mov (.t 43), none⟩])
  .ret) .skip))))))
  (.seq (.region [⟨(some 2), .mov (.k (.c (.bool false))), none⟩])
  .ret)))), [.tmp 2], true⟩
theorem c55 : kk 55 = some k55 := by kernel_rfl
/-- loop.example/g01263/spec.l04Text -/
def k56 : KF := ⟨37, (.seq (.region [⟨(some 2), .mov (.k (.c (.str ⟨#[]⟩))), none⟩])
  (.seq (.drawn [(⟨(some 5), .mov (.t 0), none⟩, []), (⟨(some 6), .nilchk (.t 5), none⟩, []), (⟨(some 7), .fldA 1 (.t 6), none⟩, []), (⟨(some 8), .load1 (.t 7), none⟩, []), (⟨(some 4), .call (.k (.c (.fn 79 []))) [], none⟩, [⟨(some 8), .load1 (.t 7), none⟩]), (⟨(some 9), .idxStr (.t 4) (.t 8), none⟩, []), (⟨(some 10), .buildSl 5 1 [(.int .u8 0)] [(0, 1, (.t 9))], none⟩, []), (⟨(some 11), .convBS (.t 10), none⟩, []), (⟨(some 3), .mov (.t 11), none⟩, [])])
  (.seq (.seq (.region [⟨(some 12), .mov (.t 0), none⟩, ⟨(some 13), .nilchk (.t 12), none⟩, ⟨(some 14), .fldA 0 (.t 13), none⟩, ⟨(some 15), .load1 (.t 14), none⟩, ⟨(some 16), .bin .eql .int (.t 15) (.k (.c (.int .i8 1))), none⟩])
  (.cond (.t 16) (.seq (.region [⟨(some 17), .mov (.t 3), none⟩, ⟨(some 18), .bin .add .str (.k (.c (.str ⟨#[97, 100, 100, 32]⟩))) (.t 17), none⟩, ⟨(some 19), .bin .add .str (.t 18) (.k (.c (.str ⟨#[32]⟩))), none⟩, ⟨(some 20), .mov (.t 0), none⟩, ⟨(some 21), .nilchk (.t 20), none⟩, ⟨(some 22), .fldA 3 (.t 21), none⟩, ⟨(some 23), .load1 (.t 22), none⟩, ⟨(some 24), .conv .i64 (.t 23), none⟩, ⟨(some 25), .call (.k (.c (.fn 80 []))) [(.t 24)], none⟩, ⟨(some 26), .bin .add .str (.t 19) (.t 25), none⟩, ⟨(some 2), .mov (.t 26), none⟩])
  .ret) .skip))
  (.seq (.region [⟨(some 27), .mov (.t 0), none⟩, ⟨(some 28), .nilchk (.t 27), none⟩, ⟨(some 29), .fldA 2 (.t 28), none⟩, ⟨(some 30), .load1 (.t 29), none⟩, ⟨(some 31), .conv .i64 (.t 30), none⟩, ⟨(some 32), .call (.k (.c (.fn 80 []))) [(.t 31)], none⟩, ⟨(some 33), .bin .add .str (.k (.c (.str ⟨#[119, 105, 100, 101, 110, 32]⟩))) (.t 32), none⟩, ⟨(some 34), .bin .add .str (.t 33) (.k (.c (.str ⟨#[32]⟩))), none⟩, ⟨(some 35), .mov (.t 3), none⟩, ⟨(some 36), .bin .add .str (.t 34) (.t 35), none⟩, ⟨(some 2), .mov (.t 36), none⟩])
  .ret)))), [.tmp 2], true⟩
theorem c56 : kk 56 = some k56 := by kernel_rfl
/-- loop.example/g01263/spec.l01Kind -/
def k69 : KF := ⟨5, (.seq (.region [⟨(some 2), .mov (.k (.c (.bool false))), none⟩])
  (.seq (.region [⟨(some 3), .mov (.t 0), none⟩, ⟨(some 4), .call (.k (.c (.fn 70 []))) [(.t 3), (.k (.c (.int .i64 0))), (.k (.c (.int .i64 5)))], none⟩, ⟨(some 2), .mov (.t 4), none⟩])
  .ret)), [.tmp 2], true⟩
theorem c69 : kk 69 = some k69 := by kernel_rfl
/-- loop.example/g01263/spec.l00In -/
def k70 : KF := ⟨15, (.seq (.region [⟨(some 6), .mov (.k (.c (.bool false))), none⟩])
  (.seq (.region [⟨(some 7), .mov (.t 0), none⟩, ⟨(some 8), .mov (.t 1), none⟩, ⟨(some 9), .bin .geq .int (.t 7) (.t 8), none⟩, ⟨(some 10), .mov (.t 9), none⟩, ⟨(some 11), .mov (.t 0), some (10, true)⟩, ⟨(some 12), .mov (.t 2), some (10, true)⟩, ⟨(some 13), .bin .leq .int (.t 11) (.t 12), some (10, true)⟩, ⟨(some 14), .pick (.t 10) (.t 13) (.k (.c (.bool false))), none⟩, ⟨(some 6), .mov (.t 14), none⟩])
  .ret)), [.tmp 6], true⟩
theorem c70 : kk 70 = some k70 := by kernel_rfl
/-- loop.example/g01263/spec.l01Letters -/
def k79 : KF := ⟨1, (.seq (.region [⟨(some 0), .mov (.k (.c (.str ⟨#[]⟩))), none⟩])
  (.seq (.region [⟨(some 0), .mov (.k (.c (.str ⟨#[100, 115, 108, 118, 99, 109]⟩))), none⟩])
  .ret)), [.tmp 0], true⟩
theorem c79 : kk 79 = some k79 := by kernel_rfl
theorem c75 : kk 75 = some k75 := by kernel_rfl
theorem c80 : kk 80 = some k80 := by kernel_rfl
end Go.Proofs.YtcfabmmonoljeaaDoor
