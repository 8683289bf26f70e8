/-
  An abstract machine over the model, the code of functions on it, and their contracts: what the claim needs.
  No condition: definitions, plain laws, contracts over any program that has this code.
-/
import Derived.Test.YtmomepfdfmjceaaZ2
set_option linter.all false
namespace Go.AW
def c_warehouselaw17_light : AFunc := ⟨23, [.tmp 2],
  (.seq
  (.region [
    ⟨(some 1), .box (.t 0), none⟩,
    ⟨(some 2), .move (.c (.bool false)), none⟩])
  (.seq
  (.seq
  (.region [
    ⟨(some 4), .fieldAddr 1 (.t 1), none⟩,
    ⟨(some 5), .load false 1 (.t 4), none⟩,
    ⟨(some 6), .len (.t 5), none⟩,
    ⟨(some 7), .bin .gtr (.t 6) (.c (.int .i64 50)), none⟩])
  (.cond (.t 7)
    (.seq
    (.region [
      ⟨(some 2), .move (.c (.bool false)), none⟩])
    .ret)
    .skip))
  (.seq
  (.seq
  (.region [
    ⟨(some 3), .move (.c (.int .i64 0)), none⟩])
  (.block 0
    (.loop
      (.seq
      (.seq
      (.region [
        ⟨(some 8), .move (.t 3), none⟩,
        ⟨(some 9), .fieldAddr 1 (.t 1), none⟩,
        ⟨(some 10), .load false 1 (.t 9), none⟩,
        ⟨(some 11), .len (.t 10), none⟩,
        ⟨(some 12), .bin .lss (.t 8) (.t 11), none⟩])
      (.cond (.t 12)
        .skip
        (.exit 0)))
      (.seq
      (.block 1
        (.seq
        (.region [
          ⟨(some 15), .fieldAddr 1 (.t 1), none⟩,
          ⟨(some 16), .load false 1 (.t 15), none⟩,
          ⟨(some 17), .move (.t 3), none⟩,
          ⟨(some 18), .indexAddr 2 (.t 16) (.t 17), none⟩,
          ⟨(some 19), .fieldAddr 0 (.t 18), none⟩,
          ⟨(some 20), .load false 1 (.t 19), none⟩,
          ⟨(some 21), .len (.t 20), none⟩,
          ⟨(some 22), .bin .gtr (.t 21) (.c (.int .i64 20)), none⟩])
        (.cond (.t 22)
          (.seq
          (.region [
            ⟨(some 2), .move (.c (.bool false)), none⟩])
          .ret)
          .skip)))
      (.region [
        ⟨(some 13), .move (.t 3), none⟩,
        ⟨(some 14), .bin .add (.t 13) (.c (.int .i64 1)), none⟩,
        ⟨(some 3), .move (.t 14), none⟩]))))))
  (.seq
  (.region [
    ⟨(some 2), .move (.c (.bool true)), none⟩])
  .ret))))⟩

structure F_warehouselaw17_light (P : Program) where
  id : FuncId
  has : Has P id [] c_warehouselaw17_light

def c_warehouselaw17_number : AFunc := ⟨5, [.cell true 3 2],
  (.seq
  (.region [
    ⟨(some 2), .alloc [(.int .i64 0), (.int .i64 0), (.str (bs []))], none⟩])
  (.seq
  (.region [
    ⟨(some 3), .move (.t 0), none⟩,
    ⟨(some 4), .build [(.int .i64 0), (.int .i64 0), (.str (bs []))] [(0, 1, (.c (.int .i64 2))), (1, 1, (.t 3))], none⟩,
    ⟨none, .store 3 (.t 2) (.t 4), none⟩])
  .ret))⟩

structure F_warehouselaw17_number (P : Program) where
  id : FuncId
  has : Has P id [] c_warehouselaw17_number

def c_aggregate_rows : AFunc := ⟨9, [.tmp 2],
  (.seq
  (.region [
    ⟨(some 2), .move (.c (.bool false)), none⟩])
  (.seq
  (.region [
    ⟨(some 3), .move (.t 0), none⟩,
    ⟨(some 4), .bin .geq (.t 3) (.c (.int .i64 (-268435456))), none⟩,
    ⟨(some 5), .move (.t 4), none⟩,
    ⟨(some 6), .move (.t 0), some (some 5, true)⟩,
    ⟨(some 7), .bin .leq (.t 6) (.c (.int .i64 268435456)), some (some 5, true)⟩,
    ⟨(some 8), .pick (.t 5) (.t 7) (.c (.bool false)), none⟩,
    ⟨(some 2), .move (.t 8), none⟩])
  .ret))⟩

structure F_aggregate_rows (P : Program) where
  id : FuncId
  has : Has P id [] c_aggregate_rows

def c_bag_formed (f_value_Valid : FuncId) : AFunc := ⟨30, [.tmp 2],
  (.seq
  (.region [
    ⟨(some 1), .box (.t 0), none⟩,
    ⟨(some 2), .move (.c (.int .i64 0)), none⟩])
  (.seq
  (.seq
  (.region [
    ⟨(some 5), .fieldAddr 0 (.t 1), none⟩,
    ⟨(some 6), .load false 1 (.t 5), none⟩,
    ⟨(some 7), .len (.t 6), none⟩,
    ⟨(some 8), .bin .gtr (.t 7) (.c (.int .i64 12)), none⟩,
    ⟨(some 9), .move (.t 8), none⟩,
    ⟨(some 10), .fieldAddr 1 (.t 1), some (some 9, false)⟩,
    ⟨(some 11), .load false 1 (.t 10), some (some 9, false)⟩,
    ⟨(some 12), .bin .lss (.t 11) (.c (.int .i64 (-65536))), some (some 9, false)⟩,
    ⟨(some 13), .pick (.t 9) (.c (.bool true)) (.t 12), none⟩,
    ⟨(some 14), .move (.t 13), none⟩,
    ⟨(some 15), .fieldAddr 1 (.t 1), some (some 14, false)⟩,
    ⟨(some 16), .load false 1 (.t 15), some (some 14, false)⟩,
    ⟨(some 17), .bin .gtr (.t 16) (.c (.int .i64 65536)), some (some 14, false)⟩,
    ⟨(some 18), .pick (.t 14) (.c (.bool true)) (.t 17), none⟩])
  (.cond (.t 18)
    (.seq
    (.region [
      ⟨(some 2), .move (.c (.int .i64 2)), none⟩])
    .ret)
    .skip))
  (.seq
  (.seq
  (.region [
    ⟨(some 19), .fieldAddr 0 (.t 1), none⟩,
    ⟨(some 20), .load false 1 (.t 19), none⟩,
    ⟨(some 21), .len (.t 20), none⟩,
    ⟨(some 22), .move (.c (.int .i64 0)), none⟩])
  (.block 0
    (.loop
      (.seq
      (.region [
        ⟨(some 23), .bin .lss (.t 22) (.t 21), none⟩])
      (.seq
      (.cond (.t 23)
        .skip
        (.exit 0))
      (.seq
      (.block 1
        (.seq
        (.region [
          ⟨(some 24), .indexAddr 3 (.t 20) (.t 22), none⟩,
          ⟨(some 25), .load true 3 (.t 24), none⟩,
          ⟨(some 4), .alloc [(.int .i64 0), (.int .i64 0), (.str (bs []))], none⟩,
          ⟨none, .store 3 (.t 4) (.t 25), none⟩])
        (.seq
        (.region [
          ⟨(some 26), .load true 3 (.t 4), none⟩,
          ⟨(some 27), .call f_value_Valid [(.t 26)], none⟩,
          ⟨(some 28), .un .not (.t 27), none⟩])
        (.cond (.t 28)
          (.seq
          (.region [
            ⟨(some 2), .move (.c (.int .i64 8)), none⟩])
          .ret)
          .skip))))
      (.region [
        ⟨(some 29), .bin .add (.t 22) (.c (.int .i64 1)), none⟩,
        ⟨(some 22), .move (.t 29), none⟩])))))))
  (.seq
  (.region [
    ⟨(some 2), .move (.c (.int .i64 0)), none⟩])
  .ret))))⟩

structure F_bag_formed (P : Program) where
  id : FuncId
  value_Valid : F_value_Valid P
  has : Has P id [] (c_bag_formed value_Valid.id)

def c_bag_Validate (f_bag_formed : FuncId) (f_value_CompareRows : FuncId) : AFunc := ⟨39, [.tmp 2],
  (.seq
  (.region [
    ⟨(some 2), .move (.c (.int .i64 0)), none⟩])
  (.seq
  (.seq
  (.region [
    ⟨(some 6), .move (.t 0), none⟩,
    ⟨(some 7), .len (.t 6), none⟩,
    ⟨(some 8), .bin .gtr (.t 7) (.c (.int .i64 4096)), none⟩])
  (.cond (.t 8)
    (.seq
    (.region [
      ⟨(some 2), .move (.c (.int .i64 2)), none⟩])
    .ret)
    .skip))
  (.seq
  (.seq
  (.region [
    ⟨(some 9), .move (.t 0), none⟩,
    ⟨(some 10), .len (.t 9), none⟩,
    ⟨(some 11), .move (.c (.int .i64 0)), none⟩])
  (.block 0
    (.loop
      (.seq
      (.region [
        ⟨(some 12), .bin .lss (.t 11) (.t 10), none⟩])
      (.seq
      (.cond (.t 12)
        .skip
        (.exit 0))
      (.seq
      (.block 1
        (.seq
        (.region [
          ⟨(some 13), .move (.t 11), none⟩,
          ⟨(some 14), .indexAddr 2 (.t 9) (.t 11), none⟩,
          ⟨(some 15), .load true 2 (.t 14), none⟩,
          ⟨(some 4), .alloc [.nil, (.int .i64 0)], none⟩,
          ⟨(some 3), .move (.t 13), none⟩,
          ⟨none, .store 2 (.t 4) (.t 15), none⟩])
        (.seq
        (.seq
        (.region [
          ⟨(some 16), .load true 2 (.t 4), none⟩,
          ⟨(some 17), .call f_bag_formed [(.t 16)], none⟩,
          ⟨(some 5), .move (.t 17), none⟩])
        (.seq
        (.region [
          ⟨(some 18), .move (.t 5), none⟩,
          ⟨(some 19), .bin .neq (.t 18) (.c (.int .i64 0)), none⟩])
        (.cond (.t 19)
          (.seq
          (.region [
            ⟨(some 20), .move (.t 5), none⟩,
            ⟨(some 2), .move (.t 20), none⟩])
          .ret)
          .skip)))
        (.seq
        (.seq
        (.region [
          ⟨(some 21), .fieldAddr 1 (.t 4), none⟩,
          ⟨(some 22), .load false 1 (.t 21), none⟩,
          ⟨(some 23), .bin .eql (.t 22) (.c (.int .i64 0)), none⟩])
        (.cond (.t 23)
          (.seq
          (.region [
            ⟨(some 2), .move (.c (.int .i64 8)), none⟩])
          .ret)
          .skip))
        (.seq
        (.draw [
          (⟨(some 24), .move (.t 3), none⟩, []),
          (⟨(some 25), .bin .gtr (.t 24) (.c (.int .i64 0)), none⟩, []),
          (⟨(some 26), .move (.t 25), none⟩, []),
          (⟨(some 27), .move (.t 0), some (some 26, true)⟩, []),
          (⟨(some 28), .move (.t 3), some (some 26, true)⟩, []),
          (⟨(some 29), .bin .sub (.t 28) (.c (.int .i64 1)), some (some 26, true)⟩, []),
          (⟨(some 30), .indexAddr 2 (.t 27) (.t 29), some (some 26, true)⟩, []),
          (⟨(some 31), .fieldAddr 0 (.t 30), some (some 26, true)⟩, []),
          (⟨(some 32), .load false 1 (.t 31), some (some 26, true)⟩, []),
          (⟨(some 33), .fieldAddr 0 (.t 4), some (some 26, true)⟩, []),
          (⟨(some 34), .load false 1 (.t 33), some (some 26, true)⟩, []),
          (⟨(some 35), .call f_value_CompareRows [(.t 32), (.t 34)], some (some 26, true)⟩, []),
          (⟨(some 36), .bin .geq (.t 35) (.c (.int .i64 0)), some (some 26, true)⟩, []),
          (⟨(some 37), .pick (.t 26) (.t 36) (.c (.bool false)), none⟩, [])])
        (.cond (.t 37)
          (.seq
          (.region [
            ⟨(some 2), .move (.c (.int .i64 14)), none⟩])
          .ret)
          .skip))))))
      (.region [
        ⟨(some 38), .bin .add (.t 11) (.c (.int .i64 1)), none⟩,
        ⟨(some 11), .move (.t 38), none⟩])))))))
  (.seq
  (.region [
    ⟨(some 2), .move (.c (.int .i64 0)), none⟩])
  .ret))))⟩

structure F_bag_Validate (P : Program) where
  id : FuncId
  bag_formed : F_bag_formed P
  value_CompareRows : F_value_CompareRows P
  has : Has P id [] (c_bag_Validate bag_formed.id value_CompareRows.id)

def c_aggregate_Validate (f_aggregate_rows : FuncId) (f_bag_Validate : FuncId) : AFunc := ⟨36, [.tmp 2],
  (.seq
  (.region [
    ⟨(some 1), .box (.t 0), none⟩,
    ⟨(some 2), .move (.c (.int .i64 0)), none⟩])
  (.seq
  (.seq
  (.region [
    ⟨(some 6), .fieldAddr 0 (.t 1), none⟩,
    ⟨(some 7), .load false 1 (.t 6), none⟩,
    ⟨(some 8), .call f_aggregate_rows [(.t 7)], none⟩,
    ⟨(some 9), .un .not (.t 8), none⟩])
  (.cond (.t 9)
    (.seq
    (.region [
      ⟨(some 2), .move (.c (.int .i64 1)), none⟩])
    .ret)
    .skip))
  (.seq
  (.seq
  (.region [
    ⟨(some 10), .fieldAddr 1 (.t 1), none⟩,
    ⟨(some 11), .load false 1 (.t 10), none⟩,
    ⟨(some 12), .call f_bag_Validate [(.t 11)], none⟩,
    ⟨(some 3), .move (.t 12), none⟩])
  (.seq
  (.region [
    ⟨(some 13), .move (.t 3), none⟩,
    ⟨(some 14), .bin .neq (.t 13) (.c (.int .i64 0)), none⟩])
  (.cond (.t 14)
    (.seq
    (.region [
      ⟨(some 15), .move (.t 3), none⟩,
      ⟨(some 2), .move (.t 15), none⟩])
    .ret)
    .skip)))
  (.seq
  (.seq
  (.region [
    ⟨(some 16), .fieldAddr 1 (.t 1), none⟩,
    ⟨(some 17), .load false 1 (.t 16), none⟩,
    ⟨(some 18), .len (.t 17), none⟩,
    ⟨(some 19), .move (.c (.int .i64 0)), none⟩])
  (.block 0
    (.loop
      (.seq
      (.region [
        ⟨(some 20), .bin .lss (.t 19) (.t 18), none⟩])
      (.seq
      (.cond (.t 20)
        .skip
        (.exit 0))
      (.seq
      (.block 1
        (.seq
        (.region [
          ⟨(some 21), .indexAddr 2 (.t 17) (.t 19), none⟩,
          ⟨(some 22), .load true 2 (.t 21), none⟩,
          ⟨(some 5), .alloc [.nil, (.int .i64 0)], none⟩,
          ⟨none, .store 2 (.t 5) (.t 22), none⟩])
        (.seq
        (.region [
          ⟨(some 23), .fieldAddr 0 (.t 5), none⟩,
          ⟨(some 24), .load false 1 (.t 23), none⟩,
          ⟨(some 25), .len (.t 24), none⟩,
          ⟨(some 26), .bin .neq (.t 25) (.c (.int .i64 1)), none⟩,
          ⟨(some 27), .move (.t 26), none⟩,
          ⟨(some 28), .fieldAddr 0 (.t 5), some (some 27, false)⟩,
          ⟨(some 29), .load false 1 (.t 28), some (some 27, false)⟩,
          ⟨(some 30), .indexAddr 3 (.t 29) (.c (.int .i64 0)), some (some 27, false)⟩,
          ⟨(some 31), .fieldAddr 0 (.t 30), some (some 27, false)⟩,
          ⟨(some 32), .load false 1 (.t 31), some (some 27, false)⟩,
          ⟨(some 33), .bin .eql (.t 32) (.c (.int .i64 0)), some (some 27, false)⟩,
          ⟨(some 34), .pick (.t 27) (.c (.bool true)) (.t 33), none⟩])
        (.cond (.t 34)
          (.seq
          (.region [
            ⟨(some 2), .move (.c (.int .i64 8)), none⟩])
          .ret)
          .skip))))
      (.region [
        ⟨(some 35), .bin .add (.t 19) (.c (.int .i64 1)), none⟩,
        ⟨(some 19), .move (.t 35), none⟩])))))))
  (.seq
  (.region [
    ⟨(some 2), .move (.c (.int .i64 0)), none⟩])
  .ret)))))⟩

structure F_aggregate_Validate (P : Program) where
  id : FuncId
  aggregate_rows : F_aggregate_rows P
  bag_Validate : F_bag_Validate P
  has : Has P id [] (c_aggregate_Validate aggregate_rows.id bag_Validate.id)

def c_bag_both (f_bag_Validate : FuncId) : AFunc := ⟨13, [.tmp 4],
  (.seq
  (.region [
    ⟨(some 4), .move (.c (.int .i64 0)), none⟩])
  (.seq
  (.seq
  (.region [
    ⟨(some 6), .move (.t 0), none⟩,
    ⟨(some 7), .call f_bag_Validate [(.t 6)], none⟩,
    ⟨(some 5), .move (.t 7), none⟩])
  (.seq
  (.region [
    ⟨(some 8), .move (.t 5), none⟩,
    ⟨(some 9), .bin .neq (.t 8) (.c (.int .i64 0)), none⟩])
  (.cond (.t 9)
    (.seq
    (.region [
      ⟨(some 10), .move (.t 5), none⟩,
      ⟨(some 4), .move (.t 10), none⟩])
    .ret)
    .skip)))
  (.seq
  (.region [
    ⟨(some 11), .move (.t 1), none⟩,
    ⟨(some 12), .call f_bag_Validate [(.t 11)], none⟩,
    ⟨(some 4), .move (.t 12), none⟩])
  .ret)))⟩

structure F_bag_both (P : Program) where
  id : FuncId
  bag_Validate : F_bag_Validate P
  has : Has P id [] (c_bag_both bag_Validate.id)

def c_slices_Clone_LValue_Value : AFunc := ⟨8, [.tmp 2],
  (.seq
  (.region [
    ⟨(some 2), .move (.c .nil), none⟩])
  (.seq
  (.seq
  (.region [
    ⟨(some 3), .move (.t 0), none⟩,
    ⟨(some 4), .isNil false (.t 3), none⟩])
  (.cond (.t 4)
    (.seq
    (.region [
      ⟨(some 2), .move (.c .nil), none⟩])
    .ret)
    .skip))
  (.seq
  (.region [
    ⟨(some 5), .buildSlice 3 0 [(.int .i64 0), (.int .i64 0), (.str (bs []))] [], none⟩,
    ⟨(some 6), .move (.t 0), none⟩,
    ⟨(some 7), .append 3 32 [(.int .i64 0), (.int .i64 0), (.str (bs []))] (.t 5) (.t 6), none⟩,
    ⟨(some 2), .move (.t 7), none⟩])
  .ret)))⟩

structure F_slices_Clone_LValue_Value (P : Program) where
  id : FuncId
  has : Has P id [] c_slices_Clone_LValue_Value

def c_bag_put (f_slices_Clone_LValue_Value : FuncId) : AFunc := ⟨24, [.tmp 6, .tmp 7],
  (.seq
  (.region [
    ⟨(some 6), .move (.c .nil), none⟩,
    ⟨(some 7), .move (.c (.bool false)), none⟩])
  (.seq
  (.seq
  (.region [
    ⟨(some 8), .move (.t 2), none⟩,
    ⟨(some 9), .bin .lss (.t 8) (.c (.int .i64 (-65536))), none⟩,
    ⟨(some 10), .move (.t 9), none⟩,
    ⟨(some 11), .move (.t 2), some (some 10, false)⟩,
    ⟨(some 12), .bin .gtr (.t 11) (.c (.int .i64 65536)), some (some 10, false)⟩,
    ⟨(some 13), .pick (.t 10) (.c (.bool true)) (.t 12), none⟩])
  (.cond (.t 13)
    (.seq
    (.region [
      ⟨(some 6), .move (.c .nil), none⟩,
      ⟨(some 7), .move (.c (.bool false)), none⟩])
    .ret)
    .skip))
  (.seq
  (.seq
  (.region [
    ⟨(some 14), .move (.t 2), none⟩,
    ⟨(some 15), .bin .neq (.t 14) (.c (.int .i64 0)), none⟩])
  (.cond (.t 15)
    (.region [
      ⟨(some 16), .move (.t 0), none⟩,
      ⟨(some 17), .move (.t 1), none⟩,
      ⟨(some 18), .call f_slices_Clone_LValue_Value [(.t 17)], none⟩,
      ⟨(some 19), .move (.t 2), none⟩,
      ⟨(some 20), .build [.nil, (.int .i64 0)] [(0, 1, (.t 18)), (1, 1, (.t 19))], none⟩,
      ⟨(some 21), .buildSlice 2 1 [.nil, (.int .i64 0)] [(0, (.t 20))], none⟩,
      ⟨(some 22), .append 2 32 [.nil, (.int .i64 0)] (.t 16) (.t 21), none⟩,
      ⟨(some 0), .move (.t 22), none⟩])
    .skip))
  (.seq
  (.region [
    ⟨(some 23), .move (.t 0), none⟩,
    ⟨(some 6), .move (.t 23), none⟩,
    ⟨(some 7), .move (.c (.bool true)), none⟩])
  .ret))))⟩

structure F_bag_put (P : Program) where
  id : FuncId
  slices_Clone_LValue_Value : F_slices_Clone_LValue_Value P
  has : Has P id [] (c_bag_put slices_Clone_LValue_Value.id)

def c_bag_done : AFunc := ⟨8, [.tmp 2, .tmp 3],
  (.seq
  (.region [
    ⟨(some 2), .move (.c .nil), none⟩,
    ⟨(some 3), .move (.c (.int .i64 0)), none⟩])
  (.seq
  (.seq
  (.region [
    ⟨(some 4), .move (.t 0), none⟩,
    ⟨(some 5), .len (.t 4), none⟩,
    ⟨(some 6), .bin .gtr (.t 5) (.c (.int .i64 4096)), none⟩])
  (.cond (.t 6)
    (.seq
    (.region [
      ⟨(some 2), .move (.c .nil), none⟩,
      ⟨(some 3), .move (.c (.int .i64 2)), none⟩])
    .ret)
    .skip))
  (.seq
  (.region [
    ⟨(some 7), .move (.t 0), none⟩,
    ⟨(some 2), .move (.t 7), none⟩,
    ⟨(some 3), .move (.c (.int .i64 0)), none⟩])
  .ret)))⟩

structure F_bag_done (P : Program) where
  id : FuncId
  has : Has P id [] c_bag_done

def c_bag_merge (f_value_CompareRows : FuncId) (f_bag_put : FuncId) (f_bag_done : FuncId) : AFunc := ⟨105, [.tmp 6, .tmp 7],
  (.seq
  (.region [
    ⟨(some 6), .move (.c .nil), none⟩,
    ⟨(some 7), .move (.c (.int .i64 0)), none⟩])
  (.seq
  (.region [
    ⟨(some 8), .move (.c .nil), none⟩])
  (.seq
  (.region [
    ⟨(some 9), .move (.c (.bool true)), none⟩])
  (.seq
  (.block 0
    (.loop
      (.seq
      (.seq
      (.region [
        ⟨(some 11), .move (.t 0), none⟩,
        ⟨(some 12), .len (.t 11), none⟩,
        ⟨(some 13), .move (.t 1), none⟩,
        ⟨(some 14), .len (.t 13), none⟩,
        ⟨(some 15), .bin .add (.t 12) (.t 14), none⟩,
        ⟨(some 16), .bin .gtr (.t 15) (.c (.int .i64 0)), none⟩,
        ⟨(some 17), .move (.t 16), none⟩,
        ⟨(some 18), .move (.t 9), some (some 17, true)⟩,
        ⟨(some 19), .pick (.t 17) (.t 18) (.c (.bool false)), none⟩])
      (.cond (.t 19)
        .skip
        (.exit 0)))
      (.block 1
        (.seq
        (.region [
          ⟨(some 10), .move (.c (.int .i64 0)), none⟩])
        (.seq
        (.block 2
          (.seq
          (.region [
            ⟨(some 30), .move (.t 0), none⟩,
            ⟨(some 31), .len (.t 30), none⟩,
            ⟨(some 32), .bin .eql (.t 31) (.c (.int .i64 0)), none⟩,
            ⟨(some 29), .move (.t 32), none⟩])
          (.cond (.t 29)
            (.region [
              ⟨(some 10), .move (.c (.int .i64 1)), none⟩])
            (.seq
            (.region [
              ⟨(some 34), .move (.t 1), none⟩,
              ⟨(some 35), .len (.t 34), none⟩,
              ⟨(some 36), .bin .eql (.t 35) (.c (.int .i64 0)), none⟩,
              ⟨(some 33), .move (.t 36), none⟩])
            (.cond (.t 33)
              (.region [
                ⟨(some 10), .move (.c (.int .i64 (-1))), none⟩])
              (.draw [
                (⟨(some 20), .move (.t 0), none⟩, []),
                (⟨(some 21), .indexAddr 2 (.t 20) (.c (.int .i64 0)), none⟩, []),
                (⟨(some 22), .fieldAddr 0 (.t 21), none⟩, []),
                (⟨(some 23), .load false 1 (.t 22), none⟩, []),
                (⟨(some 24), .move (.t 1), none⟩, []),
                (⟨(some 25), .indexAddr 2 (.t 24) (.c (.int .i64 0)), none⟩, []),
                (⟨(some 26), .fieldAddr 0 (.t 25), none⟩, []),
                (⟨(some 27), .load false 1 (.t 26), none⟩, []),
                (⟨(some 28), .call f_value_CompareRows [(.t 23), (.t 27)], none⟩, []),
                (⟨(some 10), .move (.t 28), none⟩, [])]))))))
        (.block 3
          (.seq
          (.region [
            ⟨(some 62), .move (.t 10), none⟩,
            ⟨(some 63), .bin .lss (.t 62) (.c (.int .i64 0)), none⟩,
            ⟨(some 61), .move (.t 63), none⟩])
          (.cond (.t 61)
            (.seq
            (.draw [
              (⟨(some 65), .move (.t 8), none⟩, []),
              (⟨(some 66), .move (.t 0), none⟩, []),
              (⟨(some 67), .indexAddr 2 (.t 66) (.c (.int .i64 0)), none⟩, []),
              (⟨(some 68), .fieldAddr 0 (.t 67), none⟩, []),
              (⟨(some 69), .load false 1 (.t 68), none⟩, []),
              (⟨(some 70), .move (.t 0), none⟩, []),
              (⟨(some 71), .indexAddr 2 (.t 70) (.c (.int .i64 0)), none⟩, []),
              (⟨(some 72), .fieldAddr 1 (.t 71), none⟩, []),
              (⟨(some 73), .load false 1 (.t 72), none⟩, []),
              (⟨(some 74), .callE f_bag_put [(.t 65), (.t 69), (.t 73)], none⟩, []),
              (⟨(some 64), .move (.t 74), none⟩, []),
              (⟨(some 75), .extract (.t 64) 0, none⟩, []),
              (⟨(some 76), .extract (.t 64) 1, none⟩, []),
              (⟨(some 8), .move (.t 75), none⟩, []),
              (⟨(some 9), .move (.t 76), none⟩, [])])
            (.region [
              ⟨(some 77), .move (.t 0), none⟩,
              ⟨(some 78), .slice 2 (.t 77) (some (.c (.int .i64 1))) none, none⟩,
              ⟨(some 0), .move (.t 78), none⟩]))
            (.seq
            (.region [
              ⟨(some 80), .move (.t 10), none⟩,
              ⟨(some 81), .bin .gtr (.t 80) (.c (.int .i64 0)), none⟩,
              ⟨(some 79), .move (.t 81), none⟩])
            (.cond (.t 79)
              (.seq
              (.draw [
                (⟨(some 83), .move (.t 8), none⟩, []),
                (⟨(some 84), .move (.t 1), none⟩, []),
                (⟨(some 85), .indexAddr 2 (.t 84) (.c (.int .i64 0)), none⟩, []),
                (⟨(some 86), .fieldAddr 0 (.t 85), none⟩, []),
                (⟨(some 87), .load false 1 (.t 86), none⟩, []),
                (⟨(some 88), .move (.t 2), none⟩, []),
                (⟨(some 89), .move (.t 1), none⟩, []),
                (⟨(some 90), .indexAddr 2 (.t 89) (.c (.int .i64 0)), none⟩, []),
                (⟨(some 91), .fieldAddr 1 (.t 90), none⟩, []),
                (⟨(some 92), .load false 1 (.t 91), none⟩, []),
                (⟨(some 93), .bin .mul (.t 88) (.t 92), none⟩, []),
                (⟨(some 94), .callE f_bag_put [(.t 83), (.t 87), (.t 93)], none⟩, []),
                (⟨(some 82), .move (.t 94), none⟩, []),
                (⟨(some 95), .extract (.t 82) 0, none⟩, []),
                (⟨(some 96), .extract (.t 82) 1, none⟩, []),
                (⟨(some 8), .move (.t 95), none⟩, []),
                (⟨(some 9), .move (.t 96), none⟩, [])])
              (.region [
                ⟨(some 97), .move (.t 1), none⟩,
                ⟨(some 98), .slice 2 (.t 97) (some (.c (.int .i64 1))) none, none⟩,
                ⟨(some 1), .move (.t 98), none⟩]))
              (.seq
              (.draw [
                (⟨(some 38), .move (.t 8), none⟩, []),
                (⟨(some 39), .move (.t 0), none⟩, []),
                (⟨(some 40), .indexAddr 2 (.t 39) (.c (.int .i64 0)), none⟩, []),
                (⟨(some 41), .fieldAddr 0 (.t 40), none⟩, []),
                (⟨(some 42), .load false 1 (.t 41), none⟩, []),
                (⟨(some 43), .move (.t 0), none⟩, []),
                (⟨(some 44), .indexAddr 2 (.t 43) (.c (.int .i64 0)), none⟩, []),
                (⟨(some 45), .fieldAddr 1 (.t 44), none⟩, []),
                (⟨(some 46), .load false 1 (.t 45), none⟩, []),
                (⟨(some 47), .move (.t 2), none⟩, []),
                (⟨(some 48), .move (.t 1), none⟩, []),
                (⟨(some 49), .indexAddr 2 (.t 48) (.c (.int .i64 0)), none⟩, []),
                (⟨(some 50), .fieldAddr 1 (.t 49), none⟩, []),
                (⟨(some 51), .load false 1 (.t 50), none⟩, []),
                (⟨(some 52), .bin .mul (.t 47) (.t 51), none⟩, []),
                (⟨(some 53), .bin .add (.t 46) (.t 52), none⟩, []),
                (⟨(some 54), .callE f_bag_put [(.t 38), (.t 42), (.t 53)], none⟩, []),
                (⟨(some 37), .move (.t 54), none⟩, []),
                (⟨(some 55), .extract (.t 37) 0, none⟩, []),
                (⟨(some 56), .extract (.t 37) 1, none⟩, []),
                (⟨(some 8), .move (.t 55), none⟩, []),
                (⟨(some 9), .move (.t 56), none⟩, [])])
              (.draw [
                (⟨(some 57), .move (.t 0), none⟩, []),
                (⟨(some 58), .slice 2 (.t 57) (some (.c (.int .i64 1))) none, none⟩, []),
                (⟨(some 59), .move (.t 1), none⟩, []),
                (⟨(some 60), .slice 2 (.t 59) (some (.c (.int .i64 1))) none, none⟩, []),
                (⟨(some 0), .move (.t 58), none⟩, []),
                (⟨(some 1), .move (.t 60), none⟩, [])])))))))))))))
  (.seq
  (.seq
  (.region [
    ⟨(some 99), .move (.t 9), none⟩,
    ⟨(some 100), .un .not (.t 99), none⟩])
  (.cond (.t 100)
    (.seq
    (.region [
      ⟨(some 6), .move (.c .nil), none⟩,
      ⟨(some 7), .move (.c (.int .i64 2)), none⟩])
    .ret)
    .skip))
  (.seq
  (.region [
    ⟨(some 101), .move (.t 8), none⟩,
    ⟨(some 102), .call f_bag_done [(.t 101)], none⟩,
    ⟨(some 103), .extract (.t 102) 0, none⟩,
    ⟨(some 104), .extract (.t 102) 1, none⟩,
    ⟨(some 6), .move (.t 103), none⟩,
    ⟨(some 7), .move (.t 104), none⟩])
  .ret))))))⟩

structure F_bag_merge (P : Program) where
  id : FuncId
  value_CompareRows : F_value_CompareRows P
  bag_put : F_bag_put P
  bag_done : F_bag_done P
  has : Has P id [74, 94, 54] (c_bag_merge value_CompareRows.id bag_put.id bag_done.id)

def c_bag_Add (f_bag_both : FuncId) (f_bag_merge : FuncId) : AFunc := ⟨18, [.tmp 4, .tmp 5],
  (.seq
  (.region [
    ⟨(some 4), .move (.c .nil), none⟩,
    ⟨(some 5), .move (.c (.int .i64 0)), none⟩])
  (.seq
  (.seq
  (.region [
    ⟨(some 7), .move (.t 0), none⟩,
    ⟨(some 8), .move (.t 1), none⟩,
    ⟨(some 9), .call f_bag_both [(.t 7), (.t 8)], none⟩,
    ⟨(some 6), .move (.t 9), none⟩])
  (.seq
  (.region [
    ⟨(some 10), .move (.t 6), none⟩,
    ⟨(some 11), .bin .neq (.t 10) (.c (.int .i64 0)), none⟩])
  (.cond (.t 11)
    (.seq
    (.region [
      ⟨(some 12), .move (.t 6), none⟩,
      ⟨(some 4), .move (.c .nil), none⟩,
      ⟨(some 5), .move (.t 12), none⟩])
    .ret)
    .skip)))
  (.seq
  (.region [
    ⟨(some 13), .move (.t 0), none⟩,
    ⟨(some 14), .move (.t 1), none⟩,
    ⟨(some 15), .call f_bag_merge [(.t 13), (.t 14), (.c (.int .i64 1))], none⟩,
    ⟨(some 16), .extract (.t 15) 0, none⟩,
    ⟨(some 17), .extract (.t 15) 1, none⟩,
    ⟨(some 4), .move (.t 16), none⟩,
    ⟨(some 5), .move (.t 17), none⟩])
  .ret)))⟩

structure F_bag_Add (P : Program) where
  id : FuncId
  bag_both : F_bag_both P
  bag_merge : F_bag_merge P
  has : Has P id [] (c_bag_Add bag_both.id bag_merge.id)

def c_aggregate_merge (f_aggregate_rows : FuncId) (f_bag_Add : FuncId) : AFunc := ⟨33, [.cell true 2 4, .tmp 5],
  (.seq
  (.region [
    ⟨(some 2), .box (.t 0), none⟩,
    ⟨(some 3), .box (.t 1), none⟩,
    ⟨(some 4), .alloc [(.int .i64 0), .nil], none⟩,
    ⟨(some 5), .move (.c (.int .i64 0)), none⟩])
  (.seq
  (.region [
    ⟨(some 9), .fieldAddr 0 (.t 2), none⟩,
    ⟨(some 10), .load false 1 (.t 9), none⟩,
    ⟨(some 11), .fieldAddr 0 (.t 3), none⟩,
    ⟨(some 12), .load false 1 (.t 11), none⟩,
    ⟨(some 13), .bin .add (.t 10) (.t 12), none⟩,
    ⟨(some 6), .move (.t 13), none⟩])
  (.seq
  (.seq
  (.region [
    ⟨(some 14), .move (.t 6), none⟩,
    ⟨(some 15), .call f_aggregate_rows [(.t 14)], none⟩,
    ⟨(some 16), .un .not (.t 15), none⟩])
  (.cond (.t 16)
    (.seq
    (.region [
      ⟨(some 17), .build [(.int .i64 0), .nil] [], none⟩,
      ⟨none, .store 2 (.t 4) (.t 17), none⟩,
      ⟨(some 5), .move (.c (.int .i64 2)), none⟩])
    .ret)
    .skip))
  (.seq
  (.region [
    ⟨(some 19), .fieldAddr 1 (.t 2), none⟩,
    ⟨(some 20), .load false 1 (.t 19), none⟩,
    ⟨(some 21), .fieldAddr 1 (.t 3), none⟩,
    ⟨(some 22), .load false 1 (.t 21), none⟩,
    ⟨(some 23), .call f_bag_Add [(.t 20), (.t 22)], none⟩,
    ⟨(some 18), .move (.t 23), none⟩,
    ⟨(some 24), .extract (.t 18) 0, none⟩,
    ⟨(some 25), .extract (.t 18) 1, none⟩,
    ⟨(some 7), .move (.t 24), none⟩,
    ⟨(some 8), .move (.t 25), none⟩])
  (.seq
  (.seq
  (.region [
    ⟨(some 26), .move (.t 8), none⟩,
    ⟨(some 27), .bin .neq (.t 26) (.c (.int .i64 0)), none⟩])
  (.cond (.t 27)
    (.seq
    (.region [
      ⟨(some 28), .build [(.int .i64 0), .nil] [], none⟩,
      ⟨(some 29), .move (.t 8), none⟩,
      ⟨none, .store 2 (.t 4) (.t 28), none⟩,
      ⟨(some 5), .move (.t 29), none⟩])
    .ret)
    .skip))
  (.seq
  (.region [
    ⟨(some 30), .move (.t 6), none⟩,
    ⟨(some 31), .move (.t 7), none⟩,
    ⟨(some 32), .build [(.int .i64 0), .nil] [(0, 1, (.t 30)), (1, 1, (.t 31))], none⟩,
    ⟨none, .store 2 (.t 4) (.t 32), none⟩,
    ⟨(some 5), .move (.c (.int .i64 0)), none⟩])
  .ret))))))⟩

structure F_aggregate_merge (P : Program) where
  id : FuncId
  aggregate_rows : F_aggregate_rows P
  bag_Add : F_bag_Add P
  has : Has P id [] (c_aggregate_merge aggregate_rows.id bag_Add.id)

def c_aggregate_Add (f_aggregate_Validate : FuncId) (f_value_Valid : FuncId) (f_aggregate_merge : FuncId) : AFunc := ⟨47, [.cell true 2 6, .tmp 7],
  (.seq
  (.region [
    ⟨(some 3), .box (.t 0), none⟩,
    ⟨(some 4), .box (.t 1), none⟩,
    ⟨(some 6), .alloc [(.int .i64 0), .nil], none⟩,
    ⟨(some 7), .move (.c (.int .i64 0)), none⟩])
  (.seq
  (.seq
  (.region [
    ⟨(some 10), .load true 2 (.t 3), none⟩,
    ⟨(some 11), .call f_aggregate_Validate [(.t 10)], none⟩,
    ⟨(some 8), .move (.t 11), none⟩])
  (.seq
  (.region [
    ⟨(some 12), .move (.t 8), none⟩,
    ⟨(some 13), .bin .neq (.t 12) (.c (.int .i64 0)), none⟩])
  (.cond (.t 13)
    (.seq
    (.region [
      ⟨(some 14), .build [(.int .i64 0), .nil] [], none⟩,
      ⟨(some 15), .move (.t 8), none⟩,
      ⟨none, .store 2 (.t 6) (.t 14), none⟩,
      ⟨(some 7), .move (.t 15), none⟩])
    .ret)
    .skip)))
  (.seq
  (.seq
  (.region [
    ⟨(some 16), .load true 3 (.t 4), none⟩,
    ⟨(some 17), .call f_value_Valid [(.t 16)], none⟩,
    ⟨(some 18), .un .not (.t 17), none⟩])
  (.cond (.t 18)
    (.seq
    (.region [
      ⟨(some 19), .build [(.int .i64 0), .nil] [], none⟩,
      ⟨none, .store 2 (.t 6) (.t 19), none⟩,
      ⟨(some 7), .move (.c (.int .i64 8)), none⟩])
    .ret)
    .skip))
  (.seq
  (.seq
  (.region [
    ⟨(some 20), .move (.t 2), none⟩,
    ⟨(some 21), .bin .lss (.t 20) (.c (.int .i64 (-65536))), none⟩,
    ⟨(some 22), .move (.t 21), none⟩,
    ⟨(some 23), .move (.t 2), some (some 22, false)⟩,
    ⟨(some 24), .bin .gtr (.t 23) (.c (.int .i64 65536)), some (some 22, false)⟩,
    ⟨(some 25), .pick (.t 22) (.c (.bool true)) (.t 24), none⟩])
  (.cond (.t 25)
    (.seq
    (.region [
      ⟨(some 26), .build [(.int .i64 0), .nil] [], none⟩,
      ⟨none, .store 2 (.t 6) (.t 26), none⟩,
      ⟨(some 7), .move (.c (.int .i64 1)), none⟩])
    .ret)
    .skip))
  (.seq
  (.region [
    ⟨(some 27), .move (.t 2), none⟩,
    ⟨(some 28), .build [(.int .i64 0), .nil] [(0, 1, (.t 27))], none⟩,
    ⟨(some 9), .alloc [(.int .i64 0), .nil], none⟩,
    ⟨none, .store 2 (.t 9) (.t 28), none⟩])
  (.seq
  (.seq
  (.region [
    ⟨(some 29), .fieldAddr 0 (.t 4), none⟩,
    ⟨(some 30), .load false 1 (.t 29), none⟩,
    ⟨(some 31), .bin .neq (.t 30) (.c (.int .i64 0)), none⟩,
    ⟨(some 32), .move (.t 31), none⟩,
    ⟨(some 33), .move (.t 2), some (some 32, true)⟩,
    ⟨(some 34), .bin .neq (.t 33) (.c (.int .i64 0)), some (some 32, true)⟩,
    ⟨(some 35), .pick (.t 32) (.t 34) (.c (.bool false)), none⟩])
  (.cond (.t 35)
    (.region [
      ⟨(some 36), .load true 3 (.t 4), none⟩,
      ⟨(some 37), .buildSlice 3 1 [(.int .i64 0), (.int .i64 0), (.str (bs []))] [(0, (.t 36))], none⟩,
      ⟨(some 38), .move (.t 2), none⟩,
      ⟨(some 39), .build [.nil, (.int .i64 0)] [(0, 1, (.t 37)), (1, 1, (.t 38))], none⟩,
      ⟨(some 40), .buildSlice 2 1 [.nil, (.int .i64 0)] [(0, (.t 39))], none⟩,
      ⟨(some 41), .fieldAddr 1 (.t 9), none⟩,
      ⟨none, .store 1 (.t 41) (.t 40), none⟩])
    .skip))
  (.seq
  (.region [
    ⟨(some 42), .load true 2 (.t 3), none⟩,
    ⟨(some 43), .load true 2 (.t 9), none⟩,
    ⟨(some 44), .call f_aggregate_merge [(.t 42), (.t 43)], none⟩,
    ⟨(some 45), .extract (.t 44) 0, none⟩,
    ⟨(some 46), .extract (.t 44) 1, none⟩,
    ⟨none, .store 2 (.t 6) (.t 45), none⟩,
    ⟨(some 7), .move (.t 46), none⟩])
  .ret)))))))⟩

structure F_aggregate_Add (P : Program) where
  id : FuncId
  aggregate_Validate : F_aggregate_Validate P
  value_Valid : F_value_Valid P
  aggregate_merge : F_aggregate_merge P
  has : Has P id [] (c_aggregate_Add aggregate_Validate.id value_Valid.id aggregate_merge.id)

def c_aggregate_totals : AFunc := ⟨29, [.tmp 2, .tmp 3],
  (.seq
  (.region [
    ⟨(some 2), .move (.c (.int .i64 0)), none⟩,
    ⟨(some 3), .move (.c (.int .i64 0)), none⟩])
  (.seq
  (.seq
  (.region [
    ⟨(some 6), .move (.t 0), none⟩,
    ⟨(some 7), .len (.t 6), none⟩,
    ⟨(some 8), .move (.c (.int .i64 0)), none⟩])
  (.block 0
    (.loop
      (.seq
      (.region [
        ⟨(some 9), .bin .lss (.t 8) (.t 7), none⟩])
      (.seq
      (.cond (.t 9)
        .skip
        (.exit 0))
      (.seq
      (.block 1
        (.seq
        (.region [
          ⟨(some 10), .indexAddr 2 (.t 6) (.t 8), none⟩,
          ⟨(some 11), .load true 2 (.t 10), none⟩,
          ⟨(some 5), .alloc [.nil, (.int .i64 0)], none⟩,
          ⟨none, .store 2 (.t 5) (.t 11), none⟩])
        (.seq
        (.draw [
          (⟨(some 12), .move (.t 2), none⟩, []),
          (⟨(some 13), .fieldAddr 0 (.t 5), none⟩, []),
          (⟨(some 14), .load false 1 (.t 13), none⟩, []),
          (⟨(some 15), .indexAddr 3 (.t 14) (.c (.int .i64 0)), none⟩, []),
          (⟨(some 16), .fieldAddr 1 (.t 15), none⟩, []),
          (⟨(some 17), .load false 1 (.t 16), none⟩, []),
          (⟨(some 18), .fieldAddr 1 (.t 5), none⟩, []),
          (⟨(some 19), .load false 1 (.t 18), none⟩, []),
          (⟨(some 20), .bin .mul (.t 17) (.t 19), none⟩, []),
          (⟨(some 21), .bin .add (.t 12) (.t 20), none⟩, []),
          (⟨(some 2), .move (.t 21), none⟩, [])])
        (.region [
          ⟨(some 22), .move (.t 3), none⟩,
          ⟨(some 23), .fieldAddr 1 (.t 5), none⟩,
          ⟨(some 24), .load false 1 (.t 23), none⟩,
          ⟨(some 25), .bin .add (.t 22) (.t 24), none⟩,
          ⟨(some 3), .move (.t 25), none⟩]))))
      (.region [
        ⟨(some 26), .bin .add (.t 8) (.c (.int .i64 1)), none⟩,
        ⟨(some 8), .move (.t 26), none⟩])))))))
  (.seq
  (.region [
    ⟨(some 27), .move (.t 2), none⟩,
    ⟨(some 28), .move (.t 3), none⟩,
    ⟨(some 2), .move (.t 27), none⟩,
    ⟨(some 3), .move (.t 28), none⟩])
  .ret)))⟩

structure F_aggregate_totals (P : Program) where
  id : FuncId
  has : Has P id [] c_aggregate_totals

def c_aggregate_integer : AFunc := ⟨12, [.cell true 3 2],
  (.seq
  (.region [
    ⟨(some 2), .alloc [(.int .i64 0), (.int .i64 0), (.str (bs []))], none⟩])
  (.seq
  (.seq
  (.region [
    ⟨(some 3), .move (.t 0), none⟩,
    ⟨(some 4), .bin .lss (.t 3) (.c (.int .i64 (-1073741824))), none⟩,
    ⟨(some 5), .move (.t 4), none⟩,
    ⟨(some 6), .move (.t 0), some (some 5, false)⟩,
    ⟨(some 7), .bin .gtr (.t 6) (.c (.int .i64 1073741824)), some (some 5, false)⟩,
    ⟨(some 8), .pick (.t 5) (.c (.bool true)) (.t 7), none⟩])
  (.cond (.t 8)
    (.seq
    (.region [
      ⟨(some 9), .build [(.int .i64 0), (.int .i64 0), (.str (bs []))] [], none⟩,
      ⟨none, .store 3 (.t 2) (.t 9), none⟩])
    .ret)
    .skip))
  (.seq
  (.region [
    ⟨(some 10), .move (.t 0), none⟩,
    ⟨(some 11), .build [(.int .i64 0), (.int .i64 0), (.str (bs []))] [(0, 1, (.c (.int .i64 2))), (1, 1, (.t 10))], none⟩,
    ⟨none, .store 3 (.t 2) (.t 11), none⟩])
  .ret)))⟩

structure F_aggregate_integer (P : Program) where
  id : FuncId
  has : Has P id [] c_aggregate_integer

def c_aggregate_positive : AFunc := ⟨6, [.tmp 2],
  (.seq
  (.region [
    ⟨(some 1), .box (.t 0), none⟩,
    ⟨(some 2), .move (.c (.bool false)), none⟩])
  (.seq
  (.region [
    ⟨(some 3), .fieldAddr 1 (.t 1), none⟩,
    ⟨(some 4), .load false 1 (.t 3), none⟩,
    ⟨(some 5), .bin .gtr (.t 4) (.c (.int .i64 0)), none⟩,
    ⟨(some 2), .move (.t 5), none⟩])
  .ret))⟩

structure F_aggregate_positive (P : Program) where
  id : FuncId
  has : Has P id [] c_aggregate_positive

def c_slices_Clone_LEntry_Entry : AFunc := ⟨8, [.tmp 2],
  (.seq
  (.region [
    ⟨(some 2), .move (.c .nil), none⟩])
  (.seq
  (.seq
  (.region [
    ⟨(some 3), .move (.t 0), none⟩,
    ⟨(some 4), .isNil false (.t 3), none⟩])
  (.cond (.t 4)
    (.seq
    (.region [
      ⟨(some 2), .move (.c .nil), none⟩])
    .ret)
    .skip))
  (.seq
  (.region [
    ⟨(some 5), .buildSlice 2 0 [.nil, (.int .i64 0)] [], none⟩,
    ⟨(some 6), .move (.t 0), none⟩,
    ⟨(some 7), .append 2 32 [.nil, (.int .i64 0)] (.t 5) (.t 6), none⟩,
    ⟨(some 2), .move (.t 7), none⟩])
  .ret)))⟩

structure F_slices_Clone_LEntry_Entry (P : Program) where
  id : FuncId
  has : Has P id [] c_slices_Clone_LEntry_Entry

def c_slices_Reverse_LEntry_Entry : AFunc := ⟨28, [],
  (.seq
  (.region [
    ⟨(some 4), .move (.t 0), none⟩,
    ⟨(some 5), .len (.t 4), none⟩,
    ⟨(some 6), .bin .sub (.t 5) (.c (.int .i64 1)), none⟩,
    ⟨(some 2), .move (.c (.int .i64 0)), none⟩,
    ⟨(some 3), .move (.t 6), none⟩])
  (.block 0
    (.loop
      (.seq
      (.seq
      (.region [
        ⟨(some 7), .move (.t 2), none⟩,
        ⟨(some 8), .move (.t 3), none⟩,
        ⟨(some 9), .bin .lss (.t 7) (.t 8), none⟩])
      (.cond (.t 9)
        .skip
        (.exit 0)))
      (.seq
      (.block 1
        (.draw [
          (⟨(some 14), .move (.t 0), none⟩, []),
          (⟨(some 15), .move (.t 2), none⟩, []),
          (⟨(some 16), .move (.t 0), none⟩, []),
          (⟨(some 17), .move (.t 3), none⟩, []),
          (⟨(some 18), .move (.t 0), none⟩, []),
          (⟨(some 19), .move (.t 3), none⟩, []),
          (⟨(some 20), .indexAddr 2 (.t 18) (.t 19), none⟩, []),
          (⟨(some 21), .load true 2 (.t 20), none⟩, []),
          (⟨(some 22), .move (.t 0), none⟩, []),
          (⟨(some 23), .move (.t 2), none⟩, []),
          (⟨(some 24), .indexAddr 2 (.t 22) (.t 23), none⟩, []),
          (⟨(some 25), .load true 2 (.t 24), none⟩, []),
          (⟨(some 26), .indexAddr 2 (.t 14) (.t 15), none⟩, []),
          (⟨none, .store 2 (.t 26) (.t 21), none⟩, []),
          (⟨(some 27), .indexAddr 2 (.t 16) (.t 17), none⟩, []),
          (⟨none, .store 2 (.t 27) (.t 25), none⟩, [])]))
      (.region [
        ⟨(some 10), .move (.t 2), none⟩,
        ⟨(some 11), .bin .add (.t 10) (.c (.int .i64 1)), none⟩,
        ⟨(some 12), .move (.t 3), none⟩,
        ⟨(some 13), .bin .sub (.t 12) (.c (.int .i64 1)), none⟩,
        ⟨(some 2), .move (.t 11), none⟩,
        ⟨(some 3), .move (.t 13), none⟩]))))))⟩

structure F_slices_Reverse_LEntry_Entry (P : Program) where
  id : FuncId
  has : Has P id [] c_slices_Reverse_LEntry_Entry

def c_slices_IndexFunc_LEntry_Entry : AFunc := ⟨19, [.tmp 4],
  (.seq
  (.region [
    ⟨(some 4), .move (.c (.int .i64 0)), none⟩])
  (.seq
  (.seq
  (.region [
    ⟨(some 6), .move (.t 0), none⟩,
    ⟨(some 7), .len (.t 6), none⟩,
    ⟨(some 8), .move (.c (.int .i64 0)), none⟩])
  (.block 0
    (.loop
      (.seq
      (.region [
        ⟨(some 9), .bin .lss (.t 8) (.t 7), none⟩])
      (.seq
      (.cond (.t 9)
        .skip
        (.exit 0))
      (.seq
      (.block 1
        (.seq
        (.region [
          ⟨(some 10), .move (.t 8), none⟩,
          ⟨(some 5), .move (.t 10), none⟩])
        (.seq
        (.region [
          ⟨(some 11), .move (.t 1), none⟩,
          ⟨(some 12), .move (.t 0), none⟩,
          ⟨(some 13), .move (.t 5), none⟩,
          ⟨(some 14), .indexAddr 2 (.t 12) (.t 13), none⟩,
          ⟨(some 15), .load true 2 (.t 14), none⟩,
          ⟨(some 16), .callv (.t 11) [(.t 15)], none⟩])
        (.cond (.t 16)
          (.seq
          (.region [
            ⟨(some 17), .move (.t 5), none⟩,
            ⟨(some 4), .move (.t 17), none⟩])
          .ret)
          .skip))))
      (.region [
        ⟨(some 18), .bin .add (.t 8) (.c (.int .i64 1)), none⟩,
        ⟨(some 8), .move (.t 18), none⟩])))))))
  (.seq
  (.region [
    ⟨(some 4), .move (.c (.int .i64 (-1))), none⟩])
  .ret)))⟩

structure F_slices_IndexFunc_LEntry_Entry (P : Program) where
  id : FuncId
  has : Has P id [] c_slices_IndexFunc_LEntry_Entry

def c_slices_ContainsFunc_LEntry_Entry (f_slices_IndexFunc_LEntry_Entry : FuncId) : AFunc := ⟨9, [.tmp 4],
  (.seq
  (.region [
    ⟨(some 4), .move (.c (.bool false)), none⟩])
  (.seq
  (.region [
    ⟨(some 5), .move (.t 0), none⟩,
    ⟨(some 6), .move (.t 1), none⟩,
    ⟨(some 7), .call f_slices_IndexFunc_LEntry_Entry [(.t 5), (.t 6)], none⟩,
    ⟨(some 8), .bin .geq (.t 7) (.c (.int .i64 0)), none⟩,
    ⟨(some 4), .move (.t 8), none⟩])
  .ret))⟩

structure F_slices_ContainsFunc_LEntry_Entry (P : Program) where
  id : FuncId
  slices_IndexFunc_LEntry_Entry : F_slices_IndexFunc_LEntry_Entry P
  has : Has P id [] (c_slices_ContainsFunc_LEntry_Entry slices_IndexFunc_LEntry_Entry.id)

def c_aggregate_Result_1 : AFunc := ⟨9, [.tmp 2],
  (.seq
  (.region [
    ⟨(some 1), .box (.t 0), none⟩,
    ⟨(some 2), .move (.c (.bool false)), none⟩])
  (.seq
  (.region [
    ⟨(some 3), .fieldAddr 0 (.t 1), none⟩,
    ⟨(some 4), .load false 1 (.t 3), none⟩,
    ⟨(some 5), .indexAddr 3 (.t 4) (.c (.int .i64 0)), none⟩,
    ⟨(some 6), .fieldAddr 0 (.t 5), none⟩,
    ⟨(some 7), .load false 1 (.t 6), none⟩,
    ⟨(some 8), .bin .neq (.t 7) (.c (.int .i64 2)), none⟩,
    ⟨(some 2), .move (.t 8), none⟩])
  .ret))⟩

structure F_aggregate_Result_1 (P : Program) where
  id : FuncId
  has : Has P id [] c_aggregate_Result_1

def c_aggregate_Result (f_aggregate_Validate : FuncId) (f_aggregate_totals : FuncId) (f_aggregate_integer : FuncId) (f_aggregate_positive : FuncId) (f_slices_Clone_LEntry_Entry : FuncId) (f_slices_Reverse_LEntry_Entry : FuncId) (f_slices_IndexFunc_LEntry_Entry : FuncId) (f_slices_ContainsFunc_LEntry_Entry : FuncId) (f_aggregate_Result_1 : FuncId) : AFunc := ⟨113, [.cell true 3 4, .tmp 5],
  (.seq
  (.region [
    ⟨(some 3), .box (.t 1), none⟩,
    ⟨(some 4), .alloc [(.int .i64 0), (.int .i64 0), (.str (bs []))], none⟩,
    ⟨(some 5), .move (.c (.int .i64 0)), none⟩])
  (.seq
  (.seq
  (.region [
    ⟨(some 15), .move (.t 0), none⟩,
    ⟨(some 16), .bin .lss (.t 15) (.c (.int .i64 1)), none⟩,
    ⟨(some 17), .move (.t 16), none⟩,
    ⟨(some 18), .move (.t 0), some (some 17, false)⟩,
    ⟨(some 19), .bin .gtr (.t 18) (.c (.int .i64 7)), some (some 17, false)⟩,
    ⟨(some 20), .pick (.t 17) (.c (.bool true)) (.t 19), none⟩])
  (.cond (.t 20)
    (.seq
    (.region [
      ⟨(some 21), .build [(.int .i64 0), (.int .i64 0), (.str (bs []))] [], none⟩,
      ⟨none, .store 3 (.t 4) (.t 21), none⟩,
      ⟨(some 5), .move (.c (.int .i64 1)), none⟩])
    .ret)
    .skip))
  (.seq
  (.seq
  (.region [
    ⟨(some 22), .load true 2 (.t 3), none⟩,
    ⟨(some 23), .call f_aggregate_Validate [(.t 22)], none⟩,
    ⟨(some 6), .move (.t 23), none⟩])
  (.seq
  (.region [
    ⟨(some 24), .move (.t 6), none⟩,
    ⟨(some 25), .bin .neq (.t 24) (.c (.int .i64 0)), none⟩])
  (.cond (.t 25)
    (.seq
    (.region [
      ⟨(some 26), .build [(.int .i64 0), (.int .i64 0), (.str (bs []))] [], none⟩,
      ⟨(some 27), .move (.t 6), none⟩,
      ⟨none, .store 3 (.t 4) (.t 26), none⟩,
      ⟨(some 5), .move (.t 27), none⟩])
    .ret)
    .skip)))
  (.seq
  (.region [
    ⟨(some 28), .fieldAddr 1 (.t 3), none⟩,
    ⟨(some 29), .load false 1 (.t 28), none⟩,
    ⟨(some 7), .move (.t 29), none⟩])
  (.seq
  (.region [
    ⟨(some 31), .move (.t 7), none⟩,
    ⟨(some 32), .call f_aggregate_totals [(.t 31)], none⟩,
    ⟨(some 30), .move (.t 32), none⟩,
    ⟨(some 33), .extract (.t 30) 0, none⟩,
    ⟨(some 34), .extract (.t 30) 1, none⟩,
    ⟨(some 8), .move (.t 33), none⟩,
    ⟨(some 9), .move (.t 34), none⟩])
  (.seq
  (.seq
  (.region [
    ⟨(some 35), .move (.t 0), none⟩])
  (.block 0
    (.seq
    (.region [
      ⟨(some 37), .bin .eql (.t 35) (.c (.int .i64 1)), none⟩,
      ⟨(some 36), .move (.t 37), none⟩])
    (.cond (.t 36)
      (.seq
      (.region [
        ⟨(some 38), .fieldAddr 0 (.t 3), none⟩,
        ⟨(some 39), .load false 1 (.t 38), none⟩,
        ⟨(some 40), .call f_aggregate_integer [(.t 39)], none⟩,
        ⟨none, .store 3 (.t 4) (.t 40), none⟩,
        ⟨(some 5), .move (.c (.int .i64 0)), none⟩])
      .ret)
      (.seq
      (.region [
        ⟨(some 42), .bin .eql (.t 35) (.c (.int .i64 2)), none⟩,
        ⟨(some 41), .move (.t 42), none⟩])
      (.cond (.t 41)
        (.seq
        (.region [
          ⟨(some 43), .move (.t 9), none⟩,
          ⟨(some 44), .call f_aggregate_integer [(.t 43)], none⟩,
          ⟨none, .store 3 (.t 4) (.t 44), none⟩,
          ⟨(some 5), .move (.c (.int .i64 0)), none⟩])
        .ret)
        (.seq
        (.region [
          ⟨(some 46), .bin .eql (.t 35) (.c (.int .i64 6)), none⟩,
          ⟨(some 45), .move (.t 46), none⟩])
        (.cond (.t 45)
          (.seq
          (.region [
            ⟨(some 10), .move (.c (.int .i64 0)), none⟩])
          (.seq
          (.seq
          (.region [
            ⟨(some 47), .move (.t 7), none⟩,
            ⟨(some 48), .len (.t 47), none⟩,
            ⟨(some 49), .move (.c (.int .i64 0)), none⟩])
          (.block 1
            (.loop
              (.seq
              (.region [
                ⟨(some 50), .bin .lss (.t 49) (.t 48), none⟩])
              (.seq
              (.cond (.t 50)
                .skip
                (.exit 1))
              (.seq
              (.block 2
                (.seq
                (.region [
                  ⟨(some 51), .indexAddr 2 (.t 47) (.t 49), none⟩,
                  ⟨(some 52), .load true 2 (.t 51), none⟩,
                  ⟨(some 12), .alloc [.nil, (.int .i64 0)], none⟩,
                  ⟨none, .store 2 (.t 12) (.t 52), none⟩])
                (.seq
                (.region [
                  ⟨(some 53), .load true 2 (.t 12), none⟩,
                  ⟨(some 54), .call f_aggregate_positive [(.t 53)], none⟩])
                (.cond (.t 54)
                  (.region [
                    ⟨(some 55), .move (.t 10), none⟩,
                    ⟨(some 56), .bin .add (.t 55) (.c (.int .i64 1)), none⟩,
                    ⟨(some 10), .move (.t 56), none⟩])
                  .skip))))
              (.region [
                ⟨(some 57), .bin .add (.t 49) (.c (.int .i64 1)), none⟩,
                ⟨(some 49), .move (.t 57), none⟩])))))))
          (.seq
          (.region [
            ⟨(some 58), .move (.t 10), none⟩,
            ⟨(some 59), .call f_aggregate_integer [(.t 58)], none⟩,
            ⟨none, .store 3 (.t 4) (.t 59), none⟩,
            ⟨(some 5), .move (.c (.int .i64 0)), none⟩])
          .ret)))
          (.seq
          (.seq
          (.region [
            ⟨(some 61), .bin .eql (.t 35) (.c (.int .i64 4)), none⟩,
            ⟨(some 60), .move (.t 61), none⟩])
          (.cond (.t 60)
            .skip
            (.region [
              ⟨(some 62), .bin .eql (.t 35) (.c (.int .i64 5)), none⟩,
              ⟨(some 60), .move (.t 62), none⟩])))
          (.cond (.t 60)
            (.seq
            (.region [
              ⟨(some 63), .move (.t 7), none⟩,
              ⟨(some 64), .call f_slices_Clone_LEntry_Entry [(.t 63)], none⟩,
              ⟨(some 7), .move (.t 64), none⟩])
            (.seq
            (.seq
            (.region [
              ⟨(some 65), .move (.t 0), none⟩,
              ⟨(some 66), .bin .eql (.t 65) (.c (.int .i64 5)), none⟩])
            (.cond (.t 66)
              (.region [
                ⟨(some 67), .move (.t 7), none⟩,
                ⟨(some 68), .call f_slices_Reverse_LEntry_Entry [(.t 67)], none⟩])
              .skip))
            (.seq
            (.seq
            (.region [
              ⟨(some 69), .move (.t 7), none⟩,
              ⟨(some 70), .call f_slices_IndexFunc_LEntry_Entry [(.t 69), (.c (.fn f_aggregate_positive []))], none⟩,
              ⟨(some 13), .move (.t 70), none⟩])
            (.seq
            (.region [
              ⟨(some 71), .move (.t 13), none⟩,
              ⟨(some 72), .bin .geq (.t 71) (.c (.int .i64 0)), none⟩])
            (.cond (.t 72)
              (.seq
              (.region [
                ⟨(some 73), .move (.t 7), none⟩,
                ⟨(some 74), .move (.t 13), none⟩,
                ⟨(some 75), .indexAddr 2 (.t 73) (.t 74), none⟩,
                ⟨(some 76), .fieldAddr 0 (.t 75), none⟩,
                ⟨(some 77), .load false 1 (.t 76), none⟩,
                ⟨(some 78), .indexAddr 3 (.t 77) (.c (.int .i64 0)), none⟩,
                ⟨(some 79), .load true 3 (.t 78), none⟩,
                ⟨none, .store 3 (.t 4) (.t 79), none⟩,
                ⟨(some 5), .move (.c (.int .i64 0)), none⟩])
              .ret)
              .skip)))
            (.seq
            (.region [
              ⟨(some 80), .build [(.int .i64 0), (.int .i64 0), (.str (bs []))] [], none⟩,
              ⟨none, .store 3 (.t 4) (.t 80), none⟩,
              ⟨(some 5), .move (.c (.int .i64 0)), none⟩])
            .ret))))
            .skip))))))))))
  (.seq
  (.seq
  (.region [
    ⟨(some 81), .move (.t 7), none⟩,
    ⟨(some 82), .call f_slices_ContainsFunc_LEntry_Entry [(.t 81), (.c (.fn f_aggregate_Result_1 []))], none⟩])
  (.cond (.t 82)
    (.seq
    (.region [
      ⟨(some 83), .build [(.int .i64 0), (.int .i64 0), (.str (bs []))] [], none⟩,
      ⟨none, .store 3 (.t 4) (.t 83), none⟩,
      ⟨(some 5), .move (.c (.int .i64 7)), none⟩])
    .ret)
    .skip))
  (.seq
  (.block 3
    (.seq
    (.region [
      ⟨(some 85), .move (.t 0), none⟩,
      ⟨(some 86), .bin .eql (.t 85) (.c (.int .i64 3)), none⟩,
      ⟨(some 87), .move (.t 86), none⟩,
      ⟨(some 88), .move (.t 7), some (some 87, true)⟩,
      ⟨(some 89), .len (.t 88), some (some 87, true)⟩,
      ⟨(some 90), .bin .gtr (.t 89) (.c (.int .i64 0)), some (some 87, true)⟩,
      ⟨(some 91), .pick (.t 87) (.t 90) (.c (.bool false)), none⟩,
      ⟨(some 84), .move (.t 91), none⟩])
    (.cond (.t 84)
      (.seq
      (.region [
        ⟨(some 92), .move (.t 8), none⟩,
        ⟨(some 93), .call f_aggregate_integer [(.t 92)], none⟩,
        ⟨none, .store 3 (.t 4) (.t 93), none⟩,
        ⟨(some 5), .move (.c (.int .i64 0)), none⟩])
      .ret)
      (.seq
      (.region [
        ⟨(some 95), .move (.t 0), none⟩,
        ⟨(some 96), .bin .eql (.t 95) (.c (.int .i64 7)), none⟩,
        ⟨(some 97), .move (.t 96), none⟩,
        ⟨(some 98), .move (.t 9), some (some 97, true)⟩,
        ⟨(some 99), .bin .gtr (.t 98) (.c (.int .i64 0)), some (some 97, true)⟩,
        ⟨(some 100), .pick (.t 97) (.t 99) (.c (.bool false)), none⟩,
        ⟨(some 94), .move (.t 100), none⟩])
      (.cond (.t 94)
        (.seq
        (.region [
          ⟨(some 101), .move (.t 8), none⟩,
          ⟨(some 102), .move (.t 9), none⟩,
          ⟨(some 103), .bin .quo (.t 101) (.t 102), none⟩,
          ⟨(some 14), .move (.t 103), none⟩])
        (.seq
        (.seq
        (.region [
          ⟨(some 104), .move (.t 8), none⟩,
          ⟨(some 105), .move (.t 9), none⟩,
          ⟨(some 106), .bin .rem (.t 104) (.t 105), none⟩,
          ⟨(some 107), .bin .lss (.t 106) (.c (.int .i64 0)), none⟩])
        (.cond (.t 107)
          (.region [
            ⟨(some 108), .move (.t 14), none⟩,
            ⟨(some 109), .bin .sub (.t 108) (.c (.int .i64 1)), none⟩,
            ⟨(some 14), .move (.t 109), none⟩])
          .skip))
        (.seq
        (.region [
          ⟨(some 110), .move (.t 14), none⟩,
          ⟨(some 111), .call f_aggregate_integer [(.t 110)], none⟩,
          ⟨none, .store 3 (.t 4) (.t 111), none⟩,
          ⟨(some 5), .move (.c (.int .i64 0)), none⟩])
        .ret)))
        .skip)))))
  (.seq
  (.region [
    ⟨(some 112), .build [(.int .i64 0), (.int .i64 0), (.str (bs []))] [], none⟩,
    ⟨none, .store 3 (.t 4) (.t 112), none⟩,
    ⟨(some 5), .move (.c (.int .i64 0)), none⟩])
  .ret)))))))))⟩

structure F_aggregate_Result (P : Program) where
  id : FuncId
  aggregate_Validate : F_aggregate_Validate P
  aggregate_totals : F_aggregate_totals P
  aggregate_integer : F_aggregate_integer P
  aggregate_positive : F_aggregate_positive P
  slices_Clone_LEntry_Entry : F_slices_Clone_LEntry_Entry P
  slices_Reverse_LEntry_Entry : F_slices_Reverse_LEntry_Entry P
  slices_IndexFunc_LEntry_Entry : F_slices_IndexFunc_LEntry_Entry P
  slices_ContainsFunc_LEntry_Entry : F_slices_ContainsFunc_LEntry_Entry P
  aggregate_Result_1 : F_aggregate_Result_1 P
  has : Has P id [] (c_aggregate_Result aggregate_Validate.id aggregate_totals.id aggregate_integer.id aggregate_positive.id slices_Clone_LEntry_Entry.id slices_Reverse_LEntry_Entry.id slices_IndexFunc_LEntry_Entry.id slices_ContainsFunc_LEntry_Entry.id aggregate_Result_1.id)

def c_warehouselaw17_known (f_warehouselaw17_number : FuncId) (f_aggregate_Add : FuncId) (f_aggregate_Result : FuncId) : AFunc := ⟨71, [.tmp 0],
  (.seq
  (.region [
    ⟨(some 0), .move (.c (.bool false)), none⟩])
  (.seq
  (.region [
    ⟨(some 12), .build [(.int .i64 0), .nil] [], none⟩,
    ⟨(some 13), .call f_warehouselaw17_number [(.c (.int .i64 5))], none⟩,
    ⟨(some 14), .call f_aggregate_Add [(.t 12), (.t 13), (.c (.int .i64 2))], none⟩,
    ⟨(some 11), .move (.t 14), none⟩,
    ⟨(some 15), .extract (.t 11) 0, none⟩,
    ⟨(some 16), .extract (.t 11) 1, none⟩,
    ⟨(some 1), .alloc [(.int .i64 0), .nil], none⟩,
    ⟨none, .store 2 (.t 1) (.t 15), none⟩,
    ⟨(some 2), .move (.t 16), none⟩])
  (.seq
  (.draw [
    (⟨(some 18), .load true 2 (.t 1), none⟩, [2]),
    (⟨(some 19), .call f_warehouselaw17_number [(.c (.int .i64 5))], none⟩, [2]),
    (⟨(some 20), .call f_aggregate_Add [(.t 18), (.t 19), (.c (.int .i64 (-1)))], none⟩, [2]),
    (⟨(some 17), .move (.t 20), none⟩, []),
    (⟨(some 21), .extract (.t 17) 0, none⟩, []),
    (⟨(some 22), .extract (.t 17) 1, none⟩, []),
    (⟨(some 3), .alloc [(.int .i64 0), .nil], none⟩, []),
    (⟨none, .store 2 (.t 3) (.t 21), none⟩, []),
    (⟨(some 4), .move (.t 22), none⟩, [])])
  (.seq
  (.region [
    ⟨(some 24), .load true 2 (.t 3), none⟩,
    ⟨(some 25), .call f_aggregate_Result [(.c (.int .i64 3)), (.t 24)], none⟩,
    ⟨(some 23), .move (.t 25), none⟩,
    ⟨(some 26), .extract (.t 23) 0, none⟩,
    ⟨(some 27), .extract (.t 23) 1, none⟩,
    ⟨(some 5), .alloc [(.int .i64 0), (.int .i64 0), (.str (bs []))], none⟩,
    ⟨none, .store 3 (.t 5) (.t 26), none⟩,
    ⟨(some 6), .move (.t 27), none⟩])
  (.seq
  (.region [
    ⟨(some 29), .load true 2 (.t 3), none⟩,
    ⟨(some 30), .call f_aggregate_Result [(.c (.int .i64 1)), (.t 29)], none⟩,
    ⟨(some 28), .move (.t 30), none⟩,
    ⟨(some 31), .extract (.t 28) 0, none⟩,
    ⟨(some 32), .extract (.t 28) 1, none⟩,
    ⟨(some 7), .alloc [(.int .i64 0), (.int .i64 0), (.str (bs []))], none⟩,
    ⟨none, .store 3 (.t 7) (.t 31), none⟩,
    ⟨(some 8), .move (.t 32), none⟩])
  (.seq
  (.region [
    ⟨(some 34), .build [(.int .i64 0), .nil] [], none⟩,
    ⟨(some 35), .call f_aggregate_Result [(.c (.int .i64 3)), (.t 34)], none⟩,
    ⟨(some 33), .move (.t 35), none⟩,
    ⟨(some 36), .extract (.t 33) 0, none⟩,
    ⟨(some 37), .extract (.t 33) 1, none⟩,
    ⟨(some 9), .alloc [(.int .i64 0), (.int .i64 0), (.str (bs []))], none⟩,
    ⟨none, .store 3 (.t 9) (.t 36), none⟩,
    ⟨(some 10), .move (.t 37), none⟩])
  (.seq
  (.draw [
    (⟨(some 38), .move (.t 2), none⟩, []),
    (⟨(some 39), .bin .eql (.t 38) (.c (.int .i64 0)), none⟩, []),
    (⟨(some 40), .move (.t 39), none⟩, []),
    (⟨(some 41), .move (.t 4), some (some 40, true)⟩, []),
    (⟨(some 42), .bin .eql (.t 41) (.c (.int .i64 0)), some (some 40, true)⟩, []),
    (⟨(some 43), .pick (.t 40) (.t 42) (.c (.bool false)), none⟩, []),
    (⟨(some 44), .move (.t 43), none⟩, []),
    (⟨(some 45), .move (.t 6), some (some 44, true)⟩, []),
    (⟨(some 46), .bin .eql (.t 45) (.c (.int .i64 0)), some (some 44, true)⟩, []),
    (⟨(some 47), .pick (.t 44) (.t 46) (.c (.bool false)), none⟩, []),
    (⟨(some 48), .move (.t 47), none⟩, []),
    (⟨(some 49), .load true 3 (.t 5), some (some 48, true)⟩, []),
    (⟨(some 50), .call f_warehouselaw17_number [(.c (.int .i64 5))], some (some 48, true)⟩, []),
    (⟨(some 51), .eqs false [1, 1, 2] (.t 49) (.t 50), some (some 48, true)⟩, []),
    (⟨(some 52), .pick (.t 48) (.t 51) (.c (.bool false)), none⟩, []),
    (⟨(some 53), .move (.t 52), none⟩, []),
    (⟨(some 54), .move (.t 8), some (some 53, true)⟩, []),
    (⟨(some 55), .bin .eql (.t 54) (.c (.int .i64 0)), some (some 53, true)⟩, []),
    (⟨(some 56), .pick (.t 53) (.t 55) (.c (.bool false)), none⟩, []),
    (⟨(some 57), .move (.t 56), none⟩, []),
    (⟨(some 58), .load true 3 (.t 7), some (some 57, true)⟩, []),
    (⟨(some 59), .call f_warehouselaw17_number [(.c (.int .i64 1))], some (some 57, true)⟩, []),
    (⟨(some 60), .eqs false [1, 1, 2] (.t 58) (.t 59), some (some 57, true)⟩, []),
    (⟨(some 61), .pick (.t 57) (.t 60) (.c (.bool false)), none⟩, []),
    (⟨(some 62), .move (.t 61), none⟩, []),
    (⟨(some 63), .move (.t 10), some (some 62, true)⟩, []),
    (⟨(some 64), .bin .eql (.t 63) (.c (.int .i64 0)), some (some 62, true)⟩, []),
    (⟨(some 65), .pick (.t 62) (.t 64) (.c (.bool false)), none⟩, []),
    (⟨(some 66), .move (.t 65), none⟩, []),
    (⟨(some 67), .load true 3 (.t 9), some (some 66, true)⟩, []),
    (⟨(some 68), .build [(.int .i64 0), (.int .i64 0), (.str (bs []))] [], some (some 66, true)⟩, []),
    (⟨(some 69), .eqs false [1, 1, 2] (.t 67) (.t 68), some (some 66, true)⟩, []),
    (⟨(some 70), .pick (.t 66) (.t 69) (.c (.bool false)), none⟩, []),
    (⟨(some 0), .move (.t 70), none⟩, [])])
  .ret)))))))⟩

structure F_warehouselaw17_known (P : Program) where
  id : FuncId
  warehouselaw17_number : F_warehouselaw17_number P
  aggregate_Add : F_aggregate_Add P
  aggregate_Result : F_aggregate_Result P
  has : Has P id [] (c_warehouselaw17_known warehouselaw17_number.id aggregate_Add.id aggregate_Result.id)

def c_warehouseref6_small : AFunc := ⟨9, [.tmp 2],
  (.seq
  (.region [
    ⟨(some 2), .move (.c (.bool false)), none⟩])
  (.seq
  (.region [
    ⟨(some 3), .move (.t 0), none⟩,
    ⟨(some 4), .bin .geq (.t 3) (.c (.int .i64 (-65536))), none⟩,
    ⟨(some 5), .move (.t 4), none⟩,
    ⟨(some 6), .move (.t 0), some (some 5, true)⟩,
    ⟨(some 7), .bin .leq (.t 6) (.c (.int .i64 65536)), some (some 5, true)⟩,
    ⟨(some 8), .pick (.t 5) (.t 7) (.c (.bool false)), none⟩,
    ⟨(some 2), .move (.t 8), none⟩])
  .ret))⟩

structure F_warehouseref6_small (P : Program) where
  id : FuncId
  has : Has P id [] c_warehouseref6_small

def c_warehouseref6_fits (f_warehouseref6_small : FuncId) (f_warehouseref1_Valid : FuncId) : AFunc := ⟨28, [.tmp 2],
  (.seq
  (.region [
    ⟨(some 1), .box (.t 0), none⟩,
    ⟨(some 2), .move (.c (.int .i64 0)), none⟩])
  (.seq
  (.seq
  (.region [
    ⟨(some 4), .fieldAddr 0 (.t 1), none⟩,
    ⟨(some 5), .load false 1 (.t 4), none⟩,
    ⟨(some 6), .len (.t 5), none⟩,
    ⟨(some 7), .bin .gtr (.t 6) (.c (.int .i64 12)), none⟩,
    ⟨(some 8), .move (.t 7), none⟩,
    ⟨(some 9), .fieldAddr 1 (.t 1), some (some 8, false)⟩,
    ⟨(some 10), .load false 1 (.t 9), some (some 8, false)⟩,
    ⟨(some 11), .call f_warehouseref6_small [(.t 10)], some (some 8, false)⟩,
    ⟨(some 12), .un .not (.t 11), some (some 8, false)⟩,
    ⟨(some 13), .pick (.t 8) (.c (.bool true)) (.t 12), none⟩])
  (.cond (.t 13)
    (.seq
    (.region [
      ⟨(some 2), .move (.c (.int .i64 2)), none⟩])
    .ret)
    .skip))
  (.seq
  (.seq
  (.region [
    ⟨(some 3), .move (.c (.int .i64 0)), none⟩])
  (.block 0
    (.loop
      (.seq
      (.seq
      (.region [
        ⟨(some 14), .move (.t 3), none⟩,
        ⟨(some 15), .fieldAddr 0 (.t 1), none⟩,
        ⟨(some 16), .load false 1 (.t 15), none⟩,
        ⟨(some 17), .len (.t 16), none⟩,
        ⟨(some 18), .bin .lss (.t 14) (.t 17), none⟩])
      (.cond (.t 18)
        .skip
        (.exit 0)))
      (.seq
      (.block 1
        (.seq
        (.region [
          ⟨(some 21), .fieldAddr 0 (.t 1), none⟩,
          ⟨(some 22), .load false 1 (.t 21), none⟩,
          ⟨(some 23), .move (.t 3), none⟩,
          ⟨(some 24), .indexAddr 3 (.t 22) (.t 23), none⟩,
          ⟨(some 25), .load true 3 (.t 24), none⟩,
          ⟨(some 26), .call f_warehouseref1_Valid [(.t 25)], none⟩,
          ⟨(some 27), .un .not (.t 26), none⟩])
        (.cond (.t 27)
          (.seq
          (.region [
            ⟨(some 2), .move (.c (.int .i64 8)), none⟩])
          .ret)
          .skip)))
      (.region [
        ⟨(some 19), .move (.t 3), none⟩,
        ⟨(some 20), .bin .add (.t 19) (.c (.int .i64 1)), none⟩,
        ⟨(some 3), .move (.t 20), none⟩]))))))
  (.seq
  (.region [
    ⟨(some 2), .move (.c (.int .i64 0)), none⟩])
  .ret))))⟩

structure F_warehouseref6_fits (P : Program) where
  id : FuncId
  warehouseref6_small : F_warehouseref6_small P
  warehouseref1_Valid : F_warehouseref1_Valid P
  has : Has P id [] (c_warehouseref6_fits warehouseref6_small.id warehouseref1_Valid.id)

def c_warehouseref6_Validate (f_warehouseref6_fits : FuncId) (f_warehouseref1_CompareRows : FuncId) : AFunc := ⟨45, [.tmp 2],
  (.seq
  (.region [
    ⟨(some 2), .move (.c (.int .i64 0)), none⟩])
  (.seq
  (.seq
  (.region [
    ⟨(some 5), .move (.t 0), none⟩,
    ⟨(some 6), .len (.t 5), none⟩,
    ⟨(some 7), .bin .gtr (.t 6) (.c (.int .i64 4096)), none⟩])
  (.cond (.t 7)
    (.seq
    (.region [
      ⟨(some 2), .move (.c (.int .i64 2)), none⟩])
    .ret)
    .skip))
  (.seq
  (.seq
  (.region [
    ⟨(some 3), .move (.c (.int .i64 0)), none⟩])
  (.block 0
    (.loop
      (.seq
      (.seq
      (.region [
        ⟨(some 8), .move (.t 3), none⟩,
        ⟨(some 9), .move (.t 0), none⟩,
        ⟨(some 10), .len (.t 9), none⟩,
        ⟨(some 11), .bin .lss (.t 8) (.t 10), none⟩])
      (.cond (.t 11)
        .skip
        (.exit 0)))
      (.seq
      (.block 1
        (.seq
        (.seq
        (.region [
          ⟨(some 14), .move (.t 0), none⟩,
          ⟨(some 15), .move (.t 3), none⟩,
          ⟨(some 16), .indexAddr 2 (.t 14) (.t 15), none⟩,
          ⟨(some 17), .load true 2 (.t 16), none⟩,
          ⟨(some 18), .call f_warehouseref6_fits [(.t 17)], none⟩,
          ⟨(some 4), .move (.t 18), none⟩])
        (.seq
        (.region [
          ⟨(some 19), .move (.t 4), none⟩,
          ⟨(some 20), .bin .neq (.t 19) (.c (.int .i64 0)), none⟩])
        (.cond (.t 20)
          (.seq
          (.region [
            ⟨(some 21), .move (.t 4), none⟩,
            ⟨(some 2), .move (.t 21), none⟩])
          .ret)
          .skip)))
        (.seq
        (.seq
        (.region [
          ⟨(some 22), .move (.t 0), none⟩,
          ⟨(some 23), .move (.t 3), none⟩,
          ⟨(some 24), .indexAddr 2 (.t 22) (.t 23), none⟩,
          ⟨(some 25), .fieldAddr 1 (.t 24), none⟩,
          ⟨(some 26), .load false 1 (.t 25), none⟩,
          ⟨(some 27), .bin .eql (.t 26) (.c (.int .i64 0)), none⟩])
        (.cond (.t 27)
          (.seq
          (.region [
            ⟨(some 2), .move (.c (.int .i64 8)), none⟩])
          .ret)
          .skip))
        (.seq
        (.draw [
          (⟨(some 28), .move (.t 3), none⟩, []),
          (⟨(some 29), .bin .gtr (.t 28) (.c (.int .i64 0)), none⟩, []),
          (⟨(some 30), .move (.t 29), none⟩, []),
          (⟨(some 31), .move (.t 0), some (some 30, true)⟩, []),
          (⟨(some 32), .move (.t 3), some (some 30, true)⟩, []),
          (⟨(some 33), .bin .sub (.t 32) (.c (.int .i64 1)), some (some 30, true)⟩, []),
          (⟨(some 34), .indexAddr 2 (.t 31) (.t 33), some (some 30, true)⟩, []),
          (⟨(some 35), .fieldAddr 0 (.t 34), some (some 30, true)⟩, []),
          (⟨(some 36), .load false 1 (.t 35), some (some 30, true)⟩, []),
          (⟨(some 37), .move (.t 0), some (some 30, true)⟩, []),
          (⟨(some 38), .move (.t 3), some (some 30, true)⟩, []),
          (⟨(some 39), .indexAddr 2 (.t 37) (.t 38), some (some 30, true)⟩, []),
          (⟨(some 40), .fieldAddr 0 (.t 39), some (some 30, true)⟩, []),
          (⟨(some 41), .load false 1 (.t 40), some (some 30, true)⟩, []),
          (⟨(some 42), .call f_warehouseref1_CompareRows [(.t 36), (.t 41)], some (some 30, true)⟩, []),
          (⟨(some 43), .bin .geq (.t 42) (.c (.int .i64 0)), some (some 30, true)⟩, []),
          (⟨(some 44), .pick (.t 30) (.t 43) (.c (.bool false)), none⟩, [])])
        (.cond (.t 44)
          (.seq
          (.region [
            ⟨(some 2), .move (.c (.int .i64 14)), none⟩])
          .ret)
          .skip)))))
      (.region [
        ⟨(some 12), .move (.t 3), none⟩,
        ⟨(some 13), .bin .add (.t 12) (.c (.int .i64 1)), none⟩,
        ⟨(some 3), .move (.t 13), none⟩]))))))
  (.seq
  (.region [
    ⟨(some 2), .move (.c (.int .i64 0)), none⟩])
  .ret))))⟩

structure F_warehouseref6_Validate (P : Program) where
  id : FuncId
  warehouseref6_fits : F_warehouseref6_fits P
  warehouseref1_CompareRows : F_warehouseref1_CompareRows P
  has : Has P id [] (c_warehouseref6_Validate warehouseref6_fits.id warehouseref1_CompareRows.id)

def c_warehouseref17_Validate (f_warehouseref6_Validate : FuncId) : AFunc := ⟨46, [.tmp 2],
  (.seq
  (.region [
    ⟨(some 1), .box (.t 0), none⟩,
    ⟨(some 2), .move (.c (.int .i64 0)), none⟩])
  (.seq
  (.seq
  (.region [
    ⟨(some 5), .fieldAddr 0 (.t 1), none⟩,
    ⟨(some 6), .load false 1 (.t 5), none⟩,
    ⟨(some 7), .bin .lss (.t 6) (.c (.int .i64 (-268435456))), none⟩,
    ⟨(some 8), .move (.t 7), none⟩,
    ⟨(some 9), .fieldAddr 0 (.t 1), some (some 8, false)⟩,
    ⟨(some 10), .load false 1 (.t 9), some (some 8, false)⟩,
    ⟨(some 11), .bin .gtr (.t 10) (.c (.int .i64 268435456)), some (some 8, false)⟩,
    ⟨(some 12), .pick (.t 8) (.c (.bool true)) (.t 11), none⟩])
  (.cond (.t 12)
    (.seq
    (.region [
      ⟨(some 2), .move (.c (.int .i64 1)), none⟩])
    .ret)
    .skip))
  (.seq
  (.seq
  (.region [
    ⟨(some 13), .fieldAddr 1 (.t 1), none⟩,
    ⟨(some 14), .load false 1 (.t 13), none⟩,
    ⟨(some 15), .call f_warehouseref6_Validate [(.t 14)], none⟩,
    ⟨(some 3), .move (.t 15), none⟩])
  (.seq
  (.region [
    ⟨(some 16), .move (.t 3), none⟩,
    ⟨(some 17), .bin .neq (.t 16) (.c (.int .i64 0)), none⟩])
  (.cond (.t 17)
    (.seq
    (.region [
      ⟨(some 18), .move (.t 3), none⟩,
      ⟨(some 2), .move (.t 18), none⟩])
    .ret)
    .skip)))
  (.seq
  (.seq
  (.region [
    ⟨(some 4), .move (.c (.int .i64 0)), none⟩])
  (.block 0
    (.loop
      (.seq
      (.seq
      (.region [
        ⟨(some 19), .move (.t 4), none⟩,
        ⟨(some 20), .fieldAddr 1 (.t 1), none⟩,
        ⟨(some 21), .load false 1 (.t 20), none⟩,
        ⟨(some 22), .len (.t 21), none⟩,
        ⟨(some 23), .bin .lss (.t 19) (.t 22), none⟩])
      (.cond (.t 23)
        .skip
        (.exit 0)))
      (.seq
      (.block 1
        (.seq
        (.region [
          ⟨(some 26), .fieldAddr 1 (.t 1), none⟩,
          ⟨(some 27), .load false 1 (.t 26), none⟩,
          ⟨(some 28), .move (.t 4), none⟩,
          ⟨(some 29), .indexAddr 2 (.t 27) (.t 28), none⟩,
          ⟨(some 30), .fieldAddr 0 (.t 29), none⟩,
          ⟨(some 31), .load false 1 (.t 30), none⟩,
          ⟨(some 32), .len (.t 31), none⟩,
          ⟨(some 33), .bin .neq (.t 32) (.c (.int .i64 1)), none⟩,
          ⟨(some 34), .move (.t 33), none⟩,
          ⟨(some 35), .fieldAddr 1 (.t 1), some (some 34, false)⟩,
          ⟨(some 36), .load false 1 (.t 35), some (some 34, false)⟩,
          ⟨(some 37), .move (.t 4), some (some 34, false)⟩,
          ⟨(some 38), .indexAddr 2 (.t 36) (.t 37), some (some 34, false)⟩,
          ⟨(some 39), .fieldAddr 0 (.t 38), some (some 34, false)⟩,
          ⟨(some 40), .load false 1 (.t 39), some (some 34, false)⟩,
          ⟨(some 41), .indexAddr 3 (.t 40) (.c (.int .i64 0)), some (some 34, false)⟩,
          ⟨(some 42), .fieldAddr 0 (.t 41), some (some 34, false)⟩,
          ⟨(some 43), .load false 1 (.t 42), some (some 34, false)⟩,
          ⟨(some 44), .bin .eql (.t 43) (.c (.int .i64 0)), some (some 34, false)⟩,
          ⟨(some 45), .pick (.t 34) (.c (.bool true)) (.t 44), none⟩])
        (.cond (.t 45)
          (.seq
          (.region [
            ⟨(some 2), .move (.c (.int .i64 8)), none⟩])
          .ret)
          .skip)))
      (.region [
        ⟨(some 24), .move (.t 4), none⟩,
        ⟨(some 25), .bin .add (.t 24) (.c (.int .i64 1)), none⟩,
        ⟨(some 4), .move (.t 25), none⟩]))))))
  (.seq
  (.region [
    ⟨(some 2), .move (.c (.int .i64 0)), none⟩])
  .ret)))))⟩

structure F_warehouseref17_Validate (P : Program) where
  id : FuncId
  warehouseref6_Validate : F_warehouseref6_Validate P
  has : Has P id [] (c_warehouseref17_Validate warehouseref6_Validate.id)

def c_warehouseref6_two (f_warehouseref6_Validate : FuncId) : AFunc := ⟨13, [.tmp 4],
  (.seq
  (.region [
    ⟨(some 4), .move (.c (.int .i64 0)), none⟩])
  (.seq
  (.seq
  (.region [
    ⟨(some 6), .move (.t 0), none⟩,
    ⟨(some 7), .call f_warehouseref6_Validate [(.t 6)], none⟩,
    ⟨(some 5), .move (.t 7), none⟩])
  (.seq
  (.region [
    ⟨(some 8), .move (.t 5), none⟩,
    ⟨(some 9), .bin .neq (.t 8) (.c (.int .i64 0)), none⟩])
  (.cond (.t 9)
    (.seq
    (.region [
      ⟨(some 10), .move (.t 5), none⟩,
      ⟨(some 4), .move (.t 10), none⟩])
    .ret)
    .skip)))
  (.seq
  (.region [
    ⟨(some 11), .move (.t 1), none⟩,
    ⟨(some 12), .call f_warehouseref6_Validate [(.t 11)], none⟩,
    ⟨(some 4), .move (.t 12), none⟩])
  .ret)))⟩

structure F_warehouseref6_two (P : Program) where
  id : FuncId
  warehouseref6_Validate : F_warehouseref6_Validate P
  has : Has P id [] (c_warehouseref6_two warehouseref6_Validate.id)

def c_warehouseref6_merge (f_warehouseref1_CompareRows : FuncId) : AFunc := ⟨74, [.tmp 4],
  (.seq
  (.region [
    ⟨(some 4), .move (.c .nil), none⟩])
  (.seq
  (.region [
    ⟨(some 5), .move (.c .nil), none⟩])
  (.seq
  (.block 0
    (.loop
      (.seq
      (.seq
      (.region [
        ⟨(some 7), .move (.t 0), none⟩,
        ⟨(some 8), .len (.t 7), none⟩,
        ⟨(some 9), .bin .gtr (.t 8) (.c (.int .i64 0)), none⟩,
        ⟨(some 10), .move (.t 9), none⟩,
        ⟨(some 11), .move (.t 1), some (some 10, false)⟩,
        ⟨(some 12), .len (.t 11), some (some 10, false)⟩,
        ⟨(some 13), .bin .gtr (.t 12) (.c (.int .i64 0)), some (some 10, false)⟩,
        ⟨(some 14), .pick (.t 10) (.c (.bool true)) (.t 13), none⟩])
      (.cond (.t 14)
        .skip
        (.exit 0)))
      (.block 1
        (.seq
        (.region [
          ⟨(some 6), .move (.c (.int .i64 (-1))), none⟩])
        (.seq
        (.seq
        (.region [
          ⟨(some 15), .move (.t 0), none⟩,
          ⟨(some 16), .len (.t 15), none⟩,
          ⟨(some 17), .bin .eql (.t 16) (.c (.int .i64 0)), none⟩])
        (.cond (.t 17)
          (.region [
            ⟨(some 6), .move (.c (.int .i64 1)), none⟩])
          (.seq
          (.region [
            ⟨(some 18), .move (.t 1), none⟩,
            ⟨(some 19), .len (.t 18), none⟩,
            ⟨(some 20), .bin .gtr (.t 19) (.c (.int .i64 0)), none⟩])
          (.cond (.t 20)
            (.draw [
              (⟨(some 21), .move (.t 0), none⟩, []),
              (⟨(some 22), .indexAddr 2 (.t 21) (.c (.int .i64 0)), none⟩, []),
              (⟨(some 23), .fieldAddr 0 (.t 22), none⟩, []),
              (⟨(some 24), .load false 1 (.t 23), none⟩, []),
              (⟨(some 25), .move (.t 1), none⟩, []),
              (⟨(some 26), .indexAddr 2 (.t 25) (.c (.int .i64 0)), none⟩, []),
              (⟨(some 27), .fieldAddr 0 (.t 26), none⟩, []),
              (⟨(some 28), .load false 1 (.t 27), none⟩, []),
              (⟨(some 29), .call f_warehouseref1_CompareRows [(.t 24), (.t 28)], none⟩, []),
              (⟨(some 6), .move (.t 29), none⟩, [])])
            .skip))))
        (.block 2
          (.seq
          (.region [
            ⟨(some 52), .move (.t 6), none⟩,
            ⟨(some 53), .bin .lss (.t 52) (.c (.int .i64 0)), none⟩,
            ⟨(some 51), .move (.t 53), none⟩])
          (.cond (.t 51)
            (.draw [
              (⟨(some 54), .move (.t 5), none⟩, []),
              (⟨(some 55), .move (.t 0), none⟩, []),
              (⟨(some 56), .indexAddr 2 (.t 55) (.c (.int .i64 0)), none⟩, []),
              (⟨(some 57), .load true 2 (.t 56), none⟩, []),
              (⟨(some 58), .buildSlice 2 1 [.nil, (.int .i64 0)] [(0, (.t 57))], none⟩, []),
              (⟨(some 59), .append 2 32 [.nil, (.int .i64 0)] (.t 54) (.t 58), none⟩, []),
              (⟨(some 60), .move (.t 0), none⟩, []),
              (⟨(some 61), .slice 2 (.t 60) (some (.c (.int .i64 1))) none, none⟩, [10]),
              (⟨(some 5), .move (.t 59), none⟩, []),
              (⟨(some 0), .move (.t 61), none⟩, [])])
            (.seq
            (.region [
              ⟨(some 63), .move (.t 6), none⟩,
              ⟨(some 64), .bin .gtr (.t 63) (.c (.int .i64 0)), none⟩,
              ⟨(some 62), .move (.t 64), none⟩])
            (.cond (.t 62)
              (.draw [
                (⟨(some 65), .move (.t 5), none⟩, []),
                (⟨(some 66), .move (.t 1), none⟩, []),
                (⟨(some 67), .indexAddr 2 (.t 66) (.c (.int .i64 0)), none⟩, []),
                (⟨(some 68), .load true 2 (.t 67), none⟩, []),
                (⟨(some 69), .buildSlice 2 1 [.nil, (.int .i64 0)] [(0, (.t 68))], none⟩, []),
                (⟨(some 70), .append 2 32 [.nil, (.int .i64 0)] (.t 65) (.t 69), none⟩, []),
                (⟨(some 71), .move (.t 1), none⟩, []),
                (⟨(some 72), .slice 2 (.t 71) (some (.c (.int .i64 1))) none, none⟩, [10]),
                (⟨(some 5), .move (.t 70), none⟩, []),
                (⟨(some 1), .move (.t 72), none⟩, [])])
              (.seq
              (.draw [
                (⟨(some 30), .move (.t 5), none⟩, []),
                (⟨(some 31), .move (.t 0), none⟩, []),
                (⟨(some 32), .indexAddr 2 (.t 31) (.c (.int .i64 0)), none⟩, []),
                (⟨(some 33), .fieldAddr 0 (.t 32), none⟩, []),
                (⟨(some 34), .load false 1 (.t 33), none⟩, []),
                (⟨(some 35), .move (.t 0), none⟩, []),
                (⟨(some 36), .indexAddr 2 (.t 35) (.c (.int .i64 0)), none⟩, []),
                (⟨(some 37), .fieldAddr 1 (.t 36), none⟩, []),
                (⟨(some 38), .load false 1 (.t 37), none⟩, []),
                (⟨(some 39), .move (.t 1), none⟩, []),
                (⟨(some 40), .indexAddr 2 (.t 39) (.c (.int .i64 0)), none⟩, []),
                (⟨(some 41), .fieldAddr 1 (.t 40), none⟩, []),
                (⟨(some 42), .load false 1 (.t 41), none⟩, []),
                (⟨(some 43), .bin .add (.t 38) (.t 42), none⟩, []),
                (⟨(some 44), .build [.nil, (.int .i64 0)] [(0, 1, (.t 34)), (1, 1, (.t 43))], none⟩, []),
                (⟨(some 45), .buildSlice 2 1 [.nil, (.int .i64 0)] [(0, (.t 44))], none⟩, []),
                (⟨(some 46), .append 2 32 [.nil, (.int .i64 0)] (.t 30) (.t 45), none⟩, []),
                (⟨(some 5), .move (.t 46), none⟩, [])])
              (.draw [
                (⟨(some 47), .move (.t 0), none⟩, []),
                (⟨(some 48), .slice 2 (.t 47) (some (.c (.int .i64 1))) none, none⟩, []),
                (⟨(some 49), .move (.t 1), none⟩, []),
                (⟨(some 50), .slice 2 (.t 49) (some (.c (.int .i64 1))) none, none⟩, []),
                (⟨(some 0), .move (.t 48), none⟩, []),
                (⟨(some 1), .move (.t 50), none⟩, [])])))))))))))))
  (.seq
  (.region [
    ⟨(some 73), .move (.t 5), none⟩,
    ⟨(some 4), .move (.t 73), none⟩])
  .ret))))⟩

structure F_warehouseref6_merge (P : Program) where
  id : FuncId
  warehouseref1_CompareRows : F_warehouseref1_CompareRows P
  has : Has P id [] (c_warehouseref6_merge warehouseref1_CompareRows.id)

def c_warehouseref6_result (f_warehouseref6_small : FuncId) : AFunc := ⟨46, [.tmp 2, .tmp 3],
  (.seq
  (.region [
    ⟨(some 2), .move (.c .nil), none⟩,
    ⟨(some 3), .move (.c (.int .i64 0)), none⟩])
  (.seq
  (.region [
    ⟨(some 4), .move (.c .nil), none⟩])
  (.seq
  (.seq
  (.region [
    ⟨(some 5), .move (.c (.int .i64 0)), none⟩])
  (.block 0
    (.loop
      (.seq
      (.seq
      (.region [
        ⟨(some 6), .move (.t 5), none⟩,
        ⟨(some 7), .move (.t 0), none⟩,
        ⟨(some 8), .len (.t 7), none⟩,
        ⟨(some 9), .bin .lss (.t 6) (.t 8), none⟩])
      (.cond (.t 9)
        .skip
        (.exit 0)))
      (.seq
      (.block 1
        (.seq
        (.seq
        (.region [
          ⟨(some 12), .move (.t 0), none⟩,
          ⟨(some 13), .move (.t 5), none⟩,
          ⟨(some 14), .indexAddr 2 (.t 12) (.t 13), none⟩,
          ⟨(some 15), .fieldAddr 1 (.t 14), none⟩,
          ⟨(some 16), .load false 1 (.t 15), none⟩,
          ⟨(some 17), .bin .eql (.t 16) (.c (.int .i64 0)), none⟩])
        (.cond (.t 17)
          (.exit 1)
          .skip))
        (.seq
        (.seq
        (.region [
          ⟨(some 18), .move (.t 0), none⟩,
          ⟨(some 19), .move (.t 5), none⟩,
          ⟨(some 20), .indexAddr 2 (.t 18) (.t 19), none⟩,
          ⟨(some 21), .fieldAddr 1 (.t 20), none⟩,
          ⟨(some 22), .load false 1 (.t 21), none⟩,
          ⟨(some 23), .call f_warehouseref6_small [(.t 22)], none⟩,
          ⟨(some 24), .un .not (.t 23), none⟩,
          ⟨(some 25), .move (.t 24), none⟩,
          ⟨(some 26), .move (.t 4), some (some 25, false)⟩,
          ⟨(some 27), .len (.t 26), some (some 25, false)⟩,
          ⟨(some 28), .bin .eql (.t 27) (.c (.int .i64 4096)), some (some 25, false)⟩,
          ⟨(some 29), .pick (.t 25) (.c (.bool true)) (.t 28), none⟩])
        (.cond (.t 29)
          (.seq
          (.region [
            ⟨(some 2), .move (.c .nil), none⟩,
            ⟨(some 3), .move (.c (.int .i64 2)), none⟩])
          .ret)
          .skip))
        (.draw [
          (⟨(some 30), .move (.t 4), none⟩, []),
          (⟨(some 31), .move (.t 0), none⟩, []),
          (⟨(some 32), .move (.t 5), none⟩, []),
          (⟨(some 33), .indexAddr 2 (.t 31) (.t 32), none⟩, []),
          (⟨(some 34), .fieldAddr 0 (.t 33), none⟩, []),
          (⟨(some 35), .load false 1 (.t 34), none⟩, []),
          (⟨(some 36), .append 3 32 [(.int .i64 0), (.int .i64 0), (.str (bs []))] (.c .nil) (.t 35), none⟩, []),
          (⟨(some 37), .move (.t 0), none⟩, []),
          (⟨(some 38), .move (.t 5), none⟩, []),
          (⟨(some 39), .indexAddr 2 (.t 37) (.t 38), none⟩, [16]),
          (⟨(some 40), .fieldAddr 1 (.t 39), none⟩, []),
          (⟨(some 41), .load false 1 (.t 40), none⟩, [16]),
          (⟨(some 42), .build [.nil, (.int .i64 0)] [(0, 1, (.t 36)), (1, 1, (.t 41))], none⟩, []),
          (⟨(some 43), .buildSliceO 2 1 [.nil, (.int .i64 0)] [(0, (.t 42))], none⟩, []),
          (⟨(some 44), .append 2 32 [.nil, (.int .i64 0)] (.t 30) (.t 43), none⟩, []),
          (⟨(some 4), .move (.t 44), none⟩, [])]))))
      (.region [
        ⟨(some 10), .move (.t 5), none⟩,
        ⟨(some 11), .bin .add (.t 10) (.c (.int .i64 1)), none⟩,
        ⟨(some 5), .move (.t 11), none⟩]))))))
  (.seq
  (.region [
    ⟨(some 45), .move (.t 4), none⟩,
    ⟨(some 2), .move (.t 45), none⟩,
    ⟨(some 3), .move (.c (.int .i64 0)), none⟩])
  .ret))))⟩

structure F_warehouseref6_result (P : Program) where
  id : FuncId
  warehouseref6_small : F_warehouseref6_small P
  has : Has P id [43] (c_warehouseref6_result warehouseref6_small.id)

def c_warehouseref6_Add (f_warehouseref6_two : FuncId) (f_warehouseref6_merge : FuncId) (f_warehouseref6_result : FuncId) : AFunc := ⟨19, [.tmp 4, .tmp 5],
  (.seq
  (.region [
    ⟨(some 4), .move (.c .nil), none⟩,
    ⟨(some 5), .move (.c (.int .i64 0)), none⟩])
  (.seq
  (.seq
  (.region [
    ⟨(some 7), .move (.t 0), none⟩,
    ⟨(some 8), .move (.t 1), none⟩,
    ⟨(some 9), .call f_warehouseref6_two [(.t 7), (.t 8)], none⟩,
    ⟨(some 6), .move (.t 9), none⟩])
  (.seq
  (.region [
    ⟨(some 10), .move (.t 6), none⟩,
    ⟨(some 11), .bin .neq (.t 10) (.c (.int .i64 0)), none⟩])
  (.cond (.t 11)
    (.seq
    (.region [
      ⟨(some 12), .move (.t 6), none⟩,
      ⟨(some 4), .move (.c .nil), none⟩,
      ⟨(some 5), .move (.t 12), none⟩])
    .ret)
    .skip)))
  (.seq
  (.region [
    ⟨(some 13), .move (.t 0), none⟩,
    ⟨(some 14), .move (.t 1), none⟩,
    ⟨(some 15), .call f_warehouseref6_merge [(.t 13), (.t 14)], none⟩,
    ⟨(some 16), .call f_warehouseref6_result [(.t 15)], none⟩,
    ⟨(some 17), .extract (.t 16) 0, none⟩,
    ⟨(some 18), .extract (.t 16) 1, none⟩,
    ⟨(some 4), .move (.t 17), none⟩,
    ⟨(some 5), .move (.t 18), none⟩])
  .ret)))⟩

structure F_warehouseref6_Add (P : Program) where
  id : FuncId
  warehouseref6_two : F_warehouseref6_two P
  warehouseref6_merge : F_warehouseref6_merge P
  warehouseref6_result : F_warehouseref6_result P
  has : Has P id [] (c_warehouseref6_Add warehouseref6_two.id warehouseref6_merge.id warehouseref6_result.id)

def c_warehouseref17_plus (f_warehouseref6_Add : FuncId) : AFunc := ⟨36, [.cell true 2 6, .tmp 7],
  (.seq
  (.region [
    ⟨(some 3), .box (.t 0), none⟩,
    ⟨(some 6), .alloc [(.int .i64 0), .nil], none⟩,
    ⟨(some 7), .move (.c (.int .i64 0)), none⟩])
  (.seq
  (.region [
    ⟨(some 11), .fieldAddr 0 (.t 3), none⟩,
    ⟨(some 12), .load false 1 (.t 11), none⟩,
    ⟨(some 13), .move (.t 1), none⟩,
    ⟨(some 14), .bin .add (.t 12) (.t 13), none⟩,
    ⟨(some 8), .move (.t 14), none⟩])
  (.seq
  (.seq
  (.region [
    ⟨(some 15), .move (.t 8), none⟩,
    ⟨(some 16), .bin .lss (.t 15) (.c (.int .i64 (-268435456))), none⟩,
    ⟨(some 17), .move (.t 16), none⟩,
    ⟨(some 18), .move (.t 8), some (some 17, false)⟩,
    ⟨(some 19), .bin .gtr (.t 18) (.c (.int .i64 268435456)), some (some 17, false)⟩,
    ⟨(some 20), .pick (.t 17) (.c (.bool true)) (.t 19), none⟩])
  (.cond (.t 20)
    (.seq
    (.region [
      ⟨(some 21), .build [(.int .i64 0), .nil] [], none⟩,
      ⟨none, .store 2 (.t 6) (.t 21), none⟩,
      ⟨(some 7), .move (.c (.int .i64 2)), none⟩])
    .ret)
    .skip))
  (.seq
  (.region [
    ⟨(some 23), .fieldAddr 1 (.t 3), none⟩,
    ⟨(some 24), .load false 1 (.t 23), none⟩,
    ⟨(some 25), .move (.t 2), none⟩,
    ⟨(some 26), .call f_warehouseref6_Add [(.t 24), (.t 25)], none⟩,
    ⟨(some 22), .move (.t 26), none⟩,
    ⟨(some 27), .extract (.t 22) 0, none⟩,
    ⟨(some 28), .extract (.t 22) 1, none⟩,
    ⟨(some 9), .move (.t 27), none⟩,
    ⟨(some 10), .move (.t 28), none⟩])
  (.seq
  (.seq
  (.region [
    ⟨(some 29), .move (.t 10), none⟩,
    ⟨(some 30), .bin .neq (.t 29) (.c (.int .i64 0)), none⟩])
  (.cond (.t 30)
    (.seq
    (.region [
      ⟨(some 31), .build [(.int .i64 0), .nil] [], none⟩,
      ⟨(some 32), .move (.t 10), none⟩,
      ⟨none, .store 2 (.t 6) (.t 31), none⟩,
      ⟨(some 7), .move (.t 32), none⟩])
    .ret)
    .skip))
  (.seq
  (.region [
    ⟨(some 33), .move (.t 8), none⟩,
    ⟨(some 34), .move (.t 9), none⟩,
    ⟨(some 35), .build [(.int .i64 0), .nil] [(0, 1, (.t 33)), (1, 1, (.t 34))], none⟩,
    ⟨none, .store 2 (.t 6) (.t 35), none⟩,
    ⟨(some 7), .move (.c (.int .i64 0)), none⟩])
  .ret))))))⟩

structure F_warehouseref17_plus (P : Program) where
  id : FuncId
  warehouseref6_Add : F_warehouseref6_Add P
  has : Has P id [] (c_warehouseref17_plus warehouseref6_Add.id)

def c_warehouseref17_Add (f_warehouseref17_Validate : FuncId) (f_warehouseref1_Valid : FuncId) (f_warehouseref17_plus : FuncId) : AFunc := ⟨45, [.cell true 2 6, .tmp 7],
  (.seq
  (.region [
    ⟨(some 3), .box (.t 0), none⟩,
    ⟨(some 4), .box (.t 1), none⟩,
    ⟨(some 6), .alloc [(.int .i64 0), .nil], none⟩,
    ⟨(some 7), .move (.c (.int .i64 0)), none⟩])
  (.seq
  (.seq
  (.region [
    ⟨(some 10), .load true 2 (.t 3), none⟩,
    ⟨(some 11), .call f_warehouseref17_Validate [(.t 10)], none⟩,
    ⟨(some 8), .move (.t 11), none⟩])
  (.seq
  (.region [
    ⟨(some 12), .move (.t 8), none⟩,
    ⟨(some 13), .bin .neq (.t 12) (.c (.int .i64 0)), none⟩])
  (.cond (.t 13)
    (.seq
    (.region [
      ⟨(some 14), .build [(.int .i64 0), .nil] [], none⟩,
      ⟨(some 15), .move (.t 8), none⟩,
      ⟨none, .store 2 (.t 6) (.t 14), none⟩,
      ⟨(some 7), .move (.t 15), none⟩])
    .ret)
    .skip)))
  (.seq
  (.seq
  (.region [
    ⟨(some 16), .load true 3 (.t 4), none⟩,
    ⟨(some 17), .call f_warehouseref1_Valid [(.t 16)], none⟩,
    ⟨(some 18), .un .not (.t 17), none⟩])
  (.cond (.t 18)
    (.seq
    (.region [
      ⟨(some 19), .build [(.int .i64 0), .nil] [], none⟩,
      ⟨none, .store 2 (.t 6) (.t 19), none⟩,
      ⟨(some 7), .move (.c (.int .i64 8)), none⟩])
    .ret)
    .skip))
  (.seq
  (.seq
  (.region [
    ⟨(some 20), .move (.t 2), none⟩,
    ⟨(some 21), .bin .lss (.t 20) (.c (.int .i64 (-65536))), none⟩,
    ⟨(some 22), .move (.t 21), none⟩,
    ⟨(some 23), .move (.t 2), some (some 22, false)⟩,
    ⟨(some 24), .bin .gtr (.t 23) (.c (.int .i64 65536)), some (some 22, false)⟩,
    ⟨(some 25), .pick (.t 22) (.c (.bool true)) (.t 24), none⟩])
  (.cond (.t 25)
    (.seq
    (.region [
      ⟨(some 26), .build [(.int .i64 0), .nil] [], none⟩,
      ⟨none, .store 2 (.t 6) (.t 26), none⟩,
      ⟨(some 7), .move (.c (.int .i64 1)), none⟩])
    .ret)
    .skip))
  (.seq
  (.region [
    ⟨(some 9), .move (.c .nil), none⟩])
  (.seq
  (.seq
  (.region [
    ⟨(some 27), .fieldAddr 0 (.t 4), none⟩,
    ⟨(some 28), .load false 1 (.t 27), none⟩,
    ⟨(some 29), .bin .neq (.t 28) (.c (.int .i64 0)), none⟩,
    ⟨(some 30), .move (.t 29), none⟩,
    ⟨(some 31), .move (.t 2), some (some 30, true)⟩,
    ⟨(some 32), .bin .neq (.t 31) (.c (.int .i64 0)), some (some 30, true)⟩,
    ⟨(some 33), .pick (.t 30) (.t 32) (.c (.bool false)), none⟩])
  (.cond (.t 33)
    (.region [
      ⟨(some 34), .load true 3 (.t 4), none⟩,
      ⟨(some 35), .buildSlice 3 1 [(.int .i64 0), (.int .i64 0), (.str (bs []))] [(0, (.t 34))], none⟩,
      ⟨(some 36), .move (.t 2), none⟩,
      ⟨(some 37), .build [.nil, (.int .i64 0)] [(0, 1, (.t 35)), (1, 1, (.t 36))], none⟩,
      ⟨(some 38), .buildSlice 2 1 [.nil, (.int .i64 0)] [(0, (.t 37))], none⟩,
      ⟨(some 9), .move (.t 38), none⟩])
    .skip))
  (.seq
  (.region [
    ⟨(some 39), .load true 2 (.t 3), none⟩,
    ⟨(some 40), .move (.t 2), none⟩,
    ⟨(some 41), .move (.t 9), none⟩,
    ⟨(some 42), .call f_warehouseref17_plus [(.t 39), (.t 40), (.t 41)], none⟩,
    ⟨(some 43), .extract (.t 42) 0, none⟩,
    ⟨(some 44), .extract (.t 42) 1, none⟩,
    ⟨none, .store 2 (.t 6) (.t 43), none⟩,
    ⟨(some 7), .move (.t 44), none⟩])
  .ret)))))))⟩

structure F_warehouseref17_Add (P : Program) where
  id : FuncId
  warehouseref17_Validate : F_warehouseref17_Validate P
  warehouseref1_Valid : F_warehouseref1_Valid P
  warehouseref17_plus : F_warehouseref17_plus P
  has : Has P id [] (c_warehouseref17_Add warehouseref17_Validate.id warehouseref1_Valid.id warehouseref17_plus.id)

def c_warehouseref6_Same (f_warehouseref1_SameRow : FuncId) : AFunc := ⟨42, [.tmp 4],
  (.seq
  (.region [
    ⟨(some 4), .move (.c (.bool false)), none⟩])
  (.seq
  (.seq
  (.region [
    ⟨(some 6), .move (.t 0), none⟩,
    ⟨(some 7), .len (.t 6), none⟩,
    ⟨(some 8), .move (.t 1), none⟩,
    ⟨(some 9), .len (.t 8), none⟩,
    ⟨(some 10), .bin .neq (.t 7) (.t 9), none⟩])
  (.cond (.t 10)
    (.seq
    (.region [
      ⟨(some 4), .move (.c (.bool false)), none⟩])
    .ret)
    .skip))
  (.seq
  (.seq
  (.region [
    ⟨(some 5), .move (.c (.int .i64 0)), none⟩])
  (.block 0
    (.loop
      (.seq
      (.seq
      (.region [
        ⟨(some 11), .move (.t 5), none⟩,
        ⟨(some 12), .move (.t 0), none⟩,
        ⟨(some 13), .len (.t 12), none⟩,
        ⟨(some 14), .bin .lss (.t 11) (.t 13), none⟩])
      (.cond (.t 14)
        .skip
        (.exit 0)))
      (.seq
      (.block 1
        (.seq
        (.draw [
          (⟨(some 17), .move (.t 0), none⟩, []),
          (⟨(some 18), .move (.t 5), none⟩, []),
          (⟨(some 19), .indexAddr 2 (.t 17) (.t 18), none⟩, []),
          (⟨(some 20), .fieldAddr 1 (.t 19), none⟩, []),
          (⟨(some 21), .load false 1 (.t 20), none⟩, []),
          (⟨(some 22), .move (.t 1), none⟩, []),
          (⟨(some 23), .move (.t 5), none⟩, []),
          (⟨(some 24), .indexAddr 2 (.t 22) (.t 23), none⟩, []),
          (⟨(some 25), .fieldAddr 1 (.t 24), none⟩, []),
          (⟨(some 26), .load false 1 (.t 25), none⟩, []),
          (⟨(some 27), .bin .neq (.t 21) (.t 26), none⟩, []),
          (⟨(some 28), .move (.t 27), none⟩, []),
          (⟨(some 29), .move (.t 0), some (some 28, false)⟩, []),
          (⟨(some 30), .move (.t 5), some (some 28, false)⟩, []),
          (⟨(some 31), .indexAddr 2 (.t 29) (.t 30), some (some 28, false)⟩, []),
          (⟨(some 32), .fieldAddr 0 (.t 31), some (some 28, false)⟩, []),
          (⟨(some 33), .load false 1 (.t 32), some (some 28, false)⟩, []),
          (⟨(some 34), .move (.t 1), some (some 28, false)⟩, []),
          (⟨(some 35), .move (.t 5), some (some 28, false)⟩, []),
          (⟨(some 36), .indexAddr 2 (.t 34) (.t 35), some (some 28, false)⟩, []),
          (⟨(some 37), .fieldAddr 0 (.t 36), some (some 28, false)⟩, []),
          (⟨(some 38), .load false 1 (.t 37), some (some 28, false)⟩, []),
          (⟨(some 39), .call f_warehouseref1_SameRow [(.t 33), (.t 38)], some (some 28, false)⟩, []),
          (⟨(some 40), .un .not (.t 39), some (some 28, false)⟩, []),
          (⟨(some 41), .pick (.t 28) (.c (.bool true)) (.t 40), none⟩, [])])
        (.cond (.t 41)
          (.seq
          (.region [
            ⟨(some 4), .move (.c (.bool false)), none⟩])
          .ret)
          .skip)))
      (.region [
        ⟨(some 15), .move (.t 5), none⟩,
        ⟨(some 16), .bin .add (.t 15) (.c (.int .i64 1)), none⟩,
        ⟨(some 5), .move (.t 16), none⟩]))))))
  (.seq
  (.region [
    ⟨(some 4), .move (.c (.bool true)), none⟩])
  .ret))))⟩

structure F_warehouseref6_Same (P : Program) where
  id : FuncId
  warehouseref1_SameRow : F_warehouseref1_SameRow P
  has : Has P id [] (c_warehouseref6_Same warehouseref1_SameRow.id)

def c_warehouseref17_Same (f_warehouseref6_Same : FuncId) : AFunc := ⟨17, [.tmp 4],
  (.seq
  (.region [
    ⟨(some 2), .box (.t 0), none⟩,
    ⟨(some 3), .box (.t 1), none⟩,
    ⟨(some 4), .move (.c (.bool false)), none⟩])
  (.seq
  (.region [
    ⟨(some 5), .fieldAddr 0 (.t 2), none⟩,
    ⟨(some 6), .load false 1 (.t 5), none⟩,
    ⟨(some 7), .fieldAddr 0 (.t 3), none⟩,
    ⟨(some 8), .load false 1 (.t 7), none⟩,
    ⟨(some 9), .bin .eql (.t 6) (.t 8), none⟩,
    ⟨(some 10), .move (.t 9), none⟩,
    ⟨(some 11), .fieldAddr 1 (.t 2), some (some 10, true)⟩,
    ⟨(some 12), .load false 1 (.t 11), some (some 10, true)⟩,
    ⟨(some 13), .fieldAddr 1 (.t 3), some (some 10, true)⟩,
    ⟨(some 14), .load false 1 (.t 13), some (some 10, true)⟩,
    ⟨(some 15), .call f_warehouseref6_Same [(.t 12), (.t 14)], some (some 10, true)⟩,
    ⟨(some 16), .pick (.t 10) (.t 15) (.c (.bool false)), none⟩,
    ⟨(some 4), .move (.t 16), none⟩])
  .ret))⟩

structure F_warehouseref17_Same (P : Program) where
  id : FuncId
  warehouseref6_Same : F_warehouseref6_Same P
  has : Has P id [] (c_warehouseref17_Same warehouseref6_Same.id)

def c_warehouselaw17_items (f_warehousebase_At : FuncId) (f_warehousebase_Value : FuncId) : AFunc := ⟨38, [.tmp 6],
  (.seq
  (.region [
    ⟨(some 6), .move (.c .nil), none⟩])
  (.seq
  (.region [
    ⟨(some 7), .move (.c .nil), none⟩])
  (.seq
  (.seq
  (.region [
    ⟨(some 8), .move (.c (.int .i64 0)), none⟩])
  (.block 0
    (.loop
      (.seq
      (.seq
      (.region [
        ⟨(some 11), .move (.t 8), none⟩,
        ⟨(some 12), .move (.t 1), none⟩,
        ⟨(some 13), .bin .lss (.t 11) (.t 12), none⟩])
      (.cond (.t 13)
        .skip
        (.exit 0)))
      (.seq
      (.block 1
        (.seq
        (.region [
          ⟨(some 16), .move (.t 0), none⟩,
          ⟨(some 17), .move (.t 8), none⟩,
          ⟨(some 18), .call f_warehousebase_At [(.t 16), (.t 17)], none⟩,
          ⟨(some 9), .move (.t 18), none⟩])
        (.seq
        (.region [
          ⟨(some 19), .move (.t 2), none⟩,
          ⟨(some 20), .move (.t 9), none⟩,
          ⟨(some 21), .bin .shr (.t 20) (.c (.int .u64 3)), none⟩,
          ⟨(some 22), .call f_warehousebase_Value [(.t 19), (.t 21)], none⟩,
          ⟨(some 23), .move (.t 9), none⟩,
          ⟨(some 24), .bin .and (.t 23) (.c (.int .i64 7)), none⟩,
          ⟨(some 25), .bin .sub (.t 24) (.c (.int .i64 2)), none⟩,
          ⟨(some 26), .build [(.int .i64 0), (.int .i64 0), (.str (bs [])), (.int .i64 0)] [(0, 3, (.t 22)), (3, 1, (.t 25))], none⟩,
          ⟨(some 10), .alloc [(.int .i64 0), (.int .i64 0), (.str (bs [])), (.int .i64 0)], none⟩,
          ⟨none, .store 4 (.t 10) (.t 26), none⟩])
        (.seq
        (.seq
        (.region [
          ⟨(some 27), .move (.t 9), none⟩,
          ⟨(some 28), .bin .shr (.t 27) (.c (.int .u64 3)), none⟩,
          ⟨(some 29), .bin .rem (.t 28) (.c (.int .i64 6)), none⟩,
          ⟨(some 30), .bin .eql (.t 29) (.c (.int .i64 0)), none⟩])
        (.cond (.t 30)
          (.region [
            ⟨(some 31), .build [(.int .i64 0), (.int .i64 0), (.str (bs []))] [], none⟩,
            ⟨(some 32), .fieldAddr 0 (.t 10), none⟩,
            ⟨none, .store 3 (.t 32) (.t 31), none⟩])
          .skip))
        (.region [
          ⟨(some 33), .move (.t 7), none⟩,
          ⟨(some 34), .load true 4 (.t 10), none⟩,
          ⟨(some 35), .buildSlice 4 1 [(.int .i64 0), (.int .i64 0), (.str (bs [])), (.int .i64 0)] [(0, (.t 34))], none⟩,
          ⟨(some 36), .append 4 40 [(.int .i64 0), (.int .i64 0), (.str (bs [])), (.int .i64 0)] (.t 33) (.t 35), none⟩,
          ⟨(some 7), .move (.t 36), none⟩])))))
      (.region [
        ⟨(some 14), .move (.t 8), none⟩,
        ⟨(some 15), .bin .add (.t 14) (.c (.int .i64 1)), none⟩,
        ⟨(some 8), .move (.t 15), none⟩]))))))
  (.seq
  (.region [
    ⟨(some 37), .move (.t 7), none⟩,
    ⟨(some 6), .move (.t 37), none⟩])
  .ret))))⟩

structure F_warehouselaw17_items (P : Program) where
  id : FuncId
  warehousebase_At : F_warehousebase_At P
  warehousebase_Value : F_warehousebase_Value P
  has : Has P id [] (c_warehouselaw17_items warehousebase_At.id warehousebase_Value.id)

def c_warehouselaw17_AggregateAdds (f_warehouselaw17_light : FuncId) (f_warehouselaw17_known : FuncId) (f_aggregate_Add : FuncId) (f_warehouseref17_Add : FuncId) (f_warehouseref17_Same : FuncId) (f_aggregate_Validate : FuncId) (f_warehouseref17_Validate : FuncId) (f_warehouselaw17_items : FuncId) : AFunc := ⟨124, [.tmp 10],
  (.seq
  (.region [
    ⟨(some 5), .box (.t 0), none⟩,
    ⟨(some 6), .box (.t 1), none⟩,
    ⟨(some 10), .move (.c (.bool false)), none⟩])
  (.seq
  (.seq
  (.region [
    ⟨(some 23), .load true 2 (.t 5), none⟩,
    ⟨(some 24), .call f_warehouselaw17_light [(.t 23)], none⟩,
    ⟨(some 25), .un .not (.t 24), none⟩])
  (.cond (.t 25)
    (.seq
    (.region [
      ⟨(some 26), .call f_warehouselaw17_known [], none⟩,
      ⟨(some 10), .move (.t 26), none⟩])
    .ret)
    .skip))
  (.seq
  (.region [
    ⟨(some 28), .load true 2 (.t 5), none⟩,
    ⟨(some 29), .load true 3 (.t 6), none⟩,
    ⟨(some 30), .move (.t 2), none⟩,
    ⟨(some 31), .call f_aggregate_Add [(.t 28), (.t 29), (.t 30)], none⟩,
    ⟨(some 27), .move (.t 31), none⟩,
    ⟨(some 32), .extract (.t 27) 0, none⟩,
    ⟨(some 33), .extract (.t 27) 1, none⟩,
    ⟨(some 11), .alloc [(.int .i64 0), .nil], none⟩,
    ⟨none, .store 2 (.t 11) (.t 32), none⟩,
    ⟨(some 12), .move (.t 33), none⟩])
  (.seq
  (.region [
    ⟨(some 35), .load true 2 (.t 5), none⟩,
    ⟨(some 36), .load true 3 (.t 6), none⟩,
    ⟨(some 37), .move (.t 2), none⟩,
    ⟨(some 38), .call f_warehouseref17_Add [(.t 35), (.t 36), (.t 37)], none⟩,
    ⟨(some 34), .move (.t 38), none⟩,
    ⟨(some 39), .extract (.t 34) 0, none⟩,
    ⟨(some 40), .extract (.t 34) 1, none⟩,
    ⟨(some 13), .alloc [(.int .i64 0), .nil], none⟩,
    ⟨none, .store 2 (.t 13) (.t 39), none⟩,
    ⟨(some 14), .move (.t 40), none⟩])
  (.seq
  (.seq
  (.draw [
    (⟨(some 41), .load true 2 (.t 11), none⟩, []),
    (⟨(some 42), .load true 2 (.t 13), none⟩, []),
    (⟨(some 43), .call f_warehouseref17_Same [(.t 41), (.t 42)], none⟩, []),
    (⟨(some 44), .un .not (.t 43), none⟩, []),
    (⟨(some 45), .move (.t 44), none⟩, []),
    (⟨(some 46), .move (.t 12), some (some 45, false)⟩, []),
    (⟨(some 47), .move (.t 14), some (some 45, false)⟩, []),
    (⟨(some 48), .bin .neq (.t 46) (.t 47), some (some 45, false)⟩, []),
    (⟨(some 49), .pick (.t 45) (.c (.bool true)) (.t 48), none⟩, []),
    (⟨(some 50), .move (.t 49), none⟩, []),
    (⟨(some 51), .load true 2 (.t 5), some (some 50, false)⟩, []),
    (⟨(some 52), .call f_aggregate_Validate [(.t 51)], some (some 50, false)⟩, []),
    (⟨(some 53), .load true 2 (.t 5), some (some 50, false)⟩, []),
    (⟨(some 54), .call f_warehouseref17_Validate [(.t 53)], some (some 50, false)⟩, []),
    (⟨(some 55), .bin .neq (.t 52) (.t 54), some (some 50, false)⟩, []),
    (⟨(some 56), .pick (.t 50) (.c (.bool true)) (.t 55), none⟩, [])])
  (.cond (.t 56)
    (.seq
    (.region [
      ⟨(some 10), .move (.c (.bool false)), none⟩])
    .ret)
    .skip))
  (.seq
  (.region [
    ⟨(some 57), .build [(.int .i64 0), .nil] [], none⟩,
    ⟨(some 58), .build [(.int .i64 0), .nil] [], none⟩,
    ⟨(some 15), .alloc [(.int .i64 0), .nil], none⟩,
    ⟨(some 16), .alloc [(.int .i64 0), .nil], none⟩,
    ⟨none, .store 2 (.t 15) (.t 57), none⟩,
    ⟨none, .store 2 (.t 16) (.t 58), none⟩])
  (.seq
  (.region [
    ⟨(some 59), .move (.t 3), none⟩,
    ⟨(some 60), .move (.t 4), none⟩,
    ⟨(some 61), .bin .and (.t 60) (.c (.int .i64 15)), none⟩,
    ⟨(some 62), .move (.t 4), none⟩,
    ⟨(some 63), .bin .shr (.t 62) (.c (.int .u64 4)), none⟩,
    ⟨(some 64), .bin .and (.t 63) (.c (.int .i64 3)), none⟩,
    ⟨(some 65), .bin .add (.c (.int .i64 1)) (.t 64), none⟩,
    ⟨(some 66), .call f_warehouselaw17_items [(.t 59), (.t 61), (.t 65)], none⟩,
    ⟨(some 17), .move (.t 66), none⟩])
  (.seq
  (.seq
  (.region [
    ⟨(some 18), .move (.c (.int .i64 0)), none⟩])
  (.block 0
    (.loop
      (.seq
      (.seq
      (.region [
        ⟨(some 67), .move (.t 18), none⟩,
        ⟨(some 68), .move (.t 17), none⟩,
        ⟨(some 69), .len (.t 68), none⟩,
        ⟨(some 70), .bin .lss (.t 67) (.t 69), none⟩])
      (.cond (.t 70)
        .skip
        (.exit 0)))
      (.seq
      (.block 1
        (.seq
        (.draw [
          (⟨(some 74), .load true 2 (.t 15), none⟩, [2]),
          (⟨(some 75), .move (.t 17), none⟩, []),
          (⟨(some 76), .move (.t 18), none⟩, []),
          (⟨(some 77), .indexAddr 4 (.t 75) (.t 76), none⟩, [2]),
          (⟨(some 78), .fieldAddr 0 (.t 77), none⟩, []),
          (⟨(some 79), .load true 3 (.t 78), none⟩, [2]),
          (⟨(some 80), .move (.t 17), none⟩, []),
          (⟨(some 81), .move (.t 18), none⟩, []),
          (⟨(some 82), .indexAddr 4 (.t 80) (.t 81), none⟩, [2]),
          (⟨(some 83), .fieldAddr 3 (.t 82), none⟩, []),
          (⟨(some 84), .load false 1 (.t 83), none⟩, [2]),
          (⟨(some 85), .call f_aggregate_Add [(.t 74), (.t 79), (.t 84)], none⟩, [2]),
          (⟨(some 73), .move (.t 85), none⟩, []),
          (⟨(some 86), .extract (.t 73) 0, none⟩, []),
          (⟨(some 87), .extract (.t 73) 1, none⟩, []),
          (⟨(some 19), .alloc [(.int .i64 0), .nil], none⟩, []),
          (⟨none, .store 2 (.t 19) (.t 86), none⟩, []),
          (⟨(some 20), .move (.t 87), none⟩, [])])
        (.seq
        (.draw [
          (⟨(some 89), .load true 2 (.t 16), none⟩, [2]),
          (⟨(some 90), .move (.t 17), none⟩, []),
          (⟨(some 91), .move (.t 18), none⟩, []),
          (⟨(some 92), .indexAddr 4 (.t 90) (.t 91), none⟩, [2]),
          (⟨(some 93), .fieldAddr 0 (.t 92), none⟩, []),
          (⟨(some 94), .load true 3 (.t 93), none⟩, [2]),
          (⟨(some 95), .move (.t 17), none⟩, []),
          (⟨(some 96), .move (.t 18), none⟩, []),
          (⟨(some 97), .indexAddr 4 (.t 95) (.t 96), none⟩, [2]),
          (⟨(some 98), .fieldAddr 3 (.t 97), none⟩, []),
          (⟨(some 99), .load false 1 (.t 98), none⟩, [2]),
          (⟨(some 100), .call f_warehouseref17_Add [(.t 89), (.t 94), (.t 99)], none⟩, [2]),
          (⟨(some 88), .move (.t 100), none⟩, []),
          (⟨(some 101), .extract (.t 88) 0, none⟩, []),
          (⟨(some 102), .extract (.t 88) 1, none⟩, []),
          (⟨(some 21), .alloc [(.int .i64 0), .nil], none⟩, []),
          (⟨none, .store 2 (.t 21) (.t 101), none⟩, []),
          (⟨(some 22), .move (.t 102), none⟩, [])])
        (.seq
        (.seq
        (.region [
          ⟨(some 103), .load true 2 (.t 19), none⟩,
          ⟨(some 104), .load true 2 (.t 21), none⟩,
          ⟨(some 105), .call f_warehouseref17_Same [(.t 103), (.t 104)], none⟩,
          ⟨(some 106), .un .not (.t 105), none⟩,
          ⟨(some 107), .move (.t 106), none⟩,
          ⟨(some 108), .move (.t 20), some (some 107, false)⟩,
          ⟨(some 109), .move (.t 22), some (some 107, false)⟩,
          ⟨(some 110), .bin .neq (.t 108) (.t 109), some (some 107, false)⟩,
          ⟨(some 111), .pick (.t 107) (.c (.bool true)) (.t 110), none⟩,
          ⟨(some 112), .move (.t 111), none⟩,
          ⟨(some 113), .move (.t 20), some (some 112, false)⟩,
          ⟨(some 114), .bin .neq (.t 113) (.c (.int .i64 0)), some (some 112, false)⟩,
          ⟨(some 115), .pick (.t 112) (.c (.bool true)) (.t 114), none⟩,
          ⟨(some 116), .move (.t 115), none⟩,
          ⟨(some 117), .load true 2 (.t 19), some (some 116, false)⟩,
          ⟨(some 118), .call f_aggregate_Validate [(.t 117)], some (some 116, false)⟩,
          ⟨(some 119), .bin .neq (.t 118) (.c (.int .i64 0)), some (some 116, false)⟩,
          ⟨(some 120), .pick (.t 116) (.c (.bool true)) (.t 119), none⟩])
        (.cond (.t 120)
          (.seq
          (.region [
            ⟨(some 10), .move (.c (.bool false)), none⟩])
          .ret)
          .skip))
        (.draw [
          (⟨(some 121), .load true 2 (.t 19), none⟩, []),
          (⟨(some 122), .load true 2 (.t 21), none⟩, [1]),
          (⟨none, .store 2 (.t 15) (.t 121), none⟩, []),
          (⟨none, .store 2 (.t 16) (.t 122), none⟩, [])])))))
      (.region [
        ⟨(some 71), .move (.t 18), none⟩,
        ⟨(some 72), .bin .add (.t 71) (.c (.int .i64 1)), none⟩,
        ⟨(some 18), .move (.t 72), none⟩]))))))
  (.seq
  (.region [
    ⟨(some 123), .call f_warehouselaw17_known [], none⟩,
    ⟨(some 10), .move (.t 123), none⟩])
  .ret)))))))))⟩

structure F_warehouselaw17_AggregateAdds (P : Program) where
  id : FuncId
  warehouselaw17_light : F_warehouselaw17_light P
  warehouselaw17_known : F_warehouselaw17_known P
  aggregate_Add : F_aggregate_Add P
  warehouseref17_Add : F_warehouseref17_Add P
  warehouseref17_Same : F_warehouseref17_Same P
  aggregate_Validate : F_aggregate_Validate P
  warehouseref17_Validate : F_warehouseref17_Validate P
  warehouselaw17_items : F_warehouselaw17_items P
  has : Has P id [] (c_warehouselaw17_AggregateAdds warehouselaw17_light.id warehouselaw17_known.id aggregate_Add.id warehouseref17_Add.id warehouseref17_Same.id aggregate_Validate.id warehouseref17_Validate.id warehouselaw17_items.id)

def c_warehouseref17_total : AFunc := ⟨40, [.tmp 2, .tmp 3],
  (.seq
  (.region [
    ⟨(some 1), .box (.t 0), none⟩,
    ⟨(some 2), .move (.c (.int .i64 0)), none⟩,
    ⟨(some 3), .move (.c (.int .i64 0)), none⟩])
  (.seq
  (.seq
  (.region [
    ⟨(some 4), .move (.c (.int .i64 0)), none⟩])
  (.block 0
    (.loop
      (.seq
      (.seq
      (.region [
        ⟨(some 5), .move (.t 4), none⟩,
        ⟨(some 6), .fieldAddr 1 (.t 1), none⟩,
        ⟨(some 7), .load false 1 (.t 6), none⟩,
        ⟨(some 8), .len (.t 7), none⟩,
        ⟨(some 9), .bin .lss (.t 5) (.t 8), none⟩])
      (.cond (.t 9)
        .skip
        (.exit 0)))
      (.seq
      (.block 1
        (.seq
        (.draw [
          (⟨(some 12), .move (.t 2), none⟩, []),
          (⟨(some 13), .fieldAddr 1 (.t 1), none⟩, []),
          (⟨(some 14), .load false 1 (.t 13), none⟩, []),
          (⟨(some 15), .move (.t 4), none⟩, []),
          (⟨(some 16), .indexAddr 2 (.t 14) (.t 15), none⟩, []),
          (⟨(some 17), .fieldAddr 0 (.t 16), none⟩, []),
          (⟨(some 18), .load false 1 (.t 17), none⟩, []),
          (⟨(some 19), .indexAddr 3 (.t 18) (.c (.int .i64 0)), none⟩, []),
          (⟨(some 20), .fieldAddr 1 (.t 19), none⟩, []),
          (⟨(some 21), .load false 1 (.t 20), none⟩, []),
          (⟨(some 22), .fieldAddr 1 (.t 1), none⟩, []),
          (⟨(some 23), .load false 1 (.t 22), none⟩, []),
          (⟨(some 24), .move (.t 4), none⟩, []),
          (⟨(some 25), .indexAddr 2 (.t 23) (.t 24), none⟩, []),
          (⟨(some 26), .fieldAddr 1 (.t 25), none⟩, []),
          (⟨(some 27), .load false 1 (.t 26), none⟩, []),
          (⟨(some 28), .bin .mul (.t 21) (.t 27), none⟩, []),
          (⟨(some 29), .bin .add (.t 12) (.t 28), none⟩, []),
          (⟨(some 2), .move (.t 29), none⟩, [])])
        (.region [
          ⟨(some 30), .move (.t 3), none⟩,
          ⟨(some 31), .fieldAddr 1 (.t 1), none⟩,
          ⟨(some 32), .load false 1 (.t 31), none⟩,
          ⟨(some 33), .move (.t 4), none⟩,
          ⟨(some 34), .indexAddr 2 (.t 32) (.t 33), none⟩,
          ⟨(some 35), .fieldAddr 1 (.t 34), none⟩,
          ⟨(some 36), .load false 1 (.t 35), none⟩,
          ⟨(some 37), .bin .add (.t 30) (.t 36), none⟩,
          ⟨(some 3), .move (.t 37), none⟩])))
      (.region [
        ⟨(some 10), .move (.t 4), none⟩,
        ⟨(some 11), .bin .add (.t 10) (.c (.int .i64 1)), none⟩,
        ⟨(some 4), .move (.t 11), none⟩]))))))
  (.seq
  (.region [
    ⟨(some 38), .move (.t 2), none⟩,
    ⟨(some 39), .move (.t 3), none⟩,
    ⟨(some 2), .move (.t 38), none⟩,
    ⟨(some 3), .move (.t 39), none⟩])
  .ret)))⟩

structure F_warehouseref17_total (P : Program) where
  id : FuncId
  has : Has P id [] c_warehouseref17_total

def c_warehouseref17_number : AFunc := ⟨12, [.cell true 3 2],
  (.seq
  (.region [
    ⟨(some 2), .alloc [(.int .i64 0), (.int .i64 0), (.str (bs []))], none⟩])
  (.seq
  (.seq
  (.region [
    ⟨(some 3), .move (.t 0), none⟩,
    ⟨(some 4), .bin .lss (.t 3) (.c (.int .i64 (-1073741824))), none⟩,
    ⟨(some 5), .move (.t 4), none⟩,
    ⟨(some 6), .move (.t 0), some (some 5, false)⟩,
    ⟨(some 7), .bin .gtr (.t 6) (.c (.int .i64 1073741824)), some (some 5, false)⟩,
    ⟨(some 8), .pick (.t 5) (.c (.bool true)) (.t 7), none⟩])
  (.cond (.t 8)
    (.seq
    (.region [
      ⟨(some 9), .build [(.int .i64 0), (.int .i64 0), (.str (bs []))] [], none⟩,
      ⟨none, .store 3 (.t 2) (.t 9), none⟩])
    .ret)
    .skip))
  (.seq
  (.region [
    ⟨(some 10), .move (.t 0), none⟩,
    ⟨(some 11), .build [(.int .i64 0), (.int .i64 0), (.str (bs []))] [(0, 1, (.c (.int .i64 2))), (1, 1, (.t 10))], none⟩,
    ⟨none, .store 3 (.t 2) (.t 11), none⟩])
  .ret)))⟩

structure F_warehouseref17_number (P : Program) where
  id : FuncId
  has : Has P id [] c_warehouseref17_number

def c_warehouseref2_Floor : AFunc := ⟨16, [.tmp 4],
  (.seq
  (.region [
    ⟨(some 4), .move (.c (.int .i64 0)), none⟩])
  (.seq
  (.region [
    ⟨(some 6), .move (.t 0), none⟩,
    ⟨(some 7), .move (.t 1), none⟩,
    ⟨(some 8), .bin .quo (.t 6) (.t 7), none⟩,
    ⟨(some 5), .move (.t 8), none⟩])
  (.seq
  (.seq
  (.region [
    ⟨(some 9), .move (.t 0), none⟩,
    ⟨(some 10), .move (.t 1), none⟩,
    ⟨(some 11), .bin .rem (.t 9) (.t 10), none⟩,
    ⟨(some 12), .bin .lss (.t 11) (.c (.int .i64 0)), none⟩])
  (.cond (.t 12)
    (.region [
      ⟨(some 13), .move (.t 5), none⟩,
      ⟨(some 14), .bin .sub (.t 13) (.c (.int .i64 1)), none⟩,
      ⟨(some 5), .move (.t 14), none⟩])
    .skip))
  (.seq
  (.region [
    ⟨(some 15), .move (.t 5), none⟩,
    ⟨(some 4), .move (.t 15), none⟩])
  .ret))))⟩

structure F_warehouseref2_Floor (P : Program) where
  id : FuncId
  has : Has P id [] c_warehouseref2_Floor

def c_warehouseref17_Result (f_warehouseref17_Validate : FuncId) (f_warehouseref17_total : FuncId) (f_warehouseref17_number : FuncId) (f_warehouseref2_Floor : FuncId) : AFunc := ⟨123, [.cell true 3 4, .tmp 5],
  (.seq
  (.region [
    ⟨(some 3), .box (.t 1), none⟩,
    ⟨(some 4), .alloc [(.int .i64 0), (.int .i64 0), (.str (bs []))], none⟩,
    ⟨(some 5), .move (.c (.int .i64 0)), none⟩])
  (.seq
  (.seq
  (.region [
    ⟨(some 11), .move (.t 0), none⟩,
    ⟨(some 12), .bin .lss (.t 11) (.c (.int .i64 1)), none⟩,
    ⟨(some 13), .move (.t 12), none⟩,
    ⟨(some 14), .move (.t 0), some (some 13, false)⟩,
    ⟨(some 15), .bin .gtr (.t 14) (.c (.int .i64 7)), some (some 13, false)⟩,
    ⟨(some 16), .pick (.t 13) (.c (.bool true)) (.t 15), none⟩])
  (.cond (.t 16)
    (.seq
    (.region [
      ⟨(some 17), .build [(.int .i64 0), (.int .i64 0), (.str (bs []))] [], none⟩,
      ⟨none, .store 3 (.t 4) (.t 17), none⟩,
      ⟨(some 5), .move (.c (.int .i64 1)), none⟩])
    .ret)
    .skip))
  (.seq
  (.seq
  (.region [
    ⟨(some 18), .load true 2 (.t 3), none⟩,
    ⟨(some 19), .call f_warehouseref17_Validate [(.t 18)], none⟩,
    ⟨(some 6), .move (.t 19), none⟩])
  (.seq
  (.region [
    ⟨(some 20), .move (.t 6), none⟩,
    ⟨(some 21), .bin .neq (.t 20) (.c (.int .i64 0)), none⟩])
  (.cond (.t 21)
    (.seq
    (.region [
      ⟨(some 22), .build [(.int .i64 0), (.int .i64 0), (.str (bs []))] [], none⟩,
      ⟨(some 23), .move (.t 6), none⟩,
      ⟨none, .store 3 (.t 4) (.t 22), none⟩,
      ⟨(some 5), .move (.t 23), none⟩])
    .ret)
    .skip)))
  (.seq
  (.region [
    ⟨(some 7), .move (.c .nil), none⟩])
  (.seq
  (.seq
  (.region [
    ⟨(some 8), .move (.c (.int .i64 0)), none⟩])
  (.block 0
    (.loop
      (.seq
      (.seq
      (.region [
        ⟨(some 24), .move (.t 8), none⟩,
        ⟨(some 25), .fieldAddr 1 (.t 3), none⟩,
        ⟨(some 26), .load false 1 (.t 25), none⟩,
        ⟨(some 27), .len (.t 26), none⟩,
        ⟨(some 28), .bin .lss (.t 24) (.t 27), none⟩])
      (.cond (.t 28)
        .skip
        (.exit 0)))
      (.seq
      (.block 1
        (.seq
        (.seq
        (.region [
          ⟨(some 31), .move (.t 0), none⟩,
          ⟨(some 32), .bin .eql (.t 31) (.c (.int .i64 3)), none⟩,
          ⟨(some 33), .move (.t 32), none⟩,
          ⟨(some 34), .move (.t 0), some (some 33, false)⟩,
          ⟨(some 35), .bin .eql (.t 34) (.c (.int .i64 7)), some (some 33, false)⟩,
          ⟨(some 36), .pick (.t 33) (.c (.bool true)) (.t 35), none⟩,
          ⟨(some 37), .move (.t 36), none⟩,
          ⟨(some 38), .fieldAddr 1 (.t 3), some (some 37, true)⟩,
          ⟨(some 39), .load false 1 (.t 38), some (some 37, true)⟩,
          ⟨(some 40), .move (.t 8), some (some 37, true)⟩,
          ⟨(some 41), .indexAddr 2 (.t 39) (.t 40), some (some 37, true)⟩,
          ⟨(some 42), .fieldAddr 0 (.t 41), some (some 37, true)⟩,
          ⟨(some 43), .load false 1 (.t 42), some (some 37, true)⟩,
          ⟨(some 44), .indexAddr 3 (.t 43) (.c (.int .i64 0)), some (some 37, true)⟩,
          ⟨(some 45), .fieldAddr 0 (.t 44), some (some 37, true)⟩,
          ⟨(some 46), .load false 1 (.t 45), some (some 37, true)⟩,
          ⟨(some 47), .bin .neq (.t 46) (.c (.int .i64 2)), some (some 37, true)⟩,
          ⟨(some 48), .pick (.t 37) (.t 47) (.c (.bool false)), none⟩])
        (.cond (.t 48)
          (.seq
          (.region [
            ⟨(some 49), .build [(.int .i64 0), (.int .i64 0), (.str (bs []))] [], none⟩,
            ⟨none, .store 3 (.t 4) (.t 49), none⟩,
            ⟨(some 5), .move (.c (.int .i64 7)), none⟩])
          .ret)
          .skip))
        (.seq
        (.region [
          ⟨(some 50), .fieldAddr 1 (.t 3), none⟩,
          ⟨(some 51), .load false 1 (.t 50), none⟩,
          ⟨(some 52), .move (.t 8), none⟩,
          ⟨(some 53), .indexAddr 2 (.t 51) (.t 52), none⟩,
          ⟨(some 54), .fieldAddr 1 (.t 53), none⟩,
          ⟨(some 55), .load false 1 (.t 54), none⟩,
          ⟨(some 56), .bin .gtr (.t 55) (.c (.int .i64 0)), none⟩])
        (.cond (.t 56)
          (.region [
            ⟨(some 57), .move (.t 7), none⟩,
            ⟨(some 58), .fieldAddr 1 (.t 3), none⟩,
            ⟨(some 59), .load false 1 (.t 58), none⟩,
            ⟨(some 60), .move (.t 8), none⟩,
            ⟨(some 61), .indexAddr 2 (.t 59) (.t 60), none⟩,
            ⟨(some 62), .fieldAddr 0 (.t 61), none⟩,
            ⟨(some 63), .load false 1 (.t 62), none⟩,
            ⟨(some 64), .indexAddr 3 (.t 63) (.c (.int .i64 0)), none⟩,
            ⟨(some 65), .load true 3 (.t 64), none⟩,
            ⟨(some 66), .buildSlice 3 1 [(.int .i64 0), (.int .i64 0), (.str (bs []))] [(0, (.t 65))], none⟩,
            ⟨(some 67), .append 3 32 [(.int .i64 0), (.int .i64 0), (.str (bs []))] (.t 57) (.t 66), none⟩,
            ⟨(some 7), .move (.t 67), none⟩])
          .skip))))
      (.region [
        ⟨(some 29), .move (.t 8), none⟩,
        ⟨(some 30), .bin .add (.t 29) (.c (.int .i64 1)), none⟩,
        ⟨(some 8), .move (.t 30), none⟩]))))))
  (.seq
  (.region [
    ⟨(some 69), .load true 2 (.t 3), none⟩,
    ⟨(some 70), .call f_warehouseref17_total [(.t 69)], none⟩,
    ⟨(some 68), .move (.t 70), none⟩,
    ⟨(some 71), .extract (.t 68) 0, none⟩,
    ⟨(some 72), .extract (.t 68) 1, none⟩,
    ⟨(some 9), .move (.t 71), none⟩,
    ⟨(some 10), .move (.t 72), none⟩])
  (.seq
  (.seq
  (.region [
    ⟨(some 73), .move (.t 0), none⟩])
  (.block 2
    (.seq
    (.region [
      ⟨(some 75), .bin .eql (.t 73) (.c (.int .i64 1)), none⟩,
      ⟨(some 74), .move (.t 75), none⟩])
    (.cond (.t 74)
      (.seq
      (.region [
        ⟨(some 76), .fieldAddr 0 (.t 3), none⟩,
        ⟨(some 77), .load false 1 (.t 76), none⟩,
        ⟨(some 78), .call f_warehouseref17_number [(.t 77)], none⟩,
        ⟨none, .store 3 (.t 4) (.t 78), none⟩,
        ⟨(some 5), .move (.c (.int .i64 0)), none⟩])
      .ret)
      (.seq
      (.region [
        ⟨(some 80), .bin .eql (.t 73) (.c (.int .i64 2)), none⟩,
        ⟨(some 79), .move (.t 80), none⟩])
      (.cond (.t 79)
        (.seq
        (.region [
          ⟨(some 81), .move (.t 10), none⟩,
          ⟨(some 82), .call f_warehouseref17_number [(.t 81)], none⟩,
          ⟨none, .store 3 (.t 4) (.t 82), none⟩,
          ⟨(some 5), .move (.c (.int .i64 0)), none⟩])
        .ret)
        (.seq
        (.region [
          ⟨(some 84), .bin .eql (.t 73) (.c (.int .i64 6)), none⟩,
          ⟨(some 83), .move (.t 84), none⟩])
        (.cond (.t 83)
          (.seq
          (.region [
            ⟨(some 85), .move (.t 7), none⟩,
            ⟨(some 86), .len (.t 85), none⟩,
            ⟨(some 87), .call f_warehouseref17_number [(.t 86)], none⟩,
            ⟨none, .store 3 (.t 4) (.t 87), none⟩,
            ⟨(some 5), .move (.c (.int .i64 0)), none⟩])
          .ret)
          (.seq
          (.region [
            ⟨(some 89), .bin .eql (.t 73) (.c (.int .i64 3)), none⟩,
            ⟨(some 88), .move (.t 89), none⟩])
          (.cond (.t 88)
            (.seq
            (.seq
            (.region [
              ⟨(some 90), .fieldAddr 1 (.t 3), none⟩,
              ⟨(some 91), .load false 1 (.t 90), none⟩,
              ⟨(some 92), .len (.t 91), none⟩,
              ⟨(some 93), .bin .eql (.t 92) (.c (.int .i64 0)), none⟩])
            (.cond (.t 93)
              (.seq
              (.region [
                ⟨(some 94), .build [(.int .i64 0), (.int .i64 0), (.str (bs []))] [], none⟩,
                ⟨none, .store 3 (.t 4) (.t 94), none⟩,
                ⟨(some 5), .move (.c (.int .i64 0)), none⟩])
              .ret)
              .skip))
            (.seq
            (.region [
              ⟨(some 95), .move (.t 9), none⟩,
              ⟨(some 96), .call f_warehouseref17_number [(.t 95)], none⟩,
              ⟨none, .store 3 (.t 4) (.t 96), none⟩,
              ⟨(some 5), .move (.c (.int .i64 0)), none⟩])
            .ret))
            (.seq
            (.region [
              ⟨(some 98), .bin .eql (.t 73) (.c (.int .i64 7)), none⟩,
              ⟨(some 97), .move (.t 98), none⟩])
            (.cond (.t 97)
              (.seq
              (.seq
              (.region [
                ⟨(some 99), .move (.t 10), none⟩,
                ⟨(some 100), .bin .leq (.t 99) (.c (.int .i64 0)), none⟩])
              (.cond (.t 100)
                (.seq
                (.region [
                  ⟨(some 101), .build [(.int .i64 0), (.int .i64 0), (.str (bs []))] [], none⟩,
                  ⟨none, .store 3 (.t 4) (.t 101), none⟩,
                  ⟨(some 5), .move (.c (.int .i64 0)), none⟩])
                .ret)
                .skip))
              (.seq
              (.region [
                ⟨(some 102), .move (.t 9), none⟩,
                ⟨(some 103), .move (.t 10), none⟩,
                ⟨(some 104), .call f_warehouseref2_Floor [(.t 102), (.t 103)], none⟩,
                ⟨(some 105), .call f_warehouseref17_number [(.t 104)], none⟩,
                ⟨none, .store 3 (.t 4) (.t 105), none⟩,
                ⟨(some 5), .move (.c (.int .i64 0)), none⟩])
              .ret))
              .skip))))))))))))
  (.seq
  (.block 3
    (.seq
    (.region [
      ⟨(some 107), .move (.t 7), none⟩,
      ⟨(some 108), .len (.t 107), none⟩,
      ⟨(some 109), .bin .eql (.t 108) (.c (.int .i64 0)), none⟩,
      ⟨(some 106), .move (.t 109), none⟩])
    (.cond (.t 106)
      (.seq
      (.region [
        ⟨(some 110), .build [(.int .i64 0), (.int .i64 0), (.str (bs []))] [], none⟩,
        ⟨none, .store 3 (.t 4) (.t 110), none⟩,
        ⟨(some 5), .move (.c (.int .i64 0)), none⟩])
      .ret)
      (.seq
      (.region [
        ⟨(some 112), .move (.t 0), none⟩,
        ⟨(some 113), .bin .eql (.t 112) (.c (.int .i64 4)), none⟩,
        ⟨(some 111), .move (.t 113), none⟩])
      (.cond (.t 111)
        (.seq
        (.region [
          ⟨(some 114), .move (.t 7), none⟩,
          ⟨(some 115), .indexAddr 3 (.t 114) (.c (.int .i64 0)), none⟩,
          ⟨(some 116), .load true 3 (.t 115), none⟩,
          ⟨none, .store 3 (.t 4) (.t 116), none⟩,
          ⟨(some 5), .move (.c (.int .i64 0)), none⟩])
        .ret)
        .skip)))))
  (.seq
  (.region [
    ⟨(some 117), .move (.t 7), none⟩,
    ⟨(some 118), .move (.t 7), none⟩,
    ⟨(some 119), .len (.t 118), none⟩,
    ⟨(some 120), .bin .sub (.t 119) (.c (.int .i64 1)), none⟩,
    ⟨(some 121), .indexAddr 3 (.t 117) (.t 120), none⟩,
    ⟨(some 122), .load true 3 (.t 121), none⟩,
    ⟨none, .store 3 (.t 4) (.t 122), none⟩,
    ⟨(some 5), .move (.c (.int .i64 0)), none⟩])
  .ret)))))))))⟩

structure F_warehouseref17_Result (P : Program) where
  id : FuncId
  warehouseref17_Validate : F_warehouseref17_Validate P
  warehouseref17_total : F_warehouseref17_total P
  warehouseref17_number : F_warehouseref17_number P
  warehouseref2_Floor : F_warehouseref2_Floor P
  has : Has P id [] (c_warehouseref17_Result warehouseref17_Validate.id warehouseref17_total.id warehouseref17_number.id warehouseref2_Floor.id)

def c_warehouselaw17_added (f_aggregate_Add : FuncId) : AFunc := ⟨35, [.cell true 2 4, .tmp 5],
  (.seq
  (.region [
    ⟨(some 2), .box (.t 0), none⟩,
    ⟨(some 4), .alloc [(.int .i64 0), .nil], none⟩,
    ⟨(some 5), .move (.c (.bool false)), none⟩])
  (.seq
  (.seq
  (.region [
    ⟨(some 6), .move (.c (.int .i64 0)), none⟩])
  (.block 0
    (.loop
      (.seq
      (.seq
      (.region [
        ⟨(some 9), .move (.t 6), none⟩,
        ⟨(some 10), .move (.t 1), none⟩,
        ⟨(some 11), .len (.t 10), none⟩,
        ⟨(some 12), .bin .lss (.t 9) (.t 11), none⟩])
      (.cond (.t 12)
        .skip
        (.exit 0)))
      (.seq
      (.block 1
        (.seq
        (.draw [
          (⟨(some 16), .load true 2 (.t 2), none⟩, [2]),
          (⟨(some 17), .move (.t 1), none⟩, []),
          (⟨(some 18), .move (.t 6), none⟩, []),
          (⟨(some 19), .indexAddr 4 (.t 17) (.t 18), none⟩, [2]),
          (⟨(some 20), .fieldAddr 0 (.t 19), none⟩, []),
          (⟨(some 21), .load true 3 (.t 20), none⟩, [2]),
          (⟨(some 22), .move (.t 1), none⟩, []),
          (⟨(some 23), .move (.t 6), none⟩, []),
          (⟨(some 24), .indexAddr 4 (.t 22) (.t 23), none⟩, [2]),
          (⟨(some 25), .fieldAddr 3 (.t 24), none⟩, []),
          (⟨(some 26), .load false 1 (.t 25), none⟩, [2]),
          (⟨(some 27), .call f_aggregate_Add [(.t 16), (.t 21), (.t 26)], none⟩, [2]),
          (⟨(some 15), .move (.t 27), none⟩, []),
          (⟨(some 28), .extract (.t 15) 0, none⟩, []),
          (⟨(some 29), .extract (.t 15) 1, none⟩, []),
          (⟨(some 7), .alloc [(.int .i64 0), .nil], none⟩, []),
          (⟨none, .store 2 (.t 7) (.t 28), none⟩, []),
          (⟨(some 8), .move (.t 29), none⟩, [])])
        (.seq
        (.seq
        (.region [
          ⟨(some 30), .move (.t 8), none⟩,
          ⟨(some 31), .bin .neq (.t 30) (.c (.int .i64 0)), none⟩])
        (.cond (.t 31)
          (.seq
          (.region [
            ⟨(some 32), .load true 2 (.t 2), none⟩,
            ⟨none, .store 2 (.t 4) (.t 32), none⟩,
            ⟨(some 5), .move (.c (.bool false)), none⟩])
          .ret)
          .skip))
        (.region [
          ⟨(some 33), .load true 2 (.t 7), none⟩,
          ⟨none, .store 2 (.t 2) (.t 33), none⟩]))))
      (.region [
        ⟨(some 13), .move (.t 6), none⟩,
        ⟨(some 14), .bin .add (.t 13) (.c (.int .i64 1)), none⟩,
        ⟨(some 6), .move (.t 14), none⟩]))))))
  (.seq
  (.region [
    ⟨(some 34), .load true 2 (.t 2), none⟩,
    ⟨none, .store 2 (.t 4) (.t 34), none⟩,
    ⟨(some 5), .move (.c (.bool true)), none⟩])
  .ret)))⟩

structure F_warehouselaw17_added (P : Program) where
  id : FuncId
  aggregate_Add : F_aggregate_Add P
  has : Has P id [] (c_warehouselaw17_added aggregate_Add.id)

def c_warehouselaw17_AggregateResults (f_warehouselaw17_light : FuncId) (f_warehouselaw17_known : FuncId) (f_aggregate_Result : FuncId) (f_warehouseref17_Result : FuncId) (f_warehouselaw17_items : FuncId) (f_warehouselaw17_added : FuncId) : AFunc := ⟨85, [.tmp 8],
  (.seq
  (.region [
    ⟨(some 5), .box (.t 1), none⟩,
    ⟨(some 8), .move (.c (.bool false)), none⟩])
  (.seq
  (.seq
  (.region [
    ⟨(some 20), .load true 2 (.t 5), none⟩,
    ⟨(some 21), .call f_warehouselaw17_light [(.t 20)], none⟩,
    ⟨(some 22), .un .not (.t 21), none⟩])
  (.cond (.t 22)
    (.seq
    (.region [
      ⟨(some 23), .call f_warehouselaw17_known [], none⟩,
      ⟨(some 8), .move (.t 23), none⟩])
    .ret)
    .skip))
  (.seq
  (.region [
    ⟨(some 25), .move (.t 0), none⟩,
    ⟨(some 26), .load true 2 (.t 5), none⟩,
    ⟨(some 27), .call f_aggregate_Result [(.t 25), (.t 26)], none⟩,
    ⟨(some 24), .move (.t 27), none⟩,
    ⟨(some 28), .extract (.t 24) 0, none⟩,
    ⟨(some 29), .extract (.t 24) 1, none⟩,
    ⟨(some 9), .alloc [(.int .i64 0), (.int .i64 0), (.str (bs []))], none⟩,
    ⟨none, .store 3 (.t 9) (.t 28), none⟩,
    ⟨(some 10), .move (.t 29), none⟩])
  (.seq
  (.region [
    ⟨(some 31), .move (.t 0), none⟩,
    ⟨(some 32), .load true 2 (.t 5), none⟩,
    ⟨(some 33), .call f_warehouseref17_Result [(.t 31), (.t 32)], none⟩,
    ⟨(some 30), .move (.t 33), none⟩,
    ⟨(some 34), .extract (.t 30) 0, none⟩,
    ⟨(some 35), .extract (.t 30) 1, none⟩,
    ⟨(some 11), .alloc [(.int .i64 0), (.int .i64 0), (.str (bs []))], none⟩,
    ⟨none, .store 3 (.t 11) (.t 34), none⟩,
    ⟨(some 12), .move (.t 35), none⟩])
  (.seq
  (.seq
  (.region [
    ⟨(some 36), .load true 3 (.t 9), none⟩,
    ⟨(some 37), .load true 3 (.t 11), none⟩,
    ⟨(some 38), .eqs true [1, 1, 2] (.t 36) (.t 37), none⟩,
    ⟨(some 39), .move (.t 38), none⟩,
    ⟨(some 40), .move (.t 10), some (some 39, false)⟩,
    ⟨(some 41), .move (.t 12), some (some 39, false)⟩,
    ⟨(some 42), .bin .neq (.t 40) (.t 41), some (some 39, false)⟩,
    ⟨(some 43), .pick (.t 39) (.c (.bool true)) (.t 42), none⟩])
  (.cond (.t 43)
    (.seq
    (.region [
      ⟨(some 8), .move (.c (.bool false)), none⟩])
    .ret)
    .skip))
  (.seq
  (.region [
    ⟨(some 45), .build [(.int .i64 0), .nil] [], none⟩,
    ⟨(some 46), .move (.t 2), none⟩,
    ⟨(some 47), .move (.t 3), none⟩,
    ⟨(some 48), .bin .and (.t 47) (.c (.int .i64 15)), none⟩,
    ⟨(some 49), .move (.t 3), none⟩,
    ⟨(some 50), .bin .shr (.t 49) (.c (.int .u64 4)), none⟩,
    ⟨(some 51), .bin .and (.t 50) (.c (.int .i64 3)), none⟩,
    ⟨(some 52), .bin .add (.c (.int .i64 1)) (.t 51), none⟩,
    ⟨(some 53), .call f_warehouselaw17_items [(.t 46), (.t 48), (.t 52)], none⟩,
    ⟨(some 54), .call f_warehouselaw17_added [(.t 45), (.t 53)], none⟩,
    ⟨(some 44), .move (.t 54), none⟩,
    ⟨(some 55), .extract (.t 44) 0, none⟩,
    ⟨(some 56), .extract (.t 44) 1, none⟩,
    ⟨(some 13), .alloc [(.int .i64 0), .nil], none⟩,
    ⟨none, .store 2 (.t 13) (.t 55), none⟩,
    ⟨(some 14), .move (.t 56), none⟩])
  (.seq
  (.seq
  (.region [
    ⟨(some 15), .move (.c (.int .i64 0)), none⟩])
  (.block 0
    (.loop
      (.seq
      (.seq
      (.region [
        ⟨(some 57), .move (.t 15), none⟩,
        ⟨(some 58), .bin .lss (.t 57) (.c (.int .i64 10)), none⟩])
      (.cond (.t 58)
        .skip
        (.exit 0)))
      (.seq
      (.block 1
        (.seq
        (.region [
          ⟨(some 62), .move (.t 15), none⟩,
          ⟨(some 63), .load true 2 (.t 13), none⟩,
          ⟨(some 64), .call f_aggregate_Result [(.t 62), (.t 63)], none⟩,
          ⟨(some 61), .move (.t 64), none⟩,
          ⟨(some 65), .extract (.t 61) 0, none⟩,
          ⟨(some 66), .extract (.t 61) 1, none⟩,
          ⟨(some 16), .alloc [(.int .i64 0), (.int .i64 0), (.str (bs []))], none⟩,
          ⟨none, .store 3 (.t 16) (.t 65), none⟩,
          ⟨(some 17), .move (.t 66), none⟩])
        (.seq
        (.region [
          ⟨(some 68), .move (.t 15), none⟩,
          ⟨(some 69), .load true 2 (.t 13), none⟩,
          ⟨(some 70), .call f_warehouseref17_Result [(.t 68), (.t 69)], none⟩,
          ⟨(some 67), .move (.t 70), none⟩,
          ⟨(some 71), .extract (.t 67) 0, none⟩,
          ⟨(some 72), .extract (.t 67) 1, none⟩,
          ⟨(some 18), .alloc [(.int .i64 0), (.int .i64 0), (.str (bs []))], none⟩,
          ⟨none, .store 3 (.t 18) (.t 71), none⟩,
          ⟨(some 19), .move (.t 72), none⟩])
        (.seq
        (.region [
          ⟨(some 73), .load true 3 (.t 16), none⟩,
          ⟨(some 74), .load true 3 (.t 18), none⟩,
          ⟨(some 75), .eqs true [1, 1, 2] (.t 73) (.t 74), none⟩,
          ⟨(some 76), .move (.t 75), none⟩,
          ⟨(some 77), .move (.t 17), some (some 76, false)⟩,
          ⟨(some 78), .move (.t 19), some (some 76, false)⟩,
          ⟨(some 79), .bin .neq (.t 77) (.t 78), some (some 76, false)⟩,
          ⟨(some 80), .pick (.t 76) (.c (.bool true)) (.t 79), none⟩])
        (.cond (.t 80)
          (.seq
          (.region [
            ⟨(some 8), .move (.c (.bool false)), none⟩])
          .ret)
          .skip)))))
      (.region [
        ⟨(some 59), .move (.t 15), none⟩,
        ⟨(some 60), .bin .add (.t 59) (.c (.int .i64 1)), none⟩,
        ⟨(some 15), .move (.t 60), none⟩]))))))
  (.seq
  (.region [
    ⟨(some 81), .move (.t 14), none⟩,
    ⟨(some 82), .move (.t 81), none⟩,
    ⟨(some 83), .call f_warehouselaw17_known [], some (some 82, true)⟩,
    ⟨(some 84), .pick (.t 82) (.t 83) (.c (.bool false)), none⟩,
    ⟨(some 8), .move (.t 84), none⟩])
  .ret))))))))⟩

structure F_warehouselaw17_AggregateResults (P : Program) where
  id : FuncId
  warehouselaw17_light : F_warehouselaw17_light P
  warehouselaw17_known : F_warehouselaw17_known P
  aggregate_Result : F_aggregate_Result P
  warehouseref17_Result : F_warehouseref17_Result P
  warehouselaw17_items : F_warehouselaw17_items P
  warehouselaw17_added : F_warehouselaw17_added P
  has : Has P id [] (c_warehouselaw17_AggregateResults warehouselaw17_light.id warehouselaw17_known.id aggregate_Result.id warehouseref17_Result.id warehouselaw17_items.id warehouselaw17_added.id)

def c_warehouselaw17_AggregateForgets (f_warehouselaw17_items : FuncId) (f_warehouselaw17_added : FuncId) (f_warehouseref17_Same : FuncId) (f_warehouselaw17_known : FuncId) : AFunc := ⟨94, [.tmp 6],
  (.seq
  (.region [
    ⟨(some 6), .move (.c (.bool false)), none⟩])
  (.seq
  (.region [
    ⟨(some 15), .move (.t 0), none⟩,
    ⟨(some 16), .move (.t 2), none⟩,
    ⟨(some 17), .bin .and (.t 16) (.c (.int .i64 7)), none⟩,
    ⟨(some 18), .move (.t 2), none⟩,
    ⟨(some 19), .bin .shr (.t 18) (.c (.int .u64 6)), none⟩,
    ⟨(some 20), .bin .and (.t 19) (.c (.int .i64 3)), none⟩,
    ⟨(some 21), .bin .add (.c (.int .i64 1)) (.t 20), none⟩,
    ⟨(some 22), .call f_warehouselaw17_items [(.t 15), (.t 17), (.t 21)], none⟩,
    ⟨(some 23), .move (.t 1), none⟩,
    ⟨(some 24), .move (.t 2), none⟩,
    ⟨(some 25), .bin .shr (.t 24) (.c (.int .u64 3)), none⟩,
    ⟨(some 26), .bin .and (.t 25) (.c (.int .i64 7)), none⟩,
    ⟨(some 27), .move (.t 2), none⟩,
    ⟨(some 28), .bin .shr (.t 27) (.c (.int .u64 6)), none⟩,
    ⟨(some 29), .bin .and (.t 28) (.c (.int .i64 3)), none⟩,
    ⟨(some 30), .bin .add (.c (.int .i64 1)) (.t 29), none⟩,
    ⟨(some 31), .call f_warehouselaw17_items [(.t 23), (.t 26), (.t 30)], none⟩,
    ⟨(some 7), .move (.t 22), none⟩,
    ⟨(some 8), .move (.t 31), none⟩])
  (.seq
  (.region [
    ⟨(some 33), .build [(.int .i64 0), .nil] [], none⟩,
    ⟨(some 34), .move (.t 7), none⟩,
    ⟨(some 35), .call f_warehouselaw17_added [(.t 33), (.t 34)], none⟩,
    ⟨(some 32), .move (.t 35), none⟩,
    ⟨(some 36), .extract (.t 32) 0, none⟩,
    ⟨(some 37), .extract (.t 32) 1, none⟩,
    ⟨(some 9), .alloc [(.int .i64 0), .nil], none⟩,
    ⟨none, .store 2 (.t 9) (.t 36), none⟩,
    ⟨(some 10), .move (.t 37), none⟩])
  (.seq
  (.region [
    ⟨(some 39), .load true 2 (.t 9), none⟩,
    ⟨(some 40), .move (.t 8), none⟩,
    ⟨(some 41), .call f_warehouselaw17_added [(.t 39), (.t 40)], none⟩,
    ⟨(some 38), .move (.t 41), none⟩,
    ⟨(some 42), .extract (.t 38) 0, none⟩,
    ⟨(some 43), .extract (.t 38) 1, none⟩,
    ⟨(some 11), .alloc [(.int .i64 0), .nil], none⟩,
    ⟨none, .store 2 (.t 11) (.t 42), none⟩,
    ⟨(some 12), .move (.t 43), none⟩])
  (.seq
  (.seq
  (.region [
    ⟨(some 44), .move (.t 8), none⟩,
    ⟨(some 45), .len (.t 44), none⟩,
    ⟨(some 46), .bin .sub (.t 45) (.c (.int .i64 1)), none⟩,
    ⟨(some 13), .move (.t 46), none⟩])
  (.block 0
    (.loop
      (.seq
      (.seq
      (.region [
        ⟨(some 47), .move (.t 13), none⟩,
        ⟨(some 48), .bin .geq (.t 47) (.c (.int .i64 0)), none⟩,
        ⟨(some 49), .move (.t 48), none⟩,
        ⟨(some 50), .move (.t 12), some (some 49, true)⟩,
        ⟨(some 51), .pick (.t 49) (.t 50) (.c (.bool false)), none⟩])
      (.cond (.t 51)
        .skip
        (.exit 0)))
      (.seq
      (.block 1
        (.seq
        (.region [
          ⟨(some 54), .move (.t 13), none⟩,
          ⟨(some 14), .move (.t 54), none⟩])
        (.seq
        (.seq
        (.region [
          ⟨(some 55), .move (.t 2), none⟩,
          ⟨(some 56), .bin .shr (.t 55) (.c (.int .u64 8)), none⟩,
          ⟨(some 57), .bin .and (.t 56) (.c (.int .i64 1)), none⟩,
          ⟨(some 58), .bin .eql (.t 57) (.c (.int .i64 1)), none⟩])
        (.cond (.t 58)
          (.region [
            ⟨(some 59), .move (.t 8), none⟩,
            ⟨(some 60), .len (.t 59), none⟩,
            ⟨(some 61), .bin .sub (.t 60) (.c (.int .i64 1)), none⟩,
            ⟨(some 62), .move (.t 13), none⟩,
            ⟨(some 63), .bin .sub (.t 61) (.t 62), none⟩,
            ⟨(some 14), .move (.t 63), none⟩])
          .skip))
        (.draw [
          (⟨(some 65), .load true 2 (.t 11), none⟩, []),
          (⟨(some 66), .move (.t 8), none⟩, []),
          (⟨(some 67), .move (.t 14), none⟩, []),
          (⟨(some 68), .indexAddr 4 (.t 66) (.t 67), none⟩, []),
          (⟨(some 69), .fieldAddr 0 (.t 68), none⟩, []),
          (⟨(some 70), .load true 3 (.t 69), none⟩, []),
          (⟨(some 71), .move (.t 8), none⟩, []),
          (⟨(some 72), .move (.t 14), none⟩, []),
          (⟨(some 73), .indexAddr 4 (.t 71) (.t 72), none⟩, []),
          (⟨(some 74), .fieldAddr 3 (.t 73), none⟩, []),
          (⟨(some 75), .load false 1 (.t 74), none⟩, []),
          (⟨(some 76), .un .neg (.t 75), none⟩, []),
          (⟨(some 77), .build [(.int .i64 0), (.int .i64 0), (.str (bs [])), (.int .i64 0)] [(0, 3, (.t 70)), (3, 1, (.t 76))], none⟩, []),
          (⟨(some 78), .buildSlice 4 1 [(.int .i64 0), (.int .i64 0), (.str (bs [])), (.int .i64 0)] [(0, (.t 77))], none⟩, []),
          (⟨(some 79), .call f_warehouselaw17_added [(.t 65), (.t 78)], none⟩, []),
          (⟨(some 64), .move (.t 79), none⟩, []),
          (⟨(some 80), .extract (.t 64) 0, none⟩, []),
          (⟨(some 81), .extract (.t 64) 1, none⟩, []),
          (⟨none, .store 2 (.t 11) (.t 80), none⟩, []),
          (⟨(some 12), .move (.t 81), none⟩, [])]))))
      (.region [
        ⟨(some 52), .move (.t 13), none⟩,
        ⟨(some 53), .bin .sub (.t 52) (.c (.int .i64 1)), none⟩,
        ⟨(some 13), .move (.t 53), none⟩]))))))
  (.seq
  (.region [
    ⟨(some 82), .move (.t 10), none⟩,
    ⟨(some 83), .move (.t 82), none⟩,
    ⟨(some 84), .move (.t 12), some (some 83, true)⟩,
    ⟨(some 85), .pick (.t 83) (.t 84) (.c (.bool false)), none⟩,
    ⟨(some 86), .move (.t 85), none⟩,
    ⟨(some 87), .load true 2 (.t 9), some (some 86, true)⟩,
    ⟨(some 88), .load true 2 (.t 11), some (some 86, true)⟩,
    ⟨(some 89), .call f_warehouseref17_Same [(.t 87), (.t 88)], some (some 86, true)⟩,
    ⟨(some 90), .pick (.t 86) (.t 89) (.c (.bool false)), none⟩,
    ⟨(some 91), .move (.t 90), none⟩,
    ⟨(some 92), .call f_warehouselaw17_known [], some (some 91, true)⟩,
    ⟨(some 93), .pick (.t 91) (.t 92) (.c (.bool false)), none⟩,
    ⟨(some 6), .move (.t 93), none⟩])
  .ret))))))⟩

structure F_warehouselaw17_AggregateForgets (P : Program) where
  id : FuncId
  warehouselaw17_items : F_warehouselaw17_items P
  warehouselaw17_added : F_warehouselaw17_added P
  warehouseref17_Same : F_warehouseref17_Same P
  warehouselaw17_known : F_warehouselaw17_known P
  has : Has P id [] (c_warehouselaw17_AggregateForgets warehouselaw17_items.id warehouselaw17_added.id warehouseref17_Same.id warehouselaw17_known.id)

def c_warehouselaw17_AggregateOrders (f_warehouselaw17_items : FuncId) (f_warehouselaw17_added : FuncId) (f_warehouseref17_Same : FuncId) (f_warehouselaw17_known : FuncId) : AFunc := ⟨76, [.tmp 8],
  (.seq
  (.region [
    ⟨(some 8), .move (.c (.bool false)), none⟩])
  (.seq
  (.region [
    ⟨(some 17), .move (.t 0), none⟩,
    ⟨(some 18), .move (.t 1), none⟩,
    ⟨(some 19), .bin .and (.t 18) (.c (.int .i64 7)), none⟩,
    ⟨(some 20), .bin .add (.c (.int .i64 2)) (.t 19), none⟩,
    ⟨(some 21), .move (.t 1), none⟩,
    ⟨(some 22), .bin .shr (.t 21) (.c (.int .u64 6)), none⟩,
    ⟨(some 23), .bin .and (.t 22) (.c (.int .i64 3)), none⟩,
    ⟨(some 24), .bin .add (.c (.int .i64 1)) (.t 23), none⟩,
    ⟨(some 25), .call f_warehouselaw17_items [(.t 17), (.t 20), (.t 24)], none⟩,
    ⟨(some 9), .move (.t 25), none⟩])
  (.seq
  (.region [
    ⟨(some 26), .move (.t 9), none⟩,
    ⟨(some 27), .append 4 40 [(.int .i64 0), (.int .i64 0), (.str (bs [])), (.int .i64 0)] (.c .nil) (.t 26), none⟩,
    ⟨(some 10), .move (.t 27), none⟩])
  (.seq
  (.draw [
    (⟨(some 28), .move (.t 2), none⟩, []),
    (⟨(some 29), .bin .and (.t 28) (.c (.int .i64 15)), none⟩, []),
    (⟨(some 30), .move (.t 10), none⟩, []),
    (⟨(some 31), .len (.t 30), none⟩, []),
    (⟨(some 32), .bin .rem (.t 29) (.t 31), none⟩, []),
    (⟨(some 33), .move (.t 3), none⟩, []),
    (⟨(some 34), .bin .and (.t 33) (.c (.int .i64 15)), none⟩, []),
    (⟨(some 35), .move (.t 10), none⟩, []),
    (⟨(some 36), .len (.t 35), none⟩, []),
    (⟨(some 37), .bin .rem (.t 34) (.t 36), none⟩, []),
    (⟨(some 11), .move (.t 32), none⟩, []),
    (⟨(some 12), .move (.t 37), none⟩, [])])
  (.seq
  (.seq
  (.draw [
    (⟨(some 38), .move (.t 10), none⟩, []),
    (⟨(some 39), .move (.t 11), none⟩, []),
    (⟨(some 40), .move (.t 10), none⟩, []),
    (⟨(some 41), .move (.t 12), none⟩, []),
    (⟨(some 42), .move (.t 10), none⟩, []),
    (⟨(some 43), .move (.t 12), none⟩, []),
    (⟨(some 44), .indexAddr 4 (.t 42) (.t 43), none⟩, []),
    (⟨(some 45), .load true 4 (.t 44), none⟩, []),
    (⟨(some 46), .move (.t 10), none⟩, []),
    (⟨(some 47), .move (.t 11), none⟩, []),
    (⟨(some 48), .indexAddr 4 (.t 46) (.t 47), none⟩, []),
    (⟨(some 49), .load true 4 (.t 48), none⟩, []),
    (⟨(some 50), .indexAddr 4 (.t 38) (.t 39), none⟩, []),
    (⟨none, .store 4 (.t 50) (.t 45), none⟩, []),
    (⟨(some 51), .indexAddr 4 (.t 40) (.t 41), none⟩, []),
    (⟨none, .store 4 (.t 51) (.t 49), none⟩, [])])
  .ghost)
  (.seq
  (.region [
    ⟨(some 53), .build [(.int .i64 0), .nil] [], none⟩,
    ⟨(some 54), .move (.t 9), none⟩,
    ⟨(some 55), .call f_warehouselaw17_added [(.t 53), (.t 54)], none⟩,
    ⟨(some 52), .move (.t 55), none⟩,
    ⟨(some 56), .extract (.t 52) 0, none⟩,
    ⟨(some 57), .extract (.t 52) 1, none⟩,
    ⟨(some 13), .alloc [(.int .i64 0), .nil], none⟩,
    ⟨none, .store 2 (.t 13) (.t 56), none⟩,
    ⟨(some 14), .move (.t 57), none⟩])
  (.seq
  (.region [
    ⟨(some 59), .build [(.int .i64 0), .nil] [], none⟩,
    ⟨(some 60), .move (.t 10), none⟩,
    ⟨(some 61), .call f_warehouselaw17_added [(.t 59), (.t 60)], none⟩,
    ⟨(some 58), .move (.t 61), none⟩,
    ⟨(some 62), .extract (.t 58) 0, none⟩,
    ⟨(some 63), .extract (.t 58) 1, none⟩,
    ⟨(some 15), .alloc [(.int .i64 0), .nil], none⟩,
    ⟨none, .store 2 (.t 15) (.t 62), none⟩,
    ⟨(some 16), .move (.t 63), none⟩])
  (.seq
  (.region [
    ⟨(some 64), .move (.t 14), none⟩,
    ⟨(some 65), .move (.t 64), none⟩,
    ⟨(some 66), .move (.t 16), some (some 65, true)⟩,
    ⟨(some 67), .pick (.t 65) (.t 66) (.c (.bool false)), none⟩,
    ⟨(some 68), .move (.t 67), none⟩,
    ⟨(some 69), .load true 2 (.t 13), some (some 68, true)⟩,
    ⟨(some 70), .load true 2 (.t 15), some (some 68, true)⟩,
    ⟨(some 71), .call f_warehouseref17_Same [(.t 69), (.t 70)], some (some 68, true)⟩,
    ⟨(some 72), .pick (.t 68) (.t 71) (.c (.bool false)), none⟩,
    ⟨(some 73), .move (.t 72), none⟩,
    ⟨(some 74), .call f_warehouselaw17_known [], some (some 73, true)⟩,
    ⟨(some 75), .pick (.t 73) (.t 74) (.c (.bool false)), none⟩,
    ⟨(some 8), .move (.t 75), none⟩])
  .ret))))))))⟩

structure F_warehouselaw17_AggregateOrders (P : Program) where
  id : FuncId
  warehouselaw17_items : F_warehouselaw17_items P
  warehouselaw17_added : F_warehouselaw17_added P
  warehouseref17_Same : F_warehouseref17_Same P
  warehouselaw17_known : F_warehouselaw17_known P
  has : Has P id [100051] (c_warehouselaw17_AggregateOrders warehouselaw17_items.id warehouselaw17_added.id warehouseref17_Same.id warehouselaw17_known.id)

def c_warehouseref6_Count (f_warehouseref1_SameRow : FuncId) : AFunc := ⟨24, [.tmp 4],
  (.seq
  (.region [
    ⟨(some 4), .move (.c (.int .i64 0)), none⟩])
  (.seq
  (.seq
  (.region [
    ⟨(some 5), .move (.c (.int .i64 0)), none⟩])
  (.block 0
    (.loop
      (.seq
      (.seq
      (.region [
        ⟨(some 6), .move (.t 5), none⟩,
        ⟨(some 7), .move (.t 0), none⟩,
        ⟨(some 8), .len (.t 7), none⟩,
        ⟨(some 9), .bin .lss (.t 6) (.t 8), none⟩])
      (.cond (.t 9)
        .skip
        (.exit 0)))
      (.seq
      (.block 1
        (.seq
        (.region [
          ⟨(some 12), .move (.t 0), none⟩,
          ⟨(some 13), .move (.t 5), none⟩,
          ⟨(some 14), .indexAddr 2 (.t 12) (.t 13), none⟩,
          ⟨(some 15), .fieldAddr 0 (.t 14), none⟩,
          ⟨(some 16), .load false 1 (.t 15), none⟩,
          ⟨(some 17), .move (.t 1), none⟩,
          ⟨(some 18), .call f_warehouseref1_SameRow [(.t 16), (.t 17)], none⟩])
        (.cond (.t 18)
          (.seq
          (.region [
            ⟨(some 19), .move (.t 0), none⟩,
            ⟨(some 20), .move (.t 5), none⟩,
            ⟨(some 21), .indexAddr 2 (.t 19) (.t 20), none⟩,
            ⟨(some 22), .fieldAddr 1 (.t 21), none⟩,
            ⟨(some 23), .load false 1 (.t 22), none⟩,
            ⟨(some 4), .move (.t 23), none⟩])
          .ret)
          .skip)))
      (.region [
        ⟨(some 10), .move (.t 5), none⟩,
        ⟨(some 11), .bin .add (.t 10) (.c (.int .i64 1)), none⟩,
        ⟨(some 5), .move (.t 11), none⟩]))))))
  (.seq
  (.region [
    ⟨(some 4), .move (.c (.int .i64 0)), none⟩])
  .ret)))⟩

structure F_warehouseref6_Count (P : Program) where
  id : FuncId
  warehouseref1_SameRow : F_warehouseref1_SameRow P
  has : Has P id [] (c_warehouseref6_Count warehouseref1_SameRow.id)

def c_warehouselaw17_AggregateBounds (f_warehouselaw17_items : FuncId) (f_warehouselaw17_added : FuncId) (f_aggregate_Result : FuncId) (f_warehouselaw17_known : FuncId) (f_warehouseref6_Count : FuncId) (f_warehouseref1_Compare : FuncId) : AFunc := ⟨183, [.tmp 4],
  (.seq
  (.region [
    ⟨(some 4), .move (.c (.bool false)), none⟩])
  (.seq
  (.region [
    ⟨(some 21), .move (.t 0), none⟩,
    ⟨(some 22), .move (.t 1), none⟩,
    ⟨(some 23), .bin .and (.t 22) (.c (.int .i64 15)), none⟩,
    ⟨(some 24), .call f_warehouselaw17_items [(.t 21), (.t 23), (.c (.int .i64 2))], none⟩,
    ⟨(some 5), .move (.t 24), none⟩])
  (.seq
  (.seq
  (.region [
    ⟨(some 6), .move (.c (.int .i64 0)), none⟩])
  (.block 0
    (.loop
      (.seq
      (.seq
      (.seq
      (.region [
        ⟨(some 25), .move (.t 6), none⟩,
        ⟨(some 26), .move (.t 5), none⟩,
        ⟨(some 27), .len (.t 26), none⟩,
        ⟨(some 28), .bin .lss (.t 25) (.t 27), none⟩])
      .ghost)
      (.cond (.t 28)
        .skip
        (.exit 0)))
      (.seq
      (.block 1
        (.region [
          ⟨(some 31), .move (.t 5), none⟩,
          ⟨(some 32), .move (.t 6), none⟩,
          ⟨(some 33), .move (.t 5), none⟩,
          ⟨(some 34), .move (.t 6), none⟩,
          ⟨(some 35), .indexAddr 4 (.t 33) (.t 34), none⟩,
          ⟨(some 36), .fieldAddr 3 (.t 35), none⟩,
          ⟨(some 37), .load false 1 (.t 36), none⟩,
          ⟨(some 38), .mx (.c (.int .i64 0)) (.t 37), none⟩,
          ⟨(some 39), .indexAddr 4 (.t 31) (.t 32), none⟩,
          ⟨(some 40), .fieldAddr 3 (.t 39), none⟩,
          ⟨none, .store 1 (.t 40) (.t 38), none⟩]))
      (.region [
        ⟨(some 29), .move (.t 6), none⟩,
        ⟨(some 30), .bin .add (.t 29) (.c (.int .i64 1)), none⟩,
        ⟨(some 6), .move (.t 30), none⟩]))))))
  (.seq
  (.region [
    ⟨(some 42), .build [(.int .i64 0), .nil] [], none⟩,
    ⟨(some 43), .move (.t 5), none⟩,
    ⟨(some 44), .call f_warehouselaw17_added [(.t 42), (.t 43)], none⟩,
    ⟨(some 41), .move (.t 44), none⟩,
    ⟨(some 45), .extract (.t 41) 0, none⟩,
    ⟨(some 46), .extract (.t 41) 1, none⟩,
    ⟨(some 7), .alloc [(.int .i64 0), .nil], none⟩,
    ⟨none, .store 2 (.t 7) (.t 45), none⟩,
    ⟨(some 8), .move (.t 46), none⟩])
  (.seq
  (.region [
    ⟨(some 48), .load true 2 (.t 7), none⟩,
    ⟨(some 49), .call f_aggregate_Result [(.c (.int .i64 4)), (.t 48)], none⟩,
    ⟨(some 47), .move (.t 49), none⟩,
    ⟨(some 50), .extract (.t 47) 0, none⟩,
    ⟨(some 51), .extract (.t 47) 1, none⟩,
    ⟨(some 9), .alloc [(.int .i64 0), (.int .i64 0), (.str (bs []))], none⟩,
    ⟨none, .store 3 (.t 9) (.t 50), none⟩,
    ⟨(some 10), .move (.t 51), none⟩])
  (.seq
  (.region [
    ⟨(some 53), .load true 2 (.t 7), none⟩,
    ⟨(some 54), .call f_aggregate_Result [(.c (.int .i64 5)), (.t 53)], none⟩,
    ⟨(some 52), .move (.t 54), none⟩,
    ⟨(some 55), .extract (.t 52) 0, none⟩,
    ⟨(some 56), .extract (.t 52) 1, none⟩,
    ⟨(some 11), .alloc [(.int .i64 0), (.int .i64 0), (.str (bs []))], none⟩,
    ⟨none, .store 3 (.t 11) (.t 55), none⟩,
    ⟨(some 12), .move (.t 56), none⟩])
  (.seq
  (.region [
    ⟨(some 58), .load true 2 (.t 7), none⟩,
    ⟨(some 59), .call f_aggregate_Result [(.c (.int .i64 7)), (.t 58)], none⟩,
    ⟨(some 57), .move (.t 59), none⟩,
    ⟨(some 60), .extract (.t 57) 0, none⟩,
    ⟨(some 61), .extract (.t 57) 1, none⟩,
    ⟨(some 13), .alloc [(.int .i64 0), (.int .i64 0), (.str (bs []))], none⟩,
    ⟨none, .store 3 (.t 13) (.t 60), none⟩,
    ⟨(some 14), .move (.t 61), none⟩])
  (.seq
  (.region [
    ⟨(some 63), .load true 2 (.t 7), none⟩,
    ⟨(some 64), .call f_aggregate_Result [(.c (.int .i64 2)), (.t 63)], none⟩,
    ⟨(some 62), .move (.t 64), none⟩,
    ⟨(some 65), .extract (.t 62) 0, none⟩,
    ⟨(some 66), .extract (.t 62) 1, none⟩,
    ⟨(some 15), .alloc [(.int .i64 0), (.int .i64 0), (.str (bs []))], none⟩,
    ⟨none, .store 3 (.t 15) (.t 65), none⟩,
    ⟨(some 16), .move (.t 66), none⟩])
  (.seq
  (.region [
    ⟨(some 68), .load true 2 (.t 7), none⟩,
    ⟨(some 69), .call f_aggregate_Result [(.c (.int .i64 6)), (.t 68)], none⟩,
    ⟨(some 67), .move (.t 69), none⟩,
    ⟨(some 70), .extract (.t 67) 0, none⟩,
    ⟨(some 71), .extract (.t 67) 1, none⟩,
    ⟨(some 17), .alloc [(.int .i64 0), (.int .i64 0), (.str (bs []))], none⟩,
    ⟨none, .store 3 (.t 17) (.t 70), none⟩,
    ⟨(some 18), .move (.t 71), none⟩])
  (.seq
  (.region [
    ⟨(some 73), .load true 2 (.t 7), none⟩,
    ⟨(some 74), .call f_aggregate_Result [(.c (.int .i64 1)), (.t 73)], none⟩,
    ⟨(some 72), .move (.t 74), none⟩,
    ⟨(some 75), .extract (.t 72) 0, none⟩,
    ⟨(some 76), .extract (.t 72) 1, none⟩,
    ⟨(some 19), .alloc [(.int .i64 0), (.int .i64 0), (.str (bs []))], none⟩,
    ⟨none, .store 3 (.t 19) (.t 75), none⟩,
    ⟨(some 20), .move (.t 76), none⟩])
  (.seq
  (.seq
  (.region [
    ⟨(some 77), .move (.t 8), none⟩,
    ⟨(some 78), .un .not (.t 77), none⟩,
    ⟨(some 79), .move (.t 78), none⟩,
    ⟨(some 80), .move (.t 10), some (some 79, false)⟩,
    ⟨(some 81), .bin .neq (.t 80) (.c (.int .i64 0)), some (some 79, false)⟩,
    ⟨(some 82), .pick (.t 79) (.c (.bool true)) (.t 81), none⟩,
    ⟨(some 83), .move (.t 82), none⟩,
    ⟨(some 84), .move (.t 12), some (some 83, false)⟩,
    ⟨(some 85), .bin .neq (.t 84) (.c (.int .i64 0)), some (some 83, false)⟩,
    ⟨(some 86), .pick (.t 83) (.c (.bool true)) (.t 85), none⟩,
    ⟨(some 87), .move (.t 86), none⟩,
    ⟨(some 88), .move (.t 14), some (some 87, false)⟩,
    ⟨(some 89), .bin .neq (.t 88) (.c (.int .i64 0)), some (some 87, false)⟩,
    ⟨(some 90), .pick (.t 87) (.c (.bool true)) (.t 89), none⟩,
    ⟨(some 91), .move (.t 90), none⟩,
    ⟨(some 92), .move (.t 16), some (some 91, false)⟩,
    ⟨(some 93), .bin .neq (.t 92) (.c (.int .i64 0)), some (some 91, false)⟩,
    ⟨(some 94), .pick (.t 91) (.c (.bool true)) (.t 93), none⟩,
    ⟨(some 95), .move (.t 94), none⟩,
    ⟨(some 96), .move (.t 18), some (some 95, false)⟩,
    ⟨(some 97), .bin .neq (.t 96) (.c (.int .i64 0)), some (some 95, false)⟩,
    ⟨(some 98), .pick (.t 95) (.c (.bool true)) (.t 97), none⟩,
    ⟨(some 99), .move (.t 98), none⟩,
    ⟨(some 100), .move (.t 20), some (some 99, false)⟩,
    ⟨(some 101), .bin .neq (.t 100) (.c (.int .i64 0)), some (some 99, false)⟩,
    ⟨(some 102), .pick (.t 99) (.c (.bool true)) (.t 101), none⟩])
  (.cond (.t 102)
    (.seq
    (.region [
      ⟨(some 4), .move (.c (.bool false)), none⟩])
    .ret)
    .skip))
  (.seq
  (.seq
  (.region [
    ⟨(some 103), .fieldAddr 1 (.t 17), none⟩,
    ⟨(some 104), .load false 1 (.t 103), none⟩,
    ⟨(some 105), .fieldAddr 1 (.t 15), none⟩,
    ⟨(some 106), .load false 1 (.t 105), none⟩,
    ⟨(some 107), .bin .gtr (.t 104) (.t 106), none⟩,
    ⟨(some 108), .move (.t 107), none⟩,
    ⟨(some 109), .fieldAddr 1 (.t 15), some (some 108, false)⟩,
    ⟨(some 110), .load false 1 (.t 109), some (some 108, false)⟩,
    ⟨(some 111), .fieldAddr 1 (.t 19), some (some 108, false)⟩,
    ⟨(some 112), .load false 1 (.t 111), some (some 108, false)⟩,
    ⟨(some 113), .bin .gtr (.t 110) (.t 112), some (some 108, false)⟩,
    ⟨(some 114), .pick (.t 108) (.c (.bool true)) (.t 113), none⟩,
    ⟨(some 115), .move (.t 114), none⟩,
    ⟨(some 116), .fieldAddr 0 (.t 9), some (some 115, false)⟩,
    ⟨(some 117), .load false 1 (.t 116), some (some 115, false)⟩,
    ⟨(some 118), .bin .eql (.t 117) (.c (.int .i64 0)), some (some 115, false)⟩,
    ⟨(some 119), .fieldAddr 1 (.t 15), some (some 115, false)⟩,
    ⟨(some 120), .load false 1 (.t 119), some (some 115, false)⟩,
    ⟨(some 121), .bin .eql (.t 120) (.c (.int .i64 0)), some (some 115, false)⟩,
    ⟨(some 122), .eqb true (.t 118) (.t 121), some (some 115, false)⟩,
    ⟨(some 123), .pick (.t 115) (.c (.bool true)) (.t 122), none⟩,
    ⟨(some 124), .move (.t 123), none⟩,
    ⟨(some 125), .fieldAddr 0 (.t 11), some (some 124, false)⟩,
    ⟨(some 126), .load false 1 (.t 125), some (some 124, false)⟩,
    ⟨(some 127), .bin .eql (.t 126) (.c (.int .i64 0)), some (some 124, false)⟩,
    ⟨(some 128), .fieldAddr 1 (.t 15), some (some 124, false)⟩,
    ⟨(some 129), .load false 1 (.t 128), some (some 124, false)⟩,
    ⟨(some 130), .bin .eql (.t 129) (.c (.int .i64 0)), some (some 124, false)⟩,
    ⟨(some 131), .eqb true (.t 127) (.t 130), some (some 124, false)⟩,
    ⟨(some 132), .pick (.t 124) (.c (.bool true)) (.t 131), none⟩,
    ⟨(some 133), .move (.t 132), none⟩,
    ⟨(some 134), .fieldAddr 0 (.t 13), some (some 133, false)⟩,
    ⟨(some 135), .load false 1 (.t 134), some (some 133, false)⟩,
    ⟨(some 136), .bin .eql (.t 135) (.c (.int .i64 0)), some (some 133, false)⟩,
    ⟨(some 137), .fieldAddr 1 (.t 15), some (some 133, false)⟩,
    ⟨(some 138), .load false 1 (.t 137), some (some 133, false)⟩,
    ⟨(some 139), .bin .eql (.t 138) (.c (.int .i64 0)), some (some 133, false)⟩,
    ⟨(some 140), .eqb true (.t 136) (.t 139), some (some 133, false)⟩,
    ⟨(some 141), .pick (.t 133) (.c (.bool true)) (.t 140), none⟩])
  (.cond (.t 141)
    (.seq
    (.region [
      ⟨(some 4), .move (.c (.bool false)), none⟩])
    .ret)
    .skip))
  (.seq
  (.seq
  (.region [
    ⟨(some 142), .fieldAddr 1 (.t 15), none⟩,
    ⟨(some 143), .load false 1 (.t 142), none⟩,
    ⟨(some 144), .bin .eql (.t 143) (.c (.int .i64 0)), none⟩])
  (.cond (.t 144)
    (.seq
    (.region [
      ⟨(some 145), .call f_warehouselaw17_known [], none⟩,
      ⟨(some 4), .move (.t 145), none⟩])
    .ret)
    .skip))
  (.seq
  (.region [
    ⟨(some 146), .fieldAddr 1 (.t 9), none⟩,
    ⟨(some 147), .load false 1 (.t 146), none⟩,
    ⟨(some 148), .fieldAddr 1 (.t 13), none⟩,
    ⟨(some 149), .load false 1 (.t 148), none⟩,
    ⟨(some 150), .bin .leq (.t 147) (.t 149), none⟩,
    ⟨(some 151), .move (.t 150), none⟩,
    ⟨(some 152), .fieldAddr 1 (.t 13), some (some 151, true)⟩,
    ⟨(some 153), .load false 1 (.t 152), some (some 151, true)⟩,
    ⟨(some 154), .fieldAddr 1 (.t 11), some (some 151, true)⟩,
    ⟨(some 155), .load false 1 (.t 154), some (some 151, true)⟩,
    ⟨(some 156), .bin .leq (.t 153) (.t 155), some (some 151, true)⟩,
    ⟨(some 157), .pick (.t 151) (.t 156) (.c (.bool false)), none⟩,
    ⟨(some 158), .move (.t 157), none⟩,
    ⟨(some 159), .fieldAddr 1 (.t 7), some (some 158, true)⟩,
    ⟨(some 160), .load false 1 (.t 159), some (some 158, true)⟩,
    ⟨(some 161), .load true 3 (.t 9), some (some 158, true)⟩,
    ⟨(some 162), .buildSlice 3 1 [(.int .i64 0), (.int .i64 0), (.str (bs []))] [(0, (.t 161))], some (some 158, true)⟩,
    ⟨(some 163), .call f_warehouseref6_Count [(.t 160), (.t 162)], some (some 158, true)⟩,
    ⟨(some 164), .bin .gtr (.t 163) (.c (.int .i64 0)), some (some 158, true)⟩,
    ⟨(some 165), .pick (.t 158) (.t 164) (.c (.bool false)), none⟩,
    ⟨(some 166), .move (.t 165), none⟩,
    ⟨(some 167), .fieldAddr 1 (.t 7), some (some 166, true)⟩,
    ⟨(some 168), .load false 1 (.t 167), some (some 166, true)⟩,
    ⟨(some 169), .load true 3 (.t 11), some (some 166, true)⟩,
    ⟨(some 170), .buildSlice 3 1 [(.int .i64 0), (.int .i64 0), (.str (bs []))] [(0, (.t 169))], some (some 166, true)⟩,
    ⟨(some 171), .call f_warehouseref6_Count [(.t 168), (.t 170)], some (some 166, true)⟩,
    ⟨(some 172), .bin .gtr (.t 171) (.c (.int .i64 0)), some (some 166, true)⟩,
    ⟨(some 173), .pick (.t 166) (.t 172) (.c (.bool false)), none⟩,
    ⟨(some 174), .move (.t 173), none⟩,
    ⟨(some 175), .load true 3 (.t 9), some (some 174, true)⟩,
    ⟨(some 176), .load true 3 (.t 11), some (some 174, true)⟩,
    ⟨(some 177), .call f_warehouseref1_Compare [(.t 175), (.t 176)], some (some 174, true)⟩,
    ⟨(some 178), .bin .leq (.t 177) (.c (.int .i64 0)), some (some 174, true)⟩,
    ⟨(some 179), .pick (.t 174) (.t 178) (.c (.bool false)), none⟩,
    ⟨(some 180), .move (.t 179), none⟩,
    ⟨(some 181), .call f_warehouselaw17_known [], some (some 180, true)⟩,
    ⟨(some 182), .pick (.t 180) (.t 181) (.c (.bool false)), none⟩,
    ⟨(some 4), .move (.t 182), none⟩])
  .ret))))))))))))))⟩

structure F_warehouselaw17_AggregateBounds (P : Program) where
  id : FuncId
  warehouselaw17_items : F_warehouselaw17_items P
  warehouselaw17_added : F_warehouselaw17_added P
  aggregate_Result : F_aggregate_Result P
  warehouselaw17_known : F_warehouselaw17_known P
  warehouseref6_Count : F_warehouseref6_Count P
  warehouseref1_Compare : F_warehouseref1_Compare P
  has : Has P id [100028] (c_warehouselaw17_AggregateBounds warehouselaw17_items.id warehouselaw17_added.id aggregate_Result.id warehouselaw17_known.id warehouseref6_Count.id warehouseref1_Compare.id)

def c_aggregate_Merge (f_aggregate_Validate : FuncId) (f_aggregate_merge : FuncId) : AFunc := ⟨25, [.cell true 2 4, .tmp 5],
  (.seq
  (.region [
    ⟨(some 2), .box (.t 0), none⟩,
    ⟨(some 3), .box (.t 1), none⟩,
    ⟨(some 4), .alloc [(.int .i64 0), .nil], none⟩,
    ⟨(some 5), .move (.c (.int .i64 0)), none⟩])
  (.seq
  (.seq
  (.region [
    ⟨(some 8), .load true 2 (.t 2), none⟩,
    ⟨(some 9), .call f_aggregate_Validate [(.t 8)], none⟩,
    ⟨(some 6), .move (.t 9), none⟩])
  (.seq
  (.region [
    ⟨(some 10), .move (.t 6), none⟩,
    ⟨(some 11), .bin .neq (.t 10) (.c (.int .i64 0)), none⟩])
  (.cond (.t 11)
    (.seq
    (.region [
      ⟨(some 12), .build [(.int .i64 0), .nil] [], none⟩,
      ⟨(some 13), .move (.t 6), none⟩,
      ⟨none, .store 2 (.t 4) (.t 12), none⟩,
      ⟨(some 5), .move (.t 13), none⟩])
    .ret)
    .skip)))
  (.seq
  (.seq
  (.region [
    ⟨(some 14), .load true 2 (.t 3), none⟩,
    ⟨(some 15), .call f_aggregate_Validate [(.t 14)], none⟩,
    ⟨(some 7), .move (.t 15), none⟩])
  (.seq
  (.region [
    ⟨(some 16), .move (.t 7), none⟩,
    ⟨(some 17), .bin .neq (.t 16) (.c (.int .i64 0)), none⟩])
  (.cond (.t 17)
    (.seq
    (.region [
      ⟨(some 18), .build [(.int .i64 0), .nil] [], none⟩,
      ⟨(some 19), .move (.t 7), none⟩,
      ⟨none, .store 2 (.t 4) (.t 18), none⟩,
      ⟨(some 5), .move (.t 19), none⟩])
    .ret)
    .skip)))
  (.seq
  (.region [
    ⟨(some 20), .load true 2 (.t 2), none⟩,
    ⟨(some 21), .load true 2 (.t 3), none⟩,
    ⟨(some 22), .call f_aggregate_merge [(.t 20), (.t 21)], none⟩,
    ⟨(some 23), .extract (.t 22) 0, none⟩,
    ⟨(some 24), .extract (.t 22) 1, none⟩,
    ⟨none, .store 2 (.t 4) (.t 23), none⟩,
    ⟨(some 5), .move (.t 24), none⟩])
  .ret))))⟩

structure F_aggregate_Merge (P : Program) where
  id : FuncId
  aggregate_Validate : F_aggregate_Validate P
  aggregate_merge : F_aggregate_merge P
  has : Has P id [] (c_aggregate_Merge aggregate_Validate.id aggregate_merge.id)

def c_warehouseref17_Merge (f_warehouseref17_Validate : FuncId) (f_warehouseref17_plus : FuncId) : AFunc := ⟨28, [.cell true 2 4, .tmp 5],
  (.seq
  (.region [
    ⟨(some 2), .box (.t 0), none⟩,
    ⟨(some 3), .box (.t 1), none⟩,
    ⟨(some 4), .alloc [(.int .i64 0), .nil], none⟩,
    ⟨(some 5), .move (.c (.int .i64 0)), none⟩])
  (.seq
  (.seq
  (.region [
    ⟨(some 8), .load true 2 (.t 2), none⟩,
    ⟨(some 9), .call f_warehouseref17_Validate [(.t 8)], none⟩,
    ⟨(some 6), .move (.t 9), none⟩])
  (.seq
  (.region [
    ⟨(some 10), .move (.t 6), none⟩,
    ⟨(some 11), .bin .neq (.t 10) (.c (.int .i64 0)), none⟩])
  (.cond (.t 11)
    (.seq
    (.region [
      ⟨(some 12), .build [(.int .i64 0), .nil] [], none⟩,
      ⟨(some 13), .move (.t 6), none⟩,
      ⟨none, .store 2 (.t 4) (.t 12), none⟩,
      ⟨(some 5), .move (.t 13), none⟩])
    .ret)
    .skip)))
  (.seq
  (.seq
  (.region [
    ⟨(some 14), .load true 2 (.t 3), none⟩,
    ⟨(some 15), .call f_warehouseref17_Validate [(.t 14)], none⟩,
    ⟨(some 7), .move (.t 15), none⟩])
  (.seq
  (.region [
    ⟨(some 16), .move (.t 7), none⟩,
    ⟨(some 17), .bin .neq (.t 16) (.c (.int .i64 0)), none⟩])
  (.cond (.t 17)
    (.seq
    (.region [
      ⟨(some 18), .build [(.int .i64 0), .nil] [], none⟩,
      ⟨(some 19), .move (.t 7), none⟩,
      ⟨none, .store 2 (.t 4) (.t 18), none⟩,
      ⟨(some 5), .move (.t 19), none⟩])
    .ret)
    .skip)))
  (.seq
  (.region [
    ⟨(some 20), .load true 2 (.t 2), none⟩,
    ⟨(some 21), .fieldAddr 0 (.t 3), none⟩,
    ⟨(some 22), .load false 1 (.t 21), none⟩,
    ⟨(some 23), .fieldAddr 1 (.t 3), none⟩,
    ⟨(some 24), .load false 1 (.t 23), none⟩,
    ⟨(some 25), .call f_warehouseref17_plus [(.t 20), (.t 22), (.t 24)], none⟩,
    ⟨(some 26), .extract (.t 25) 0, none⟩,
    ⟨(some 27), .extract (.t 25) 1, none⟩,
    ⟨none, .store 2 (.t 4) (.t 26), none⟩,
    ⟨(some 5), .move (.t 27), none⟩])
  .ret))))⟩

structure F_warehouseref17_Merge (P : Program) where
  id : FuncId
  warehouseref17_Validate : F_warehouseref17_Validate P
  warehouseref17_plus : F_warehouseref17_plus P
  has : Has P id [] (c_warehouseref17_Merge warehouseref17_Validate.id warehouseref17_plus.id)

def c_warehouselaw17_AggregateMerges (f_warehouselaw17_light : FuncId) (f_warehouselaw17_known : FuncId) (f_aggregate_Merge : FuncId) (f_warehouseref17_Merge : FuncId) (f_warehouselaw17_items : FuncId) (f_warehouselaw17_added : FuncId) (f_warehouseref17_Same : FuncId) : AFunc := ⟨133, [.tmp 10],
  (.seq
  (.region [
    ⟨(some 5), .box (.t 0), none⟩,
    ⟨(some 6), .box (.t 1), none⟩,
    ⟨(some 10), .move (.c (.bool false)), none⟩])
  (.seq
  (.seq
  (.region [
    ⟨(some 27), .load true 2 (.t 5), none⟩,
    ⟨(some 28), .call f_warehouselaw17_light [(.t 27)], none⟩,
    ⟨(some 29), .un .not (.t 28), none⟩,
    ⟨(some 30), .move (.t 29), none⟩,
    ⟨(some 31), .load true 2 (.t 6), some (some 30, false)⟩,
    ⟨(some 32), .call f_warehouselaw17_light [(.t 31)], some (some 30, false)⟩,
    ⟨(some 33), .un .not (.t 32), some (some 30, false)⟩,
    ⟨(some 34), .pick (.t 30) (.c (.bool true)) (.t 33), none⟩])
  (.cond (.t 34)
    (.seq
    (.region [
      ⟨(some 35), .call f_warehouselaw17_known [], none⟩,
      ⟨(some 10), .move (.t 35), none⟩])
    .ret)
    .skip))
  (.seq
  (.region [
    ⟨(some 37), .load true 2 (.t 5), none⟩,
    ⟨(some 38), .load true 2 (.t 6), none⟩,
    ⟨(some 39), .call f_aggregate_Merge [(.t 37), (.t 38)], none⟩,
    ⟨(some 36), .move (.t 39), none⟩,
    ⟨(some 40), .extract (.t 36) 0, none⟩,
    ⟨(some 41), .extract (.t 36) 1, none⟩,
    ⟨(some 11), .alloc [(.int .i64 0), .nil], none⟩,
    ⟨none, .store 2 (.t 11) (.t 40), none⟩,
    ⟨(some 12), .move (.t 41), none⟩])
  (.seq
  (.region [
    ⟨(some 43), .load true 2 (.t 5), none⟩,
    ⟨(some 44), .load true 2 (.t 6), none⟩,
    ⟨(some 45), .call f_warehouseref17_Merge [(.t 43), (.t 44)], none⟩,
    ⟨(some 42), .move (.t 45), none⟩,
    ⟨(some 46), .extract (.t 42) 0, none⟩,
    ⟨(some 47), .extract (.t 42) 1, none⟩,
    ⟨(some 13), .alloc [(.int .i64 0), .nil], none⟩,
    ⟨none, .store 2 (.t 13) (.t 46), none⟩,
    ⟨(some 14), .move (.t 47), none⟩])
  (.seq
  (.region [
    ⟨(some 48), .move (.t 2), none⟩,
    ⟨(some 49), .move (.t 4), none⟩,
    ⟨(some 50), .bin .and (.t 49) (.c (.int .i64 7)), none⟩,
    ⟨(some 51), .move (.t 4), none⟩,
    ⟨(some 52), .bin .shr (.t 51) (.c (.int .u64 6)), none⟩,
    ⟨(some 53), .bin .and (.t 52) (.c (.int .i64 3)), none⟩,
    ⟨(some 54), .bin .add (.c (.int .i64 1)) (.t 53), none⟩,
    ⟨(some 55), .call f_warehouselaw17_items [(.t 48), (.t 50), (.t 54)], none⟩,
    ⟨(some 56), .move (.t 3), none⟩,
    ⟨(some 57), .move (.t 4), none⟩,
    ⟨(some 58), .bin .shr (.t 57) (.c (.int .u64 3)), none⟩,
    ⟨(some 59), .bin .and (.t 58) (.c (.int .i64 7)), none⟩,
    ⟨(some 60), .move (.t 4), none⟩,
    ⟨(some 61), .bin .shr (.t 60) (.c (.int .u64 6)), none⟩,
    ⟨(some 62), .bin .and (.t 61) (.c (.int .i64 3)), none⟩,
    ⟨(some 63), .bin .add (.c (.int .i64 1)) (.t 62), none⟩,
    ⟨(some 64), .call f_warehouselaw17_items [(.t 56), (.t 59), (.t 63)], none⟩,
    ⟨(some 15), .move (.t 55), none⟩,
    ⟨(some 16), .move (.t 64), none⟩])
  (.seq
  (.region [
    ⟨(some 66), .build [(.int .i64 0), .nil] [], none⟩,
    ⟨(some 67), .move (.t 15), none⟩,
    ⟨(some 68), .call f_warehouselaw17_added [(.t 66), (.t 67)], none⟩,
    ⟨(some 65), .move (.t 68), none⟩,
    ⟨(some 69), .extract (.t 65) 0, none⟩,
    ⟨(some 70), .extract (.t 65) 1, none⟩,
    ⟨(some 17), .alloc [(.int .i64 0), .nil], none⟩,
    ⟨none, .store 2 (.t 17) (.t 69), none⟩,
    ⟨(some 18), .move (.t 70), none⟩])
  (.seq
  (.region [
    ⟨(some 72), .build [(.int .i64 0), .nil] [], none⟩,
    ⟨(some 73), .move (.t 16), none⟩,
    ⟨(some 74), .call f_warehouselaw17_added [(.t 72), (.t 73)], none⟩,
    ⟨(some 71), .move (.t 74), none⟩,
    ⟨(some 75), .extract (.t 71) 0, none⟩,
    ⟨(some 76), .extract (.t 71) 1, none⟩,
    ⟨(some 19), .alloc [(.int .i64 0), .nil], none⟩,
    ⟨none, .store 2 (.t 19) (.t 75), none⟩,
    ⟨(some 20), .move (.t 76), none⟩])
  (.seq
  (.region [
    ⟨(some 78), .load true 2 (.t 17), none⟩,
    ⟨(some 79), .move (.t 16), none⟩,
    ⟨(some 80), .call f_warehouselaw17_added [(.t 78), (.t 79)], none⟩,
    ⟨(some 77), .move (.t 80), none⟩,
    ⟨(some 81), .extract (.t 77) 0, none⟩,
    ⟨(some 82), .extract (.t 77) 1, none⟩,
    ⟨(some 21), .alloc [(.int .i64 0), .nil], none⟩,
    ⟨none, .store 2 (.t 21) (.t 81), none⟩,
    ⟨(some 22), .move (.t 82), none⟩])
  (.seq
  (.region [
    ⟨(some 84), .load true 2 (.t 17), none⟩,
    ⟨(some 85), .load true 2 (.t 19), none⟩,
    ⟨(some 86), .call f_aggregate_Merge [(.t 84), (.t 85)], none⟩,
    ⟨(some 83), .move (.t 86), none⟩,
    ⟨(some 87), .extract (.t 83) 0, none⟩,
    ⟨(some 88), .extract (.t 83) 1, none⟩,
    ⟨(some 23), .alloc [(.int .i64 0), .nil], none⟩,
    ⟨none, .store 2 (.t 23) (.t 87), none⟩,
    ⟨(some 24), .move (.t 88), none⟩])
  (.seq
  (.region [
    ⟨(some 90), .load true 2 (.t 19), none⟩,
    ⟨(some 91), .load true 2 (.t 17), none⟩,
    ⟨(some 92), .call f_aggregate_Merge [(.t 90), (.t 91)], none⟩,
    ⟨(some 89), .move (.t 92), none⟩,
    ⟨(some 93), .extract (.t 89) 0, none⟩,
    ⟨(some 94), .extract (.t 89) 1, none⟩,
    ⟨(some 25), .alloc [(.int .i64 0), .nil], none⟩,
    ⟨none, .store 2 (.t 25) (.t 93), none⟩,
    ⟨(some 26), .move (.t 94), none⟩])
  (.seq
  (.region [
    ⟨(some 95), .load true 2 (.t 11), none⟩,
    ⟨(some 96), .load true 2 (.t 13), none⟩,
    ⟨(some 97), .call f_warehouseref17_Same [(.t 95), (.t 96)], none⟩,
    ⟨(some 98), .move (.t 97), none⟩,
    ⟨(some 99), .move (.t 12), some (some 98, true)⟩,
    ⟨(some 100), .move (.t 14), some (some 98, true)⟩,
    ⟨(some 101), .bin .eql (.t 99) (.t 100), some (some 98, true)⟩,
    ⟨(some 102), .pick (.t 98) (.t 101) (.c (.bool false)), none⟩,
    ⟨(some 103), .move (.t 102), none⟩,
    ⟨(some 104), .move (.t 18), some (some 103, true)⟩,
    ⟨(some 105), .pick (.t 103) (.t 104) (.c (.bool false)), none⟩,
    ⟨(some 106), .move (.t 105), none⟩,
    ⟨(some 107), .move (.t 20), some (some 106, true)⟩,
    ⟨(some 108), .pick (.t 106) (.t 107) (.c (.bool false)), none⟩,
    ⟨(some 109), .move (.t 108), none⟩,
    ⟨(some 110), .move (.t 22), some (some 109, true)⟩,
    ⟨(some 111), .pick (.t 109) (.t 110) (.c (.bool false)), none⟩,
    ⟨(some 112), .move (.t 111), none⟩,
    ⟨(some 113), .move (.t 24), some (some 112, true)⟩,
    ⟨(some 114), .bin .eql (.t 113) (.c (.int .i64 0)), some (some 112, true)⟩,
    ⟨(some 115), .pick (.t 112) (.t 114) (.c (.bool false)), none⟩,
    ⟨(some 116), .move (.t 115), none⟩,
    ⟨(some 117), .move (.t 26), some (some 116, true)⟩,
    ⟨(some 118), .bin .eql (.t 117) (.c (.int .i64 0)), some (some 116, true)⟩,
    ⟨(some 119), .pick (.t 116) (.t 118) (.c (.bool false)), none⟩,
    ⟨(some 120), .move (.t 119), none⟩,
    ⟨(some 121), .load true 2 (.t 23), some (some 120, true)⟩,
    ⟨(some 122), .load true 2 (.t 21), some (some 120, true)⟩,
    ⟨(some 123), .call f_warehouseref17_Same [(.t 121), (.t 122)], some (some 120, true)⟩,
    ⟨(some 124), .pick (.t 120) (.t 123) (.c (.bool false)), none⟩,
    ⟨(some 125), .move (.t 124), none⟩,
    ⟨(some 126), .load true 2 (.t 23), some (some 125, true)⟩,
    ⟨(some 127), .load true 2 (.t 25), some (some 125, true)⟩,
    ⟨(some 128), .call f_warehouseref17_Same [(.t 126), (.t 127)], some (some 125, true)⟩,
    ⟨(some 129), .pick (.t 125) (.t 128) (.c (.bool false)), none⟩,
    ⟨(some 130), .move (.t 129), none⟩,
    ⟨(some 131), .call f_warehouselaw17_known [], some (some 130, true)⟩,
    ⟨(some 132), .pick (.t 130) (.t 131) (.c (.bool false)), none⟩,
    ⟨(some 10), .move (.t 132), none⟩])
  .ret)))))))))))⟩

structure F_warehouselaw17_AggregateMerges (P : Program) where
  id : FuncId
  warehouselaw17_light : F_warehouselaw17_light P
  warehouselaw17_known : F_warehouselaw17_known P
  aggregate_Merge : F_aggregate_Merge P
  warehouseref17_Merge : F_warehouseref17_Merge P
  warehouselaw17_items : F_warehouselaw17_items P
  warehouselaw17_added : F_warehouselaw17_added P
  warehouseref17_Same : F_warehouseref17_Same P
  has : Has P id [] (c_warehouselaw17_AggregateMerges warehouselaw17_light.id warehouselaw17_known.id aggregate_Merge.id warehouseref17_Merge.id warehouselaw17_items.id warehouselaw17_added.id warehouseref17_Same.id)

end Go.AW

