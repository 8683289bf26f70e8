/-
  An abstract machine over the model, the code of functions on it, and their contracts: what the claim needs.
  No condition: definitions, plain laws, contracts over any program that has this code.
-/
import Derived.Test.YtgipmadklcjcoaaZ4
set_option linter.all false
namespace Go.AW
def c_warehouseref6_Project (f_warehouseref6_Validate : FuncId) (f_warehouseref5_Pick : FuncId) (f_warehouseref6_Sum : FuncId) : AFunc := ⟨43, [.tmp 4, .tmp 5],
  (.seq
  (.region [
    ⟨(some 4), .move (.c .nil), none⟩,
    ⟨(some 5), .move (.c (.int .i64 0)), none⟩])
  (.seq
  (.seq
  (.region [
    ⟨(some 9), .move (.t 0), none⟩,
    ⟨(some 10), .call f_warehouseref6_Validate [(.t 9)], none⟩,
    ⟨(some 6), .move (.t 10), none⟩])
  (.seq
  (.region [
    ⟨(some 11), .move (.t 6), none⟩,
    ⟨(some 12), .bin .neq (.t 11) (.c (.int .i64 0)), none⟩])
  (.cond (.t 12)
    (.seq
    (.region [
      ⟨(some 13), .move (.t 6), none⟩,
      ⟨(some 4), .move (.c .nil), none⟩,
      ⟨(some 5), .move (.t 13), none⟩])
    .ret)
    .skip)))
  (.seq
  (.seq
  (.region [
    ⟨(some 14), .move (.t 1), none⟩,
    ⟨(some 15), .len (.t 14), none⟩,
    ⟨(some 16), .bin .gtr (.t 15) (.c (.int .i64 12)), none⟩])
  (.cond (.t 16)
    (.seq
    (.region [
      ⟨(some 4), .move (.c .nil), none⟩,
      ⟨(some 5), .move (.c (.int .i64 2)), none⟩])
    .ret)
    .skip))
  (.seq
  (.region [
    ⟨(some 7), .move (.c .nil), none⟩])
  (.seq
  (.seq
  (.region [
    ⟨(some 8), .move (.c (.int .i64 0)), none⟩])
  (.seq
  (.block 0
    (.loop
      (.seq
      (.seq
      (.region [
        ⟨(some 17), .move (.t 8), none⟩,
        ⟨(some 18), .move (.t 0), none⟩,
        ⟨(some 19), .len (.t 18), none⟩,
        ⟨(some 20), .bin .lss (.t 17) (.t 19), none⟩])
      (.cond (.t 20)
        .skip
        (.exit 0)))
      (.seq
      (.block 1
        (.draw [
          (⟨(some 23), .move (.t 7), none⟩, []),
          (⟨(some 24), .move (.t 0), none⟩, []),
          (⟨(some 25), .move (.t 8), none⟩, []),
          (⟨(some 26), .indexAddr 2 (.t 24) (.t 25), none⟩, []),
          (⟨(some 27), .fieldAddr 0 (.t 26), none⟩, []),
          (⟨(some 28), .load false 1 (.t 27), none⟩, []),
          (⟨(some 29), .move (.t 1), none⟩, []),
          (⟨(some 30), .call f_warehouseref5_Pick [(.t 28), (.t 29)], none⟩, []),
          (⟨(some 31), .move (.t 0), none⟩, []),
          (⟨(some 32), .move (.t 8), none⟩, []),
          (⟨(some 33), .indexAddr 2 (.t 31) (.t 32), none⟩, []),
          (⟨(some 34), .fieldAddr 1 (.t 33), none⟩, []),
          (⟨(some 35), .load false 1 (.t 34), none⟩, []),
          (⟨(some 36), .build [.nil, (.int .i64 0)] [(0, 1, (.t 30)), (1, 1, (.t 35))], none⟩, []),
          (⟨(some 37), .buildSlice 2 1 [.nil, (.int .i64 0)] [(0, (.t 36))], none⟩, []),
          (⟨(some 38), .append 2 32 [.nil, (.int .i64 0)] (.t 23) (.t 37), none⟩, []),
          (⟨(some 7), .move (.t 38), none⟩, [])]))
      (.region [
        ⟨(some 21), .move (.t 8), none⟩,
        ⟨(some 22), .bin .add (.t 21) (.c (.int .i64 1)), none⟩,
        ⟨(some 8), .move (.t 22), none⟩])))))
  .ghost))
  (.seq
  (.region [
    ⟨(some 39), .move (.t 7), none⟩,
    ⟨(some 40), .call f_warehouseref6_Sum [(.t 39)], none⟩,
    ⟨(some 41), .extract (.t 40) 0, none⟩,
    ⟨(some 42), .extract (.t 40) 1, none⟩,
    ⟨(some 4), .move (.t 41), none⟩,
    ⟨(some 5), .move (.t 42), none⟩])
  .ret))))))⟩

structure F_warehouseref6_Project (P : Program) where
  id : FuncId
  warehouseref6_Validate : F_warehouseref6_Validate P
  warehouseref5_Pick : F_warehouseref5_Pick P
  warehouseref6_Sum : F_warehouseref6_Sum P
  has : Has P id [200000] (c_warehouseref6_Project warehouseref6_Validate.id warehouseref5_Pick.id warehouseref6_Sum.id)

def c_bag_Select (f_bag_Validate : FuncId) (f_schema_Pick : FuncId) (f_value_CompareRows : FuncId) (f_bag_put : FuncId) : AFunc := ⟨41, [.tmp 6, .tmp 7],
  (.seq
  (.region [
    ⟨(some 6), .move (.c .nil), none⟩,
    ⟨(some 7), .move (.c (.int .i64 0)), none⟩])
  (.seq
  (.seq
  (.region [
    ⟨(some 12), .move (.t 0), none⟩,
    ⟨(some 13), .call f_bag_Validate [(.t 12)], none⟩,
    ⟨(some 8), .move (.t 13), none⟩])
  (.seq
  (.region [
    ⟨(some 14), .move (.t 8), none⟩,
    ⟨(some 15), .bin .neq (.t 14) (.c (.int .i64 0)), none⟩])
  (.cond (.t 15)
    (.seq
    (.region [
      ⟨(some 16), .move (.t 8), none⟩,
      ⟨(some 6), .move (.c .nil), none⟩,
      ⟨(some 7), .move (.t 16), none⟩])
    .ret)
    .skip)))
  (.seq
  (.region [
    ⟨(some 9), .move (.c .nil), none⟩])
  (.seq
  (.seq
  (.region [
    ⟨(some 17), .move (.t 0), none⟩,
    ⟨(some 18), .len (.t 17), none⟩,
    ⟨(some 19), .move (.c (.int .i64 0)), none⟩])
  (.block 0
    (.loop
      (.seq
      (.region [
        ⟨(some 20), .bin .lss (.t 19) (.t 18), none⟩])
      (.seq
      (.cond (.t 20)
        .skip
        (.exit 0))
      (.seq
      (.block 1
        (.seq
        (.region [
          ⟨(some 21), .indexAddr 2 (.t 17) (.t 19), none⟩,
          ⟨(some 22), .load true 2 (.t 21), none⟩,
          ⟨(some 11), .alloc [.nil, (.int .i64 0)], none⟩,
          ⟨none, .store 2 (.t 11) (.t 22), none⟩])
        (.seq
        (.region [
          ⟨(some 23), .fieldAddr 0 (.t 11), none⟩,
          ⟨(some 24), .load false 1 (.t 23), none⟩,
          ⟨(some 25), .move (.t 1), none⟩,
          ⟨(some 26), .call f_schema_Pick [(.t 24), (.t 25)], none⟩,
          ⟨(some 27), .move (.t 2), none⟩,
          ⟨(some 28), .call f_value_CompareRows [(.t 26), (.t 27)], none⟩,
          ⟨(some 29), .bin .eql (.t 28) (.c (.int .i64 0)), none⟩])
        (.cond (.t 29)
          (.region [
            ⟨(some 31), .move (.t 9), none⟩,
            ⟨(some 32), .fieldAddr 0 (.t 11), none⟩,
            ⟨(some 33), .load false 1 (.t 32), none⟩,
            ⟨(some 34), .fieldAddr 1 (.t 11), none⟩,
            ⟨(some 35), .load false 1 (.t 34), none⟩,
            ⟨(some 36), .call f_bag_put [(.t 31), (.t 33), (.t 35)], none⟩,
            ⟨(some 30), .move (.t 36), none⟩,
            ⟨(some 37), .extract (.t 30) 0, none⟩,
            ⟨(some 38), .extract (.t 30) 1, none⟩,
            ⟨(some 9), .move (.t 37), none⟩])
          .skip))))
      (.region [
        ⟨(some 39), .bin .add (.t 19) (.c (.int .i64 1)), none⟩,
        ⟨(some 19), .move (.t 39), none⟩])))))))
  (.seq
  (.region [
    ⟨(some 40), .move (.t 9), none⟩,
    ⟨(some 6), .move (.t 40), none⟩,
    ⟨(some 7), .move (.c (.int .i64 0)), none⟩])
  .ret)))))⟩

structure F_bag_Select (P : Program) where
  id : FuncId
  bag_Validate : F_bag_Validate P
  schema_Pick : F_schema_Pick P
  value_CompareRows : F_value_CompareRows P
  bag_put : F_bag_put P
  has : Has P id [] (c_bag_Select bag_Validate.id schema_Pick.id value_CompareRows.id bag_put.id)

def c_warehouseref6_Select (f_warehouseref6_Validate : FuncId) (f_warehouseref5_Pick : FuncId) (f_warehouseref1_SameRow : FuncId) (f_warehouseref6_result : FuncId) : AFunc := ⟨42, [.tmp 6, .tmp 7],
  (.seq
  (.region [
    ⟨(some 6), .move (.c .nil), none⟩,
    ⟨(some 7), .move (.c (.int .i64 0)), none⟩])
  (.seq
  (.seq
  (.region [
    ⟨(some 11), .move (.t 0), none⟩,
    ⟨(some 12), .call f_warehouseref6_Validate [(.t 11)], none⟩,
    ⟨(some 8), .move (.t 12), none⟩])
  (.seq
  (.region [
    ⟨(some 13), .move (.t 8), none⟩,
    ⟨(some 14), .bin .neq (.t 13) (.c (.int .i64 0)), none⟩])
  (.cond (.t 14)
    (.seq
    (.region [
      ⟨(some 15), .move (.t 8), none⟩,
      ⟨(some 6), .move (.c .nil), none⟩,
      ⟨(some 7), .move (.t 15), none⟩])
    .ret)
    .skip)))
  (.seq
  (.region [
    ⟨(some 9), .move (.c .nil), none⟩])
  (.seq
  (.seq
  (.region [
    ⟨(some 10), .move (.c (.int .i64 0)), none⟩])
  (.seq
  (.block 0
    (.loop
      (.seq
      (.seq
      (.region [
        ⟨(some 16), .move (.t 10), none⟩,
        ⟨(some 17), .move (.t 0), none⟩,
        ⟨(some 18), .len (.t 17), none⟩,
        ⟨(some 19), .bin .lss (.t 16) (.t 18), none⟩])
      (.cond (.t 19)
        .skip
        (.exit 0)))
      (.seq
      (.block 1
        (.seq
        (.region [
          ⟨(some 22), .move (.t 0), none⟩,
          ⟨(some 23), .move (.t 10), none⟩,
          ⟨(some 24), .indexAddr 2 (.t 22) (.t 23), none⟩,
          ⟨(some 25), .fieldAddr 0 (.t 24), none⟩,
          ⟨(some 26), .load false 1 (.t 25), none⟩,
          ⟨(some 27), .move (.t 1), none⟩,
          ⟨(some 28), .call f_warehouseref5_Pick [(.t 26), (.t 27)], none⟩,
          ⟨(some 29), .move (.t 2), none⟩,
          ⟨(some 30), .call f_warehouseref1_SameRow [(.t 28), (.t 29)], none⟩])
        (.cond (.t 30)
          (.region [
            ⟨(some 31), .move (.t 9), none⟩,
            ⟨(some 32), .move (.t 0), none⟩,
            ⟨(some 33), .move (.t 10), none⟩,
            ⟨(some 34), .indexAddr 2 (.t 32) (.t 33), none⟩,
            ⟨(some 35), .load true 2 (.t 34), none⟩,
            ⟨(some 36), .buildSlice 2 1 [.nil, (.int .i64 0)] [(0, (.t 35))], none⟩,
            ⟨(some 37), .append 2 32 [.nil, (.int .i64 0)] (.t 31) (.t 36), none⟩,
            ⟨(some 9), .move (.t 37), none⟩])
          .skip)))
      (.region [
        ⟨(some 20), .move (.t 10), none⟩,
        ⟨(some 21), .bin .add (.t 20) (.c (.int .i64 1)), none⟩,
        ⟨(some 10), .move (.t 21), none⟩])))))
  .ghost))
  (.seq
  (.region [
    ⟨(some 38), .move (.t 9), none⟩,
    ⟨(some 39), .call f_warehouseref6_result [(.t 38)], none⟩,
    ⟨(some 40), .extract (.t 39) 0, none⟩,
    ⟨(some 41), .extract (.t 39) 1, none⟩,
    ⟨(some 6), .move (.t 40), none⟩,
    ⟨(some 7), .move (.t 41), none⟩])
  .ret)))))⟩

structure F_warehouseref6_Select (P : Program) where
  id : FuncId
  warehouseref6_Validate : F_warehouseref6_Validate P
  warehouseref5_Pick : F_warehouseref5_Pick P
  warehouseref1_SameRow : F_warehouseref1_SameRow P
  warehouseref6_result : F_warehouseref6_result P
  has : Has P id [200000] (c_warehouseref6_Select warehouseref6_Validate.id warehouseref5_Pick.id warehouseref1_SameRow.id warehouseref6_result.id)

def c_warehouselaw6_BagProjects (f_warehouselaw6_light : FuncId) (f_warehouselaw6_known : FuncId) (f_bag_Project : FuncId) (f_warehouseref6_Project : FuncId) (f_bag_Select : FuncId) (f_warehouseref6_Select : FuncId) (f_warehouseref6_Same : FuncId) (f_warehousebase_Bag : FuncId) (f_warehousebase_Any : FuncId) (f_bag_Add : FuncId) : AFunc := ⟨199, [.tmp 12],
  (.seq
  (.region [
    ⟨(some 12), .move (.c (.bool false)), none⟩])
  (.seq
  (.seq
  (.region [
    ⟨(some 41), .move (.t 0), none⟩,
    ⟨(some 42), .call f_warehouselaw6_light [(.t 41)], none⟩,
    ⟨(some 43), .un .not (.t 42), none⟩,
    ⟨(some 44), .move (.t 43), none⟩,
    ⟨(some 45), .move (.t 1), some (some 44, false)⟩,
    ⟨(some 46), .len (.t 45), some (some 44, false)⟩,
    ⟨(some 47), .bin .gtr (.t 46) (.c (.int .i64 50)), some (some 44, false)⟩,
    ⟨(some 48), .pick (.t 44) (.c (.bool true)) (.t 47), none⟩,
    ⟨(some 49), .move (.t 48), none⟩,
    ⟨(some 50), .move (.t 2), some (some 49, false)⟩,
    ⟨(some 51), .len (.t 50), some (some 49, false)⟩,
    ⟨(some 52), .bin .gtr (.t 51) (.c (.int .i64 50)), some (some 49, false)⟩,
    ⟨(some 53), .pick (.t 49) (.c (.bool true)) (.t 52), none⟩])
  (.cond (.t 53)
    (.seq
    (.region [
      ⟨(some 54), .call f_warehouselaw6_known [], none⟩,
      ⟨(some 12), .move (.t 54), none⟩])
    .ret)
    .skip))
  (.seq
  (.region [
    ⟨(some 56), .move (.t 0), none⟩,
    ⟨(some 57), .move (.t 1), none⟩,
    ⟨(some 58), .call f_bag_Project [(.t 56), (.t 57)], none⟩,
    ⟨(some 55), .move (.t 58), none⟩,
    ⟨(some 59), .extract (.t 55) 0, none⟩,
    ⟨(some 60), .extract (.t 55) 1, none⟩,
    ⟨(some 13), .move (.t 59), none⟩,
    ⟨(some 14), .move (.t 60), none⟩])
  (.seq
  (.region [
    ⟨(some 62), .move (.t 0), none⟩,
    ⟨(some 63), .move (.t 1), none⟩,
    ⟨(some 64), .call f_warehouseref6_Project [(.t 62), (.t 63)], none⟩,
    ⟨(some 61), .move (.t 64), none⟩,
    ⟨(some 65), .extract (.t 61) 0, none⟩,
    ⟨(some 66), .extract (.t 61) 1, none⟩,
    ⟨(some 15), .move (.t 65), none⟩,
    ⟨(some 16), .move (.t 66), none⟩])
  (.seq
  (.region [
    ⟨(some 68), .move (.t 0), none⟩,
    ⟨(some 69), .move (.t 1), none⟩,
    ⟨(some 70), .move (.t 2), none⟩,
    ⟨(some 71), .call f_bag_Select [(.t 68), (.t 69), (.t 70)], none⟩,
    ⟨(some 67), .move (.t 71), none⟩,
    ⟨(some 72), .extract (.t 67) 0, none⟩,
    ⟨(some 73), .extract (.t 67) 1, none⟩,
    ⟨(some 17), .move (.t 72), none⟩,
    ⟨(some 18), .move (.t 73), none⟩])
  (.seq
  (.region [
    ⟨(some 75), .move (.t 0), none⟩,
    ⟨(some 76), .move (.t 1), none⟩,
    ⟨(some 77), .move (.t 2), none⟩,
    ⟨(some 78), .call f_warehouseref6_Select [(.t 75), (.t 76), (.t 77)], none⟩,
    ⟨(some 74), .move (.t 78), none⟩,
    ⟨(some 79), .extract (.t 74) 0, none⟩,
    ⟨(some 80), .extract (.t 74) 1, none⟩,
    ⟨(some 19), .move (.t 79), none⟩,
    ⟨(some 20), .move (.t 80), none⟩])
  (.seq
  (.seq
  (.region [
    ⟨(some 81), .move (.t 13), none⟩,
    ⟨(some 82), .move (.t 15), none⟩,
    ⟨(some 83), .call f_warehouseref6_Same [(.t 81), (.t 82)], none⟩,
    ⟨(some 84), .un .not (.t 83), none⟩,
    ⟨(some 85), .move (.t 84), none⟩,
    ⟨(some 86), .move (.t 14), some (some 85, false)⟩,
    ⟨(some 87), .move (.t 16), some (some 85, false)⟩,
    ⟨(some 88), .bin .neq (.t 86) (.t 87), some (some 85, false)⟩,
    ⟨(some 89), .pick (.t 85) (.c (.bool true)) (.t 88), none⟩,
    ⟨(some 90), .move (.t 89), none⟩,
    ⟨(some 91), .move (.t 17), some (some 90, false)⟩,
    ⟨(some 92), .move (.t 19), some (some 90, false)⟩,
    ⟨(some 93), .call f_warehouseref6_Same [(.t 91), (.t 92)], some (some 90, false)⟩,
    ⟨(some 94), .un .not (.t 93), some (some 90, false)⟩,
    ⟨(some 95), .pick (.t 90) (.c (.bool true)) (.t 94), none⟩,
    ⟨(some 96), .move (.t 95), none⟩,
    ⟨(some 97), .move (.t 18), some (some 96, false)⟩,
    ⟨(some 98), .move (.t 20), some (some 96, false)⟩,
    ⟨(some 99), .bin .neq (.t 97) (.t 98), some (some 96, false)⟩,
    ⟨(some 100), .pick (.t 96) (.c (.bool true)) (.t 99), none⟩])
  (.cond (.t 100)
    (.seq
    (.region [
      ⟨(some 12), .move (.c (.bool false)), none⟩])
    .ret)
    .skip))
  (.seq
  (.region [
    ⟨(some 101), .move (.t 3), none⟩,
    ⟨(some 102), .move (.t 5), none⟩,
    ⟨(some 103), .bin .and (.t 102) (.c (.int .i64 7)), none⟩,
    ⟨(some 104), .call f_warehousebase_Bag [(.t 101), (.t 103)], none⟩,
    ⟨(some 105), .move (.t 4), none⟩,
    ⟨(some 106), .move (.t 5), none⟩,
    ⟨(some 107), .bin .shr (.t 106) (.c (.int .u64 3)), none⟩,
    ⟨(some 108), .bin .and (.t 107) (.c (.int .i64 7)), none⟩,
    ⟨(some 109), .call f_warehousebase_Bag [(.t 105), (.t 108)], none⟩,
    ⟨(some 21), .move (.t 104), none⟩,
    ⟨(some 22), .move (.t 109), none⟩])
  (.seq
  (.region [
    ⟨(some 110), .move (.t 5), none⟩,
    ⟨(some 111), .bin .shr (.t 110) (.c (.int .u64 6)), none⟩,
    ⟨(some 112), .bin .and (.t 111) (.c (.int .i64 1)), none⟩,
    ⟨(some 113), .buildSlice 1 1 [(.int .i64 0)] [(0, (.t 112))], none⟩,
    ⟨(some 23), .move (.t 113), none⟩])
  (.seq
  (.region [
    ⟨(some 114), .move (.t 5), none⟩,
    ⟨(some 115), .bin .shr (.t 114) (.c (.int .u64 7)), none⟩,
    ⟨(some 116), .bin .and (.t 115) (.c (.int .i64 15)), none⟩,
    ⟨(some 117), .call f_warehousebase_Any [(.t 116)], none⟩,
    ⟨(some 118), .buildSlice 3 1 [(.int .i64 0), (.int .i64 0), (.str (bs []))] [(0, (.t 117))], none⟩,
    ⟨(some 24), .move (.t 118), none⟩])
  (.seq
  (.region [
    ⟨(some 120), .move (.t 21), none⟩,
    ⟨(some 121), .move (.t 22), none⟩,
    ⟨(some 122), .call f_bag_Add [(.t 120), (.t 121)], none⟩,
    ⟨(some 119), .move (.t 122), none⟩,
    ⟨(some 123), .extract (.t 119) 0, none⟩,
    ⟨(some 124), .extract (.t 119) 1, none⟩,
    ⟨(some 25), .move (.t 123), none⟩,
    ⟨(some 26), .move (.t 124), none⟩])
  (.seq
  (.region [
    ⟨(some 126), .move (.t 25), none⟩,
    ⟨(some 127), .move (.t 23), none⟩,
    ⟨(some 128), .call f_bag_Project [(.t 126), (.t 127)], none⟩,
    ⟨(some 125), .move (.t 128), none⟩,
    ⟨(some 129), .extract (.t 125) 0, none⟩,
    ⟨(some 130), .extract (.t 125) 1, none⟩,
    ⟨(some 27), .move (.t 129), none⟩,
    ⟨(some 28), .move (.t 130), none⟩])
  (.seq
  (.region [
    ⟨(some 132), .move (.t 21), none⟩,
    ⟨(some 133), .move (.t 23), none⟩,
    ⟨(some 134), .call f_bag_Project [(.t 132), (.t 133)], none⟩,
    ⟨(some 131), .move (.t 134), none⟩,
    ⟨(some 135), .extract (.t 131) 0, none⟩,
    ⟨(some 136), .extract (.t 131) 1, none⟩,
    ⟨(some 29), .move (.t 135), none⟩,
    ⟨(some 30), .move (.t 136), none⟩])
  (.seq
  (.region [
    ⟨(some 138), .move (.t 22), none⟩,
    ⟨(some 139), .move (.t 23), none⟩,
    ⟨(some 140), .call f_bag_Project [(.t 138), (.t 139)], none⟩,
    ⟨(some 137), .move (.t 140), none⟩,
    ⟨(some 141), .extract (.t 137) 0, none⟩,
    ⟨(some 142), .extract (.t 137) 1, none⟩,
    ⟨(some 31), .move (.t 141), none⟩,
    ⟨(some 32), .move (.t 142), none⟩])
  (.seq
  (.region [
    ⟨(some 144), .move (.t 29), none⟩,
    ⟨(some 145), .move (.t 31), none⟩,
    ⟨(some 146), .call f_bag_Add [(.t 144), (.t 145)], none⟩,
    ⟨(some 143), .move (.t 146), none⟩,
    ⟨(some 147), .extract (.t 143) 0, none⟩,
    ⟨(some 148), .extract (.t 143) 1, none⟩,
    ⟨(some 29), .move (.t 147), none⟩])
  (.seq
  (.region [
    ⟨(some 150), .move (.t 25), none⟩,
    ⟨(some 151), .move (.t 23), none⟩,
    ⟨(some 152), .move (.t 24), none⟩,
    ⟨(some 153), .call f_bag_Select [(.t 150), (.t 151), (.t 152)], none⟩,
    ⟨(some 149), .move (.t 153), none⟩,
    ⟨(some 154), .extract (.t 149) 0, none⟩,
    ⟨(some 155), .extract (.t 149) 1, none⟩,
    ⟨(some 33), .move (.t 154), none⟩,
    ⟨(some 34), .move (.t 155), none⟩])
  (.seq
  (.region [
    ⟨(some 157), .move (.t 21), none⟩,
    ⟨(some 158), .move (.t 23), none⟩,
    ⟨(some 159), .move (.t 24), none⟩,
    ⟨(some 160), .call f_bag_Select [(.t 157), (.t 158), (.t 159)], none⟩,
    ⟨(some 156), .move (.t 160), none⟩,
    ⟨(some 161), .extract (.t 156) 0, none⟩,
    ⟨(some 162), .extract (.t 156) 1, none⟩,
    ⟨(some 35), .move (.t 161), none⟩,
    ⟨(some 36), .move (.t 162), none⟩])
  (.seq
  (.region [
    ⟨(some 164), .move (.t 22), none⟩,
    ⟨(some 165), .move (.t 23), none⟩,
    ⟨(some 166), .move (.t 24), none⟩,
    ⟨(some 167), .call f_bag_Select [(.t 164), (.t 165), (.t 166)], none⟩,
    ⟨(some 163), .move (.t 167), none⟩,
    ⟨(some 168), .extract (.t 163) 0, none⟩,
    ⟨(some 169), .extract (.t 163) 1, none⟩,
    ⟨(some 37), .move (.t 168), none⟩,
    ⟨(some 38), .move (.t 169), none⟩])
  (.seq
  (.region [
    ⟨(some 171), .move (.t 35), none⟩,
    ⟨(some 172), .move (.t 37), none⟩,
    ⟨(some 173), .call f_bag_Add [(.t 171), (.t 172)], none⟩,
    ⟨(some 170), .move (.t 173), none⟩,
    ⟨(some 174), .extract (.t 170) 0, none⟩,
    ⟨(some 175), .extract (.t 170) 1, none⟩,
    ⟨(some 35), .move (.t 174), none⟩])
  (.seq
  (.region [
    ⟨(some 177), .move (.t 25), none⟩,
    ⟨(some 178), .move (.t 23), none⟩,
    ⟨(some 179), .move (.t 24), none⟩,
    ⟨(some 180), .call f_warehouseref6_Select [(.t 177), (.t 178), (.t 179)], none⟩,
    ⟨(some 176), .move (.t 180), none⟩,
    ⟨(some 181), .extract (.t 176) 0, none⟩,
    ⟨(some 182), .extract (.t 176) 1, none⟩,
    ⟨(some 39), .move (.t 181), none⟩,
    ⟨(some 40), .move (.t 182), none⟩])
  (.seq
  (.region [
    ⟨(some 183), .move (.t 27), none⟩,
    ⟨(some 184), .move (.t 29), none⟩,
    ⟨(some 185), .call f_warehouseref6_Same [(.t 183), (.t 184)], none⟩,
    ⟨(some 186), .move (.t 185), none⟩,
    ⟨(some 187), .move (.t 33), some (some 186, true)⟩,
    ⟨(some 188), .move (.t 35), some (some 186, true)⟩,
    ⟨(some 189), .call f_warehouseref6_Same [(.t 187), (.t 188)], some (some 186, true)⟩,
    ⟨(some 190), .pick (.t 186) (.t 189) (.c (.bool false)), none⟩,
    ⟨(some 191), .move (.t 190), none⟩,
    ⟨(some 192), .move (.t 33), some (some 191, true)⟩,
    ⟨(some 193), .move (.t 39), some (some 191, true)⟩,
    ⟨(some 194), .call f_warehouseref6_Same [(.t 192), (.t 193)], some (some 191, true)⟩,
    ⟨(some 195), .pick (.t 191) (.t 194) (.c (.bool false)), none⟩,
    ⟨(some 196), .move (.t 195), none⟩,
    ⟨(some 197), .call f_warehouselaw6_known [], some (some 196, true)⟩,
    ⟨(some 198), .pick (.t 196) (.t 197) (.c (.bool false)), none⟩,
    ⟨(some 12), .move (.t 198), none⟩])
  .ret)))))))))))))))))))))⟩

structure F_warehouselaw6_BagProjects (P : Program) where
  id : FuncId
  warehouselaw6_light : F_warehouselaw6_light P
  warehouselaw6_known : F_warehouselaw6_known P
  bag_Project : F_bag_Project P
  warehouseref6_Project : F_warehouseref6_Project P
  bag_Select : F_bag_Select P
  warehouseref6_Select : F_warehouseref6_Select P
  warehouseref6_Same : F_warehouseref6_Same P
  warehousebase_Bag : F_warehousebase_Bag P
  warehousebase_Any : F_warehousebase_Any P
  bag_Add : F_bag_Add P
  has : Has P id [] (c_warehouselaw6_BagProjects warehouselaw6_light.id warehouselaw6_known.id bag_Project.id warehouseref6_Project.id bag_Select.id warehouseref6_Select.id warehouseref6_Same.id warehousebase_Bag.id warehousebase_Any.id bag_Add.id)

end Go.AW

namespace Go.AW
open Go.RowKit
inductive Sh where
  | bool
  | int (k : IntKind)
  | str
  | slice (fs : List Sh)

def shapeFields (P : Program) (sh : TypeId → Option (List Sh)) : List Field → Nat → Option (List Sh)
  | [], _ => some []
  | f :: r, off => if f.offset = off then match sh f.type, shapeFields P sh r (off + P.cellsOf f.type) with
      | some a, some b => if a.length = P.cellsOf f.type then some (a ++ b) else none
      | _, _ => none
    else none

def shapeOf (P : Program) : Nat → TypeId → Option (List Sh)
  | 0, _ => none
  | n + 1, t => match P.underlying t with
    | some .bool => some [.bool]
    | some (.int k) => some [.int k]
    | some .string => some [.str]
    | some (.slice e) => match shapeOf P n e with
      | some l => if l.length = P.cellsOf e ∧ P.cellsOf e ≠ 0 then some [.slice l] else none
      | none => none
    | some (.struct fs) => match shapeFields P (shapeOf P n) fs.toList 0 with
      | some l => if l.length = P.cellsOf t then some l else none
      | none => none
    | _ => none

inductive ShOk : Sh → AVal → Prop where
  | bool (b : Bool) : ShOk .bool (.bool b)
  | int (k : IntKind) (n : Int) (h : (Lit.int k n).wf = true) : ShOk (.int k) (.int k n)
  | str (s : ByteArray) (h : s.size ≤ maxLen) : ShOk .str (.str s)
  | list (fs : List Sh) (es : List (List AVal)) (hb : es.length ≤ maxLen) (hl : ∀ e ∈ es, e.length = fs.length)
      (h : ∀ (e : List AVal) (i : Nat) (f : Sh) (d : AVal), e ∈ es → fs[i]? = some f → e[i]? = some d → ShOk f d) : ShOk (.slice fs) (.list false fs.length es)

def allC (w : World) (b : Nat) : Nat :=
  match w.heap[b]? with
  | some (.cells cells _ _) => cells.size
  | _ => 0

theorem allC_cell {w : World} {b i : Nat} {v : Value} (h : w.cell? ⟨b, i, none⟩ = some v) : i < allC w b := by
  unfold World.cell? at h
  unfold allC
  simp only [] at h
  split at h
  · rename_i hh
    rw [hh]
    simp only []
    exact (Array.getElem?_eq_some_iff.1 h).1
  · cases h

theorem ShOk.isCell {s : Sh} {a : AVal} (h : ShOk s a) : a.isCell = true := by cases h <;> rfl

section
variable {H : Type} {enc : TypeId × Value → H} {P : Program} {w : World} {spare : Nat → Bool} {held : Bool}
theorem cells?_get {a : Addr} {n : Nat} {cs : List Value} (h : w.cells? 0 a n = some cs) : cs.length = n ∧ ∀ i, i < n → w.cell? (a.add i) = cs[i]? := by
  unfold World.cells? at h
  rw [if_pos (Nat.zero_le _)] at h
  exact ⟨by simpa using Go.mapM_some_length h, fun i hi => Go.mapM_some_get h i i (by simp [hi])⟩

def RdAll (w : World) (shs : List Sh) (cs : List Value) : Prop :=
  ∃ asv : List AVal, asv.length = cs.length ∧ shs.length = cs.length ∧ (∀ (i : Nat) (s : Sh) (a : AVal), shs[i]? = some s → asv[i]? = some a → ShOk s a) ∧
    ∀ (i : Nat) (a : AVal) (c : Value), asv[i]? = some a → cs[i]? = some c → Rd (allC w) w a c

theorem RdAll.one {s : Sh} {a : AVal} {c : Value} (h : ShOk s a) (hr : Rd (allC w) w a c) : RdAll w [s] [c] := by
  refine ⟨[a], rfl, rfl, fun i s' a' h1 h2 => ?_, fun i a' c' h1 h2 => ?_⟩
  · cases i with
    | zero => simp at h1 h2; subst h1 h2; exact h
    | succ i => simp at h1
  · cases i with
    | zero => simp at h1 h2; subst h1 h2; exact hr
    | succ i => simp at h1

theorem RdAll.append {s1 s2 : List Sh} {c1 c2 : List Value} (h1 : RdAll w s1 c1) (h2 : RdAll w s2 c2) : RdAll w (s1 ++ s2) (c1 ++ c2) := by
  obtain ⟨a1, l1, m1, o1, r1⟩ := h1
  obtain ⟨a2, l2, m2, o2, r2⟩ := h2
  refine ⟨a1 ++ a2, by simp [l1, l2], by simp [m1, m2], fun i s a hs ha => ?_, fun i a c ha hc => ?_⟩
  · by_cases hi : i < c1.length
    · rw [List.getElem?_append_left (by omega)] at hs ha
      exact o1 i s a hs ha
    · rw [List.getElem?_append_right (by omega)] at hs ha
      rw [m1] at hs; rw [l1] at ha
      exact o2 _ s a hs ha
  · by_cases hi : i < c1.length
    · rw [List.getElem?_append_left (by omega)] at ha hc
      exact r1 i a c ha hc
    · rw [List.getElem?_append_right (by omega)] at ha hc
      rw [l1] at ha
      exact r2 _ a c ha hc

theorem RdAll.nil : RdAll w [] [] := ⟨[], rfl, rfl, fun i s a h => by simp at h, fun i a c h => by simp at h⟩

theorem open_fields {sh : TypeId → Option (List Sh)} (tr : Field → List Value → Prop) (htr : ∀ (f : Field) (cs : List Value) (l : List Sh), tr f cs → sh f.type = some l → RdAll w l cs) (cs : List Value) :
    ∀ (fs : List Field) (off : Nat) (l : List Sh), shapeFields P sh fs off = some l → (∀ f ∈ fs, tr f ((cs.drop f.offset).take (P.cellsOf f.type))) → off + l.length = cs.length → RdAll w l (cs.drop off)
  | [], off, l, h, _, hl => by
    simp only [shapeFields, Option.some.injEq] at h; subst h
    have : cs.drop off = [] := List.drop_eq_nil_of_le (by simp at hl; omega)
    rw [this]; exact .nil
  | f :: r, off, l, h, ht, hl => by
    simp only [shapeFields] at h
    split at h
    case isFalse => cases h
    rename_i ho
    split at h
    case h_2 => cases h
    rename_i a b h1 h2
    split at h
    case isFalse => cases h
    rename_i hlen
    cases h
    have hf := htr f _ _ (ht f (by simp)) h1
    have hr := open_fields tr htr cs r _ _ h2 (fun g hg => ht g (by simp [hg])) (by simp at hl; omega)
    rw [ho] at hf
    have := hf.append hr
    rwa [← List.drop_drop, List.take_append_drop] at this

theorem open_shape : ∀ (n : Nat) (fuel : Nat) (t : TypeId) (cs : List Value) (x : DataW H × List MemPlace) (l : List Sh), shapeOf P n t = some l → DataW.trod enc P w 0 spare held fuel t cs = some x → RdAll w l cs
  | 0, _, _, _, _, _, h, _ => by simp [shapeOf] at h
  | n + 1, fuel, t, cs, x, l, h, ht => by
    unfold shapeOf at h
    split at h
    · rename_i hu
      cases h
      cases fuel with
      | zero => simp [DataW.trod] at ht
      | succ m =>
        unfold DataW.trod at ht
        rw [hu] at ht
        split at ht <;> simp_all
        exact .one (.bool _) (.bool _)
    · rename_i k hu
      cases h
      cases fuel with
      | zero => simp [DataW.trod] at ht
      | succ m =>
        unfold DataW.trod at ht
        rw [hu] at ht
        split at ht <;> simp_all
        obtain ⟨⟨rfl, hw⟩, _⟩ := ht
        exact .one (.int _ _ hw) (.int _ _)
    · rename_i hu
      cases h
      cases fuel with
      | zero => simp [DataW.trod] at ht
      | succ m =>
        unfold DataW.trod at ht
        rw [hu] at ht
        split at ht <;> simp_all
        exact .one (.str _ ht.1) (.str _)
    · rename_i e hu
      split at h
      case h_2 => cases h
      rename_i fs hfs
      split at h
      case isFalse => cases h
      rename_i hlen'
      cases h
      have hlen := hlen'.1
      rcases DataW.trod_slice hu ht with ⟨rfl, _⟩ | ⟨a, len, cap, elems, rest, m, rfl, rfl, _, _, hl, hm, hel, hcell, _, _⟩
      · have hes : ShOk (.slice fs) (.list false fs.length []) := .list fs [] (Nat.zero_le _) (by simp) (by simp)
        exact .one hes (.list0 _ _ _ _ (by simp))
      · obtain ⟨b, off, spot⟩ := a
        have each : ∀ i, i < len → ∃ cells, w.cells? 0 ((Addr.mk b off spot).add (i * P.cellsOf e)) (P.cellsOf e) = some cells ∧ RdAll w fs cells := by
          intro i hi
          have h1 := hcell i hi
          rw [List.getElem?_eq_getElem (by omega), Option.bind_eq_some_iff] at h1
          obtain ⟨cells, h2, h3⟩ := h1
          exact ⟨cells, h2, open_shape n m e cells _ fs hfs h3⟩
        by_cases h0 : len = 0
        · subst h0
          have hes : ShOk (.slice fs) (.list false fs.length []) := .list fs [] (Nat.zero_le _) (by simp) (by simp)
          exact .one hes (.list0 _ _ _ _ (by simp))
        · by_cases hz : P.cellsOf e = 0
          · exact absurd hz hlen'.2
          · have hspot : spot = none := by
              obtain ⟨cells, h1, _⟩ := each 0 (by omega)
              obtain ⟨h2, h3⟩ := cells?_get h1
              have h4 := h3 0 (by omega)
              rw [List.getElem?_eq_getElem (by omega)] at h4
              have := World.cell?_spot h4
              simpa [Addr.add] using this
            subst hspot
            
            have hch : ∃ F : Nat → List AVal, ∀ i, i < len → (F i).length = fs.length ∧ (∀ (j : Nat) (s : Sh) (a : AVal), fs[j]? = some s → (F i)[j]? = some a → ShOk s a) ∧
                ∃ cells : List Value, cells.length = fs.length ∧ (∀ j, j < fs.length → w.cell? ⟨b, off + i * fs.length + j, none⟩ = cells[j]?) ∧ ∀ (j : Nat) (a : AVal) (c : Value), (F i)[j]? = some a → cells[j]? = some c → Rd (allC w) w a c := by
              refine ⟨fun i => if hi : i < len then Classical.choose (each i hi).choose_spec.2 else [], fun i hi => ?_⟩
              obtain ⟨h1, h2, h3, h4⟩ := Classical.choose_spec (each i hi).choose_spec.2
              have hc := (each i hi).choose_spec.1
              obtain ⟨h5, h6⟩ := cells?_get hc
              simp only [dif_pos hi]
              refine ⟨by omega, h3, (each i hi).choose, by omega, fun j hj => ?_, h4⟩
              rw [← h6 j (by omega)]
              rw [WideShapes.add_plain, WideShapes.add_plain, hlen]
            obtain ⟨F, hF⟩ := hch
            have hget : ∀ (i : Nat) (e' : List AVal), ((List.range len).map F)[i]? = some e' → i < len ∧ e' = F i := by
              intro i e' he
              by_cases hi : i < len
              · simp [hi] at he; exact ⟨hi, he.symm⟩
              · simp [hi] at he
            refine .one (a := .list false fs.length ((List.range len).map F)) (.list _ _ (by simp; omega) (fun e' he' => ?_) fun e' i f d he' hf hd => ?_) ?_
            · obtain ⟨i, hi, rfl⟩ := List.mem_map.1 he'
              exact (hF i (by simpa using hi)).1
            · obtain ⟨i', hi', rfl⟩ := List.mem_map.1 he'
              exact (hF i' (by simpa using hi')).2.1 i f d hf hd
            · have hcellv : ∀ i j, i < len → j < fs.length → ∃ v, w.cell? ⟨b, off + i * fs.length + j, none⟩ = some v := by
                intro i j hi hj
                obtain ⟨_, _, cells, h1, h2, _⟩ := hF i hi
                exact ⟨cells[j], by rw [h2 j hj, List.getElem?_eq_getElem (by omega)]⟩
              have := Rd.list (C := allC w) (w := w) false fs.length ((List.range len).map F) b off cap (fun i j => (w.cell? ⟨b, off + i * fs.length + j, none⟩).getD .nilIface) (by simp) (by simpa using hl)
                (fun e' he' => by obtain ⟨i, hi, rfl⟩ := List.mem_map.1 he'; exact (hF i (by simpa using hi)).1) ?_ ?_ ?_ ?_
              · simpa using this
              · obtain ⟨v, hv⟩ := hcellv (len - 1) (fs.length - 1) (by omega) (by omega)
                have h1 := allC_cell hv
                simp only [List.length_map, List.length_range]
                have h2 : len * fs.length = (len - 1) * fs.length + fs.length := by
                  rw [← Nat.succ_mul]; congr 1; omega
                omega
              · intro i j hi hj
                obtain ⟨v, hv⟩ := hcellv i j (by simpa using hi) hj
                rw [hv]; rfl
              · intro i j e' d he hd
                obtain ⟨hi, rfl⟩ := hget i e' he
                have hj : j < fs.length := by rw [← (hF i hi).1]; exact (List.getElem?_eq_some_iff.1 hd).1
                exact ((hF i hi).2.1 j _ d (List.getElem?_eq_getElem hj) hd).isCell
              · intro i j e' d he hd
                obtain ⟨hi, rfl⟩ := hget i e' he
                have hj : j < fs.length := by rw [← (hF i hi).1]; exact (List.getElem?_eq_some_iff.1 hd).1
                obtain ⟨_, _, cells, h1, h2, h3⟩ := hF i hi
                refine h3 j d _ hd ?_
                rw [← h2 j hj]
                obtain ⟨v, hv⟩ := hcellv i j hi hj
                rw [hv]; rfl
    · rename_i fs hu
      split at h
      case h_2 => cases h
      rename_i l' hl'
      split at h
      case isFalse => cases h
      rename_i hll
      cases h
      obtain ⟨xs, m, rfl, _, hlen, hxs, hf⟩ := DataW.trod_struct hu ht
      have := open_fields (P := P) (w := w) (sh := shapeOf P n) (fun f cs => ∃ y, DataW.trod enc P w 0 spare held m f.type cs = some y) (fun f cs l' ⟨y, hy⟩ hl => open_shape n m f.type cs y l' hl hy) cs fs.toList 0 _ hl' ?_ ?_
      · simpa using this
      · intro f hfm
        obtain ⟨i, hi, he⟩ := List.getElem_of_mem hfm
        have h1 := hf i f (by rw [← he]; simp)
        exact ⟨xs[i]'(by simp at hi; omega), by rw [h1]; exact List.getElem?_eq_getElem _⟩
      · omega
    · cases h

end
end Go.AW

namespace Go.AW
open Go.RowKit Go.ChangeShapes
def paramSh (P : Program) (n : Nat) (t : TypeId) : Option (Bool × List Sh) :=
  match P.underlying t with
  | some (.struct _) => (shapeOf P n t).map fun l => (true, l)
  | some (.array _ _) => none
  | _ => match shapeOf P n t with
    | some [s] => some (false, [s])
    | _ => none

def ArgOk : Bool × List Sh → AVal → Prop
  | (true, l), a => ∃ asv, a = .agg asv ∧ asv.length = l.length ∧ ∀ (i : Nat) (s : Sh) (c : AVal), l[i]? = some s → asv[i]? = some c → ShOk s c
  | (false, l), a => ∃ s, l = [s] ∧ ShOk s a

def ArgsOk : List (Bool × List Sh) → List AVal → Prop
  | [], [] => True
  | p :: ps, a :: asv => ArgOk p a ∧ ArgsOk ps asv
  | _, _ => False

def paramShs (P : Program) (n : Nat) : List TypeId → Option (List (Bool × List Sh))
  | [] => some []
  | t :: ts => match paramSh P n t, paramShs P n ts with
    | some p, some ps => some (p :: ps)
    | _, _ => none

section
variable {H : Type} {enc : TypeId × Value → H} {P : Program} {w : World} {τ : Nat → Option Loc}
theorem open_arg {n : Nat} {t : TypeId} {v : Value} {d : DataW H} {ps : List MemPlace} {p : Bool × List Sh} {base : Nat} (hp : paramSh P n t = some p) (hv : Value.okWide P w .any base t v)
    (h : DataW.Trod enc P w 0 (fun _ => true) true t v d ps) : ∃ a, ArgOk p a ∧ Rel (allC w) w τ [] a v := by
  obtain ⟨fuel, hf⟩ := h
  unfold paramSh at hp
  split at hp
  · rename_i fs hu
    simp only [Option.map_eq_some_iff] at hp
    obtain ⟨l, hl, rfl⟩ := hp
    obtain ⟨asv, h1, h2, h3, h4⟩ := open_shape n fuel t _ _ l hl hf
    unfold Value.okWide at hv
    rw [hu] at hv
    obtain ⟨cs, rfl, _⟩ := hv
    simp only [Value.cells] at h1 h2 h4
    exact ⟨.agg asv, ⟨asv, rfl, by omega, h3⟩, .agg asv cs (by simpa using h1) fun i c v hc hv => .rd (h4 i c v hc (by simpa using hv))⟩
  · cases hp
  · rename_i hns hna
    split at hp
    case h_2 => cases hp
    rename_i s hl
    cases hp
    obtain ⟨asv, h1, h2, h3, h4⟩ := open_shape n fuel t _ _ _ hl hf
    have hvc : v.cells.toList = [v] := by
      have : ∀ cs, v ≠ .agg cs := by
        rintro cs rfl
        unfold Value.okWide at hv
        split at hv
        · rename_i fs hu; exact hns fs hu
        · rename_i k e hu; exact hna k e hu
        · unfold Cell.okWide at hv
          split at hv <;> simp_all [Cell.ok]
      cases v <;> first | rfl | exact absurd rfl (this _)
    rw [hvc] at h1 h2 h4
    obtain ⟨a, rfl⟩ := List.length_eq_one_iff.1 h1
    exact ⟨a, ⟨s, rfl, h3 0 s a rfl rfl⟩, .rd (h4 0 a v rfl rfl)⟩

theorem open_args {n : Nat} {base : Nat} : ∀ (ts : List TypeId) (vs : List Value) (ds : List (DataW H)) (ps : List MemPlace) (shs : List (Bool × List Sh)), paramShs P n ts = some shs →
    (∀ (j : Nat) (t : TypeId) (v : Value), ts[j]? = some t → vs[j]? = some v → Value.okWide P w .any base t v) →
    DataW.TrodAll enc P w 0 (fun _ => true) true ts vs ds ps → ∃ asv, ArgsOk shs asv ∧ asv.length = vs.length ∧ ∀ (i : Nat) (a : AVal) (v : Value), asv[i]? = some a → vs[i]? = some v → Rel (allC w) w τ [] a v
  | [], vs, ds, ps, shs, hs, hv, h => by
    obtain ⟨rfl, rfl, rfl⟩ := trodAll_nil h
    simp only [paramShs, Option.some.injEq] at hs; subst hs
    exact ⟨[], trivial, rfl, fun i a v h => by simp at h⟩
  | t :: ts, vs, ds, ps, shs, hs, hv, h => by
    obtain ⟨v, vs', d, ds', p, q, rfl, rfl, rfl, h1, h2⟩ := trodAll_cons h
    simp only [paramShs] at hs
    split at hs
    case h_2 => cases hs
    rename_i sh shs' e1 e2
    cases hs
    obtain ⟨a, ha, hr⟩ := open_arg (τ := τ) e1 (hv 0 t v rfl rfl) h1
    obtain ⟨asv, has, hl, hrs⟩ := open_args ts vs' ds' q shs' e2 (fun j t' v' ht hv' => hv (j + 1) t' v' (by simpa using ht) (by simpa using hv')) h2
    refine ⟨a :: asv, ⟨ha, has⟩, by simp [hl], fun i a' v' h1 h2 => ?_⟩
    cases i with
    | zero => simp at h1 h2; subst h1 h2; exact hr
    | succ i => exact hrs i a' v' (by simpa using h1) (by simpa using h2)

theorem trodAll_below (hl : laidOutB P = true) {W W' : World} (hb : Below W.heap.size W W') : ∀ (ts : List TypeId) (vs : List Value) (ds : List (DataW H)) (ps : List MemPlace),
    (∀ t ∈ ts, P.readableRec t = true ∧ t < P.types.size) → DataW.TrodAll enc P W 0 (fun _ => true) true ts vs ds ps →
    DataW.TrodAll enc P W' 0 (fun b => decide (b < W.heap.size)) true ts vs ds ps
  | [], vs, ds, ps, _, h => by obtain ⟨rfl, rfl, rfl⟩ := trodAll_nil h; exact trodAll_mk0
  | t :: ts, vs, ds, ps, hr, h => by
    obtain ⟨v, vs', d, ds', p, q, rfl, rfl, rfl, h1, h2⟩ := trodAll_cons h
    have hlt : ∀ x ∈ p, x.block < W.heap.size := by obtain ⟨m, hm⟩ := h1; exact DataW.trod_lt m _ _ _ hm
    exact trodAll_cons_mk (Below.trod hl (hr t (by simp)).1 (hr t (by simp)).2 h1 hb hlt) (trodAll_below hl hb ts vs' ds' q (fun t' ht => hr t' (by simp [ht])) h2)

theorem calls_of_law {f : FuncId} {fn : Func} {c : Code} {args : Array Value} {asv : List AVal} (hfn : P.funcs[f]? = some fn) (hname : (fn.name == "runtime.NumGoroutine") = false) (hbody : fn.body = some c)
    (hlen : asv.length = args.size) (hrel : ∀ (i : Nat) (a : AVal) (v : Value), asv[i]? = some a → args[i]? = some v → Rel (allC w) w (fun _ => none) [] a v)
    (hlaw : ACalls P f asv [] (fun r _ => r = .bool true)) :
    Calls P f args w fun e w' => e = .returned (.bool true) ∧ Below w.heap.size w w' := by
  have hwf : WF (allC w) (fun _ => none) [] w := by
    refine ⟨fun id o h => by simp at h, fun id o h => by simp at h, fun id o l h => by simp at h, fun id l h => by simp at h, fun i j li lj h => by simp at h, fun b hb => ?_⟩
    unfold allC at hb
    split at hb
    · rename_i h
      exact lt_of_heap h
    · omega
  have h := hlaw (allC w) (fun _ => none) w args hwf hlen hrel
  have hcall : (callFunc f args).run P w = .ok (.enter f args) w := by
    simp only [callFunc, Sem.run_bind, run_program, Result.andThen_ok, hfn, hname, Bool.false_eq_true, if_false, hbody, Option.isNone_some, Sem.run_pure]
  unfold CallsX at h
  rw [hcall] at h
  refine Calls.mono h fun e w' => ?_
  rintro ⟨v, r, C', τ', H', rfl, rfl, hr, hst, hstep⟩
  refine ⟨?_, hst.fr.os, hst.fr.tape, hst.fr.output, hst.fr.size, fun k hk => hst.fr.prot k ⟨hk, ?_⟩⟩
  · cases hr with
    | rd hr => cases hr; rfl
  · rintro ⟨id, l, h1, _⟩
    exact absurd h1 (Nat.not_lt_zero _)

set_option maxRecDepth 100000 in

theorem lifted_of_law {C : Checked} {os : Os} {f : FuncId} {fn : Func} {s : ChangeSpec} {ob : List Nat} {af : AFunc} {n tb : Nat} {shs : List (Bool × List Sh)}
    (own : ownKnob C.prog.godebug = none) (started : os.Started) (noInit : C.prog.inits.idxOf? f = none) (hfn : C.prog.funcs[f]? = some fn)
    (witness : ∃ (w : World) (tape : Tape) (i : Input), w.os = os ∧ (w.forCall tape i).Shaped C.prog ∧ i.vars = [] ∧ Input.okWide C.prog (w.forCall tape i) .any w.heap.size f i ∧
      s.pre6 enc C.prog fn [] false (w.forCall tape i).memory i.args ∧ ({} : Assume).holds C.prog (lone (Frame.enter C.prog f i.args .normal) [] (w.forCall tape i)))
    (laid : laidOutB C.prog = true) (hread : (fn.params.toList.all fun t => C.prog.readableRec t && decide (t < C.prog.types.size)) = true)
    (hs : ∀ (ds : List (DataW H)), ds.length = fn.params.size → s.fn H ds = { results := [.lit (.bool true)], args := ds }) (hvars : s.vars = [])
    (hres : fn.resultTypes = #[tb]) (htb : C.prog.underlying tb = some .bool) (hsh : paramShs C.prog n fn.params.toList = some shs) (hhas : Has C.prog f ob af)
    (hlaw : ∀ asv, ArgsOk shs asv → ACalls C.prog f asv [] (fun r _ => r = .bool true)) :
    ReturnsInHanded {} C os f .any (s.pre6 enc C.prog fn [] false) (s.post enc C.prog fn false true false false) := by
  refine returnsInHanded_of_change (C := C) own started noInit hfn witness ?_
  intro W base args ds gs before hval hW _ _
  have hW' := hW
  obtain ⟨p, q, hA, hV, rfl, _, _⟩ := hW
  rw [hvars] at hV
  obtain ⟨rfl, rfl⟩ := trodVars_none hV
  obtain ⟨asv, has, hlen, hrel⟩ := open_args (τ := fun _ => none) (n := n) fn.params.toList args.toList ds p shs hsh (fun j t v h1 h2 => hval j t v (by simpa using h1) (by simpa using h2)) hA
  obtain ⟨fn', c, hfn', hname, hbody, _⟩ := hhas
  have e : fn' = fn := Option.some.inj (hfn'.symm.trans hfn)
  subst e
  have hlds : ds.length = fn'.params.size := by
    have : ∀ (ts : List TypeId) (vs : List Value) (ds : List (DataW H)) (ps : List MemPlace), DataW.TrodAll enc C.prog W 0 (fun _ => true) true ts vs ds ps → ds.length = ts.length := by
      intro ts
      induction ts with
      | nil => intro vs ds ps h; obtain ⟨_, rfl, _⟩ := trodAll_nil h; rfl
      | cons t ts ih =>
        intro vs ds ps h
        obtain ⟨_, _, _, _, _, _, _, rfl, _, _, h2⟩ := trodAll_cons h
        simp [ih _ _ _ h2]
    simpa using this _ _ _ _ hA
  refine (calls_of_law hfn hname hbody (by simpa using hlen) (fun i a v h1 h2 => hrel i a v h1 (by simpa using h2)) (hlaw asv has)).mono fun e W' ⟨he, bel⟩ => ?_
  subst he
  refine ⟨_, rfl, ds, [], _, [], p, [], hW', ?_, ?_, ?_, bel.frame _, fun h => by cases h⟩
  · rw [List.append_nil, hs ds hlds, hres]
    exact trodAll_mk1 (shut_bool htb _)
  · rw [List.append_nil, hs ds hlds]
    refine trodAll_below laid bel _ _ _ _ (fun t ht => ?_) hA
    have := List.all_eq_true.1 hread t ht
    simpa using this
  · rw [List.append_nil, hs ds hlds, hvars]
    rfl

end
theorem argsOk_cons {p : Bool × List Sh} {ps : List (Bool × List Sh)} {asv : List AVal} (h : ArgsOk (p :: ps) asv) : ∃ a as', asv = a :: as' ∧ ArgOk p a ∧ ArgsOk ps as' := by
  cases asv with
  | nil => exact h.elim
  | cons a asv => exact ⟨a, asv, rfl, h.1, h.2⟩

theorem argsOk_nil {asv : List AVal} (h : ArgsOk [] asv) : asv = [] := by
  cases asv with
  | nil => rfl
  | cons a asv => exact h.elim

theorem argOk_int {k : IntKind} {a : AVal} (h : ArgOk (false, [.int k]) a) : ∃ n, a = .int k n ∧ (Lit.int k n).wf = true := by
  obtain ⟨s, h1, h2⟩ := h
  cases h1
  cases h2 with
  | int _ n h => exact ⟨n, rfl, h⟩

def CellsOk : List Sh → List AVal → Prop
  | [], [] => True
  | s :: ss, a :: asv => ShOk s a ∧ CellsOk ss asv
  | _, _ => False

theorem cellsOk_of : ∀ (l : List Sh) (asv : List AVal), asv.length = l.length → (∀ (i : Nat) (s : Sh) (c : AVal), l[i]? = some s → asv[i]? = some c → ShOk s c) → CellsOk l asv
  | [], [], _, _ => trivial
  | s :: l, a :: asv, hl, h => ⟨h 0 s a rfl rfl, cellsOk_of l asv (by simpa using hl) fun i s c h1 h2 => h (i + 1) s c (by simpa using h1) (by simpa using h2)⟩
  | [], _ :: _, hl, _ => by simp at hl
  | _ :: _, [], hl, _ => by simp at hl

theorem shOk_slice {fs : List Sh} {a : AVal} (h : ShOk (.slice fs) a) : ∃ es, a = .list false fs.length es ∧ es.length ≤ maxLen ∧ ∀ e ∈ es, CellsOk fs e := by
  cases h with
  | list _ es hb hl h => exact ⟨es, rfl, hb, fun e he => cellsOk_of _ _ (hl e he) fun i s c h1 h2 => h e i s c he h1 h2⟩

theorem argOk_slice {fs : List Sh} {a : AVal} (h : ArgOk (false, [.slice fs]) a) : ∃ es, a = .list false fs.length es ∧ es.length ≤ maxLen ∧ ∀ e ∈ es, CellsOk fs e := by
  obtain ⟨s, h1, h2⟩ := h
  cases h1
  exact shOk_slice h2

theorem list_image {α β : Type} {g : α → β} {W : α → Prop} : ∀ (l : List β), (∀ x ∈ l, ∃ a, x = g a ∧ W a) → ∃ m : List α, l = m.map g ∧ ∀ a ∈ m, W a
  | [], _ => ⟨[], rfl, by simp⟩
  | x :: l, h => by
    obtain ⟨a, rfl, ha⟩ := h x (by simp)
    obtain ⟨m, rfl, hm⟩ := list_image l fun y hy => h y (by simp [hy])
    exact ⟨a :: m, rfl, fun b hb => by rcases List.mem_cons.1 hb with rfl | hb; exact ha; exact hm b hb⟩

theorem cellsOk_int {k : IntKind} {e : List AVal} (h : CellsOk [.int k] e) : ∃ n, e = [.int k n] ∧ (Lit.int k n).wf = true := by
  match e, h with
  | [a], h =>
    obtain ⟨h1, _⟩ := h
    cases h1
    rename_i n hn
    exact ⟨n, rfl, hn⟩

theorem argOk_ints {k : IntKind} {a : AVal} (h : ArgOk (false, [.slice [.int k]]) a) : ∃ l : List Int, a = .list false 1 (l.map fun n => [.int k n]) ∧ l.length ≤ maxLen ∧ ∀ n ∈ l, (Lit.int k n).wf = true := by
  obtain ⟨es, rfl, hl, h⟩ := argOk_slice h
  obtain ⟨m, rfl, hm⟩ := list_image (g := fun n => [AVal.int k n]) (W := fun n => (Lit.int k n).wf = true) es fun e he => cellsOk_int (h e he)
  exact ⟨m, rfl, by simpa using hl, hm⟩

end Go.AW

namespace Go.AW
attribute [local irreducible] ACalls
structure V where
  kind : Int
  num : Int
  str : ByteArray

def valC (v : V) : List AVal := [.int .i64 v.kind, .int .i64 v.num, .str v.str]

def validB (v : V) : Bool :=
  if v.kind = 0 then v.num == 0 && v.str.data.toList == []
  else if v.kind = 1 then (v.num == 0 || v.num == 1) && v.str.data.toList == []
  else if v.kind = 2 then decide (-1073741824 ≤ v.num) && decide (v.num ≤ 1073741824) && v.str.data.toList == []
  else if v.kind = 3 then v.num == 0 && decide (v.str.size ≤ 64)
  else if v.kind = 4 then decide (0 ≤ v.num) && decide (v.num ≤ 575999999) && v.str.data.toList == []
  else false

set_option maxRecDepth 20000 in
theorem value_Valid_spec {P : Program} (F : F_value_Valid P) (v : V) (H : List AObj) :
    ACalls P F.id [.agg (valC v)] H (fun r H' => r = .bool (validB v) ∧ H' = H) := by
  refine ACalls.pure rfl (acalls_of_body F.has ?_)
  repeat' ((conv => whnf); refine recA (fun _ => ?_) (fun _ => ?_))
  all_goals (conv => whnf)
  all_goals refine pubB ?_
  all_goals (simp_all [validB, bs_nil]; try omega)

set_option maxRecDepth 20000 in
theorem ref1_Valid_spec {P : Program} (F : F_warehouseref1_Valid P) (v : V) (H : List AObj) :
    ACalls P F.id [.agg (valC v)] H (fun r H' => r = .bool (validB v) ∧ H' = H) := by
  refine ACalls.pure rfl (acalls_of_body F.has ?_)
  repeat' ((conv => whnf); refine recA (fun _ => ?_) (fun _ => ?_))
  all_goals (conv => whnf)
  all_goals refine pubB ?_
  all_goals (simp_all [validB, bs_nil]; try omega)

def cmpI (a b : Int) : Int := if a < b then -1 else if b < a then 1 else 0

def cmpS (a b : List UInt8) : Int := if Op.bytesLess a b then -1 else if a = b then 0 else 1

theorem isNaN_int_spec {P : Program} (F : F_cmp_isNaN_int P) (a : Int) (H : List AObj) :
    ACalls P F.id [.int .i64 a] H (fun r H' => r = .bool false ∧ H' = H) := by
  refine ACalls.pure rfl (acalls_of_body F.has ?_)
  conv => whnf
  exact pubB (by simp)

theorem isNaN_string_spec {P : Program} (F : F_cmp_isNaN_string P) (a : ByteArray) (H : List AObj) :
    ACalls P F.id [.str a] H (fun r H' => r = .bool false ∧ H' = H) := by
  refine ACalls.pure rfl (acalls_of_body F.has ?_)
  conv => whnf
  exact pubB (by simp)

theorem cmpCompare_int_spec {P : Program} (F : F_cmp_Compare_int P) (a b : Int) (H : List AObj) :
    ACalls P F.id [.int .i64 a, .int .i64 b] H (fun r H' => r = .int .i64 (cmpI a b) ∧ H' = H) := by
  refine ACalls.pure rfl (acalls_of_body F.has ?_)
  conv => whnf
  refine (isNaN_int_spec F.cmp_isNaN_int _ _).use ?_
  conv => whnf
  refine (isNaN_int_spec F.cmp_isNaN_int _ _).use ?_
  repeat' ((conv => whnf); refine recA (fun _ => ?_) (fun _ => ?_))
  all_goals (conv => whnf)
  all_goals refine pubI ?_
  all_goals (simp_all [cmpI]; try omega)

theorem cmpCompare_string_spec {P : Program} (F : F_cmp_Compare_string P) (a b : ByteArray) (H : List AObj) :
    ACalls P F.id [.str a, .str b] H (fun r H' => r = .int .i64 (cmpS a.data.toList b.data.toList) ∧ H' = H) := by
  refine ACalls.pure rfl (acalls_of_body F.has ?_)
  conv => whnf
  refine (isNaN_string_spec F.cmp_isNaN_string _ _).use ?_
  conv => whnf
  refine (isNaN_string_spec F.cmp_isNaN_string _ _).use ?_
  repeat' ((conv => whnf); refine recA (fun _ => ?_) (fun _ => ?_))
  all_goals (conv => whnf)
  all_goals refine pubI ?_
  all_goals (simp_all [cmpS])

def orI : List Int → Int
  | [] => 0
  | x :: xs => if x = 0 then orI xs else x

def valCmp (a b : V) : Int := orI [cmpI a.kind b.kind, cmpI a.num b.num, cmpS a.str.data.toList b.str.data.toList]

theorem orI_drop (l : List Int) (k : Nat) (h : ∀ j, j < k → l.getD j 0 = 0) : orI l = orI (l.drop k) := by
  induction k generalizing l with
  | zero => rfl
  | succ k ih =>
    cases l with
    | nil => rfl
    | cons x xs =>
      have h0 := h 0 (by omega)
      simp at h0
      subst h0
      simp only [orI, if_true, List.drop_succ_cons]
      exact ih xs fun j hj => by have := h (j + 1) (by omega); simpa using this

theorem getElem?_getD {l : List Int} {k : Nat} (h : k < l.length) : l[k]? = some (l.getD k 0) := by
  rw [List.getD_eq_getElem?_getD, List.getElem?_eq_getElem h]; rfl

theorem orI_at (l : List Int) (k : Nat) (h : ∀ j, j < k → l.getD j 0 = 0) (hk : k < l.length) (hne : l.getD k 0 ≠ 0) : orI l = l.getD k 0 := by
  rw [orI_drop l k h, List.drop_eq_getElem_cons hk]
  rw [List.getD_eq_getElem?_getD, List.getElem?_eq_getElem hk] at hne ⊢
  simp only [Option.getD_some] at hne ⊢
  simp [orI, hne]

theorem orI_all (l : List Int) (h : ∀ j, j < l.length → l.getD j 0 = 0) : orI l = 0 := by
  rw [orI_drop l l.length h, List.drop_length]; rfl

set_option maxRecDepth 20000 in
theorem cmpOr_spec {P : Program} (F : F_cmp_Or_int P) (l : List Int) (hl : l.length ≤ 1000000) (H : List AObj) :
    ACalls P F.id [.list true 1 (l.map fun x => [.int .i64 x])] H (fun r H' => r = .int .i64 (orI l) ∧ H' = H) := by
  refine ACalls.pure rfl (acalls_of_body F.has ?_)
  conv => whnf
  refine ⟨fun n ρ H => ∃ k : Nat, k + n = l.length ∧ (∀ j, j < k → l.getD j 0 = 0) ∧ H = [] ∧
    Sv 18 [(0, .list true 1 (l.map fun x => [.int .i64 x])), (2, .int .i64 0), (3, .int .i64 0), (6, .list true 1 (l.map fun x => [.int .i64 x])), (7, .int .i64 (l.map fun x => [AVal.int .i64 x]).length), (8, .int .i64 k)] ρ, l.length, [], ⟨0, by simp, by simp, rfl, Sv.intro rfl ⟨rfl, rfl, rfl, rfl, rfl, rfl, trivial⟩⟩, ?_⟩
  rintro n ρ H ⟨k, hk, hz, rfl, d, rfl⟩
  conv => whnf
  refine recA (fun hlt => ?_) (fun hlt => ?_)
  · simp at hlt
    conv => whnf
    refine ⟨by omega, ?_⟩
    conv => whnf
    refine recO (e := [AVal.int .i64 (l.getD k 0)]) ?_ ?_
    · rw [List.getElem?_map, getElem?_getD (by omega)]; rfl
    (conv => whnf); refine recA (fun hne => ?_) (fun hne => ?_)
    · conv => whnf
      refine pubI ?_
      rw [orI_at l k hz (by omega) (by simpa using hne)]
    · conv => whnf
      have e := wrapI ((k : Int) + 1) (by omega) (by omega)
      refine ⟨n - 1, by omega, Gp.keep rfl ?_ fun ρ1 h => ⟨k + 1, by omega, fun j hj => ?_, rfl, h⟩⟩
      · exact ⟨rfl, rfl, rfl, rfl, rfl, intEq e, trivial⟩
      rcases Nat.lt_succ_iff_lt_or_eq.1 hj with h | rfl
      · exact hz j h
      · simpa using hne
  · conv => whnf
    refine pubI ?_
    simp at hlt
    rw [orI_all l fun j hj => hz j (by omega)]

theorem numbers_spec {P : Program} (F : F_warehouseref1_numbers P) (a b : Int) (H : List AObj) :
    ACalls P F.id [.int .i64 a, .int .i64 b] H (fun r H' => r = .int .i64 (cmpI a b) ∧ H' = H) := by
  refine ACalls.pure rfl (acalls_of_body F.has ?_)
  repeat' ((conv => whnf); refine recA (fun _ => ?_) (fun _ => ?_))
  all_goals (conv => whnf)
  all_goals refine pubI ?_
  all_goals (simp_all [cmpI]; try omega)

set_option maxRecDepth 20000 in
theorem value_Compare_spec {P : Program} (F : F_value_Compare P) (a b : V) (H : List AObj) :
    ACalls P F.id [.agg (valC a), .agg (valC b)] H (fun r H' => r = .int .i64 (valCmp a b) ∧ H' = H) := by
  refine ACalls.pure rfl (acalls_of_body F.has ?_)
  conv => whnf
  refine ⟨_, cmpCompare_int_spec F.cmp_Compare_int a.kind b.kind _, ?_⟩
  conv => whnf
  refine ⟨_, cmpCompare_int_spec F.cmp_Compare_int a.num b.num _, ?_⟩
  conv => whnf
  refine ⟨_, cmpCompare_string_spec F.cmp_Compare_string a.str b.str _, ?_⟩
  conv => whnf
  refine ⟨_, cmpOr_spec F.cmp_Or_int [_, _, _] (by simp) _, ?_⟩
  conv => whnf
  exact pubI rfl

set_option maxRecDepth 20000 in
theorem ref1_Compare_spec {P : Program} (F : F_warehouseref1_Compare P) (a b : V) (H : List AObj) :
    ACalls P F.id [.agg (valC a), .agg (valC b)] H (fun r H' => r = .int .i64 (valCmp a b) ∧ H' = H) := by
  refine ACalls.pure rfl (acalls_of_body F.has ?_)
  repeat' ((conv => whnf); first | refine recA (fun _ => ?_) (fun _ => ?_) | refine ACalls.use (numbers_spec F.warehouseref1_numbers _ _ _) ?_)
  all_goals (conv => whnf)
  all_goals refine pubI ?_
  all_goals simp_all [valCmp, orI, cmpS]

theorem cellsOk_V {e : List AVal} (h : CellsOk [.int .i64, .int .i64, .str] e) : ∃ v : V, e = valC v ∧ (Lit.int .i64 v.kind).wf = true ∧ (Lit.int .i64 v.num).wf = true ∧ v.str.size ≤ maxLen := by
  match e, h with
  | [a, b, c], h =>
    obtain ⟨h1, h2, h3, _⟩ := h
    cases h1; cases h2; cases h3
    exact ⟨⟨_, _, _⟩, rfl, by assumption, by assumption, by assumption⟩

theorem argOk_row {a : AVal} (h : ArgOk (false, [.slice [.int .i64, .int .i64, .str]]) a) : ∃ rs : List V, a = .list false 3 (rs.map valC) ∧ rs.length ≤ maxLen ∧ ∀ v ∈ rs, (Lit.int .i64 v.kind).wf = true ∧ (Lit.int .i64 v.num).wf = true ∧ v.str.size ≤ maxLen := by
  obtain ⟨es, rfl, hl, h⟩ := argOk_slice h
  obtain ⟨m, rfl, hm⟩ := list_image (g := valC) es fun e he => cellsOk_V (h e he)
  exact ⟨m, rfl, by simpa using hl, hm⟩

end Go.AW

namespace Go.AW
attribute [local irreducible] ACalls
def bC (l : List Int) : List (List AVal) := l.map fun n => [.int .u8 n]

def u8 (n : Int) : Int := IntKind.u8.wrap n

def w4 (n : Int) : List Int := [u8 (n.fdiv (2 ^ 24)), u8 (n.fdiv (2 ^ 16)), u8 (n.fdiv (2 ^ 8)), u8 n]

theorem roomB_le {n : Nat} (h : n ≤ 1000000000) : n ≤ roomB := Nat.le_trans h (by show _ ≤ 1099511627776; omega)

theorem pub_int {H1 : List AObj} {n : Nat} {ids : List Nat} {k : IntKind} {a b : Int} (h : a = b) : Pub H1 n ids (.int k a) (.int k b) := by subst h; exact .closed _ rfl

theorem pub2 {H1 : List AObj} {n : Nat} {ids : List Nat} {a b r s : AVal} (h1 : Pub H1 n ids a r) (h2 : Pub H1 n ids b s) : Pub H1 n ids (.tuple [a, b]) (.tuple [r, s]) := by
  refine .tuple _ _ rfl fun i v t h3 h4 => ?_
  rcases i with _ | _ | i
  · cases h3; cases h4; exact h1
  · cases h3; cases h4; exact h2
  · simp at h3

theorem pubF {H1 : List AObj} {n : Nat} {id ep len sz : Nat} {es : List (List AVal)} (ho : H1[id]? = some (.arr sz es)) (he : ep = es.length) (hl : len = es.length) (hp : pureEs es = true) : Pub H1 n [] (.sl id ep 0 len) (.list false sz es) := by
  subst hl he
  have := Pub.frz (n := n) (ids := []) id es.length 0 es.length sz es ho rfl hp (by simp)
  rwa [List.drop_zero, List.take_length] at this

end Go.AW

namespace Go.AW
attribute [local irreducible] ACalls
def and64 (a b : Int) : Int := IntKind.i64.wrap (BitVec.ofInt IntKind.i64.bits a &&& BitVec.ofInt IntKind.i64.bits b).toNat

theorem and64_mask (a : Int) (k : Nat) (hk : k ≤ 62) : and64 a (2 ^ k - 1) = a % 2 ^ k := by
  have h1 : BitVec.ofInt 64 ((2 : Int) ^ k - 1) = BitVec.ofNat 64 (2 ^ k - 1) := by
    have h2 : 1 ≤ 2 ^ k := Nat.one_le_two_pow
    rw [show ((2 : Int) ^ k - 1) = ((2 ^ k - 1 : Nat) : Int) by rw [Int.ofNat_sub h2]; simp, BitVec.ofInt_natCast]
  have h3 : (2 : Nat) ^ k ≤ 2 ^ 62 := Nat.pow_le_pow_right (by omega) hk
  have h4 : 1 ≤ 2 ^ k := Nat.one_le_two_pow
  show IntKind.i64.wrap ((BitVec.ofInt 64 a &&& BitVec.ofInt 64 (2 ^ k - 1)).toNat : Int) = _
  rw [h1, BitVec.toNat_and, BitVec.toNat_ofNat, Nat.mod_eq_of_lt (a := 2 ^ k - 1) (by omega), Nat.and_two_pow_sub_one_eq_mod, BitVec.toNat_ofInt]
  have h5 : ((a % ((2 ^ 64 : Nat) : Int)).toNat % 2 ^ k : Nat) < 2 ^ k := Nat.mod_lt _ (by omega)
  rw [wrapI _ (by omega) (by omega)]
  have h6 : 0 ≤ a % ((2 ^ 64 : Nat) : Int) := Int.emod_nonneg _ (by omega)
  rw [Int.natCast_emod, Int.toNat_of_nonneg h6]
  simp only [Int.natCast_pow]
  have : ((2 : Nat) : Int) ^ 64 = 2 ^ k * 2 ^ (64 - k) := by rw [← Int.pow_add]; congr 1; omega
  rw [show ((2 : Nat) : Int) ^ 64 = ((2 : Int)) ^ k * 2 ^ (64 - k) from this]
  exact Int.emod_emod_of_dvd a ⟨_, rfl⟩

theorem and_ffff (a : Int) : and64 a 65535 = a % 65536 := and64_mask a 16 (by omega)

theorem and_1 (a : Int) : and64 a 1 = a % 2 := and64_mask a 1 (by omega)

theorem and_3 (a : Int) : and64 a 3 = a % 4 := and64_mask a 2 (by omega)

theorem and_7 (a : Int) : and64 a 7 = a % 8 := and64_mask a 3 (by omega)

theorem and_15 (a : Int) : and64 a 15 = a % 16 := and64_mask a 4 (by omega)

theorem and_31 (a : Int) : and64 a 31 = a % 32 := and64_mask a 5 (by omega)

def iC (l : List Int) : List (List AVal) := l.map fun n => [.int .i64 n]

theorem iC_length (l : List Int) : (iC l).length = l.length := List.length_map ..

theorem iC_get {l : List Int} {k : Nat} (h : k < l.length) : (iC l)[k]? = some [.int .i64 (l.getD k 0)] := by
  rw [iC, List.getElem?_map, getElem?_getD h]; rfl

def atV (l : List Int) (i : Int) : Int :=
  if l.length = 0 then and64 i 65535 else IntKind.i64.wrap (and64 (l.getD ((and64 i 65535).tmod l.length).toNat 0) 65535 + IntKind.i64.wrap ((and64 i 65535).tdiv l.length))

set_option maxRecDepth 20000 in
theorem At_spec {P : Program} (F : F_warehousebase_At P) (ex : Bool) (l : List Int) (i : Int) (H : List AObj) :
    ACalls P F.id [.list ex 1 (iC l), .int .i64 i] H (fun r H' => r = .int .i64 (atV l i) ∧ H' = H) := by
  refine ACalls.pure rfl (acalls_of_body F.has ?_)
  (conv => whnf); refine recA (fun h0 => ?_) (fun h0 => ?_)
  · conv => whnf
    refine pubI ?_
    simp [iC_length] at h0
    simp [atV, h0, and64]
  · simp [iC_length] at h0
    have hb := and_ffff i
    have h1 : 0 ≤ (and64 i 65535).tmod l.length := by rw [hb]; exact Int.tmod_nonneg _ (by omega)
    have h2 : (and64 i 65535).tmod l.length < l.length := Int.tmod_lt_of_pos _ (by have := List.length_pos_iff.2 h0; omega)
    conv => whnf
    refine And.intro (by simpa [iC_length] using h0) ?_
    conv => whnf
    refine And.intro (by simp only [iC_length]; exact h1) ?_
    conv => whnf
    refine recO (e := [.int .i64 (l.getD ((and64 i 65535).tmod l.length).toNat 0)]) ?_ ?_
    · show (iC l)[((and64 i 65535).tmod ((iC l).length : Nat)).toNat]? = _
      rw [iC_length]
      exact iC_get (by omega)
    conv => whnf
    refine And.intro (by simpa [iC_length] using h0) ?_
    conv => whnf
    refine pubI ?_
    simp [atV, h0, and64, iC_length]

def shrI (a : Int) (k : Nat) : Int := a.fdiv (2 ^ (min k IntKind.i64.bits))

theorem shrI_eq (a : Int) (k : Nat) (hk : k ≤ 64) : shrI a k = a / 2 ^ k := by
  unfold shrI
  rw [Nat.min_eq_left (show k ≤ IntKind.i64.bits from hk)]
  exact Int.fdiv_eq_ediv_of_nonneg _ (Int.pow_nonneg (by omega))

def w64 (n : Int) : Int := IntKind.i64.wrap n

def momN (n : Int) : Int :=
  if (n / 256) % 16 = 0 then [0, 1, 575999999, 575999998, 1439, 1440].getD (n % 6).toNat 0
  else 144000 + (n / 8) % 4 * 1440 + n % 7 * 200 + (n / 32) % 2 * 1439 - 600

def momentV (n : Int) : Int := momN (n % 65536)

theorem getD_cells (l : List Int) (k : Nat) (h : k < l.length) : (l.map fun n => [AVal.int .i64 n])[k]? = some [.int .i64 (l.getD k 0)] := by
  rw [List.getElem?_map, getElem?_getD h]; rfl

set_option maxRecDepth 20000 in
theorem Moment_spec {P : Program} (F : F_warehousebase_Moment P) (n : Int) (H : List AObj) :
    ACalls P F.id [.int .i64 n] H (fun r H' => r = .int .i64 (momentV n) ∧ H' = H) := by
  refine ACalls.pure rfl (acalls_of_body F.has ?_)
  have hn := and_ffff n
  have e8 := shrI_eq (and64 n 65535) 8 (by omega)
  have e3 := shrI_eq (and64 n 65535) 3 (by omega)
  have e5 := shrI_eq (and64 n 65535) 5 (by omega)
  have a8 := and_15 (shrI (and64 n 65535) 8)
  have a3 := and_3 (shrI (and64 n 65535) 3)
  have a5 := and_1 (shrI (and64 n 65535) 5)
  rw [e8] at a8; rw [e3] at a3; rw [e5] at a5
  rw [hn] at a8 a3 a5
  have m6 : (and64 n 65535).tmod 6 = (n % 65536) % 6 := by rw [hn]; exact Int.tmod_eq_emod_of_nonneg (by omega)
  have m7 : (and64 n 65535).tmod 7 = (n % 65536) % 7 := by rw [hn]; exact Int.tmod_eq_emod_of_nonneg (by omega)
  (conv => whnf); refine And.intro (by decide) ?_
  (conv => whnf); refine recA (fun h0 => ?_) (fun h0 => ?_)
  · replace h0 : (and64 (shrI (and64 n 65535) 8) 15 == 0) = true := h0
    rw [e8, hn, a8] at h0
    simp at h0
    (conv => whnf); refine And.intro (by decide) ?_
    (conv => whnf); refine And.intro (show 0 ≤ (and64 n 65535).tmod 6 by omega) ?_
    conv => whnf
    refine recO (e := [.int .i64 (momentV n)]) ?_ ?_
    · show (([0, 1, 575999999, 575999998, 1439, 1440] : List Int).map fun n => [AVal.int .i64 n])[((and64 n 65535).tmod 6).toNat]? = _
      rw [m6, getD_cells _ _ (by simp; omega)]
      simp [momentV, momN, h0]
    conv => whnf
    exact pubI rfl
  · replace h0 : (and64 (shrI (and64 n 65535) 8) 15 == 0) = false := h0
    rw [e8, hn, a8] at h0
    simp at h0
    repeat' ((conv => whnf); refine And.intro (by decide) ?_)
    conv => whnf
    refine pubI ?_
    show w64 (w64 (w64 (w64 (144000 + w64 (and64 (shrI (and64 n 65535) 3) 3 * 1440)) + w64 ((and64 n 65535).tmod 7 * 200)) + w64 (and64 (shrI (and64 n 65535) 5) 1 * 1439)) - 600) = momentV n
    rw [e3, e5, hn, a3, a5]
    rw [hn] at m7
    rw [m7]
    have q : ¬ (n % 65536 / 256) % 16 = 0 := by simpa using h0
    simp only [w64, momentV, momN]
    rw [if_neg q]
    have b3 : 0 ≤ n % 65536 / 2 ^ 3 % 4 ∧ n % 65536 / 2 ^ 3 % 4 ≤ 3 := by omega
    have b5 : 0 ≤ n % 65536 / 2 ^ 5 % 2 ∧ n % 65536 / 2 ^ 5 % 2 ≤ 1 := by omega
    have b7 : 0 ≤ n % 65536 % 7 ∧ n % 65536 % 7 ≤ 6 := by omega
    rw [wrapI (n % 65536 / 2 ^ 3 % 4 * 1440) (by omega) (by omega), wrapI (n % 65536 % 7 * 200) (by omega) (by omega), wrapI (n % 65536 / 2 ^ 5 % 2 * 1439) (by omega) (by omega)]
    rw [wrapI (144000 + _) (by omega) (by omega), wrapI (_ + n % 65536 % 7 * 200) (by omega) (by omega), wrapI (_ + n % 65536 / 2 ^ 5 % 2 * 1439) (by omega) (by omega), wrapI _ (by omega) (by omega)]
    rfl

theorem momN_bounds (n : Int) : 0 ≤ momentV n ∧ momentV n ≤ 575999999 := by
  unfold momentV
  generalize hm : n % 65536 = m
  have hm0 : 0 ≤ m := by omega
  unfold momN
  split
  · have : m % 6 = 0 ∨ m % 6 = 1 ∨ m % 6 = 2 ∨ m % 6 = 3 ∨ m % 6 = 4 ∨ m % 6 = 5 := by omega
    rcases this with h | h | h | h | h | h <;> rw [h] <;> decide
  · omega

def txtV (n : Int) : ByteArray := [bs [97], bs [98], bs [99], bs [], bs [105, 116, 39, 115], bs [97, 32, 98]].getD (n % 6).toNat (bs [])

def intN (n : Int) : Int := if (n / 256) % 32 = 0 then 1073741824 - n % 2 else if (n / 256) % 32 = 1 then n % 4 - 1073741824 else n % 7 - 2

def valueV (kind n : Int) : V :=
  if kind = 1 then ⟨1, (n % 65536) % 2, bs []⟩ else if kind = 2 then ⟨2, intN (n % 65536), bs []⟩ else if kind = 3 then ⟨3, 0, txtV (n % 65536)⟩ else if kind = 4 then ⟨4, momentV (n % 65536), bs []⟩ else ⟨0, 0, bs []⟩

theorem pubV {H1 : List AObj} {n : Nat} {ids : List Nat} {a b : Int} {s : ByteArray} {v : V} (h1 : a = v.kind) (h2 : b = v.num) (h3 : s = v.str) : Pub H1 n ids (.agg [.int .i64 a, .int .i64 b, .str s]) (.agg (valC v)) := by
  subst h1 h2 h3; exact .closed _ rfl

set_option maxRecDepth 20000 in
theorem Value_spec {P : Program} (F : F_warehousebase_Value P) (k n : Int) (H : List AObj) :
    ACalls P F.id [.int .i64 k, .int .i64 n] H (fun r H' => r = .agg (valC (valueV k n)) ∧ H' = H) := by
  refine ACalls.pure rfl (acalls_of_body F.has ?_)
  have hn := and_ffff n
  have e8 := shrI_eq (and64 n 65535) 8 (by omega)
  have a8 := and_31 (shrI (and64 n 65535) 8)
  have a1 := and_1 (and64 n 65535)
  have a3 := and_3 (and64 n 65535)
  rw [e8] at a8
  rw [hn] at a8 a1 a3
  have m6 : (and64 n 65535).tmod 6 = (n % 65536) % 6 := by rw [hn]; exact Int.tmod_eq_emod_of_nonneg (by omega)
  have m7 : (and64 n 65535).tmod 7 = (n % 65536) % 7 := by rw [hn]; exact Int.tmod_eq_emod_of_nonneg (by omega)
  (conv => whnf); refine recA (fun h1 => ?_) (fun h1 => ?_)
  · simp at h1
    subst h1
    conv => whnf
    refine pubV (v := valueV 1 n) rfl ?_ rfl
    show and64 (and64 n 65535) 1 = _
    rw [hn, a1]; rfl
  simp at h1
  (conv => whnf); refine recA (fun h2 => ?_) (fun h2 => ?_)
  · simp at h2
    subst h2
    (conv => whnf); refine And.intro (by decide) ?_
    (conv => whnf); refine And.intro (by decide) ?_
    (conv => whnf); refine recA (fun h0 => ?_) (fun h0 => ?_)
    · replace h0 : (and64 (shrI (and64 n 65535) 8) 31 == 0) = true := h0
      rw [e8, hn, a8] at h0
      conv => whnf
      refine pubV (v := valueV 2 n) rfl ?_ rfl
      show w64 (1073741824 - and64 (and64 n 65535) 1) = intN (n % 65536)
      have h0 : n % 65536 / 256 % 32 = 0 := by simpa using h0
      rw [hn, a1, w64, wrapI _ (by omega) (by omega), intN, if_pos h0]
    · replace h0 : (and64 (shrI (and64 n 65535) 8) 31 == 0) = false := h0
      rw [e8, hn, a8] at h0
      have h0 : ¬ n % 65536 / 256 % 32 = 0 := by simpa using h0
      (conv => whnf); refine recA (fun h5 => ?_) (fun h5 => ?_)
      · replace h5 : (and64 (shrI (and64 n 65535) 8) 31 == 1) = true := h5
        rw [e8, hn, a8] at h5
        have h5 : n % 65536 / 256 % 32 = 1 := by simpa using h5
        conv => whnf
        refine pubV (v := valueV 2 n) rfl ?_ rfl
        show w64 (and64 (and64 n 65535) 3 - 1073741824) = intN (n % 65536)
        rw [hn, a3, w64, wrapI _ (by omega) (by omega), intN, if_neg h0, if_pos h5]
      · replace h5 : (and64 (shrI (and64 n 65535) 8) 31 == 1) = false := h5
        rw [e8, hn, a8] at h5
        have h5 : ¬ n % 65536 / 256 % 32 = 1 := by simpa using h5
        conv => whnf
        refine pubV (v := valueV 2 n) rfl ?_ rfl
        show w64 ((and64 n 65535).tmod 7 - 2) = intN (n % 65536)
        rw [m7, w64, wrapI _ (by omega) (by omega), intN, if_neg h0, if_neg h5]
  simp at h2
  (conv => whnf); refine recA (fun h3 => ?_) (fun h3 => ?_)
  · simp at h3
    subst h3
    (conv => whnf); refine And.intro (by decide) ?_
    (conv => whnf); refine And.intro (show 0 ≤ (and64 n 65535).tmod 6 by omega) ?_
    conv => whnf
    refine recO (e := [.str (txtV (n % 65536))]) ?_ ?_
    · show (([bs [97], bs [98], bs [99], bs [], bs [105, 116, 39, 115], bs [97, 32, 98]]).map fun s => [AVal.str s])[((and64 n 65535).tmod 6).toNat]? = _
      rw [m6, List.getElem?_map, List.getElem?_eq_getElem (show (n % 65536 % 6).toNat < _ by simp; omega)]
      simp only [Option.map_some, txtV]
      rw [List.getD_eq_getElem?_getD, List.getElem?_eq_getElem (show (n % 65536 % 6).toNat < _ by simp; omega)]
      rfl
    conv => whnf
    exact pubV (v := valueV 3 n) rfl rfl rfl
  simp at h3
  (conv => whnf); refine recA (fun h4 => ?_) (fun h4 => ?_)
  · simp at h4
    subst h4
    conv => whnf
    refine ACalls.use (Moment_spec F.warehousebase_Moment _ _) ?_
    conv => whnf
    refine pubV (v := valueV 4 n) rfl ?_ rfl
    show momentV (and64 n 65535) = _
    rw [hn]; rfl
  simp at h4
  conv => whnf
  have e : valueV k n = ⟨0, 0, bs []⟩ := by unfold valueV; rw [if_neg h1, if_neg h2, if_neg h3, if_neg h4]
  rw [e]
  exact .closed _ rfl

def anyV (n : Int) : V := valueV (n.tmod 5) (w64 (n.tdiv 5))

set_option maxRecDepth 20000 in
theorem Any_spec {P : Program} (F : F_warehousebase_Any P) (n : Int) (H : List AObj) :
    ACalls P F.id [.int .i64 n] H (fun r H' => r = .agg (valC (anyV n)) ∧ H' = H) := by
  refine ACalls.pure rfl (acalls_of_body F.has ?_)
  (conv => whnf); refine And.intro (by decide) ?_
  (conv => whnf); refine And.intro (by decide) ?_
  conv => whnf
  refine ACalls.use (Value_spec F.warehousebase_Value _ _ _) ?_
  conv => whnf
  exact pubV (v := anyV n) rfl rfl rfl

theorem valueV_valid (k n : Int) : validB (valueV k n) = true := by
  unfold valueV
  split
  · have := Int.emod_emod_of_dvd n (show (2 : Int) ∣ 65536 from ⟨32768, rfl⟩)
    rw [this]
    have : n % 2 = 0 ∨ n % 2 = 1 := by omega
    rcases this with h | h <;> rw [h] <;> decide
  split
  · have h : -1073741824 ≤ intN (n % 65536) ∧ intN (n % 65536) ≤ 1073741824 := by
      unfold intN
      split
      · omega
      split <;> omega
    simp [validB, h, bs_nil]
  split
  · have : n % 65536 % 6 = 0 ∨ n % 65536 % 6 = 1 ∨ n % 65536 % 6 = 2 ∨ n % 65536 % 6 = 3 ∨ n % 65536 % 6 = 4 ∨ n % 65536 % 6 = 5 := by omega
    unfold txtV
    rcases this with h | h | h | h | h | h <;> rw [h] <;> decide
  split
  · have h := momN_bounds (n % 65536)
    simp [validB, h, bs_nil]
  · decide

theorem anyV_valid (n : Int) : validB (anyV n) = true := valueV_valid _ _

end Go.AW

namespace Go.AW
attribute [local irreducible] ACalls
def vC (rs : List V) : List (List AVal) := rs.map valC

theorem vC_length (l : List V) : (vC l).length = l.length := List.length_map ..

theorem pureEs_vC (l : List V) : pureEs (vC l) = true := by simp [pureEs, vC, valC, AVal.isPure]

theorem roomMul {n b : Nat} (h : n ≤ 1000000) (hb : b ≤ 1000000) : n * b ≤ roomB :=
  Nat.le_trans (Nat.mul_le_mul h hb) (by show 1000000 * 1000000 ≤ 1099511627776; omega)

theorem vC_at {l : List V} {k : Nat} {x : V} (h : l[k]? = some x) : (vC l)[k]? = some (valC x) := by
  rw [vC, List.getElem?_map, h]; rfl

theorem get_drop {α : Type} {l : List α} {k : Nat} (h : k < l.length) : ∃ x, l[k]? = some x ∧ l.drop k = x :: l.drop (k + 1) ∧ x ∈ l :=
  ⟨l[k], List.getElem?_eq_getElem h, List.drop_eq_getElem_cons h, List.getElem_mem h⟩

def rowsCmp : List V → List V → Int
  | [], [] => 0
  | [], _ :: _ => -1
  | _ :: _, [] => 1
  | x :: xs, y :: ys => if valCmp x y = 0 then rowsCmp xs ys else valCmp x y

set_option maxRecDepth 20000 in
theorem CompareFunc_spec {P : Program} (F : F_slices_CompareFunc_LValue_Value P) (g : FuncId) (hg : ∀ (a b : V) (H : List AObj), ACalls P g [.agg (valC a), .agg (valC b)] H (fun r H' => r = .int .i64 (valCmp a b) ∧ H' = H))
    (e1 e2 : Bool) (a b : List V) (ha : a.length ≤ 1000000) (H : List AObj) :
    ACalls P F.id [.list e1 3 (vC a), .list e2 3 (vC b), .fn g []] H (fun r H' => r = .int .i64 (rowsCmp a b) ∧ H' = H) := by
  refine ACalls.pure rfl (acalls_of_body F.has ?_)
  conv => whnf
  refine ⟨fun m ρ H => ∃ k : Nat, k + m = a.length ∧ rowsCmp (a.drop k) (b.drop k) = rowsCmp a b ∧ H = [] ∧
    Sv 39 [(0, .list e1 3 (vC a)), (1, .list e2 3 (vC b)), (2, .fn g []), (11, .list e1 3 (vC a)), (12, .int .i64 a.length), (13, .int .i64 k)] ρ, a.length, [], ?_, ?_⟩
  · exact ⟨0, by omega, rfl, rfl, Sv.intro rfl ⟨rfl, rfl, rfl, rfl, intEq (by rw [vC_length]), rfl, trivial⟩⟩
  rintro m ρ H ⟨k, hk, hr, rfl, d, rfl⟩
  (conv => whnf); refine recA (fun hlt => ?_) (fun hlt => ?_)
  · simp at hlt
    conv => whnf
    refine And.intro (by omega) ?_
    obtain ⟨x, hx, hda, _⟩ := get_drop hlt
    rw [hda] at hr
    (conv => whnf); refine recO (vC_at hx) ?_
    (conv => whnf); refine recA (fun hlt2 => ?_) (fun hlt2 => ?_)
    · simp [vC_length] at hlt2
      conv => whnf
      rw [List.drop_eq_nil_of_le hlt2] at hr
      exact pubI hr
    simp [vC_length] at hlt2
    conv => whnf
    refine And.intro (by omega) ?_
    obtain ⟨y, hy, hdb, _⟩ := get_drop hlt2
    rw [hdb] at hr
    (conv => whnf); refine recO (vC_at hy) ?_
    conv => whnf
    refine ACalls.use (hg x y _) ?_
    (conv => whnf); refine recA (fun hne => ?_) (fun hne => ?_)
    · conv => whnf
      refine pubI ?_
      rw [← hr, rowsCmp, if_neg (by simpa using hne)]
    · conv => whnf
      refine ⟨m - 1, by omega, Gp.none rfl ?_ fun ρ1 h => ⟨k + 1, by omega, ?_, rfl, h⟩⟩
      · exact ⟨.closed _ rfl, .closed _ rfl, .closed _ rfl, .closed _ rfl, .closed _ rfl, pub_int (wrapI ((k : Int) + 1) (by omega) (by omega)), trivial⟩
      · rw [← hr, rowsCmp, if_pos (by simpa using hne)]
  · simp at hlt
    rw [List.drop_eq_nil_of_le hlt] at hr
    (conv => whnf); refine recA (fun hlt2 => ?_) (fun hlt2 => ?_)
    · simp [vC_length] at hlt2
      conv => whnf
      have hdb : b.drop k = b[k]'(by omega) :: b.drop (k + 1) := List.drop_eq_getElem_cons (by omega)
      rw [hdb] at hr
      exact pubI hr
    · simp [vC_length] at hlt2
      conv => whnf
      rw [List.drop_eq_nil_of_le (by omega)] at hr
      exact pubI hr

theorem value_CompareRows_spec {P : Program} (F : F_value_CompareRows P) (e1 e2 : Bool) (a b : List V) (ha : a.length ≤ 1000000) (H : List AObj) :
    ACalls P F.id [.list e1 3 (vC a), .list e2 3 (vC b)] H (fun r H' => r = .int .i64 (rowsCmp a b) ∧ H' = H) := by
  refine ACalls.pure rfl (acalls_of_body F.has ?_)
  conv => whnf
  refine ACalls.use (CompareFunc_spec F.slices_CompareFunc_LValue_Value _ (value_Compare_spec F.value_Compare) e1 e2 a b ha _) ?_
  conv => whnf
  exact .closed _ rfl

set_option maxRecDepth 20000 in
theorem ref1_CompareRows_spec {P : Program} (F : F_warehouseref1_CompareRows P) (e1 e2 : Bool) (a b : List V) (ha : a.length ≤ 1000000) (H : List AObj) :
    ACalls P F.id [.list e1 3 (vC a), .list e2 3 (vC b)] H (fun r H' => r = .int .i64 (rowsCmp a b) ∧ H' = H) := by
  refine ACalls.pure rfl (acalls_of_body F.has ?_)
  conv => whnf
  refine ⟨fun m ρ H => ∃ k : Nat, k + m = a.length ∧ k ≤ b.length ∧ rowsCmp (a.drop k) (b.drop k) = rowsCmp a b ∧ H = [] ∧
    Sv 36 [(0, .list e1 3 (vC a)), (1, .list e2 3 (vC b)), (5, .int .i64 k)] ρ, a.length, [], ?_, ?_⟩
  · exact ⟨0, by omega, by omega, rfl, rfl, Sv.intro rfl ⟨rfl, rfl, rfl, trivial⟩⟩
  rintro m ρ H ⟨k, hk, hkb, hr, rfl, d, rfl⟩
  have fin : a.length ≤ k ∨ b.length ≤ k → cmpI (vC a).length (vC b).length = rowsCmp a b := by
    intro h
    rw [vC_length, vC_length, ← hr]
    by_cases h1 : a.length ≤ k
    · rw [List.drop_eq_nil_of_le h1]
      by_cases h2 : b.length ≤ k
      · rw [List.drop_eq_nil_of_le h2]
        have : a.length = b.length := by omega
        simp [cmpI, rowsCmp, this]
      · rw [show b.drop k = b[k]'(by omega) :: b.drop (k + 1) from List.drop_eq_getElem_cons (by omega), rowsCmp, cmpI, if_pos (by omega)]
    · rw [show a.drop k = a[k]'(by omega) :: a.drop (k + 1) from List.drop_eq_getElem_cons (by omega), List.drop_eq_nil_of_le (show b.length ≤ k by omega), rowsCmp, cmpI, if_neg (by omega), if_pos (by omega)]
  (conv => whnf); refine recA (fun hlt => ?_) (fun hlt => ?_)
  · simp [vC_length] at hlt
    (conv => whnf); refine recA (fun hlt2 => ?_) (fun hlt2 => ?_)
    · simp [vC_length] at hlt2
      conv => whnf
      refine And.intro (by omega) ?_
      obtain ⟨x, hx, hda, _⟩ := get_drop hlt
      obtain ⟨y, hy, hdb, _⟩ := get_drop hlt2
      rw [hda, hdb] at hr
      (conv => whnf); refine recO (vC_at hx) ?_
      conv => whnf
      refine And.intro (by omega) ?_
      (conv => whnf); refine recO (vC_at hy) ?_
      conv => whnf
      refine ⟨_, ref1_Compare_spec F.warehouseref1_Compare x y _, ?_⟩
      (conv => whnf); refine recA (fun hne => ?_) (fun hne => ?_)
      · conv => whnf
        refine pubI ?_
        rw [← hr, rowsCmp, if_neg (by simpa using hne)]
      · conv => whnf
        refine ⟨m - 1, by omega, Gp.none rfl ?_ fun ρ1 h => ⟨k + 1, by omega, by omega, ?_, rfl, h⟩⟩
        · exact ⟨.closed _ rfl, .closed _ rfl, pub_int (wrapI ((k : Int) + 1) (by omega) (by omega)), trivial⟩
        · rw [← hr, rowsCmp, if_pos (by simpa using hne)]
    · simp [vC_length] at hlt2
      conv => whnf
      refine ACalls.use (numbers_spec F.warehouseref1_numbers _ _ _) ?_
      conv => whnf
      exact pubI (fin (.inr hlt2))
  · simp [vC_length] at hlt
    conv => whnf
    refine ACalls.use (numbers_spec F.warehouseref1_numbers _ _ _) ?_
    conv => whnf
    exact pubI (fin (.inl hlt))

theorem ref1_SameRow_spec {P : Program} (F : F_warehouseref1_SameRow P) (e1 e2 : Bool) (a b : List V) (ha : a.length ≤ 1000000) (H : List AObj) :
    ACalls P F.id [.list e1 3 (vC a), .list e2 3 (vC b)] H (fun r H' => r = .bool (rowsCmp a b == 0) ∧ H' = H) := by
  refine ACalls.pure rfl (acalls_of_body F.has ?_)
  conv => whnf
  refine ACalls.use (ref1_CompareRows_spec F.warehouseref1_CompareRows e1 e2 a b ha _) ?_
  conv => whnf
  exact .closed _ rfl

end Go.AW

namespace Go.AW
attribute [local irreducible] ACalls
def Byt (l : List Int) : Prop := ∀ x ∈ l, 0 ≤ x ∧ x ≤ 255

def num (l : List Int) : Int := l.foldl (fun n x => n * 256 + x) 0

theorem Byt.sub {l m : List Int} (h : Byt l) (hm : ∀ x ∈ m, x ∈ l) : Byt m := fun x hx => h x (hm x hx)

theorem Byt.drop {l : List Int} (h : Byt l) (k : Nat) : Byt (l.drop k) := h.sub fun _ hx => List.mem_of_mem_drop hx

theorem Byt.take {l : List Int} (h : Byt l) (k : Nat) : Byt (l.take k) := h.sub fun _ hx => List.mem_of_mem_take hx

end Go.AW

namespace Go.AW
attribute [local irreducible] ACalls
theorem bl_irrefl : ∀ (a : List UInt8), Op.bytesLess a a = false
  | [] => rfl
  | x :: a => by simp [Op.bytesLess, bl_irrefl a]

theorem bl_tri : ∀ (a b : List UInt8), Op.bytesLess a b = true ∨ a = b ∨ Op.bytesLess b a = true
  | [], [] => .inr (.inl rfl)
  | [], _ :: _ => .inl rfl
  | _ :: _, [] => .inr (.inr rfl)
  | x :: a, y :: b => by
    simp only [Op.bytesLess, Bool.or_eq_true, decide_eq_true_eq, Bool.and_eq_true, beq_iff_eq, List.cons.injEq]
    rcases (show x < y ∨ x = y ∨ y < x from by rcases Nat.lt_trichotomy x.toNat y.toNat with h | h | h; exact .inl h; exact .inr (.inl (UInt8.toNat_inj.1 h)); exact .inr (.inr h)) with h | h | h
    · exact .inl (.inl h)
    · subst h
      rcases bl_tri a b with h | h | h
      · exact .inl (.inr ⟨rfl, h⟩)
      · exact .inr (.inl ⟨rfl, h⟩)
      · exact .inr (.inr (.inr ⟨rfl, h⟩))
    · exact .inr (.inr (.inl h))

theorem bl_trans : ∀ (a b c : List UInt8), Op.bytesLess a b = true → Op.bytesLess b c = true → Op.bytesLess a c = true
  | _, [], _, h, _ => by cases ‹List UInt8› <;> simp [Op.bytesLess] at h
  | _, _ :: _, [], _, h => by simp [Op.bytesLess] at h
  | [], _ :: _, _ :: _, _, _ => rfl
  | x :: a, y :: b, z :: c, h1, h2 => by
    simp only [Op.bytesLess, Bool.or_eq_true, decide_eq_true_eq, Bool.and_eq_true, beq_iff_eq] at *
    rcases h1 with h1 | ⟨rfl, h1⟩
    · rcases h2 with h2 | ⟨rfl, h2⟩
      · exact .inl (UInt8.lt_trans h1 h2)
      · exact .inl h1
    · rcases h2 with h2 | ⟨rfl, h2⟩
      · exact .inl h2
      · exact .inr ⟨rfl, bl_trans a b c h1 h2⟩

structure IsCmp {α : Type} (c : α → α → Int) : Prop where
  vals : ∀ a b, c a b = -1 ∨ c a b = 0 ∨ c a b = 1
  anti : ∀ a b, c b a = - c a b
  zero : ∀ a b, c a b = 0 ↔ a = b
  trans : ∀ a b d, c a b < 0 → c b d < 0 → c a d < 0

theorem IsCmp.ltle {α : Type} {c : α → α → Int} (h : IsCmp c) {a b d : α} (h1 : c a b < 0) (h2 : c b d ≤ 0) : c a d < 0 := by
  by_cases e : c b d = 0
  · rw [← (h.zero b d).1 e]; exact h1
  · exact h.trans a b d h1 (by omega)

theorem IsCmp.le {α : Type} {c : α → α → Int} (h : IsCmp c) {a b d : α} (h1 : c a b ≤ 0) (h2 : c b d ≤ 0) : c a d ≤ 0 := by
  by_cases e : c a b = 0
  · rw [(h.zero a b).1 e]; exact h2
  · have := h.ltle (a := a) (by omega) h2; omega

theorem isCmp_int : IsCmp cmpI := by
  refine ⟨fun a b => ?_, fun a b => ?_, fun a b => ?_, fun a b d => ?_⟩ <;> unfold cmpI <;> (repeat' split) <;> omega

theorem isCmp_str : IsCmp cmpS := by
  have asym : ∀ a b, Op.bytesLess a b = true → Op.bytesLess b a = true → False := fun a b h1 h2 => by
    have := bl_trans a b a h1 h2
    rw [bl_irrefl] at this; cases this
  refine ⟨fun a b => ?_, fun a b => ?_, fun a b => ?_, fun a b d => ?_⟩
  · unfold cmpS; split
    · simp
    · split <;> simp
  · unfold cmpS
    rcases bl_tri a b with h | h | h
    · have hb : Op.bytesLess b a = false := by cases hb : Op.bytesLess b a with | false => rfl | true => exact (asym a b h hb).elim
      have hne : ¬ b = a := by rintro rfl; rw [bl_irrefl] at h; cases h
      simp [h, hb, hne]
    · subst h; simp [bl_irrefl]
    · have hb : Op.bytesLess a b = false := by cases hb : Op.bytesLess a b with | false => rfl | true => exact (asym a b hb h).elim
      have hne : ¬ a = b := by rintro rfl; rw [bl_irrefl] at h; cases h
      simp [h, hb, hne]
  · unfold cmpS
    split
    · rename_i h
      refine ⟨fun h => by omega, ?_⟩
      rintro rfl
      rw [bl_irrefl] at h; cases h
    · split <;> simp [*]
  · unfold cmpS
    intro h1 h2
    have e1 : Op.bytesLess a b = true := by
      revert h1
      split
      · intro _; assumption
      · split <;> intro h <;> omega
    have e2 : Op.bytesLess b d = true := by
      revert h2
      split
      · intro _; assumption
      · split <;> intro h <;> omega
    rw [if_pos (bl_trans a b d e1 e2)]; omega

theorem isCmp_val : IsCmp valCmp := by
  have I := isCmp_int
  have S := isCmp_str
  refine ⟨fun a b => ?_, fun a b => ?_, fun a b => ?_, fun a b d => ?_⟩
  · have := I.vals a.kind b.kind; have := I.vals a.num b.num; have := S.vals a.str.data.toList b.str.data.toList
    simp only [valCmp, orI]; (repeat' split) <;> omega
  · have := I.anti a.kind b.kind; have := I.anti a.num b.num; have := S.anti a.str.data.toList b.str.data.toList
    simp only [valCmp, orI]; (repeat' split) <;> omega
  · have h1 := I.zero a.kind b.kind; have h2 := I.zero a.num b.num; have h3 := S.zero a.str.data.toList b.str.data.toList
    constructor
    · intro h
      simp only [valCmp, orI] at h
      have e1 : cmpI a.kind b.kind = 0 := by revert h; (repeat' split) <;> omega
      have e2 : cmpI a.num b.num = 0 := by revert h; (repeat' split) <;> omega
      have e3 : cmpS a.str.data.toList b.str.data.toList = 0 := by revert h; (repeat' split) <;> omega
      obtain ⟨ak, an, ⟨⟨asv⟩⟩⟩ := a
      obtain ⟨bk, bn, ⟨⟨bl⟩⟩⟩ := b
      have q1 := h1.1 e1; have q2 := h2.1 e2; have q3 := h3.1 e3
      simp only at q1 q2 q3
      subst q1 q2 q3; rfl
    · rintro rfl
      simp only [valCmp, orI]
      rw [if_pos (h1.2 rfl), if_pos (h2.2 rfl), if_pos (h3.2 rfl)]
  · intro h1 h2
    have a1 := I.trans a.kind b.kind d.kind; have a2 := I.trans a.num b.num d.num; have a3 := S.trans a.str.data.toList b.str.data.toList d.str.data.toList
    have v1 := I.vals a.kind b.kind; have v2 := I.vals b.kind d.kind; have v3 := I.vals a.num b.num; have v4 := I.vals b.num d.num
    have z1 := I.zero a.kind b.kind; have z2 := I.zero b.kind d.kind; have z3 := I.zero a.num b.num; have z4 := I.zero b.num d.num
    have z5 := I.zero a.kind d.kind; have z6 := I.zero a.num d.num
    simp only [valCmp, orI] at *
    by_cases k1 : a.kind = b.kind <;> by_cases k2 : b.kind = d.kind <;> by_cases n1 : a.num = b.num <;> by_cases n2 : b.num = d.num <;> simp_all <;> (repeat' split) <;> omega

end Go.AW

namespace Go.AW
attribute [local irreducible] ACalls
structure Col where
  name : ByteArray
  kind : Int
  nul : Bool

def idxOf {α : Type} (p : α → Bool) : List α → Int → Int
  | [], _ => -1
  | c :: cs, i => if p c then i else idxOf p cs (i + 1)

end Go.AW

namespace Go.AW
attribute [local irreducible] ACalls
theorem atV_bounds (l : List Int) (i : Int) : 0 ≤ atV l i ∧ atV l i ≤ 131070 := by
  unfold atV
  have h1 := and_ffff i
  split
  · omega
  · have hl : 0 < (l.length : Int) := by omega
    have h2 := and_ffff (l.getD ((and64 i 65535).tmod l.length).toNat 0)
    have h3 : 0 ≤ (and64 i 65535).tdiv l.length := Int.tdiv_nonneg (by omega) (by omega)
    have h4 : (and64 i 65535).tdiv l.length ≤ and64 i 65535 := by
      rw [Int.tdiv_eq_ediv_of_nonneg (by omega)]
      exact Int.ediv_le_self _ (by omega)
    rw [wrapI ((and64 i 65535).tdiv l.length) (by omega) (by omega), wrapI _ (by omega) (by omega)]
    omega

theorem ACalls.frz1 {P : Program} {f : FuncId} {args : List AVal} {n sz : Nat} {es : List (List AVal)} {H : List AObj} (ha : args.all AVal.closed = true) (h : ACalls P f args [] (fun r H1 => r = .sl 0 n 0 n ∧ H1 = [.arr sz es]))
    (hn : n = es.length) (hp : pureEs es = true) : ACalls P f args H (fun r H' => r = .list false sz es ∧ H' = H) := by
  refine ACalls.pure ha (h.mono ?_)
  rintro r H1 ⟨rfl, rfl⟩
  exact pubF rfl hn hn hp

def fillUp {α : Type} (W : List α) (z : α) (k : Nat) : List α := W.take k ++ List.replicate (W.length - k) z

theorem fillUp_length {α : Type} (W : List α) (z : α) (k : Nat) (h : k ≤ W.length) : (fillUp W z k).length = W.length := by simp [fillUp]; omega

theorem fillUp_zero {α : Type} (W : List α) (z : α) : fillUp W z 0 = List.replicate W.length z := by simp [fillUp]

theorem fillUp_all {α : Type} (W : List α) (z : α) : fillUp W z W.length = W := by simp [fillUp]

theorem fillUp_set {α : Type} (W : List α) (z : α) (k : Nat) (x : α) (h : W[k]? = some x) : (fillUp W z k).set k x = fillUp W z (k + 1) := by
  have hk := (List.getElem?_eq_some_iff.1 h).1
  unfold fillUp
  obtain ⟨m, hm⟩ : ∃ m, W.length - k = m + 1 := ⟨W.length - k - 1, by omega⟩
  have h1 : (W.take k).length = k := by simp; omega
  rw [hm, List.replicate_succ, List.set_append_right _ _ (by omega), h1, Nat.sub_self, List.set_cons_zero, List.take_add_one, h, show W.length - (k + 1) = m by omega]
  simp

theorem fillUp_get {α : Type} (W : List α) (z : α) (k : Nat) (hk : k < W.length) : (fillUp W z k)[k]? = some z := by
  have h1 : (W.take k).length = k := by simp; omega
  rw [fillUp, List.getElem?_append_right (by omega), h1, Nat.sub_self]
  obtain ⟨m, hm⟩ : ∃ m, W.length - k = m + 1 := ⟨W.length - k - 1, by omega⟩
  rw [hm, List.replicate_succ]; rfl

def zV : V := ⟨0, 0, bs []⟩

theorem setEs_vC (l : List V) (k : Nat) (v : V) : setEs (vC l) k (valC v) = vC (l.set k v) := by rw [setEs_eq]; simp [vC]

end Go.AW

namespace Go.AW
attribute [local irreducible] ACalls
theorem V.ext' {a b : V} (h1 : a.kind = b.kind) (h2 : a.num = b.num) (h3 : a.str = b.str) : a = b := by
  cases a; cases b; simp_all

theorem rowsCmp_zero : ∀ (a b : List V), rowsCmp a b = 0 ↔ a = b
  | [], [] => by simp [rowsCmp]
  | [], _ :: _ => by simp [rowsCmp]
  | _ :: _, [] => by simp [rowsCmp]
  | x :: a, y :: b => by
    have hz := isCmp_val.zero x y
    rw [rowsCmp]
    by_cases h : valCmp x y = 0
    · rw [if_pos h, rowsCmp_zero a b, hz.1 h]; simp
    · rw [if_neg h]
      constructor
      · intro h2; exact absurd h2 h
      · intro h2; simp at h2; exact absurd (hz.2 h2.1) h

end Go.AW

namespace Go.AW
attribute [local irreducible] ACalls
def pickL {α : Type} (z : α) (l : List α) (is : List Int) : List α := is.map fun i => if 0 ≤ i ∧ i < (l.length : Int) then l.getD i.toNat z else z

theorem pickL_length {α : Type} (z : α) (l : List α) (is : List Int) : (pickL z l is).length = is.length := by simp [pickL]

theorem pickL_in {α : Type} (z : α) (l : List α) (is : List Int) (k : Nat) (i : Int) (x : α) (h : is[k]? = some i) (h0 : 0 ≤ i) (hx : l[i.toNat]? = some x) : (pickL z l is)[k]? = some x := by
  have hi := (List.getElem?_eq_some_iff.1 hx).1
  rw [pickL, List.getElem?_map, h, Option.map_some, if_pos ⟨h0, by omega⟩, List.getD_eq_getElem?_getD, hx]; rfl

theorem pickL_out {α : Type} (z : α) (l : List α) (is : List Int) (k : Nat) (i : Int) (h : is[k]? = some i) (h0 : ¬ (0 ≤ i ∧ i < (l.length : Int))) : (pickL z l is)[k]? = some z := by
  rw [pickL, List.getElem?_map, h, Option.map_some, if_neg h0]

theorem fillUp_skip {α : Type} (W : List α) (z : α) (k : Nat) (h : W[k]? = some z) : fillUp W z k = fillUp W z (k + 1) := by
  rw [← fillUp_set W z k z h]
  have hg := fillUp_get W z k (List.getElem?_eq_some_iff.1 h).1
  obtain ⟨hl, he⟩ := List.getElem?_eq_some_iff.1 hg
  conv => lhs; rw [← List.set_getElem_self hl]
  rw [he]

theorem iC_at {l : List Int} {k : Nat} {x : Int} (h : l[k]? = some x) : (iC l)[k]? = some [.int .i64 x] := by simp [iC, h]

set_option maxRecDepth 20000 in
theorem pick_Value_raw {P : Program} (F : F_schema_pick_Value P) (e1 e2 : Bool) (r : List V) (is : List Int) (hr : r.length ≤ 1000000) (hl : is.length ≤ 1000000) :
    ACalls P F.id [.list e1 3 (vC r), .list e2 1 (iC is)] [] (fun q H' => q = .sl 0 is.length 0 is.length ∧ H' = [.arr 3 (vC (pickL zV r is))]) := by
  refine acalls_of_body F.has ?_
  conv => whnf
  refine And.intro ⟨by omega, by omega, by rw [iC_length]; show (is.length : Int) * 32 ≤ 1099511627776; omega, by rw [iC_length]; show (is.length : Int) ≤ 1099511627776; omega⟩ ?_
  conv => whnf
  refine ⟨fun m ρ H => ∃ k : Nat, k + m = is.length ∧ H = [.arr 3 (vC (fillUp (pickL zV r is) zV k))] ∧ Sv 35 [(0, .list e1 3 (vC r)), (5, .sl 0 is.length 0 is.length), (11, .list e2 1 (iC is)), (12, .int .i64 is.length), (13, .int .i64 k)] ρ, is.length, [], ?_, ?_⟩
  · refine ⟨0, by omega, ?_, Sv.intro rfl ⟨rfl, slEq ?_ ?_, rfl, intEq (by rw [iC_length]), rfl, trivial⟩⟩
    · rw [fillUp_zero, pickL_length]
      simp [vC, iC_length]; exact .inr rfl
    · simp [iC_length]
    · simp [iC_length]
  rintro m ρ H ⟨k, hk, rfl, d, rfl⟩
  (conv => whnf); refine recA (fun hlt => ?_) (fun hlt => ?_)
  · simp at hlt
    obtain ⟨i, hi, _, _⟩ := get_drop hlt
    have hlen : (vC (fillUp (pickL zV r is) zV k)).length = is.length := by rw [vC_length, fillUp_length _ _ _ (by rw [pickL_length]; omega), pickL_length]
    have e1 := wrapI ((k : Int) + 1) (by omega) (by omega)
    conv => whnf
    refine And.intro (by omega) ?_
    (conv => whnf); refine recO (iC_at hi) ?_
    conv => whnf
    refine recA (fun h0 => ?_) (fun h0 => ?_)
    · replace h0 : decide (i ≥ 0) = true := h0
      simp at h0
      (conv => whnf); refine recA (fun h1 => ?_) (fun h1 => ?_)
      · replace h1 : decide (i < ((vC r).length : Int)) = true := h1
        simp [vC_length] at h1
        obtain ⟨x, hx, _, _⟩ := get_drop (l := r) (k := i.toNat) (by omega)
        have hw := pickL_in zV r is k i x hi h0 hx
        conv => whnf
        refine And.intro h0 ?_
        (conv => whnf); refine recO (vC_at hx) ?_
        (conv => whnf); refine recT (by rw [hlen]; exact Nat.beq_refl _) ?_
        conv => whnf
        refine And.intro ⟨by omega, by omega⟩ ?_
        (conv => whnf); refine recT (by rw [hlen]; exact Nat.beq_refl _) ?_
        conv => whnf
        have hidx : (vC (fillUp (pickL zV r is) zV k))[0 + (k : Int).toNat]? = some (valC zV) := by
          rw [Nat.zero_add, Int.toNat_natCast]
          exact vC_at (fillUp_get _ _ _ (by rw [pickL_length]; omega))
        refine recO hidx ?_
        conv => whnf
        refine ⟨m - 1, by omega, Gp.keep rfl ?_ fun ρ1 h => ⟨k + 1, by omega, ?_, h⟩⟩
        · exact ⟨rfl, rfl, rfl, rfl, intEq e1, trivial⟩
        · rw [← fillUp_set _ _ _ _ hw, ← setEs_vC]
          show [AObj.arr 3 (setEs (vC (fillUp (pickL zV r is) zV k)) (0 + (k : Int).toNat) (valC x))] = _
          rw [Nat.zero_add, Int.toNat_natCast]
      · replace h1 : decide (i < ((vC r).length : Int)) = false := h1
        simp [vC_length] at h1
        conv => whnf
        refine ⟨m - 1, by omega, Gp.keep rfl ?_ fun ρ1 h => ⟨k + 1, by omega, ?_, h⟩⟩
        · exact ⟨rfl, rfl, rfl, rfl, intEq e1, trivial⟩
        · rw [← fillUp_skip _ _ _ (pickL_out zV r is k i hi (by omega))]
    · replace h0 : decide (i ≥ 0) = false := h0
      simp at h0
      conv => whnf
      refine ⟨m - 1, by omega, Gp.keep rfl ?_ fun ρ1 h => ⟨k + 1, by omega, ?_, h⟩⟩
      · exact ⟨rfl, rfl, rfl, rfl, intEq e1, trivial⟩
      · rw [← fillUp_skip _ _ _ (pickL_out zV r is k i hi (by omega))]
  · simp at hlt
    have : k = is.length := by omega
    subst this
    conv => whnf
    refine ⟨rfl, ?_⟩
    rw [← pickL_length zV r is, fillUp_all]

theorem pick_Value_spec {P : Program} (F : F_schema_pick_Value P) (e1 e2 : Bool) (r : List V) (is : List Int) (hr : r.length ≤ 1000000) (hl : is.length ≤ 1000000) (H : List AObj) :
    ACalls P F.id [.list e1 3 (vC r), .list e2 1 (iC is)] H (fun q H' => q = .list false 3 (vC (pickL zV r is)) ∧ H' = H) :=
  ACalls.frz1 (by simp [AVal.closed, AVal.isPure]) (pick_Value_raw F e1 e2 r is hr hl) (by rw [vC_length, pickL_length]) (pureEs_vC _)

theorem schema_Pick_spec {P : Program} (F : F_schema_Pick P) (e1 e2 : Bool) (r : List V) (is : List Int) (hr : r.length ≤ 1000000) (hl : is.length ≤ 1000000) (H : List AObj) :
    ACalls P F.id [.list e1 3 (vC r), .list e2 1 (iC is)] H (fun q H' => q = .list false 3 (vC (pickL zV r is)) ∧ H' = H) := by
  refine ACalls.pure (by simp [AVal.closed, AVal.isPure]) (acalls_of_body F.has ?_)
  (conv => whnf); refine ACalls.use (pick_Value_spec F.schema_pick_Value e1 e2 r is hr hl _) ?_
  conv => whnf
  exact .closed _ rfl

set_option maxRecDepth 20000 in
theorem ref5_Pick_raw {P : Program} (F : F_warehouseref5_Pick P) (e1 e2 : Bool) (r : List V) (is : List Int) (hr : r.length ≤ 1000000) (hl : is.length ≤ 1000000) :
    ACalls P F.id [.list e1 3 (vC r), .list e2 1 (iC is)] [] (fun q H' => q = .sl 0 is.length 0 is.length ∧ H' = [.arr 3 (vC (pickL zV r is))]) := by
  refine acalls_of_body F.has ?_
  conv => whnf
  refine And.intro ⟨by omega, by omega, by rw [iC_length]; show (is.length : Int) * 32 ≤ 1099511627776; omega, by rw [iC_length]; show (is.length : Int) ≤ 1099511627776; omega⟩ ?_
  conv => whnf
  refine ⟨fun m ρ H => ∃ k : Nat, k + m = is.length ∧ H = [.arr 3 (vC (fillUp (pickL zV r is) zV k))] ∧ Sv 41 [(0, .list e1 3 (vC r)), (1, .list e2 1 (iC is)), (5, .sl 0 is.length 0 is.length), (6, .int .i64 k)] ρ, is.length, [], ?_, ?_⟩
  · refine ⟨0, by omega, ?_, Sv.intro rfl ⟨rfl, rfl, slEq ?_ ?_, rfl, trivial⟩⟩
    · rw [fillUp_zero, pickL_length]
      simp [vC, iC_length]; exact .inr rfl
    · simp [iC_length]
    · simp [iC_length]
  rintro m ρ H ⟨k, hk, rfl, d, rfl⟩
  (conv => whnf); refine recA (fun hlt => ?_) (fun hlt => ?_)
  · simp [iC_length] at hlt
    obtain ⟨i, hi, _, _⟩ := get_drop hlt
    have hlen : (vC (fillUp (pickL zV r is) zV k)).length = is.length := by rw [vC_length, fillUp_length _ _ _ (by rw [pickL_length]; omega), pickL_length]
    have e1 := wrapI ((k : Int) + 1) (by omega) (by omega)
    conv => whnf
    refine And.intro (by omega) ?_
    (conv => whnf); refine recO (iC_at hi) ?_
    conv => whnf
    refine recA (fun h0 => ?_) (fun h0 => ?_)
    · replace h0 : decide (i ≥ 0) = true := h0
      simp at h0
      conv => whnf
      refine And.intro (by omega) ?_
      (conv => whnf); refine recO (iC_at hi) ?_
      (conv => whnf); refine recA (fun h1 => ?_) (fun h1 => ?_)
      · replace h1 : decide (i < ((vC r).length : Int)) = true := h1
        simp [vC_length] at h1
        obtain ⟨x, hx, _, _⟩ := get_drop (l := r) (k := i.toNat) (by omega)
        have hw := pickL_in zV r is k i x hi h0 hx
        conv => whnf
        refine And.intro (by omega) ?_
        (conv => whnf); refine recO (iC_at hi) ?_
        (conv => whnf); refine And.intro h0 ?_
        (conv => whnf); refine recO (vC_at hx) ?_
        (conv => whnf); refine recT (by rw [hlen]; exact Nat.beq_refl _) ?_
        conv => whnf
        refine And.intro ⟨by omega, by omega⟩ ?_
        (conv => whnf); refine recT (by rw [hlen]; exact Nat.beq_refl _) ?_
        conv => whnf
        have hidx : (vC (fillUp (pickL zV r is) zV k))[0 + (k : Int).toNat]? = some (valC zV) := by
          rw [Nat.zero_add, Int.toNat_natCast]
          exact vC_at (fillUp_get _ _ _ (by rw [pickL_length]; omega))
        refine recO hidx ?_
        conv => whnf
        refine ⟨m - 1, by omega, Gp.keep rfl ?_ fun ρ1 h => ⟨k + 1, by omega, ?_, h⟩⟩
        · exact ⟨rfl, rfl, rfl, intEq e1, trivial⟩
        · rw [← fillUp_set _ _ _ _ hw, ← setEs_vC]
          show [AObj.arr 3 (setEs (vC (fillUp (pickL zV r is) zV k)) (0 + (k : Int).toNat) (valC x))] = _
          rw [Nat.zero_add, Int.toNat_natCast]
      · replace h1 : decide (i < ((vC r).length : Int)) = false := h1
        simp [vC_length] at h1
        conv => whnf
        refine ⟨m - 1, by omega, Gp.keep rfl ?_ fun ρ1 h => ⟨k + 1, by omega, ?_, h⟩⟩
        · exact ⟨rfl, rfl, rfl, intEq e1, trivial⟩
        · rw [← fillUp_skip _ _ _ (pickL_out zV r is k i hi (by omega))]
    · replace h0 : decide (i ≥ 0) = false := h0
      simp at h0
      conv => whnf
      refine ⟨m - 1, by omega, Gp.keep rfl ?_ fun ρ1 h => ⟨k + 1, by omega, ?_, h⟩⟩
      · exact ⟨rfl, rfl, rfl, intEq e1, trivial⟩
      · rw [← fillUp_skip _ _ _ (pickL_out zV r is k i hi (by omega))]
  · simp [iC_length] at hlt
    have : k = is.length := by omega
    subst this
    conv => whnf
    refine ⟨rfl, ?_⟩
    rw [← pickL_length zV r is, fillUp_all]

theorem ref5_Pick_spec {P : Program} (F : F_warehouseref5_Pick P) (e1 e2 : Bool) (r : List V) (is : List Int) (hr : r.length ≤ 1000000) (hl : is.length ≤ 1000000) (H : List AObj) :
    ACalls P F.id [.list e1 3 (vC r), .list e2 1 (iC is)] H (fun q H' => q = .list false 3 (vC (pickL zV r is)) ∧ H' = H) :=
  ACalls.frz1 (by simp [AVal.closed, AVal.isPure]) (ref5_Pick_raw F e1 e2 r is hr hl) (by rw [vC_length, pickL_length]) (pureEs_vC _)

end Go.AW

namespace Go.AW
attribute [local irreducible] ACalls
theorem pureEs_iC (l : List Int) : pureEs (iC l) = true := by simp [pureEs, iC, AVal.isPure]

theorem Ghost.one {n : Nat} {live : List (Nat × AVal)} {ρ : List AVal} {H : List AObj} {I : List AVal → List AObj → Prop} (id : Nat) (sz : Nat) (es : List (List AVal)) (ho : H[id]? = .some (.arr sz es)) (hp : pureEs es = true) (hl : ρ.length = n) (h : SvPub H [id] ρ live) (hI : ∀ ρ1, Sv n live ρ1 → I ρ1 [.arr sz es]) : Ghost [] ρ H I :=
  ⟨Gp.one id sz es ho hp hl h hI⟩

end Go.AW

namespace Go.AW
attribute [local irreducible] ACalls
def eqS (s t : ByteArray) : Bool := s.data.toList == t.data.toList

theorem idxOf_any {α : Type} (p : α → Bool) : ∀ (l : List α) (i : Int), 0 ≤ i → (idxOf p l i ≥ 0 ↔ l.any p = true)
  | [], i, h => by simp [idxOf]
  | c :: cs, i, h => by
    rw [idxOf]
    split
    · simp_all
    · rw [idxOf_any p cs (i + 1) (by omega)]; simp_all

end Go.AW

namespace Go.AW
attribute [local irreducible] ACalls
structure Ent where
  row : List V
  cnt : Int

def entC (e : Ent) : List AVal := [.list false 3 (vC e.row), .int .i64 e.cnt]

def eC (l : List Ent) : List (List AVal) := l.map entC

theorem eC_length (l : List Ent) : (eC l).length = l.length := List.length_map ..

theorem eC_append (a b : List Ent) : eC (a ++ b) = eC a ++ eC b := List.map_append

theorem pureEs_eC (l : List Ent) : pureEs (eC l) = true := by simp [pureEs, eC, entC, AVal.isPure]

theorem eC_at {l : List Ent} {k : Nat} {x : Ent} (h : l[k]? = some x) : (eC l)[k]? = some (entC x) := by
  rw [eC, List.getElem?_map, h]; rfl

def fitB (e : Ent) : Int := if 12 < e.row.length ∨ e.cnt < -65536 ∨ 65536 < e.cnt then 2 else if e.row.all validB then 0 else 8

theorem fitB_zero (e : Ent) (h : fitB e = 0) : e.row.length ≤ 12 ∧ -65536 ≤ e.cnt ∧ e.cnt ≤ 65536 ∧ ∀ v ∈ e.row, validB v = true := by
  unfold fitB at h
  split at h
  · cases h
  · split at h
    · rename_i h1 h2
      exact ⟨by omega, by omega, by omega, by simpa using h2⟩
    · cases h

set_option maxRecDepth 20000 in
theorem formed_spec {P : Program} (F : F_bag_formed P) (x : Ent) (H : List AObj) :
    ACalls P F.id [.agg (entC x)] H (fun r H' => r = .int .i64 (fitB x) ∧ H' = H) := by
  refine ACalls.pure (by simp [AVal.closed, entC, AVal.isPure]) (acalls_of_body F.has ?_)
  (conv => whnf); refine recA (fun h0 => ?_) (fun h0 => ?_)
  · simp [vC_length] at h0
    conv => whnf
    exact pubI (by rw [fitB, if_pos (by omega)])
  simp [vC_length] at h0
  (conv => whnf); refine recA (fun h1 => ?_) (fun h1 => ?_)
  · simp at h1
    conv => whnf
    exact pubI (by rw [fitB, if_pos (by omega)])
  simp at h1
  (conv => whnf); refine recA (fun h2 => ?_) (fun h2 => ?_)
  · simp at h2
    conv => whnf
    exact pubI (by rw [fitB, if_pos (by omega)])
  simp at h2
  have hR : fitB x = if x.row.all validB then 0 else 8 := by rw [fitB, if_neg (by omega)]
  conv => whnf
  refine ⟨fun m ρ H1 => ∃ k : Nat, k + m = x.row.length ∧ (x.row.drop k).all validB = x.row.all validB ∧ H1 = [.arr 2 [entC x]] ∧
    Sv 30 [(20, .list false 3 (vC x.row)), (21, .int .i64 x.row.length), (22, .int .i64 k)] ρ, x.row.length, [], ?_, ?_⟩
  · exact ⟨0, by omega, rfl, rfl, Sv.intro rfl ⟨rfl, intEq (by rw [vC_length]), rfl, trivial⟩⟩
  rintro m ρ H1 ⟨k, hk, hr, rfl, d, rfl⟩
  (conv => whnf); refine recA (fun hlt => ?_) (fun hlt => ?_)
  · simp at hlt
    obtain ⟨v, hv, hd, _⟩ := get_drop hlt
    rw [hd, List.all_cons] at hr
    conv => whnf
    refine And.intro (by omega) ?_
    (conv => whnf); refine recO (vC_at hv) ?_
    conv => whnf
    refine ACalls.use (value_Valid_spec F.value_Valid v _) ?_
    (conv => whnf); refine recA (fun h => ?_) (fun hf => ?_)
    · replace h : (!(validB v)) = true := h
      conv => whnf
      exact pubI (by rw [hR, ← hr, if_neg (by simp_all)])
    · replace hf : (!(validB v)) = false := hf
      conv => whnf
      refine ⟨m - 1, by omega, Gp.one 0 2 [entC x] rfl (by simp [pureEs, entC, AVal.isPure]) rfl ?_ fun ρ1 h => ⟨k + 1, by omega, ?_, rfl, h⟩⟩
      · exact ⟨.closed _ rfl, .closed _ rfl, pub_int (wrapI ((k : Int) + 1) (by omega) (by omega)), trivial⟩
      · rw [← hr]; simp_all
  · simp at hlt
    conv => whnf
    rw [List.drop_eq_nil_of_le hlt] at hr
    exact pubI (by rw [hR, ← hr]; rfl)

theorem small_spec {P : Program} (F : F_warehouseref6_small P) (n : Int) (H : List AObj) :
    ACalls P F.id [.int .i64 n] H (fun r H' => r = .bool (decide (-65536 ≤ n) && decide (n ≤ 65536)) ∧ H' = H) := by
  refine ACalls.pure rfl (acalls_of_body F.has ?_)
  (conv => whnf); refine recA (fun h => ?_) (fun h => ?_)
  · simp at h
    conv => whnf
    exact pubB (by simp [h])
  · simp at h
    conv => whnf
    exact pubB (by simp; omega)

set_option maxRecDepth 20000 in
theorem fits_spec {P : Program} (F : F_warehouseref6_fits P) (x : Ent) (H : List AObj) :
    ACalls P F.id [.agg (entC x)] H (fun r H' => r = .int .i64 (fitB x) ∧ H' = H) := by
  refine ACalls.pure (by simp [AVal.closed, entC, AVal.isPure]) (acalls_of_body F.has ?_)
  (conv => whnf); refine recA (fun h0 => ?_) (fun h0 => ?_)
  · simp [vC_length] at h0
    conv => whnf
    exact pubI (by rw [fitB, if_pos (by omega)])
  simp [vC_length] at h0
  (conv => whnf); refine ACalls.use (small_spec F.warehouseref6_small _ _) ?_
  (conv => whnf); refine recA (fun h1 => ?_) (fun h1 => ?_)
  · replace h1 : (!(decide (-65536 ≤ x.cnt) && decide (x.cnt ≤ 65536))) = true := h1
    simp at h1
    conv => whnf
    exact pubI (by rw [fitB, if_pos (by omega)])
  replace h1 : (!(decide (-65536 ≤ x.cnt) && decide (x.cnt ≤ 65536))) = false := h1
  simp at h1
  have hR : fitB x = if x.row.all validB then 0 else 8 := by rw [fitB, if_neg (by omega)]
  conv => whnf
  refine ⟨fun m ρ H1 => ∃ k : Nat, k + m = x.row.length ∧ (x.row.drop k).all validB = x.row.all validB ∧ H1 = [.arr 2 [entC x]] ∧
    Sv 28 [(1, .ptr 0 1 0 0), (3, .int .i64 k)] ρ, x.row.length, [], ?_, ?_⟩
  · exact ⟨0, by omega, rfl, rfl, Sv.intro rfl ⟨rfl, rfl, trivial⟩⟩
  rintro m ρ H1 ⟨k, hk, hr, rfl, d, rfl⟩
  (conv => whnf); refine recA (fun hlt => ?_) (fun hlt => ?_)
  · simp [vC_length] at hlt
    obtain ⟨v, hv, hd, _⟩ := get_drop hlt
    rw [hd, List.all_cons] at hr
    conv => whnf
    refine And.intro (by omega) ?_
    (conv => whnf); refine recO (vC_at hv) ?_
    conv => whnf
    refine ACalls.use (ref1_Valid_spec F.warehouseref1_Valid v _) ?_
    (conv => whnf); refine recA (fun h => ?_) (fun hf => ?_)
    · replace h : (!(validB v)) = true := h
      conv => whnf
      exact pubI (by rw [hR, ← hr, if_neg (by simp_all)])
    · replace hf : (!(validB v)) = false := hf
      conv => whnf
      refine ⟨m - 1, by omega, Gp.keep rfl ?_ fun ρ1 h => ⟨k + 1, by omega, ?_, rfl, h⟩⟩
      · exact ⟨rfl, intEq (wrapI ((k : Int) + 1) (by omega) (by omega)), trivial⟩
      · rw [← hr]; simp_all
  · simp [vC_length] at hlt
    conv => whnf
    rw [List.drop_eq_nil_of_le hlt] at hr
    exact pubI (by rw [hR, ← hr]; rfl)

def notB : Option (List V) → List V → Bool
  | some q, r => decide (rowsCmp q r ≥ 0)
  | none, _ => false

def bvGo : List Ent → Option (List V) → Int
  | [], _ => 0
  | e :: es, p => if fitB e ≠ 0 then fitB e else if e.cnt = 0 then 8 else if notB p e.row = true then 14 else bvGo es (some e.row)

def bagB (b : List Ent) : Int := if 4096 < b.length then 2 else bvGo b none

def prevR (b : List Ent) : Nat → Option (List V)
  | 0 => none
  | k + 1 => (b[k]?).map Ent.row

theorem prevR_succ {b : List Ent} {k : Nat} {x : Ent} (h : b[k]? = some x) : prevR b (k + 1) = some x.row := by rw [prevR, h]; rfl

set_option maxRecDepth 20000 in
theorem bag_Validate_spec {P : Program} (F : F_bag_Validate P) (ex : Bool) (b : List Ent) (H : List AObj) :
    ACalls P F.id [.list ex 2 (eC b)] H (fun r H' => r = .int .i64 (bagB b) ∧ H' = H) := by
  refine ACalls.pure (by simp [AVal.closed, AVal.isPure]) (acalls_of_body F.has ?_)
  (conv => whnf); refine recA (fun h0 => ?_) (fun h0 => ?_)
  · simp [eC_length] at h0
    conv => whnf
    exact pubI (by rw [bagB, if_pos (by omega)])
  simp [eC_length] at h0
  have hR : bagB b = bvGo b none := by rw [bagB, if_neg (by omega)]
  conv => whnf
  refine ⟨fun m ρ H1 => ∃ k : Nat, k + m = b.length ∧ bvGo (b.drop k) (prevR b k) = bagB b ∧ (∀ q, prevR b k = some q → q.length ≤ 12) ∧ H1 = [] ∧
    Sv 39 [(0, .list ex 2 (eC b)), (9, .list ex 2 (eC b)), (10, .int .i64 b.length), (11, .int .i64 k)] ρ, b.length, [], ?_, ?_⟩
  · exact ⟨0, by omega, hR.symm, fun q h => (by cases h), rfl, Sv.intro rfl ⟨rfl, rfl, intEq (by rw [eC_length]), rfl, trivial⟩⟩
  rintro m ρ H1 ⟨k, hk, hr, hq, rfl, d, rfl⟩
  (conv => whnf); refine recA (fun hlt => ?_) (fun hlt => ?_)
  · simp at hlt
    obtain ⟨x, hx, hd, _⟩ := get_drop hlt
    rw [hd, bvGo] at hr
    have ew := wrapI ((k : Int) + 1) (by omega) (by omega)
    conv => whnf
    refine And.intro (by omega) ?_
    (conv => whnf); refine recO (eC_at hx) ?_
    conv => whnf
    refine ACalls.use (formed_spec F.bag_formed x _) ?_
    (conv => whnf); refine recA (fun h => ?_) (fun h => ?_)
    · replace h : (!(fitB x == 0)) = true := h
      simp at h
      conv => whnf
      exact pubI (by rw [← hr, if_pos h])
    replace h : (!(fitB x == 0)) = false := h
    simp at h
    obtain ⟨g1, g2, g3, g4⟩ := fitB_zero x h
    rw [if_neg (by simp [h])] at hr
    (conv => whnf); refine recA (fun hz => ?_) (fun hz => ?_)
    · replace hz : (x.cnt == 0) = true := hz
      simp at hz
      conv => whnf
      exact pubI (by rw [← hr, if_pos hz])
    replace hz : (x.cnt == 0) = false := hz
    simp at hz
    rw [if_neg hz] at hr
    (conv => whnf); refine recA (fun hp => ?_) (fun hp => ?_)
    · replace hp : decide ((k : Int) > 0) = true := hp
      simp at hp
      obtain ⟨j, rfl⟩ : ∃ j, k = j + 1 := ⟨k - 1, by omega⟩
      obtain ⟨y, hy, _, _⟩ := get_drop (l := b) (k := j) (by omega)
      have ej := wrapI (((j + 1 : Nat) : Int) - 1) (by omega) (by omega)
      have hy2 : (eC b)[(IntKind.i64.wrap (((j + 1 : Nat) : Int) - 1)).toNat]? = some (entC y) := by
        rw [ej, show ((((j + 1 : Nat) : Int) - 1).toNat) = j by omega]; exact eC_at hy
      rw [prevR_succ hy] at hq hr
      have hql := hq _ rfl
      (conv => whnf); refine And.intro (by rw [ej]; omega) ?_
      (conv => whnf); refine recO hy2 ?_
      conv => whnf
      refine ⟨_, value_CompareRows_spec F.value_CompareRows false false y.row x.row (by omega) _, ?_⟩
      (conv => whnf); refine recA (fun hc => ?_) (fun hc => ?_)
      · replace hc : decide (rowsCmp y.row x.row ≥ 0) = true := hc
        conv => whnf
        exact pubI (by rw [← hr, if_pos (show notB (some y.row) x.row = true from hc)])
      · replace hc : decide (rowsCmp y.row x.row ≥ 0) = false := hc
        conv => whnf
        rw [if_neg (by rw [show notB (some y.row) x.row = false from hc]; simp)] at hr
        refine ⟨m - 1, by omega, Gp.none rfl ?_ fun ρ1 h => ⟨j + 1 + 1, by omega, ?_, ?_, rfl, h⟩⟩
        · exact ⟨.closed _ rfl, .closed _ rfl, .closed _ rfl, pub_int ew, trivial⟩
        · rw [prevR_succ hx]; exact hr
        · rw [prevR_succ hx]; intro q hq2; cases hq2; exact g1
    · replace hp : decide ((k : Int) > 0) = false := hp
      simp at hp
      subst hp
      conv => whnf
      rw [if_neg (by simp [prevR, notB])] at hr
      refine ⟨m - 1, by omega, Gp.none rfl ?_ fun ρ1 h => ⟨0 + 1, by omega, ?_, ?_, rfl, h⟩⟩
      · exact ⟨.closed _ rfl, .closed _ rfl, .closed _ rfl, pub_int ew, trivial⟩
      · rw [prevR_succ hx]; exact hr
      · rw [prevR_succ hx]; intro q hq2; cases hq2; exact g1
  · simp at hlt
    conv => whnf
    rw [List.drop_eq_nil_of_le hlt] at hr
    exact pubI hr

set_option maxRecDepth 20000 in
theorem ref6_Validate_spec {P : Program} (F : F_warehouseref6_Validate P) (ex : Bool) (b : List Ent) (H : List AObj) :
    ACalls P F.id [.list ex 2 (eC b)] H (fun r H' => r = .int .i64 (bagB b) ∧ H' = H) := by
  refine ACalls.pure (by simp [AVal.closed, AVal.isPure]) (acalls_of_body F.has ?_)
  (conv => whnf); refine recA (fun h0 => ?_) (fun h0 => ?_)
  · simp [eC_length] at h0
    conv => whnf
    exact pubI (by rw [bagB, if_pos (by omega)])
  simp [eC_length] at h0
  have hR : bagB b = bvGo b none := by rw [bagB, if_neg (by omega)]
  conv => whnf
  refine ⟨fun m ρ H1 => ∃ k : Nat, k + m = b.length ∧ bvGo (b.drop k) (prevR b k) = bagB b ∧ (∀ q, prevR b k = some q → q.length ≤ 12) ∧ H1 = [] ∧
    Sv 45 [(0, .list ex 2 (eC b)), (3, .int .i64 k)] ρ, b.length, [], ?_, ?_⟩
  · exact ⟨0, by omega, hR.symm, fun q h => (by cases h), rfl, Sv.intro rfl ⟨rfl, rfl, trivial⟩⟩
  rintro m ρ H1 ⟨k, hk, hr, hq, rfl, d, rfl⟩
  (conv => whnf); refine recA (fun hlt => ?_) (fun hlt => ?_)
  · simp [eC_length] at hlt
    obtain ⟨x, hx, hd, _⟩ := get_drop hlt
    rw [hd, bvGo] at hr
    have ew := wrapI ((k : Int) + 1) (by omega) (by omega)
    conv => whnf
    refine And.intro (by omega) ?_
    (conv => whnf); refine recO (eC_at hx) ?_
    conv => whnf
    refine ACalls.use (fits_spec F.warehouseref6_fits x _) ?_
    (conv => whnf); refine recA (fun h => ?_) (fun h => ?_)
    · replace h : (!(fitB x == 0)) = true := h
      simp at h
      conv => whnf
      exact pubI (by rw [← hr, if_pos h])
    replace h : (!(fitB x == 0)) = false := h
    simp at h
    obtain ⟨g1, g2, g3, g4⟩ := fitB_zero x h
    rw [if_neg (by simp [h])] at hr
    (conv => whnf); refine And.intro (by omega) ?_
    (conv => whnf); refine recO (eC_at hx) ?_
    (conv => whnf); refine recA (fun hz => ?_) (fun hz => ?_)
    · replace hz : (x.cnt == 0) = true := hz
      simp at hz
      conv => whnf
      exact pubI (by rw [← hr, if_pos hz])
    replace hz : (x.cnt == 0) = false := hz
    simp at hz
    rw [if_neg hz] at hr
    (conv => whnf); refine recA (fun hp => ?_) (fun hp => ?_)
    · replace hp : decide ((k : Int) > 0) = true := hp
      simp at hp
      obtain ⟨j, rfl⟩ : ∃ j, k = j + 1 := ⟨k - 1, by omega⟩
      obtain ⟨y, hy, _, _⟩ := get_drop (l := b) (k := j) (by omega)
      have ej := wrapI (((j + 1 : Nat) : Int) - 1) (by omega) (by omega)
      have hy2 : (eC b)[(IntKind.i64.wrap (((j + 1 : Nat) : Int) - 1)).toNat]? = some (entC y) := by
        rw [ej, show ((((j + 1 : Nat) : Int) - 1).toNat) = j by omega]; exact eC_at hy
      rw [prevR_succ hy] at hq hr
      have hql := hq _ rfl
      (conv => whnf); refine And.intro (by rw [ej]; omega) ?_
      (conv => whnf); refine recO hy2 ?_
      (conv => whnf); refine And.intro (by omega) ?_
      (conv => whnf); refine recO (eC_at hx) ?_
      conv => whnf
      refine ⟨_, ref1_CompareRows_spec F.warehouseref1_CompareRows false false y.row x.row (by omega) _, ?_⟩
      (conv => whnf); refine recA (fun hc => ?_) (fun hc => ?_)
      · replace hc : decide (rowsCmp y.row x.row ≥ 0) = true := hc
        conv => whnf
        exact pubI (by rw [← hr, if_pos (show notB (some y.row) x.row = true from hc)])
      · replace hc : decide (rowsCmp y.row x.row ≥ 0) = false := hc
        conv => whnf
        rw [if_neg (by rw [show notB (some y.row) x.row = false from hc]; simp)] at hr
        refine ⟨m - 1, by omega, Gp.none rfl ?_ fun ρ1 h => ⟨j + 1 + 1, by omega, ?_, ?_, rfl, h⟩⟩
        · exact ⟨.closed _ rfl, pub_int ew, trivial⟩
        · rw [prevR_succ hx]; exact hr
        · rw [prevR_succ hx]; intro q hq2; cases hq2; exact g1
    · replace hp : decide ((k : Int) > 0) = false := hp
      simp at hp
      subst hp
      conv => whnf
      rw [if_neg (by simp [prevR, notB])] at hr
      refine ⟨m - 1, by omega, Gp.none rfl ?_ fun ρ1 h => ⟨0 + 1, by omega, ?_, ?_, rfl, h⟩⟩
      · exact ⟨.closed _ rfl, pub_int ew, trivial⟩
      · rw [prevR_succ hx]; exact hr
      · rw [prevR_succ hx]; intro q hq2; cases hq2; exact g1
  · simp [eC_length] at hlt
    conv => whnf
    rw [List.drop_eq_nil_of_le hlt] at hr
    exact pubI hr

end Go.AW

namespace Go.AW
theorem ACalls.weakR {P : Program} {f : FuncId} {args : List AVal} {H : List AObj} {Q Q' : AVal → List AObj → Prop} (h : ACalls P f args H Q) (hq : ∀ r H', Q r H' → ∃ r', Wk r r' ∧ Q' r' H') : ACalls P f args H Q' := by
  intro C τ w vs hw hl hr
  have h := h C τ w vs hw hl hr
  unfold CallsX at h ⊢
  split at h
  · exact Calls.mono h fun e w' ⟨v, r, C', τ', H', h1, h2, h3, h4⟩ => by
      obtain ⟨r', hk, hq'⟩ := hq _ _ h2
      exact ⟨v, r', C', τ', H', h1, hq', h3.weak hk, h4⟩
  · obtain ⟨v, r, C', τ', H', h1, h2, h3, h4⟩ := h
    obtain ⟨r', hk, hq'⟩ := hq _ _ h2
    exact ⟨v, r', C', τ', H', h1, hq', h3.weak hk, h4⟩
  · exact h

end Go.AW

namespace Go.AW
attribute [local irreducible] ACalls
set_option maxRecDepth 20000 in
theorem CloneV_spec {P : Program} (F : F_slices_Clone_LValue_Value P) (ex : Bool) (cs : List V) (hl : cs.length ≤ 1000000) (H : List AObj) :
    ACalls P F.id [.list ex 3 (vC cs)] H (fun r H' => r = .list false 3 (vC cs) ∧ H' = H) := by
  have h0 : ACalls P F.id [.list ex 3 (vC cs)] [] (fun r H1 => ∃ r', Pub H1 0 [] r r' ∧ ((r' = .nil ∧ cs = []) ∨ r' = .list false 3 (vC cs))) := by
    refine acalls_of_body F.has ?_
    conv => whnf
    refine And.intro (fun h => ?_) ?_
    · conv => whnf
      exact ⟨.nil, .closed _ rfl, .inl ⟨rfl, by simpa [vC] using h⟩⟩
    · conv => whnf
      refine And.intro ⟨roomMul (by simp [vC_length]; omega) (by omega), roomB_le (by simp [vC_length]; omega), .inr rfl⟩ ?_
      conv => whnf
      have key : List.replicate 0 [AVal.int .i64 0, .int .i64 0, .str (bs [])] ++ vC cs = vC cs := by simp
      refine ⟨_, pubF (es := vC cs) ?_ ?_ ?_ (pureEs_vC _), .inr rfl⟩
      · rw [← key]; rfl
      · exact congrArg List.length key
      · exact congrArg List.length key
  refine ACalls.weakR (ACalls.lift0 (by simp [AVal.closed, AVal.isPure]) h0) ?_
  rintro r H' ⟨h, rfl⟩
  rcases h with ⟨rfl, rfl⟩ | rfl
  · exact ⟨_, .nil false 3, rfl, rfl⟩
  · exact ⟨_, .refl _, rfl, rfl⟩

def smallB (n : Int) : Bool := decide (-65536 ≤ n) && decide (n ≤ 65536)

set_option maxRecDepth 20000 in
theorem put_spec {P : Program} (F : F_bag_put P) (ex : Bool) (O : List Ent) (hO : O.length ≤ 100000) (row : List V) (hr : row.length ≤ 1000) (c : Int) :
    ACalls P F.id [.sl 0 O.length 0 O.length, .list ex 3 (vC row), .int .i64 c] [.arr 2 (eC O)]
      (fun r H' => (smallB c = false ∧ r = .tuple [.nil, .bool false] ∧ H' = [.arr 2 (eC O)]) ∨ (smallB c = true ∧ c = 0 ∧ r = .tuple [.sl 0 O.length 0 O.length, .bool true] ∧ H' = [.arr 2 (eC O)]) ∨
        (smallB c = true ∧ c ≠ 0 ∧ r = .tuple [.sl 0 (O.length + 1) 0 (O.length + 1), .bool true] ∧ H' = [.arr 2 (eC (O ++ [⟨row, c⟩]))])) := by
  refine acalls_of_body F.has ?_
  (conv => whnf); refine recA (fun h => ?_) (fun h => ?_)
  · simp at h
    conv => whnf
    exact .inl ⟨by simp [smallB]; omega, rfl, rfl⟩
  simp at h
  (conv => whnf); refine recA (fun h2 => ?_) (fun h2 => ?_)
  · simp at h2
    conv => whnf
    exact .inl ⟨by simp [smallB]; omega, rfl, rfl⟩
  simp at h2
  have hs : smallB c = true := by simp [smallB]; omega
  (conv => whnf); refine recA (fun hz => ?_) (fun hz => ?_)
  · replace hz : (!(c == 0)) = true := hz
    simp at hz
    conv => whnf
    refine ACalls.use (CloneV_spec F.slices_Clone_LValue_Value ex row (by omega) _) ?_
    (conv => whnf); refine recT (by rw [eC_length]; exact Nat.beq_refl _) ?_
    (conv => whnf); refine And.intro ⟨roomMul (by simp; omega) (by omega), roomB_le (by simp; omega), rfl, by rw [eC_length]⟩ ?_
    conv => whnf
    have hl : (eC O ++ [[AVal.list false 3 (vC row), .int .i64 c]]).length = O.length + 1 := by rw [List.length_append, eC_length]; rfl
    refine .inr (.inr ⟨hs, hz, ?_, ?_⟩)
    · exact congrArg (fun n => AVal.tuple [.sl 0 n 0 n, .bool true]) hl
    · rw [eC_append]; rfl
  · replace hz : (!(c == 0)) = false := hz
    simp at hz
    conv => whnf
    exact .inr (.inl ⟨hs, hz, rfl, rfl⟩)

set_option maxRecDepth 20000 in
theorem done_spec {P : Program} (F : F_bag_done P) (O : List Ent) :
    ACalls P F.id [.sl 0 O.length 0 O.length] [.arr 2 (eC O)]
      (fun r H' => H' = [.arr 2 (eC O)] ∧ ((4096 < O.length ∧ r = .tuple [.nil, .int .i64 2]) ∨ (O.length ≤ 4096 ∧ r = .tuple [.sl 0 O.length 0 O.length, .int .i64 0]))) := by
  refine acalls_of_body F.has ?_
  (conv => whnf); refine recT (by rw [eC_length]; exact Nat.beq_refl _) ?_
  (conv => whnf); refine recA (fun h => ?_) (fun h => ?_)
  · simp at h
    conv => whnf
    exact ⟨rfl, .inl ⟨by omega, rfl⟩⟩
  · simp at h
    conv => whnf
    exact ⟨rfl, .inr ⟨by omega, rfl⟩⟩

theorem put_bad {P : Program} (F : F_bag_put P) (ex : Bool) (O : List Ent) (hO : O.length ≤ 100000) (row : List V) (hr : row.length ≤ 1000) (c : Int) (h : smallB c = false) :
    ACalls P F.id [.sl 0 O.length 0 O.length, .list ex 3 (vC row), .int .i64 c] [.arr 2 (eC O)] (fun r H' => r = .tuple [.nil, .bool false] ∧ H' = [.arr 2 (eC O)]) := by
  refine (put_spec F ex O hO row hr c).mono ?_
  rintro r H' (⟨h1, h2, h3⟩ | ⟨h1, _, _, _⟩ | ⟨h1, _, _, _⟩)
  · exact ⟨h2, h3⟩
  · rw [h] at h1; cases h1
  · rw [h] at h1; cases h1

theorem put_zero {P : Program} (F : F_bag_put P) (ex : Bool) (O : List Ent) (hO : O.length ≤ 100000) (row : List V) (hr : row.length ≤ 1000) (c : Int) (h : smallB c = true) (hz : c = 0) :
    ACalls P F.id [.sl 0 O.length 0 O.length, .list ex 3 (vC row), .int .i64 c] [.arr 2 (eC O)] (fun r H' => r = .tuple [.sl 0 O.length 0 O.length, .bool true] ∧ H' = [.arr 2 (eC O)]) := by
  refine (put_spec F ex O hO row hr c).mono ?_
  rintro r H' (⟨h1, h2, h3⟩ | ⟨_, _, h1, h2⟩ | ⟨_, h1, _, _⟩)
  · rw [h] at h1; cases h1
  · exact ⟨h1, h2⟩
  · exact absurd hz h1

theorem put_add {P : Program} (F : F_bag_put P) (ex : Bool) (O : List Ent) (hO : O.length ≤ 100000) (row : List V) (hr : row.length ≤ 1000) (c : Int) (h : smallB c = true) (hz : ¬ c = 0) :
    ACalls P F.id [.sl 0 O.length 0 O.length, .list ex 3 (vC row), .int .i64 c] [.arr 2 (eC O)] (fun r H' => r = .tuple [.sl 0 (O.length + 1) 0 (O.length + 1), .bool true] ∧ H' = [.arr 2 (eC (O ++ [⟨row, c⟩]))]) := by
  refine (put_spec F ex O hO row hr c).mono ?_
  rintro r H' (⟨h1, h2, h3⟩ | ⟨_, h1, _, _⟩ | ⟨_, _, h1, h2⟩)
  · rw [h] at h1; cases h1
  · exact absurd h1 hz
  · exact ⟨h1, h2⟩

def mrg : List Ent → List Ent → List Ent
  | [], b => b
  | x :: a, [] => x :: a
  | x :: a, y :: b => if rowsCmp x.row y.row < 0 then x :: mrg a (y :: b) else if 0 < rowsCmp x.row y.row then y :: mrg (x :: a) b else ⟨x.row, x.cnt + y.cnt⟩ :: mrg a b
termination_by a b => a.length + b.length

theorem mrg_nil (b : List Ent) : mrg [] b = b := by rw [mrg]

theorem mrg_nil2 (a : List Ent) : mrg a [] = a := by
  cases a with
  | nil => rw [mrg]
  | cons x a => rw [mrg]

theorem mrg_cons (x y : Ent) (a b : List Ent) : mrg (x :: a) (y :: b) = if rowsCmp x.row y.row < 0 then x :: mrg a (y :: b) else if 0 < rowsCmp x.row y.row then y :: mrg (x :: a) b else ⟨x.row, x.cnt + y.cnt⟩ :: mrg a b := by rw [mrg]

def nzB (e : Ent) : Bool := !(e.cnt == 0)

def resR (l : List Ent) : AVal :=
  if (l.all fun e => smallB e.cnt) = true ∧ (l.filter nzB).length ≤ 4096 then .tuple [.list false 2 (eC (l.filter nzB)), .int .i64 0] else .tuple [.nil, .int .i64 2]

def sgn (s : Int) (b : List Ent) : List Ent := b.map fun e => ⟨e.row, s * e.cnt⟩

def EntOk (e : Ent) : Prop := e.row.length ≤ 12 ∧ -65536 ≤ e.cnt ∧ e.cnt ≤ 65536

theorem resR_bad (l : List Ent) (h : (l.all fun e => smallB e.cnt) = false) : resR l = .tuple [.nil, .int .i64 2] := by
  rw [resR, if_neg (by simp [h])]

theorem mrgA {a b a1 : List Ent} {x : Ent} (ha : a = x :: a1) (h : b = [] ∨ ∃ y b1, b = y :: b1 ∧ rowsCmp x.row y.row < 0) : mrg a b = x :: mrg a1 b := by
  subst ha
  rcases h with rfl | ⟨y, b1, rfl, h⟩
  · rw [mrg_nil2, mrg_nil2]
  · rw [mrg_cons, if_pos h]

theorem mrgB {a b b1 : List Ent} {y : Ent} (hb : b = y :: b1) (h : a = [] ∨ ∃ x a1, a = x :: a1 ∧ 0 < rowsCmp x.row y.row) : mrg a b = y :: mrg a b1 := by
  subst hb
  rcases h with rfl | ⟨x, a1, rfl, h⟩
  · rw [mrg_nil, mrg_nil]
  · rw [mrg_cons, if_neg (by omega), if_pos h]

theorem mrgC {a b a1 b1 : List Ent} {x y : Ent} (ha : a = x :: a1) (hb : b = y :: b1) (h : rowsCmp x.row y.row = 0) : mrg a b = ⟨x.row, x.cnt + y.cnt⟩ :: mrg a1 b1 := by
  subst ha hb
  rw [mrg_cons, if_neg (by omega), if_neg (by omega)]

theorem sgn_cons {s : Int} {b b1 : List Ent} {y : Ent} (h : b = y :: b1) : sgn s b = ⟨y.row, s * y.cnt⟩ :: sgn s b1 := by subst h; rfl

theorem tailE (es : List Ent) : List.drop (1 : Int).toNat (List.take (eC es).length (eC es)) = eC (es.drop 1) := by
  rw [List.take_length]; simp [eC]

theorem pubL {H1 : List AObj} {n : Nat} {ids : List Nat} {f : Bool} {sz : Nat} {X Y : List (List AVal)} (h : X = Y) : Pub H1 n ids (.list f sz X) (.list f sz Y) := by subst h; exact .closed _ rfl

set_option maxRecDepth 20000 in
theorem bag_merge_spec {P : Program} (F : F_bag_merge P) (e1 e2 : Bool) (a b : List Ent) (s : Int) (hs : s = 1 ∨ s = -1) (ha : a.length ≤ 4096) (hb : b.length ≤ 4096) (hA : ∀ e ∈ a, EntOk e) (hB : ∀ e ∈ b, EntOk e) (H : List AObj) :
    ACalls P F.id [.list e1 2 (eC a), .list e2 2 (eC b), .int .i64 s] H (fun r H' => r = resR (mrg a (sgn s b)) ∧ H' = H) := by
  refine ACalls.pure (by simp [AVal.closed, AVal.isPure]) (acalls_of_body F.has ?_)
  conv => whnf
  refine ⟨fun m ρ H => (∃ (a' b' pre : List Ent) (f1 f2 : Bool), m = a'.length + b'.length ∧ mrg a (sgn s b) = pre ++ mrg a' (sgn s b') ∧ (pre.all fun e => smallB e.cnt) = true ∧
      pre.length + a'.length + b'.length ≤ a.length + b.length ∧ (∀ e ∈ a', EntOk e) ∧ (∀ e ∈ b', EntOk e) ∧ H = [.arr 2 (eC (pre.filter nzB))] ∧
      Sv 105 [(0, .list f1 2 (eC a')), (1, .list f2 2 (eC b')), (2, .int .i64 s), (8, .sl 0 (pre.filter nzB).length 0 (pre.filter nzB).length), (9, .bool true)] ρ) ∨
    (∃ (a' b' : List Ent) (f1 f2 : Bool), ((mrg a (sgn s b)).all fun e => smallB e.cnt) = false ∧ a'.length + b'.length ≤ a.length + b.length ∧ H = [] ∧ Sv 105 [(0, .list f1 2 (eC a')), (1, .list f2 2 (eC b')), (2, .int .i64 s), (8, .nil), (9, .bool false)] ρ),
    a.length + b.length, [(8, 2)], ?_, ?_⟩
  · exact .inl ⟨a, b, [], e1, e2, rfl, rfl, rfl, by simp, hA, hB, by rfl, Sv.intro rfl ⟨rfl, rfl, rfl, rfl, rfl, trivial⟩⟩
  rintro m ρ H (⟨a', b', pre, f1, f2, hm, hM, hP, hlen, hA', hB', rfl, d, rfl⟩ | ⟨a', b', f1, f2, hbad, hlen, rfl, d, rfl⟩)
  · have hO : (pre.filter nzB).length ≤ pre.length := List.length_filter_le _ _
    have ew : IntKind.i64.wrap (((eC a').length : Int) + ((eC b').length : Int)) = (a'.length : Int) + b'.length := by rw [eC_length, eC_length]; exact wrapI _ (by omega) (by omega)
    (conv => whnf); refine recA (fun hlt => ?_) (fun hlt => ?_)
    · replace hlt : decide (IntKind.i64.wrap (((eC a').length : Int) + ((eC b').length : Int)) > 0) = true := hlt
      rw [ew] at hlt
      simp at hlt
      (conv => whnf); refine recA (fun hz => ?_) (fun hz => ?_)
      · replace hz : (((eC a').length : Int) == 0) = true := hz
        rw [eC_length] at hz
        have hzl : a'.length = 0 := by simpa using hz
        obtain ⟨y, hy, hyd, hym⟩ := get_drop (l := b') (k := 0) (by omega)
        obtain ⟨ky1, ky2, ky3⟩ := hB' y hym
        rw [List.drop_zero] at hyd
        have em : IntKind.i64.wrap (s * y.cnt) = s * y.cnt := wrapI _ (by rcases hs with rfl | rfl <;> omega) (by rcases hs with rfl | rfl <;> omega)
        (conv => whnf); refine And.intro (by decide) ?_
        (conv => whnf); refine recO (eC_at hy) ?_
        (conv => whnf); refine And.intro (by decide) ?_
        (conv => whnf); refine recO (eC_at hy) ?_
        conv => whnf
        have hN : mrg a (sgn s b) = (pre ++ [⟨y.row, IntKind.i64.wrap (s * y.cnt)⟩]) ++ mrg (a') (sgn s (b'.drop 1)) := by
          rw [hM, em, mrgB (sgn_cons hyd) (.inl (List.length_eq_zero_iff.1 hzl)), List.append_assoc]; rfl
        have hlN : pre.length + 1 + (a').length + (b'.drop 1).length ≤ a.length + b.length := by simp [List.length_drop]; omega
        have hmN : (a').length + (b'.drop 1).length < m := by simp [List.length_drop]; omega
        have hAN : ∀ e ∈ (a'), EntOk e := fun e h => hA' e (by first | exact h | exact List.mem_of_mem_drop h)
        have hBN : ∀ e ∈ (b'.drop 1), EntOk e := fun e h => hB' e (by first | exact h | exact List.mem_of_mem_drop h)
        rcases hsm : smallB (IntKind.i64.wrap (s * y.cnt)) with _ | _
        · refine ⟨_, _, put_bad F.bag_put false (pre.filter nzB) (by omega) y.row (by omega) _ hsm, ?_⟩
          (conv => whnf); refine And.intro ⟨by omega, by rw [eC_length]; omega⟩ ?_
          conv => whnf
          refine ⟨m - 1, by omega, Gp.none rfl ?_ fun ρ1 h => .inr ⟨a', b'.drop 1, f1, (f2 && (none : Option AOpd).isNone), by rw [hN]; simp [hsm], by omega, rfl, h⟩⟩
          exact ⟨.closed _ rfl, pubL (tailE b'), .closed _ rfl, .closed _ rfl, .closed _ rfl, trivial⟩
        · have hPN : ((pre ++ [(⟨y.row, IntKind.i64.wrap (s * y.cnt)⟩ : Ent)]).all fun e => smallB e.cnt) = true := by rw [List.all_append, hP]; simp [hsm]
          by_cases hz0 : (IntKind.i64.wrap (s * y.cnt)) = 0
          · have hF : (pre ++ [(⟨y.row, IntKind.i64.wrap (s * y.cnt)⟩ : Ent)]).filter nzB = pre.filter nzB := by rw [List.filter_append]; simp [nzB, hz0]
            refine ⟨_, _, put_zero F.bag_put false (pre.filter nzB) (by omega) y.row (by omega) _ hsm hz0, ?_⟩
            (conv => whnf); refine And.intro ⟨by omega, by rw [eC_length]; omega⟩ ?_
            conv => whnf
            refine ⟨(a').length + (b'.drop 1).length, hmN, Gp.one 0 2 (eC ((pre ++ [(⟨y.row, IntKind.i64.wrap (s * y.cnt)⟩ : Ent)]).filter nzB)) (by rw [hF]; rfl) (pureEs_eC _) rfl ?_ fun ρ1 h => .inl ⟨a', b'.drop 1, pre ++ [⟨y.row, IntKind.i64.wrap (s * y.cnt)⟩], f1, (f2 && (none : Option AOpd).isNone), rfl, hN, hPN, by simpa using hlN, hAN, hBN, rfl, h⟩⟩
            exact ⟨.closed _ rfl, pubL (tailE b'), .closed _ rfl, by rw [hF]; exact pubSl (k := 0) rfl rfl rfl rfl, .closed _ rfl, trivial⟩
          · have hF : (pre ++ [(⟨y.row, IntKind.i64.wrap (s * y.cnt)⟩ : Ent)]).filter nzB = pre.filter nzB ++ [⟨y.row, IntKind.i64.wrap (s * y.cnt)⟩] := by rw [List.filter_append]; simp [nzB, hz0]
            have hFl : ((pre ++ [(⟨y.row, IntKind.i64.wrap (s * y.cnt)⟩ : Ent)]).filter nzB).length = (pre.filter nzB).length + 1 := by rw [hF, List.length_append]; rfl
            refine ⟨_, _, put_add F.bag_put false (pre.filter nzB) (by omega) y.row (by omega) _ hsm hz0, ?_⟩
            (conv => whnf); refine And.intro ⟨by omega, by rw [eC_length]; omega⟩ ?_
            conv => whnf
            refine ⟨(a').length + (b'.drop 1).length, hmN, Gp.one 0 2 (eC ((pre ++ [(⟨y.row, IntKind.i64.wrap (s * y.cnt)⟩ : Ent)]).filter nzB)) (by rw [hF]; rfl) (pureEs_eC _) rfl ?_ fun ρ1 h => .inl ⟨a', b'.drop 1, pre ++ [⟨y.row, IntKind.i64.wrap (s * y.cnt)⟩], f1, (f2 && (none : Option AOpd).isNone), rfl, hN, hPN, by simpa using hlN, hAN, hBN, rfl, h⟩⟩
            exact ⟨.closed _ rfl, pubL (tailE b'), .closed _ rfl, pubSl (k := 0) rfl rfl hFl.symm hFl.symm, .closed _ rfl, trivial⟩
      · replace hz : (((eC a').length : Int) == 0) = false := hz
        rw [eC_length] at hz
        have hzl : a'.length ≠ 0 := by simpa using hz
        obtain ⟨x, hx, hxd, hxm⟩ := get_drop (l := a') (k := 0) (by omega)
        obtain ⟨kx1, kx2, kx3⟩ := hA' x hxm
        rw [List.drop_zero] at hxd
        (conv => whnf); refine recA (fun hw => ?_) (fun hw => ?_)
        · replace hw : (((eC b').length : Int) == 0) = true := hw
          rw [eC_length] at hw
          have hwl : b'.length = 0 := by simpa using hw
          have hwn : b' = [] := List.length_eq_zero_iff.1 hwl
          (conv => whnf); refine And.intro (by decide) ?_
          (conv => whnf); refine recO (eC_at hx) ?_
          (conv => whnf); refine And.intro (by decide) ?_
          (conv => whnf); refine recO (eC_at hx) ?_
          conv => whnf
          have hN : mrg a (sgn s b) = (pre ++ [⟨x.row, x.cnt⟩]) ++ mrg (a'.drop 1) (sgn s (b')) := by
            rw [hM, mrgA hxd (.inl (by rw [hwn]; rfl)), List.append_assoc]; rfl
          have hlN : pre.length + 1 + (a'.drop 1).length + (b').length ≤ a.length + b.length := by simp [List.length_drop]; omega
          have hmN : (a'.drop 1).length + (b').length < m := by simp [List.length_drop]; omega
          have hAN : ∀ e ∈ (a'.drop 1), EntOk e := fun e h => hA' e (by first | exact h | exact List.mem_of_mem_drop h)
          have hBN : ∀ e ∈ (b'), EntOk e := fun e h => hB' e (by first | exact h | exact List.mem_of_mem_drop h)
          rcases hsm : smallB (x.cnt) with _ | _
          · refine ⟨_, _, put_bad F.bag_put false (pre.filter nzB) (by omega) x.row (by omega) _ hsm, ?_⟩
            (conv => whnf); refine And.intro ⟨by omega, by rw [eC_length]; omega⟩ ?_
            conv => whnf
            refine ⟨m - 1, by omega, Gp.none rfl ?_ fun ρ1 h => .inr ⟨a'.drop 1, b', (f1 && (none : Option AOpd).isNone), f2, by rw [hN]; simp [hsm], by omega, rfl, h⟩⟩
            exact ⟨pubL (tailE a'), .closed _ rfl, .closed _ rfl, .closed _ rfl, .closed _ rfl, trivial⟩
          · have hPN : ((pre ++ [(⟨x.row, x.cnt⟩ : Ent)]).all fun e => smallB e.cnt) = true := by rw [List.all_append, hP]; simp [hsm]
            by_cases hz0 : (x.cnt) = 0
            · have hF : (pre ++ [(⟨x.row, x.cnt⟩ : Ent)]).filter nzB = pre.filter nzB := by rw [List.filter_append]; simp [nzB, hz0]
              refine ⟨_, _, put_zero F.bag_put false (pre.filter nzB) (by omega) x.row (by omega) _ hsm hz0, ?_⟩
              (conv => whnf); refine And.intro ⟨by omega, by rw [eC_length]; omega⟩ ?_
              conv => whnf
              refine ⟨(a'.drop 1).length + (b').length, hmN, Gp.one 0 2 (eC ((pre ++ [(⟨x.row, x.cnt⟩ : Ent)]).filter nzB)) (by rw [hF]; rfl) (pureEs_eC _) rfl ?_ fun ρ1 h => .inl ⟨a'.drop 1, b', pre ++ [⟨x.row, x.cnt⟩], (f1 && (none : Option AOpd).isNone), f2, rfl, hN, hPN, by simpa using hlN, hAN, hBN, rfl, h⟩⟩
              exact ⟨pubL (tailE a'), .closed _ rfl, .closed _ rfl, by rw [hF]; exact pubSl (k := 0) rfl rfl rfl rfl, .closed _ rfl, trivial⟩
            · have hF : (pre ++ [(⟨x.row, x.cnt⟩ : Ent)]).filter nzB = pre.filter nzB ++ [⟨x.row, x.cnt⟩] := by rw [List.filter_append]; simp [nzB, hz0]
              have hFl : ((pre ++ [(⟨x.row, x.cnt⟩ : Ent)]).filter nzB).length = (pre.filter nzB).length + 1 := by rw [hF, List.length_append]; rfl
              refine ⟨_, _, put_add F.bag_put false (pre.filter nzB) (by omega) x.row (by omega) _ hsm hz0, ?_⟩
              (conv => whnf); refine And.intro ⟨by omega, by rw [eC_length]; omega⟩ ?_
              conv => whnf
              refine ⟨(a'.drop 1).length + (b').length, hmN, Gp.one 0 2 (eC ((pre ++ [(⟨x.row, x.cnt⟩ : Ent)]).filter nzB)) (by rw [hF]; rfl) (pureEs_eC _) rfl ?_ fun ρ1 h => .inl ⟨a'.drop 1, b', pre ++ [⟨x.row, x.cnt⟩], (f1 && (none : Option AOpd).isNone), f2, rfl, hN, hPN, by simpa using hlN, hAN, hBN, rfl, h⟩⟩
              exact ⟨pubL (tailE a'), .closed _ rfl, .closed _ rfl, pubSl (k := 0) rfl rfl hFl.symm hFl.symm, .closed _ rfl, trivial⟩
        · replace hw : (((eC b').length : Int) == 0) = false := hw
          rw [eC_length] at hw
          have hwl : b'.length ≠ 0 := by simpa using hw
          obtain ⟨y, hy, hyd, hym⟩ := get_drop (l := b') (k := 0) (by omega)
          obtain ⟨ky1, ky2, ky3⟩ := hB' y hym
          rw [List.drop_zero] at hyd
          have em : IntKind.i64.wrap (s * y.cnt) = s * y.cnt := wrapI _ (by rcases hs with rfl | rfl <;> omega) (by rcases hs with rfl | rfl <;> omega)
          (conv => whnf); refine And.intro (by decide) ?_
          (conv => whnf); refine recO (eC_at hx) ?_
          (conv => whnf); refine And.intro (by decide) ?_
          (conv => whnf); refine recO (eC_at hy) ?_
          conv => whnf
          refine ⟨_, value_CompareRows_spec F.value_CompareRows false false x.row y.row (by omega) _, ?_⟩
          (conv => whnf); refine recA (fun hc => ?_) (fun hc => ?_)
          · replace hc : decide (rowsCmp x.row y.row < 0) = true := hc
            simp at hc
            (conv => whnf); refine And.intro (by decide) ?_
            (conv => whnf); refine recO (eC_at hx) ?_
            (conv => whnf); refine And.intro (by decide) ?_
            (conv => whnf); refine recO (eC_at hx) ?_
            conv => whnf
            have hN : mrg a (sgn s b) = (pre ++ [⟨x.row, x.cnt⟩]) ++ mrg (a'.drop 1) (sgn s (b')) := by
              rw [hM, mrgA hxd (.inr ⟨_, _, sgn_cons hyd, hc⟩), List.append_assoc]; rfl
            have hlN : pre.length + 1 + (a'.drop 1).length + (b').length ≤ a.length + b.length := by simp [List.length_drop]; omega
            have hmN : (a'.drop 1).length + (b').length < m := by simp [List.length_drop]; omega
            have hAN : ∀ e ∈ (a'.drop 1), EntOk e := fun e h => hA' e (by first | exact h | exact List.mem_of_mem_drop h)
            have hBN : ∀ e ∈ (b'), EntOk e := fun e h => hB' e (by first | exact h | exact List.mem_of_mem_drop h)
            rcases hsm : smallB (x.cnt) with _ | _
            · refine ⟨_, _, put_bad F.bag_put false (pre.filter nzB) (by omega) x.row (by omega) _ hsm, ?_⟩
              (conv => whnf); refine And.intro ⟨by omega, by rw [eC_length]; omega⟩ ?_
              conv => whnf
              refine ⟨m - 1, by omega, Gp.none rfl ?_ fun ρ1 h => .inr ⟨a'.drop 1, b', (f1 && (none : Option AOpd).isNone), f2, by rw [hN]; simp [hsm], by omega, rfl, h⟩⟩
              exact ⟨pubL (tailE a'), .closed _ rfl, .closed _ rfl, .closed _ rfl, .closed _ rfl, trivial⟩
            · have hPN : ((pre ++ [(⟨x.row, x.cnt⟩ : Ent)]).all fun e => smallB e.cnt) = true := by rw [List.all_append, hP]; simp [hsm]
              by_cases hz0 : (x.cnt) = 0
              · have hF : (pre ++ [(⟨x.row, x.cnt⟩ : Ent)]).filter nzB = pre.filter nzB := by rw [List.filter_append]; simp [nzB, hz0]
                refine ⟨_, _, put_zero F.bag_put false (pre.filter nzB) (by omega) x.row (by omega) _ hsm hz0, ?_⟩
                (conv => whnf); refine And.intro ⟨by omega, by rw [eC_length]; omega⟩ ?_
                conv => whnf
                refine ⟨(a'.drop 1).length + (b').length, hmN, Gp.one 0 2 (eC ((pre ++ [(⟨x.row, x.cnt⟩ : Ent)]).filter nzB)) (by rw [hF]; rfl) (pureEs_eC _) rfl ?_ fun ρ1 h => .inl ⟨a'.drop 1, b', pre ++ [⟨x.row, x.cnt⟩], (f1 && (none : Option AOpd).isNone), f2, rfl, hN, hPN, by simpa using hlN, hAN, hBN, rfl, h⟩⟩
                exact ⟨pubL (tailE a'), .closed _ rfl, .closed _ rfl, by rw [hF]; exact pubSl (k := 0) rfl rfl rfl rfl, .closed _ rfl, trivial⟩
              · have hF : (pre ++ [(⟨x.row, x.cnt⟩ : Ent)]).filter nzB = pre.filter nzB ++ [⟨x.row, x.cnt⟩] := by rw [List.filter_append]; simp [nzB, hz0]
                have hFl : ((pre ++ [(⟨x.row, x.cnt⟩ : Ent)]).filter nzB).length = (pre.filter nzB).length + 1 := by rw [hF, List.length_append]; rfl
                refine ⟨_, _, put_add F.bag_put false (pre.filter nzB) (by omega) x.row (by omega) _ hsm hz0, ?_⟩
                (conv => whnf); refine And.intro ⟨by omega, by rw [eC_length]; omega⟩ ?_
                conv => whnf
                refine ⟨(a'.drop 1).length + (b').length, hmN, Gp.one 0 2 (eC ((pre ++ [(⟨x.row, x.cnt⟩ : Ent)]).filter nzB)) (by rw [hF]; rfl) (pureEs_eC _) rfl ?_ fun ρ1 h => .inl ⟨a'.drop 1, b', pre ++ [⟨x.row, x.cnt⟩], (f1 && (none : Option AOpd).isNone), f2, rfl, hN, hPN, by simpa using hlN, hAN, hBN, rfl, h⟩⟩
                exact ⟨pubL (tailE a'), .closed _ rfl, .closed _ rfl, pubSl (k := 0) rfl rfl hFl.symm hFl.symm, .closed _ rfl, trivial⟩
          · replace hc : decide (rowsCmp x.row y.row < 0) = false := hc
            simp at hc
            (conv => whnf); refine recA (fun hg => ?_) (fun hg => ?_)
            · replace hg : decide (rowsCmp x.row y.row > 0) = true := hg
              simp at hg
              (conv => whnf); refine And.intro (by decide) ?_
              (conv => whnf); refine recO (eC_at hy) ?_
              (conv => whnf); refine And.intro (by decide) ?_
              (conv => whnf); refine recO (eC_at hy) ?_
              conv => whnf
              have hN : mrg a (sgn s b) = (pre ++ [⟨y.row, IntKind.i64.wrap (s * y.cnt)⟩]) ++ mrg (a') (sgn s (b'.drop 1)) := by
                rw [hM, em, mrgB (sgn_cons hyd) (.inr ⟨_, _, hxd, hg⟩), List.append_assoc]; rfl
              have hlN : pre.length + 1 + (a').length + (b'.drop 1).length ≤ a.length + b.length := by simp [List.length_drop]; omega
              have hmN : (a').length + (b'.drop 1).length < m := by simp [List.length_drop]; omega
              have hAN : ∀ e ∈ (a'), EntOk e := fun e h => hA' e (by first | exact h | exact List.mem_of_mem_drop h)
              have hBN : ∀ e ∈ (b'.drop 1), EntOk e := fun e h => hB' e (by first | exact h | exact List.mem_of_mem_drop h)
              rcases hsm : smallB (IntKind.i64.wrap (s * y.cnt)) with _ | _
              · refine ⟨_, _, put_bad F.bag_put false (pre.filter nzB) (by omega) y.row (by omega) _ hsm, ?_⟩
                (conv => whnf); refine And.intro ⟨by omega, by rw [eC_length]; omega⟩ ?_
                conv => whnf
                refine ⟨m - 1, by omega, Gp.none rfl ?_ fun ρ1 h => .inr ⟨a', b'.drop 1, f1, (f2 && (none : Option AOpd).isNone), by rw [hN]; simp [hsm], by omega, rfl, h⟩⟩
                exact ⟨.closed _ rfl, pubL (tailE b'), .closed _ rfl, .closed _ rfl, .closed _ rfl, trivial⟩
              · have hPN : ((pre ++ [(⟨y.row, IntKind.i64.wrap (s * y.cnt)⟩ : Ent)]).all fun e => smallB e.cnt) = true := by rw [List.all_append, hP]; simp [hsm]
                by_cases hz0 : (IntKind.i64.wrap (s * y.cnt)) = 0
                · have hF : (pre ++ [(⟨y.row, IntKind.i64.wrap (s * y.cnt)⟩ : Ent)]).filter nzB = pre.filter nzB := by rw [List.filter_append]; simp [nzB, hz0]
                  refine ⟨_, _, put_zero F.bag_put false (pre.filter nzB) (by omega) y.row (by omega) _ hsm hz0, ?_⟩
                  (conv => whnf); refine And.intro ⟨by omega, by rw [eC_length]; omega⟩ ?_
                  conv => whnf
                  refine ⟨(a').length + (b'.drop 1).length, hmN, Gp.one 0 2 (eC ((pre ++ [(⟨y.row, IntKind.i64.wrap (s * y.cnt)⟩ : Ent)]).filter nzB)) (by rw [hF]; rfl) (pureEs_eC _) rfl ?_ fun ρ1 h => .inl ⟨a', b'.drop 1, pre ++ [⟨y.row, IntKind.i64.wrap (s * y.cnt)⟩], f1, (f2 && (none : Option AOpd).isNone), rfl, hN, hPN, by simpa using hlN, hAN, hBN, rfl, h⟩⟩
                  exact ⟨.closed _ rfl, pubL (tailE b'), .closed _ rfl, by rw [hF]; exact pubSl (k := 0) rfl rfl rfl rfl, .closed _ rfl, trivial⟩
                · have hF : (pre ++ [(⟨y.row, IntKind.i64.wrap (s * y.cnt)⟩ : Ent)]).filter nzB = pre.filter nzB ++ [⟨y.row, IntKind.i64.wrap (s * y.cnt)⟩] := by rw [List.filter_append]; simp [nzB, hz0]
                  have hFl : ((pre ++ [(⟨y.row, IntKind.i64.wrap (s * y.cnt)⟩ : Ent)]).filter nzB).length = (pre.filter nzB).length + 1 := by rw [hF, List.length_append]; rfl
                  refine ⟨_, _, put_add F.bag_put false (pre.filter nzB) (by omega) y.row (by omega) _ hsm hz0, ?_⟩
                  (conv => whnf); refine And.intro ⟨by omega, by rw [eC_length]; omega⟩ ?_
                  conv => whnf
                  refine ⟨(a').length + (b'.drop 1).length, hmN, Gp.one 0 2 (eC ((pre ++ [(⟨y.row, IntKind.i64.wrap (s * y.cnt)⟩ : Ent)]).filter nzB)) (by rw [hF]; rfl) (pureEs_eC _) rfl ?_ fun ρ1 h => .inl ⟨a', b'.drop 1, pre ++ [⟨y.row, IntKind.i64.wrap (s * y.cnt)⟩], f1, (f2 && (none : Option AOpd).isNone), rfl, hN, hPN, by simpa using hlN, hAN, hBN, rfl, h⟩⟩
                  exact ⟨.closed _ rfl, pubL (tailE b'), .closed _ rfl, pubSl (k := 0) rfl rfl hFl.symm hFl.symm, .closed _ rfl, trivial⟩
            · replace hg : decide (rowsCmp x.row y.row > 0) = false := hg
              simp at hg
              (conv => whnf); refine And.intro (by decide) ?_
              (conv => whnf); refine recO (eC_at hx) ?_
              (conv => whnf); refine And.intro (by decide) ?_
              (conv => whnf); refine recO (eC_at hx) ?_
              (conv => whnf); refine And.intro (by decide) ?_
              (conv => whnf); refine recO (eC_at hy) ?_
              conv => whnf
              have em2 : IntKind.i64.wrap (x.cnt + IntKind.i64.wrap (s * y.cnt)) = x.cnt + s * y.cnt := by rw [em]; exact wrapI _ (by rcases hs with rfl | rfl <;> omega) (by rcases hs with rfl | rfl <;> omega)
              have hN : mrg a (sgn s b) = (pre ++ [⟨x.row, IntKind.i64.wrap (x.cnt + IntKind.i64.wrap (s * y.cnt))⟩]) ++ mrg (a'.drop 1) (sgn s (b'.drop 1)) := by
                rw [hM, em2, mrgC hxd (sgn_cons hyd) (by show rowsCmp x.row y.row = 0; omega), List.append_assoc]; rfl
              have hlN : pre.length + 1 + (a'.drop 1).length + (b'.drop 1).length ≤ a.length + b.length := by simp [List.length_drop]; omega
              have hmN : (a'.drop 1).length + (b'.drop 1).length < m := by simp [List.length_drop]; omega
              have hAN : ∀ e ∈ (a'.drop 1), EntOk e := fun e h => hA' e (by first | exact h | exact List.mem_of_mem_drop h)
              have hBN : ∀ e ∈ (b'.drop 1), EntOk e := fun e h => hB' e (by first | exact h | exact List.mem_of_mem_drop h)
              rcases hsm : smallB (IntKind.i64.wrap (x.cnt + IntKind.i64.wrap (s * y.cnt))) with _ | _
              · refine ⟨_, _, put_bad F.bag_put false (pre.filter nzB) (by omega) x.row (by omega) _ hsm, ?_⟩
                (conv => whnf); refine And.intro ⟨by omega, by rw [eC_length]; omega⟩ ?_
                (conv => whnf); refine And.intro ⟨by omega, by rw [eC_length]; omega⟩ ?_
                conv => whnf
                refine ⟨m - 1, by omega, Gp.none rfl ?_ fun ρ1 h => .inr ⟨a'.drop 1, b'.drop 1, (f1 && (none : Option AOpd).isNone), (f2 && (none : Option AOpd).isNone), by rw [hN]; simp [hsm], by omega, rfl, h⟩⟩
                exact ⟨pubL (tailE a'), pubL (tailE b'), .closed _ rfl, .closed _ rfl, .closed _ rfl, trivial⟩
              · have hPN : ((pre ++ [(⟨x.row, IntKind.i64.wrap (x.cnt + IntKind.i64.wrap (s * y.cnt))⟩ : Ent)]).all fun e => smallB e.cnt) = true := by rw [List.all_append, hP]; simp [hsm]
                by_cases hz0 : (IntKind.i64.wrap (x.cnt + IntKind.i64.wrap (s * y.cnt))) = 0
                · have hF : (pre ++ [(⟨x.row, IntKind.i64.wrap (x.cnt + IntKind.i64.wrap (s * y.cnt))⟩ : Ent)]).filter nzB = pre.filter nzB := by rw [List.filter_append]; simp [nzB, hz0]
                  refine ⟨_, _, put_zero F.bag_put false (pre.filter nzB) (by omega) x.row (by omega) _ hsm hz0, ?_⟩
                  (conv => whnf); refine And.intro ⟨by omega, by rw [eC_length]; omega⟩ ?_
                  (conv => whnf); refine And.intro ⟨by omega, by rw [eC_length]; omega⟩ ?_
                  conv => whnf
                  refine ⟨(a'.drop 1).length + (b'.drop 1).length, hmN, Gp.one 0 2 (eC ((pre ++ [(⟨x.row, IntKind.i64.wrap (x.cnt + IntKind.i64.wrap (s * y.cnt))⟩ : Ent)]).filter nzB)) (by rw [hF]; rfl) (pureEs_eC _) rfl ?_ fun ρ1 h => .inl ⟨a'.drop 1, b'.drop 1, pre ++ [⟨x.row, IntKind.i64.wrap (x.cnt + IntKind.i64.wrap (s * y.cnt))⟩], (f1 && (none : Option AOpd).isNone), (f2 && (none : Option AOpd).isNone), rfl, hN, hPN, by simpa using hlN, hAN, hBN, rfl, h⟩⟩
                  exact ⟨pubL (tailE a'), pubL (tailE b'), .closed _ rfl, by rw [hF]; exact pubSl (k := 0) rfl rfl rfl rfl, .closed _ rfl, trivial⟩
                · have hF : (pre ++ [(⟨x.row, IntKind.i64.wrap (x.cnt + IntKind.i64.wrap (s * y.cnt))⟩ : Ent)]).filter nzB = pre.filter nzB ++ [⟨x.row, IntKind.i64.wrap (x.cnt + IntKind.i64.wrap (s * y.cnt))⟩] := by rw [List.filter_append]; simp [nzB, hz0]
                  have hFl : ((pre ++ [(⟨x.row, IntKind.i64.wrap (x.cnt + IntKind.i64.wrap (s * y.cnt))⟩ : Ent)]).filter nzB).length = (pre.filter nzB).length + 1 := by rw [hF, List.length_append]; rfl
                  refine ⟨_, _, put_add F.bag_put false (pre.filter nzB) (by omega) x.row (by omega) _ hsm hz0, ?_⟩
                  (conv => whnf); refine And.intro ⟨by omega, by rw [eC_length]; omega⟩ ?_
                  (conv => whnf); refine And.intro ⟨by omega, by rw [eC_length]; omega⟩ ?_
                  conv => whnf
                  refine ⟨(a'.drop 1).length + (b'.drop 1).length, hmN, Gp.one 0 2 (eC ((pre ++ [(⟨x.row, IntKind.i64.wrap (x.cnt + IntKind.i64.wrap (s * y.cnt))⟩ : Ent)]).filter nzB)) (by rw [hF]; rfl) (pureEs_eC _) rfl ?_ fun ρ1 h => .inl ⟨a'.drop 1, b'.drop 1, pre ++ [⟨x.row, IntKind.i64.wrap (x.cnt + IntKind.i64.wrap (s * y.cnt))⟩], (f1 && (none : Option AOpd).isNone), (f2 && (none : Option AOpd).isNone), rfl, hN, hPN, by simpa using hlN, hAN, hBN, rfl, h⟩⟩
                  exact ⟨pubL (tailE a'), pubL (tailE b'), .closed _ rfl, pubSl (k := 0) rfl rfl hFl.symm hFl.symm, .closed _ rfl, trivial⟩
    · replace hlt : decide (IntKind.i64.wrap (((eC a').length : Int) + ((eC b').length : Int)) > 0) = false := hlt
      rw [ew] at hlt
      simp at hlt
      have h1 : a' = [] := List.length_eq_zero_iff.1 (by omega)
      have h2 : b' = [] := List.length_eq_zero_iff.1 (by omega)
      have hMM : mrg a (sgn s b) = pre := by rw [hM, h1, h2, mrg_nil]; simp [sgn]
      conv => whnf
      refine (done_spec F.bag_done (pre.filter nzB)).mono ?_
      rintro r H1 ⟨rfl, ⟨h, rfl⟩ | ⟨h, rfl⟩⟩
      · conv => whnf
        rw [hMM, resR, if_neg (by omega)]
        exact pub2 (.closed _ rfl) (.closed _ rfl)
      · conv => whnf
        rw [hMM, resR, if_pos ⟨hP, h⟩]
        exact pub2 (pubF rfl (eC_length _).symm (eC_length _).symm (pureEs_eC _)) (.closed _ rfl)
  · (conv => whnf); refine recA (fun hlt => ?_) (fun hlt => ?_)
    all_goals
      conv => whnf
      rw [resR_bad _ hbad]
      exact pub2 (.closed _ rfl) (.closed _ rfl)

end Go.AW

namespace Go.AW
attribute [local irreducible] ACalls
set_option maxRecDepth 20000 in
theorem ref6_merge_raw {P : Program} (F : F_warehouseref6_merge P) (e1 e2 : Bool) (a b : List Ent) (ha : a.length ≤ 100000) (hb : b.length ≤ 100000) (hA : ∀ e ∈ a, EntOk e) (hB : ∀ e ∈ b, EntOk e) :
    ACalls P F.id [.list e1 2 (eC a), .list e2 2 (eC b)] [] (fun r H' => r = .sl 0 (mrg a b).length 0 (mrg a b).length ∧ H' = [.arr 2 (eC (mrg a b))]) := by
  refine acalls_of_body F.has ?_
  conv => whnf
  refine ⟨fun m ρ H => ∃ (a' b' pre : List Ent) (f1 f2 : Bool), m = a'.length + b'.length ∧ mrg a b = pre ++ mrg a' b' ∧
      pre.length + a'.length + b'.length ≤ a.length + b.length ∧ (∀ e ∈ a', EntOk e) ∧ (∀ e ∈ b', EntOk e) ∧ H = [.arr 2 (eC pre)] ∧
      Sv 74 [(0, .list f1 2 (eC a')), (1, .list f2 2 (eC b')), (5, .sl 0 pre.length 0 pre.length)] ρ, a.length + b.length, [(5, 2)], ?_, ?_⟩
  · exact ⟨a, b, [], e1, e2, rfl, rfl, by simp, hA, hB, by rfl, Sv.intro rfl ⟨rfl, rfl, rfl, trivial⟩⟩
  rintro m ρ H ⟨a', b', pre, f1, f2, hm, hM, hlen, hA', hB', rfl, d, rfl⟩
  (conv => whnf); refine recA (fun hz => ?_) (fun hz => ?_)
  · replace hz : decide (((eC a').length : Int) > 0) = true := hz
    rw [eC_length] at hz
    have hzl : a'.length ≠ 0 := by simp at hz; omega
    obtain ⟨x, hx, hxd, hxm⟩ := get_drop (l := a') (k := 0) (by omega)
    obtain ⟨kx1, kx2, kx3⟩ := hA' x hxm
    rw [List.drop_zero] at hxd
    (conv => whnf); refine recF (by rw [eC_length]; simpa using hzl) ?_
    (conv => whnf); refine recA (fun hw => ?_) (fun hw => ?_)
    · replace hw : decide (((eC b').length : Int) > 0) = true := hw
      rw [eC_length] at hw
      have hwl : b'.length ≠ 0 := by simp at hw; omega
      obtain ⟨y, hy, hyd, hym⟩ := get_drop (l := b') (k := 0) (by omega)
      obtain ⟨ky1, ky2, ky3⟩ := hB' y hym
      rw [List.drop_zero] at hyd
      (conv => whnf); refine And.intro (by decide) ?_
      (conv => whnf); refine recO (eC_at hx) ?_
      (conv => whnf); refine And.intro (by decide) ?_
      (conv => whnf); refine recO (eC_at hy) ?_
      conv => whnf
      refine ⟨_, ref1_CompareRows_spec F.warehouseref1_CompareRows false false x.row y.row (by omega) _, ?_⟩
      (conv => whnf); refine recA (fun hc => ?_) (fun hc => ?_)
      · replace hc : decide (rowsCmp x.row y.row < 0) = true := hc
        simp at hc
        (conv => whnf); refine And.intro (by decide) ?_
        (conv => whnf); refine recO (eC_at hx) ?_
        have hN : mrg a b = (pre ++ [⟨x.row, x.cnt⟩]) ++ mrg (a'.drop 1) (b') := by
          rw [hM, mrgA hxd (.inr ⟨_, _, hyd, hc⟩), List.append_assoc]; rfl
        have hlN : pre.length + 1 + (a'.drop 1).length + (b').length ≤ a.length + b.length := by simp [List.length_drop]; omega
        have hmN : (a'.drop 1).length + (b').length < m := by simp [List.length_drop]; omega
        have hAN : ∀ e ∈ (a'.drop 1), EntOk e := fun e h => hA' e (by first | exact h | exact List.mem_of_mem_drop h)
        have hBN : ∀ e ∈ (b'), EntOk e := fun e h => hB' e (by first | exact h | exact List.mem_of_mem_drop h)
        have hFl : (eC pre ++ [entC ⟨x.row, x.cnt⟩]).length = (pre ++ [(⟨x.row, x.cnt⟩ : Ent)]).length := by simp [eC_length]
        (conv => whnf); refine recT (by rw [eC_length]; exact Nat.beq_refl _) ?_
        (conv => whnf); refine And.intro ⟨roomMul (by simp; omega) (by omega), roomB_le (by simp; omega), rfl, by rw [eC_length]⟩ ?_
        (conv => whnf); refine And.intro ⟨by omega, by rw [eC_length]; omega⟩ ?_
        (conv => whnf); refine And.intro (by (conv => whnf); exact ⟨⟨by omega, by rw [eC_length]; omega⟩, rfl⟩) ?_
        conv => whnf
        refine ⟨(a'.drop 1).length + (b').length, hmN, Gp.one 0 2 (eC (pre ++ [⟨x.row, x.cnt⟩])) (by rw [eC_append]; rfl) (pureEs_eC _) rfl ?_ fun ρ1 h => ⟨a'.drop 1, b', pre ++ [⟨x.row, x.cnt⟩], (f1 && (none : Option AOpd).isNone), f2, rfl, hN, by simpa using hlN, hAN, hBN, rfl, h⟩⟩
        exact ⟨pubL (tailE a'), .closed _ rfl, pubSl (k := 0) rfl rfl hFl hFl, trivial⟩
      · replace hc : decide (rowsCmp x.row y.row < 0) = false := hc
        simp at hc
        (conv => whnf); refine recA (fun hg => ?_) (fun hg => ?_)
        · replace hg : decide (rowsCmp x.row y.row > 0) = true := hg
          simp at hg
          (conv => whnf); refine And.intro (by decide) ?_
          (conv => whnf); refine recO (eC_at hy) ?_
          have hN : mrg a b = (pre ++ [⟨y.row, y.cnt⟩]) ++ mrg (a') (b'.drop 1) := by
            rw [hM, mrgB hyd (.inr ⟨_, _, hxd, hg⟩), List.append_assoc]; rfl
          have hlN : pre.length + 1 + (a').length + (b'.drop 1).length ≤ a.length + b.length := by simp [List.length_drop]; omega
          have hmN : (a').length + (b'.drop 1).length < m := by simp [List.length_drop]; omega
          have hAN : ∀ e ∈ (a'), EntOk e := fun e h => hA' e (by first | exact h | exact List.mem_of_mem_drop h)
          have hBN : ∀ e ∈ (b'.drop 1), EntOk e := fun e h => hB' e (by first | exact h | exact List.mem_of_mem_drop h)
          have hFl : (eC pre ++ [entC ⟨y.row, y.cnt⟩]).length = (pre ++ [(⟨y.row, y.cnt⟩ : Ent)]).length := by simp [eC_length]
          (conv => whnf); refine recT (by rw [eC_length]; exact Nat.beq_refl _) ?_
          (conv => whnf); refine And.intro ⟨roomMul (by simp; omega) (by omega), roomB_le (by simp; omega), rfl, by rw [eC_length]⟩ ?_
          (conv => whnf); refine And.intro ⟨by omega, by rw [eC_length]; omega⟩ ?_
          (conv => whnf); refine And.intro (by (conv => whnf); exact ⟨⟨by omega, by rw [eC_length]; omega⟩, rfl⟩) ?_
          conv => whnf
          refine ⟨(a').length + (b'.drop 1).length, hmN, Gp.one 0 2 (eC (pre ++ [⟨y.row, y.cnt⟩])) (by rw [eC_append]; rfl) (pureEs_eC _) rfl ?_ fun ρ1 h => ⟨a', b'.drop 1, pre ++ [⟨y.row, y.cnt⟩], f1, (f2 && (none : Option AOpd).isNone), rfl, hN, by simpa using hlN, hAN, hBN, rfl, h⟩⟩
          exact ⟨.closed _ rfl, pubL (tailE b'), pubSl (k := 0) rfl rfl hFl hFl, trivial⟩
        · replace hg : decide (rowsCmp x.row y.row > 0) = false := hg
          simp at hg
          (conv => whnf); refine And.intro (by decide) ?_
          (conv => whnf); refine recO (eC_at hx) ?_
          (conv => whnf); refine And.intro (by decide) ?_
          (conv => whnf); refine recO (eC_at hx) ?_
          (conv => whnf); refine And.intro (by decide) ?_
          (conv => whnf); refine recO (eC_at hy) ?_
          have em2 : IntKind.i64.wrap (x.cnt + y.cnt) = x.cnt + y.cnt := wrapI _ (by omega) (by omega)
          have hN : mrg a b = (pre ++ [⟨x.row, IntKind.i64.wrap (x.cnt + y.cnt)⟩]) ++ mrg (a'.drop 1) (b'.drop 1) := by
            rw [hM, em2, mrgC hxd hyd (by omega), List.append_assoc]; rfl
          have hlN : pre.length + 1 + (a'.drop 1).length + (b'.drop 1).length ≤ a.length + b.length := by simp [List.length_drop]; omega
          have hmN : (a'.drop 1).length + (b'.drop 1).length < m := by simp [List.length_drop]; omega
          have hAN : ∀ e ∈ (a'.drop 1), EntOk e := fun e h => hA' e (by first | exact h | exact List.mem_of_mem_drop h)
          have hBN : ∀ e ∈ (b'.drop 1), EntOk e := fun e h => hB' e (by first | exact h | exact List.mem_of_mem_drop h)
          have hFl : (eC pre ++ [entC ⟨x.row, IntKind.i64.wrap (x.cnt + y.cnt)⟩]).length = (pre ++ [(⟨x.row, IntKind.i64.wrap (x.cnt + y.cnt)⟩ : Ent)]).length := by simp [eC_length]
          (conv => whnf); refine recT (by rw [eC_length]; exact Nat.beq_refl _) ?_
          (conv => whnf); refine And.intro ⟨roomMul (by simp; omega) (by omega), roomB_le (by simp; omega), rfl, by rw [eC_length]⟩ ?_
          (conv => whnf); refine And.intro ⟨by omega, by rw [eC_length]; omega⟩ ?_
          (conv => whnf); refine And.intro ⟨by omega, by rw [eC_length]; omega⟩ ?_
          conv => whnf
          refine ⟨(a'.drop 1).length + (b'.drop 1).length, hmN, Gp.one 0 2 (eC (pre ++ [⟨x.row, IntKind.i64.wrap (x.cnt + y.cnt)⟩])) (by rw [eC_append]; rfl) (pureEs_eC _) rfl ?_ fun ρ1 h => ⟨a'.drop 1, b'.drop 1, pre ++ [⟨x.row, IntKind.i64.wrap (x.cnt + y.cnt)⟩], (f1 && (none : Option AOpd).isNone), (f2 && (none : Option AOpd).isNone), rfl, hN, by simpa using hlN, hAN, hBN, rfl, h⟩⟩
          exact ⟨pubL (tailE a'), pubL (tailE b'), pubSl (k := 0) rfl rfl hFl hFl, trivial⟩
    · replace hw : decide (((eC b').length : Int) > 0) = false := hw
      rw [eC_length] at hw
      have hwn : b' = [] := by simp at hw; exact hw
      have hwl : b'.length = 0 := by rw [hwn]; rfl
      (conv => whnf); refine And.intro (by decide) ?_
      (conv => whnf); refine recO (eC_at hx) ?_
      have hN : mrg a b = (pre ++ [⟨x.row, x.cnt⟩]) ++ mrg (a'.drop 1) (b') := by
        rw [hM, mrgA hxd (.inl hwn), List.append_assoc]; rfl
      have hlN : pre.length + 1 + (a'.drop 1).length + (b').length ≤ a.length + b.length := by simp [List.length_drop]; omega
      have hmN : (a'.drop 1).length + (b').length < m := by simp [List.length_drop]; omega
      have hAN : ∀ e ∈ (a'.drop 1), EntOk e := fun e h => hA' e (by first | exact h | exact List.mem_of_mem_drop h)
      have hBN : ∀ e ∈ (b'), EntOk e := fun e h => hB' e (by first | exact h | exact List.mem_of_mem_drop h)
      have hFl : (eC pre ++ [entC ⟨x.row, x.cnt⟩]).length = (pre ++ [(⟨x.row, x.cnt⟩ : Ent)]).length := by simp [eC_length]
      (conv => whnf); refine recT (by rw [eC_length]; exact Nat.beq_refl _) ?_
      (conv => whnf); refine And.intro ⟨roomMul (by simp; omega) (by omega), roomB_le (by simp; omega), rfl, by rw [eC_length]⟩ ?_
      (conv => whnf); refine And.intro ⟨by omega, by rw [eC_length]; omega⟩ ?_
      (conv => whnf); refine And.intro (by (conv => whnf); exact ⟨⟨by omega, by rw [eC_length]; omega⟩, rfl⟩) ?_
      conv => whnf
      refine ⟨(a'.drop 1).length + (b').length, hmN, Gp.one 0 2 (eC (pre ++ [⟨x.row, x.cnt⟩])) (by rw [eC_append]; rfl) (pureEs_eC _) rfl ?_ fun ρ1 h => ⟨a'.drop 1, b', pre ++ [⟨x.row, x.cnt⟩], (f1 && (none : Option AOpd).isNone), f2, rfl, hN, by simpa using hlN, hAN, hBN, rfl, h⟩⟩
      exact ⟨pubL (tailE a'), .closed _ rfl, pubSl (k := 0) rfl rfl hFl hFl, trivial⟩
  · replace hz : decide (((eC a').length : Int) > 0) = false := hz
    rw [eC_length] at hz
    have hzn : a' = [] := by simp at hz; exact hz
    have hzl : a'.length = 0 := by rw [hzn]; rfl
    (conv => whnf); refine recA (fun hw => ?_) (fun hw => ?_)
    · replace hw : decide (((eC b').length : Int) > 0) = true := hw
      rw [eC_length] at hw
      have hwl : b'.length ≠ 0 := by simp at hw; omega
      obtain ⟨y, hy, hyd, hym⟩ := get_drop (l := b') (k := 0) (by omega)
      obtain ⟨ky1, ky2, ky3⟩ := hB' y hym
      rw [List.drop_zero] at hyd
      (conv => whnf); refine recT (by rw [eC_length]; simpa using hzl) ?_
      (conv => whnf); refine And.intro (by decide) ?_
      (conv => whnf); refine recO (eC_at hy) ?_
      have hN : mrg a b = (pre ++ [⟨y.row, y.cnt⟩]) ++ mrg (a') (b'.drop 1) := by
        rw [hM, mrgB hyd (.inl hzn), List.append_assoc]; rfl
      have hlN : pre.length + 1 + (a').length + (b'.drop 1).length ≤ a.length + b.length := by simp [List.length_drop]; omega
      have hmN : (a').length + (b'.drop 1).length < m := by simp [List.length_drop]; omega
      have hAN : ∀ e ∈ (a'), EntOk e := fun e h => hA' e (by first | exact h | exact List.mem_of_mem_drop h)
      have hBN : ∀ e ∈ (b'.drop 1), EntOk e := fun e h => hB' e (by first | exact h | exact List.mem_of_mem_drop h)
      have hFl : (eC pre ++ [entC ⟨y.row, y.cnt⟩]).length = (pre ++ [(⟨y.row, y.cnt⟩ : Ent)]).length := by simp [eC_length]
      (conv => whnf); refine recT (by rw [eC_length]; exact Nat.beq_refl _) ?_
      (conv => whnf); refine And.intro ⟨roomMul (by simp; omega) (by omega), roomB_le (by simp; omega), rfl, by rw [eC_length]⟩ ?_
      (conv => whnf); refine And.intro ⟨by omega, by rw [eC_length]; omega⟩ ?_
      (conv => whnf); refine And.intro (by (conv => whnf); exact ⟨⟨by omega, by rw [eC_length]; omega⟩, rfl⟩) ?_
      conv => whnf
      refine ⟨(a').length + (b'.drop 1).length, hmN, Gp.one 0 2 (eC (pre ++ [⟨y.row, y.cnt⟩])) (by rw [eC_append]; rfl) (pureEs_eC _) rfl ?_ fun ρ1 h => ⟨a', b'.drop 1, pre ++ [⟨y.row, y.cnt⟩], f1, (f2 && (none : Option AOpd).isNone), rfl, hN, by simpa using hlN, hAN, hBN, rfl, h⟩⟩
      exact ⟨.closed _ rfl, pubL (tailE b'), pubSl (k := 0) rfl rfl hFl hFl, trivial⟩
    · replace hw : decide (((eC b').length : Int) > 0) = false := hw
      rw [eC_length] at hw
      have hwn : b' = [] := by simp at hw; exact hw
      have hMM : mrg a b = pre := by rw [hM, hzn, hwn, mrg_nil]; simp
      conv => whnf
      rw [hMM]
      exact ⟨rfl, rfl⟩

theorem mrg_length : ∀ (a b : List Ent), (mrg a b).length ≤ a.length + b.length
  | [], b => by rw [mrg_nil]; omega
  | x :: a, [] => by rw [mrg_nil2]; omega
  | x :: a, y :: b => by
    rw [mrg_cons]
    have h1 := mrg_length a (y :: b)
    have h2 := mrg_length (x :: a) b
    have h3 := mrg_length a b
    split
    · simp at h1 ⊢; omega
    split
    · simp at h2 ⊢; omega
    · simp; omega
termination_by a b => a.length + b.length

theorem ref6_merge_spec {P : Program} (F : F_warehouseref6_merge P) (e1 e2 : Bool) (a b : List Ent) (ha : a.length ≤ 100000) (hb : b.length ≤ 100000) (hA : ∀ e ∈ a, EntOk e) (hB : ∀ e ∈ b, EntOk e) (H : List AObj) :
    ACalls P F.id [.list e1 2 (eC a), .list e2 2 (eC b)] H (fun r H' => r = .list false 2 (eC (mrg a b)) ∧ H' = H) :=
  ACalls.frz1 (by simp [AVal.closed, AVal.isPure]) (ref6_merge_raw F e1 e2 a b ha hb hA hB) (eC_length _).symm (pureEs_eC _)

end Go.AW

namespace Go.AW
attribute [local irreducible] ACalls
theorem obPush (O : List Ent) (row : List V) (c : Int) (n : Nat) (H : List AObj) (h1 : H[1]? = some (.arr 3 (vC row))) (hn : n = row.length) :
    ObP H [0] (.arr 2 (eC O ++ [[.sl 1 n 0 n, .int .i64 c]])) (.arr 2 (eC (O ++ [⟨row, c⟩]))) := by
  have hp : Pub H 0 [0] (.sl 1 n 0 n) (.list false 3 (vC row)) := by
    have h := Pub.frz (n := 0) (ids := [0]) 1 (vC row).length 0 (vC row).length 3 (vC row) h1 rfl (pureEs_vC _) (by simp)
    rw [List.drop_zero, List.take_length, vC_length, ← hn] at h
    exact h
  have hcell : ∀ (e : Ent) (j : Nat) (d d1 : AVal), (entC e)[j]? = some d → (entC e)[j]? = some d1 → Pub H 0 [0] d d1 ∧ d1.isCell = true := by
    intro e j d d1 h2 h3
    rcases j with _ | _ | j
    · cases h2; cases h3; exact ⟨.closed _ rfl, rfl⟩
    · cases h2; cases h3; exact ⟨.closed _ rfl, rfl⟩
    · simp [entC] at h2
  have hi : ∀ (i : Nat) (e e1 : List AVal), (eC O ++ [[.sl 1 n 0 n, .int .i64 c]])[i]? = some e → (eC (O ++ [⟨row, c⟩]))[i]? = some e1 →
      (∃ x : Ent, e = entC x ∧ e1 = entC x) ∨ (e = [.sl 1 n 0 n, .int .i64 c] ∧ e1 = entC ⟨row, c⟩) := by
    intro i e e1 h2 h3
    rw [eC_append] at h3
    by_cases hlt : i < (eC O).length
    · rw [List.getElem?_append_left hlt] at h2 h3
      rw [eC, List.getElem?_map] at h2 h3
      rcases hO : O[i]? with _ | x
      · rw [hO] at h2; cases h2
      · rw [hO] at h2 h3
        cases h2; cases h3
        exact .inl ⟨x, rfl, rfl⟩
    · rw [List.getElem?_append_right (by omega)] at h2 h3
      rcases hk : i - (eC O).length with _ | k
      · rw [hk] at h2 h3
        simp at h2; simp [eC] at h3
        exact .inr ⟨h2.symm, h3.symm⟩
      · rw [hk] at h2; simp at h2
  refine .map 2 _ _ (by simp [eC]) (fun i e e1 h2 h3 => ?_) (fun i j e e1 d d1 h2 h3 h4 h5 => ?_)
  · rcases hi i e e1 h2 h3 with ⟨x, rfl, rfl⟩ | ⟨rfl, rfl⟩ <;> rfl
  · rcases hi i e e1 h2 h3 with ⟨x, rfl, rfl⟩ | ⟨rfl, rfl⟩
    · exact hcell x j d d1 h4 h5
    · rcases j with _ | _ | j
      · cases h4; cases h5; exact ⟨hp, rfl⟩
      · cases h4; cases h5; exact ⟨.closed _ rfl, rfl⟩
      · simp at h4

theorem filter_le_of_prefix (pre l : List Ent) (h : ∃ t, l = pre ++ t) : (pre.filter nzB).length ≤ (l.filter nzB).length := by
  obtain ⟨t, rfl⟩ := h
  rw [List.filter_append, List.length_append]; omega

set_option maxRecDepth 20000 in
theorem ref6_result_spec {P : Program} (F : F_warehouseref6_result P) (ex : Bool) (l : List Ent) (hl : l.length ≤ 100000) (hr : ∀ e ∈ l, e.row.length ≤ 1000) (H : List AObj) :
    ACalls P F.id [.list ex 2 (eC l)] H (fun r H' => r = resR l ∧ H' = H) := by
  refine ACalls.pure (by simp [AVal.closed, AVal.isPure]) (acalls_of_body F.has ?_)
  conv => whnf
  refine ⟨fun m ρ H => ∃ k : Nat, k + m = l.length ∧ ((l.take k).all fun e => smallB e.cnt) = true ∧ ((l.take k).filter nzB).length ≤ 4096 ∧ H = [.arr 2 (eC ((l.take k).filter nzB))] ∧
      Sv 46 [(0, .list ex 2 (eC l)), (4, .sl 0 ((l.take k).filter nzB).length 0 ((l.take k).filter nzB).length), (5, .int .i64 k)] ρ, l.length, [(4, 2)], ?_, ?_⟩
  · exact ⟨0, by omega, rfl, by simp, by rfl, Sv.intro rfl ⟨rfl, rfl, rfl, trivial⟩⟩
  rintro m ρ H ⟨k, hk, hP, hO, rfl, d, rfl⟩
  (conv => whnf); refine recA (fun hlt => ?_) (fun hlt => ?_)
  · simp [eC_length] at hlt
    obtain ⟨x, hx, hxd, hxm⟩ := get_drop hlt
    have ew := wrapI ((k : Int) + 1) (by omega) (by omega)
    have hxr := hr x hxm
    have hT : l.take (k + 1) = l.take k ++ [x] := by rw [List.take_add_one, hx]; rfl
    have hl2 : l = l.take k ++ x :: l.drop (k + 1) := by rw [← hxd, List.take_append_drop]
    conv => whnf
    refine And.intro (by omega) ?_
    (conv => whnf); refine recO (eC_at hx) ?_
    (conv => whnf); refine recA (fun hz => ?_) (fun hz => ?_)
    · replace hz : (x.cnt == 0) = true := hz
      simp at hz
      have hF : (l.take (k + 1)).filter nzB = (l.take k).filter nzB := by rw [hT, List.filter_append]; simp [nzB, hz]
      conv => whnf
      refine ⟨m - 1, by omega, Gp.keep rfl ?_ fun ρ1 h => ⟨k + 1, by omega, ?_, ?_, ?_, h⟩⟩
      · exact ⟨rfl, by rw [hF]; rfl, intEq ew, trivial⟩
      · rw [hT, List.all_append, hP]; simp [smallB, hz]
      · rw [hF]; exact hO
      · rw [hF]
    replace hz : (x.cnt == 0) = false := hz
    simp at hz
    conv => whnf
    refine And.intro (by omega) ?_
    (conv => whnf); refine recO (eC_at hx) ?_
    conv => whnf
    refine ACalls.use (small_spec F.warehouseref6_small _ _) ?_
    (conv => whnf); refine recA (fun hs => ?_) (fun hs => ?_)
    · replace hs : (!(smallB x.cnt)) = true := hs
      simp at hs
      conv => whnf
      rw [resR_bad l (by rw [hl2]; simp [hs])]
      exact pub2 (.closed _ rfl) (.closed _ rfl)
    replace hs : (!(smallB x.cnt)) = false := hs
    simp at hs
    have hF : (l.take (k + 1)).filter nzB = (l.take k).filter nzB ++ [x] := by rw [hT, List.filter_append]; simp [nzB, hz]
    (conv => whnf); refine recT (by rw [eC_length]; exact Nat.beq_refl _) ?_
    (conv => whnf); refine recA (fun hq => ?_) (fun hq => ?_)
    · replace hq : ((((l.take k).filter nzB).length : Int) == 4096) = true := hq
      simp at hq
      conv => whnf
      have h3 := filter_le_of_prefix (l.take (k + 1)) l ⟨l.drop (k + 1), (List.take_append_drop _ _).symm⟩
      rw [hF, List.length_append] at h3
      rw [resR, if_neg (by simp at h3; omega)]
      exact pub2 (.closed _ rfl) (.closed _ rfl)
    · replace hq : ((((l.take k).filter nzB).length : Int) == 4096) = false := hq
      simp at hq
      conv => whnf
      refine And.intro (by omega) ?_
      (conv => whnf); refine recO (eC_at hx) ?_
      (conv => whnf); refine And.intro ⟨roomMul (by rw [vC_length]; omega) (by omega), roomB_le (by rw [vC_length]; omega)⟩ ?_
      (conv => whnf); refine And.intro (by omega) ?_
      (conv => whnf); refine recO (eC_at hx) ?_
      (conv => whnf); refine recT (by rw [eC_length]; exact Nat.beq_refl _) ?_
      (conv => whnf); refine And.intro ⟨roomMul (by simp; omega) (by omega), roomB_le (by simp; omega), rfl, by rw [eC_length]⟩ ?_
      conv => whnf
      refine And.intro (by (conv => whnf); try rfl) ?_
      conv => whnf
      refine And.intro (by (conv => whnf); refine And.intro (by omega) ?_; (conv => whnf); refine recO (eC_at hx) ?_; (conv => whnf); try rfl) ?_
      conv => whnf
      have hFl : (eC ((l.take k).filter nzB) ++ [[AVal.sl 1 (vC x.row).length 0 (vC x.row).length, .int .i64 x.cnt]]).length = ((l.take (k + 1)).filter nzB).length := by
        rw [hF]; simp [eC_length]
      refine ⟨m - 1, by omega, Gp.some (H1 := [.arr 2 (eC ((l.take k).filter nzB ++ [x]))]) [0] (by simp) ?_ rfl ?_ fun ρ1 h => ⟨k + 1, by omega, ?_, ?_, ?_, h⟩⟩
      · exact ⟨⟨_, rfl, obPush ((l.take k).filter nzB) x.row x.cnt (vC x.row).length _ rfl (vC_length _)⟩, trivial⟩
      · exact ⟨.closed _ rfl, pubSl (k := 0) rfl rfl hFl hFl, pub_int ew, trivial⟩
      · rw [hT, List.all_append, hP]; simp [hs]
      · rw [hF, List.length_append]; simp; omega
      · rw [hF]
  · simp [eC_length] at hlt
    have hT : l.take k = l := List.take_of_length_le hlt
    conv => whnf
    rw [hT] at hP hO ⊢
    rw [resR, if_pos ⟨hP, hO⟩]
    exact pub2 (pubF rfl (eC_length _).symm (eC_length _).symm (pureEs_eC _)) (.closed _ rfl)

theorem both_spec {P : Program} (F : F_bag_both P) (e1 e2 : Bool) (a b : List Ent) (H : List AObj) :
    ACalls P F.id [.list e1 2 (eC a), .list e2 2 (eC b)] H (fun r H' => r = .int .i64 (if bagB a ≠ 0 then bagB a else bagB b) ∧ H' = H) := by
  refine ACalls.pure (by simp [AVal.closed, AVal.isPure]) (acalls_of_body F.has ?_)
  (conv => whnf); refine ACalls.use (bag_Validate_spec F.bag_Validate e1 a _) ?_
  (conv => whnf); refine recA (fun h => ?_) (fun h => ?_)
  · replace h : (!(bagB a == 0)) = true := h
    simp at h
    conv => whnf
    exact pubI (by rw [if_pos h])
  · replace h : (!(bagB a == 0)) = false := h
    simp at h
    (conv => whnf); refine ACalls.use (bag_Validate_spec F.bag_Validate e2 b _) ?_
    conv => whnf
    exact pubI (by rw [if_neg (by simp [h])])

theorem two_spec {P : Program} (F : F_warehouseref6_two P) (e1 e2 : Bool) (a b : List Ent) (H : List AObj) :
    ACalls P F.id [.list e1 2 (eC a), .list e2 2 (eC b)] H (fun r H' => r = .int .i64 (if bagB a ≠ 0 then bagB a else bagB b) ∧ H' = H) := by
  refine ACalls.pure (by simp [AVal.closed, AVal.isPure]) (acalls_of_body F.has ?_)
  (conv => whnf); refine ACalls.use (ref6_Validate_spec F.warehouseref6_Validate e1 a _) ?_
  (conv => whnf); refine recA (fun h => ?_) (fun h => ?_)
  · replace h : (!(bagB a == 0)) = true := h
    simp at h
    conv => whnf
    exact pubI (by rw [if_pos h])
  · replace h : (!(bagB a == 0)) = false := h
    simp at h
    (conv => whnf); refine ACalls.use (ref6_Validate_spec F.warehouseref6_Validate e2 b _) ?_
    conv => whnf
    exact pubI (by rw [if_neg (by simp [h])])

theorem bvGo_ok : ∀ (b : List Ent) (p : Option (List V)), bvGo b p = 0 → ∀ e ∈ b, fitB e = 0 ∧ e.cnt ≠ 0
  | [], _, _, e, h => by simp at h
  | x :: b, p, h, e, he => by
    rw [bvGo] at h
    by_cases h1 : fitB x = 0
    · rw [if_neg (by simp [h1])] at h
      by_cases h2 : x.cnt = 0
      · rw [if_pos h2] at h; cases h
      · rw [if_neg h2] at h
        split at h
        · cases h
        · rcases List.mem_cons.1 he with rfl | he
          · exact ⟨h1, h2⟩
          · exact bvGo_ok b _ h e he
    · rw [if_pos h1] at h; exact absurd h h1

theorem bagB_ok {b : List Ent} (h : bagB b = 0) : b.length ≤ 4096 ∧ (∀ e ∈ b, EntOk e) ∧ bvGo b none = 0 := by
  rw [bagB] at h
  split at h
  · cases h
  · refine ⟨by omega, fun e he => ?_, h⟩
    obtain ⟨g1, g2, g3, _⟩ := fitB_zero e (bvGo_ok b none h e he).1
    exact ⟨g1, g2, g3⟩

def addR (a b : List Ent) : AVal :=
  if bagB a ≠ 0 then .tuple [.nil, .int .i64 (bagB a)] else if bagB b ≠ 0 then .tuple [.nil, .int .i64 (bagB b)] else resR (mrg a b)

theorem resR_cases (l : List Ent) : resR l = .tuple [.nil, .int .i64 2] ∨ resR l = .tuple [.list false 2 (eC (l.filter nzB)), .int .i64 0] := by
  unfold resR
  split
  · exact .inr rfl
  · exact .inl rfl

theorem sgn_one (b : List Ent) : sgn 1 b = b := by
  have : (fun e : Ent => (⟨e.row, 1 * e.cnt⟩ : Ent)) = id := by funext e; simp
  rw [sgn, this, List.map_id]

theorem mrg_row {n : Nat} : ∀ (a b : List Ent), (∀ e ∈ a, e.row.length ≤ n) → (∀ e ∈ b, e.row.length ≤ n) → ∀ e ∈ mrg a b, e.row.length ≤ n
  | [], b, _, hb, e, he => by rw [mrg_nil] at he; exact hb e he
  | x :: a, [], ha, _, e, he => by rw [mrg_nil2] at he; exact ha e he
  | x :: a, y :: b, ha, hb, e, he => by
    rw [mrg_cons] at he
    have ha' : ∀ e ∈ a, e.row.length ≤ n := fun e h => ha e (List.mem_cons_of_mem _ h)
    have hb' : ∀ e ∈ b, e.row.length ≤ n := fun e h => hb e (List.mem_cons_of_mem _ h)
    split at he
    · rcases List.mem_cons.1 he with rfl | he
      · exact ha _ (List.mem_cons_self ..)
      · exact mrg_row a (y :: b) ha' hb e he
    split at he
    · rcases List.mem_cons.1 he with rfl | he
      · exact hb _ (List.mem_cons_self ..)
      · exact mrg_row (x :: a) b ha hb' e he
    · rcases List.mem_cons.1 he with rfl | he
      · exact ha x (List.mem_cons_self ..)
      · exact mrg_row a b ha' hb' e he
termination_by a b => a.length + b.length

set_option maxRecDepth 20000 in
theorem bag_Add_spec {P : Program} (F : F_bag_Add P) (e1 e2 : Bool) (a b : List Ent) (H : List AObj) :
    ACalls P F.id [.list e1 2 (eC a), .list e2 2 (eC b)] H (fun r H' => r = addR a b ∧ H' = H) := by
  refine ACalls.pure (by simp [AVal.closed, AVal.isPure]) (acalls_of_body F.has ?_)
  (conv => whnf); refine ACalls.use (both_spec F.bag_both e1 e2 a b _) ?_
  (conv => whnf); refine recA (fun h => ?_) (fun h => ?_)
  · replace h : (!((if bagB a ≠ 0 then bagB a else bagB b) == 0)) = true := h
    have hR : addR a b = .tuple [.nil, .int .i64 (if bagB a ≠ 0 then bagB a else bagB b)] := by
      simp at h
      unfold addR
      split
      · rfl
      · rw [if_pos (by simp_all)]
    conv => whnf
    rw [hR]
    exact pub2 (.closed _ rfl) (.closed _ rfl)
  · replace h : (!((if bagB a ≠ 0 then bagB a else bagB b) == 0)) = false := h
    have h1 : bagB a = 0 := by
      by_cases h1 : bagB a = 0
      · exact h1
      · rw [if_pos h1] at h; simp at h; exact h
    have h2 : bagB b = 0 := by rw [if_neg (by simp [h1])] at h; simpa using h
    have hR : addR a b = resR (mrg a b) := by unfold addR; rw [if_neg (by simp [h1]), if_neg (by simp [h2])]
    obtain ⟨a1, a2, _⟩ := bagB_ok h1
    obtain ⟨b1, b2, _⟩ := bagB_ok h2
    (conv => whnf); refine ACalls.use (bag_merge_spec F.bag_merge e1 e2 a b 1 (.inl rfl) a1 b1 a2 b2 _) ?_
    rw [sgn_one]
    rcases resR_cases (mrg a b) with hE | hE <;> rw [hE] at hR ⊢ <;> (conv => whnf) <;> rw [hR]
    · exact pub2 (.closed _ rfl) (.closed _ rfl)
    · exact pub2 (.closed _ rfl) (.closed _ rfl)

set_option maxRecDepth 20000 in
theorem ref6_Add_spec {P : Program} (F : F_warehouseref6_Add P) (e1 e2 : Bool) (a b : List Ent) (H : List AObj) :
    ACalls P F.id [.list e1 2 (eC a), .list e2 2 (eC b)] H (fun r H' => r = addR a b ∧ H' = H) := by
  refine ACalls.pure (by simp [AVal.closed, AVal.isPure]) (acalls_of_body F.has ?_)
  (conv => whnf); refine ACalls.use (two_spec F.warehouseref6_two e1 e2 a b _) ?_
  (conv => whnf); refine recA (fun h => ?_) (fun h => ?_)
  · replace h : (!((if bagB a ≠ 0 then bagB a else bagB b) == 0)) = true := h
    have hR : addR a b = .tuple [.nil, .int .i64 (if bagB a ≠ 0 then bagB a else bagB b)] := by
      simp at h
      unfold addR
      split
      · rfl
      · rw [if_pos (by simp_all)]
    conv => whnf
    rw [hR]
    exact pub2 (.closed _ rfl) (.closed _ rfl)
  · replace h : (!((if bagB a ≠ 0 then bagB a else bagB b) == 0)) = false := h
    have h1 : bagB a = 0 := by
      by_cases h1 : bagB a = 0
      · exact h1
      · rw [if_pos h1] at h; simp at h; exact h
    have h2 : bagB b = 0 := by rw [if_neg (by simp [h1])] at h; simpa using h
    have hR : addR a b = resR (mrg a b) := by unfold addR; rw [if_neg (by simp [h1]), if_neg (by simp [h2])]
    obtain ⟨a1, a2, _⟩ := bagB_ok h1
    obtain ⟨b1, b2, _⟩ := bagB_ok h2
    have hml := mrg_length a b
    (conv => whnf); refine ACalls.use (ref6_merge_spec F.warehouseref6_merge e1 e2 a b (by omega) (by omega) a2 b2 _) ?_
    (conv => whnf); refine ACalls.use (ref6_result_spec F.warehouseref6_result false (mrg a b) (by omega) (mrg_row a b (fun e h => by have := (a2 e h).1; omega) (fun e h => by have := (b2 e h).1; omega)) _) ?_
    rcases resR_cases (mrg a b) with hE | hE <;> rw [hE] at hR ⊢ <;> (conv => whnf) <;> rw [hR]
    · exact pub2 (.closed _ rfl) (.closed _ rfl)
    · exact pub2 (.closed _ rfl) (.closed _ rfl)

end Go.AW

namespace Go.AW
attribute [local irreducible] ACalls
structure Grp where
  n : Int
  vals : List Ent

def oneB (e : Ent) : Bool := match e.row with
  | [v] => !(v.kind == 0)
  | _ => false

def rowsB (n : Int) : Bool := decide (-268435456 ≤ n) && decide (n ≤ 268435456)

def grpB (g : Grp) : Int := if rowsB g.n = false then 1 else if bagB g.vals ≠ 0 then bagB g.vals else if g.vals.all oneB then 0 else 8

end Go.AW

