/-
  An abstract machine over the model, the code of functions on it, and their contracts: what the claim needs.
  No condition: definitions, plain laws, contracts over any program that has this code.
-/
import Derived.Test.YtgipmadklcjcoaaZ2
set_option linter.all false
namespace Go.AW
def c_bag_formed (f_value_Valid : FuncId) : AFunc := ⟨30, [.tmp 2],
  (.seq
  (.region [
    ⟨(some 1), .box (.t 0), none⟩,
    ⟨(some 2), .move (.c (.int .i64 0)), none⟩])
  (.seq
  (.seq
  (.region [
    ⟨(some 5), .fieldAddr 0 (.t 1), none⟩,
    ⟨(some 6), .load false 1 (.t 5), none⟩,
    ⟨(some 7), .len (.t 6), none⟩,
    ⟨(some 8), .bin .gtr (.t 7) (.c (.int .i64 12)), none⟩,
    ⟨(some 9), .move (.t 8), none⟩,
    ⟨(some 10), .fieldAddr 1 (.t 1), some (some 9, false)⟩,
    ⟨(some 11), .load false 1 (.t 10), some (some 9, false)⟩,
    ⟨(some 12), .bin .lss (.t 11) (.c (.int .i64 (-65536))), some (some 9, false)⟩,
    ⟨(some 13), .pick (.t 9) (.c (.bool true)) (.t 12), none⟩,
    ⟨(some 14), .move (.t 13), none⟩,
    ⟨(some 15), .fieldAddr 1 (.t 1), some (some 14, false)⟩,
    ⟨(some 16), .load false 1 (.t 15), some (some 14, false)⟩,
    ⟨(some 17), .bin .gtr (.t 16) (.c (.int .i64 65536)), some (some 14, false)⟩,
    ⟨(some 18), .pick (.t 14) (.c (.bool true)) (.t 17), none⟩])
  (.cond (.t 18)
    (.seq
    (.region [
      ⟨(some 2), .move (.c (.int .i64 2)), none⟩])
    .ret)
    .skip))
  (.seq
  (.seq
  (.region [
    ⟨(some 19), .fieldAddr 0 (.t 1), none⟩,
    ⟨(some 20), .load false 1 (.t 19), none⟩,
    ⟨(some 21), .len (.t 20), none⟩,
    ⟨(some 22), .move (.c (.int .i64 0)), none⟩])
  (.block 0
    (.loop
      (.seq
      (.region [
        ⟨(some 23), .bin .lss (.t 22) (.t 21), none⟩])
      (.seq
      (.cond (.t 23)
        .skip
        (.exit 0))
      (.seq
      (.block 1
        (.seq
        (.region [
          ⟨(some 24), .indexAddr 3 (.t 20) (.t 22), none⟩,
          ⟨(some 25), .load true 3 (.t 24), none⟩,
          ⟨(some 4), .alloc [(.int .i64 0), (.int .i64 0), (.str (bs []))], none⟩,
          ⟨none, .store 3 (.t 4) (.t 25), none⟩])
        (.seq
        (.region [
          ⟨(some 26), .load true 3 (.t 4), none⟩,
          ⟨(some 27), .call f_value_Valid [(.t 26)], none⟩,
          ⟨(some 28), .un .not (.t 27), none⟩])
        (.cond (.t 28)
          (.seq
          (.region [
            ⟨(some 2), .move (.c (.int .i64 8)), none⟩])
          .ret)
          .skip))))
      (.region [
        ⟨(some 29), .bin .add (.t 22) (.c (.int .i64 1)), none⟩,
        ⟨(some 22), .move (.t 29), none⟩])))))))
  (.seq
  (.region [
    ⟨(some 2), .move (.c (.int .i64 0)), none⟩])
  .ret))))⟩

structure F_bag_formed (P : Program) where
  id : FuncId
  value_Valid : F_value_Valid P
  has : Has P id [] (c_bag_formed value_Valid.id)

def c_bag_Validate (f_bag_formed : FuncId) (f_value_CompareRows : FuncId) : AFunc := ⟨39, [.tmp 2],
  (.seq
  (.region [
    ⟨(some 2), .move (.c (.int .i64 0)), none⟩])
  (.seq
  (.seq
  (.region [
    ⟨(some 6), .move (.t 0), none⟩,
    ⟨(some 7), .len (.t 6), none⟩,
    ⟨(some 8), .bin .gtr (.t 7) (.c (.int .i64 4096)), none⟩])
  (.cond (.t 8)
    (.seq
    (.region [
      ⟨(some 2), .move (.c (.int .i64 2)), none⟩])
    .ret)
    .skip))
  (.seq
  (.seq
  (.region [
    ⟨(some 9), .move (.t 0), none⟩,
    ⟨(some 10), .len (.t 9), none⟩,
    ⟨(some 11), .move (.c (.int .i64 0)), none⟩])
  (.block 0
    (.loop
      (.seq
      (.region [
        ⟨(some 12), .bin .lss (.t 11) (.t 10), none⟩])
      (.seq
      (.cond (.t 12)
        .skip
        (.exit 0))
      (.seq
      (.block 1
        (.seq
        (.region [
          ⟨(some 13), .move (.t 11), none⟩,
          ⟨(some 14), .indexAddr 2 (.t 9) (.t 11), none⟩,
          ⟨(some 15), .load true 2 (.t 14), none⟩,
          ⟨(some 4), .alloc [.nil, (.int .i64 0)], none⟩,
          ⟨(some 3), .move (.t 13), none⟩,
          ⟨none, .store 2 (.t 4) (.t 15), none⟩])
        (.seq
        (.seq
        (.region [
          ⟨(some 16), .load true 2 (.t 4), none⟩,
          ⟨(some 17), .call f_bag_formed [(.t 16)], none⟩,
          ⟨(some 5), .move (.t 17), none⟩])
        (.seq
        (.region [
          ⟨(some 18), .move (.t 5), none⟩,
          ⟨(some 19), .bin .neq (.t 18) (.c (.int .i64 0)), none⟩])
        (.cond (.t 19)
          (.seq
          (.region [
            ⟨(some 20), .move (.t 5), none⟩,
            ⟨(some 2), .move (.t 20), none⟩])
          .ret)
          .skip)))
        (.seq
        (.seq
        (.region [
          ⟨(some 21), .fieldAddr 1 (.t 4), none⟩,
          ⟨(some 22), .load false 1 (.t 21), none⟩,
          ⟨(some 23), .bin .eql (.t 22) (.c (.int .i64 0)), none⟩])
        (.cond (.t 23)
          (.seq
          (.region [
            ⟨(some 2), .move (.c (.int .i64 8)), none⟩])
          .ret)
          .skip))
        (.seq
        (.draw [
          (⟨(some 24), .move (.t 3), none⟩, []),
          (⟨(some 25), .bin .gtr (.t 24) (.c (.int .i64 0)), none⟩, []),
          (⟨(some 26), .move (.t 25), none⟩, []),
          (⟨(some 27), .move (.t 0), some (some 26, true)⟩, []),
          (⟨(some 28), .move (.t 3), some (some 26, true)⟩, []),
          (⟨(some 29), .bin .sub (.t 28) (.c (.int .i64 1)), some (some 26, true)⟩, []),
          (⟨(some 30), .indexAddr 2 (.t 27) (.t 29), some (some 26, true)⟩, []),
          (⟨(some 31), .fieldAddr 0 (.t 30), some (some 26, true)⟩, []),
          (⟨(some 32), .load false 1 (.t 31), some (some 26, true)⟩, []),
          (⟨(some 33), .fieldAddr 0 (.t 4), some (some 26, true)⟩, []),
          (⟨(some 34), .load false 1 (.t 33), some (some 26, true)⟩, []),
          (⟨(some 35), .call f_value_CompareRows [(.t 32), (.t 34)], some (some 26, true)⟩, []),
          (⟨(some 36), .bin .geq (.t 35) (.c (.int .i64 0)), some (some 26, true)⟩, []),
          (⟨(some 37), .pick (.t 26) (.t 36) (.c (.bool false)), none⟩, [])])
        (.cond (.t 37)
          (.seq
          (.region [
            ⟨(some 2), .move (.c (.int .i64 14)), none⟩])
          .ret)
          .skip))))))
      (.region [
        ⟨(some 38), .bin .add (.t 11) (.c (.int .i64 1)), none⟩,
        ⟨(some 11), .move (.t 38), none⟩])))))))
  (.seq
  (.region [
    ⟨(some 2), .move (.c (.int .i64 0)), none⟩])
  .ret))))⟩

structure F_bag_Validate (P : Program) where
  id : FuncId
  bag_formed : F_bag_formed P
  value_CompareRows : F_value_CompareRows P
  has : Has P id [] (c_bag_Validate bag_formed.id value_CompareRows.id)

def c_bag_both (f_bag_Validate : FuncId) : AFunc := ⟨13, [.tmp 4],
  (.seq
  (.region [
    ⟨(some 4), .move (.c (.int .i64 0)), none⟩])
  (.seq
  (.seq
  (.region [
    ⟨(some 6), .move (.t 0), none⟩,
    ⟨(some 7), .call f_bag_Validate [(.t 6)], none⟩,
    ⟨(some 5), .move (.t 7), none⟩])
  (.seq
  (.region [
    ⟨(some 8), .move (.t 5), none⟩,
    ⟨(some 9), .bin .neq (.t 8) (.c (.int .i64 0)), none⟩])
  (.cond (.t 9)
    (.seq
    (.region [
      ⟨(some 10), .move (.t 5), none⟩,
      ⟨(some 4), .move (.t 10), none⟩])
    .ret)
    .skip)))
  (.seq
  (.region [
    ⟨(some 11), .move (.t 1), none⟩,
    ⟨(some 12), .call f_bag_Validate [(.t 11)], none⟩,
    ⟨(some 4), .move (.t 12), none⟩])
  .ret)))⟩

structure F_bag_both (P : Program) where
  id : FuncId
  bag_Validate : F_bag_Validate P
  has : Has P id [] (c_bag_both bag_Validate.id)

def c_slices_Clone_LValue_Value : AFunc := ⟨8, [.tmp 2],
  (.seq
  (.region [
    ⟨(some 2), .move (.c .nil), none⟩])
  (.seq
  (.seq
  (.region [
    ⟨(some 3), .move (.t 0), none⟩,
    ⟨(some 4), .isNil false (.t 3), none⟩])
  (.cond (.t 4)
    (.seq
    (.region [
      ⟨(some 2), .move (.c .nil), none⟩])
    .ret)
    .skip))
  (.seq
  (.region [
    ⟨(some 5), .buildSlice 3 0 [(.int .i64 0), (.int .i64 0), (.str (bs []))] [], none⟩,
    ⟨(some 6), .move (.t 0), none⟩,
    ⟨(some 7), .append 3 32 [(.int .i64 0), (.int .i64 0), (.str (bs []))] (.t 5) (.t 6), none⟩,
    ⟨(some 2), .move (.t 7), none⟩])
  .ret)))⟩

structure F_slices_Clone_LValue_Value (P : Program) where
  id : FuncId
  has : Has P id [] c_slices_Clone_LValue_Value

def c_bag_put (f_slices_Clone_LValue_Value : FuncId) : AFunc := ⟨24, [.tmp 6, .tmp 7],
  (.seq
  (.region [
    ⟨(some 6), .move (.c .nil), none⟩,
    ⟨(some 7), .move (.c (.bool false)), none⟩])
  (.seq
  (.seq
  (.region [
    ⟨(some 8), .move (.t 2), none⟩,
    ⟨(some 9), .bin .lss (.t 8) (.c (.int .i64 (-65536))), none⟩,
    ⟨(some 10), .move (.t 9), none⟩,
    ⟨(some 11), .move (.t 2), some (some 10, false)⟩,
    ⟨(some 12), .bin .gtr (.t 11) (.c (.int .i64 65536)), some (some 10, false)⟩,
    ⟨(some 13), .pick (.t 10) (.c (.bool true)) (.t 12), none⟩])
  (.cond (.t 13)
    (.seq
    (.region [
      ⟨(some 6), .move (.c .nil), none⟩,
      ⟨(some 7), .move (.c (.bool false)), none⟩])
    .ret)
    .skip))
  (.seq
  (.seq
  (.region [
    ⟨(some 14), .move (.t 2), none⟩,
    ⟨(some 15), .bin .neq (.t 14) (.c (.int .i64 0)), none⟩])
  (.cond (.t 15)
    (.region [
      ⟨(some 16), .move (.t 0), none⟩,
      ⟨(some 17), .move (.t 1), none⟩,
      ⟨(some 18), .call f_slices_Clone_LValue_Value [(.t 17)], none⟩,
      ⟨(some 19), .move (.t 2), none⟩,
      ⟨(some 20), .build [.nil, (.int .i64 0)] [(0, 1, (.t 18)), (1, 1, (.t 19))], none⟩,
      ⟨(some 21), .buildSlice 2 1 [.nil, (.int .i64 0)] [(0, (.t 20))], none⟩,
      ⟨(some 22), .append 2 32 [.nil, (.int .i64 0)] (.t 16) (.t 21), none⟩,
      ⟨(some 0), .move (.t 22), none⟩])
    .skip))
  (.seq
  (.region [
    ⟨(some 23), .move (.t 0), none⟩,
    ⟨(some 6), .move (.t 23), none⟩,
    ⟨(some 7), .move (.c (.bool true)), none⟩])
  .ret))))⟩

structure F_bag_put (P : Program) where
  id : FuncId
  slices_Clone_LValue_Value : F_slices_Clone_LValue_Value P
  has : Has P id [] (c_bag_put slices_Clone_LValue_Value.id)

def c_bag_done : AFunc := ⟨8, [.tmp 2, .tmp 3],
  (.seq
  (.region [
    ⟨(some 2), .move (.c .nil), none⟩,
    ⟨(some 3), .move (.c (.int .i64 0)), none⟩])
  (.seq
  (.seq
  (.region [
    ⟨(some 4), .move (.t 0), none⟩,
    ⟨(some 5), .len (.t 4), none⟩,
    ⟨(some 6), .bin .gtr (.t 5) (.c (.int .i64 4096)), none⟩])
  (.cond (.t 6)
    (.seq
    (.region [
      ⟨(some 2), .move (.c .nil), none⟩,
      ⟨(some 3), .move (.c (.int .i64 2)), none⟩])
    .ret)
    .skip))
  (.seq
  (.region [
    ⟨(some 7), .move (.t 0), none⟩,
    ⟨(some 2), .move (.t 7), none⟩,
    ⟨(some 3), .move (.c (.int .i64 0)), none⟩])
  .ret)))⟩

structure F_bag_done (P : Program) where
  id : FuncId
  has : Has P id [] c_bag_done

def c_bag_merge (f_value_CompareRows : FuncId) (f_bag_put : FuncId) (f_bag_done : FuncId) : AFunc := ⟨105, [.tmp 6, .tmp 7],
  (.seq
  (.region [
    ⟨(some 6), .move (.c .nil), none⟩,
    ⟨(some 7), .move (.c (.int .i64 0)), none⟩])
  (.seq
  (.region [
    ⟨(some 8), .move (.c .nil), none⟩])
  (.seq
  (.region [
    ⟨(some 9), .move (.c (.bool true)), none⟩])
  (.seq
  (.block 0
    (.loop
      (.seq
      (.seq
      (.region [
        ⟨(some 11), .move (.t 0), none⟩,
        ⟨(some 12), .len (.t 11), none⟩,
        ⟨(some 13), .move (.t 1), none⟩,
        ⟨(some 14), .len (.t 13), none⟩,
        ⟨(some 15), .bin .add (.t 12) (.t 14), none⟩,
        ⟨(some 16), .bin .gtr (.t 15) (.c (.int .i64 0)), none⟩,
        ⟨(some 17), .move (.t 16), none⟩,
        ⟨(some 18), .move (.t 9), some (some 17, true)⟩,
        ⟨(some 19), .pick (.t 17) (.t 18) (.c (.bool false)), none⟩])
      (.cond (.t 19)
        .skip
        (.exit 0)))
      (.block 1
        (.seq
        (.region [
          ⟨(some 10), .move (.c (.int .i64 0)), none⟩])
        (.seq
        (.block 2
          (.seq
          (.region [
            ⟨(some 30), .move (.t 0), none⟩,
            ⟨(some 31), .len (.t 30), none⟩,
            ⟨(some 32), .bin .eql (.t 31) (.c (.int .i64 0)), none⟩,
            ⟨(some 29), .move (.t 32), none⟩])
          (.cond (.t 29)
            (.region [
              ⟨(some 10), .move (.c (.int .i64 1)), none⟩])
            (.seq
            (.region [
              ⟨(some 34), .move (.t 1), none⟩,
              ⟨(some 35), .len (.t 34), none⟩,
              ⟨(some 36), .bin .eql (.t 35) (.c (.int .i64 0)), none⟩,
              ⟨(some 33), .move (.t 36), none⟩])
            (.cond (.t 33)
              (.region [
                ⟨(some 10), .move (.c (.int .i64 (-1))), none⟩])
              (.draw [
                (⟨(some 20), .move (.t 0), none⟩, []),
                (⟨(some 21), .indexAddr 2 (.t 20) (.c (.int .i64 0)), none⟩, []),
                (⟨(some 22), .fieldAddr 0 (.t 21), none⟩, []),
                (⟨(some 23), .load false 1 (.t 22), none⟩, []),
                (⟨(some 24), .move (.t 1), none⟩, []),
                (⟨(some 25), .indexAddr 2 (.t 24) (.c (.int .i64 0)), none⟩, []),
                (⟨(some 26), .fieldAddr 0 (.t 25), none⟩, []),
                (⟨(some 27), .load false 1 (.t 26), none⟩, []),
                (⟨(some 28), .call f_value_CompareRows [(.t 23), (.t 27)], none⟩, []),
                (⟨(some 10), .move (.t 28), none⟩, [])]))))))
        (.block 3
          (.seq
          (.region [
            ⟨(some 62), .move (.t 10), none⟩,
            ⟨(some 63), .bin .lss (.t 62) (.c (.int .i64 0)), none⟩,
            ⟨(some 61), .move (.t 63), none⟩])
          (.cond (.t 61)
            (.seq
            (.draw [
              (⟨(some 65), .move (.t 8), none⟩, []),
              (⟨(some 66), .move (.t 0), none⟩, []),
              (⟨(some 67), .indexAddr 2 (.t 66) (.c (.int .i64 0)), none⟩, []),
              (⟨(some 68), .fieldAddr 0 (.t 67), none⟩, []),
              (⟨(some 69), .load false 1 (.t 68), none⟩, []),
              (⟨(some 70), .move (.t 0), none⟩, []),
              (⟨(some 71), .indexAddr 2 (.t 70) (.c (.int .i64 0)), none⟩, []),
              (⟨(some 72), .fieldAddr 1 (.t 71), none⟩, []),
              (⟨(some 73), .load false 1 (.t 72), none⟩, []),
              (⟨(some 74), .callE f_bag_put [(.t 65), (.t 69), (.t 73)], none⟩, []),
              (⟨(some 64), .move (.t 74), none⟩, []),
              (⟨(some 75), .extract (.t 64) 0, none⟩, []),
              (⟨(some 76), .extract (.t 64) 1, none⟩, []),
              (⟨(some 8), .move (.t 75), none⟩, []),
              (⟨(some 9), .move (.t 76), none⟩, [])])
            (.region [
              ⟨(some 77), .move (.t 0), none⟩,
              ⟨(some 78), .slice 2 (.t 77) (some (.c (.int .i64 1))) none, none⟩,
              ⟨(some 0), .move (.t 78), none⟩]))
            (.seq
            (.region [
              ⟨(some 80), .move (.t 10), none⟩,
              ⟨(some 81), .bin .gtr (.t 80) (.c (.int .i64 0)), none⟩,
              ⟨(some 79), .move (.t 81), none⟩])
            (.cond (.t 79)
              (.seq
              (.draw [
                (⟨(some 83), .move (.t 8), none⟩, []),
                (⟨(some 84), .move (.t 1), none⟩, []),
                (⟨(some 85), .indexAddr 2 (.t 84) (.c (.int .i64 0)), none⟩, []),
                (⟨(some 86), .fieldAddr 0 (.t 85), none⟩, []),
                (⟨(some 87), .load false 1 (.t 86), none⟩, []),
                (⟨(some 88), .move (.t 2), none⟩, []),
                (⟨(some 89), .move (.t 1), none⟩, []),
                (⟨(some 90), .indexAddr 2 (.t 89) (.c (.int .i64 0)), none⟩, []),
                (⟨(some 91), .fieldAddr 1 (.t 90), none⟩, []),
                (⟨(some 92), .load false 1 (.t 91), none⟩, []),
                (⟨(some 93), .bin .mul (.t 88) (.t 92), none⟩, []),
                (⟨(some 94), .callE f_bag_put [(.t 83), (.t 87), (.t 93)], none⟩, []),
                (⟨(some 82), .move (.t 94), none⟩, []),
                (⟨(some 95), .extract (.t 82) 0, none⟩, []),
                (⟨(some 96), .extract (.t 82) 1, none⟩, []),
                (⟨(some 8), .move (.t 95), none⟩, []),
                (⟨(some 9), .move (.t 96), none⟩, [])])
              (.region [
                ⟨(some 97), .move (.t 1), none⟩,
                ⟨(some 98), .slice 2 (.t 97) (some (.c (.int .i64 1))) none, none⟩,
                ⟨(some 1), .move (.t 98), none⟩]))
              (.seq
              (.draw [
                (⟨(some 38), .move (.t 8), none⟩, []),
                (⟨(some 39), .move (.t 0), none⟩, []),
                (⟨(some 40), .indexAddr 2 (.t 39) (.c (.int .i64 0)), none⟩, []),
                (⟨(some 41), .fieldAddr 0 (.t 40), none⟩, []),
                (⟨(some 42), .load false 1 (.t 41), none⟩, []),
                (⟨(some 43), .move (.t 0), none⟩, []),
                (⟨(some 44), .indexAddr 2 (.t 43) (.c (.int .i64 0)), none⟩, []),
                (⟨(some 45), .fieldAddr 1 (.t 44), none⟩, []),
                (⟨(some 46), .load false 1 (.t 45), none⟩, []),
                (⟨(some 47), .move (.t 2), none⟩, []),
                (⟨(some 48), .move (.t 1), none⟩, []),
                (⟨(some 49), .indexAddr 2 (.t 48) (.c (.int .i64 0)), none⟩, []),
                (⟨(some 50), .fieldAddr 1 (.t 49), none⟩, []),
                (⟨(some 51), .load false 1 (.t 50), none⟩, []),
                (⟨(some 52), .bin .mul (.t 47) (.t 51), none⟩, []),
                (⟨(some 53), .bin .add (.t 46) (.t 52), none⟩, []),
                (⟨(some 54), .callE f_bag_put [(.t 38), (.t 42), (.t 53)], none⟩, []),
                (⟨(some 37), .move (.t 54), none⟩, []),
                (⟨(some 55), .extract (.t 37) 0, none⟩, []),
                (⟨(some 56), .extract (.t 37) 1, none⟩, []),
                (⟨(some 8), .move (.t 55), none⟩, []),
                (⟨(some 9), .move (.t 56), none⟩, [])])
              (.draw [
                (⟨(some 57), .move (.t 0), none⟩, []),
                (⟨(some 58), .slice 2 (.t 57) (some (.c (.int .i64 1))) none, none⟩, []),
                (⟨(some 59), .move (.t 1), none⟩, []),
                (⟨(some 60), .slice 2 (.t 59) (some (.c (.int .i64 1))) none, none⟩, []),
                (⟨(some 0), .move (.t 58), none⟩, []),
                (⟨(some 1), .move (.t 60), none⟩, [])])))))))))))))
  (.seq
  (.seq
  (.region [
    ⟨(some 99), .move (.t 9), none⟩,
    ⟨(some 100), .un .not (.t 99), none⟩])
  (.cond (.t 100)
    (.seq
    (.region [
      ⟨(some 6), .move (.c .nil), none⟩,
      ⟨(some 7), .move (.c (.int .i64 2)), none⟩])
    .ret)
    .skip))
  (.seq
  (.region [
    ⟨(some 101), .move (.t 8), none⟩,
    ⟨(some 102), .call f_bag_done [(.t 101)], none⟩,
    ⟨(some 103), .extract (.t 102) 0, none⟩,
    ⟨(some 104), .extract (.t 102) 1, none⟩,
    ⟨(some 6), .move (.t 103), none⟩,
    ⟨(some 7), .move (.t 104), none⟩])
  .ret))))))⟩

structure F_bag_merge (P : Program) where
  id : FuncId
  value_CompareRows : F_value_CompareRows P
  bag_put : F_bag_put P
  bag_done : F_bag_done P
  has : Has P id [74, 94, 54] (c_bag_merge value_CompareRows.id bag_put.id bag_done.id)

def c_bag_Add (f_bag_both : FuncId) (f_bag_merge : FuncId) : AFunc := ⟨18, [.tmp 4, .tmp 5],
  (.seq
  (.region [
    ⟨(some 4), .move (.c .nil), none⟩,
    ⟨(some 5), .move (.c (.int .i64 0)), none⟩])
  (.seq
  (.seq
  (.region [
    ⟨(some 7), .move (.t 0), none⟩,
    ⟨(some 8), .move (.t 1), none⟩,
    ⟨(some 9), .call f_bag_both [(.t 7), (.t 8)], none⟩,
    ⟨(some 6), .move (.t 9), none⟩])
  (.seq
  (.region [
    ⟨(some 10), .move (.t 6), none⟩,
    ⟨(some 11), .bin .neq (.t 10) (.c (.int .i64 0)), none⟩])
  (.cond (.t 11)
    (.seq
    (.region [
      ⟨(some 12), .move (.t 6), none⟩,
      ⟨(some 4), .move (.c .nil), none⟩,
      ⟨(some 5), .move (.t 12), none⟩])
    .ret)
    .skip)))
  (.seq
  (.region [
    ⟨(some 13), .move (.t 0), none⟩,
    ⟨(some 14), .move (.t 1), none⟩,
    ⟨(some 15), .call f_bag_merge [(.t 13), (.t 14), (.c (.int .i64 1))], none⟩,
    ⟨(some 16), .extract (.t 15) 0, none⟩,
    ⟨(some 17), .extract (.t 15) 1, none⟩,
    ⟨(some 4), .move (.t 16), none⟩,
    ⟨(some 5), .move (.t 17), none⟩])
  .ret)))⟩

structure F_bag_Add (P : Program) where
  id : FuncId
  bag_both : F_bag_both P
  bag_merge : F_bag_merge P
  has : Has P id [] (c_bag_Add bag_both.id bag_merge.id)

def c_slices_Clone_LEntry_Entry : AFunc := ⟨8, [.tmp 2],
  (.seq
  (.region [
    ⟨(some 2), .move (.c .nil), none⟩])
  (.seq
  (.seq
  (.region [
    ⟨(some 3), .move (.t 0), none⟩,
    ⟨(some 4), .isNil false (.t 3), none⟩])
  (.cond (.t 4)
    (.seq
    (.region [
      ⟨(some 2), .move (.c .nil), none⟩])
    .ret)
    .skip))
  (.seq
  (.region [
    ⟨(some 5), .buildSlice 2 0 [.nil, (.int .i64 0)] [], none⟩,
    ⟨(some 6), .move (.t 0), none⟩,
    ⟨(some 7), .append 2 32 [.nil, (.int .i64 0)] (.t 5) (.t 6), none⟩,
    ⟨(some 2), .move (.t 7), none⟩])
  .ret)))⟩

structure F_slices_Clone_LEntry_Entry (P : Program) where
  id : FuncId
  has : Has P id [] c_slices_Clone_LEntry_Entry

def c_slices_IndexFunc_LEntry_Entry : AFunc := ⟨19, [.tmp 4],
  (.seq
  (.region [
    ⟨(some 4), .move (.c (.int .i64 0)), none⟩])
  (.seq
  (.seq
  (.region [
    ⟨(some 6), .move (.t 0), none⟩,
    ⟨(some 7), .len (.t 6), none⟩,
    ⟨(some 8), .move (.c (.int .i64 0)), none⟩])
  (.block 0
    (.loop
      (.seq
      (.region [
        ⟨(some 9), .bin .lss (.t 8) (.t 7), none⟩])
      (.seq
      (.cond (.t 9)
        .skip
        (.exit 0))
      (.seq
      (.block 1
        (.seq
        (.region [
          ⟨(some 10), .move (.t 8), none⟩,
          ⟨(some 5), .move (.t 10), none⟩])
        (.seq
        (.region [
          ⟨(some 11), .move (.t 1), none⟩,
          ⟨(some 12), .move (.t 0), none⟩,
          ⟨(some 13), .move (.t 5), none⟩,
          ⟨(some 14), .indexAddr 2 (.t 12) (.t 13), none⟩,
          ⟨(some 15), .load true 2 (.t 14), none⟩,
          ⟨(some 16), .callv (.t 11) [(.t 15)], none⟩])
        (.cond (.t 16)
          (.seq
          (.region [
            ⟨(some 17), .move (.t 5), none⟩,
            ⟨(some 4), .move (.t 17), none⟩])
          .ret)
          .skip))))
      (.region [
        ⟨(some 18), .bin .add (.t 8) (.c (.int .i64 1)), none⟩,
        ⟨(some 8), .move (.t 18), none⟩])))))))
  (.seq
  (.region [
    ⟨(some 4), .move (.c (.int .i64 (-1))), none⟩])
  .ret)))⟩

structure F_slices_IndexFunc_LEntry_Entry (P : Program) where
  id : FuncId
  has : Has P id [] c_slices_IndexFunc_LEntry_Entry

def c_slices_ContainsFunc_LEntry_Entry (f_slices_IndexFunc_LEntry_Entry : FuncId) : AFunc := ⟨9, [.tmp 4],
  (.seq
  (.region [
    ⟨(some 4), .move (.c (.bool false)), none⟩])
  (.seq
  (.region [
    ⟨(some 5), .move (.t 0), none⟩,
    ⟨(some 6), .move (.t 1), none⟩,
    ⟨(some 7), .call f_slices_IndexFunc_LEntry_Entry [(.t 5), (.t 6)], none⟩,
    ⟨(some 8), .bin .geq (.t 7) (.c (.int .i64 0)), none⟩,
    ⟨(some 4), .move (.t 8), none⟩])
  .ret))⟩

structure F_slices_ContainsFunc_LEntry_Entry (P : Program) where
  id : FuncId
  slices_IndexFunc_LEntry_Entry : F_slices_IndexFunc_LEntry_Entry P
  has : Has P id [] (c_slices_ContainsFunc_LEntry_Entry slices_IndexFunc_LEntry_Entry.id)

def c_warehouseref6_small : AFunc := ⟨9, [.tmp 2],
  (.seq
  (.region [
    ⟨(some 2), .move (.c (.bool false)), none⟩])
  (.seq
  (.region [
    ⟨(some 3), .move (.t 0), none⟩,
    ⟨(some 4), .bin .geq (.t 3) (.c (.int .i64 (-65536))), none⟩,
    ⟨(some 5), .move (.t 4), none⟩,
    ⟨(some 6), .move (.t 0), some (some 5, true)⟩,
    ⟨(some 7), .bin .leq (.t 6) (.c (.int .i64 65536)), some (some 5, true)⟩,
    ⟨(some 8), .pick (.t 5) (.t 7) (.c (.bool false)), none⟩,
    ⟨(some 2), .move (.t 8), none⟩])
  .ret))⟩

structure F_warehouseref6_small (P : Program) where
  id : FuncId
  has : Has P id [] c_warehouseref6_small

def c_warehouseref6_fits (f_warehouseref6_small : FuncId) (f_warehouseref1_Valid : FuncId) : AFunc := ⟨28, [.tmp 2],
  (.seq
  (.region [
    ⟨(some 1), .box (.t 0), none⟩,
    ⟨(some 2), .move (.c (.int .i64 0)), none⟩])
  (.seq
  (.seq
  (.region [
    ⟨(some 4), .fieldAddr 0 (.t 1), none⟩,
    ⟨(some 5), .load false 1 (.t 4), none⟩,
    ⟨(some 6), .len (.t 5), none⟩,
    ⟨(some 7), .bin .gtr (.t 6) (.c (.int .i64 12)), none⟩,
    ⟨(some 8), .move (.t 7), none⟩,
    ⟨(some 9), .fieldAddr 1 (.t 1), some (some 8, false)⟩,
    ⟨(some 10), .load false 1 (.t 9), some (some 8, false)⟩,
    ⟨(some 11), .call f_warehouseref6_small [(.t 10)], some (some 8, false)⟩,
    ⟨(some 12), .un .not (.t 11), some (some 8, false)⟩,
    ⟨(some 13), .pick (.t 8) (.c (.bool true)) (.t 12), none⟩])
  (.cond (.t 13)
    (.seq
    (.region [
      ⟨(some 2), .move (.c (.int .i64 2)), none⟩])
    .ret)
    .skip))
  (.seq
  (.seq
  (.region [
    ⟨(some 3), .move (.c (.int .i64 0)), none⟩])
  (.block 0
    (.loop
      (.seq
      (.seq
      (.region [
        ⟨(some 14), .move (.t 3), none⟩,
        ⟨(some 15), .fieldAddr 0 (.t 1), none⟩,
        ⟨(some 16), .load false 1 (.t 15), none⟩,
        ⟨(some 17), .len (.t 16), none⟩,
        ⟨(some 18), .bin .lss (.t 14) (.t 17), none⟩])
      (.cond (.t 18)
        .skip
        (.exit 0)))
      (.seq
      (.block 1
        (.seq
        (.region [
          ⟨(some 21), .fieldAddr 0 (.t 1), none⟩,
          ⟨(some 22), .load false 1 (.t 21), none⟩,
          ⟨(some 23), .move (.t 3), none⟩,
          ⟨(some 24), .indexAddr 3 (.t 22) (.t 23), none⟩,
          ⟨(some 25), .load true 3 (.t 24), none⟩,
          ⟨(some 26), .call f_warehouseref1_Valid [(.t 25)], none⟩,
          ⟨(some 27), .un .not (.t 26), none⟩])
        (.cond (.t 27)
          (.seq
          (.region [
            ⟨(some 2), .move (.c (.int .i64 8)), none⟩])
          .ret)
          .skip)))
      (.region [
        ⟨(some 19), .move (.t 3), none⟩,
        ⟨(some 20), .bin .add (.t 19) (.c (.int .i64 1)), none⟩,
        ⟨(some 3), .move (.t 20), none⟩]))))))
  (.seq
  (.region [
    ⟨(some 2), .move (.c (.int .i64 0)), none⟩])
  .ret))))⟩

structure F_warehouseref6_fits (P : Program) where
  id : FuncId
  warehouseref6_small : F_warehouseref6_small P
  warehouseref1_Valid : F_warehouseref1_Valid P
  has : Has P id [] (c_warehouseref6_fits warehouseref6_small.id warehouseref1_Valid.id)

def c_warehouseref6_Validate (f_warehouseref6_fits : FuncId) (f_warehouseref1_CompareRows : FuncId) : AFunc := ⟨45, [.tmp 2],
  (.seq
  (.region [
    ⟨(some 2), .move (.c (.int .i64 0)), none⟩])
  (.seq
  (.seq
  (.region [
    ⟨(some 5), .move (.t 0), none⟩,
    ⟨(some 6), .len (.t 5), none⟩,
    ⟨(some 7), .bin .gtr (.t 6) (.c (.int .i64 4096)), none⟩])
  (.cond (.t 7)
    (.seq
    (.region [
      ⟨(some 2), .move (.c (.int .i64 2)), none⟩])
    .ret)
    .skip))
  (.seq
  (.seq
  (.region [
    ⟨(some 3), .move (.c (.int .i64 0)), none⟩])
  (.block 0
    (.loop
      (.seq
      (.seq
      (.region [
        ⟨(some 8), .move (.t 3), none⟩,
        ⟨(some 9), .move (.t 0), none⟩,
        ⟨(some 10), .len (.t 9), none⟩,
        ⟨(some 11), .bin .lss (.t 8) (.t 10), none⟩])
      (.cond (.t 11)
        .skip
        (.exit 0)))
      (.seq
      (.block 1
        (.seq
        (.seq
        (.region [
          ⟨(some 14), .move (.t 0), none⟩,
          ⟨(some 15), .move (.t 3), none⟩,
          ⟨(some 16), .indexAddr 2 (.t 14) (.t 15), none⟩,
          ⟨(some 17), .load true 2 (.t 16), none⟩,
          ⟨(some 18), .call f_warehouseref6_fits [(.t 17)], none⟩,
          ⟨(some 4), .move (.t 18), none⟩])
        (.seq
        (.region [
          ⟨(some 19), .move (.t 4), none⟩,
          ⟨(some 20), .bin .neq (.t 19) (.c (.int .i64 0)), none⟩])
        (.cond (.t 20)
          (.seq
          (.region [
            ⟨(some 21), .move (.t 4), none⟩,
            ⟨(some 2), .move (.t 21), none⟩])
          .ret)
          .skip)))
        (.seq
        (.seq
        (.region [
          ⟨(some 22), .move (.t 0), none⟩,
          ⟨(some 23), .move (.t 3), none⟩,
          ⟨(some 24), .indexAddr 2 (.t 22) (.t 23), none⟩,
          ⟨(some 25), .fieldAddr 1 (.t 24), none⟩,
          ⟨(some 26), .load false 1 (.t 25), none⟩,
          ⟨(some 27), .bin .eql (.t 26) (.c (.int .i64 0)), none⟩])
        (.cond (.t 27)
          (.seq
          (.region [
            ⟨(some 2), .move (.c (.int .i64 8)), none⟩])
          .ret)
          .skip))
        (.seq
        (.draw [
          (⟨(some 28), .move (.t 3), none⟩, []),
          (⟨(some 29), .bin .gtr (.t 28) (.c (.int .i64 0)), none⟩, []),
          (⟨(some 30), .move (.t 29), none⟩, []),
          (⟨(some 31), .move (.t 0), some (some 30, true)⟩, []),
          (⟨(some 32), .move (.t 3), some (some 30, true)⟩, []),
          (⟨(some 33), .bin .sub (.t 32) (.c (.int .i64 1)), some (some 30, true)⟩, []),
          (⟨(some 34), .indexAddr 2 (.t 31) (.t 33), some (some 30, true)⟩, []),
          (⟨(some 35), .fieldAddr 0 (.t 34), some (some 30, true)⟩, []),
          (⟨(some 36), .load false 1 (.t 35), some (some 30, true)⟩, []),
          (⟨(some 37), .move (.t 0), some (some 30, true)⟩, []),
          (⟨(some 38), .move (.t 3), some (some 30, true)⟩, []),
          (⟨(some 39), .indexAddr 2 (.t 37) (.t 38), some (some 30, true)⟩, []),
          (⟨(some 40), .fieldAddr 0 (.t 39), some (some 30, true)⟩, []),
          (⟨(some 41), .load false 1 (.t 40), some (some 30, true)⟩, []),
          (⟨(some 42), .call f_warehouseref1_CompareRows [(.t 36), (.t 41)], some (some 30, true)⟩, []),
          (⟨(some 43), .bin .geq (.t 42) (.c (.int .i64 0)), some (some 30, true)⟩, []),
          (⟨(some 44), .pick (.t 30) (.t 43) (.c (.bool false)), none⟩, [])])
        (.cond (.t 44)
          (.seq
          (.region [
            ⟨(some 2), .move (.c (.int .i64 14)), none⟩])
          .ret)
          .skip)))))
      (.region [
        ⟨(some 12), .move (.t 3), none⟩,
        ⟨(some 13), .bin .add (.t 12) (.c (.int .i64 1)), none⟩,
        ⟨(some 3), .move (.t 13), none⟩]))))))
  (.seq
  (.region [
    ⟨(some 2), .move (.c (.int .i64 0)), none⟩])
  .ret))))⟩

structure F_warehouseref6_Validate (P : Program) where
  id : FuncId
  warehouseref6_fits : F_warehouseref6_fits P
  warehouseref1_CompareRows : F_warehouseref1_CompareRows P
  has : Has P id [] (c_warehouseref6_Validate warehouseref6_fits.id warehouseref1_CompareRows.id)

def c_warehouseref6_two (f_warehouseref6_Validate : FuncId) : AFunc := ⟨13, [.tmp 4],
  (.seq
  (.region [
    ⟨(some 4), .move (.c (.int .i64 0)), none⟩])
  (.seq
  (.seq
  (.region [
    ⟨(some 6), .move (.t 0), none⟩,
    ⟨(some 7), .call f_warehouseref6_Validate [(.t 6)], none⟩,
    ⟨(some 5), .move (.t 7), none⟩])
  (.seq
  (.region [
    ⟨(some 8), .move (.t 5), none⟩,
    ⟨(some 9), .bin .neq (.t 8) (.c (.int .i64 0)), none⟩])
  (.cond (.t 9)
    (.seq
    (.region [
      ⟨(some 10), .move (.t 5), none⟩,
      ⟨(some 4), .move (.t 10), none⟩])
    .ret)
    .skip)))
  (.seq
  (.region [
    ⟨(some 11), .move (.t 1), none⟩,
    ⟨(some 12), .call f_warehouseref6_Validate [(.t 11)], none⟩,
    ⟨(some 4), .move (.t 12), none⟩])
  .ret)))⟩

structure F_warehouseref6_two (P : Program) where
  id : FuncId
  warehouseref6_Validate : F_warehouseref6_Validate P
  has : Has P id [] (c_warehouseref6_two warehouseref6_Validate.id)

def c_warehouseref6_merge (f_warehouseref1_CompareRows : FuncId) : AFunc := ⟨74, [.tmp 4],
  (.seq
  (.region [
    ⟨(some 4), .move (.c .nil), none⟩])
  (.seq
  (.region [
    ⟨(some 5), .move (.c .nil), none⟩])
  (.seq
  (.block 0
    (.loop
      (.seq
      (.seq
      (.region [
        ⟨(some 7), .move (.t 0), none⟩,
        ⟨(some 8), .len (.t 7), none⟩,
        ⟨(some 9), .bin .gtr (.t 8) (.c (.int .i64 0)), none⟩,
        ⟨(some 10), .move (.t 9), none⟩,
        ⟨(some 11), .move (.t 1), some (some 10, false)⟩,
        ⟨(some 12), .len (.t 11), some (some 10, false)⟩,
        ⟨(some 13), .bin .gtr (.t 12) (.c (.int .i64 0)), some (some 10, false)⟩,
        ⟨(some 14), .pick (.t 10) (.c (.bool true)) (.t 13), none⟩])
      (.cond (.t 14)
        .skip
        (.exit 0)))
      (.block 1
        (.seq
        (.region [
          ⟨(some 6), .move (.c (.int .i64 (-1))), none⟩])
        (.seq
        (.seq
        (.region [
          ⟨(some 15), .move (.t 0), none⟩,
          ⟨(some 16), .len (.t 15), none⟩,
          ⟨(some 17), .bin .eql (.t 16) (.c (.int .i64 0)), none⟩])
        (.cond (.t 17)
          (.region [
            ⟨(some 6), .move (.c (.int .i64 1)), none⟩])
          (.seq
          (.region [
            ⟨(some 18), .move (.t 1), none⟩,
            ⟨(some 19), .len (.t 18), none⟩,
            ⟨(some 20), .bin .gtr (.t 19) (.c (.int .i64 0)), none⟩])
          (.cond (.t 20)
            (.draw [
              (⟨(some 21), .move (.t 0), none⟩, []),
              (⟨(some 22), .indexAddr 2 (.t 21) (.c (.int .i64 0)), none⟩, []),
              (⟨(some 23), .fieldAddr 0 (.t 22), none⟩, []),
              (⟨(some 24), .load false 1 (.t 23), none⟩, []),
              (⟨(some 25), .move (.t 1), none⟩, []),
              (⟨(some 26), .indexAddr 2 (.t 25) (.c (.int .i64 0)), none⟩, []),
              (⟨(some 27), .fieldAddr 0 (.t 26), none⟩, []),
              (⟨(some 28), .load false 1 (.t 27), none⟩, []),
              (⟨(some 29), .call f_warehouseref1_CompareRows [(.t 24), (.t 28)], none⟩, []),
              (⟨(some 6), .move (.t 29), none⟩, [])])
            .skip))))
        (.block 2
          (.seq
          (.region [
            ⟨(some 52), .move (.t 6), none⟩,
            ⟨(some 53), .bin .lss (.t 52) (.c (.int .i64 0)), none⟩,
            ⟨(some 51), .move (.t 53), none⟩])
          (.cond (.t 51)
            (.draw [
              (⟨(some 54), .move (.t 5), none⟩, []),
              (⟨(some 55), .move (.t 0), none⟩, []),
              (⟨(some 56), .indexAddr 2 (.t 55) (.c (.int .i64 0)), none⟩, []),
              (⟨(some 57), .load true 2 (.t 56), none⟩, []),
              (⟨(some 58), .buildSlice 2 1 [.nil, (.int .i64 0)] [(0, (.t 57))], none⟩, []),
              (⟨(some 59), .append 2 32 [.nil, (.int .i64 0)] (.t 54) (.t 58), none⟩, []),
              (⟨(some 60), .move (.t 0), none⟩, []),
              (⟨(some 61), .slice 2 (.t 60) (some (.c (.int .i64 1))) none, none⟩, [10]),
              (⟨(some 5), .move (.t 59), none⟩, []),
              (⟨(some 0), .move (.t 61), none⟩, [])])
            (.seq
            (.region [
              ⟨(some 63), .move (.t 6), none⟩,
              ⟨(some 64), .bin .gtr (.t 63) (.c (.int .i64 0)), none⟩,
              ⟨(some 62), .move (.t 64), none⟩])
            (.cond (.t 62)
              (.draw [
                (⟨(some 65), .move (.t 5), none⟩, []),
                (⟨(some 66), .move (.t 1), none⟩, []),
                (⟨(some 67), .indexAddr 2 (.t 66) (.c (.int .i64 0)), none⟩, []),
                (⟨(some 68), .load true 2 (.t 67), none⟩, []),
                (⟨(some 69), .buildSlice 2 1 [.nil, (.int .i64 0)] [(0, (.t 68))], none⟩, []),
                (⟨(some 70), .append 2 32 [.nil, (.int .i64 0)] (.t 65) (.t 69), none⟩, []),
                (⟨(some 71), .move (.t 1), none⟩, []),
                (⟨(some 72), .slice 2 (.t 71) (some (.c (.int .i64 1))) none, none⟩, [10]),
                (⟨(some 5), .move (.t 70), none⟩, []),
                (⟨(some 1), .move (.t 72), none⟩, [])])
              (.seq
              (.draw [
                (⟨(some 30), .move (.t 5), none⟩, []),
                (⟨(some 31), .move (.t 0), none⟩, []),
                (⟨(some 32), .indexAddr 2 (.t 31) (.c (.int .i64 0)), none⟩, []),
                (⟨(some 33), .fieldAddr 0 (.t 32), none⟩, []),
                (⟨(some 34), .load false 1 (.t 33), none⟩, []),
                (⟨(some 35), .move (.t 0), none⟩, []),
                (⟨(some 36), .indexAddr 2 (.t 35) (.c (.int .i64 0)), none⟩, []),
                (⟨(some 37), .fieldAddr 1 (.t 36), none⟩, []),
                (⟨(some 38), .load false 1 (.t 37), none⟩, []),
                (⟨(some 39), .move (.t 1), none⟩, []),
                (⟨(some 40), .indexAddr 2 (.t 39) (.c (.int .i64 0)), none⟩, []),
                (⟨(some 41), .fieldAddr 1 (.t 40), none⟩, []),
                (⟨(some 42), .load false 1 (.t 41), none⟩, []),
                (⟨(some 43), .bin .add (.t 38) (.t 42), none⟩, []),
                (⟨(some 44), .build [.nil, (.int .i64 0)] [(0, 1, (.t 34)), (1, 1, (.t 43))], none⟩, []),
                (⟨(some 45), .buildSlice 2 1 [.nil, (.int .i64 0)] [(0, (.t 44))], none⟩, []),
                (⟨(some 46), .append 2 32 [.nil, (.int .i64 0)] (.t 30) (.t 45), none⟩, []),
                (⟨(some 5), .move (.t 46), none⟩, [])])
              (.draw [
                (⟨(some 47), .move (.t 0), none⟩, []),
                (⟨(some 48), .slice 2 (.t 47) (some (.c (.int .i64 1))) none, none⟩, []),
                (⟨(some 49), .move (.t 1), none⟩, []),
                (⟨(some 50), .slice 2 (.t 49) (some (.c (.int .i64 1))) none, none⟩, []),
                (⟨(some 0), .move (.t 48), none⟩, []),
                (⟨(some 1), .move (.t 50), none⟩, [])])))))))))))))
  (.seq
  (.region [
    ⟨(some 73), .move (.t 5), none⟩,
    ⟨(some 4), .move (.t 73), none⟩])
  .ret))))⟩

structure F_warehouseref6_merge (P : Program) where
  id : FuncId
  warehouseref1_CompareRows : F_warehouseref1_CompareRows P
  has : Has P id [] (c_warehouseref6_merge warehouseref1_CompareRows.id)

def c_warehouseref6_result (f_warehouseref6_small : FuncId) : AFunc := ⟨46, [.tmp 2, .tmp 3],
  (.seq
  (.region [
    ⟨(some 2), .move (.c .nil), none⟩,
    ⟨(some 3), .move (.c (.int .i64 0)), none⟩])
  (.seq
  (.region [
    ⟨(some 4), .move (.c .nil), none⟩])
  (.seq
  (.seq
  (.region [
    ⟨(some 5), .move (.c (.int .i64 0)), none⟩])
  (.block 0
    (.loop
      (.seq
      (.seq
      (.region [
        ⟨(some 6), .move (.t 5), none⟩,
        ⟨(some 7), .move (.t 0), none⟩,
        ⟨(some 8), .len (.t 7), none⟩,
        ⟨(some 9), .bin .lss (.t 6) (.t 8), none⟩])
      (.cond (.t 9)
        .skip
        (.exit 0)))
      (.seq
      (.block 1
        (.seq
        (.seq
        (.region [
          ⟨(some 12), .move (.t 0), none⟩,
          ⟨(some 13), .move (.t 5), none⟩,
          ⟨(some 14), .indexAddr 2 (.t 12) (.t 13), none⟩,
          ⟨(some 15), .fieldAddr 1 (.t 14), none⟩,
          ⟨(some 16), .load false 1 (.t 15), none⟩,
          ⟨(some 17), .bin .eql (.t 16) (.c (.int .i64 0)), none⟩])
        (.cond (.t 17)
          (.exit 1)
          .skip))
        (.seq
        (.seq
        (.region [
          ⟨(some 18), .move (.t 0), none⟩,
          ⟨(some 19), .move (.t 5), none⟩,
          ⟨(some 20), .indexAddr 2 (.t 18) (.t 19), none⟩,
          ⟨(some 21), .fieldAddr 1 (.t 20), none⟩,
          ⟨(some 22), .load false 1 (.t 21), none⟩,
          ⟨(some 23), .call f_warehouseref6_small [(.t 22)], none⟩,
          ⟨(some 24), .un .not (.t 23), none⟩,
          ⟨(some 25), .move (.t 24), none⟩,
          ⟨(some 26), .move (.t 4), some (some 25, false)⟩,
          ⟨(some 27), .len (.t 26), some (some 25, false)⟩,
          ⟨(some 28), .bin .eql (.t 27) (.c (.int .i64 4096)), some (some 25, false)⟩,
          ⟨(some 29), .pick (.t 25) (.c (.bool true)) (.t 28), none⟩])
        (.cond (.t 29)
          (.seq
          (.region [
            ⟨(some 2), .move (.c .nil), none⟩,
            ⟨(some 3), .move (.c (.int .i64 2)), none⟩])
          .ret)
          .skip))
        (.draw [
          (⟨(some 30), .move (.t 4), none⟩, []),
          (⟨(some 31), .move (.t 0), none⟩, []),
          (⟨(some 32), .move (.t 5), none⟩, []),
          (⟨(some 33), .indexAddr 2 (.t 31) (.t 32), none⟩, []),
          (⟨(some 34), .fieldAddr 0 (.t 33), none⟩, []),
          (⟨(some 35), .load false 1 (.t 34), none⟩, []),
          (⟨(some 36), .append 3 32 [(.int .i64 0), (.int .i64 0), (.str (bs []))] (.c .nil) (.t 35), none⟩, []),
          (⟨(some 37), .move (.t 0), none⟩, []),
          (⟨(some 38), .move (.t 5), none⟩, []),
          (⟨(some 39), .indexAddr 2 (.t 37) (.t 38), none⟩, [16]),
          (⟨(some 40), .fieldAddr 1 (.t 39), none⟩, []),
          (⟨(some 41), .load false 1 (.t 40), none⟩, [16]),
          (⟨(some 42), .build [.nil, (.int .i64 0)] [(0, 1, (.t 36)), (1, 1, (.t 41))], none⟩, []),
          (⟨(some 43), .buildSliceO 2 1 [.nil, (.int .i64 0)] [(0, (.t 42))], none⟩, []),
          (⟨(some 44), .append 2 32 [.nil, (.int .i64 0)] (.t 30) (.t 43), none⟩, []),
          (⟨(some 4), .move (.t 44), none⟩, [])]))))
      (.region [
        ⟨(some 10), .move (.t 5), none⟩,
        ⟨(some 11), .bin .add (.t 10) (.c (.int .i64 1)), none⟩,
        ⟨(some 5), .move (.t 11), none⟩]))))))
  (.seq
  (.region [
    ⟨(some 45), .move (.t 4), none⟩,
    ⟨(some 2), .move (.t 45), none⟩,
    ⟨(some 3), .move (.c (.int .i64 0)), none⟩])
  .ret))))⟩

structure F_warehouseref6_result (P : Program) where
  id : FuncId
  warehouseref6_small : F_warehouseref6_small P
  has : Has P id [43] (c_warehouseref6_result warehouseref6_small.id)

def c_warehouseref6_Add (f_warehouseref6_two : FuncId) (f_warehouseref6_merge : FuncId) (f_warehouseref6_result : FuncId) : AFunc := ⟨19, [.tmp 4, .tmp 5],
  (.seq
  (.region [
    ⟨(some 4), .move (.c .nil), none⟩,
    ⟨(some 5), .move (.c (.int .i64 0)), none⟩])
  (.seq
  (.seq
  (.region [
    ⟨(some 7), .move (.t 0), none⟩,
    ⟨(some 8), .move (.t 1), none⟩,
    ⟨(some 9), .call f_warehouseref6_two [(.t 7), (.t 8)], none⟩,
    ⟨(some 6), .move (.t 9), none⟩])
  (.seq
  (.region [
    ⟨(some 10), .move (.t 6), none⟩,
    ⟨(some 11), .bin .neq (.t 10) (.c (.int .i64 0)), none⟩])
  (.cond (.t 11)
    (.seq
    (.region [
      ⟨(some 12), .move (.t 6), none⟩,
      ⟨(some 4), .move (.c .nil), none⟩,
      ⟨(some 5), .move (.t 12), none⟩])
    .ret)
    .skip)))
  (.seq
  (.region [
    ⟨(some 13), .move (.t 0), none⟩,
    ⟨(some 14), .move (.t 1), none⟩,
    ⟨(some 15), .call f_warehouseref6_merge [(.t 13), (.t 14)], none⟩,
    ⟨(some 16), .call f_warehouseref6_result [(.t 15)], none⟩,
    ⟨(some 17), .extract (.t 16) 0, none⟩,
    ⟨(some 18), .extract (.t 16) 1, none⟩,
    ⟨(some 4), .move (.t 17), none⟩,
    ⟨(some 5), .move (.t 18), none⟩])
  .ret)))⟩

structure F_warehouseref6_Add (P : Program) where
  id : FuncId
  warehouseref6_two : F_warehouseref6_two P
  warehouseref6_merge : F_warehouseref6_merge P
  warehouseref6_result : F_warehouseref6_result P
  has : Has P id [] (c_warehouseref6_Add warehouseref6_two.id warehouseref6_merge.id warehouseref6_result.id)

def c_warehouseref6_Same (f_warehouseref1_SameRow : FuncId) : AFunc := ⟨42, [.tmp 4],
  (.seq
  (.region [
    ⟨(some 4), .move (.c (.bool false)), none⟩])
  (.seq
  (.seq
  (.region [
    ⟨(some 6), .move (.t 0), none⟩,
    ⟨(some 7), .len (.t 6), none⟩,
    ⟨(some 8), .move (.t 1), none⟩,
    ⟨(some 9), .len (.t 8), none⟩,
    ⟨(some 10), .bin .neq (.t 7) (.t 9), none⟩])
  (.cond (.t 10)
    (.seq
    (.region [
      ⟨(some 4), .move (.c (.bool false)), none⟩])
    .ret)
    .skip))
  (.seq
  (.seq
  (.region [
    ⟨(some 5), .move (.c (.int .i64 0)), none⟩])
  (.block 0
    (.loop
      (.seq
      (.seq
      (.region [
        ⟨(some 11), .move (.t 5), none⟩,
        ⟨(some 12), .move (.t 0), none⟩,
        ⟨(some 13), .len (.t 12), none⟩,
        ⟨(some 14), .bin .lss (.t 11) (.t 13), none⟩])
      (.cond (.t 14)
        .skip
        (.exit 0)))
      (.seq
      (.block 1
        (.seq
        (.draw [
          (⟨(some 17), .move (.t 0), none⟩, []),
          (⟨(some 18), .move (.t 5), none⟩, []),
          (⟨(some 19), .indexAddr 2 (.t 17) (.t 18), none⟩, []),
          (⟨(some 20), .fieldAddr 1 (.t 19), none⟩, []),
          (⟨(some 21), .load false 1 (.t 20), none⟩, []),
          (⟨(some 22), .move (.t 1), none⟩, []),
          (⟨(some 23), .move (.t 5), none⟩, []),
          (⟨(some 24), .indexAddr 2 (.t 22) (.t 23), none⟩, []),
          (⟨(some 25), .fieldAddr 1 (.t 24), none⟩, []),
          (⟨(some 26), .load false 1 (.t 25), none⟩, []),
          (⟨(some 27), .bin .neq (.t 21) (.t 26), none⟩, []),
          (⟨(some 28), .move (.t 27), none⟩, []),
          (⟨(some 29), .move (.t 0), some (some 28, false)⟩, []),
          (⟨(some 30), .move (.t 5), some (some 28, false)⟩, []),
          (⟨(some 31), .indexAddr 2 (.t 29) (.t 30), some (some 28, false)⟩, []),
          (⟨(some 32), .fieldAddr 0 (.t 31), some (some 28, false)⟩, []),
          (⟨(some 33), .load false 1 (.t 32), some (some 28, false)⟩, []),
          (⟨(some 34), .move (.t 1), some (some 28, false)⟩, []),
          (⟨(some 35), .move (.t 5), some (some 28, false)⟩, []),
          (⟨(some 36), .indexAddr 2 (.t 34) (.t 35), some (some 28, false)⟩, []),
          (⟨(some 37), .fieldAddr 0 (.t 36), some (some 28, false)⟩, []),
          (⟨(some 38), .load false 1 (.t 37), some (some 28, false)⟩, []),
          (⟨(some 39), .call f_warehouseref1_SameRow [(.t 33), (.t 38)], some (some 28, false)⟩, []),
          (⟨(some 40), .un .not (.t 39), some (some 28, false)⟩, []),
          (⟨(some 41), .pick (.t 28) (.c (.bool true)) (.t 40), none⟩, [])])
        (.cond (.t 41)
          (.seq
          (.region [
            ⟨(some 4), .move (.c (.bool false)), none⟩])
          .ret)
          .skip)))
      (.region [
        ⟨(some 15), .move (.t 5), none⟩,
        ⟨(some 16), .bin .add (.t 15) (.c (.int .i64 1)), none⟩,
        ⟨(some 5), .move (.t 16), none⟩]))))))
  (.seq
  (.region [
    ⟨(some 4), .move (.c (.bool true)), none⟩])
  .ret))))⟩

structure F_warehouseref6_Same (P : Program) where
  id : FuncId
  warehouseref1_SameRow : F_warehouseref1_SameRow P
  has : Has P id [] (c_warehouseref6_Same warehouseref1_SameRow.id)

def c_warehouseref6_Count (f_warehouseref1_SameRow : FuncId) : AFunc := ⟨24, [.tmp 4],
  (.seq
  (.region [
    ⟨(some 4), .move (.c (.int .i64 0)), none⟩])
  (.seq
  (.seq
  (.region [
    ⟨(some 5), .move (.c (.int .i64 0)), none⟩])
  (.block 0
    (.loop
      (.seq
      (.seq
      (.region [
        ⟨(some 6), .move (.t 5), none⟩,
        ⟨(some 7), .move (.t 0), none⟩,
        ⟨(some 8), .len (.t 7), none⟩,
        ⟨(some 9), .bin .lss (.t 6) (.t 8), none⟩])
      (.cond (.t 9)
        .skip
        (.exit 0)))
      (.seq
      (.block 1
        (.seq
        (.region [
          ⟨(some 12), .move (.t 0), none⟩,
          ⟨(some 13), .move (.t 5), none⟩,
          ⟨(some 14), .indexAddr 2 (.t 12) (.t 13), none⟩,
          ⟨(some 15), .fieldAddr 0 (.t 14), none⟩,
          ⟨(some 16), .load false 1 (.t 15), none⟩,
          ⟨(some 17), .move (.t 1), none⟩,
          ⟨(some 18), .call f_warehouseref1_SameRow [(.t 16), (.t 17)], none⟩])
        (.cond (.t 18)
          (.seq
          (.region [
            ⟨(some 19), .move (.t 0), none⟩,
            ⟨(some 20), .move (.t 5), none⟩,
            ⟨(some 21), .indexAddr 2 (.t 19) (.t 20), none⟩,
            ⟨(some 22), .fieldAddr 1 (.t 21), none⟩,
            ⟨(some 23), .load false 1 (.t 22), none⟩,
            ⟨(some 4), .move (.t 23), none⟩])
          .ret)
          .skip)))
      (.region [
        ⟨(some 10), .move (.t 5), none⟩,
        ⟨(some 11), .bin .add (.t 10) (.c (.int .i64 1)), none⟩,
        ⟨(some 5), .move (.t 11), none⟩]))))))
  (.seq
  (.region [
    ⟨(some 4), .move (.c (.int .i64 0)), none⟩])
  .ret)))⟩

structure F_warehouseref6_Count (P : Program) where
  id : FuncId
  warehouseref1_SameRow : F_warehouseref1_SameRow P
  has : Has P id [] (c_warehouseref6_Count warehouseref1_SameRow.id)

end Go.AW

