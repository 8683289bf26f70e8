/-
  Code of functions on the abstract machine, printed by a program out of the translation of AwComp, and bundles of functions with what they call.
  No condition: definitions.
-/
import Derived.Test.YtikifhfpiahnoaaWhCodeAp0
namespace Go.AW

/-- The code of warehouseref5_Validate. -/
def c_warehouseref5_Validate (f_warehouseref5_IsName : FuncId) (f_warehouseref5_Index : FuncId) : AFunc := ⟨48, [.tmp 2],
  (.seq
  (.region [
    ⟨(some 2), .move (.c (.int .i64 0)), none⟩])
  (.seq
  (.seq
  (.region [
    ⟨(some 4), .move (.t 0), none⟩,
    ⟨(some 5), .len (.t 4), none⟩,
    ⟨(some 6), .bin .lss (.t 5) (.c (.int .i64 1)), none⟩,
    ⟨(some 7), .move (.t 6), none⟩,
    ⟨(some 8), .move (.t 0), some (some 7, false)⟩,
    ⟨(some 9), .len (.t 8), some (some 7, false)⟩,
    ⟨(some 10), .bin .gtr (.t 9) (.c (.int .i64 12)), some (some 7, false)⟩,
    ⟨(some 11), .pick (.t 7) (.c (.bool true)) (.t 10), none⟩])
  (.cond (.t 11)
    (.seq
    (.region [
      ⟨(some 2), .move (.c (.int .i64 2)), none⟩])
    .ret)
    .skip))
  (.seq
  (.seq
  (.region [
    ⟨(some 3), .move (.c (.int .i64 0)), none⟩])
  (.block 0
    (.loop
      (.seq
      (.seq
      (.region [
        ⟨(some 12), .move (.t 3), none⟩,
        ⟨(some 13), .move (.t 0), none⟩,
        ⟨(some 14), .len (.t 13), none⟩,
        ⟨(some 15), .bin .lss (.t 12) (.t 14), none⟩])
      (.cond (.t 15)
        .skip
        (.exit 0)))
      (.seq
      (.block 1
        (.seq
        (.seq
        (.region [
          ⟨(some 18), .move (.t 0), none⟩,
          ⟨(some 19), .move (.t 3), none⟩,
          ⟨(some 20), .indexAddr 3 (.t 18) (.t 19), none⟩,
          ⟨(some 21), .fieldAddr 0 (.t 20), none⟩,
          ⟨(some 22), .load false 1 (.t 21), none⟩,
          ⟨(some 23), .call f_warehouseref5_IsName [(.t 22)], none⟩,
          ⟨(some 24), .un .not (.t 23), none⟩])
        (.cond (.t 24)
          (.seq
          (.region [
            ⟨(some 2), .move (.c (.int .i64 4)), none⟩])
          .ret)
          .skip))
        (.seq
        (.seq
        (.region [
          ⟨(some 25), .move (.t 0), none⟩,
          ⟨(some 26), .move (.t 3), none⟩,
          ⟨(some 27), .indexAddr 3 (.t 25) (.t 26), none⟩,
          ⟨(some 28), .fieldAddr 1 (.t 27), none⟩,
          ⟨(some 29), .load false 1 (.t 28), none⟩,
          ⟨(some 30), .bin .lss (.t 29) (.c (.int .i64 1)), none⟩,
          ⟨(some 31), .move (.t 30), none⟩,
          ⟨(some 32), .move (.t 0), some (some 31, false)⟩,
          ⟨(some 33), .move (.t 3), some (some 31, false)⟩,
          ⟨(some 34), .indexAddr 3 (.t 32) (.t 33), some (some 31, false)⟩,
          ⟨(some 35), .fieldAddr 1 (.t 34), some (some 31, false)⟩,
          ⟨(some 36), .load false 1 (.t 35), some (some 31, false)⟩,
          ⟨(some 37), .bin .gtr (.t 36) (.c (.int .i64 4)), some (some 31, false)⟩,
          ⟨(some 38), .pick (.t 31) (.c (.bool true)) (.t 37), none⟩])
        (.cond (.t 38)
          (.seq
          (.region [
            ⟨(some 2), .move (.c (.int .i64 7)), none⟩])
          .ret)
          .skip))
        (.seq
        (.region [
          ⟨(some 39), .move (.t 0), none⟩,
          ⟨(some 40), .move (.t 0), none⟩,
          ⟨(some 41), .move (.t 3), none⟩,
          ⟨(some 42), .indexAddr 3 (.t 40) (.t 41), none⟩,
          ⟨(some 43), .fieldAddr 0 (.t 42), none⟩,
          ⟨(some 44), .load false 1 (.t 43), none⟩,
          ⟨(some 45), .call f_warehouseref5_Index [(.t 39), (.t 44)], none⟩,
          ⟨(some 46), .move (.t 3), none⟩,
          ⟨(some 47), .bin .neq (.t 45) (.t 46), none⟩])
        (.cond (.t 47)
          (.seq
          (.region [
            ⟨(some 2), .move (.c (.int .i64 6)), none⟩])
          .ret)
          .skip)))))
      (.region [
        ⟨(some 16), .move (.t 3), none⟩,
        ⟨(some 17), .bin .add (.t 16) (.c (.int .i64 1)), none⟩,
        ⟨(some 3), .move (.t 17), none⟩]))))))
  (.seq
  (.region [
    ⟨(some 2), .move (.c (.int .i64 0)), none⟩])
  .ret))))⟩

/-- warehouseref5_Validate, and what it calls. -/
structure F_warehouseref5_Validate (P : Program) where
  id : FuncId
  warehouseref5_IsName : F_warehouseref5_IsName P
  warehouseref5_Index : F_warehouseref5_Index P
  has : Has P id [] (c_warehouseref5_Validate warehouseref5_IsName.id warehouseref5_Index.id)

/-- The code of warehouselaw5_SchemaValidates. -/
def c_warehouselaw5_SchemaValidates (f_warehouselaw5_known : FuncId) (f_warehousebase_Columns : FuncId) (f_schema_Validate : FuncId) (f_warehouseref5_Validate : FuncId) : AFunc := ⟨31, [.tmp 6],
  (.seq
  (.region [
    ⟨(some 6), .move (.c (.bool false)), none⟩])
  (.seq
  (.seq
  (.region [
    ⟨(some 8), .move (.t 0), none⟩,
    ⟨(some 9), .len (.t 8), none⟩,
    ⟨(some 10), .bin .gtr (.t 9) (.c (.int .i64 100)), none⟩])
  (.cond (.t 10)
    (.seq
    (.region [
      ⟨(some 11), .call f_warehouselaw5_known [], none⟩,
      ⟨(some 6), .move (.t 11), none⟩])
    .ret)
    .skip))
  (.seq
  (.region [
    ⟨(some 12), .move (.t 1), none⟩,
    ⟨(some 13), .move (.t 2), none⟩,
    ⟨(some 14), .bin .and (.t 13) (.c (.int .i64 15)), none⟩,
    ⟨(some 15), .call f_warehousebase_Columns [(.t 12), (.t 14)], none⟩,
    ⟨(some 7), .move (.t 15), none⟩])
  (.seq
  (.region [
    ⟨(some 16), .move (.t 0), none⟩,
    ⟨(some 17), .call f_schema_Validate [(.t 16)], none⟩,
    ⟨(some 18), .move (.t 0), none⟩,
    ⟨(some 19), .call f_warehouseref5_Validate [(.t 18)], none⟩,
    ⟨(some 20), .bin .eql (.t 17) (.t 19), none⟩,
    ⟨(some 21), .move (.t 20), none⟩,
    ⟨(some 22), .move (.t 7), some (some 21, true)⟩,
    ⟨(some 23), .call f_schema_Validate [(.t 22)], some (some 21, true)⟩,
    ⟨(some 24), .move (.t 7), some (some 21, true)⟩,
    ⟨(some 25), .call f_warehouseref5_Validate [(.t 24)], some (some 21, true)⟩,
    ⟨(some 26), .bin .eql (.t 23) (.t 25), some (some 21, true)⟩,
    ⟨(some 27), .pick (.t 21) (.t 26) (.c (.bool false)), none⟩,
    ⟨(some 28), .move (.t 27), none⟩,
    ⟨(some 29), .call f_warehouselaw5_known [], some (some 28, true)⟩,
    ⟨(some 30), .pick (.t 28) (.t 29) (.c (.bool false)), none⟩,
    ⟨(some 6), .move (.t 30), none⟩])
  .ret))))⟩

/-- warehouselaw5_SchemaValidates, and what it calls. -/
structure F_warehouselaw5_SchemaValidates (P : Program) where
  id : FuncId
  warehouselaw5_known : F_warehouselaw5_known P
  warehousebase_Columns : F_warehousebase_Columns P
  schema_Validate : F_schema_Validate P
  warehouseref5_Validate : F_warehouseref5_Validate P
  has : Has P id [] (c_warehouselaw5_SchemaValidates warehouselaw5_known.id warehousebase_Columns.id schema_Validate.id warehouseref5_Validate.id)

/-- The code of slices_Index_Lstring_string. -/
def c_slices_Index_Lstring_string : AFunc := ⟨19, [.tmp 4],
  (.seq
  (.region [
    ⟨(some 4), .move (.c (.int .i64 0)), none⟩])
  (.seq
  (.seq
  (.region [
    ⟨(some 6), .move (.t 0), none⟩,
    ⟨(some 7), .len (.t 6), none⟩,
    ⟨(some 8), .move (.c (.int .i64 0)), none⟩])
  (.block 0
    (.loop
      (.seq
      (.region [
        ⟨(some 9), .bin .lss (.t 8) (.t 7), none⟩])
      (.seq
      (.cond (.t 9)
        .skip
        (.exit 0))
      (.seq
      (.block 1
        (.seq
        (.region [
          ⟨(some 10), .move (.t 8), none⟩,
          ⟨(some 5), .move (.t 10), none⟩])
        (.seq
        (.region [
          ⟨(some 11), .move (.t 1), none⟩,
          ⟨(some 12), .move (.t 0), none⟩,
          ⟨(some 13), .move (.t 5), none⟩,
          ⟨(some 14), .indexAddr 1 (.t 12) (.t 13), none⟩,
          ⟨(some 15), .load false 1 (.t 14), none⟩,
          ⟨(some 16), .bin .eql (.t 11) (.t 15), none⟩])
        (.cond (.t 16)
          (.seq
          (.region [
            ⟨(some 17), .move (.t 5), none⟩,
            ⟨(some 4), .move (.t 17), none⟩])
          .ret)
          .skip))))
      (.region [
        ⟨(some 18), .bin .add (.t 8) (.c (.int .i64 1)), none⟩,
        ⟨(some 8), .move (.t 18), none⟩])))))))
  (.seq
  (.region [
    ⟨(some 4), .move (.c (.int .i64 (-1))), none⟩])
  .ret)))⟩

/-- slices_Index_Lstring_string, and what it calls. -/
structure F_slices_Index_Lstring_string (P : Program) where
  id : FuncId
  has : Has P id [] c_slices_Index_Lstring_string

/-- The code of slices_Contains_Lstring_string. -/
def c_slices_Contains_Lstring_string (f_slices_Index_Lstring_string : FuncId) : AFunc := ⟨9, [.tmp 4],
  (.seq
  (.region [
    ⟨(some 4), .move (.c (.bool false)), none⟩])
  (.seq
  (.region [
    ⟨(some 5), .move (.t 0), none⟩,
    ⟨(some 6), .move (.t 1), none⟩,
    ⟨(some 7), .call f_slices_Index_Lstring_string [(.t 5), (.t 6)], none⟩,
    ⟨(some 8), .bin .geq (.t 7) (.c (.int .i64 0)), none⟩,
    ⟨(some 4), .move (.t 8), none⟩])
  .ret))⟩

/-- slices_Contains_Lstring_string, and what it calls. -/
structure F_slices_Contains_Lstring_string (P : Program) where
  id : FuncId
  slices_Index_Lstring_string : F_slices_Index_Lstring_string P
  has : Has P id [] (c_slices_Contains_Lstring_string slices_Index_Lstring_string.id)

/-- The code of schema_Indices. -/
def c_schema_Indices (f_schema_Index : FuncId) (f_slices_Contains_Lstring_string : FuncId) : AFunc := ⟨33, [.tmp 4, .tmp 5],
  (.seq
  (.region [
    ⟨(some 4), .move (.c .nil), none⟩,
    ⟨(some 5), .move (.c (.int .i64 0)), none⟩])
  (.seq
  (.region [
    ⟨(some 6), .move (.c .nil), none⟩])
  (.seq
  (.seq
  (.region [
    ⟨(some 10), .move (.t 1), none⟩,
    ⟨(some 11), .len (.t 10), none⟩,
    ⟨(some 12), .move (.c (.int .i64 0)), none⟩])
  (.block 0
    (.loop
      (.seq
      (.region [
        ⟨(some 13), .bin .lss (.t 12) (.t 11), none⟩])
      (.seq
      (.cond (.t 13)
        .skip
        (.exit 0))
      (.seq
      (.block 1
        (.seq
        (.region [
          ⟨(some 14), .move (.t 12), none⟩,
          ⟨(some 15), .indexAddr 1 (.t 10) (.t 12), none⟩,
          ⟨(some 16), .load false 1 (.t 15), none⟩,
          ⟨(some 7), .move (.t 14), none⟩,
          ⟨(some 8), .move (.t 16), none⟩])
        (.seq
        (.region [
          ⟨(some 17), .move (.t 0), none⟩,
          ⟨(some 18), .move (.t 8), none⟩,
          ⟨(some 19), .call f_schema_Index [(.t 17), (.t 18)], none⟩,
          ⟨(some 9), .move (.t 19), none⟩])
        (.seq
        (.seq
        (.region [
          ⟨(some 20), .move (.t 9), none⟩,
          ⟨(some 21), .bin .lss (.t 20) (.c (.int .i64 0)), none⟩])
        (.cond (.t 21)
          (.seq
          (.region [
            ⟨(some 4), .move (.c .nil), none⟩,
            ⟨(some 5), .move (.c (.int .i64 5)), none⟩])
          .ret)
          .skip))
        (.seq
        (.seq
        (.region [
          ⟨(some 22), .move (.t 1), none⟩,
          ⟨(some 23), .move (.t 7), none⟩,
          ⟨(some 24), .slice 1 (.t 22) none (some (.t 23)), none⟩,
          ⟨(some 25), .move (.t 8), none⟩,
          ⟨(some 26), .call f_slices_Contains_Lstring_string [(.t 24), (.t 25)], none⟩])
        (.cond (.t 26)
          (.seq
          (.region [
            ⟨(some 4), .move (.c .nil), none⟩,
            ⟨(some 5), .move (.c (.int .i64 6)), none⟩])
          .ret)
          .skip))
        (.region [
          ⟨(some 27), .move (.t 6), none⟩,
          ⟨(some 28), .move (.t 9), none⟩,
          ⟨(some 29), .buildSlice 1 1 [(.int .i64 0)] [(0, (.t 28))], none⟩,
          ⟨(some 30), .append 1 8 [(.int .i64 0)] (.t 27) (.t 29), none⟩,
          ⟨(some 6), .move (.t 30), none⟩]))))))
      (.region [
        ⟨(some 31), .bin .add (.t 12) (.c (.int .i64 1)), none⟩,
        ⟨(some 12), .move (.t 31), none⟩])))))))
  (.seq
  (.region [
    ⟨(some 32), .move (.t 6), none⟩,
    ⟨(some 4), .move (.t 32), none⟩,
    ⟨(some 5), .move (.c (.int .i64 0)), none⟩])
  .ret))))⟩

/-- schema_Indices, and what it calls. -/
structure F_schema_Indices (P : Program) where
  id : FuncId
  schema_Index : F_schema_Index P
  slices_Contains_Lstring_string : F_slices_Contains_Lstring_string P
  has : Has P id [] (c_schema_Indices schema_Index.id slices_Contains_Lstring_string.id)

/-- The code of warehouseref5_Has. -/
def c_warehouseref5_Has : AFunc := ⟨18, [.tmp 4],
  (.seq
  (.region [
    ⟨(some 4), .move (.c (.bool false)), none⟩])
  (.seq
  (.seq
  (.region [
    ⟨(some 5), .move (.c (.int .i64 0)), none⟩])
  (.block 0
    (.loop
      (.seq
      (.seq
      (.region [
        ⟨(some 6), .move (.t 5), none⟩,
        ⟨(some 7), .move (.t 0), none⟩,
        ⟨(some 8), .len (.t 7), none⟩,
        ⟨(some 9), .bin .lss (.t 6) (.t 8), none⟩])
      (.cond (.t 9)
        .skip
        (.exit 0)))
      (.seq
      (.block 1
        (.seq
        (.region [
          ⟨(some 12), .move (.t 0), none⟩,
          ⟨(some 13), .move (.t 5), none⟩,
          ⟨(some 14), .indexAddr 1 (.t 12) (.t 13), none⟩,
          ⟨(some 15), .load false 1 (.t 14), none⟩,
          ⟨(some 16), .move (.t 1), none⟩,
          ⟨(some 17), .bin .eql (.t 15) (.t 16), none⟩])
        (.cond (.t 17)
          (.seq
          (.region [
            ⟨(some 4), .move (.c (.bool true)), none⟩])
          .ret)
          .skip)))
      (.region [
        ⟨(some 10), .move (.t 5), none⟩,
        ⟨(some 11), .bin .add (.t 10) (.c (.int .i64 1)), none⟩,
        ⟨(some 5), .move (.t 11), none⟩]))))))
  (.seq
  (.region [
    ⟨(some 4), .move (.c (.bool false)), none⟩])
  .ret)))⟩

/-- warehouseref5_Has, and what it calls. -/
structure F_warehouseref5_Has (P : Program) where
  id : FuncId
  has : Has P id [] c_warehouseref5_Has

/-- The code of warehouseref5_Indices. -/
def c_warehouseref5_Indices (f_warehouseref5_Index : FuncId) (f_warehouseref5_Has : FuncId) : AFunc := ⟨36, [.tmp 4, .tmp 5],
  (.seq
  (.region [
    ⟨(some 4), .move (.c .nil), none⟩,
    ⟨(some 5), .move (.c (.int .i64 0)), none⟩])
  (.seq
  (.region [
    ⟨(some 6), .move (.c .nil), none⟩])
  (.seq
  (.seq
  (.region [
    ⟨(some 7), .move (.c (.int .i64 0)), none⟩])
  (.block 0
    (.loop
      (.seq
      (.seq
      (.region [
        ⟨(some 9), .move (.t 7), none⟩,
        ⟨(some 10), .move (.t 1), none⟩,
        ⟨(some 11), .len (.t 10), none⟩,
        ⟨(some 12), .bin .lss (.t 9) (.t 11), none⟩])
      (.cond (.t 12)
        .skip
        (.exit 0)))
      (.seq
      (.block 1
        (.seq
        (.region [
          ⟨(some 15), .move (.t 0), none⟩,
          ⟨(some 16), .move (.t 1), none⟩,
          ⟨(some 17), .move (.t 7), none⟩,
          ⟨(some 18), .indexAddr 1 (.t 16) (.t 17), none⟩,
          ⟨(some 19), .load false 1 (.t 18), none⟩,
          ⟨(some 20), .call f_warehouseref5_Index [(.t 15), (.t 19)], none⟩,
          ⟨(some 8), .move (.t 20), none⟩])
        (.seq
        (.seq
        (.region [
          ⟨(some 21), .move (.t 8), none⟩,
          ⟨(some 22), .bin .lss (.t 21) (.c (.int .i64 0)), none⟩])
        (.cond (.t 22)
          (.seq
          (.region [
            ⟨(some 4), .move (.c .nil), none⟩,
            ⟨(some 5), .move (.c (.int .i64 5)), none⟩])
          .ret)
          .skip))
        (.seq
        (.seq
        (.draw [
          (⟨(some 23), .move (.t 1), none⟩, []),
          (⟨(some 24), .move (.t 7), none⟩, []),
          (⟨(some 25), .slice 1 (.t 23) none (some (.t 24)), none⟩, []),
          (⟨(some 26), .move (.t 1), none⟩, []),
          (⟨(some 27), .move (.t 7), none⟩, []),
          (⟨(some 28), .indexAddr 1 (.t 26) (.t 27), none⟩, []),
          (⟨(some 29), .load false 1 (.t 28), none⟩, []),
          (⟨(some 30), .call f_warehouseref5_Has [(.t 25), (.t 29)], none⟩, [])])
        (.cond (.t 30)
          (.seq
          (.region [
            ⟨(some 4), .move (.c .nil), none⟩,
            ⟨(some 5), .move (.c (.int .i64 6)), none⟩])
          .ret)
          .skip))
        (.region [
          ⟨(some 31), .move (.t 6), none⟩,
          ⟨(some 32), .move (.t 8), none⟩,
          ⟨(some 33), .buildSlice 1 1 [(.int .i64 0)] [(0, (.t 32))], none⟩,
          ⟨(some 34), .append 1 8 [(.int .i64 0)] (.t 31) (.t 33), none⟩,
          ⟨(some 6), .move (.t 34), none⟩])))))
      (.region [
        ⟨(some 13), .move (.t 7), none⟩,
        ⟨(some 14), .bin .add (.t 13) (.c (.int .i64 1)), none⟩,
        ⟨(some 7), .move (.t 14), none⟩]))))))
  (.seq
  (.region [
    ⟨(some 35), .move (.t 6), none⟩,
    ⟨(some 4), .move (.t 35), none⟩,
    ⟨(some 5), .move (.c (.int .i64 0)), none⟩])
  .ret))))⟩

/-- warehouseref5_Indices, and what it calls. -/
structure F_warehouseref5_Indices (P : Program) where
  id : FuncId
  warehouseref5_Index : F_warehouseref5_Index P
  warehouseref5_Has : F_warehouseref5_Has P
  has : Has P id [] (c_warehouseref5_Indices warehouseref5_Index.id warehouseref5_Has.id)

/-- The code of warehouselaw5_ints. -/
def c_warehouselaw5_ints : AFunc := ⟨26, [.tmp 4],
  (.seq
  (.region [
    ⟨(some 4), .move (.c (.bool false)), none⟩])
  (.seq
  (.seq
  (.region [
    ⟨(some 6), .move (.t 0), none⟩,
    ⟨(some 7), .len (.t 6), none⟩,
    ⟨(some 8), .move (.t 1), none⟩,
    ⟨(some 9), .len (.t 8), none⟩,
    ⟨(some 10), .bin .neq (.t 7) (.t 9), none⟩])
  (.cond (.t 10)
    (.seq
    (.region [
      ⟨(some 4), .move (.c (.bool false)), none⟩])
    .ret)
    .skip))
  (.seq
  (.seq
  (.region [
    ⟨(some 5), .move (.c (.int .i64 0)), none⟩])
  (.block 0
    (.loop
      (.seq
      (.seq
      (.region [
        ⟨(some 11), .move (.t 5), none⟩,
        ⟨(some 12), .move (.t 0), none⟩,
        ⟨(some 13), .len (.t 12), none⟩,
        ⟨(some 14), .bin .lss (.t 11) (.t 13), none⟩])
      (.cond (.t 14)
        .skip
        (.exit 0)))
      (.seq
      (.block 1
        (.seq
        (.draw [
          (⟨(some 17), .move (.t 0), none⟩, []),
          (⟨(some 18), .move (.t 5), none⟩, []),
          (⟨(some 19), .indexAddr 1 (.t 17) (.t 18), none⟩, []),
          (⟨(some 20), .load false 1 (.t 19), none⟩, []),
          (⟨(some 21), .move (.t 1), none⟩, []),
          (⟨(some 22), .move (.t 5), none⟩, []),
          (⟨(some 23), .indexAddr 1 (.t 21) (.t 22), none⟩, []),
          (⟨(some 24), .load false 1 (.t 23), none⟩, []),
          (⟨(some 25), .bin .neq (.t 20) (.t 24), none⟩, [])])
        (.cond (.t 25)
          (.seq
          (.region [
            ⟨(some 4), .move (.c (.bool false)), none⟩])
          .ret)
          .skip)))
      (.region [
        ⟨(some 15), .move (.t 5), none⟩,
        ⟨(some 16), .bin .add (.t 15) (.c (.int .i64 1)), none⟩,
        ⟨(some 5), .move (.t 16), none⟩]))))))
  (.seq
  (.region [
    ⟨(some 4), .move (.c (.bool true)), none⟩])
  .ret))))⟩

/-- warehouselaw5_ints, and what it calls. -/
structure F_warehouselaw5_ints (P : Program) where
  id : FuncId
  has : Has P id [] c_warehouselaw5_ints

/-- The code of warehouselaw5_SchemaIndices. -/
def c_warehouselaw5_SchemaIndices (f_warehouselaw5_known : FuncId) (f_warehousebase_Columns : FuncId) (f_warehousebase_At : FuncId) (f_schema_Indices : FuncId) (f_warehouseref5_Indices : FuncId) (f_warehouselaw5_ints : FuncId) : AFunc := ⟨97, [.tmp 8],
  (.seq
  (.region [
    ⟨(some 8), .move (.c (.bool false)), none⟩])
  (.seq
  (.seq
  (.region [
    ⟨(some 20), .move (.t 0), none⟩,
    ⟨(some 21), .len (.t 20), none⟩,
    ⟨(some 22), .bin .gtr (.t 21) (.c (.int .i64 50)), none⟩,
    ⟨(some 23), .move (.t 22), none⟩,
    ⟨(some 24), .move (.t 1), some (some 23, false)⟩,
    ⟨(some 25), .len (.t 24), some (some 23, false)⟩,
    ⟨(some 26), .bin .gtr (.t 25) (.c (.int .i64 50)), some (some 23, false)⟩,
    ⟨(some 27), .pick (.t 23) (.c (.bool true)) (.t 26), none⟩])
  (.cond (.t 27)
    (.seq
    (.region [
      ⟨(some 28), .call f_warehouselaw5_known [], none⟩,
      ⟨(some 8), .move (.t 28), none⟩])
    .ret)
    .skip))
  (.seq
  (.region [
    ⟨(some 29), .move (.t 2), none⟩,
    ⟨(some 30), .move (.t 3), none⟩,
    ⟨(some 31), .bin .and (.t 30) (.c (.int .i64 7)), none⟩,
    ⟨(some 32), .call f_warehousebase_Columns [(.t 29), (.t 31)], none⟩,
    ⟨(some 9), .move (.t 32), none⟩])
  (.seq
  (.region [
    ⟨(some 10), .move (.c .nil), none⟩])
  (.seq
  (.seq
  (.region [
    ⟨(some 11), .move (.c (.int .i64 0)), none⟩])
  (.block 0
    (.loop
      (.seq
      (.seq
      (.seq
      (.region [
        ⟨(some 33), .move (.t 11), none⟩,
        ⟨(some 34), .move (.t 3), none⟩,
        ⟨(some 35), .bin .shr (.t 34) (.c (.int .u64 3)), none⟩,
        ⟨(some 36), .bin .and (.t 35) (.c (.int .i64 3)), none⟩,
        ⟨(some 37), .bin .lss (.t 33) (.t 36), none⟩])
      .ghost)
      (.cond (.t 37)
        .skip
        (.exit 0)))
      (.seq
      (.block 1
        (.region [
          ⟨(some 40), .move (.t 10), none⟩,
          ⟨(some 41), .move (.t 2), none⟩,
          ⟨(some 42), .move (.t 11), none⟩,
          ⟨(some 43), .bin .add (.t 42) (.c (.int .i64 9)), none⟩,
          ⟨(some 44), .call f_warehousebase_At [(.t 41), (.t 43)], none⟩,
          ⟨(some 45), .bin .rem (.t 44) (.c (.int .i64 9)), none⟩,
          ⟨(some 46), .bin .add (.c (.int .i64 97)) (.t 45), none⟩,
          ⟨(some 47), .conv .u8 (.t 46), none⟩,
          ⟨(some 48), .buildSlice 1 1 [(.int .u8 0)] [(0, (.t 47))], none⟩,
          ⟨(some 49), .convBS (.t 48), none⟩,
          ⟨(some 50), .buildSlice 1 1 [(.str (bs []))] [(0, (.t 49))], none⟩,
          ⟨(some 51), .append 1 16 [(.str (bs []))] (.t 40) (.t 50), none⟩,
          ⟨(some 10), .move (.t 51), none⟩]))
      (.region [
        ⟨(some 38), .move (.t 11), none⟩,
        ⟨(some 39), .bin .add (.t 38) (.c (.int .i64 1)), none⟩,
        ⟨(some 11), .move (.t 39), none⟩]))))))
  (.seq
  (.region [
    ⟨(some 53), .move (.t 0), none⟩,
    ⟨(some 54), .move (.t 1), none⟩,
    ⟨(some 55), .call f_schema_Indices [(.t 53), (.t 54)], none⟩,
    ⟨(some 52), .move (.t 55), none⟩,
    ⟨(some 56), .extract (.t 52) 0, none⟩,
    ⟨(some 57), .extract (.t 52) 1, none⟩,
    ⟨(some 12), .move (.t 56), none⟩,
    ⟨(some 13), .move (.t 57), none⟩])
  (.seq
  (.region [
    ⟨(some 59), .move (.t 0), none⟩,
    ⟨(some 60), .move (.t 1), none⟩,
    ⟨(some 61), .call f_warehouseref5_Indices [(.t 59), (.t 60)], none⟩,
    ⟨(some 58), .move (.t 61), none⟩,
    ⟨(some 62), .extract (.t 58) 0, none⟩,
    ⟨(some 63), .extract (.t 58) 1, none⟩,
    ⟨(some 14), .move (.t 62), none⟩,
    ⟨(some 15), .move (.t 63), none⟩])
  (.seq
  (.region [
    ⟨(some 65), .move (.t 9), none⟩,
    ⟨(some 66), .move (.t 10), none⟩,
    ⟨(some 67), .call f_schema_Indices [(.t 65), (.t 66)], none⟩,
    ⟨(some 64), .move (.t 67), none⟩,
    ⟨(some 68), .extract (.t 64) 0, none⟩,
    ⟨(some 69), .extract (.t 64) 1, none⟩,
    ⟨(some 16), .move (.t 68), none⟩,
    ⟨(some 17), .move (.t 69), none⟩])
  (.seq
  (.region [
    ⟨(some 71), .move (.t 9), none⟩,
    ⟨(some 72), .move (.t 10), none⟩,
    ⟨(some 73), .call f_warehouseref5_Indices [(.t 71), (.t 72)], none⟩,
    ⟨(some 70), .move (.t 73), none⟩,
    ⟨(some 74), .extract (.t 70) 0, none⟩,
    ⟨(some 75), .extract (.t 70) 1, none⟩,
    ⟨(some 18), .move (.t 74), none⟩,
    ⟨(some 19), .move (.t 75), none⟩])
  (.seq
  (.region [
    ⟨(some 76), .move (.t 12), none⟩,
    ⟨(some 77), .move (.t 14), none⟩,
    ⟨(some 78), .call f_warehouselaw5_ints [(.t 76), (.t 77)], none⟩,
    ⟨(some 79), .move (.t 78), none⟩,
    ⟨(some 80), .move (.t 13), some (some 79, true)⟩,
    ⟨(some 81), .move (.t 15), some (some 79, true)⟩,
    ⟨(some 82), .bin .eql (.t 80) (.t 81), some (some 79, true)⟩,
    ⟨(some 83), .pick (.t 79) (.t 82) (.c (.bool false)), none⟩,
    ⟨(some 84), .move (.t 83), none⟩,
    ⟨(some 85), .move (.t 16), some (some 84, true)⟩,
    ⟨(some 86), .move (.t 18), some (some 84, true)⟩,
    ⟨(some 87), .call f_warehouselaw5_ints [(.t 85), (.t 86)], some (some 84, true)⟩,
    ⟨(some 88), .pick (.t 84) (.t 87) (.c (.bool false)), none⟩,
    ⟨(some 89), .move (.t 88), none⟩,
    ⟨(some 90), .move (.t 17), some (some 89, true)⟩,
    ⟨(some 91), .move (.t 19), some (some 89, true)⟩,
    ⟨(some 92), .bin .eql (.t 90) (.t 91), some (some 89, true)⟩,
    ⟨(some 93), .pick (.t 89) (.t 92) (.c (.bool false)), none⟩,
    ⟨(some 94), .move (.t 93), none⟩,
    ⟨(some 95), .call f_warehouselaw5_known [], some (some 94, true)⟩,
    ⟨(some 96), .pick (.t 94) (.t 95) (.c (.bool false)), none⟩,
    ⟨(some 8), .move (.t 96), none⟩])
  .ret))))))))))⟩

/-- warehouselaw5_SchemaIndices, and what it calls. -/
structure F_warehouselaw5_SchemaIndices (P : Program) where
  id : FuncId
  warehouselaw5_known : F_warehouselaw5_known P
  warehousebase_Columns : F_warehousebase_Columns P
  warehousebase_At : F_warehousebase_At P
  schema_Indices : F_schema_Indices P
  warehouseref5_Indices : F_warehouseref5_Indices P
  warehouselaw5_ints : F_warehouselaw5_ints P
  has : Has P id [100037] (c_warehouselaw5_SchemaIndices warehouselaw5_known.id warehousebase_Columns.id warehousebase_At.id schema_Indices.id warehouseref5_Indices.id warehouselaw5_ints.id)

/-- The code of slices_Clone_LColumn_Column. -/
def c_slices_Clone_LColumn_Column : AFunc := ⟨8, [.tmp 2],
  (.seq
  (.region [
    ⟨(some 2), .move (.c .nil), none⟩])
  (.seq
  (.seq
  (.region [
    ⟨(some 3), .move (.t 0), none⟩,
    ⟨(some 4), .isNil false (.t 3), none⟩])
  (.cond (.t 4)
    (.seq
    (.region [
      ⟨(some 2), .move (.c .nil), none⟩])
    .ret)
    .skip))
  (.seq
  (.region [
    ⟨(some 5), .buildSlice 3 0 [(.str (bs [])), (.int .i64 0), (.bool false)] [], none⟩,
    ⟨(some 6), .move (.t 0), none⟩,
    ⟨(some 7), .append 3 32 [(.str (bs [])), (.int .i64 0), (.bool false)] (.t 5) (.t 6), none⟩,
    ⟨(some 2), .move (.t 7), none⟩])
  .ret)))⟩

/-- slices_Clone_LColumn_Column, and what it calls. -/
structure F_slices_Clone_LColumn_Column (P : Program) where
  id : FuncId
  has : Has P id [] c_slices_Clone_LColumn_Column

/-- The code of schema_Widen. -/
def c_schema_Widen (f_slices_Clone_LColumn_Column : FuncId) : AFunc := ⟨35, [.tmp 4],
  (.seq
  (.region [
    ⟨(some 4), .move (.c .nil), none⟩])
  (.seq
  (.region [
    ⟨(some 7), .move (.t 0), none⟩,
    ⟨(some 8), .call f_slices_Clone_LColumn_Column [(.t 7)], none⟩,
    ⟨(some 5), .move (.t 8), none⟩])
  (.seq
  (.seq
  (.region [
    ⟨(some 9), .move (.t 0), none⟩,
    ⟨(some 10), .len (.t 9), none⟩,
    ⟨(some 11), .move (.t 1), none⟩,
    ⟨(some 12), .len (.t 11), none⟩,
    ⟨(some 13), .mn (.t 10) (.t 12), none⟩,
    ⟨(some 14), .move (.c (.int .i64 0)), none⟩])
  (.block 0
    (.loop
      (.seq
      (.region [
        ⟨(some 15), .bin .lss (.t 14) (.t 13), none⟩])
      (.seq
      (.cond (.t 15)
        .skip
        (.exit 0))
      (.seq
      (.block 1
        (.seq
        (.region [
          ⟨(some 16), .move (.t 14), none⟩,
          ⟨(some 6), .move (.t 16), none⟩])
        (.region [
          ⟨(some 17), .move (.t 5), none⟩,
          ⟨(some 18), .move (.t 6), none⟩,
          ⟨(some 19), .move (.t 0), none⟩,
          ⟨(some 20), .move (.t 6), none⟩,
          ⟨(some 21), .indexAddr 3 (.t 19) (.t 20), none⟩,
          ⟨(some 22), .fieldAddr 2 (.t 21), none⟩,
          ⟨(some 23), .load false 1 (.t 22), none⟩,
          ⟨(some 24), .move (.t 23), none⟩,
          ⟨(some 25), .move (.t 1), some (some 24, false)⟩,
          ⟨(some 26), .move (.t 6), some (some 24, false)⟩,
          ⟨(some 27), .indexAddr 3 (.t 25) (.t 26), some (some 24, false)⟩,
          ⟨(some 28), .fieldAddr 2 (.t 27), some (some 24, false)⟩,
          ⟨(some 29), .load false 1 (.t 28), some (some 24, false)⟩,
          ⟨(some 30), .pick (.t 24) (.c (.bool true)) (.t 29), none⟩,
          ⟨(some 31), .indexAddr 3 (.t 17) (.t 18), none⟩,
          ⟨(some 32), .fieldAddr 2 (.t 31), none⟩,
          ⟨none, .store 1 (.t 32) (.t 30), none⟩])))
      (.region [
        ⟨(some 33), .bin .add (.t 14) (.c (.int .i64 1)), none⟩,
        ⟨(some 14), .move (.t 33), none⟩])))))))
  (.seq
  (.region [
    ⟨(some 34), .move (.t 5), none⟩,
    ⟨(some 4), .move (.t 34), none⟩])
  .ret))))⟩

/-- schema_Widen, and what it calls. -/
structure F_schema_Widen (P : Program) where
  id : FuncId
  slices_Clone_LColumn_Column : F_slices_Clone_LColumn_Column P
  has : Has P id [] (c_schema_Widen slices_Clone_LColumn_Column.id)

/-- The code of slices_EqualFunc_LColumn_Column. -/
def c_slices_EqualFunc_LColumn_Column : AFunc := ⟨32, [.tmp 6],
  (.seq
  (.region [
    ⟨(some 6), .move (.c (.bool false)), none⟩])
  (.seq
  (.seq
  (.region [
    ⟨(some 10), .move (.t 0), none⟩,
    ⟨(some 11), .len (.t 10), none⟩,
    ⟨(some 12), .move (.t 1), none⟩,
    ⟨(some 13), .len (.t 12), none⟩,
    ⟨(some 14), .bin .neq (.t 11) (.t 13), none⟩])
  (.cond (.t 14)
    (.seq
    (.region [
      ⟨(some 6), .move (.c (.bool false)), none⟩])
    .ret)
    .skip))
  (.seq
  (.seq
  (.region [
    ⟨(some 15), .move (.t 0), none⟩,
    ⟨(some 16), .len (.t 15), none⟩,
    ⟨(some 17), .move (.c (.int .i64 0)), none⟩])
  (.block 0
    (.loop
      (.seq
      (.region [
        ⟨(some 18), .bin .lss (.t 17) (.t 16), none⟩])
      (.seq
      (.cond (.t 18)
        .skip
        (.exit 0))
      (.seq
      (.block 1
        (.seq
        (.region [
          ⟨(some 19), .move (.t 17), none⟩,
          ⟨(some 20), .indexAddr 3 (.t 15) (.t 17), none⟩,
          ⟨(some 21), .load true 3 (.t 20), none⟩,
          ⟨(some 8), .alloc [(.str (bs [])), (.int .i64 0), (.bool false)], none⟩,
          ⟨(some 7), .move (.t 19), none⟩,
          ⟨none, .store 3 (.t 8) (.t 21), none⟩])
        (.seq
        (.region [
          ⟨(some 22), .move (.t 1), none⟩,
          ⟨(some 23), .move (.t 7), none⟩,
          ⟨(some 24), .indexAddr 3 (.t 22) (.t 23), none⟩,
          ⟨(some 25), .load true 3 (.t 24), none⟩,
          ⟨(some 9), .alloc [(.str (bs [])), (.int .i64 0), (.bool false)], none⟩,
          ⟨none, .store 3 (.t 9) (.t 25), none⟩])
        (.seq
        (.region [
          ⟨(some 26), .move (.t 2), none⟩,
          ⟨(some 27), .load true 3 (.t 8), none⟩,
          ⟨(some 28), .load true 3 (.t 9), none⟩,
          ⟨(some 29), .callv (.t 26) [(.t 27), (.t 28)], none⟩,
          ⟨(some 30), .un .not (.t 29), none⟩])
        (.cond (.t 30)
          (.seq
          (.region [
            ⟨(some 6), .move (.c (.bool false)), none⟩])
          .ret)
          .skip)))))
      (.region [
        ⟨(some 31), .bin .add (.t 17) (.c (.int .i64 1)), none⟩,
        ⟨(some 17), .move (.t 31), none⟩])))))))
  (.seq
  (.region [
    ⟨(some 6), .move (.c (.bool true)), none⟩])
  .ret))))⟩

/-- slices_EqualFunc_LColumn_Column, and what it calls. -/
structure F_slices_EqualFunc_LColumn_Column (P : Program) where
  id : FuncId
  has : Has P id [] c_slices_EqualFunc_LColumn_Column

/-- The code of schema_Same_1. -/
def c_schema_Same_1 : AFunc := ⟨17, [.tmp 4],
  (.seq
  (.region [
    ⟨(some 2), .box (.t 0), none⟩,
    ⟨(some 3), .box (.t 1), none⟩,
    ⟨(some 4), .move (.c (.bool false)), none⟩])
  (.seq
  (.region [
    ⟨(some 5), .fieldAddr 0 (.t 2), none⟩,
    ⟨(some 6), .load false 1 (.t 5), none⟩,
    ⟨(some 7), .fieldAddr 0 (.t 3), none⟩,
    ⟨(some 8), .load false 1 (.t 7), none⟩,
    ⟨(some 9), .bin .eql (.t 6) (.t 8), none⟩,
    ⟨(some 10), .move (.t 9), none⟩,
    ⟨(some 11), .fieldAddr 1 (.t 2), some (some 10, true)⟩,
    ⟨(some 12), .load false 1 (.t 11), some (some 10, true)⟩,
    ⟨(some 13), .fieldAddr 1 (.t 3), some (some 10, true)⟩,
    ⟨(some 14), .load false 1 (.t 13), some (some 10, true)⟩,
    ⟨(some 15), .bin .eql (.t 12) (.t 14), some (some 10, true)⟩,
    ⟨(some 16), .pick (.t 10) (.t 15) (.c (.bool false)), none⟩,
    ⟨(some 4), .move (.t 16), none⟩])
  .ret))⟩

/-- schema_Same_1, and what it calls. -/
structure F_schema_Same_1 (P : Program) where
  id : FuncId
  has : Has P id [] c_schema_Same_1

/-- The code of schema_Same. -/
def c_schema_Same (f_slices_EqualFunc_LColumn_Column : FuncId) (f_schema_Same_1 : FuncId) : AFunc := ⟨8, [.tmp 4],
  (.seq
  (.region [
    ⟨(some 4), .move (.c (.bool false)), none⟩])
  (.seq
  (.region [
    ⟨(some 5), .move (.t 0), none⟩,
    ⟨(some 6), .move (.t 1), none⟩,
    ⟨(some 7), .call f_slices_EqualFunc_LColumn_Column [(.t 5), (.t 6), (.c (.fn f_schema_Same_1 []))], none⟩,
    ⟨(some 4), .move (.t 7), none⟩])
  .ret))⟩

/-- schema_Same, and what it calls. -/
structure F_schema_Same (P : Program) where
  id : FuncId
  slices_EqualFunc_LColumn_Column : F_slices_EqualFunc_LColumn_Column P
  schema_Same_1 : F_schema_Same_1 P
  has : Has P id [] (c_schema_Same slices_EqualFunc_LColumn_Column.id schema_Same_1.id)

/-- The code of warehouseref5_Same. -/
def c_warehouseref5_Same : AFunc := ⟨41, [.tmp 4],
  (.seq
  (.region [
    ⟨(some 4), .move (.c (.bool false)), none⟩])
  (.seq
  (.seq
  (.region [
    ⟨(some 6), .move (.t 0), none⟩,
    ⟨(some 7), .len (.t 6), none⟩,
    ⟨(some 8), .move (.t 1), none⟩,
    ⟨(some 9), .len (.t 8), none⟩,
    ⟨(some 10), .bin .neq (.t 7) (.t 9), none⟩])
  (.cond (.t 10)
    (.seq
    (.region [
      ⟨(some 4), .move (.c (.bool false)), none⟩])
    .ret)
    .skip))
  (.seq
  (.seq
  (.region [
    ⟨(some 5), .move (.c (.int .i64 0)), none⟩])
  (.block 0
    (.loop
      (.seq
      (.seq
      (.region [
        ⟨(some 11), .move (.t 5), none⟩,
        ⟨(some 12), .move (.t 0), none⟩,
        ⟨(some 13), .len (.t 12), none⟩,
        ⟨(some 14), .bin .lss (.t 11) (.t 13), none⟩])
      (.cond (.t 14)
        .skip
        (.exit 0)))
      (.seq
      (.block 1
        (.seq
        (.draw [
          (⟨(some 17), .move (.t 0), none⟩, []),
          (⟨(some 18), .move (.t 5), none⟩, []),
          (⟨(some 19), .indexAddr 3 (.t 17) (.t 18), none⟩, []),
          (⟨(some 20), .fieldAddr 0 (.t 19), none⟩, []),
          (⟨(some 21), .load false 1 (.t 20), none⟩, []),
          (⟨(some 22), .move (.t 1), none⟩, []),
          (⟨(some 23), .move (.t 5), none⟩, []),
          (⟨(some 24), .indexAddr 3 (.t 22) (.t 23), none⟩, []),
          (⟨(some 25), .fieldAddr 0 (.t 24), none⟩, []),
          (⟨(some 26), .load false 1 (.t 25), none⟩, []),
          (⟨(some 27), .bin .neq (.t 21) (.t 26), none⟩, []),
          (⟨(some 28), .move (.t 27), none⟩, []),
          (⟨(some 29), .move (.t 0), some (some 28, false)⟩, []),
          (⟨(some 30), .move (.t 5), some (some 28, false)⟩, []),
          (⟨(some 31), .indexAddr 3 (.t 29) (.t 30), some (some 28, false)⟩, []),
          (⟨(some 32), .fieldAddr 1 (.t 31), some (some 28, false)⟩, []),
          (⟨(some 33), .load false 1 (.t 32), some (some 28, false)⟩, []),
          (⟨(some 34), .move (.t 1), some (some 28, false)⟩, []),
          (⟨(some 35), .move (.t 5), some (some 28, false)⟩, []),
          (⟨(some 36), .indexAddr 3 (.t 34) (.t 35), some (some 28, false)⟩, []),
          (⟨(some 37), .fieldAddr 1 (.t 36), some (some 28, false)⟩, []),
          (⟨(some 38), .load false 1 (.t 37), some (some 28, false)⟩, []),
          (⟨(some 39), .bin .neq (.t 33) (.t 38), some (some 28, false)⟩, []),
          (⟨(some 40), .pick (.t 28) (.c (.bool true)) (.t 39), none⟩, [])])
        (.cond (.t 40)
          (.seq
          (.region [
            ⟨(some 4), .move (.c (.bool false)), none⟩])
          .ret)
          .skip)))
      (.region [
        ⟨(some 15), .move (.t 5), none⟩,
        ⟨(some 16), .bin .add (.t 15) (.c (.int .i64 1)), none⟩,
        ⟨(some 5), .move (.t 16), none⟩]))))))
  (.seq
  (.region [
    ⟨(some 4), .move (.c (.bool true)), none⟩])
  .ret))))⟩

/-- warehouseref5_Same, and what it calls. -/
structure F_warehouseref5_Same (P : Program) where
  id : FuncId
  has : Has P id [] c_warehouseref5_Same

/-- The code of warehouseref5_Widen. -/
def c_warehouseref5_Widen : AFunc := ⟨38, [.tmp 4],
  (.seq
  (.region [
    ⟨(some 4), .move (.c .nil), none⟩])
  (.seq
  (.region [
    ⟨(some 7), .move (.t 0), none⟩,
    ⟨(some 8), .append 3 32 [(.str (bs [])), (.int .i64 0), (.bool false)] (.c .nil) (.t 7), none⟩,
    ⟨(some 5), .move (.t 8), none⟩])
  (.seq
  (.seq
  (.region [
    ⟨(some 6), .move (.c (.int .i64 0)), none⟩])
  (.block 0
    (.loop
      (.seq
      (.seq
      (.region [
        ⟨(some 9), .move (.t 6), none⟩,
        ⟨(some 10), .move (.t 5), none⟩,
        ⟨(some 11), .len (.t 10), none⟩,
        ⟨(some 12), .bin .lss (.t 9) (.t 11), none⟩,
        ⟨(some 13), .move (.t 12), none⟩,
        ⟨(some 14), .move (.t 6), some (some 13, true)⟩,
        ⟨(some 15), .move (.t 1), some (some 13, true)⟩,
        ⟨(some 16), .len (.t 15), some (some 13, true)⟩,
        ⟨(some 17), .bin .lss (.t 14) (.t 16), some (some 13, true)⟩,
        ⟨(some 18), .pick (.t 13) (.t 17) (.c (.bool false)), none⟩])
      (.cond (.t 18)
        .skip
        (.exit 0)))
      (.seq
      (.block 1
        (.region [
          ⟨(some 21), .move (.t 5), none⟩,
          ⟨(some 22), .move (.t 6), none⟩,
          ⟨(some 23), .move (.t 5), none⟩,
          ⟨(some 24), .move (.t 6), none⟩,
          ⟨(some 25), .indexAddr 3 (.t 23) (.t 24), none⟩,
          ⟨(some 26), .fieldAddr 2 (.t 25), none⟩,
          ⟨(some 27), .load false 1 (.t 26), none⟩,
          ⟨(some 28), .move (.t 27), none⟩,
          ⟨(some 29), .move (.t 1), some (some 28, false)⟩,
          ⟨(some 30), .move (.t 6), some (some 28, false)⟩,
          ⟨(some 31), .indexAddr 3 (.t 29) (.t 30), some (some 28, false)⟩,
          ⟨(some 32), .fieldAddr 2 (.t 31), some (some 28, false)⟩,
          ⟨(some 33), .load false 1 (.t 32), some (some 28, false)⟩,
          ⟨(some 34), .pick (.t 28) (.c (.bool true)) (.t 33), none⟩,
          ⟨(some 35), .indexAddr 3 (.t 21) (.t 22), none⟩,
          ⟨(some 36), .fieldAddr 2 (.t 35), none⟩,
          ⟨none, .store 1 (.t 36) (.t 34), none⟩]))
      (.region [
        ⟨(some 19), .move (.t 6), none⟩,
        ⟨(some 20), .bin .add (.t 19) (.c (.int .i64 1)), none⟩,
        ⟨(some 6), .move (.t 20), none⟩]))))))
  (.seq
  (.region [
    ⟨(some 37), .move (.t 5), none⟩,
    ⟨(some 4), .move (.t 37), none⟩])
  .ret))))⟩

/-- warehouseref5_Widen, and what it calls. -/
structure F_warehouseref5_Widen (P : Program) where
  id : FuncId
  has : Has P id [] c_warehouseref5_Widen

/-- The code of warehouselaw5_SchemaWidens. -/
def c_warehouselaw5_SchemaWidens (f_warehouselaw5_known : FuncId) (f_warehousebase_Columns : FuncId) (f_schema_Widen : FuncId) (f_schema_Same : FuncId) (f_warehouseref5_Same : FuncId) (f_warehouseref5_Widen : FuncId) (f_warehouseref5_Equal : FuncId) : AFunc := ⟨106, [.tmp 10],
  (.seq
  (.region [
    ⟨(some 10), .move (.c (.bool false)), none⟩])
  (.seq
  (.seq
  (.region [
    ⟨(some 15), .move (.t 0), none⟩,
    ⟨(some 16), .len (.t 15), none⟩,
    ⟨(some 17), .bin .gtr (.t 16) (.c (.int .i64 50)), none⟩,
    ⟨(some 18), .move (.t 17), none⟩,
    ⟨(some 19), .move (.t 1), some (some 18, false)⟩,
    ⟨(some 20), .len (.t 19), some (some 18, false)⟩,
    ⟨(some 21), .bin .gtr (.t 20) (.c (.int .i64 50)), some (some 18, false)⟩,
    ⟨(some 22), .pick (.t 18) (.c (.bool true)) (.t 21), none⟩])
  (.cond (.t 22)
    (.seq
    (.region [
      ⟨(some 23), .call f_warehouselaw5_known [], none⟩,
      ⟨(some 10), .move (.t 23), none⟩])
    .ret)
    .skip))
  (.seq
  (.region [
    ⟨(some 24), .move (.t 2), none⟩,
    ⟨(some 25), .move (.t 4), none⟩,
    ⟨(some 26), .bin .and (.t 25) (.c (.int .i64 3)), none⟩,
    ⟨(some 27), .call f_warehousebase_Columns [(.t 24), (.t 26)], none⟩,
    ⟨(some 28), .move (.t 3), none⟩,
    ⟨(some 29), .move (.t 4), none⟩,
    ⟨(some 30), .bin .shr (.t 29) (.c (.int .u64 2)), none⟩,
    ⟨(some 31), .bin .and (.t 30) (.c (.int .i64 3)), none⟩,
    ⟨(some 32), .call f_warehousebase_Columns [(.t 28), (.t 31)], none⟩,
    ⟨(some 11), .move (.t 27), none⟩,
    ⟨(some 12), .move (.t 32), none⟩])
  (.seq
  (.region [
    ⟨(some 33), .move (.t 11), none⟩,
    ⟨(some 34), .move (.t 12), none⟩,
    ⟨(some 35), .call f_schema_Widen [(.t 33), (.t 34)], none⟩,
    ⟨(some 13), .move (.t 35), none⟩])
  (.seq
  (.seq
  (.region [
    ⟨(some 36), .move (.t 11), none⟩,
    ⟨(some 37), .move (.t 13), none⟩,
    ⟨(some 38), .call f_schema_Same [(.t 36), (.t 37)], none⟩,
    ⟨(some 39), .un .not (.t 38), none⟩,
    ⟨(some 40), .move (.t 39), none⟩,
    ⟨(some 41), .move (.t 13), some (some 40, false)⟩,
    ⟨(some 42), .len (.t 41), some (some 40, false)⟩,
    ⟨(some 43), .move (.t 11), some (some 40, false)⟩,
    ⟨(some 44), .len (.t 43), some (some 40, false)⟩,
    ⟨(some 45), .bin .neq (.t 42) (.t 44), some (some 40, false)⟩,
    ⟨(some 46), .pick (.t 40) (.c (.bool true)) (.t 45), none⟩])
  (.cond (.t 46)
    (.seq
    (.region [
      ⟨(some 10), .move (.c (.bool false)), none⟩])
    .ret)
    .skip))
  (.seq
  (.seq
  (.region [
    ⟨(some 14), .move (.c (.int .i64 0)), none⟩])
  (.block 0
    (.loop
      (.seq
      (.seq
      (.region [
        ⟨(some 47), .move (.t 14), none⟩,
        ⟨(some 48), .move (.t 13), none⟩,
        ⟨(some 49), .len (.t 48), none⟩,
        ⟨(some 50), .bin .lss (.t 47) (.t 49), none⟩])
      (.cond (.t 50)
        .skip
        (.exit 0)))
      (.seq
      (.block 1
        (.seq
        (.region [
          ⟨(some 53), .move (.t 11), none⟩,
          ⟨(some 54), .move (.t 14), none⟩,
          ⟨(some 55), .indexAddr 3 (.t 53) (.t 54), none⟩,
          ⟨(some 56), .fieldAddr 2 (.t 55), none⟩,
          ⟨(some 57), .load false 1 (.t 56), none⟩,
          ⟨(some 58), .move (.t 57), none⟩,
          ⟨(some 59), .move (.t 13), some (some 58, true)⟩,
          ⟨(some 60), .move (.t 14), some (some 58, true)⟩,
          ⟨(some 61), .indexAddr 3 (.t 59) (.t 60), some (some 58, true)⟩,
          ⟨(some 62), .fieldAddr 2 (.t 61), some (some 58, true)⟩,
          ⟨(some 63), .load false 1 (.t 62), some (some 58, true)⟩,
          ⟨(some 64), .un .not (.t 63), some (some 58, true)⟩,
          ⟨(some 65), .pick (.t 58) (.t 64) (.c (.bool false)), none⟩])
        (.cond (.t 65)
          (.seq
          (.region [
            ⟨(some 10), .move (.c (.bool false)), none⟩])
          .ret)
          .skip)))
      (.region [
        ⟨(some 51), .move (.t 14), none⟩,
        ⟨(some 52), .bin .add (.t 51) (.c (.int .i64 1)), none⟩,
        ⟨(some 14), .move (.t 52), none⟩]))))))
  (.seq
  (.region [
    ⟨(some 66), .move (.t 0), none⟩,
    ⟨(some 67), .move (.t 1), none⟩,
    ⟨(some 68), .call f_schema_Same [(.t 66), (.t 67)], none⟩,
    ⟨(some 69), .move (.t 0), none⟩,
    ⟨(some 70), .move (.t 1), none⟩,
    ⟨(some 71), .call f_warehouseref5_Same [(.t 69), (.t 70)], none⟩,
    ⟨(some 72), .eqb false (.t 68) (.t 71), none⟩,
    ⟨(some 73), .move (.t 72), none⟩,
    ⟨(some 74), .move (.t 11), some (some 73, true)⟩,
    ⟨(some 75), .move (.t 12), some (some 73, true)⟩,
    ⟨(some 76), .call f_schema_Same [(.t 74), (.t 75)], some (some 73, true)⟩,
    ⟨(some 77), .move (.t 11), some (some 73, true)⟩,
    ⟨(some 78), .move (.t 12), some (some 73, true)⟩,
    ⟨(some 79), .call f_warehouseref5_Same [(.t 77), (.t 78)], some (some 73, true)⟩,
    ⟨(some 80), .eqb false (.t 76) (.t 79), some (some 73, true)⟩,
    ⟨(some 81), .pick (.t 73) (.t 80) (.c (.bool false)), none⟩,
    ⟨(some 82), .move (.t 81), none⟩,
    ⟨(some 83), .move (.t 0), some (some 82, true)⟩,
    ⟨(some 84), .move (.t 0), some (some 82, true)⟩,
    ⟨(some 85), .call f_schema_Same [(.t 83), (.t 84)], some (some 82, true)⟩,
    ⟨(some 86), .pick (.t 82) (.t 85) (.c (.bool false)), none⟩,
    ⟨(some 87), .move (.t 86), none⟩,
    ⟨(some 88), .move (.t 0), some (some 87, true)⟩,
    ⟨(some 89), .move (.t 1), some (some 87, true)⟩,
    ⟨(some 90), .call f_schema_Widen [(.t 88), (.t 89)], some (some 87, true)⟩,
    ⟨(some 91), .move (.t 0), some (some 87, true)⟩,
    ⟨(some 92), .move (.t 1), some (some 87, true)⟩,
    ⟨(some 93), .call f_warehouseref5_Widen [(.t 91), (.t 92)], some (some 87, true)⟩,
    ⟨(some 94), .call f_warehouseref5_Equal [(.t 90), (.t 93)], some (some 87, true)⟩,
    ⟨(some 95), .pick (.t 87) (.t 94) (.c (.bool false)), none⟩,
    ⟨(some 96), .move (.t 95), none⟩,
    ⟨(some 97), .move (.t 13), some (some 96, true)⟩,
    ⟨(some 98), .move (.t 11), some (some 96, true)⟩,
    ⟨(some 99), .move (.t 12), some (some 96, true)⟩,
    ⟨(some 100), .call f_warehouseref5_Widen [(.t 98), (.t 99)], some (some 96, true)⟩,
    ⟨(some 101), .call f_warehouseref5_Equal [(.t 97), (.t 100)], some (some 96, true)⟩,
    ⟨(some 102), .pick (.t 96) (.t 101) (.c (.bool false)), none⟩,
    ⟨(some 103), .move (.t 102), none⟩,
    ⟨(some 104), .call f_warehouselaw5_known [], some (some 103, true)⟩,
    ⟨(some 105), .pick (.t 103) (.t 104) (.c (.bool false)), none⟩,
    ⟨(some 10), .move (.t 105), none⟩])
  .ret)))))))⟩

/-- warehouselaw5_SchemaWidens, and what it calls. -/
structure F_warehouselaw5_SchemaWidens (P : Program) where
  id : FuncId
  warehouselaw5_known : F_warehouselaw5_known P
  warehousebase_Columns : F_warehousebase_Columns P
  schema_Widen : F_schema_Widen P
  schema_Same : F_schema_Same P
  warehouseref5_Same : F_warehouseref5_Same P
  warehouseref5_Widen : F_warehouseref5_Widen P
  warehouseref5_Equal : F_warehouseref5_Equal P
  has : Has P id [] (c_warehouselaw5_SchemaWidens warehouselaw5_known.id warehousebase_Columns.id schema_Widen.id schema_Same.id warehouseref5_Same.id warehouseref5_Widen.id warehouseref5_Equal.id)

/-- The code of bytealg_Cutover. -/
def c_bytealg_Cutover : AFunc := ⟨6, [.tmp 2],
  (.seq
  (.region [
    ⟨(some 2), .move (.c (.int .i64 0)), none⟩])
  (.seq
  (.region [
    ⟨(some 3), .move (.t 0), none⟩,
    ⟨(some 4), .bin .add (.t 3) (.c (.int .i64 16)), none⟩,
    ⟨(some 5), .bin .quo (.t 4) (.c (.int .i64 8)), none⟩,
    ⟨(some 2), .move (.t 5), none⟩])
  .ret))⟩

/-- bytealg_Cutover, and what it calls. -/
structure F_bytealg_Cutover (P : Program) where
  id : FuncId
  has : Has P id [] c_bytealg_Cutover


end Go.AW
