/-
  An abstract machine over the model, the code of functions on it, and their contracts: what the claim needs.
  No condition: definitions, plain laws, contracts over any program that has this code.
-/
import Derived.Test.YtiigcfeklofcaaaZ3
set_option linter.all false
namespace Go.AW
def c_batch_Validate (f_schema_IsName : FuncId) (f_schema_IsQualified : FuncId) (f_value_Encode : FuncId) : AFunc := ⟨46, [.tmp 2],
  (.seq
  (.region [
    ⟨(some 1), .box (.t 0), none⟩,
    ⟨(some 2), .move (.c (.int .i64 0)), none⟩])
  (.seq
  (.seq
  (.region [
    ⟨(some 7), .fieldAddr 0 (.t 1), none⟩,
    ⟨(some 8), .load false 1 (.t 7), none⟩,
    ⟨(some 9), .call f_schema_IsName [(.t 8)], none⟩,
    ⟨(some 10), .un .not (.t 9), none⟩,
    ⟨(some 11), .move (.t 10), none⟩,
    ⟨(some 12), .fieldAddr 1 (.t 1), some (some 11, false)⟩,
    ⟨(some 13), .load false 1 (.t 12), some (some 11, false)⟩,
    ⟨(some 14), .call f_schema_IsQualified [(.t 13)], some (some 11, false)⟩,
    ⟨(some 15), .un .not (.t 14), some (some 11, false)⟩,
    ⟨(some 16), .pick (.t 11) (.c (.bool true)) (.t 15), none⟩])
  (.cond (.t 16)
    (.seq
    (.region [
      ⟨(some 2), .move (.c (.int .i64 4)), none⟩])
    .ret)
    .skip))
  (.seq
  (.seq
  (.region [
    ⟨(some 17), .fieldAddr 2 (.t 1), none⟩,
    ⟨(some 18), .load false 1 (.t 17), none⟩,
    ⟨(some 19), .len (.t 18), none⟩,
    ⟨(some 20), .bin .gtr (.t 19) (.c (.int .i64 1024)), none⟩])
  (.cond (.t 20)
    (.seq
    (.region [
      ⟨(some 2), .move (.c (.int .i64 2)), none⟩])
    .ret)
    .skip))
  (.seq
  (.seq
  (.region [
    ⟨(some 21), .fieldAddr 2 (.t 1), none⟩,
    ⟨(some 22), .load false 1 (.t 21), none⟩,
    ⟨(some 23), .len (.t 22), none⟩,
    ⟨(some 24), .move (.c (.int .i64 0)), none⟩])
  (.block 0
    (.loop
      (.seq
      (.region [
        ⟨(some 25), .bin .lss (.t 24) (.t 23), none⟩])
      (.seq
      (.cond (.t 25)
        .skip
        (.exit 0))
      (.seq
      (.block 1
        (.seq
        (.region [
          ⟨(some 26), .indexAddr 3 (.t 22) (.t 24), none⟩,
          ⟨(some 27), .load true 3 (.t 26), none⟩,
          ⟨(some 4), .alloc [(.bool false), (.int .i64 0), .nil], none⟩,
          ⟨none, .store 3 (.t 4) (.t 27), none⟩])
        (.seq
        (.seq
        (.region [
          ⟨(some 28), .fieldAddr 1 (.t 4), none⟩,
          ⟨(some 29), .load false 1 (.t 28), none⟩,
          ⟨(some 30), .bin .lss (.t 29) (.c (.int .i64 0)), none⟩,
          ⟨(some 31), .move (.t 30), none⟩,
          ⟨(some 32), .fieldAddr 1 (.t 4), some (some 31, false)⟩,
          ⟨(some 33), .load false 1 (.t 32), some (some 31, false)⟩,
          ⟨(some 34), .bin .gtr (.t 33) (.c (.int .i64 1073741824)), some (some 31, false)⟩,
          ⟨(some 35), .pick (.t 31) (.c (.bool true)) (.t 34), none⟩])
        (.cond (.t 35)
          (.seq
          (.region [
            ⟨(some 2), .move (.c (.int .i64 1)), none⟩])
          .ret)
          .skip))
        (.seq
        (.region [
          ⟨(some 37), .fieldAddr 2 (.t 4), none⟩,
          ⟨(some 38), .load false 1 (.t 37), none⟩,
          ⟨(some 39), .call f_value_Encode [(.t 38)], none⟩,
          ⟨(some 36), .move (.t 39), none⟩,
          ⟨(some 40), .extract (.t 36) 0, none⟩,
          ⟨(some 41), .extract (.t 36) 1, none⟩,
          ⟨(some 5), .move (.t 40), none⟩,
          ⟨(some 6), .move (.t 41), none⟩])
        (.seq
        (.region [
          ⟨(some 42), .move (.t 6), none⟩,
          ⟨(some 43), .bin .neq (.t 42) (.c (.int .i64 0)), none⟩])
        (.cond (.t 43)
          (.seq
          (.region [
            ⟨(some 44), .move (.t 6), none⟩,
            ⟨(some 2), .move (.t 44), none⟩])
          .ret)
          .skip))))))
      (.region [
        ⟨(some 45), .bin .add (.t 24) (.c (.int .i64 1)), none⟩,
        ⟨(some 24), .move (.t 45), none⟩])))))))
  (.seq
  (.region [
    ⟨(some 2), .move (.c (.int .i64 0)), none⟩])
  .ret)))))⟩

structure F_batch_Validate (P : Program) where
  id : FuncId
  schema_IsName : F_schema_IsName P
  schema_IsQualified : F_schema_IsQualified P
  value_Encode : F_value_Encode P
  has : Has P id [] (c_batch_Validate schema_IsName.id schema_IsQualified.id value_Encode.id)

def c_batch_putText : AFunc := ⟨13, [.tmp 4],
  (.seq
  (.region [
    ⟨(some 4), .move (.c .nil), none⟩])
  (.seq
  (.region [
    ⟨(some 5), .move (.t 0), none⟩,
    ⟨(some 6), .move (.t 1), none⟩,
    ⟨(some 7), .lenS (.t 6), none⟩,
    ⟨(some 8), .conv .u8 (.t 7), none⟩,
    ⟨(some 9), .buildSlice 1 1 [(.int .u8 0)] [(0, (.t 8))], none⟩,
    ⟨(some 10), .append 1 1 [(.int .u8 0)] (.t 5) (.t 9), none⟩,
    ⟨(some 11), .move (.t 1), none⟩,
    ⟨(some 12), .append 1 1 [(.int .u8 0)] (.t 10) (.t 11), none⟩,
    ⟨(some 4), .move (.t 12), none⟩])
  .ret))⟩

structure F_batch_putText (P : Program) where
  id : FuncId
  has : Has P id [] c_batch_putText

def c_batch_put2 : AFunc := ⟨13, [.tmp 4],
  (.seq
  (.region [
    ⟨(some 4), .move (.c .nil), none⟩])
  (.seq
  (.region [
    ⟨(some 5), .move (.t 0), none⟩,
    ⟨(some 6), .move (.t 1), none⟩,
    ⟨(some 7), .bin .shr (.t 6) (.c (.int .u64 8)), none⟩,
    ⟨(some 8), .conv .u8 (.t 7), none⟩,
    ⟨(some 9), .move (.t 1), none⟩,
    ⟨(some 10), .conv .u8 (.t 9), none⟩,
    ⟨(some 11), .buildSlice 1 2 [(.int .u8 0)] [(0, (.t 8)), (1, (.t 10))], none⟩,
    ⟨(some 12), .append 1 1 [(.int .u8 0)] (.t 5) (.t 11), none⟩,
    ⟨(some 4), .move (.t 12), none⟩])
  .ret))⟩

structure F_batch_put2 (P : Program) where
  id : FuncId
  has : Has P id [] c_batch_put2

def c_batch_put4 (f_batch_put2 : FuncId) : AFunc := ⟨17, [.tmp 4],
  (.seq
  (.region [
    ⟨(some 4), .move (.c .nil), none⟩])
  (.seq
  (.region [
    ⟨(some 5), .move (.t 0), none⟩,
    ⟨(some 6), .move (.t 1), none⟩,
    ⟨(some 7), .bin .shr (.t 6) (.c (.int .u64 16)), none⟩,
    ⟨(some 8), .conv .i64 (.t 7), none⟩,
    ⟨(some 9), .call f_batch_put2 [(.t 5), (.t 8)], none⟩,
    ⟨(some 10), .move (.t 1), none⟩,
    ⟨(some 11), .bin .shr (.t 10) (.c (.int .u64 8)), none⟩,
    ⟨(some 12), .conv .u8 (.t 11), none⟩,
    ⟨(some 13), .move (.t 1), none⟩,
    ⟨(some 14), .conv .u8 (.t 13), none⟩,
    ⟨(some 15), .buildSlice 1 2 [(.int .u8 0)] [(0, (.t 12)), (1, (.t 14))], none⟩,
    ⟨(some 16), .append 1 1 [(.int .u8 0)] (.t 9) (.t 15), none⟩,
    ⟨(some 4), .move (.t 16), none⟩])
  .ret))⟩

structure F_batch_put4 (P : Program) where
  id : FuncId
  batch_put2 : F_batch_put2 P
  has : Has P id [] (c_batch_put4 batch_put2.id)

def c_batch_putRecord (f_value_Encode : FuncId) (f_batch_put4 : FuncId) (f_batch_put2 : FuncId) : AFunc := ⟨30, [.tmp 4],
  (.seq
  (.region [
    ⟨(some 3), .box (.t 1), none⟩,
    ⟨(some 4), .move (.c .nil), none⟩])
  (.seq
  (.region [
    ⟨(some 9), .fieldAddr 2 (.t 3), none⟩,
    ⟨(some 10), .load false 1 (.t 9), none⟩,
    ⟨(some 11), .call f_value_Encode [(.t 10)], none⟩,
    ⟨(some 8), .move (.t 11), none⟩,
    ⟨(some 12), .extract (.t 8) 0, none⟩,
    ⟨(some 13), .extract (.t 8) 1, none⟩,
    ⟨(some 5), .move (.t 12), none⟩,
    ⟨(some 6), .move (.t 13), none⟩])
  (.seq
  (.region [
    ⟨(some 7), .move (.c (.int .u8 0)), none⟩])
  (.seq
  (.seq
  (.region [
    ⟨(some 14), .fieldAddr 0 (.t 3), none⟩,
    ⟨(some 15), .load false 1 (.t 14), none⟩])
  (.cond (.t 15)
    (.region [
      ⟨(some 7), .move (.c (.int .u8 1)), none⟩])
    .skip))
  (.seq
  (.draw [
    (⟨(some 16), .move (.t 0), none⟩, []),
    (⟨(some 17), .move (.t 7), none⟩, []),
    (⟨(some 18), .buildSlice 1 1 [(.int .u8 0)] [(0, (.t 17))], none⟩, []),
    (⟨(some 19), .append 1 1 [(.int .u8 0)] (.t 16) (.t 18), none⟩, []),
    (⟨(some 20), .fieldAddr 1 (.t 3), none⟩, []),
    (⟨(some 21), .load false 1 (.t 20), none⟩, [9]),
    (⟨(some 22), .conv .u32 (.t 21), none⟩, []),
    (⟨(some 23), .callE f_batch_put4 [(.t 19), (.t 22)], none⟩, []),
    (⟨(some 0), .move (.t 23), none⟩, [])])
  (.seq
  (.region [
    ⟨(some 24), .move (.t 0), none⟩,
    ⟨(some 25), .move (.t 5), none⟩,
    ⟨(some 26), .len (.t 25), none⟩,
    ⟨(some 27), .call f_batch_put2 [(.t 24), (.t 26)], none⟩,
    ⟨(some 28), .move (.t 5), none⟩,
    ⟨(some 29), .append 1 1 [(.int .u8 0)] (.t 27) (.t 28), none⟩,
    ⟨(some 4), .move (.t 29), none⟩])
  .ret))))))⟩

structure F_batch_putRecord (P : Program) where
  id : FuncId
  value_Encode : F_value_Encode P
  batch_put4 : F_batch_put4 P
  batch_put2 : F_batch_put2 P
  has : Has P id [23] (c_batch_putRecord value_Encode.id batch_put4.id batch_put2.id)

def c_batch_Checksum : AFunc := ⟨19, [.tmp 2],
  (.seq
  (.region [
    ⟨(some 2), .move (.c (.int .u32 0)), none⟩])
  (.seq
  (.region [
    ⟨(some 3), .move (.c (.int .u32 2166136261)), none⟩])
  (.seq
  (.seq
  (.region [
    ⟨(some 6), .move (.t 0), none⟩,
    ⟨(some 7), .len (.t 6), none⟩,
    ⟨(some 8), .move (.c (.int .i64 0)), none⟩])
  (.block 0
    (.loop
      (.seq
      (.region [
        ⟨(some 9), .bin .lss (.t 8) (.t 7), none⟩])
      (.seq
      (.cond (.t 9)
        .skip
        (.exit 0))
      (.seq
      (.block 1
        (.seq
        (.region [
          ⟨(some 10), .indexAddr 1 (.t 6) (.t 8), none⟩,
          ⟨(some 11), .load false 1 (.t 10), none⟩,
          ⟨(some 5), .move (.t 11), none⟩])
        (.region [
          ⟨(some 12), .move (.t 3), none⟩,
          ⟨(some 13), .move (.t 5), none⟩,
          ⟨(some 14), .conv .u32 (.t 13), none⟩,
          ⟨(some 15), .bin .xor (.t 12) (.t 14), none⟩,
          ⟨(some 16), .bin .mul (.t 15) (.c (.int .u32 16777619)), none⟩,
          ⟨(some 3), .move (.t 16), none⟩])))
      (.region [
        ⟨(some 17), .bin .add (.t 8) (.c (.int .i64 1)), none⟩,
        ⟨(some 8), .move (.t 17), none⟩])))))))
  (.seq
  (.region [
    ⟨(some 18), .move (.t 3), none⟩,
    ⟨(some 2), .move (.t 18), none⟩])
  .ret))))⟩

structure F_batch_Checksum (P : Program) where
  id : FuncId
  has : Has P id [] c_batch_Checksum

def c_batch_Encode (f_batch_Validate : FuncId) (f_batch_putText : FuncId) (f_batch_put2 : FuncId) (f_batch_putRecord : FuncId) (f_batch_Checksum : FuncId) (f_batch_put4 : FuncId) : AFunc := ⟨45, [.tmp 2, .tmp 3],
  (.seq
  (.region [
    ⟨(some 1), .box (.t 0), none⟩,
    ⟨(some 2), .move (.c .nil), none⟩,
    ⟨(some 3), .move (.c (.int .i64 0)), none⟩])
  (.seq
  (.seq
  (.region [
    ⟨(some 8), .load true 3 (.t 1), none⟩,
    ⟨(some 9), .call f_batch_Validate [(.t 8)], none⟩,
    ⟨(some 4), .move (.t 9), none⟩])
  (.seq
  (.region [
    ⟨(some 10), .move (.t 4), none⟩,
    ⟨(some 11), .bin .neq (.t 10) (.c (.int .i64 0)), none⟩])
  (.cond (.t 11)
    (.seq
    (.region [
      ⟨(some 12), .move (.t 4), none⟩,
      ⟨(some 2), .move (.c .nil), none⟩,
      ⟨(some 3), .move (.t 12), none⟩])
    .ret)
    .skip)))
  (.seq
  (.draw [
    (⟨(some 13), .buildSliceO 1 4 [(.int .u8 0)] [(0, (.c (.int .u8 87))), (1, (.c (.int .u8 72))), (2, (.c (.int .u8 70))), (3, (.c (.int .u8 49)))], none⟩, []),
    (⟨(some 14), .mark (.t 13), none⟩, []),
    (⟨(some 15), .fieldAddr 0 (.t 1), none⟩, []),
    (⟨(some 16), .load false 1 (.t 15), none⟩, [9, 8]),
    (⟨(some 17), .callE f_batch_putText [(.t 14), (.t 16)], none⟩, []),
    (⟨(some 18), .fieldAddr 1 (.t 1), none⟩, []),
    (⟨(some 19), .load false 1 (.t 18), none⟩, [9, 8, 7]),
    (⟨(some 20), .callE f_batch_putText [(.t 17), (.t 19)], none⟩, []),
    (⟨(some 5), .move (.t 20), none⟩, [])])
  (.seq
  (.region [
    ⟨(some 21), .move (.t 5), none⟩,
    ⟨(some 22), .fieldAddr 2 (.t 1), none⟩,
    ⟨(some 23), .load false 1 (.t 22), none⟩,
    ⟨(some 24), .len (.t 23), none⟩,
    ⟨(some 25), .call f_batch_put2 [(.t 21), (.t 24)], none⟩,
    ⟨(some 5), .move (.t 25), none⟩])
  (.seq
  (.seq
  (.region [
    ⟨(some 26), .fieldAddr 2 (.t 1), none⟩,
    ⟨(some 27), .load false 1 (.t 26), none⟩,
    ⟨(some 28), .len (.t 27), none⟩,
    ⟨(some 29), .move (.c (.int .i64 0)), none⟩])
  (.block 0
    (.loop
      (.seq
      (.region [
        ⟨(some 30), .bin .lss (.t 29) (.t 28), none⟩])
      (.seq
      (.cond (.t 30)
        .skip
        (.exit 0))
      (.seq
      (.block 1
        (.seq
        (.region [
          ⟨(some 31), .indexAddr 3 (.t 27) (.t 29), none⟩,
          ⟨(some 32), .load true 3 (.t 31), none⟩,
          ⟨(some 7), .alloc [(.bool false), (.int .i64 0), .nil], none⟩,
          ⟨none, .store 3 (.t 7) (.t 32), none⟩])
        (.region [
          ⟨(some 33), .move (.t 5), none⟩,
          ⟨(some 34), .load true 3 (.t 7), none⟩,
          ⟨(some 35), .call f_batch_putRecord [(.t 33), (.t 34)], none⟩,
          ⟨(some 5), .move (.t 35), none⟩])))
      (.region [
        ⟨(some 36), .bin .add (.t 29) (.c (.int .i64 1)), none⟩,
        ⟨(some 29), .move (.t 36), none⟩])))))))
  (.seq
  (.region [
    ⟨(some 37), .move (.t 5), none⟩,
    ⟨(some 38), .move (.t 5), none⟩,
    ⟨(some 39), .call f_batch_Checksum [(.t 38)], none⟩,
    ⟨(some 40), .call f_batch_put4 [(.t 37), (.t 39)], none⟩,
    ⟨(some 5), .move (.t 40), none⟩])
  (.seq
  (.seq
  (.region [
    ⟨(some 41), .move (.t 5), none⟩,
    ⟨(some 42), .len (.t 41), none⟩,
    ⟨(some 43), .bin .gtr (.t 42) (.c (.int .i64 65536)), none⟩])
  (.cond (.t 43)
    (.seq
    (.region [
      ⟨(some 2), .move (.c .nil), none⟩,
      ⟨(some 3), .move (.c (.int .i64 2)), none⟩])
    .ret)
    .skip))
  (.seq
  (.region [
    ⟨(some 44), .move (.t 5), none⟩,
    ⟨(some 2), .move (.t 44), none⟩,
    ⟨(some 3), .move (.c (.int .i64 0)), none⟩])
  .ret))))))))⟩

structure F_batch_Encode (P : Program) where
  id : FuncId
  batch_Validate : F_batch_Validate P
  batch_putText : F_batch_putText P
  batch_put2 : F_batch_put2 P
  batch_putRecord : F_batch_putRecord P
  batch_Checksum : F_batch_Checksum P
  batch_put4 : F_batch_put4 P
  has : Has P id [13, 17, 20] (c_batch_Encode batch_Validate.id batch_putText.id batch_put2.id batch_putRecord.id batch_Checksum.id batch_put4.id)

def c_bytes_Equal : AFunc := ⟨10, [.tmp 4],
  (.seq
  (.region [
    ⟨(some 4), .move (.c (.bool false)), none⟩])
  (.seq
  (.region [
    ⟨(some 5), .move (.t 0), none⟩,
    ⟨(some 6), .convBS (.t 5), none⟩,
    ⟨(some 7), .move (.t 1), none⟩,
    ⟨(some 8), .convBS (.t 7), none⟩,
    ⟨(some 9), .bin .eql (.t 6) (.t 8), none⟩,
    ⟨(some 4), .move (.t 9), none⟩])
  .ret))⟩

structure F_bytes_Equal (P : Program) where
  id : FuncId
  has : Has P id [] c_bytes_Equal

def c_batch_reader_take : AFunc := ⟨38, [.tmp 4],
  (.seq
  (.region [
    ⟨(some 4), .move (.c .nil), none⟩])
  (.seq
  (.seq
  (.region [
    ⟨(some 6), .move (.t 0), none⟩,
    ⟨(some 7), .nop (.t 6), none⟩,
    ⟨(some 8), .fieldAddr 1 (.t 7), none⟩,
    ⟨(some 9), .load false 1 (.t 8), none⟩,
    ⟨(some 10), .move (.t 9), none⟩,
    ⟨(some 11), .move (.t 1), some (some 10, false)⟩,
    ⟨(some 12), .move (.t 0), some (some 10, false)⟩,
    ⟨(some 13), .nop (.t 12), some (some 10, false)⟩,
    ⟨(some 14), .fieldAddr 0 (.t 13), some (some 10, false)⟩,
    ⟨(some 15), .load false 1 (.t 14), some (some 10, false)⟩,
    ⟨(some 16), .len (.t 15), some (some 10, false)⟩,
    ⟨(some 17), .bin .gtr (.t 11) (.t 16), some (some 10, false)⟩,
    ⟨(some 18), .pick (.t 10) (.c (.bool true)) (.t 17), none⟩])
  (.cond (.t 18)
    (.seq
    (.region [
      ⟨(some 19), .move (.t 0), none⟩,
      ⟨(some 20), .nop (.t 19), none⟩,
      ⟨(some 21), .fieldAddr 1 (.t 20), none⟩,
      ⟨none, .store 1 (.t 21) (.c (.bool true)), none⟩])
    (.seq
    (.region [
      ⟨(some 4), .move (.c .nil), none⟩])
    .ret))
    .skip))
  (.seq
  (.region [
    ⟨(some 22), .move (.t 0), none⟩,
    ⟨(some 23), .nop (.t 22), none⟩,
    ⟨(some 24), .fieldAddr 0 (.t 23), none⟩,
    ⟨(some 25), .load false 1 (.t 24), none⟩,
    ⟨(some 26), .move (.t 1), none⟩,
    ⟨(some 27), .slice 1 (.t 25) none (some (.t 26)), none⟩,
    ⟨(some 5), .move (.t 27), none⟩])
  (.seq
  (.region [
    ⟨(some 28), .move (.t 0), none⟩,
    ⟨(some 29), .move (.t 0), none⟩,
    ⟨(some 30), .nop (.t 29), none⟩,
    ⟨(some 31), .fieldAddr 0 (.t 30), none⟩,
    ⟨(some 32), .load false 1 (.t 31), none⟩,
    ⟨(some 33), .move (.t 1), none⟩,
    ⟨(some 34), .slice 1 (.t 32) (some (.t 33)) none, none⟩,
    ⟨(some 35), .nop (.t 28), none⟩,
    ⟨(some 36), .fieldAddr 0 (.t 35), none⟩,
    ⟨none, .store 1 (.t 36) (.t 34), none⟩])
  (.seq
  (.region [
    ⟨(some 37), .move (.t 5), none⟩,
    ⟨(some 4), .move (.t 37), none⟩])
  .ret)))))⟩

structure F_batch_reader_take (P : Program) where
  id : FuncId
  has : Has P id [] c_batch_reader_take

def c_batch_reader_number (f_batch_reader_take : FuncId) : AFunc := ⟨23, [.tmp 4],
  (.seq
  (.region [
    ⟨(some 4), .move (.c (.int .i64 0)), none⟩])
  (.seq
  (.region [
    ⟨(some 5), .move (.c (.int .i64 0)), none⟩])
  (.seq
  (.seq
  (.region [
    ⟨(some 8), .move (.t 0), none⟩,
    ⟨(some 9), .move (.t 1), none⟩,
    ⟨(some 10), .call f_batch_reader_take [(.t 8), (.t 9)], none⟩,
    ⟨(some 11), .len (.t 10), none⟩,
    ⟨(some 12), .move (.c (.int .i64 0)), none⟩])
  (.block 0
    (.loop
      (.seq
      (.region [
        ⟨(some 13), .bin .lss (.t 12) (.t 11), none⟩])
      (.seq
      (.cond (.t 13)
        .skip
        (.exit 0))
      (.seq
      (.block 1
        (.seq
        (.region [
          ⟨(some 14), .indexAddr 1 (.t 10) (.t 12), none⟩,
          ⟨(some 15), .load false 1 (.t 14), none⟩,
          ⟨(some 7), .move (.t 15), none⟩])
        (.region [
          ⟨(some 16), .move (.t 5), none⟩,
          ⟨(some 17), .bin .shl (.t 16) (.c (.int .u64 8)), none⟩,
          ⟨(some 18), .move (.t 7), none⟩,
          ⟨(some 19), .conv .i64 (.t 18), none⟩,
          ⟨(some 20), .bin .or (.t 17) (.t 19), none⟩,
          ⟨(some 5), .move (.t 20), none⟩])))
      (.region [
        ⟨(some 21), .bin .add (.t 12) (.c (.int .i64 1)), none⟩,
        ⟨(some 12), .move (.t 21), none⟩])))))))
  (.seq
  (.region [
    ⟨(some 22), .move (.t 5), none⟩,
    ⟨(some 4), .move (.t 22), none⟩])
  .ret))))⟩

structure F_batch_reader_number (P : Program) where
  id : FuncId
  batch_reader_take : F_batch_reader_take P
  has : Has P id [] (c_batch_reader_number batch_reader_take.id)

def c_batch_reader_text (f_batch_reader_number : FuncId) (f_batch_reader_take : FuncId) : AFunc := ⟨8, [.tmp 2],
  (.seq
  (.region [
    ⟨(some 2), .move (.c (.str (bs []))), none⟩])
  (.seq
  (.region [
    ⟨(some 3), .move (.t 0), none⟩,
    ⟨(some 4), .move (.t 0), none⟩,
    ⟨(some 5), .call f_batch_reader_number [(.t 4), (.c (.int .i64 1))], none⟩,
    ⟨(some 6), .call f_batch_reader_take [(.t 3), (.t 5)], none⟩,
    ⟨(some 7), .convBS (.t 6), none⟩,
    ⟨(some 2), .move (.t 7), none⟩])
  .ret))⟩

structure F_batch_reader_text (P : Program) where
  id : FuncId
  batch_reader_number : F_batch_reader_number P
  batch_reader_take : F_batch_reader_take P
  has : Has P id [] (c_batch_reader_text batch_reader_number.id batch_reader_take.id)

def c_batch_reader_record (f_batch_reader_number : FuncId) (f_batch_reader_take : FuncId) (f_value_Decode : FuncId) : AFunc := ⟨29, [.cell true 3 2],
  (.seq
  (.region [
    ⟨(some 2), .alloc [(.bool false), (.int .i64 0), .nil], none⟩])
  (.seq
  (.region [
    ⟨(some 6), .move (.t 0), none⟩,
    ⟨(some 7), .call f_batch_reader_number [(.t 6), (.c (.int .i64 1))], none⟩,
    ⟨(some 8), .bin .neq (.t 7) (.c (.int .i64 0)), none⟩,
    ⟨(some 9), .build [(.bool false), (.int .i64 0), .nil] [(0, 1, (.t 8))], none⟩,
    ⟨(some 3), .alloc [(.bool false), (.int .i64 0), .nil], none⟩,
    ⟨none, .store 3 (.t 3) (.t 9), none⟩])
  (.seq
  (.region [
    ⟨(some 10), .move (.t 0), none⟩,
    ⟨(some 11), .call f_batch_reader_number [(.t 10), (.c (.int .i64 4))], none⟩,
    ⟨(some 12), .fieldAddr 1 (.t 3), none⟩,
    ⟨none, .store 1 (.t 12) (.t 11), none⟩])
  (.seq
  (.region [
    ⟨(some 14), .move (.t 0), none⟩,
    ⟨(some 15), .move (.t 0), none⟩,
    ⟨(some 16), .call f_batch_reader_number [(.t 15), (.c (.int .i64 2))], none⟩,
    ⟨(some 17), .call f_batch_reader_take [(.t 14), (.t 16)], none⟩,
    ⟨(some 18), .call f_value_Decode [(.t 17)], none⟩,
    ⟨(some 13), .move (.t 18), none⟩,
    ⟨(some 19), .extract (.t 13) 0, none⟩,
    ⟨(some 20), .extract (.t 13) 1, none⟩,
    ⟨(some 4), .move (.t 19), none⟩,
    ⟨(some 5), .move (.t 20), none⟩])
  (.seq
  (.seq
  (.region [
    ⟨(some 21), .move (.t 5), none⟩,
    ⟨(some 22), .bin .neq (.t 21) (.c (.int .i64 0)), none⟩])
  (.cond (.t 22)
    (.region [
      ⟨(some 23), .move (.t 0), none⟩,
      ⟨(some 24), .nop (.t 23), none⟩,
      ⟨(some 25), .fieldAddr 1 (.t 24), none⟩,
      ⟨none, .store 1 (.t 25) (.c (.bool true)), none⟩])
    .skip))
  (.seq
  (.region [
    ⟨(some 26), .move (.t 4), none⟩,
    ⟨(some 27), .fieldAddr 2 (.t 3), none⟩,
    ⟨none, .store 1 (.t 27) (.t 26), none⟩])
  (.seq
  (.region [
    ⟨(some 28), .load true 3 (.t 3), none⟩,
    ⟨none, .store 3 (.t 2) (.t 28), none⟩])
  .ret)))))))⟩

structure F_batch_reader_record (P : Program) where
  id : FuncId
  batch_reader_number : F_batch_reader_number P
  batch_reader_take : F_batch_reader_take P
  value_Decode : F_value_Decode P
  has : Has P id [] (c_batch_reader_record batch_reader_number.id batch_reader_take.id value_Decode.id)

def c_batch_reader_file (f_batch_reader_take : FuncId) (f_batch_reader_text : FuncId) (f_batch_reader_number : FuncId) (f_batch_reader_record : FuncId) : AFunc := ⟨39, [.cell true 3 2],
  (.seq
  (.region [
    ⟨(some 2), .alloc [(.str (bs [])), (.str (bs [])), .nil], none⟩])
  (.seq
  (.seq
  (.region [
    ⟨(some 5), .move (.t 0), none⟩,
    ⟨(some 6), .call f_batch_reader_take [(.t 5), (.c (.int .i64 4))], none⟩,
    ⟨(some 7), .convBS (.t 6), none⟩,
    ⟨(some 8), .bin .neq (.t 7) (.c (.str (bs [87, 72, 70, 49]))), none⟩])
  (.cond (.t 8)
    (.region [
      ⟨(some 9), .move (.t 0), none⟩,
      ⟨(some 10), .nop (.t 9), none⟩,
      ⟨(some 11), .fieldAddr 1 (.t 10), none⟩,
      ⟨none, .store 1 (.t 11) (.c (.bool true)), none⟩])
    .skip))
  (.seq
  (.region [
    ⟨(some 12), .move (.t 0), none⟩,
    ⟨(some 13), .call f_batch_reader_text [(.t 12)], none⟩,
    ⟨(some 14), .build [(.str (bs [])), (.str (bs [])), .nil] [(0, 1, (.t 13))], none⟩,
    ⟨(some 3), .alloc [(.str (bs [])), (.str (bs [])), .nil], none⟩,
    ⟨none, .store 3 (.t 3) (.t 14), none⟩])
  (.seq
  (.region [
    ⟨(some 15), .move (.t 0), none⟩,
    ⟨(some 16), .call f_batch_reader_text [(.t 15)], none⟩,
    ⟨(some 17), .fieldAddr 1 (.t 3), none⟩,
    ⟨none, .store 1 (.t 17) (.t 16), none⟩])
  (.seq
  (.seq
  (.region [
    ⟨(some 18), .move (.t 0), none⟩,
    ⟨(some 19), .call f_batch_reader_number [(.t 18), (.c (.int .i64 2))], none⟩,
    ⟨(some 4), .move (.t 19), none⟩])
  (.block 0
    (.loop
      (.seq
      (.seq
      (.region [
        ⟨(some 20), .move (.t 4), none⟩,
        ⟨(some 21), .bin .gtr (.t 20) (.c (.int .i64 0)), none⟩,
        ⟨(some 22), .move (.t 21), none⟩,
        ⟨(some 23), .move (.t 0), some (some 22, true)⟩,
        ⟨(some 24), .nop (.t 23), some (some 22, true)⟩,
        ⟨(some 25), .fieldAddr 1 (.t 24), some (some 22, true)⟩,
        ⟨(some 26), .load false 1 (.t 25), some (some 22, true)⟩,
        ⟨(some 27), .un .not (.t 26), some (some 22, true)⟩,
        ⟨(some 28), .pick (.t 22) (.t 27) (.c (.bool false)), none⟩])
      (.cond (.t 28)
        .skip
        (.exit 0)))
      (.seq
      (.block 1
        (.draw [
          (⟨(some 31), .fieldAddr 2 (.t 3), none⟩, []),
          (⟨(some 32), .load false 1 (.t 31), none⟩, [4]),
          (⟨(some 33), .move (.t 0), none⟩, []),
          (⟨(some 34), .callE f_batch_reader_record [(.t 33)], none⟩, []),
          (⟨(some 35), .buildSlice 3 1 [(.bool false), (.int .i64 0), .nil] [(0, (.t 34))], none⟩, []),
          (⟨(some 36), .append 3 40 [(.bool false), (.int .i64 0), .nil] (.t 32) (.t 35), none⟩, []),
          (⟨(some 37), .fieldAddr 2 (.t 3), none⟩, []),
          (⟨none, .store 1 (.t 37) (.t 36), none⟩, [])]))
      (.region [
        ⟨(some 29), .move (.t 4), none⟩,
        ⟨(some 30), .bin .sub (.t 29) (.c (.int .i64 1)), none⟩,
        ⟨(some 4), .move (.t 30), none⟩]))))))
  (.seq
  (.region [
    ⟨(some 38), .load true 3 (.t 3), none⟩,
    ⟨none, .store 3 (.t 2) (.t 38), none⟩])
  .ret))))))⟩

structure F_batch_reader_file (P : Program) where
  id : FuncId
  batch_reader_take : F_batch_reader_take P
  batch_reader_text : F_batch_reader_text P
  batch_reader_number : F_batch_reader_number P
  batch_reader_record : F_batch_reader_record P
  has : Has P id [34] (c_batch_reader_file batch_reader_take.id batch_reader_text.id batch_reader_number.id batch_reader_record.id)

def c_batch_Decode (f_batch_Checksum : FuncId) (f_batch_put4 : FuncId) (f_bytes_Equal : FuncId) (f_batch_reader_file : FuncId) (f_batch_Encode : FuncId) : AFunc := ⟨69, [.cell true 3 2, .tmp 3],
  (.seq
  (.region [
    ⟨(some 2), .alloc [(.str (bs [])), (.str (bs [])), .nil], none⟩,
    ⟨(some 3), .move (.c (.int .i64 0)), none⟩])
  (.seq
  (.seq
  (.region [
    ⟨(some 8), .move (.t 0), none⟩,
    ⟨(some 9), .len (.t 8), none⟩,
    ⟨(some 10), .bin .gtr (.t 9) (.c (.int .i64 65536)), none⟩])
  (.cond (.t 10)
    (.seq
    (.region [
      ⟨(some 11), .build [(.str (bs [])), (.str (bs [])), .nil] [], none⟩,
      ⟨none, .store 3 (.t 2) (.t 11), none⟩,
      ⟨(some 3), .move (.c (.int .i64 2)), none⟩])
    .ret)
    .skip))
  (.seq
  (.seq
  (.draw [
    (⟨(some 12), .move (.t 0), none⟩, []),
    (⟨(some 13), .len (.t 12), none⟩, []),
    (⟨(some 14), .bin .lss (.t 13) (.c (.int .i64 4)), none⟩, []),
    (⟨(some 15), .move (.t 14), none⟩, []),
    (⟨(some 16), .move (.t 0), some (some 15, false)⟩, []),
    (⟨(some 17), .move (.t 0), some (some 15, false)⟩, []),
    (⟨(some 18), .len (.t 17), some (some 15, false)⟩, []),
    (⟨(some 19), .bin .sub (.t 18) (.c (.int .i64 4)), some (some 15, false)⟩, []),
    (⟨(some 20), .slice 1 (.t 16) (some (.t 19)) none, some (some 15, false)⟩, []),
    (⟨(some 21), .move (.t 0), some (some 15, false)⟩, []),
    (⟨(some 22), .move (.t 0), some (some 15, false)⟩, []),
    (⟨(some 23), .len (.t 22), some (some 15, false)⟩, []),
    (⟨(some 24), .bin .sub (.t 23) (.c (.int .i64 4)), some (some 15, false)⟩, []),
    (⟨(some 25), .slice 1 (.t 21) none (some (.t 24)), some (some 15, false)⟩, []),
    (⟨(some 26), .call f_batch_Checksum [(.t 25)], some (some 15, false)⟩, []),
    (⟨(some 27), .call f_batch_put4 [(.c .nil), (.t 26)], some (some 15, false)⟩, []),
    (⟨(some 28), .call f_bytes_Equal [(.t 20), (.t 27)], some (some 15, false)⟩, []),
    (⟨(some 29), .un .not (.t 28), some (some 15, false)⟩, []),
    (⟨(some 30), .pick (.t 15) (.c (.bool true)) (.t 29), none⟩, [])])
  (.cond (.t 30)
    (.seq
    (.region [
      ⟨(some 31), .build [(.str (bs [])), (.str (bs [])), .nil] [], none⟩,
      ⟨none, .store 3 (.t 2) (.t 31), none⟩,
      ⟨(some 3), .move (.c (.int .i64 12)), none⟩])
    .ret)
    .skip))
  (.seq
  (.region [
    ⟨(some 32), .move (.t 0), none⟩,
    ⟨(some 33), .move (.t 0), none⟩,
    ⟨(some 34), .len (.t 33), none⟩,
    ⟨(some 35), .bin .sub (.t 34) (.c (.int .i64 4)), none⟩,
    ⟨(some 36), .slice 1 (.t 32) none (some (.t 35)), none⟩,
    ⟨(some 37), .build [.nil, (.bool false)] [(0, 1, (.t 36))], none⟩,
    ⟨(some 38), .box (.t 37), none⟩,
    ⟨(some 4), .move (.t 38), none⟩])
  (.seq
  (.region [
    ⟨(some 39), .move (.t 4), none⟩,
    ⟨(some 40), .call f_batch_reader_file [(.t 39)], none⟩,
    ⟨(some 5), .alloc [(.str (bs [])), (.str (bs [])), .nil], none⟩,
    ⟨none, .store 3 (.t 5) (.t 40), none⟩])
  (.seq
  (.seq
  (.region [
    ⟨(some 41), .move (.t 4), none⟩,
    ⟨(some 42), .nop (.t 41), none⟩,
    ⟨(some 43), .fieldAddr 1 (.t 42), none⟩,
    ⟨(some 44), .load false 1 (.t 43), none⟩,
    ⟨(some 45), .move (.t 44), none⟩,
    ⟨(some 46), .move (.t 4), some (some 45, false)⟩,
    ⟨(some 47), .nop (.t 46), some (some 45, false)⟩,
    ⟨(some 48), .fieldAddr 0 (.t 47), some (some 45, false)⟩,
    ⟨(some 49), .load false 1 (.t 48), some (some 45, false)⟩,
    ⟨(some 50), .len (.t 49), some (some 45, false)⟩,
    ⟨(some 51), .bin .gtr (.t 50) (.c (.int .i64 0)), some (some 45, false)⟩,
    ⟨(some 52), .pick (.t 45) (.c (.bool true)) (.t 51), none⟩])
  (.cond (.t 52)
    (.seq
    (.region [
      ⟨(some 53), .build [(.str (bs [])), (.str (bs [])), .nil] [], none⟩,
      ⟨none, .store 3 (.t 2) (.t 53), none⟩,
      ⟨(some 3), .move (.c (.int .i64 11)), none⟩])
    .ret)
    .skip))
  (.seq
  (.seq
  (.region [
    ⟨(some 55), .load true 3 (.t 5), none⟩,
    ⟨(some 56), .call f_batch_Encode [(.t 55)], none⟩,
    ⟨(some 54), .move (.t 56), none⟩,
    ⟨(some 57), .extract (.t 54) 0, none⟩,
    ⟨(some 58), .extract (.t 54) 1, none⟩,
    ⟨(some 6), .move (.t 57), none⟩,
    ⟨(some 7), .move (.t 58), none⟩])
  (.seq
  (.region [
    ⟨(some 59), .move (.t 7), none⟩,
    ⟨(some 60), .bin .neq (.t 59) (.c (.int .i64 0)), none⟩,
    ⟨(some 61), .move (.t 60), none⟩,
    ⟨(some 62), .move (.t 6), some (some 61, false)⟩,
    ⟨(some 63), .move (.t 0), some (some 61, false)⟩,
    ⟨(some 64), .call f_bytes_Equal [(.t 62), (.t 63)], some (some 61, false)⟩,
    ⟨(some 65), .un .not (.t 64), some (some 61, false)⟩,
    ⟨(some 66), .pick (.t 61) (.c (.bool true)) (.t 65), none⟩])
  (.cond (.t 66)
    (.seq
    (.region [
      ⟨(some 67), .build [(.str (bs [])), (.str (bs [])), .nil] [], none⟩,
      ⟨none, .store 3 (.t 2) (.t 67), none⟩,
      ⟨(some 3), .move (.c (.int .i64 11)), none⟩])
    .ret)
    .skip)))
  (.seq
  (.region [
    ⟨(some 68), .load true 3 (.t 5), none⟩,
    ⟨none, .store 3 (.t 2) (.t 68), none⟩,
    ⟨(some 3), .move (.c (.int .i64 0)), none⟩])
  .ret))))))))⟩

structure F_batch_Decode (P : Program) where
  id : FuncId
  batch_Checksum : F_batch_Checksum P
  batch_put4 : F_batch_put4 P
  bytes_Equal : F_bytes_Equal P
  batch_reader_file : F_batch_reader_file P
  batch_Encode : F_batch_Encode P
  has : Has P id [] (c_batch_Decode batch_Checksum.id batch_put4.id bytes_Equal.id batch_reader_file.id batch_Encode.id)

def c_warehouselaw24_known (f_batch_Encode : FuncId) (f_batch_Decode : FuncId) (f_batch_Checksum : FuncId) : AFunc := ⟨52, [.tmp 0],
  (.seq
  (.region [
    ⟨(some 0), .move (.c (.bool false)), none⟩])
  (.seq
  (.region [
    ⟨(some 6), .build [(.str (bs [])), (.str (bs [])), .nil] [(0, 1, (.c (.str (bs [97])))), (1, 1, (.c (.str (bs [115]))))], none⟩,
    ⟨(some 7), .call f_batch_Encode [(.t 6)], none⟩,
    ⟨(some 5), .move (.t 7), none⟩,
    ⟨(some 8), .extract (.t 5) 0, none⟩,
    ⟨(some 9), .extract (.t 5) 1, none⟩,
    ⟨(some 1), .move (.t 8), none⟩,
    ⟨(some 2), .move (.t 9), none⟩])
  (.seq
  (.region [
    ⟨(some 11), .move (.t 1), none⟩,
    ⟨(some 12), .call f_batch_Decode [(.t 11)], none⟩,
    ⟨(some 10), .move (.t 12), none⟩,
    ⟨(some 13), .extract (.t 10) 0, none⟩,
    ⟨(some 14), .extract (.t 10) 1, none⟩,
    ⟨(some 3), .alloc [(.str (bs [])), (.str (bs [])), .nil], none⟩,
    ⟨none, .store 3 (.t 3) (.t 13), none⟩,
    ⟨(some 4), .move (.t 14), none⟩])
  (.seq
  (.region [
    ⟨(some 15), .move (.t 2), none⟩,
    ⟨(some 16), .bin .eql (.t 15) (.c (.int .i64 0)), none⟩,
    ⟨(some 17), .move (.t 16), none⟩,
    ⟨(some 18), .move (.t 1), some (some 17, true)⟩,
    ⟨(some 19), .len (.t 18), some (some 17, true)⟩,
    ⟨(some 20), .bin .eql (.t 19) (.c (.int .i64 14)), some (some 17, true)⟩,
    ⟨(some 21), .pick (.t 17) (.t 20) (.c (.bool false)), none⟩,
    ⟨(some 22), .move (.t 21), none⟩,
    ⟨(some 23), .move (.t 4), some (some 22, true)⟩,
    ⟨(some 24), .bin .eql (.t 23) (.c (.int .i64 0)), some (some 22, true)⟩,
    ⟨(some 25), .pick (.t 22) (.t 24) (.c (.bool false)), none⟩,
    ⟨(some 26), .move (.t 25), none⟩,
    ⟨(some 27), .fieldAddr 0 (.t 3), some (some 26, true)⟩,
    ⟨(some 28), .load false 1 (.t 27), some (some 26, true)⟩,
    ⟨(some 29), .bin .eql (.t 28) (.c (.str (bs [97]))), some (some 26, true)⟩,
    ⟨(some 30), .pick (.t 26) (.t 29) (.c (.bool false)), none⟩,
    ⟨(some 31), .move (.t 30), none⟩,
    ⟨(some 32), .fieldAddr 1 (.t 3), some (some 31, true)⟩,
    ⟨(some 33), .load false 1 (.t 32), some (some 31, true)⟩,
    ⟨(some 34), .bin .eql (.t 33) (.c (.str (bs [115]))), some (some 31, true)⟩,
    ⟨(some 35), .pick (.t 31) (.t 34) (.c (.bool false)), none⟩,
    ⟨(some 36), .move (.t 35), none⟩,
    ⟨(some 37), .fieldAddr 2 (.t 3), some (some 36, true)⟩,
    ⟨(some 38), .load false 1 (.t 37), some (some 36, true)⟩,
    ⟨(some 39), .len (.t 38), some (some 36, true)⟩,
    ⟨(some 40), .bin .eql (.t 39) (.c (.int .i64 0)), some (some 36, true)⟩,
    ⟨(some 41), .pick (.t 36) (.t 40) (.c (.bool false)), none⟩,
    ⟨(some 42), .move (.t 41), none⟩,
    ⟨(some 43), .call f_batch_Checksum [(.c .nil)], some (some 42, true)⟩,
    ⟨(some 44), .bin .eql (.t 43) (.c (.int .u32 2166136261)), some (some 42, true)⟩,
    ⟨(some 45), .pick (.t 42) (.t 44) (.c (.bool false)), none⟩,
    ⟨(some 46), .move (.t 45), none⟩,
    ⟨(some 47), .buildSliceO 1 1 [(.int .u8 0)] [(0, (.c (.int .u8 97)))], some (some 46, true)⟩,
    ⟨(some 48), .mark (.t 47), some (some 46, true)⟩,
    ⟨(some 49), .call f_batch_Checksum [(.t 48)], some (some 46, true)⟩,
    ⟨(some 50), .bin .eql (.t 49) (.c (.int .u32 3826002220)), some (some 46, true)⟩,
    ⟨(some 51), .pick (.t 46) (.t 50) (.c (.bool false)), none⟩,
    ⟨(some 0), .move (.t 51), none⟩])
  .ret))))⟩

structure F_warehouselaw24_known (P : Program) where
  id : FuncId
  batch_Encode : F_batch_Encode P
  batch_Decode : F_batch_Decode P
  batch_Checksum : F_batch_Checksum P
  has : Has P id [47] (c_warehouselaw24_known batch_Encode.id batch_Decode.id batch_Checksum.id)

def c_warehouseref24_Checksum : AFunc := ⟨22, [.tmp 2],
  (.seq
  (.region [
    ⟨(some 2), .move (.c (.int .u32 0)), none⟩])
  (.seq
  (.region [
    ⟨(some 3), .move (.c (.int .u64 2166136261)), none⟩])
  (.seq
  (.seq
  (.region [
    ⟨(some 4), .move (.c (.int .i64 0)), none⟩])
  (.block 0
    (.loop
      (.seq
      (.seq
      (.region [
        ⟨(some 5), .move (.t 4), none⟩,
        ⟨(some 6), .move (.t 0), none⟩,
        ⟨(some 7), .len (.t 6), none⟩,
        ⟨(some 8), .bin .lss (.t 5) (.t 7), none⟩])
      (.cond (.t 8)
        .skip
        (.exit 0)))
      (.seq
      (.block 1
        (.region [
          ⟨(some 11), .move (.t 3), none⟩,
          ⟨(some 12), .move (.t 0), none⟩,
          ⟨(some 13), .move (.t 4), none⟩,
          ⟨(some 14), .indexAddr 1 (.t 12) (.t 13), none⟩,
          ⟨(some 15), .load false 1 (.t 14), none⟩,
          ⟨(some 16), .conv .u64 (.t 15), none⟩,
          ⟨(some 17), .bin .xor (.t 11) (.t 16), none⟩,
          ⟨(some 18), .bin .mul (.t 17) (.c (.int .u64 16777619)), none⟩,
          ⟨(some 19), .bin .rem (.t 18) (.c (.int .u64 4294967296)), none⟩,
          ⟨(some 3), .move (.t 19), none⟩]))
      (.region [
        ⟨(some 9), .move (.t 4), none⟩,
        ⟨(some 10), .bin .add (.t 9) (.c (.int .i64 1)), none⟩,
        ⟨(some 4), .move (.t 10), none⟩]))))))
  (.seq
  (.region [
    ⟨(some 20), .move (.t 3), none⟩,
    ⟨(some 21), .conv .u32 (.t 20), none⟩,
    ⟨(some 2), .move (.t 21), none⟩])
  .ret))))⟩

structure F_warehouseref24_Checksum (P : Program) where
  id : FuncId
  has : Has P id [] c_warehouseref24_Checksum

def c_warehouseref24_Validate (f_warehouseref5_IsName : FuncId) (f_warehouseref5_IsQualified : FuncId) (f_warehouseref1_Encode : FuncId) : AFunc := ⟨56, [.tmp 2],
  (.seq
  (.region [
    ⟨(some 1), .box (.t 0), none⟩,
    ⟨(some 2), .move (.c (.int .i64 0)), none⟩])
  (.seq
  (.seq
  (.region [
    ⟨(some 6), .fieldAddr 0 (.t 1), none⟩,
    ⟨(some 7), .load false 1 (.t 6), none⟩,
    ⟨(some 8), .call f_warehouseref5_IsName [(.t 7)], none⟩,
    ⟨(some 9), .un .not (.t 8), none⟩,
    ⟨(some 10), .move (.t 9), none⟩,
    ⟨(some 11), .fieldAddr 1 (.t 1), some (some 10, false)⟩,
    ⟨(some 12), .load false 1 (.t 11), some (some 10, false)⟩,
    ⟨(some 13), .call f_warehouseref5_IsQualified [(.t 12)], some (some 10, false)⟩,
    ⟨(some 14), .un .not (.t 13), some (some 10, false)⟩,
    ⟨(some 15), .pick (.t 10) (.c (.bool true)) (.t 14), none⟩])
  (.cond (.t 15)
    (.seq
    (.region [
      ⟨(some 2), .move (.c (.int .i64 4)), none⟩])
    .ret)
    .skip))
  (.seq
  (.seq
  (.region [
    ⟨(some 16), .fieldAddr 2 (.t 1), none⟩,
    ⟨(some 17), .load false 1 (.t 16), none⟩,
    ⟨(some 18), .len (.t 17), none⟩,
    ⟨(some 19), .bin .gtr (.t 18) (.c (.int .i64 1024)), none⟩])
  (.cond (.t 19)
    (.seq
    (.region [
      ⟨(some 2), .move (.c (.int .i64 2)), none⟩])
    .ret)
    .skip))
  (.seq
  (.seq
  (.region [
    ⟨(some 3), .move (.c (.int .i64 0)), none⟩])
  (.block 0
    (.loop
      (.seq
      (.seq
      (.region [
        ⟨(some 20), .move (.t 3), none⟩,
        ⟨(some 21), .fieldAddr 2 (.t 1), none⟩,
        ⟨(some 22), .load false 1 (.t 21), none⟩,
        ⟨(some 23), .len (.t 22), none⟩,
        ⟨(some 24), .bin .lss (.t 20) (.t 23), none⟩])
      (.cond (.t 24)
        .skip
        (.exit 0)))
      (.seq
      (.block 1
        (.seq
        (.seq
        (.region [
          ⟨(some 27), .fieldAddr 2 (.t 1), none⟩,
          ⟨(some 28), .load false 1 (.t 27), none⟩,
          ⟨(some 29), .move (.t 3), none⟩,
          ⟨(some 30), .indexAddr 3 (.t 28) (.t 29), none⟩,
          ⟨(some 31), .fieldAddr 1 (.t 30), none⟩,
          ⟨(some 32), .load false 1 (.t 31), none⟩,
          ⟨(some 33), .bin .lss (.t 32) (.c (.int .i64 0)), none⟩,
          ⟨(some 34), .move (.t 33), none⟩,
          ⟨(some 35), .fieldAddr 2 (.t 1), some (some 34, false)⟩,
          ⟨(some 36), .load false 1 (.t 35), some (some 34, false)⟩,
          ⟨(some 37), .move (.t 3), some (some 34, false)⟩,
          ⟨(some 38), .indexAddr 3 (.t 36) (.t 37), some (some 34, false)⟩,
          ⟨(some 39), .fieldAddr 1 (.t 38), some (some 34, false)⟩,
          ⟨(some 40), .load false 1 (.t 39), some (some 34, false)⟩,
          ⟨(some 41), .bin .gtr (.t 40) (.c (.int .i64 1073741824)), some (some 34, false)⟩,
          ⟨(some 42), .pick (.t 34) (.c (.bool true)) (.t 41), none⟩])
        (.cond (.t 42)
          (.seq
          (.region [
            ⟨(some 2), .move (.c (.int .i64 1)), none⟩])
          .ret)
          .skip))
        (.seq
        (.region [
          ⟨(some 44), .fieldAddr 2 (.t 1), none⟩,
          ⟨(some 45), .load false 1 (.t 44), none⟩,
          ⟨(some 46), .move (.t 3), none⟩,
          ⟨(some 47), .indexAddr 3 (.t 45) (.t 46), none⟩,
          ⟨(some 48), .fieldAddr 2 (.t 47), none⟩,
          ⟨(some 49), .load false 1 (.t 48), none⟩,
          ⟨(some 50), .call f_warehouseref1_Encode [(.t 49)], none⟩,
          ⟨(some 43), .move (.t 50), none⟩,
          ⟨(some 51), .extract (.t 43) 0, none⟩,
          ⟨(some 52), .extract (.t 43) 1, none⟩,
          ⟨(some 4), .move (.t 51), none⟩,
          ⟨(some 5), .move (.t 52), none⟩])
        (.seq
        (.region [
          ⟨(some 53), .move (.t 5), none⟩,
          ⟨(some 54), .bin .neq (.t 53) (.c (.int .i64 0)), none⟩])
        (.cond (.t 54)
          (.seq
          (.region [
            ⟨(some 55), .move (.t 5), none⟩,
            ⟨(some 2), .move (.t 55), none⟩])
          .ret)
          .skip)))))
      (.region [
        ⟨(some 25), .move (.t 3), none⟩,
        ⟨(some 26), .bin .add (.t 25) (.c (.int .i64 1)), none⟩,
        ⟨(some 3), .move (.t 26), none⟩]))))))
  (.seq
  (.region [
    ⟨(some 2), .move (.c (.int .i64 0)), none⟩])
  .ret)))))⟩

structure F_warehouseref24_Validate (P : Program) where
  id : FuncId
  warehouseref5_IsName : F_warehouseref5_IsName P
  warehouseref5_IsQualified : F_warehouseref5_IsQualified P
  warehouseref1_Encode : F_warehouseref1_Encode P
  has : Has P id [] (c_warehouseref24_Validate warehouseref5_IsName.id warehouseref5_IsQualified.id warehouseref1_Encode.id)

def c_warehouseref24_number : AFunc := ⟨24, [.tmp 4],
  (.seq
  (.region [
    ⟨(some 4), .move (.c .nil), none⟩])
  (.seq
  (.region [
    ⟨(some 7), .move (.t 1), none⟩,
    ⟨(some 8), .mkSlice 1 1 [(.int .u8 0)] (.t 7) (.t 7), none⟩,
    ⟨(some 5), .move (.t 8), none⟩])
  (.seq
  (.seq
  (.region [
    ⟨(some 9), .move (.t 1), none⟩,
    ⟨(some 10), .bin .sub (.t 9) (.c (.int .i64 1)), none⟩,
    ⟨(some 6), .move (.t 10), none⟩])
  (.block 0
    (.loop
      (.seq
      (.seq
      (.region [
        ⟨(some 11), .move (.t 6), none⟩,
        ⟨(some 12), .bin .geq (.t 11) (.c (.int .i64 0)), none⟩])
      (.cond (.t 12)
        .skip
        (.exit 0)))
      (.seq
      (.block 1
        (.seq
        (.region [
          ⟨(some 15), .move (.t 5), none⟩,
          ⟨(some 16), .move (.t 6), none⟩,
          ⟨(some 17), .move (.t 0), none⟩,
          ⟨(some 18), .bin .rem (.t 17) (.c (.int .i64 256)), none⟩,
          ⟨(some 19), .conv .u8 (.t 18), none⟩,
          ⟨(some 20), .indexAddr 1 (.t 15) (.t 16), none⟩,
          ⟨none, .store 1 (.t 20) (.t 19), none⟩])
        (.region [
          ⟨(some 21), .move (.t 0), none⟩,
          ⟨(some 22), .bin .quo (.t 21) (.c (.int .i64 256)), none⟩,
          ⟨(some 0), .move (.t 22), none⟩])))
      (.region [
        ⟨(some 13), .move (.t 6), none⟩,
        ⟨(some 14), .bin .sub (.t 13) (.c (.int .i64 1)), none⟩,
        ⟨(some 6), .move (.t 14), none⟩]))))))
  (.seq
  (.region [
    ⟨(some 23), .move (.t 5), none⟩,
    ⟨(some 4), .move (.t 23), none⟩])
  .ret))))⟩

structure F_warehouseref24_number (P : Program) where
  id : FuncId
  has : Has P id [] c_warehouseref24_number

def c_warehouseref24_Encode (f_warehouseref24_Validate : FuncId) (f_warehouseref24_number : FuncId) (f_warehouseref1_Encode : FuncId) (f_warehouseref24_Checksum : FuncId) : AFunc := ⟨90, [.tmp 2, .tmp 3],
  (.seq
  (.region [
    ⟨(some 1), .box (.t 0), none⟩,
    ⟨(some 2), .move (.c .nil), none⟩,
    ⟨(some 3), .move (.c (.int .i64 0)), none⟩])
  (.seq
  (.seq
  (.region [
    ⟨(some 10), .load true 3 (.t 1), none⟩,
    ⟨(some 11), .call f_warehouseref24_Validate [(.t 10)], none⟩,
    ⟨(some 4), .move (.t 11), none⟩])
  (.seq
  (.region [
    ⟨(some 12), .move (.t 4), none⟩,
    ⟨(some 13), .bin .neq (.t 12) (.c (.int .i64 0)), none⟩])
  (.cond (.t 13)
    (.seq
    (.region [
      ⟨(some 14), .move (.t 4), none⟩,
      ⟨(some 2), .move (.c .nil), none⟩,
      ⟨(some 3), .move (.t 14), none⟩])
    .ret)
    .skip)))
  (.seq
  (.region [
    ⟨(some 15), .buildSliceO 1 4 [(.int .u8 0)] [(0, (.c (.int .u8 87))), (1, (.c (.int .u8 72))), (2, (.c (.int .u8 70))), (3, (.c (.int .u8 49)))], none⟩,
    ⟨(some 16), .mark (.t 15), none⟩,
    ⟨(some 17), .fieldAddr 0 (.t 1), none⟩,
    ⟨(some 18), .load false 1 (.t 17), none⟩,
    ⟨(some 19), .lenS (.t 18), none⟩,
    ⟨(some 20), .conv .u8 (.t 19), none⟩,
    ⟨(some 21), .buildSlice 1 1 [(.int .u8 0)] [(0, (.t 20))], none⟩,
    ⟨(some 22), .append 1 1 [(.int .u8 0)] (.t 16) (.t 21), none⟩,
    ⟨(some 5), .move (.t 22), none⟩])
  (.seq
  (.draw [
    (⟨(some 23), .move (.t 5), none⟩, []),
    (⟨(some 24), .fieldAddr 0 (.t 1), none⟩, []),
    (⟨(some 25), .load false 1 (.t 24), none⟩, []),
    (⟨(some 26), .append 1 1 [(.int .u8 0)] (.t 23) (.t 25), none⟩, []),
    (⟨(some 27), .fieldAddr 1 (.t 1), none⟩, []),
    (⟨(some 28), .load false 1 (.t 27), none⟩, [11]),
    (⟨(some 29), .lenS (.t 28), none⟩, []),
    (⟨(some 30), .conv .u8 (.t 29), none⟩, []),
    (⟨(some 31), .buildSlice 1 1 [(.int .u8 0)] [(0, (.t 30))], none⟩, []),
    (⟨(some 32), .append 1 1 [(.int .u8 0)] (.t 26) (.t 31), none⟩, []),
    (⟨(some 5), .move (.t 32), none⟩, [])])
  (.seq
  (.draw [
    (⟨(some 33), .move (.t 5), none⟩, []),
    (⟨(some 34), .fieldAddr 1 (.t 1), none⟩, []),
    (⟨(some 35), .load false 1 (.t 34), none⟩, []),
    (⟨(some 36), .append 1 1 [(.int .u8 0)] (.t 33) (.t 35), none⟩, []),
    (⟨(some 37), .fieldAddr 2 (.t 1), none⟩, []),
    (⟨(some 38), .load false 1 (.t 37), none⟩, [10]),
    (⟨(some 39), .len (.t 38), none⟩, [10]),
    (⟨(some 40), .call f_warehouseref24_number [(.t 39), (.c (.int .i64 2))], none⟩, []),
    (⟨(some 41), .append 1 1 [(.int .u8 0)] (.t 36) (.t 40), none⟩, []),
    (⟨(some 5), .move (.t 41), none⟩, [])])
  (.seq
  (.seq
  (.region [
    ⟨(some 6), .move (.c (.int .i64 0)), none⟩])
  (.block 0
    (.loop
      (.seq
      (.seq
      (.region [
        ⟨(some 42), .move (.t 6), none⟩,
        ⟨(some 43), .fieldAddr 2 (.t 1), none⟩,
        ⟨(some 44), .load false 1 (.t 43), none⟩,
        ⟨(some 45), .len (.t 44), none⟩,
        ⟨(some 46), .bin .lss (.t 42) (.t 45), none⟩])
      (.cond (.t 46)
        .skip
        (.exit 0)))
      (.seq
      (.block 1
        (.seq
        (.region [
          ⟨(some 49), .fieldAddr 2 (.t 1), none⟩,
          ⟨(some 50), .load false 1 (.t 49), none⟩,
          ⟨(some 51), .move (.t 6), none⟩,
          ⟨(some 52), .indexAddr 3 (.t 50) (.t 51), none⟩,
          ⟨(some 53), .load true 3 (.t 52), none⟩,
          ⟨(some 7), .alloc [(.bool false), (.int .i64 0), .nil], none⟩,
          ⟨none, .store 3 (.t 7) (.t 53), none⟩])
        (.seq
        (.seq
        (.region [
          ⟨(some 54), .fieldAddr 0 (.t 7), none⟩,
          ⟨(some 55), .load false 1 (.t 54), none⟩])
        (.cond (.t 55)
          (.region [
            ⟨(some 56), .move (.t 5), none⟩,
            ⟨(some 57), .buildSlice 1 1 [(.int .u8 0)] [(0, (.c (.int .u8 1)))], none⟩,
            ⟨(some 58), .append 1 1 [(.int .u8 0)] (.t 56) (.t 57), none⟩,
            ⟨(some 5), .move (.t 58), none⟩])
          (.region [
            ⟨(some 59), .move (.t 5), none⟩,
            ⟨(some 60), .buildSlice 1 1 [(.int .u8 0)] [(0, (.c (.int .u8 0)))], none⟩,
            ⟨(some 61), .append 1 1 [(.int .u8 0)] (.t 59) (.t 60), none⟩,
            ⟨(some 5), .move (.t 61), none⟩])))
        (.seq
        (.region [
          ⟨(some 63), .fieldAddr 2 (.t 7), none⟩,
          ⟨(some 64), .load false 1 (.t 63), none⟩,
          ⟨(some 65), .call f_warehouseref1_Encode [(.t 64)], none⟩,
          ⟨(some 62), .move (.t 65), none⟩,
          ⟨(some 66), .extract (.t 62) 0, none⟩,
          ⟨(some 67), .extract (.t 62) 1, none⟩,
          ⟨(some 8), .move (.t 66), none⟩,
          ⟨(some 9), .move (.t 67), none⟩])
        (.seq
        (.region [
          ⟨(some 68), .move (.t 5), none⟩,
          ⟨(some 69), .fieldAddr 1 (.t 7), none⟩,
          ⟨(some 70), .load false 1 (.t 69), none⟩,
          ⟨(some 71), .call f_warehouseref24_number [(.t 70), (.c (.int .i64 4))], none⟩,
          ⟨(some 72), .append 1 1 [(.int .u8 0)] (.t 68) (.t 71), none⟩,
          ⟨(some 73), .move (.t 8), none⟩,
          ⟨(some 74), .len (.t 73), none⟩,
          ⟨(some 75), .call f_warehouseref24_number [(.t 74), (.c (.int .i64 2))], none⟩,
          ⟨(some 76), .append 1 1 [(.int .u8 0)] (.t 72) (.t 75), none⟩,
          ⟨(some 5), .move (.t 76), none⟩])
        (.region [
          ⟨(some 77), .move (.t 5), none⟩,
          ⟨(some 78), .move (.t 8), none⟩,
          ⟨(some 79), .append 1 1 [(.int .u8 0)] (.t 77) (.t 78), none⟩,
          ⟨(some 5), .move (.t 79), none⟩]))))))
      (.region [
        ⟨(some 47), .move (.t 6), none⟩,
        ⟨(some 48), .bin .add (.t 47) (.c (.int .i64 1)), none⟩,
        ⟨(some 6), .move (.t 48), none⟩]))))))
  (.seq
  (.region [
    ⟨(some 80), .move (.t 5), none⟩,
    ⟨(some 81), .move (.t 5), none⟩,
    ⟨(some 82), .call f_warehouseref24_Checksum [(.t 81)], none⟩,
    ⟨(some 83), .conv .i64 (.t 82), none⟩,
    ⟨(some 84), .call f_warehouseref24_number [(.t 83), (.c (.int .i64 4))], none⟩,
    ⟨(some 85), .append 1 1 [(.int .u8 0)] (.t 80) (.t 84), none⟩,
    ⟨(some 5), .move (.t 85), none⟩])
  (.seq
  (.seq
  (.region [
    ⟨(some 86), .move (.t 5), none⟩,
    ⟨(some 87), .len (.t 86), none⟩,
    ⟨(some 88), .bin .gtr (.t 87) (.c (.int .i64 65536)), none⟩])
  (.cond (.t 88)
    (.seq
    (.region [
      ⟨(some 2), .move (.c .nil), none⟩,
      ⟨(some 3), .move (.c (.int .i64 2)), none⟩])
    .ret)
    .skip))
  (.seq
  (.region [
    ⟨(some 89), .move (.t 5), none⟩,
    ⟨(some 2), .move (.t 89), none⟩,
    ⟨(some 3), .move (.c (.int .i64 0)), none⟩])
  .ret)))))))))⟩

structure F_warehouseref24_Encode (P : Program) where
  id : FuncId
  warehouseref24_Validate : F_warehouseref24_Validate P
  warehouseref24_number : F_warehouseref24_number P
  warehouseref1_Encode : F_warehouseref1_Encode P
  warehouseref24_Checksum : F_warehouseref24_Checksum P
  has : Has P id [15] (c_warehouseref24_Encode warehouseref24_Validate.id warehouseref24_number.id warehouseref1_Encode.id warehouseref24_Checksum.id)

def c_warehouseworld_Place : AFunc := ⟨14, [.tmp 4],
  (.seq
  (.region [
    ⟨(some 4), .move (.c (.int .i64 0)), none⟩])
  (.seq
  (.seq
  (.region [
    ⟨(some 5), .move (.t 1), none⟩,
    ⟨(some 6), .bin .lss (.t 5) (.c (.int .i64 1)), none⟩])
  (.cond (.t 6)
    (.seq
    (.region [
      ⟨(some 4), .move (.c (.int .i64 0)), none⟩])
    .ret)
    .skip))
  (.seq
  (.region [
    ⟨(some 7), .move (.t 0), none⟩,
    ⟨(some 8), .move (.t 1), none⟩,
    ⟨(some 9), .bin .rem (.t 7) (.t 8), none⟩,
    ⟨(some 10), .move (.t 1), none⟩,
    ⟨(some 11), .bin .add (.t 9) (.t 10), none⟩,
    ⟨(some 12), .move (.t 1), none⟩,
    ⟨(some 13), .bin .rem (.t 11) (.t 12), none⟩,
    ⟨(some 4), .move (.t 13), none⟩])
  .ret)))⟩

structure F_warehouseworld_Place (P : Program) where
  id : FuncId
  has : Has P id [] c_warehouseworld_Place

def c_warehouseworld_Name (f_warehouseworld_Place : FuncId) : AFunc := ⟨8, [.tmp 2],
  (.seq
  (.region [
    ⟨(some 2), .move (.c (.str (bs []))), none⟩])
  (.seq
  (.region [
    ⟨(some 3), .buildSlice 1 12 [(.str (bs []))] [(0, (.c (.str (bs [102, 48])))), (1, (.c (.str (bs [102, 49])))), (2, (.c (.str (bs [102, 50])))), (3, (.c (.str (bs [102, 51])))), (4, (.c (.str (bs [102, 52])))), (5, (.c (.str (bs [102, 53])))), (6, (.c (.str (bs [102, 54])))), (7, (.c (.str (bs [102, 55])))), (8, (.c (.str (bs [102, 56])))), (9, (.c (.str (bs [102, 57])))), (10, (.c (.str (bs [103, 48])))), (11, (.c (.str (bs [103, 49]))))], none⟩,
    ⟨(some 4), .move (.t 0), none⟩,
    ⟨(some 5), .call f_warehouseworld_Place [(.t 4), (.c (.int .i64 12))], none⟩,
    ⟨(some 6), .indexAddr 1 (.t 3) (.t 5), none⟩,
    ⟨(some 7), .load false 1 (.t 6), none⟩,
    ⟨(some 2), .move (.t 7), none⟩])
  .ret))⟩

structure F_warehouseworld_Name (P : Program) where
  id : FuncId
  warehouseworld_Place : F_warehouseworld_Place P
  has : Has P id [] (c_warehouseworld_Name warehouseworld_Place.id)

def c_warehouseworld_Columns (f_warehouseworld_Place : FuncId) : AFunc := ⟨20, [.tmp 2],
  (.seq
  (.region [
    ⟨(some 2), .move (.c .nil), none⟩])
  (.seq
  (.seq
  (.region [
    ⟨(some 3), .move (.t 0), none⟩,
    ⟨(some 4), .call f_warehouseworld_Place [(.t 3), (.c (.int .i64 3))], none⟩])
  (.block 0
    (.seq
    (.region [
      ⟨(some 6), .bin .eql (.t 4) (.c (.int .i64 0)), none⟩,
      ⟨(some 5), .move (.t 6), none⟩])
    (.cond (.t 5)
      (.seq
      (.region [
        ⟨(some 7), .build [(.str (bs [])), (.int .i64 0), (.bool false)] [(0, 1, (.c (.str (bs [105, 100])))), (1, 1, (.c (.int .i64 2)))], none⟩,
        ⟨(some 8), .build [(.str (bs [])), (.int .i64 0), (.bool false)] [(0, 1, (.c (.str (bs [110, 97, 109, 101])))), (1, 1, (.c (.int .i64 3))), (2, 1, (.c (.bool true)))], none⟩,
        ⟨(some 9), .build [(.str (bs [])), (.int .i64 0), (.bool false)] [(0, 1, (.c (.str (bs [97, 116])))), (1, 1, (.c (.int .i64 4)))], none⟩,
        ⟨(some 10), .buildSlice 3 3 [(.str (bs [])), (.int .i64 0), (.bool false)] [(0, (.t 7)), (1, (.t 8)), (2, (.t 9))], none⟩,
        ⟨(some 2), .move (.t 10), none⟩])
      .ret)
      (.seq
      (.region [
        ⟨(some 12), .bin .eql (.t 4) (.c (.int .i64 1)), none⟩,
        ⟨(some 11), .move (.t 12), none⟩])
      (.cond (.t 11)
        (.seq
        (.region [
          ⟨(some 13), .build [(.str (bs [])), (.int .i64 0), (.bool false)] [(0, 1, (.c (.str (bs [97, 116])))), (1, 1, (.c (.int .i64 4))), (2, 1, (.c (.bool true)))], none⟩,
          ⟨(some 14), .build [(.str (bs [])), (.int .i64 0), (.bool false)] [(0, 1, (.c (.str (bs [105, 100])))), (1, 1, (.c (.int .i64 2))), (2, 1, (.c (.bool true)))], none⟩,
          ⟨(some 15), .build [(.str (bs [])), (.int .i64 0), (.bool false)] [(0, 1, (.c (.str (bs [111, 107])))), (1, 1, (.c (.int .i64 1)))], none⟩,
          ⟨(some 16), .buildSlice 3 3 [(.str (bs [])), (.int .i64 0), (.bool false)] [(0, (.t 13)), (1, (.t 14)), (2, (.t 15))], none⟩,
          ⟨(some 2), .move (.t 16), none⟩])
        .ret)
        .skip))))))
  (.seq
  (.region [
    ⟨(some 17), .build [(.str (bs [])), (.int .i64 0), (.bool false)] [(0, 1, (.c (.str (bs [110, 97, 109, 101])))), (1, 1, (.c (.int .i64 3)))], none⟩,
    ⟨(some 18), .build [(.str (bs [])), (.int .i64 0), (.bool false)] [(0, 1, (.c (.str (bs [97, 116])))), (1, 1, (.c (.int .i64 2))), (2, 1, (.c (.bool true)))], none⟩,
    ⟨(some 19), .buildSlice 3 2 [(.str (bs [])), (.int .i64 0), (.bool false)] [(0, (.t 17)), (1, (.t 18))], none⟩,
    ⟨(some 2), .move (.t 19), none⟩])
  .ret)))⟩

structure F_warehouseworld_Columns (P : Program) where
  id : FuncId
  warehouseworld_Place : F_warehouseworld_Place P
  has : Has P id [] (c_warehouseworld_Columns warehouseworld_Place.id)

def c_warehouseworld_Source (f_warehouseworld_Columns : FuncId) (f_warehouseworld_Place : FuncId) : AFunc := ⟨31, [.cell true 7 2],
  (.seq
  (.region [
    ⟨(some 2), .alloc [(.str (bs [])), .nil, .nil, (.str (bs [])), (.str (bs [])), (.int .i64 0), (.int .i64 0)], none⟩])
  (.seq
  (.draw [
    (⟨(some 4), .call f_warehouseworld_Columns [(.c (.int .i64 0))], none⟩, [1]),
    (⟨(some 5), .buildSlice 1 1 [(.str (bs []))] [(0, (.c (.str (bs [105, 100]))))], none⟩, []),
    (⟨(some 6), .buildSlice 1 4 [(.int .i64 0)] [(0, (.c (.int .i64 0))), (1, (.c (.int .i64 60))), (2, (.c (.int .i64 1440))), (3, (.c (.int .i64 3000)))], none⟩, []),
    (⟨(some 7), .move (.t 0), none⟩, []),
    (⟨(some 8), .call f_warehouseworld_Place [(.t 7), (.c (.int .i64 4))], none⟩, [1]),
    (⟨(some 9), .indexAddr 1 (.t 6) (.t 8), none⟩, [1]),
    (⟨(some 10), .load false 1 (.t 9), none⟩, [1]),
    (⟨(some 11), .buildSlice 1 4 [(.int .i64 0)] [(0, (.c (.int .i64 0))), (1, (.c (.int .i64 100))), (2, (.c (.int .i64 1500))), (3, (.c (.int .i64 5000)))], none⟩, []),
    (⟨(some 12), .move (.t 0), none⟩, []),
    (⟨(some 13), .bin .quo (.t 12) (.c (.int .i64 4)), none⟩, []),
    (⟨(some 14), .call f_warehouseworld_Place [(.t 13), (.c (.int .i64 4))], none⟩, [1]),
    (⟨(some 15), .indexAddr 1 (.t 11) (.t 14), none⟩, [1]),
    (⟨(some 16), .load false 1 (.t 15), none⟩, [1]),
    (⟨(some 17), .build [(.str (bs [])), .nil, .nil, (.str (bs [])), (.str (bs [])), (.int .i64 0), (.int .i64 0)] [(0, 1, (.c (.str (bs [115, 104, 111, 112, 46, 111, 114, 100, 101, 114, 115])))), (1, 1, (.t 4)), (2, 1, (.t 5)), (3, 1, (.c (.str (bs [97, 116])))), (4, 1, (.c (.str (bs [122])))), (5, 1, (.t 10)), (6, 1, (.t 16))], none⟩, []),
    (⟨(some 3), .alloc [(.str (bs [])), .nil, .nil, (.str (bs [])), (.str (bs [])), (.int .i64 0), (.int .i64 0)], none⟩, []),
    (⟨none, .store 7 (.t 3) (.t 17), none⟩, [])])
  (.seq
  (.seq
  (.region [
    ⟨(some 18), .move (.t 0), none⟩,
    ⟨(some 19), .bin .quo (.t 18) (.c (.int .i64 16)), none⟩,
    ⟨(some 20), .call f_warehouseworld_Place [(.t 19), (.c (.int .i64 2))], none⟩,
    ⟨(some 21), .bin .eql (.t 20) (.c (.int .i64 1)), none⟩])
  (.cond (.t 21)
    (.seq
    (.region [
      ⟨(some 22), .fieldAddr 1 (.t 3), none⟩,
      ⟨(some 23), .load false 1 (.t 22), none⟩,
      ⟨(some 24), .build [(.str (bs [])), (.int .i64 0), (.bool false)] [(0, 1, (.c (.str (bs [112, 97, 114, 116])))), (1, 1, (.c (.int .i64 3)))], none⟩,
      ⟨(some 25), .buildSlice 3 1 [(.str (bs [])), (.int .i64 0), (.bool false)] [(0, (.t 24))], none⟩,
      ⟨(some 26), .append 3 32 [(.str (bs [])), (.int .i64 0), (.bool false)] (.t 23) (.t 25), none⟩,
      ⟨(some 27), .fieldAddr 1 (.t 3), none⟩,
      ⟨none, .store 1 (.t 27) (.t 26), none⟩])
    (.region [
      ⟨(some 28), .buildSlice 1 2 [(.str (bs []))] [(0, (.c (.str (bs [112, 97, 114, 116])))), (1, (.c (.str (bs [105, 100]))))], none⟩,
      ⟨(some 29), .fieldAddr 2 (.t 3), none⟩,
      ⟨none, .store 1 (.t 29) (.t 28), none⟩]))
    .skip))
  (.seq
  (.region [
    ⟨(some 30), .load true 7 (.t 3), none⟩,
    ⟨none, .store 7 (.t 2) (.t 30), none⟩])
  .ret))))⟩

structure F_warehouseworld_Source (P : Program) where
  id : FuncId
  warehouseworld_Columns : F_warehouseworld_Columns P
  warehouseworld_Place : F_warehouseworld_Place P
  has : Has P id [] (c_warehouseworld_Source warehouseworld_Columns.id warehouseworld_Place.id)

def c_warehouseworld_Numbers_Next (f_warehouseworld_Place : FuncId) : AFunc := ⟨39, [.tmp 4],
  (.seq
  (.region [
    ⟨(some 4), .move (.c (.int .i64 0)), none⟩])
  (.seq
  (.seq
  (.draw [
    (⟨(some 5), .move (.t 0), none⟩, []),
    (⟨(some 6), .nop (.t 5), none⟩, []),
    (⟨(some 7), .fieldAddr 1 (.t 6), none⟩, []),
    (⟨(some 8), .load false 1 (.t 7), none⟩, []),
    (⟨(some 9), .move (.t 0), none⟩, []),
    (⟨(some 10), .nop (.t 9), none⟩, []),
    (⟨(some 11), .fieldAddr 0 (.t 10), none⟩, []),
    (⟨(some 12), .load false 1 (.t 11), none⟩, []),
    (⟨(some 13), .len (.t 12), none⟩, []),
    (⟨(some 14), .bin .geq (.t 8) (.t 13), none⟩, []),
    (⟨(some 15), .move (.t 14), none⟩, []),
    (⟨(some 16), .move (.t 1), some (some 15, false)⟩, []),
    (⟨(some 17), .bin .lss (.t 16) (.c (.int .i64 1)), some (some 15, false)⟩, []),
    (⟨(some 18), .pick (.t 15) (.c (.bool true)) (.t 17), none⟩, [])])
  (.cond (.t 18)
    (.seq
    (.region [
      ⟨(some 4), .move (.c (.int .i64 0)), none⟩])
    .ret)
    .skip))
  (.seq
  (.region [
    ⟨(some 19), .move (.t 0), none⟩,
    ⟨(some 20), .nop (.t 19), none⟩,
    ⟨(some 21), .fieldAddr 1 (.t 20), none⟩,
    ⟨(some 22), .load false 1 (.t 21), none⟩,
    ⟨(some 23), .bin .add (.t 22) (.c (.int .i64 1)), none⟩,
    ⟨(some 24), .nop (.t 19), none⟩,
    ⟨(some 25), .fieldAddr 1 (.t 24), none⟩,
    ⟨none, .store 1 (.t 25) (.t 23), none⟩])
  (.seq
  (.draw [
    (⟨(some 26), .move (.t 0), none⟩, []),
    (⟨(some 27), .nop (.t 26), none⟩, []),
    (⟨(some 28), .fieldAddr 0 (.t 27), none⟩, []),
    (⟨(some 29), .load false 1 (.t 28), none⟩, []),
    (⟨(some 30), .move (.t 0), none⟩, []),
    (⟨(some 31), .nop (.t 30), none⟩, []),
    (⟨(some 32), .fieldAddr 1 (.t 31), none⟩, []),
    (⟨(some 33), .load false 1 (.t 32), none⟩, []),
    (⟨(some 34), .bin .sub (.t 33) (.c (.int .i64 1)), none⟩, []),
    (⟨(some 35), .indexAddr 1 (.t 29) (.t 34), none⟩, []),
    (⟨(some 36), .load false 1 (.t 35), none⟩, []),
    (⟨(some 37), .move (.t 1), none⟩, []),
    (⟨(some 38), .call f_warehouseworld_Place [(.t 36), (.t 37)], none⟩, []),
    (⟨(some 4), .move (.t 38), none⟩, [])])
  .ret))))⟩

structure F_warehouseworld_Numbers_Next (P : Program) where
  id : FuncId
  warehouseworld_Place : F_warehouseworld_Place P
  has : Has P id [] (c_warehouseworld_Numbers_Next warehouseworld_Place.id)

def c_warehouseworld_Instants : AFunc := ⟨17, [.tmp 0],
  (.seq
  (.region [
    ⟨(some 0), .move (.c .nil), none⟩])
  (.seq
  (.region [
    ⟨(some 3), .buildSliceO 1 16 [(.int .i64 0)] [(0, (.c (.int .i64 0))), (1, (.c (.int .i64 719))), (2, (.c (.int .i64 1380))), (3, (.c (.int .i64 1400))), (4, (.c (.int .i64 1439))), (5, (.c (.int .i64 1440))), (6, (.c (.int .i64 1500))), (7, (.c (.int .i64 2000))), (8, (.c (.int .i64 2879))), (9, (.c (.int .i64 2880))), (10, (.c (.int .i64 4000))), (11, (.c (.int .i64 4320))), (12, (.c (.int .i64 5000))), (13, (.c (.int .i64 7199))), (14, (.c (.int .i64 7200))), (15, (.c (.int .i64 9000)))], none⟩,
    ⟨(some 1), .move (.t 3), none⟩])
  (.seq
  (.seq
  (.region [
    ⟨(some 2), .move (.c (.int .i64 0)), none⟩])
  (.block 0
    (.loop
      (.seq
      (.seq
      (.region [
        ⟨(some 4), .move (.t 2), none⟩,
        ⟨(some 5), .move (.t 1), none⟩,
        ⟨(some 6), .len (.t 5), none⟩,
        ⟨(some 7), .bin .lss (.t 4) (.t 6), none⟩])
      (.cond (.t 7)
        .skip
        (.exit 0)))
      (.seq
      (.block 1
        (.region [
          ⟨(some 10), .move (.t 1), none⟩,
          ⟨(some 11), .move (.t 2), none⟩,
          ⟨(some 12), .indexAddr 1 (.t 10) (.t 11), none⟩,
          ⟨(some 13), .load false 1 (.t 12), none⟩,
          ⟨(some 14), .bin .add (.t 13) (.c (.int .i64 144000)), none⟩,
          ⟨(some 15), .indexAddr 1 (.t 10) (.t 11), none⟩,
          ⟨none, .store 1 (.t 15) (.t 14), none⟩]))
      (.region [
        ⟨(some 8), .move (.t 2), none⟩,
        ⟨(some 9), .bin .add (.t 8) (.c (.int .i64 1)), none⟩,
        ⟨(some 2), .move (.t 9), none⟩]))))))
  (.seq
  (.region [
    ⟨(some 16), .move (.t 1), none⟩,
    ⟨(some 0), .move (.t 16), none⟩])
  .ret))))⟩

structure F_warehouseworld_Instants (P : Program) where
  id : FuncId
  has : Has P id [3] c_warehouseworld_Instants

def c_warehouseworld_Value (f_warehouseworld_Numbers_Next : FuncId) (f_warehouseworld_Instants : FuncId) : AFunc := ⟨40, [.cell true 3 4],
  (.seq
  (.region [
    ⟨(some 2), .box (.t 0), none⟩,
    ⟨(some 4), .alloc [(.int .i64 0), (.int .i64 0), (.str (bs []))], none⟩])
  (.seq
  (.seq
  (.region [
    ⟨(some 5), .fieldAddr 2 (.t 2), none⟩,
    ⟨(some 6), .load false 1 (.t 5), none⟩,
    ⟨(some 7), .move (.t 6), none⟩,
    ⟨(some 8), .move (.t 1), some (some 7, true)⟩,
    ⟨(some 9), .call f_warehouseworld_Numbers_Next [(.t 8), (.c (.int .i64 5))], some (some 7, true)⟩,
    ⟨(some 10), .bin .eql (.t 9) (.c (.int .i64 0)), some (some 7, true)⟩,
    ⟨(some 11), .pick (.t 7) (.t 10) (.c (.bool false)), none⟩])
  (.cond (.t 11)
    (.seq
    (.region [
      ⟨(some 12), .build [(.int .i64 0), (.int .i64 0), (.str (bs []))] [], none⟩,
      ⟨none, .store 3 (.t 4) (.t 12), none⟩])
    .ret)
    .skip))
  (.seq
  (.seq
  (.region [
    ⟨(some 13), .fieldAddr 1 (.t 2), none⟩,
    ⟨(some 14), .load false 1 (.t 13), none⟩])
  (.block 0
    (.seq
    (.region [
      ⟨(some 16), .bin .eql (.t 14) (.c (.int .i64 1)), none⟩,
      ⟨(some 15), .move (.t 16), none⟩])
    (.cond (.t 15)
      (.seq
      (.region [
        ⟨(some 17), .move (.t 1), none⟩,
        ⟨(some 18), .call f_warehouseworld_Numbers_Next [(.t 17), (.c (.int .i64 2))], none⟩,
        ⟨(some 19), .build [(.int .i64 0), (.int .i64 0), (.str (bs []))] [(0, 1, (.c (.int .i64 1))), (1, 1, (.t 18))], none⟩,
        ⟨none, .store 3 (.t 4) (.t 19), none⟩])
      .ret)
      (.seq
      (.region [
        ⟨(some 21), .bin .eql (.t 14) (.c (.int .i64 2)), none⟩,
        ⟨(some 20), .move (.t 21), none⟩])
      (.cond (.t 20)
        (.seq
        (.region [
          ⟨(some 22), .move (.t 1), none⟩,
          ⟨(some 23), .call f_warehouseworld_Numbers_Next [(.t 22), (.c (.int .i64 7))], none⟩,
          ⟨(some 24), .bin .sub (.t 23) (.c (.int .i64 1)), none⟩,
          ⟨(some 25), .build [(.int .i64 0), (.int .i64 0), (.str (bs []))] [(0, 1, (.c (.int .i64 2))), (1, 1, (.t 24))], none⟩,
          ⟨none, .store 3 (.t 4) (.t 25), none⟩])
        .ret)
        (.seq
        (.region [
          ⟨(some 27), .bin .eql (.t 14) (.c (.int .i64 3)), none⟩,
          ⟨(some 26), .move (.t 27), none⟩])
        (.cond (.t 26)
          (.seq
          (.region [
            ⟨(some 28), .buildSlice 1 5 [(.str (bs []))] [(0, (.c (.str (bs [])))), (1, (.c (.str (bs [97])))), (2, (.c (.str (bs [98])))), (3, (.c (.str (bs [105, 116, 39, 115])))), (4, (.c (.str (bs [122, 122]))))], none⟩,
            ⟨(some 29), .move (.t 1), none⟩,
            ⟨(some 30), .call f_warehouseworld_Numbers_Next [(.t 29), (.c (.int .i64 5))], none⟩,
            ⟨(some 31), .indexAddr 1 (.t 28) (.t 30), none⟩,
            ⟨(some 32), .load false 1 (.t 31), none⟩,
            ⟨(some 33), .build [(.int .i64 0), (.int .i64 0), (.str (bs []))] [(0, 1, (.c (.int .i64 3))), (2, 1, (.t 32))], none⟩,
            ⟨none, .store 3 (.t 4) (.t 33), none⟩])
          .ret)
          .skip))))))))
  (.seq
  (.region [
    ⟨(some 34), .call f_warehouseworld_Instants [], none⟩,
    ⟨(some 35), .move (.t 1), none⟩,
    ⟨(some 36), .call f_warehouseworld_Numbers_Next [(.t 35), (.c (.int .i64 16))], none⟩,
    ⟨(some 37), .indexAddr 1 (.t 34) (.t 36), none⟩,
    ⟨(some 38), .load false 1 (.t 37), none⟩,
    ⟨(some 39), .build [(.int .i64 0), (.int .i64 0), (.str (bs []))] [(0, 1, (.c (.int .i64 4))), (1, 1, (.t 38))], none⟩,
    ⟨none, .store 3 (.t 4) (.t 39), none⟩])
  .ret))))⟩

structure F_warehouseworld_Value (P : Program) where
  id : FuncId
  warehouseworld_Numbers_Next : F_warehouseworld_Numbers_Next P
  warehouseworld_Instants : F_warehouseworld_Instants P
  has : Has P id [] (c_warehouseworld_Value warehouseworld_Numbers_Next.id warehouseworld_Instants.id)

def c_warehouseworld_Row (f_warehouseworld_Value : FuncId) : AFunc := ⟨23, [.tmp 4],
  (.seq
  (.region [
    ⟨(some 4), .move (.c .nil), none⟩])
  (.seq
  (.region [
    ⟨(some 5), .move (.c .nil), none⟩])
  (.seq
  (.seq
  (.region [
    ⟨(some 6), .move (.c (.int .i64 0)), none⟩])
  (.block 0
    (.loop
      (.seq
      (.seq
      (.region [
        ⟨(some 7), .move (.t 6), none⟩,
        ⟨(some 8), .move (.t 0), none⟩,
        ⟨(some 9), .len (.t 8), none⟩,
        ⟨(some 10), .bin .lss (.t 7) (.t 9), none⟩])
      (.cond (.t 10)
        .skip
        (.exit 0)))
      (.seq
      (.block 1
        (.region [
          ⟨(some 13), .move (.t 5), none⟩,
          ⟨(some 14), .move (.t 0), none⟩,
          ⟨(some 15), .move (.t 6), none⟩,
          ⟨(some 16), .indexAddr 3 (.t 14) (.t 15), none⟩,
          ⟨(some 17), .load true 3 (.t 16), none⟩,
          ⟨(some 18), .move (.t 1), none⟩,
          ⟨(some 19), .call f_warehouseworld_Value [(.t 17), (.t 18)], none⟩,
          ⟨(some 20), .buildSlice 3 1 [(.int .i64 0), (.int .i64 0), (.str (bs []))] [(0, (.t 19))], none⟩,
          ⟨(some 21), .append 3 32 [(.int .i64 0), (.int .i64 0), (.str (bs []))] (.t 13) (.t 20), none⟩,
          ⟨(some 5), .move (.t 21), none⟩]))
      (.region [
        ⟨(some 11), .move (.t 6), none⟩,
        ⟨(some 12), .bin .add (.t 11) (.c (.int .i64 1)), none⟩,
        ⟨(some 6), .move (.t 12), none⟩]))))))
  (.seq
  (.region [
    ⟨(some 22), .move (.t 5), none⟩,
    ⟨(some 4), .move (.t 22), none⟩])
  .ret))))⟩

structure F_warehouseworld_Row (P : Program) where
  id : FuncId
  warehouseworld_Value : F_warehouseworld_Value P
  has : Has P id [] (c_warehouseworld_Row warehouseworld_Value.id)

def c_warehouseref23_In : AFunc := ⟨18, [.tmp 4],
  (.seq
  (.region [
    ⟨(some 4), .move (.c (.bool false)), none⟩])
  (.seq
  (.seq
  (.region [
    ⟨(some 5), .move (.c (.int .i64 0)), none⟩])
  (.block 0
    (.loop
      (.seq
      (.seq
      (.region [
        ⟨(some 6), .move (.t 5), none⟩,
        ⟨(some 7), .move (.t 0), none⟩,
        ⟨(some 8), .len (.t 7), none⟩,
        ⟨(some 9), .bin .lss (.t 6) (.t 8), none⟩])
      (.cond (.t 9)
        .skip
        (.exit 0)))
      (.seq
      (.block 1
        (.seq
        (.region [
          ⟨(some 12), .move (.t 0), none⟩,
          ⟨(some 13), .move (.t 5), none⟩,
          ⟨(some 14), .indexAddr 1 (.t 12) (.t 13), none⟩,
          ⟨(some 15), .load false 1 (.t 14), none⟩,
          ⟨(some 16), .move (.t 1), none⟩,
          ⟨(some 17), .bin .eql (.t 15) (.t 16), none⟩])
        (.cond (.t 17)
          (.seq
          (.region [
            ⟨(some 4), .move (.c (.bool true)), none⟩])
          .ret)
          .skip)))
      (.region [
        ⟨(some 10), .move (.t 5), none⟩,
        ⟨(some 11), .bin .add (.t 10) (.c (.int .i64 1)), none⟩,
        ⟨(some 5), .move (.t 11), none⟩]))))))
  (.seq
  (.region [
    ⟨(some 4), .move (.c (.bool false)), none⟩])
  .ret)))⟩

structure F_warehouseref23_In (P : Program) where
  id : FuncId
  has : Has P id [] c_warehouseref23_In

def c_warehouseworld_Deletion (f_warehouseref23_In : FuncId) : AFunc := ⟨51, [.cell true 3 4],
  (.seq
  (.region [
    ⟨(some 2), .box (.t 0), none⟩,
    ⟨(some 3), .box (.t 1), none⟩,
    ⟨(some 4), .alloc [(.bool false), (.int .i64 0), .nil], none⟩])
  (.seq
  (.region [
    ⟨(some 8), .fieldAddr 1 (.t 3), none⟩,
    ⟨(some 9), .load false 1 (.t 8), none⟩,
    ⟨(some 10), .build [(.bool false), (.int .i64 0), .nil] [(0, 1, (.c (.bool true))), (1, 1, (.t 9))], none⟩,
    ⟨(some 5), .alloc [(.bool false), (.int .i64 0), .nil], none⟩,
    ⟨none, .store 3 (.t 5) (.t 10), none⟩])
  (.seq
  (.seq
  (.region [
    ⟨(some 6), .move (.c (.int .i64 0)), none⟩])
  (.block 0
    (.loop
      (.seq
      (.seq
      (.region [
        ⟨(some 11), .move (.t 6), none⟩,
        ⟨(some 12), .fieldAddr 1 (.t 2), none⟩,
        ⟨(some 13), .load false 1 (.t 12), none⟩,
        ⟨(some 14), .len (.t 13), none⟩,
        ⟨(some 15), .bin .lss (.t 11) (.t 14), none⟩])
      (.cond (.t 15)
        .skip
        (.exit 0)))
      (.seq
      (.block 1
        (.seq
        (.region [
          ⟨(some 18), .build [(.int .i64 0), (.int .i64 0), (.str (bs []))] [], none⟩,
          ⟨(some 7), .alloc [(.int .i64 0), (.int .i64 0), (.str (bs []))], none⟩,
          ⟨none, .store 3 (.t 7) (.t 18), none⟩])
        (.seq
        (.seq
        (.draw [
          (⟨(some 19), .fieldAddr 2 (.t 2), none⟩, []),
          (⟨(some 20), .load false 1 (.t 19), none⟩, []),
          (⟨(some 21), .fieldAddr 1 (.t 2), none⟩, []),
          (⟨(some 22), .load false 1 (.t 21), none⟩, []),
          (⟨(some 23), .move (.t 6), none⟩, []),
          (⟨(some 24), .indexAddr 3 (.t 22) (.t 23), none⟩, []),
          (⟨(some 25), .fieldAddr 0 (.t 24), none⟩, []),
          (⟨(some 26), .load false 1 (.t 25), none⟩, []),
          (⟨(some 27), .call f_warehouseref23_In [(.t 20), (.t 26)], none⟩, []),
          (⟨(some 28), .move (.t 27), none⟩, []),
          (⟨(some 29), .fieldAddr 1 (.t 2), some (some 28, false)⟩, []),
          (⟨(some 30), .load false 1 (.t 29), some (some 28, false)⟩, []),
          (⟨(some 31), .move (.t 6), some (some 28, false)⟩, []),
          (⟨(some 32), .indexAddr 3 (.t 30) (.t 31), some (some 28, false)⟩, []),
          (⟨(some 33), .fieldAddr 0 (.t 32), some (some 28, false)⟩, []),
          (⟨(some 34), .load false 1 (.t 33), some (some 28, false)⟩, []),
          (⟨(some 35), .fieldAddr 3 (.t 2), some (some 28, false)⟩, []),
          (⟨(some 36), .load false 1 (.t 35), some (some 28, false)⟩, []),
          (⟨(some 37), .bin .eql (.t 34) (.t 36), some (some 28, false)⟩, []),
          (⟨(some 38), .pick (.t 28) (.c (.bool true)) (.t 37), none⟩, [])])
        (.cond (.t 38)
          (.region [
            ⟨(some 39), .fieldAddr 2 (.t 3), none⟩,
            ⟨(some 40), .load false 1 (.t 39), none⟩,
            ⟨(some 41), .move (.t 6), none⟩,
            ⟨(some 42), .indexAddr 3 (.t 40) (.t 41), none⟩,
            ⟨(some 43), .load true 3 (.t 42), none⟩,
            ⟨none, .store 3 (.t 7) (.t 43), none⟩])
          .skip))
        (.region [
          ⟨(some 44), .fieldAddr 2 (.t 5), none⟩,
          ⟨(some 45), .load false 1 (.t 44), none⟩,
          ⟨(some 46), .load true 3 (.t 7), none⟩,
          ⟨(some 47), .buildSlice 3 1 [(.int .i64 0), (.int .i64 0), (.str (bs []))] [(0, (.t 46))], none⟩,
          ⟨(some 48), .append 3 32 [(.int .i64 0), (.int .i64 0), (.str (bs []))] (.t 45) (.t 47), none⟩,
          ⟨(some 49), .fieldAddr 2 (.t 5), none⟩,
          ⟨none, .store 1 (.t 49) (.t 48), none⟩]))))
      (.region [
        ⟨(some 16), .move (.t 6), none⟩,
        ⟨(some 17), .bin .add (.t 16) (.c (.int .i64 1)), none⟩,
        ⟨(some 6), .move (.t 17), none⟩]))))))
  (.seq
  (.region [
    ⟨(some 50), .load true 3 (.t 5), none⟩,
    ⟨none, .store 3 (.t 4) (.t 50), none⟩])
  .ret))))⟩

structure F_warehouseworld_Deletion (P : Program) where
  id : FuncId
  warehouseref23_In : F_warehouseref23_In P
  has : Has P id [] (c_warehouseworld_Deletion warehouseref23_In.id)

def c_warehouseworld_Record (f_warehouseworld_Numbers_Next : FuncId) (f_warehouseworld_Row : FuncId) (f_warehouseworld_Deletion : FuncId) : AFunc := ⟨52, [.cell true 3 4],
  (.seq
  (.region [
    ⟨(some 2), .box (.t 0), none⟩,
    ⟨(some 4), .alloc [(.bool false), (.int .i64 0), .nil], none⟩])
  (.seq
  (.draw [
    (⟨(some 6), .move (.t 1), none⟩, []),
    (⟨(some 7), .callE f_warehouseworld_Numbers_Next [(.t 6), (.c (.int .i64 4))], none⟩, []),
    (⟨(some 8), .fieldAddr 1 (.t 2), none⟩, []),
    (⟨(some 9), .load false 1 (.t 8), none⟩, [9]),
    (⟨(some 10), .move (.t 1), none⟩, []),
    (⟨(some 11), .callE f_warehouseworld_Row [(.t 9), (.t 10)], none⟩, []),
    (⟨(some 12), .build [(.bool false), (.int .i64 0), .nil] [(1, 1, (.t 7)), (2, 1, (.t 11))], none⟩, []),
    (⟨(some 5), .alloc [(.bool false), (.int .i64 0), .nil], none⟩, []),
    (⟨none, .store 3 (.t 5) (.t 12), none⟩, [])])
  (.seq
  (.seq
  (.seq
  (.region [
    ⟨(some 13), .move (.t 1), none⟩,
    ⟨(some 14), .call f_warehouseworld_Numbers_Next [(.t 13), (.c (.int .i64 24))], none⟩])
  .ghost)
  (.block 0
    (.seq
    (.seq
    (.region [
      ⟨(some 16), .bin .eql (.t 14) (.c (.int .i64 0)), none⟩,
      ⟨(some 15), .move (.t 16), none⟩])
    (.cond (.t 15)
      .skip
      (.seq
      (.region [
        ⟨(some 17), .bin .eql (.t 14) (.c (.int .i64 1)), none⟩,
        ⟨(some 15), .move (.t 17), none⟩])
      (.cond (.t 15)
        .skip
        (.seq
        (.region [
          ⟨(some 18), .bin .eql (.t 14) (.c (.int .i64 2)), none⟩,
          ⟨(some 15), .move (.t 18), none⟩])
        (.cond (.t 15)
          .skip
          (.seq
          (.region [
            ⟨(some 19), .bin .eql (.t 14) (.c (.int .i64 3)), none⟩,
            ⟨(some 15), .move (.t 19), none⟩])
          (.cond (.t 15)
            .skip
            (.region [
              ⟨(some 20), .bin .eql (.t 14) (.c (.int .i64 4)), none⟩,
              ⟨(some 15), .move (.t 20), none⟩])))))))))
    (.cond (.t 15)
      (.region [
        ⟨(some 21), .load true 7 (.t 2), none⟩,
        ⟨(some 22), .load true 3 (.t 5), none⟩,
        ⟨(some 23), .call f_warehouseworld_Deletion [(.t 21), (.t 22)], none⟩,
        ⟨none, .store 3 (.t 5) (.t 23), none⟩])
      (.seq
      (.region [
        ⟨(some 25), .bin .eql (.t 14) (.c (.int .i64 5)), none⟩,
        ⟨(some 24), .move (.t 25), none⟩])
      (.cond (.t 24)
        (.region [
          ⟨(some 26), .fieldAddr 0 (.t 5), none⟩,
          ⟨none, .store 1 (.t 26) (.c (.bool true)), none⟩])
        (.seq
        (.region [
          ⟨(some 28), .bin .eql (.t 14) (.c (.int .i64 6)), none⟩,
          ⟨(some 27), .move (.t 28), none⟩])
        (.cond (.t 27)
          (.region [
            ⟨(some 29), .fieldAddr 2 (.t 5), none⟩,
            ⟨(some 30), .load false 1 (.t 29), none⟩,
            ⟨(some 31), .fieldAddr 2 (.t 5), none⟩,
            ⟨(some 32), .load false 1 (.t 31), none⟩,
            ⟨(some 33), .len (.t 32), none⟩,
            ⟨(some 34), .bin .sub (.t 33) (.c (.int .i64 1)), none⟩,
            ⟨(some 35), .slice 3 (.t 30) none (some (.t 34)), none⟩,
            ⟨(some 36), .fieldAddr 2 (.t 5), none⟩,
            ⟨none, .store 1 (.t 36) (.t 35), none⟩])
          (.seq
          (.region [
            ⟨(some 38), .bin .eql (.t 14) (.c (.int .i64 7)), none⟩,
            ⟨(some 37), .move (.t 38), none⟩])
          (.cond (.t 37)
            (.draw [
              (⟨(some 39), .fieldAddr 2 (.t 5), none⟩, []),
              (⟨(some 40), .load false 1 (.t 39), none⟩, [3]),
              (⟨(some 41), .move (.t 1), none⟩, []),
              (⟨(some 42), .fieldAddr 2 (.t 5), none⟩, []),
              (⟨(some 43), .load false 1 (.t 42), none⟩, []),
              (⟨(some 44), .len (.t 43), none⟩, []),
              (⟨(some 45), .callE f_warehouseworld_Numbers_Next [(.t 41), (.t 44)], none⟩, []),
              (⟨(some 46), .build [(.int .i64 0), (.int .i64 0), (.str (bs []))] [(0, 1, (.c (.int .i64 1))), (1, 1, (.c (.int .i64 1)))], none⟩, []),
              (⟨(some 47), .indexAddr 3 (.t 40) (.t 45), none⟩, []),
              (⟨none, .store 3 (.t 47) (.t 46), none⟩, [])])
            (.seq
            (.region [
              ⟨(some 49), .bin .eql (.t 14) (.c (.int .i64 8)), none⟩,
              ⟨(some 48), .move (.t 49), none⟩])
            (.cond (.t 48)
              (.region [
                ⟨(some 50), .fieldAddr 1 (.t 5), none⟩,
                ⟨none, .store 1 (.t 50) (.c (.int .i64 (-1))), none⟩])
              .skip))))))))))))
  (.seq
  (.region [
    ⟨(some 51), .load true 3 (.t 5), none⟩,
    ⟨none, .store 3 (.t 4) (.t 51), none⟩])
  .ret))))⟩

structure F_warehouseworld_Record (P : Program) where
  id : FuncId
  warehouseworld_Numbers_Next : F_warehouseworld_Numbers_Next P
  warehouseworld_Row : F_warehouseworld_Row P
  warehouseworld_Deletion : F_warehouseworld_Deletion P
  has : Has P id [7, 11, 45, 100014] (c_warehouseworld_Record warehouseworld_Numbers_Next.id warehouseworld_Row.id warehouseworld_Deletion.id)

def c_warehouseworld_File (f_warehouseworld_Numbers_Next : FuncId) (f_warehouseworld_Record : FuncId) : AFunc := ⟨32, [.cell true 3 8],
  (.seq
  (.region [
    ⟨(some 5), .box (.t 1), none⟩,
    ⟨(some 8), .alloc [(.str (bs [])), (.str (bs [])), .nil], none⟩])
  (.seq
  (.region [
    ⟨(some 11), .move (.t 0), none⟩,
    ⟨(some 12), .fieldAddr 0 (.t 5), none⟩,
    ⟨(some 13), .load false 1 (.t 12), none⟩,
    ⟨(some 14), .build [(.str (bs [])), (.str (bs [])), .nil] [(0, 1, (.t 11)), (1, 1, (.t 13))], none⟩,
    ⟨(some 9), .alloc [(.str (bs [])), (.str (bs [])), .nil], none⟩,
    ⟨none, .store 3 (.t 9) (.t 14), none⟩])
  (.seq
  (.seq
  (.region [
    ⟨(some 15), .move (.t 2), none⟩,
    ⟨(some 16), .move (.t 3), none⟩,
    ⟨(some 17), .bin .add (.t 16) (.c (.int .i64 1)), none⟩,
    ⟨(some 18), .call f_warehouseworld_Numbers_Next [(.t 15), (.t 17)], none⟩,
    ⟨(some 10), .move (.t 18), none⟩])
  (.block 0
    (.loop
      (.seq
      (.seq
      (.region [
        ⟨(some 19), .move (.t 10), none⟩,
        ⟨(some 20), .bin .gtr (.t 19) (.c (.int .i64 0)), none⟩])
      (.cond (.t 20)
        .skip
        (.exit 0)))
      (.seq
      (.block 1
        (.draw [
          (⟨(some 23), .fieldAddr 2 (.t 9), none⟩, []),
          (⟨(some 24), .load false 1 (.t 23), none⟩, [4]),
          (⟨(some 25), .load true 7 (.t 5), none⟩, []),
          (⟨(some 26), .move (.t 2), none⟩, []),
          (⟨(some 27), .callE f_warehouseworld_Record [(.t 25), (.t 26)], none⟩, []),
          (⟨(some 28), .buildSlice 3 1 [(.bool false), (.int .i64 0), .nil] [(0, (.t 27))], none⟩, []),
          (⟨(some 29), .append 3 40 [(.bool false), (.int .i64 0), .nil] (.t 24) (.t 28), none⟩, []),
          (⟨(some 30), .fieldAddr 2 (.t 9), none⟩, []),
          (⟨none, .store 1 (.t 30) (.t 29), none⟩, [])]))
      (.region [
        ⟨(some 21), .move (.t 10), none⟩,
        ⟨(some 22), .bin .sub (.t 21) (.c (.int .i64 1)), none⟩,
        ⟨(some 10), .move (.t 22), none⟩]))))))
  (.seq
  (.region [
    ⟨(some 31), .load true 3 (.t 9), none⟩,
    ⟨none, .store 3 (.t 8) (.t 31), none⟩])
  .ret))))⟩

structure F_warehouseworld_File (P : Program) where
  id : FuncId
  warehouseworld_Numbers_Next : F_warehouseworld_Numbers_Next P
  warehouseworld_Record : F_warehouseworld_Record P
  has : Has P id [27] (c_warehouseworld_File warehouseworld_Numbers_Next.id warehouseworld_Record.id)

def c_warehouselaw24_file (f_warehouseworld_Name : FuncId) (f_warehouseworld_Source : FuncId) (f_warehouseworld_File : FuncId) : AFunc := ⟨37, [.cell true 3 4],
  (.seq
  (.region [
    ⟨(some 4), .alloc [(.str (bs [])), (.str (bs [])), .nil], none⟩])
  (.seq
  (.region [
    ⟨(some 8), .move (.t 0), none⟩,
    ⟨(some 9), .build [.nil, (.int .i64 0)] [(0, 1, (.t 8))], none⟩,
    ⟨(some 10), .box (.t 9), none⟩,
    ⟨(some 5), .move (.t 10), none⟩])
  (.seq
  (.region [
    ⟨(some 11), .move (.t 1), none⟩,
    ⟨(some 12), .call f_warehouseworld_Name [(.t 11)], none⟩,
    ⟨(some 13), .move (.t 1), none⟩,
    ⟨(some 14), .call f_warehouseworld_Source [(.t 13)], none⟩,
    ⟨(some 15), .move (.t 5), none⟩,
    ⟨(some 16), .call f_warehouseworld_File [(.t 12), (.t 14), (.t 15), (.c (.int .i64 6))], none⟩,
    ⟨(some 6), .alloc [(.str (bs [])), (.str (bs [])), .nil], none⟩,
    ⟨none, .store 3 (.t 6) (.t 16), none⟩])
  (.seq
  (.seq
  (.region [
    ⟨(some 7), .move (.c (.int .i64 0)), none⟩])
  (.block 0
    (.loop
      (.seq
      (.seq
      (.region [
        ⟨(some 17), .move (.t 7), none⟩,
        ⟨(some 18), .fieldAddr 2 (.t 6), none⟩,
        ⟨(some 19), .load false 1 (.t 18), none⟩,
        ⟨(some 20), .len (.t 19), none⟩,
        ⟨(some 21), .bin .lss (.t 17) (.t 20), none⟩])
      (.cond (.t 21)
        .skip
        (.exit 0)))
      (.seq
      (.block 1
        (.seq
        (.region [
          ⟨(some 24), .fieldAddr 2 (.t 6), none⟩,
          ⟨(some 25), .load false 1 (.t 24), none⟩,
          ⟨(some 26), .move (.t 7), none⟩,
          ⟨(some 27), .indexAddr 3 (.t 25) (.t 26), none⟩,
          ⟨(some 28), .fieldAddr 1 (.t 27), none⟩,
          ⟨(some 29), .load false 1 (.t 28), none⟩,
          ⟨(some 30), .bin .lss (.t 29) (.c (.int .i64 0)), none⟩])
        (.cond (.t 30)
          (.region [
            ⟨(some 31), .fieldAddr 2 (.t 6), none⟩,
            ⟨(some 32), .load false 1 (.t 31), none⟩,
            ⟨(some 33), .move (.t 7), none⟩,
            ⟨(some 34), .indexAddr 3 (.t 32) (.t 33), none⟩,
            ⟨(some 35), .fieldAddr 1 (.t 34), none⟩,
            ⟨none, .store 1 (.t 35) (.c (.int .i64 1073741824)), none⟩])
          .skip)))
      (.region [
        ⟨(some 22), .move (.t 7), none⟩,
        ⟨(some 23), .bin .add (.t 22) (.c (.int .i64 1)), none⟩,
        ⟨(some 7), .move (.t 23), none⟩]))))))
  (.seq
  (.region [
    ⟨(some 36), .load true 3 (.t 6), none⟩,
    ⟨none, .store 3 (.t 4) (.t 36), none⟩])
  .ret)))))⟩

structure F_warehouselaw24_file (P : Program) where
  id : FuncId
  warehouseworld_Name : F_warehouseworld_Name P
  warehouseworld_Source : F_warehouseworld_Source P
  warehouseworld_File : F_warehouseworld_File P
  has : Has P id [] (c_warehouselaw24_file warehouseworld_Name.id warehouseworld_Source.id warehouseworld_File.id)

def c_warehouseworld_SameBytes : AFunc := ⟨10, [.tmp 4],
  (.seq
  (.region [
    ⟨(some 4), .move (.c (.bool false)), none⟩])
  (.seq
  (.region [
    ⟨(some 5), .move (.t 0), none⟩,
    ⟨(some 6), .convBS (.t 5), none⟩,
    ⟨(some 7), .move (.t 1), none⟩,
    ⟨(some 8), .convBS (.t 7), none⟩,
    ⟨(some 9), .bin .eql (.t 6) (.t 8), none⟩,
    ⟨(some 4), .move (.t 9), none⟩])
  .ret))⟩

structure F_warehouseworld_SameBytes (P : Program) where
  id : FuncId
  has : Has P id [] c_warehouseworld_SameBytes

def c_warehouseref24_reader_take : AFunc := ⟨40, [.tmp 4],
  (.seq
  (.region [
    ⟨(some 4), .move (.c .nil), none⟩])
  (.seq
  (.seq
  (.region [
    ⟨(some 6), .move (.t 0), none⟩,
    ⟨(some 7), .nop (.t 6), none⟩,
    ⟨(some 8), .fieldAddr 1 (.t 7), none⟩,
    ⟨(some 9), .load false 1 (.t 8), none⟩,
    ⟨(some 10), .move (.t 9), none⟩,
    ⟨(some 11), .move (.t 1), some (some 10, false)⟩,
    ⟨(some 12), .move (.t 0), some (some 10, false)⟩,
    ⟨(some 13), .nop (.t 12), some (some 10, false)⟩,
    ⟨(some 14), .fieldAddr 0 (.t 13), some (some 10, false)⟩,
    ⟨(some 15), .load false 1 (.t 14), some (some 10, false)⟩,
    ⟨(some 16), .len (.t 15), some (some 10, false)⟩,
    ⟨(some 17), .bin .gtr (.t 11) (.t 16), some (some 10, false)⟩,
    ⟨(some 18), .pick (.t 10) (.c (.bool true)) (.t 17), none⟩])
  (.cond (.t 18)
    (.seq
    (.region [
      ⟨(some 19), .move (.t 0), none⟩,
      ⟨(some 20), .nop (.t 19), none⟩,
      ⟨(some 21), .fieldAddr 1 (.t 20), none⟩,
      ⟨none, .store 1 (.t 21) (.c (.bool true)), none⟩])
    (.seq
    (.region [
      ⟨(some 22), .move (.t 1), none⟩,
      ⟨(some 23), .mkSlice 1 1 [(.int .u8 0)] (.t 22) (.t 22), none⟩,
      ⟨(some 4), .move (.t 23), none⟩])
    .ret))
    .skip))
  (.seq
  (.region [
    ⟨(some 24), .move (.t 0), none⟩,
    ⟨(some 25), .nop (.t 24), none⟩,
    ⟨(some 26), .fieldAddr 0 (.t 25), none⟩,
    ⟨(some 27), .load false 1 (.t 26), none⟩,
    ⟨(some 28), .move (.t 1), none⟩,
    ⟨(some 29), .slice 1 (.t 27) none (some (.t 28)), none⟩,
    ⟨(some 5), .move (.t 29), none⟩])
  (.seq
  (.region [
    ⟨(some 30), .move (.t 0), none⟩,
    ⟨(some 31), .move (.t 0), none⟩,
    ⟨(some 32), .nop (.t 31), none⟩,
    ⟨(some 33), .fieldAddr 0 (.t 32), none⟩,
    ⟨(some 34), .load false 1 (.t 33), none⟩,
    ⟨(some 35), .move (.t 1), none⟩,
    ⟨(some 36), .slice 1 (.t 34) (some (.t 35)) none, none⟩,
    ⟨(some 37), .nop (.t 30), none⟩,
    ⟨(some 38), .fieldAddr 0 (.t 37), none⟩,
    ⟨none, .store 1 (.t 38) (.t 36), none⟩])
  (.seq
  (.region [
    ⟨(some 39), .move (.t 5), none⟩,
    ⟨(some 4), .move (.t 39), none⟩])
  .ret)))))⟩

structure F_warehouseref24_reader_take (P : Program) where
  id : FuncId
  has : Has P id [] c_warehouseref24_reader_take

def c_warehouseref24_reader_number (f_warehouseref24_reader_take : FuncId) : AFunc := ⟨23, [.tmp 4],
  (.seq
  (.region [
    ⟨(some 4), .move (.c (.int .i64 0)), none⟩])
  (.seq
  (.region [
    ⟨(some 5), .move (.c (.int .i64 0)), none⟩])
  (.seq
  (.seq
  (.region [
    ⟨(some 8), .move (.t 0), none⟩,
    ⟨(some 9), .move (.t 1), none⟩,
    ⟨(some 10), .call f_warehouseref24_reader_take [(.t 8), (.t 9)], none⟩,
    ⟨(some 11), .len (.t 10), none⟩,
    ⟨(some 12), .move (.c (.int .i64 0)), none⟩])
  (.block 0
    (.loop
      (.seq
      (.region [
        ⟨(some 13), .bin .lss (.t 12) (.t 11), none⟩])
      (.seq
      (.cond (.t 13)
        .skip
        (.exit 0))
      (.seq
      (.block 1
        (.seq
        (.region [
          ⟨(some 14), .indexAddr 1 (.t 10) (.t 12), none⟩,
          ⟨(some 15), .load false 1 (.t 14), none⟩,
          ⟨(some 7), .move (.t 15), none⟩])
        (.region [
          ⟨(some 16), .move (.t 5), none⟩,
          ⟨(some 17), .bin .mul (.t 16) (.c (.int .i64 256)), none⟩,
          ⟨(some 18), .move (.t 7), none⟩,
          ⟨(some 19), .conv .i64 (.t 18), none⟩,
          ⟨(some 20), .bin .add (.t 17) (.t 19), none⟩,
          ⟨(some 5), .move (.t 20), none⟩])))
      (.region [
        ⟨(some 21), .bin .add (.t 12) (.c (.int .i64 1)), none⟩,
        ⟨(some 12), .move (.t 21), none⟩])))))))
  (.seq
  (.region [
    ⟨(some 22), .move (.t 5), none⟩,
    ⟨(some 4), .move (.t 22), none⟩])
  .ret))))⟩

structure F_warehouseref24_reader_number (P : Program) where
  id : FuncId
  warehouseref24_reader_take : F_warehouseref24_reader_take P
  has : Has P id [] (c_warehouseref24_reader_number warehouseref24_reader_take.id)

def c_warehouseref24_Decode (f_warehouseref24_Checksum : FuncId) (f_warehouseref24_number : FuncId) (f_warehouseref24_reader_take : FuncId) (f_warehouseref24_reader_number : FuncId) (f_warehouseref1_Decode : FuncId) (f_warehouseref24_Encode : FuncId) : AFunc := ⟨119, [.cell true 3 2, .tmp 3],
  (.seq
  (.region [
    ⟨(some 2), .alloc [(.str (bs [])), (.str (bs [])), .nil], none⟩,
    ⟨(some 3), .move (.c (.int .i64 0)), none⟩])
  (.seq
  (.seq
  (.region [
    ⟨(some 12), .move (.t 0), none⟩,
    ⟨(some 13), .len (.t 12), none⟩,
    ⟨(some 14), .bin .gtr (.t 13) (.c (.int .i64 65536)), none⟩])
  (.cond (.t 14)
    (.seq
    (.region [
      ⟨(some 15), .build [(.str (bs [])), (.str (bs [])), .nil] [], none⟩,
      ⟨none, .store 3 (.t 2) (.t 15), none⟩,
      ⟨(some 3), .move (.c (.int .i64 2)), none⟩])
    .ret)
    .skip))
  (.seq
  (.seq
  (.draw [
    (⟨(some 16), .move (.t 0), none⟩, []),
    (⟨(some 17), .len (.t 16), none⟩, []),
    (⟨(some 18), .bin .lss (.t 17) (.c (.int .i64 4)), none⟩, []),
    (⟨(some 19), .move (.t 18), none⟩, []),
    (⟨(some 20), .move (.t 0), some (some 19, false)⟩, []),
    (⟨(some 21), .move (.t 0), some (some 19, false)⟩, []),
    (⟨(some 22), .len (.t 21), some (some 19, false)⟩, []),
    (⟨(some 23), .bin .sub (.t 22) (.c (.int .i64 4)), some (some 19, false)⟩, []),
    (⟨(some 24), .slice 1 (.t 20) none (some (.t 23)), some (some 19, false)⟩, []),
    (⟨(some 25), .call f_warehouseref24_Checksum [(.t 24)], some (some 19, false)⟩, []),
    (⟨(some 26), .conv .i64 (.t 25), some (some 19, false)⟩, []),
    (⟨(some 27), .call f_warehouseref24_number [(.t 26), (.c (.int .i64 4))], some (some 19, false)⟩, []),
    (⟨(some 28), .convBS (.t 27), some (some 19, false)⟩, []),
    (⟨(some 29), .move (.t 0), some (some 19, false)⟩, []),
    (⟨(some 30), .move (.t 0), some (some 19, false)⟩, []),
    (⟨(some 31), .len (.t 30), some (some 19, false)⟩, []),
    (⟨(some 32), .bin .sub (.t 31) (.c (.int .i64 4)), some (some 19, false)⟩, []),
    (⟨(some 33), .slice 1 (.t 29) (some (.t 32)) none, some (some 19, false)⟩, []),
    (⟨(some 34), .convBS (.t 33), some (some 19, false)⟩, []),
    (⟨(some 35), .bin .neq (.t 28) (.t 34), some (some 19, false)⟩, []),
    (⟨(some 36), .pick (.t 19) (.c (.bool true)) (.t 35), none⟩, [])])
  (.cond (.t 36)
    (.seq
    (.region [
      ⟨(some 37), .build [(.str (bs [])), (.str (bs [])), .nil] [], none⟩,
      ⟨none, .store 3 (.t 2) (.t 37), none⟩,
      ⟨(some 3), .move (.c (.int .i64 12)), none⟩])
    .ret)
    .skip))
  (.seq
  (.region [
    ⟨(some 38), .move (.t 0), none⟩,
    ⟨(some 39), .move (.t 0), none⟩,
    ⟨(some 40), .len (.t 39), none⟩,
    ⟨(some 41), .bin .sub (.t 40) (.c (.int .i64 4)), none⟩,
    ⟨(some 42), .slice 1 (.t 38) none (some (.t 41)), none⟩,
    ⟨(some 43), .build [.nil, (.bool false)] [(0, 1, (.t 42))], none⟩,
    ⟨(some 44), .box (.t 43), none⟩,
    ⟨(some 4), .move (.t 44), none⟩])
  (.seq
  (.region [
    ⟨(some 45), .move (.t 4), none⟩,
    ⟨(some 46), .call f_warehouseref24_reader_take [(.t 45), (.c (.int .i64 4))], none⟩])
  (.seq
  (.region [
    ⟨(some 5), .alloc [(.str (bs [])), (.str (bs [])), .nil], none⟩])
  (.seq
  (.region [
    ⟨(some 47), .move (.t 4), none⟩,
    ⟨(some 48), .move (.t 4), none⟩,
    ⟨(some 49), .call f_warehouseref24_reader_number [(.t 48), (.c (.int .i64 1))], none⟩,
    ⟨(some 50), .call f_warehouseref24_reader_take [(.t 47), (.t 49)], none⟩,
    ⟨(some 51), .convBS (.t 50), none⟩,
    ⟨(some 52), .fieldAddr 0 (.t 5), none⟩,
    ⟨none, .store 1 (.t 52) (.t 51), none⟩])
  (.seq
  (.region [
    ⟨(some 53), .move (.t 4), none⟩,
    ⟨(some 54), .move (.t 4), none⟩,
    ⟨(some 55), .call f_warehouseref24_reader_number [(.t 54), (.c (.int .i64 1))], none⟩,
    ⟨(some 56), .call f_warehouseref24_reader_take [(.t 53), (.t 55)], none⟩,
    ⟨(some 57), .convBS (.t 56), none⟩,
    ⟨(some 58), .fieldAddr 1 (.t 5), none⟩,
    ⟨none, .store 1 (.t 58) (.t 57), none⟩])
  (.seq
  (.seq
  (.region [
    ⟨(some 59), .move (.t 4), none⟩,
    ⟨(some 60), .call f_warehouseref24_reader_number [(.t 59), (.c (.int .i64 2))], none⟩,
    ⟨(some 6), .move (.t 60), none⟩])
  (.block 0
    (.loop
      (.seq
      (.seq
      (.seq
      (.region [
        ⟨(some 61), .move (.t 6), none⟩,
        ⟨(some 62), .bin .gtr (.t 61) (.c (.int .i64 0)), none⟩,
        ⟨(some 63), .move (.t 62), none⟩,
        ⟨(some 64), .move (.t 4), some (some 63, true)⟩,
        ⟨(some 65), .nop (.t 64), some (some 63, true)⟩,
        ⟨(some 66), .fieldAddr 1 (.t 65), some (some 63, true)⟩,
        ⟨(some 67), .load false 1 (.t 66), some (some 63, true)⟩,
        ⟨(some 68), .un .not (.t 67), some (some 63, true)⟩,
        ⟨(some 69), .pick (.t 63) (.t 68) (.c (.bool false)), none⟩])
      .ghost)
      (.cond (.t 69)
        .skip
        (.exit 0)))
      (.seq
      (.block 1
        (.seq
        (.region [
          ⟨(some 72), .move (.t 4), none⟩,
          ⟨(some 73), .call f_warehouseref24_reader_number [(.t 72), (.c (.int .i64 1))], none⟩,
          ⟨(some 74), .bin .eql (.t 73) (.c (.int .i64 1)), none⟩,
          ⟨(some 75), .move (.t 4), none⟩,
          ⟨(some 76), .call f_warehouseref24_reader_number [(.t 75), (.c (.int .i64 4))], none⟩,
          ⟨(some 77), .build [(.bool false), (.int .i64 0), .nil] [(0, 1, (.t 74)), (1, 1, (.t 76))], none⟩,
          ⟨(some 7), .alloc [(.bool false), (.int .i64 0), .nil], none⟩,
          ⟨none, .store 3 (.t 7) (.t 77), none⟩])
        (.seq
        (.region [
          ⟨(some 79), .move (.t 4), none⟩,
          ⟨(some 80), .move (.t 4), none⟩,
          ⟨(some 81), .call f_warehouseref24_reader_number [(.t 80), (.c (.int .i64 2))], none⟩,
          ⟨(some 82), .call f_warehouseref24_reader_take [(.t 79), (.t 81)], none⟩,
          ⟨(some 83), .call f_warehouseref1_Decode [(.t 82)], none⟩,
          ⟨(some 78), .move (.t 83), none⟩,
          ⟨(some 84), .extract (.t 78) 0, none⟩,
          ⟨(some 85), .extract (.t 78) 1, none⟩,
          ⟨(some 8), .move (.t 84), none⟩,
          ⟨(some 9), .move (.t 85), none⟩])
        (.seq
        (.seq
        (.region [
          ⟨(some 86), .move (.t 9), none⟩,
          ⟨(some 87), .bin .neq (.t 86) (.c (.int .i64 0)), none⟩])
        (.cond (.t 87)
          (.seq
          (.region [
            ⟨(some 88), .build [(.str (bs [])), (.str (bs [])), .nil] [], none⟩,
            ⟨none, .store 3 (.t 2) (.t 88), none⟩,
            ⟨(some 3), .move (.c (.int .i64 11)), none⟩])
          .ret)
          .skip))
        (.seq
        (.region [
          ⟨(some 89), .move (.t 8), none⟩,
          ⟨(some 90), .fieldAddr 2 (.t 7), none⟩,
          ⟨none, .store 1 (.t 90) (.t 89), none⟩])
        (.region [
          ⟨(some 91), .fieldAddr 2 (.t 5), none⟩,
          ⟨(some 92), .load false 1 (.t 91), none⟩,
          ⟨(some 93), .load true 3 (.t 7), none⟩,
          ⟨(some 94), .buildSlice 3 1 [(.bool false), (.int .i64 0), .nil] [(0, (.t 93))], none⟩,
          ⟨(some 95), .append 3 40 [(.bool false), (.int .i64 0), .nil] (.t 92) (.t 94), none⟩,
          ⟨(some 96), .fieldAddr 2 (.t 5), none⟩,
          ⟨none, .store 1 (.t 96) (.t 95), none⟩]))))))
      (.region [
        ⟨(some 70), .move (.t 6), none⟩,
        ⟨(some 71), .bin .sub (.t 70) (.c (.int .i64 1)), none⟩,
        ⟨(some 6), .move (.t 71), none⟩]))))))
  (.seq
  (.region [
    ⟨(some 98), .load true 3 (.t 5), none⟩,
    ⟨(some 99), .call f_warehouseref24_Encode [(.t 98)], none⟩,
    ⟨(some 97), .move (.t 99), none⟩,
    ⟨(some 100), .extract (.t 97) 0, none⟩,
    ⟨(some 101), .extract (.t 97) 1, none⟩,
    ⟨(some 10), .move (.t 100), none⟩,
    ⟨(some 11), .move (.t 101), none⟩])
  (.seq
  (.seq
  (.region [
    ⟨(some 102), .move (.t 4), none⟩,
    ⟨(some 103), .nop (.t 102), none⟩,
    ⟨(some 104), .fieldAddr 1 (.t 103), none⟩,
    ⟨(some 105), .load false 1 (.t 104), none⟩,
    ⟨(some 106), .move (.t 105), none⟩,
    ⟨(some 107), .move (.t 11), some (some 106, false)⟩,
    ⟨(some 108), .bin .neq (.t 107) (.c (.int .i64 0)), some (some 106, false)⟩,
    ⟨(some 109), .pick (.t 106) (.c (.bool true)) (.t 108), none⟩,
    ⟨(some 110), .move (.t 109), none⟩,
    ⟨(some 111), .move (.t 10), some (some 110, false)⟩,
    ⟨(some 112), .convBS (.t 111), some (some 110, false)⟩,
    ⟨(some 113), .move (.t 0), some (some 110, false)⟩,
    ⟨(some 114), .convBS (.t 113), some (some 110, false)⟩,
    ⟨(some 115), .bin .neq (.t 112) (.t 114), some (some 110, false)⟩,
    ⟨(some 116), .pick (.t 110) (.c (.bool true)) (.t 115), none⟩])
  (.cond (.t 116)
    (.seq
    (.region [
      ⟨(some 117), .build [(.str (bs [])), (.str (bs [])), .nil] [], none⟩,
      ⟨none, .store 3 (.t 2) (.t 117), none⟩,
      ⟨(some 3), .move (.c (.int .i64 11)), none⟩])
    .ret)
    .skip))
  (.seq
  (.region [
    ⟨(some 118), .load true 3 (.t 5), none⟩,
    ⟨none, .store 3 (.t 2) (.t 118), none⟩,
    ⟨(some 3), .move (.c (.int .i64 0)), none⟩])
  .ret))))))))))))⟩

structure F_warehouseref24_Decode (P : Program) where
  id : FuncId
  warehouseref24_Checksum : F_warehouseref24_Checksum P
  warehouseref24_number : F_warehouseref24_number P
  warehouseref24_reader_take : F_warehouseref24_reader_take P
  warehouseref24_reader_number : F_warehouseref24_reader_number P
  warehouseref1_Decode : F_warehouseref1_Decode P
  warehouseref24_Encode : F_warehouseref24_Encode P
  has : Has P id [100069] (c_warehouseref24_Decode warehouseref24_Checksum.id warehouseref24_number.id warehouseref24_reader_take.id warehouseref24_reader_number.id warehouseref1_Decode.id warehouseref24_Encode.id)

def c_warehouseref22_SameRow : AFunc := ⟨26, [.tmp 4],
  (.seq
  (.region [
    ⟨(some 4), .move (.c (.bool false)), none⟩])
  (.seq
  (.seq
  (.region [
    ⟨(some 6), .move (.t 0), none⟩,
    ⟨(some 7), .len (.t 6), none⟩,
    ⟨(some 8), .move (.t 1), none⟩,
    ⟨(some 9), .len (.t 8), none⟩,
    ⟨(some 10), .bin .neq (.t 7) (.t 9), none⟩])
  (.cond (.t 10)
    (.seq
    (.region [
      ⟨(some 4), .move (.c (.bool false)), none⟩])
    .ret)
    .skip))
  (.seq
  (.seq
  (.region [
    ⟨(some 5), .move (.c (.int .i64 0)), none⟩])
  (.block 0
    (.loop
      (.seq
      (.seq
      (.region [
        ⟨(some 11), .move (.t 5), none⟩,
        ⟨(some 12), .move (.t 0), none⟩,
        ⟨(some 13), .len (.t 12), none⟩,
        ⟨(some 14), .bin .lss (.t 11) (.t 13), none⟩])
      (.cond (.t 14)
        .skip
        (.exit 0)))
      (.seq
      (.block 1
        (.seq
        (.draw [
          (⟨(some 17), .move (.t 0), none⟩, []),
          (⟨(some 18), .move (.t 5), none⟩, []),
          (⟨(some 19), .indexAddr 3 (.t 17) (.t 18), none⟩, []),
          (⟨(some 20), .load true 3 (.t 19), none⟩, []),
          (⟨(some 21), .move (.t 1), none⟩, []),
          (⟨(some 22), .move (.t 5), none⟩, []),
          (⟨(some 23), .indexAddr 3 (.t 21) (.t 22), none⟩, []),
          (⟨(some 24), .load true 3 (.t 23), none⟩, []),
          (⟨(some 25), .eqs true [1, 1, 2] (.t 20) (.t 24), none⟩, [])])
        (.cond (.t 25)
          (.seq
          (.region [
            ⟨(some 4), .move (.c (.bool false)), none⟩])
          .ret)
          .skip)))
      (.region [
        ⟨(some 15), .move (.t 5), none⟩,
        ⟨(some 16), .bin .add (.t 15) (.c (.int .i64 1)), none⟩,
        ⟨(some 5), .move (.t 16), none⟩]))))))
  (.seq
  (.region [
    ⟨(some 4), .move (.c (.bool true)), none⟩])
  .ret))))⟩

structure F_warehouseref22_SameRow (P : Program) where
  id : FuncId
  has : Has P id [] c_warehouseref22_SameRow

def c_warehouseref24_SameRecord (f_warehouseref22_SameRow : FuncId) : AFunc := ⟨24, [.tmp 4],
  (.seq
  (.region [
    ⟨(some 2), .box (.t 0), none⟩,
    ⟨(some 3), .box (.t 1), none⟩,
    ⟨(some 4), .move (.c (.bool false)), none⟩])
  (.seq
  (.region [
    ⟨(some 5), .fieldAddr 0 (.t 2), none⟩,
    ⟨(some 6), .load false 1 (.t 5), none⟩,
    ⟨(some 7), .fieldAddr 0 (.t 3), none⟩,
    ⟨(some 8), .load false 1 (.t 7), none⟩,
    ⟨(some 9), .eqb false (.t 6) (.t 8), none⟩,
    ⟨(some 10), .move (.t 9), none⟩,
    ⟨(some 11), .fieldAddr 1 (.t 2), some (some 10, true)⟩,
    ⟨(some 12), .load false 1 (.t 11), some (some 10, true)⟩,
    ⟨(some 13), .fieldAddr 1 (.t 3), some (some 10, true)⟩,
    ⟨(some 14), .load false 1 (.t 13), some (some 10, true)⟩,
    ⟨(some 15), .bin .eql (.t 12) (.t 14), some (some 10, true)⟩,
    ⟨(some 16), .pick (.t 10) (.t 15) (.c (.bool false)), none⟩,
    ⟨(some 17), .move (.t 16), none⟩,
    ⟨(some 18), .fieldAddr 2 (.t 2), some (some 17, true)⟩,
    ⟨(some 19), .load false 1 (.t 18), some (some 17, true)⟩,
    ⟨(some 20), .fieldAddr 2 (.t 3), some (some 17, true)⟩,
    ⟨(some 21), .load false 1 (.t 20), some (some 17, true)⟩,
    ⟨(some 22), .call f_warehouseref22_SameRow [(.t 19), (.t 21)], some (some 17, true)⟩,
    ⟨(some 23), .pick (.t 17) (.t 22) (.c (.bool false)), none⟩,
    ⟨(some 4), .move (.t 23), none⟩])
  .ret))⟩

structure F_warehouseref24_SameRecord (P : Program) where
  id : FuncId
  warehouseref22_SameRow : F_warehouseref22_SameRow P
  has : Has P id [] (c_warehouseref24_SameRecord warehouseref22_SameRow.id)

def c_warehouseref24_SameFile (f_warehouseref24_SameRecord : FuncId) : AFunc := ⟨46, [.tmp 4],
  (.seq
  (.region [
    ⟨(some 2), .box (.t 0), none⟩,
    ⟨(some 3), .box (.t 1), none⟩,
    ⟨(some 4), .move (.c (.bool false)), none⟩])
  (.seq
  (.seq
  (.region [
    ⟨(some 6), .fieldAddr 0 (.t 2), none⟩,
    ⟨(some 7), .load false 1 (.t 6), none⟩,
    ⟨(some 8), .fieldAddr 0 (.t 3), none⟩,
    ⟨(some 9), .load false 1 (.t 8), none⟩,
    ⟨(some 10), .bin .neq (.t 7) (.t 9), none⟩,
    ⟨(some 11), .move (.t 10), none⟩,
    ⟨(some 12), .fieldAddr 1 (.t 2), some (some 11, false)⟩,
    ⟨(some 13), .load false 1 (.t 12), some (some 11, false)⟩,
    ⟨(some 14), .fieldAddr 1 (.t 3), some (some 11, false)⟩,
    ⟨(some 15), .load false 1 (.t 14), some (some 11, false)⟩,
    ⟨(some 16), .bin .neq (.t 13) (.t 15), some (some 11, false)⟩,
    ⟨(some 17), .pick (.t 11) (.c (.bool true)) (.t 16), none⟩,
    ⟨(some 18), .move (.t 17), none⟩,
    ⟨(some 19), .fieldAddr 2 (.t 2), some (some 18, false)⟩,
    ⟨(some 20), .load false 1 (.t 19), some (some 18, false)⟩,
    ⟨(some 21), .len (.t 20), some (some 18, false)⟩,
    ⟨(some 22), .fieldAddr 2 (.t 3), some (some 18, false)⟩,
    ⟨(some 23), .load false 1 (.t 22), some (some 18, false)⟩,
    ⟨(some 24), .len (.t 23), some (some 18, false)⟩,
    ⟨(some 25), .bin .neq (.t 21) (.t 24), some (some 18, false)⟩,
    ⟨(some 26), .pick (.t 18) (.c (.bool true)) (.t 25), none⟩])
  (.cond (.t 26)
    (.seq
    (.region [
      ⟨(some 4), .move (.c (.bool false)), none⟩])
    .ret)
    .skip))
  (.seq
  (.seq
  (.region [
    ⟨(some 5), .move (.c (.int .i64 0)), none⟩])
  (.block 0
    (.loop
      (.seq
      (.seq
      (.region [
        ⟨(some 27), .move (.t 5), none⟩,
        ⟨(some 28), .fieldAddr 2 (.t 2), none⟩,
        ⟨(some 29), .load false 1 (.t 28), none⟩,
        ⟨(some 30), .len (.t 29), none⟩,
        ⟨(some 31), .bin .lss (.t 27) (.t 30), none⟩])
      (.cond (.t 31)
        .skip
        (.exit 0)))
      (.seq
      (.block 1
        (.seq
        (.draw [
          (⟨(some 34), .fieldAddr 2 (.t 2), none⟩, []),
          (⟨(some 35), .load false 1 (.t 34), none⟩, []),
          (⟨(some 36), .move (.t 5), none⟩, []),
          (⟨(some 37), .indexAddr 3 (.t 35) (.t 36), none⟩, []),
          (⟨(some 38), .load true 3 (.t 37), none⟩, []),
          (⟨(some 39), .fieldAddr 2 (.t 3), none⟩, []),
          (⟨(some 40), .load false 1 (.t 39), none⟩, []),
          (⟨(some 41), .move (.t 5), none⟩, []),
          (⟨(some 42), .indexAddr 3 (.t 40) (.t 41), none⟩, []),
          (⟨(some 43), .load true 3 (.t 42), none⟩, []),
          (⟨(some 44), .call f_warehouseref24_SameRecord [(.t 38), (.t 43)], none⟩, []),
          (⟨(some 45), .un .not (.t 44), none⟩, [])])
        (.cond (.t 45)
          (.seq
          (.region [
            ⟨(some 4), .move (.c (.bool false)), none⟩])
          .ret)
          .skip)))
      (.region [
        ⟨(some 32), .move (.t 5), none⟩,
        ⟨(some 33), .bin .add (.t 32) (.c (.int .i64 1)), none⟩,
        ⟨(some 5), .move (.t 33), none⟩]))))))
  (.seq
  (.region [
    ⟨(some 4), .move (.c (.bool true)), none⟩])
  .ret))))⟩

structure F_warehouseref24_SameFile (P : Program) where
  id : FuncId
  warehouseref24_SameRecord : F_warehouseref24_SameRecord P
  has : Has P id [] (c_warehouseref24_SameFile warehouseref24_SameRecord.id)

def c_warehouselaw24_BatchBack (f_warehouselaw24_known : FuncId) (f_warehouselaw24_file : FuncId) (f_batch_Encode : FuncId) (f_batch_Decode : FuncId) (f_warehouseref24_SameFile : FuncId) (f_warehouseworld_SameBytes : FuncId) : AFunc := ⟨72, [.tmp 8],
  (.seq
  (.region [
    ⟨(some 8), .move (.c (.bool false)), none⟩])
  (.seq
  (.seq
  (.region [
    ⟨(some 17), .move (.t 0), none⟩,
    ⟨(some 18), .len (.t 17), none⟩,
    ⟨(some 19), .bin .gtr (.t 18) (.c (.int .i64 80)), none⟩,
    ⟨(some 20), .move (.t 19), none⟩,
    ⟨(some 21), .move (.t 1), some (some 20, false)⟩,
    ⟨(some 22), .len (.t 21), some (some 20, false)⟩,
    ⟨(some 23), .bin .gtr (.t 22) (.c (.int .i64 80)), some (some 20, false)⟩,
    ⟨(some 24), .pick (.t 20) (.c (.bool true)) (.t 23), none⟩])
  (.cond (.t 24)
    (.seq
    (.region [
      ⟨(some 25), .call f_warehouselaw24_known [], none⟩,
      ⟨(some 8), .move (.t 25), none⟩])
    .ret)
    .skip))
  (.seq
  (.region [
    ⟨(some 26), .move (.t 0), none⟩,
    ⟨(some 27), .move (.t 2), none⟩,
    ⟨(some 28), .call f_warehouselaw24_file [(.t 26), (.t 27)], none⟩,
    ⟨(some 29), .move (.t 1), none⟩,
    ⟨(some 30), .move (.t 3), none⟩,
    ⟨(some 31), .call f_warehouselaw24_file [(.t 29), (.t 30)], none⟩,
    ⟨(some 9), .alloc [(.str (bs [])), (.str (bs [])), .nil], none⟩,
    ⟨(some 10), .alloc [(.str (bs [])), (.str (bs [])), .nil], none⟩,
    ⟨none, .store 3 (.t 9) (.t 28), none⟩,
    ⟨none, .store 3 (.t 10) (.t 31), none⟩])
  (.seq
  (.region [
    ⟨(some 33), .load true 3 (.t 9), none⟩,
    ⟨(some 34), .call f_batch_Encode [(.t 33)], none⟩,
    ⟨(some 32), .move (.t 34), none⟩,
    ⟨(some 35), .extract (.t 32) 0, none⟩,
    ⟨(some 36), .extract (.t 32) 1, none⟩,
    ⟨(some 11), .move (.t 35), none⟩,
    ⟨(some 12), .move (.t 36), none⟩])
  (.seq
  (.region [
    ⟨(some 38), .load true 3 (.t 10), none⟩,
    ⟨(some 39), .call f_batch_Encode [(.t 38)], none⟩,
    ⟨(some 37), .move (.t 39), none⟩,
    ⟨(some 40), .extract (.t 37) 0, none⟩,
    ⟨(some 41), .extract (.t 37) 1, none⟩,
    ⟨(some 13), .move (.t 40), none⟩,
    ⟨(some 14), .move (.t 41), none⟩])
  (.seq
  (.seq
  (.region [
    ⟨(some 42), .move (.t 12), none⟩,
    ⟨(some 43), .bin .neq (.t 42) (.c (.int .i64 0)), none⟩,
    ⟨(some 44), .move (.t 43), none⟩,
    ⟨(some 45), .move (.t 14), some (some 44, false)⟩,
    ⟨(some 46), .bin .neq (.t 45) (.c (.int .i64 0)), some (some 44, false)⟩,
    ⟨(some 47), .pick (.t 44) (.c (.bool true)) (.t 46), none⟩])
  (.cond (.t 47)
    (.seq
    (.region [
      ⟨(some 8), .move (.c (.bool false)), none⟩])
    .ret)
    .skip))
  (.seq
  (.region [
    ⟨(some 49), .move (.t 11), none⟩,
    ⟨(some 50), .call f_batch_Decode [(.t 49)], none⟩,
    ⟨(some 48), .move (.t 50), none⟩,
    ⟨(some 51), .extract (.t 48) 0, none⟩,
    ⟨(some 52), .extract (.t 48) 1, none⟩,
    ⟨(some 15), .alloc [(.str (bs [])), (.str (bs [])), .nil], none⟩,
    ⟨none, .store 3 (.t 15) (.t 51), none⟩,
    ⟨(some 16), .move (.t 52), none⟩])
  (.seq
  (.draw [
    (⟨(some 53), .move (.t 16), none⟩, []),
    (⟨(some 54), .bin .eql (.t 53) (.c (.int .i64 0)), none⟩, []),
    (⟨(some 55), .move (.t 54), none⟩, []),
    (⟨(some 56), .load true 3 (.t 15), some (some 55, true)⟩, []),
    (⟨(some 57), .load true 3 (.t 9), some (some 55, true)⟩, []),
    (⟨(some 58), .call f_warehouseref24_SameFile [(.t 56), (.t 57)], some (some 55, true)⟩, []),
    (⟨(some 59), .pick (.t 55) (.t 58) (.c (.bool false)), none⟩, []),
    (⟨(some 60), .move (.t 59), none⟩, []),
    (⟨(some 61), .move (.t 11), some (some 60, true)⟩, []),
    (⟨(some 62), .move (.t 13), some (some 60, true)⟩, []),
    (⟨(some 63), .call f_warehouseworld_SameBytes [(.t 61), (.t 62)], some (some 60, true)⟩, []),
    (⟨(some 64), .load true 3 (.t 9), some (some 60, true)⟩, []),
    (⟨(some 65), .load true 3 (.t 10), some (some 60, true)⟩, []),
    (⟨(some 66), .call f_warehouseref24_SameFile [(.t 64), (.t 65)], some (some 60, true)⟩, []),
    (⟨(some 67), .eqb false (.t 63) (.t 66), some (some 60, true)⟩, []),
    (⟨(some 68), .pick (.t 60) (.t 67) (.c (.bool false)), none⟩, []),
    (⟨(some 69), .move (.t 68), none⟩, []),
    (⟨(some 70), .call f_warehouselaw24_known [], some (some 69, true)⟩, []),
    (⟨(some 71), .pick (.t 69) (.t 70) (.c (.bool false)), none⟩, []),
    (⟨(some 8), .move (.t 71), none⟩, [])])
  .ret))))))))⟩

structure F_warehouselaw24_BatchBack (P : Program) where
  id : FuncId
  warehouselaw24_known : F_warehouselaw24_known P
  warehouselaw24_file : F_warehouselaw24_file P
  batch_Encode : F_batch_Encode P
  batch_Decode : F_batch_Decode P
  warehouseref24_SameFile : F_warehouseref24_SameFile P
  warehouseworld_SameBytes : F_warehouseworld_SameBytes P
  has : Has P id [] (c_warehouselaw24_BatchBack warehouselaw24_known.id warehouselaw24_file.id batch_Encode.id batch_Decode.id warehouseref24_SameFile.id warehouseworld_SameBytes.id)

def c_warehouselaw24_BatchTurned (f_warehouselaw24_known : FuncId) (f_warehouselaw24_file : FuncId) (f_batch_Encode : FuncId) (f_warehouseworld_Place : FuncId) (f_batch_Decode : FuncId) (f_warehouseref24_Decode : FuncId) (f_warehouseref24_SameFile : FuncId) : AFunc := ⟨94, [.tmp 12],
  (.seq
  (.region [
    ⟨(some 12), .move (.c (.bool false)), none⟩])
  (.seq
  (.seq
  (.region [
    ⟨(some 23), .move (.t 0), none⟩,
    ⟨(some 24), .len (.t 23), none⟩,
    ⟨(some 25), .bin .gtr (.t 24) (.c (.int .i64 80)), none⟩])
  (.cond (.t 25)
    (.seq
    (.region [
      ⟨(some 26), .call f_warehouselaw24_known [], none⟩,
      ⟨(some 12), .move (.t 26), none⟩])
    .ret)
    .skip))
  (.seq
  (.region [
    ⟨(some 28), .move (.t 0), none⟩,
    ⟨(some 29), .move (.t 1), none⟩,
    ⟨(some 30), .call f_warehouselaw24_file [(.t 28), (.t 29)], none⟩,
    ⟨(some 31), .call f_batch_Encode [(.t 30)], none⟩,
    ⟨(some 27), .move (.t 31), none⟩,
    ⟨(some 32), .extract (.t 27) 0, none⟩,
    ⟨(some 33), .extract (.t 27) 1, none⟩,
    ⟨(some 13), .move (.t 32), none⟩,
    ⟨(some 14), .move (.t 33), none⟩])
  (.seq
  (.seq
  (.region [
    ⟨(some 34), .move (.t 14), none⟩,
    ⟨(some 35), .bin .neq (.t 34) (.c (.int .i64 0)), none⟩,
    ⟨(some 36), .move (.t 35), none⟩,
    ⟨(some 37), .move (.t 13), some (some 36, false)⟩,
    ⟨(some 38), .len (.t 37), some (some 36, false)⟩,
    ⟨(some 39), .bin .eql (.t 38) (.c (.int .i64 0)), some (some 36, false)⟩,
    ⟨(some 40), .pick (.t 36) (.c (.bool true)) (.t 39), none⟩])
  (.cond (.t 40)
    (.seq
    (.region [
      ⟨(some 12), .move (.c (.bool false)), none⟩])
    .ret)
    .skip))
  (.seq
  (.region [
    ⟨(some 41), .move (.t 13), none⟩,
    ⟨(some 42), .append 1 1 [(.int .u8 0)] (.c .nil) (.t 41), none⟩,
    ⟨(some 15), .move (.t 42), none⟩])
  (.seq
  (.region [
    ⟨(some 43), .move (.t 15), none⟩,
    ⟨(some 44), .move (.t 2), none⟩,
    ⟨(some 45), .move (.t 13), none⟩,
    ⟨(some 46), .len (.t 45), none⟩,
    ⟨(some 47), .call f_warehouseworld_Place [(.t 44), (.t 46)], none⟩,
    ⟨(some 48), .indexAddr 1 (.t 43) (.t 47), none⟩,
    ⟨(some 49), .load false 1 (.t 48), none⟩,
    ⟨(some 50), .move (.t 3), none⟩,
    ⟨(some 51), .bin .xor (.t 49) (.t 50), none⟩,
    ⟨(some 52), .indexAddr 1 (.t 43) (.t 47), none⟩,
    ⟨none, .store 1 (.t 52) (.t 51), none⟩])
  (.seq
  (.region [
    ⟨(some 53), .move (.t 13), none⟩,
    ⟨(some 54), .move (.t 4), none⟩,
    ⟨(some 55), .move (.t 13), none⟩,
    ⟨(some 56), .len (.t 55), none⟩,
    ⟨(some 57), .call f_warehouseworld_Place [(.t 54), (.t 56)], none⟩,
    ⟨(some 58), .slice 1 (.t 53) none (some (.t 57)), none⟩,
    ⟨(some 59), .append 1 1 [(.int .u8 0)] (.c .nil) (.t 58), none⟩,
    ⟨(some 16), .move (.t 59), none⟩])
  (.seq
  (.seq
  (.seq
  (.region [
    ⟨(some 60), .move (.t 15), none⟩,
    ⟨(some 61), .move (.t 16), none⟩,
    ⟨(some 62), .move (.t 13), none⟩,
    ⟨(some 63), .append 1 1 [(.int .u8 0)] (.c .nil) (.t 62), none⟩,
    ⟨(some 64), .move (.t 5), none⟩,
    ⟨(some 65), .buildSlice 1 1 [(.int .u8 0)] [(0, (.t 64))], none⟩,
    ⟨(some 66), .append 1 1 [(.int .u8 0)] (.t 63) (.t 65), none⟩,
    ⟨(some 67), .buildSliceO 1 3 [.nil] [(0, (.t 60)), (1, (.t 61)), (2, (.t 66))], none⟩,
    ⟨(some 68), .len (.t 67), none⟩,
    ⟨(some 69), .move (.c (.int .i64 0)), none⟩])
  .ghost)
  (.block 0
    (.loop
      (.seq
      (.region [
        ⟨(some 70), .bin .lss (.t 69) (.t 68), none⟩])
      (.seq
      (.cond (.t 70)
        .skip
        (.exit 0))
      (.seq
      (.block 1
        (.seq
        (.region [
          ⟨(some 71), .indexAddr 1 (.t 67) (.t 69), none⟩,
          ⟨(some 72), .load false 1 (.t 71), none⟩,
          ⟨(some 18), .move (.t 72), none⟩])
        (.seq
        (.region [
          ⟨(some 74), .move (.t 18), none⟩,
          ⟨(some 75), .call f_batch_Decode [(.t 74)], none⟩,
          ⟨(some 73), .move (.t 75), none⟩,
          ⟨(some 76), .extract (.t 73) 0, none⟩,
          ⟨(some 77), .extract (.t 73) 1, none⟩,
          ⟨(some 19), .alloc [(.str (bs [])), (.str (bs [])), .nil], none⟩,
          ⟨none, .store 3 (.t 19) (.t 76), none⟩,
          ⟨(some 20), .move (.t 77), none⟩])
        (.seq
        (.region [
          ⟨(some 79), .move (.t 18), none⟩,
          ⟨(some 80), .call f_warehouseref24_Decode [(.t 79)], none⟩,
          ⟨(some 78), .move (.t 80), none⟩,
          ⟨(some 81), .extract (.t 78) 0, none⟩,
          ⟨(some 82), .extract (.t 78) 1, none⟩,
          ⟨(some 21), .alloc [(.str (bs [])), (.str (bs [])), .nil], none⟩,
          ⟨none, .store 3 (.t 21) (.t 81), none⟩,
          ⟨(some 22), .move (.t 82), none⟩])
        (.seq
        (.region [
          ⟨(some 83), .move (.t 20), none⟩,
          ⟨(some 84), .move (.t 22), none⟩,
          ⟨(some 85), .bin .neq (.t 83) (.t 84), none⟩,
          ⟨(some 86), .move (.t 85), none⟩,
          ⟨(some 87), .load true 3 (.t 19), some (some 86, false)⟩,
          ⟨(some 88), .load true 3 (.t 21), some (some 86, false)⟩,
          ⟨(some 89), .call f_warehouseref24_SameFile [(.t 87), (.t 88)], some (some 86, false)⟩,
          ⟨(some 90), .un .not (.t 89), some (some 86, false)⟩,
          ⟨(some 91), .pick (.t 86) (.c (.bool true)) (.t 90), none⟩])
        (.cond (.t 91)
          (.seq
          (.region [
            ⟨(some 12), .move (.c (.bool false)), none⟩])
          .ret)
          .skip))))))
      (.region [
        ⟨(some 92), .bin .add (.t 69) (.c (.int .i64 1)), none⟩,
        ⟨(some 69), .move (.t 92), none⟩])))))))
  (.seq
  (.region [
    ⟨(some 93), .call f_warehouselaw24_known [], none⟩,
    ⟨(some 12), .move (.t 93), none⟩])
  .ret)))))))))⟩

structure F_warehouselaw24_BatchTurned (P : Program) where
  id : FuncId
  warehouselaw24_known : F_warehouselaw24_known P
  warehouselaw24_file : F_warehouselaw24_file P
  batch_Encode : F_batch_Encode P
  warehouseworld_Place : F_warehouseworld_Place P
  batch_Decode : F_batch_Decode P
  warehouseref24_Decode : F_warehouseref24_Decode P
  warehouseref24_SameFile : F_warehouseref24_SameFile P
  has : Has P id [67, 100067] (c_warehouselaw24_BatchTurned warehouselaw24_known.id warehouselaw24_file.id batch_Encode.id warehouseworld_Place.id batch_Decode.id warehouseref24_Decode.id warehouseref24_SameFile.id)

end Go.AW

namespace Go.AW
open Go.RowKit
inductive Sh where
  | bool
  | int (k : IntKind)
  | str
  | slice (fs : List Sh)

def shapeFields (P : Program) (sh : TypeId → Option (List Sh)) : List Field → Nat → Option (List Sh)
  | [], _ => some []
  | f :: r, off => if f.offset = off then match sh f.type, shapeFields P sh r (off + P.cellsOf f.type) with
      | some a, some b => if a.length = P.cellsOf f.type then some (a ++ b) else none
      | _, _ => none
    else none

def shapeOf (P : Program) : Nat → TypeId → Option (List Sh)
  | 0, _ => none
  | n + 1, t => match P.underlying t with
    | some .bool => some [.bool]
    | some (.int k) => some [.int k]
    | some .string => some [.str]
    | some (.slice e) => match shapeOf P n e with
      | some l => if l.length = P.cellsOf e ∧ P.cellsOf e ≠ 0 then some [.slice l] else none
      | none => none
    | some (.struct fs) => match shapeFields P (shapeOf P n) fs.toList 0 with
      | some l => if l.length = P.cellsOf t then some l else none
      | none => none
    | _ => none

inductive ShOk : Sh → AVal → Prop where
  | bool (b : Bool) : ShOk .bool (.bool b)
  | int (k : IntKind) (n : Int) (h : (Lit.int k n).wf = true) : ShOk (.int k) (.int k n)
  | str (s : ByteArray) (h : s.size ≤ maxLen) : ShOk .str (.str s)
  | list (fs : List Sh) (es : List (List AVal)) (hb : es.length ≤ maxLen) (hl : ∀ e ∈ es, e.length = fs.length)
      (h : ∀ (e : List AVal) (i : Nat) (f : Sh) (d : AVal), e ∈ es → fs[i]? = some f → e[i]? = some d → ShOk f d) : ShOk (.slice fs) (.list false fs.length es)

def allC (w : World) (b : Nat) : Nat :=
  match w.heap[b]? with
  | some (.cells cells _ _) => cells.size
  | _ => 0

theorem allC_cell {w : World} {b i : Nat} {v : Value} (h : w.cell? ⟨b, i, none⟩ = some v) : i < allC w b := by
  unfold World.cell? at h
  unfold allC
  simp only [] at h
  split at h
  · rename_i hh
    rw [hh]
    simp only []
    exact (Array.getElem?_eq_some_iff.1 h).1
  · cases h

theorem ShOk.isCell {s : Sh} {a : AVal} (h : ShOk s a) : a.isCell = true := by cases h <;> rfl

section
variable {H : Type} {enc : TypeId × Value → H} {P : Program} {w : World} {spare : Nat → Bool} {held : Bool}
theorem cells?_get {a : Addr} {n : Nat} {cs : List Value} (h : w.cells? 0 a n = some cs) : cs.length = n ∧ ∀ i, i < n → w.cell? (a.add i) = cs[i]? := by
  unfold World.cells? at h
  rw [if_pos (Nat.zero_le _)] at h
  exact ⟨by simpa using Go.mapM_some_length h, fun i hi => Go.mapM_some_get h i i (by simp [hi])⟩

def RdAll (w : World) (shs : List Sh) (cs : List Value) : Prop :=
  ∃ as : List AVal, as.length = cs.length ∧ shs.length = cs.length ∧ (∀ (i : Nat) (s : Sh) (a : AVal), shs[i]? = some s → as[i]? = some a → ShOk s a) ∧
    ∀ (i : Nat) (a : AVal) (c : Value), as[i]? = some a → cs[i]? = some c → Rd (allC w) w a c

theorem RdAll.one {s : Sh} {a : AVal} {c : Value} (h : ShOk s a) (hr : Rd (allC w) w a c) : RdAll w [s] [c] := by
  refine ⟨[a], rfl, rfl, fun i s' a' h1 h2 => ?_, fun i a' c' h1 h2 => ?_⟩
  · cases i with
    | zero => simp at h1 h2; subst h1 h2; exact h
    | succ i => simp at h1
  · cases i with
    | zero => simp at h1 h2; subst h1 h2; exact hr
    | succ i => simp at h1

theorem RdAll.append {s1 s2 : List Sh} {c1 c2 : List Value} (h1 : RdAll w s1 c1) (h2 : RdAll w s2 c2) : RdAll w (s1 ++ s2) (c1 ++ c2) := by
  obtain ⟨a1, l1, m1, o1, r1⟩ := h1
  obtain ⟨a2, l2, m2, o2, r2⟩ := h2
  refine ⟨a1 ++ a2, by simp [l1, l2], by simp [m1, m2], fun i s a hs ha => ?_, fun i a c ha hc => ?_⟩
  · by_cases hi : i < c1.length
    · rw [List.getElem?_append_left (by omega)] at hs ha
      exact o1 i s a hs ha
    · rw [List.getElem?_append_right (by omega)] at hs ha
      rw [m1] at hs; rw [l1] at ha
      exact o2 _ s a hs ha
  · by_cases hi : i < c1.length
    · rw [List.getElem?_append_left (by omega)] at ha hc
      exact r1 i a c ha hc
    · rw [List.getElem?_append_right (by omega)] at ha hc
      rw [l1] at ha
      exact r2 _ a c ha hc

theorem RdAll.nil : RdAll w [] [] := ⟨[], rfl, rfl, fun i s a h => by simp at h, fun i a c h => by simp at h⟩

theorem open_fields {sh : TypeId → Option (List Sh)} (tr : Field → List Value → Prop) (htr : ∀ (f : Field) (cs : List Value) (l : List Sh), tr f cs → sh f.type = some l → RdAll w l cs) (cs : List Value) :
    ∀ (fs : List Field) (off : Nat) (l : List Sh), shapeFields P sh fs off = some l → (∀ f ∈ fs, tr f ((cs.drop f.offset).take (P.cellsOf f.type))) → off + l.length = cs.length → RdAll w l (cs.drop off)
  | [], off, l, h, _, hl => by
    simp only [shapeFields, Option.some.injEq] at h; subst h
    have : cs.drop off = [] := List.drop_eq_nil_of_le (by simp at hl; omega)
    rw [this]; exact .nil
  | f :: r, off, l, h, ht, hl => by
    simp only [shapeFields] at h
    split at h
    case isFalse => cases h
    rename_i ho
    split at h
    case h_2 => cases h
    rename_i a b h1 h2
    split at h
    case isFalse => cases h
    rename_i hlen
    cases h
    have hf := htr f _ _ (ht f (by simp)) h1
    have hr := open_fields tr htr cs r _ _ h2 (fun g hg => ht g (by simp [hg])) (by simp at hl; omega)
    rw [ho] at hf
    have := hf.append hr
    rwa [← List.drop_drop, List.take_append_drop] at this

theorem open_shape : ∀ (n : Nat) (fuel : Nat) (t : TypeId) (cs : List Value) (x : DataW H × List MemPlace) (l : List Sh), shapeOf P n t = some l → DataW.trod enc P w 0 spare held fuel t cs = some x → RdAll w l cs
  | 0, _, _, _, _, _, h, _ => by simp [shapeOf] at h
  | n + 1, fuel, t, cs, x, l, h, ht => by
    unfold shapeOf at h
    split at h
    · rename_i hu
      cases h
      cases fuel with
      | zero => simp [DataW.trod] at ht
      | succ m =>
        unfold DataW.trod at ht
        rw [hu] at ht
        split at ht <;> simp_all
        exact .one (.bool _) (.bool _)
    · rename_i k hu
      cases h
      cases fuel with
      | zero => simp [DataW.trod] at ht
      | succ m =>
        unfold DataW.trod at ht
        rw [hu] at ht
        split at ht <;> simp_all
        obtain ⟨⟨rfl, hw⟩, _⟩ := ht
        exact .one (.int _ _ hw) (.int _ _)
    · rename_i hu
      cases h
      cases fuel with
      | zero => simp [DataW.trod] at ht
      | succ m =>
        unfold DataW.trod at ht
        rw [hu] at ht
        split at ht <;> simp_all
        exact .one (.str _ ht.1) (.str _)
    · rename_i e hu
      split at h
      case h_2 => cases h
      rename_i fs hfs
      split at h
      case isFalse => cases h
      rename_i hlen'
      cases h
      have hlen := hlen'.1
      rcases DataW.trod_slice hu ht with ⟨rfl, _⟩ | ⟨a, len, cap, elems, rest, m, rfl, rfl, _, _, hl, hm, hel, hcell, _, _⟩
      · have hes : ShOk (.slice fs) (.list false fs.length []) := .list fs [] (Nat.zero_le _) (by simp) (by simp)
        exact .one hes (.list0 _ _ _ _ (by simp))
      · obtain ⟨b, off, spot⟩ := a
        have each : ∀ i, i < len → ∃ cells, w.cells? 0 ((Addr.mk b off spot).add (i * P.cellsOf e)) (P.cellsOf e) = some cells ∧ RdAll w fs cells := by
          intro i hi
          have h1 := hcell i hi
          rw [List.getElem?_eq_getElem (by omega), Option.bind_eq_some_iff] at h1
          obtain ⟨cells, h2, h3⟩ := h1
          exact ⟨cells, h2, open_shape n m e cells _ fs hfs h3⟩
        by_cases h0 : len = 0
        · subst h0
          have hes : ShOk (.slice fs) (.list false fs.length []) := .list fs [] (Nat.zero_le _) (by simp) (by simp)
          exact .one hes (.list0 _ _ _ _ (by simp))
        · by_cases hz : P.cellsOf e = 0
          · exact absurd hz hlen'.2
          · have hspot : spot = none := by
              obtain ⟨cells, h1, _⟩ := each 0 (by omega)
              obtain ⟨h2, h3⟩ := cells?_get h1
              have h4 := h3 0 (by omega)
              rw [List.getElem?_eq_getElem (by omega)] at h4
              have := World.cell?_spot h4
              simpa [Addr.add] using this
            subst hspot
            
            have hch : ∃ F : Nat → List AVal, ∀ i, i < len → (F i).length = fs.length ∧ (∀ (j : Nat) (s : Sh) (a : AVal), fs[j]? = some s → (F i)[j]? = some a → ShOk s a) ∧
                ∃ cells : List Value, cells.length = fs.length ∧ (∀ j, j < fs.length → w.cell? ⟨b, off + i * fs.length + j, none⟩ = cells[j]?) ∧ ∀ (j : Nat) (a : AVal) (c : Value), (F i)[j]? = some a → cells[j]? = some c → Rd (allC w) w a c := by
              refine ⟨fun i => if hi : i < len then Classical.choose (each i hi).choose_spec.2 else [], fun i hi => ?_⟩
              obtain ⟨h1, h2, h3, h4⟩ := Classical.choose_spec (each i hi).choose_spec.2
              have hc := (each i hi).choose_spec.1
              obtain ⟨h5, h6⟩ := cells?_get hc
              simp only [dif_pos hi]
              refine ⟨by omega, h3, (each i hi).choose, by omega, fun j hj => ?_, h4⟩
              rw [← h6 j (by omega)]
              rw [WideShapes.add_plain, WideShapes.add_plain, hlen]
            obtain ⟨F, hF⟩ := hch
            have hget : ∀ (i : Nat) (e' : List AVal), ((List.range len).map F)[i]? = some e' → i < len ∧ e' = F i := by
              intro i e' he
              by_cases hi : i < len
              · simp [hi] at he; exact ⟨hi, he.symm⟩
              · simp [hi] at he
            refine .one (a := .list false fs.length ((List.range len).map F)) (.list _ _ (by simp; omega) (fun e' he' => ?_) fun e' i f d he' hf hd => ?_) ?_
            · obtain ⟨i, hi, rfl⟩ := List.mem_map.1 he'
              exact (hF i (by simpa using hi)).1
            · obtain ⟨i', hi', rfl⟩ := List.mem_map.1 he'
              exact (hF i' (by simpa using hi')).2.1 i f d hf hd
            · have hcellv : ∀ i j, i < len → j < fs.length → ∃ v, w.cell? ⟨b, off + i * fs.length + j, none⟩ = some v := by
                intro i j hi hj
                obtain ⟨_, _, cells, h1, h2, _⟩ := hF i hi
                exact ⟨cells[j], by rw [h2 j hj, List.getElem?_eq_getElem (by omega)]⟩
              have := Rd.list (C := allC w) (w := w) false fs.length ((List.range len).map F) b off cap (fun i j => (w.cell? ⟨b, off + i * fs.length + j, none⟩).getD .nilIface) (by simp) (by simpa using hl)
                (fun e' he' => by obtain ⟨i, hi, rfl⟩ := List.mem_map.1 he'; exact (hF i (by simpa using hi)).1) ?_ ?_ ?_ ?_
              · simpa using this
              · obtain ⟨v, hv⟩ := hcellv (len - 1) (fs.length - 1) (by omega) (by omega)
                have h1 := allC_cell hv
                simp only [List.length_map, List.length_range]
                have h2 : len * fs.length = (len - 1) * fs.length + fs.length := by
                  rw [← Nat.succ_mul]; congr 1; omega
                omega
              · intro i j hi hj
                obtain ⟨v, hv⟩ := hcellv i j (by simpa using hi) hj
                rw [hv]; rfl
              · intro i j e' d he hd
                obtain ⟨hi, rfl⟩ := hget i e' he
                have hj : j < fs.length := by rw [← (hF i hi).1]; exact (List.getElem?_eq_some_iff.1 hd).1
                exact ((hF i hi).2.1 j _ d (List.getElem?_eq_getElem hj) hd).isCell
              · intro i j e' d he hd
                obtain ⟨hi, rfl⟩ := hget i e' he
                have hj : j < fs.length := by rw [← (hF i hi).1]; exact (List.getElem?_eq_some_iff.1 hd).1
                obtain ⟨_, _, cells, h1, h2, h3⟩ := hF i hi
                refine h3 j d _ hd ?_
                rw [← h2 j hj]
                obtain ⟨v, hv⟩ := hcellv i j hi hj
                rw [hv]; rfl
    · rename_i fs hu
      split at h
      case h_2 => cases h
      rename_i l' hl'
      split at h
      case isFalse => cases h
      rename_i hll
      cases h
      obtain ⟨xs, m, rfl, _, hlen, hxs, hf⟩ := DataW.trod_struct hu ht
      have := open_fields (P := P) (w := w) (sh := shapeOf P n) (fun f cs => ∃ y, DataW.trod enc P w 0 spare held m f.type cs = some y) (fun f cs l' ⟨y, hy⟩ hl => open_shape n m f.type cs y l' hl hy) cs fs.toList 0 _ hl' ?_ ?_
      · simpa using this
      · intro f hfm
        obtain ⟨i, hi, he⟩ := List.getElem_of_mem hfm
        have h1 := hf i f (by rw [← he]; simp)
        exact ⟨xs[i]'(by simp at hi; omega), by rw [h1]; exact List.getElem?_eq_getElem _⟩
      · omega
    · cases h

end
end Go.AW

namespace Go.AW
open Go.RowKit Go.ChangeShapes
def paramSh (P : Program) (n : Nat) (t : TypeId) : Option (Bool × List Sh) :=
  match P.underlying t with
  | some (.struct _) => (shapeOf P n t).map fun l => (true, l)
  | some (.array _ _) => none
  | _ => match shapeOf P n t with
    | some [s] => some (false, [s])
    | _ => none

def ArgOk : Bool × List Sh → AVal → Prop
  | (true, l), a => ∃ as, a = .agg as ∧ as.length = l.length ∧ ∀ (i : Nat) (s : Sh) (c : AVal), l[i]? = some s → as[i]? = some c → ShOk s c
  | (false, l), a => ∃ s, l = [s] ∧ ShOk s a

def ArgsOk : List (Bool × List Sh) → List AVal → Prop
  | [], [] => True
  | p :: ps, a :: as => ArgOk p a ∧ ArgsOk ps as
  | _, _ => False

def paramShs (P : Program) (n : Nat) : List TypeId → Option (List (Bool × List Sh))
  | [] => some []
  | t :: ts => match paramSh P n t, paramShs P n ts with
    | some p, some ps => some (p :: ps)
    | _, _ => none

section
variable {H : Type} {enc : TypeId × Value → H} {P : Program} {w : World} {τ : Nat → Option Loc}
theorem open_arg {n : Nat} {t : TypeId} {v : Value} {d : DataW H} {ps : List MemPlace} {p : Bool × List Sh} {base : Nat} (hp : paramSh P n t = some p) (hv : Value.okWide P w .any base t v)
    (h : DataW.Trod enc P w 0 (fun _ => true) true t v d ps) : ∃ a, ArgOk p a ∧ Rel (allC w) w τ [] a v := by
  obtain ⟨fuel, hf⟩ := h
  unfold paramSh at hp
  split at hp
  · rename_i fs hu
    simp only [Option.map_eq_some_iff] at hp
    obtain ⟨l, hl, rfl⟩ := hp
    obtain ⟨as, h1, h2, h3, h4⟩ := open_shape n fuel t _ _ l hl hf
    unfold Value.okWide at hv
    rw [hu] at hv
    obtain ⟨cs, rfl, _⟩ := hv
    simp only [Value.cells] at h1 h2 h4
    exact ⟨.agg as, ⟨as, rfl, by omega, h3⟩, .agg as cs (by simpa using h1) fun i c v hc hv => .rd (h4 i c v hc (by simpa using hv))⟩
  · cases hp
  · rename_i hns hna
    split at hp
    case h_2 => cases hp
    rename_i s hl
    cases hp
    obtain ⟨as, h1, h2, h3, h4⟩ := open_shape n fuel t _ _ _ hl hf
    have hvc : v.cells.toList = [v] := by
      have : ∀ cs, v ≠ .agg cs := by
        rintro cs rfl
        unfold Value.okWide at hv
        split at hv
        · rename_i fs hu; exact hns fs hu
        · rename_i k e hu; exact hna k e hu
        · unfold Cell.okWide at hv
          split at hv <;> simp_all [Cell.ok]
      cases v <;> first | rfl | exact absurd rfl (this _)
    rw [hvc] at h1 h2 h4
    obtain ⟨a, rfl⟩ := List.length_eq_one_iff.1 h1
    exact ⟨a, ⟨s, rfl, h3 0 s a rfl rfl⟩, .rd (h4 0 a v rfl rfl)⟩

theorem open_args {n : Nat} {base : Nat} : ∀ (ts : List TypeId) (vs : List Value) (ds : List (DataW H)) (ps : List MemPlace) (shs : List (Bool × List Sh)), paramShs P n ts = some shs →
    (∀ (j : Nat) (t : TypeId) (v : Value), ts[j]? = some t → vs[j]? = some v → Value.okWide P w .any base t v) →
    DataW.TrodAll enc P w 0 (fun _ => true) true ts vs ds ps → ∃ as, ArgsOk shs as ∧ as.length = vs.length ∧ ∀ (i : Nat) (a : AVal) (v : Value), as[i]? = some a → vs[i]? = some v → Rel (allC w) w τ [] a v
  | [], vs, ds, ps, shs, hs, hv, h => by
    obtain ⟨rfl, rfl, rfl⟩ := trodAll_nil h
    simp only [paramShs, Option.some.injEq] at hs; subst hs
    exact ⟨[], trivial, rfl, fun i a v h => by simp at h⟩
  | t :: ts, vs, ds, ps, shs, hs, hv, h => by
    obtain ⟨v, vs', d, ds', p, q, rfl, rfl, rfl, h1, h2⟩ := trodAll_cons h
    simp only [paramShs] at hs
    split at hs
    case h_2 => cases hs
    rename_i sh shs' e1 e2
    cases hs
    obtain ⟨a, ha, hr⟩ := open_arg (τ := τ) e1 (hv 0 t v rfl rfl) h1
    obtain ⟨as, has, hl, hrs⟩ := open_args ts vs' ds' q shs' e2 (fun j t' v' ht hv' => hv (j + 1) t' v' (by simpa using ht) (by simpa using hv')) h2
    refine ⟨a :: as, ⟨ha, has⟩, by simp [hl], fun i a' v' h1 h2 => ?_⟩
    cases i with
    | zero => simp at h1 h2; subst h1 h2; exact hr
    | succ i => exact hrs i a' v' (by simpa using h1) (by simpa using h2)

theorem trodAll_below (hl : laidOutB P = true) {W W' : World} (hb : Below W.heap.size W W') : ∀ (ts : List TypeId) (vs : List Value) (ds : List (DataW H)) (ps : List MemPlace),
    (∀ t ∈ ts, P.readableRec t = true ∧ t < P.types.size) → DataW.TrodAll enc P W 0 (fun _ => true) true ts vs ds ps →
    DataW.TrodAll enc P W' 0 (fun b => decide (b < W.heap.size)) true ts vs ds ps
  | [], vs, ds, ps, _, h => by obtain ⟨rfl, rfl, rfl⟩ := trodAll_nil h; exact trodAll_mk0
  | t :: ts, vs, ds, ps, hr, h => by
    obtain ⟨v, vs', d, ds', p, q, rfl, rfl, rfl, h1, h2⟩ := trodAll_cons h
    have hlt : ∀ x ∈ p, x.block < W.heap.size := by obtain ⟨m, hm⟩ := h1; exact DataW.trod_lt m _ _ _ hm
    exact trodAll_cons_mk (Below.trod hl (hr t (by simp)).1 (hr t (by simp)).2 h1 hb hlt) (trodAll_below hl hb ts vs' ds' q (fun t' ht => hr t' (by simp [ht])) h2)

theorem calls_of_law {f : FuncId} {fn : Func} {c : Code} {args : Array Value} {as : List AVal} (hfn : P.funcs[f]? = some fn) (hname : (fn.name == "runtime.NumGoroutine") = false) (hbody : fn.body = some c)
    (hlen : as.length = args.size) (hrel : ∀ (i : Nat) (a : AVal) (v : Value), as[i]? = some a → args[i]? = some v → Rel (allC w) w (fun _ => none) [] a v)
    (hlaw : ACalls P f as [] (fun r _ => r = .bool true)) :
    Calls P f args w fun e w' => e = .returned (.bool true) ∧ Below w.heap.size w w' := by
  have hwf : WF (allC w) (fun _ => none) [] w := by
    refine ⟨fun id o h => by simp at h, fun id o h => by simp at h, fun id o l h => by simp at h, fun id l h => by simp at h, fun i j li lj h => by simp at h, fun b hb => ?_⟩
    unfold allC at hb
    split at hb
    · rename_i h
      exact lt_of_heap h
    · omega
  have h := hlaw (allC w) (fun _ => none) w args hwf hlen hrel
  have hcall : (callFunc f args).run P w = .ok (.enter f args) w := by
    simp only [callFunc, Sem.run_bind, run_program, Result.andThen_ok, hfn, hname, Bool.false_eq_true, if_false, hbody, Option.isNone_some, Sem.run_pure]
  unfold CallsX at h
  rw [hcall] at h
  refine Calls.mono h fun e w' => ?_
  rintro ⟨v, r, C', τ', H', rfl, rfl, hr, hst, hstep⟩
  refine ⟨?_, hst.fr.os, hst.fr.tape, hst.fr.output, hst.fr.size, fun k hk => hst.fr.prot k ⟨hk, ?_⟩⟩
  · cases hr with
    | rd hr => cases hr; rfl
  · rintro ⟨id, l, h1, _⟩
    exact absurd h1 (Nat.not_lt_zero _)

set_option maxRecDepth 100000 in

theorem lifted_of_law {C : Checked} {os : Os} {f : FuncId} {fn : Func} {s : ChangeSpec} {ob : List Nat} {af : AFunc} {n tb : Nat} {shs : List (Bool × List Sh)}
    (own : ownKnob C.prog.godebug = none) (started : os.Started) (noInit : C.prog.inits.idxOf? f = none) (hfn : C.prog.funcs[f]? = some fn)
    (witness : ∃ (w : World) (tape : Tape) (i : Input), w.os = os ∧ (w.forCall tape i).Shaped C.prog ∧ i.vars = [] ∧ Input.okWide C.prog (w.forCall tape i) .any w.heap.size f i ∧
      s.pre6 enc C.prog fn [] false (w.forCall tape i).memory i.args ∧ ({} : Assume).holds C.prog (lone (Frame.enter C.prog f i.args .normal) [] (w.forCall tape i)))
    (laid : laidOutB C.prog = true) (hread : (fn.params.toList.all fun t => C.prog.readableRec t && decide (t < C.prog.types.size)) = true)
    (hs : ∀ (ds : List (DataW H)), ds.length = fn.params.size → s.fn H ds = { results := [.lit (.bool true)], args := ds }) (hvars : s.vars = [])
    (hres : fn.resultTypes = #[tb]) (htb : C.prog.underlying tb = some .bool) (hsh : paramShs C.prog n fn.params.toList = some shs) (hhas : Has C.prog f ob af)
    (hlaw : ∀ as, ArgsOk shs as → ACalls C.prog f as [] (fun r _ => r = .bool true)) :
    ReturnsInHanded {} C os f .any (s.pre6 enc C.prog fn [] false) (s.post enc C.prog fn false true false false) := by
  refine returnsInHanded_of_change (C := C) own started noInit hfn witness ?_
  intro W base args ds gs before hval hW _ _
  have hW' := hW
  obtain ⟨p, q, hA, hV, rfl, _, _⟩ := hW
  rw [hvars] at hV
  obtain ⟨rfl, rfl⟩ := trodVars_none hV
  obtain ⟨as, has, hlen, hrel⟩ := open_args (τ := fun _ => none) (n := n) fn.params.toList args.toList ds p shs hsh (fun j t v h1 h2 => hval j t v (by simpa using h1) (by simpa using h2)) hA
  obtain ⟨fn', c, hfn', hname, hbody, _⟩ := hhas
  have e : fn' = fn := Option.some.inj (hfn'.symm.trans hfn)
  subst e
  have hlds : ds.length = fn'.params.size := by
    have : ∀ (ts : List TypeId) (vs : List Value) (ds : List (DataW H)) (ps : List MemPlace), DataW.TrodAll enc C.prog W 0 (fun _ => true) true ts vs ds ps → ds.length = ts.length := by
      intro ts
      induction ts with
      | nil => intro vs ds ps h; obtain ⟨_, rfl, _⟩ := trodAll_nil h; rfl
      | cons t ts ih =>
        intro vs ds ps h
        obtain ⟨_, _, _, _, _, _, _, rfl, _, _, h2⟩ := trodAll_cons h
        simp [ih _ _ _ h2]
    simpa using this _ _ _ _ hA
  refine (calls_of_law hfn hname hbody (by simpa using hlen) (fun i a v h1 h2 => hrel i a v h1 (by simpa using h2)) (hlaw as has)).mono fun e W' ⟨he, bel⟩ => ?_
  subst he
  refine ⟨_, rfl, ds, [], _, [], p, [], hW', ?_, ?_, ?_, bel.frame _, fun h => by cases h⟩
  · rw [List.append_nil, hs ds hlds, hres]
    exact trodAll_mk1 (shut_bool htb _)
  · rw [List.append_nil, hs ds hlds]
    refine trodAll_below laid bel _ _ _ _ (fun t ht => ?_) hA
    have := List.all_eq_true.1 hread t ht
    simpa using this
  · rw [List.append_nil, hs ds hlds, hvars]
    rfl

end
theorem argsOk_cons {p : Bool × List Sh} {ps : List (Bool × List Sh)} {as : List AVal} (h : ArgsOk (p :: ps) as) : ∃ a as', as = a :: as' ∧ ArgOk p a ∧ ArgsOk ps as' := by
  cases as with
  | nil => exact h.elim
  | cons a as => exact ⟨a, as, rfl, h.1, h.2⟩

theorem argsOk_nil {as : List AVal} (h : ArgsOk [] as) : as = [] := by
  cases as with
  | nil => rfl
  | cons a as => exact h.elim

theorem argOk_int {k : IntKind} {a : AVal} (h : ArgOk (false, [.int k]) a) : ∃ n, a = .int k n ∧ (Lit.int k n).wf = true := by
  obtain ⟨s, h1, h2⟩ := h
  cases h1
  cases h2 with
  | int _ n h => exact ⟨n, rfl, h⟩

def CellsOk : List Sh → List AVal → Prop
  | [], [] => True
  | s :: ss, a :: as => ShOk s a ∧ CellsOk ss as
  | _, _ => False

theorem cellsOk_of : ∀ (l : List Sh) (as : List AVal), as.length = l.length → (∀ (i : Nat) (s : Sh) (c : AVal), l[i]? = some s → as[i]? = some c → ShOk s c) → CellsOk l as
  | [], [], _, _ => trivial
  | s :: l, a :: as, hl, h => ⟨h 0 s a rfl rfl, cellsOk_of l as (by simpa using hl) fun i s c h1 h2 => h (i + 1) s c (by simpa using h1) (by simpa using h2)⟩
  | [], _ :: _, hl, _ => by simp at hl
  | _ :: _, [], hl, _ => by simp at hl

theorem shOk_slice {fs : List Sh} {a : AVal} (h : ShOk (.slice fs) a) : ∃ es, a = .list false fs.length es ∧ es.length ≤ maxLen ∧ ∀ e ∈ es, CellsOk fs e := by
  cases h with
  | list _ es hb hl h => exact ⟨es, rfl, hb, fun e he => cellsOk_of _ _ (hl e he) fun i s c h1 h2 => h e i s c he h1 h2⟩

theorem argOk_slice {fs : List Sh} {a : AVal} (h : ArgOk (false, [.slice fs]) a) : ∃ es, a = .list false fs.length es ∧ es.length ≤ maxLen ∧ ∀ e ∈ es, CellsOk fs e := by
  obtain ⟨s, h1, h2⟩ := h
  cases h1
  exact shOk_slice h2

theorem list_image {α β : Type} {g : α → β} {W : α → Prop} : ∀ (l : List β), (∀ x ∈ l, ∃ a, x = g a ∧ W a) → ∃ m : List α, l = m.map g ∧ ∀ a ∈ m, W a
  | [], _ => ⟨[], rfl, by simp⟩
  | x :: l, h => by
    obtain ⟨a, rfl, ha⟩ := h x (by simp)
    obtain ⟨m, rfl, hm⟩ := list_image l fun y hy => h y (by simp [hy])
    exact ⟨a :: m, rfl, fun b hb => by rcases List.mem_cons.1 hb with rfl | hb; exact ha; exact hm b hb⟩

theorem cellsOk_int {k : IntKind} {e : List AVal} (h : CellsOk [.int k] e) : ∃ n, e = [.int k n] ∧ (Lit.int k n).wf = true := by
  match e, h with
  | [a], h =>
    obtain ⟨h1, _⟩ := h
    cases h1
    rename_i n hn
    exact ⟨n, rfl, hn⟩

theorem argOk_ints {k : IntKind} {a : AVal} (h : ArgOk (false, [.slice [.int k]]) a) : ∃ l : List Int, a = .list false 1 (l.map fun n => [.int k n]) ∧ l.length ≤ maxLen ∧ ∀ n ∈ l, (Lit.int k n).wf = true := by
  obtain ⟨es, rfl, hl, h⟩ := argOk_slice h
  obtain ⟨m, rfl, hm⟩ := list_image (g := fun n => [AVal.int k n]) (W := fun n => (Lit.int k n).wf = true) es fun e he => cellsOk_int (h e he)
  exact ⟨m, rfl, by simpa using hl, hm⟩

end Go.AW

namespace Go.AW
attribute [local irreducible] ACalls
structure V where
  kind : Int
  num : Int
  str : ByteArray

def valC (v : V) : List AVal := [.int .i64 v.kind, .int .i64 v.num, .str v.str]

def validB (v : V) : Bool :=
  if v.kind = 0 then v.num == 0 && v.str.data.toList == []
  else if v.kind = 1 then (v.num == 0 || v.num == 1) && v.str.data.toList == []
  else if v.kind = 2 then decide (-1073741824 ≤ v.num) && decide (v.num ≤ 1073741824) && v.str.data.toList == []
  else if v.kind = 3 then v.num == 0 && decide (v.str.size ≤ 64)
  else if v.kind = 4 then decide (0 ≤ v.num) && decide (v.num ≤ 575999999) && v.str.data.toList == []
  else false

set_option maxRecDepth 20000 in
theorem value_Valid_spec {P : Program} (F : F_value_Valid P) (v : V) (H : List AObj) :
    ACalls P F.id [.agg (valC v)] H (fun r H' => r = .bool (validB v) ∧ H' = H) := by
  refine ACalls.pure rfl (acalls_of_body F.has ?_)
  repeat' ((conv => whnf); refine recA (fun _ => ?_) (fun _ => ?_))
  all_goals (conv => whnf)
  all_goals refine pubB ?_
  all_goals (simp_all [validB, bs_nil]; try omega)

set_option maxRecDepth 20000 in
theorem ref1_Valid_spec {P : Program} (F : F_warehouseref1_Valid P) (v : V) (H : List AObj) :
    ACalls P F.id [.agg (valC v)] H (fun r H' => r = .bool (validB v) ∧ H' = H) := by
  refine ACalls.pure rfl (acalls_of_body F.has ?_)
  repeat' ((conv => whnf); refine recA (fun _ => ?_) (fun _ => ?_))
  all_goals (conv => whnf)
  all_goals refine pubB ?_
  all_goals (simp_all [validB, bs_nil]; try omega)

def cmpI (a b : Int) : Int := if a < b then -1 else if b < a then 1 else 0

def cmpS (a b : List UInt8) : Int := if Op.bytesLess a b then -1 else if a = b then 0 else 1

def orI : List Int → Int
  | [] => 0
  | x :: xs => if x = 0 then orI xs else x

def valCmp (a b : V) : Int := orI [cmpI a.kind b.kind, cmpI a.num b.num, cmpS a.str.data.toList b.str.data.toList]

theorem getElem?_getD {l : List Int} {k : Nat} (h : k < l.length) : l[k]? = some (l.getD k 0) := by
  rw [List.getD_eq_getElem?_getD, List.getElem?_eq_getElem h]; rfl

end Go.AW

namespace Go.AW
attribute [local irreducible] ACalls
def bC (l : List Int) : List (List AVal) := l.map fun n => [.int .u8 n]

def u8 (n : Int) : Int := IntKind.u8.wrap n

def w4 (n : Int) : List Int := [u8 (n.fdiv (2 ^ 24)), u8 (n.fdiv (2 ^ 16)), u8 (n.fdiv (2 ^ 8)), u8 n]

theorem bC_append (a b : List Int) : bC (a ++ b) = bC a ++ bC b := List.map_append

theorem bC_length (l : List Int) : (bC l).length = l.length := List.length_map ..

theorem roomB_le {n : Nat} (h : n ≤ 1000000000) : n ≤ roomB := Nat.le_trans h (by show _ ≤ 1099511627776; omega)

theorem roomB_le1 {n : Nat} (h : n ≤ 1000000000) : n * 1 ≤ roomB := roomB_le (by omega)

theorem ACalls.retH {P : Program} {f : FuncId} {args : List AVal} {H H1 : List AObj} {R : AVal} {Q : AVal → List AObj → Prop} (h : ACalls P f args H (fun r H' => r = R ∧ H' = H1)) (hq : Q R H1) : ACalls P f args H Q :=
  h.mono fun r H' ⟨h1, h2⟩ => by subst h1 h2; exact hq

set_option maxRecDepth 20000 in
theorem word_spec {P : Program} (F : F_value_word P) (H : List AObj) (id : Nat) (es : List (List AVal)) (n : Int) (ho : H[id]? = some (.arr 1 es)) (hl : es.length ≤ 1000000) :
    ACalls P F.id [.sl id es.length 0 es.length, .int .i64 n] H (fun r H' => r = .sl id (es ++ bC (w4 n)).length 0 (es ++ bC (w4 n)).length ∧ H' = H.set id (.arr 1 (es ++ bC (w4 n)))) := by
  refine acalls_of_body F.has ?_
  repeat' ((conv => whnf); first | refine And.intro (by decide) ?_ | refine recO ho ?_ | refine recT (Nat.beq_refl _) ?_)
  conv => whnf
  refine And.intro ⟨?_, ?_, rfl, rfl⟩ ?_
  · exact roomB_le1 (by simp; omega)
  · exact roomB_le (by simp; omega)
  rw [setO_eq]
  conv => whnf
  exact ⟨rfl, rfl⟩

def bytesI (s : ByteArray) : List Int := s.data.toList.map fun b => (b.toNat : Int)

def encV (v : V) : List Int :=
  u8 v.kind :: (if v.kind = 1 then [u8 v.num] else if v.kind = 2 then w4 (IntKind.i64.wrap (v.num + 1073741824)) else if v.kind = 4 then w4 v.num else if v.kind = 3 then u8 v.str.size :: bytesI v.str else [])

def encK (rs : List V) (k : Nat) : List Int := u8 rs.length :: (rs.take k).flatMap encV

def encB (rs : List V) : List Int := u8 rs.length :: rs.flatMap encV

def encR (rs : List V) : AVal :=
  if 12 < rs.length then .tuple [.nil, .int .i64 2] else if rs.all validB then .tuple [.list false 1 (bC (encB rs)), .int .i64 0] else .tuple [.nil, .int .i64 8]

theorem encV_len (v : V) (h : validB v = true) : (encV v).length ≤ 66 := by
  unfold encV validB at *
  split <;> (try split) <;> (try split) <;> (try split) <;> simp_all [w4, bytesI]

theorem valid_str (v : V) (h : validB v = true) : (byteCells v.str.data.toList).length ≤ 64 := by
  simp only [byteCells, List.length_map]
  unfold validB at h
  split at h <;> (try split at h) <;> (try split at h) <;> (try split at h) <;> (try split at h) <;> simp_all

theorem encK_len (rs : List V) (k : Nat) (h : (rs.take k).all validB = true) : (encK rs k).length ≤ 1 + 66 * k := by
  simp only [encK, List.length_cons]
  have : ∀ l : List V, l.all validB = true → (l.flatMap encV).length ≤ 66 * l.length := by
    intro l hl
    induction l with
    | nil => simp
    | cons v l ih =>
      simp only [List.all_cons, Bool.and_eq_true] at hl
      have := encV_len v hl.1
      have := ih hl.2
      simp only [List.flatMap_cons, List.length_append, List.length_cons]; omega
  have := this _ h
  have h2 : (rs.take k).length ≤ k := List.length_take_le ..
  have h3 : 66 * (rs.take k).length ≤ 66 * k := Nat.mul_le_mul_left _ h2
  omega

theorem pureEs_bC (l : List Int) : pureEs (bC l) = true := by simp [pureEs, bC, AVal.isPure]

theorem pub_int {H1 : List AObj} {n : Nat} {ids : List Nat} {k : IntKind} {a b : Int} (h : a = b) : Pub H1 n ids (.int k a) (.int k b) := by subst h; exact .closed _ rfl

theorem pub2 {H1 : List AObj} {n : Nat} {ids : List Nat} {a b r s : AVal} (h1 : Pub H1 n ids a r) (h2 : Pub H1 n ids b s) : Pub H1 n ids (.tuple [a, b]) (.tuple [r, s]) := by
  refine .tuple _ _ rfl fun i v t h3 h4 => ?_
  rcases i with _ | _ | i
  · cases h3; cases h4; exact h1
  · cases h3; cases h4; exact h2
  · simp at h3

theorem pubF {H1 : List AObj} {n : Nat} {id ep len sz : Nat} {es : List (List AVal)} (ho : H1[id]? = some (.arr sz es)) (he : ep = es.length) (hl : len = es.length) (hp : pureEs es = true) : Pub H1 n [] (.sl id ep 0 len) (.list false sz es) := by
  subst hl he
  have := Pub.frz (n := n) (ids := []) id es.length 0 es.length sz es ho rfl hp (by simp)
  rwa [List.drop_zero, List.take_length] at this

def encS (ex : Bool) (rs : List V) (k : Nat) : List (Nat × AVal) := [(4, .sl 0 (bC (encK rs k)).length 0 (bC (encK rs k)).length), (14, .list ex 3 (rs.map valC)), (15, .int .i64 (rs.map valC).length), (16, .int .i64 k)]

set_option maxRecDepth 20000 in
theorem encode_list {P : Program} (F : F_value_Encode P) (ex : Bool) (rs : List V) (H : List AObj) :
    ACalls P F.id [.list ex 3 (rs.map valC)] H (fun r H' => r = encR rs ∧ H' = H) := by
  refine ACalls.pure rfl (acalls_of_body F.has ?_)
  (conv => whnf); refine recA (fun hlt => ?_) (fun hlt => ?_)
  · conv => whnf
    simp at hlt
    rw [show encR rs = .tuple [.nil, .int .i64 2] from if_pos (by omega)]
    exact pub2 (.closed _ rfl) (.closed _ rfl)
  conv => whnf
  simp at hlt
  refine ⟨fun n ρ H => ∃ k : Nat, k + n = rs.length ∧ (rs.take k).all validB = true ∧ H = [.arr 1 (bC (encK rs k))] ∧
    Sv 67 (encS ex rs k) ρ, rs.length, [], ⟨0, by simp, by simp, ?_, ?_⟩, ?_⟩
  · simp [encK, bC, u8]
  · exact Sv.intro rfl ⟨rfl, rfl, rfl, rfl, trivial⟩
  rintro n ρ H ⟨k, hk, hz, rfl, d, rfl⟩
  conv => whnf
  refine recA (fun hlt2 => ?_) (fun hlt2 => ?_)
  · simp at hlt2
    conv => whnf
    refine ⟨by omega, ?_⟩
    conv => whnf
    refine recO (e := valC rs[k]) ?_ ?_
    · rw [List.getElem?_map, List.getElem?_eq_getElem (by omega)]; rfl
    conv => whnf
    have hb : (bC (encK rs k)).length ≤ 1000 := by rw [bC_length]; exact Nat.le_trans (encK_len rs k hz) (by omega)
    have hsnoc : rs.take (k + 1) = rs.take k ++ [rs[k]] := by rw [List.take_add_one, List.getElem?_eq_getElem (by omega)]; rfl
    have hmem : rs[k] ∈ rs := List.getElem_mem _
    generalize rs[k] = v at hsnoc hmem ⊢
    refine (value_Valid_spec F.value_Valid v _).use ?_
    (conv => whnf); refine recA (fun hv => ?_) (fun hv => ?_)
    · conv => whnf
      have hall : rs.all validB = false := by
        apply Bool.eq_false_iff.2
        intro hall
        rw [List.all_eq_true.1 hall v hmem] at hv
        cases hv
      rw [show encR rs = .tuple [.nil, .int .i64 8] by unfold encR; rw [if_neg (by omega), hall]; rfl]
      exact pub2 (.closed _ rfl) (.closed _ rfl)
    have hz2 : (rs.take (k + 1)).all validB = true := by rw [hsnoc]; simp at hv; simp [hz, hv]
    have hsz : (byteCells v.str.data.toList).length ≤ 64 := valid_str v (by simpa using hv)
    have hkey : bC (encK rs (k + 1)) = bC (encK rs k) ++ bC (encV v) := by rw [← bC_append]; congr 1; simp [encK, hsnoc]
    have e1 := wrapI ((k : Int) + 1) (by omega) (by omega)
    repeat' ((conv => whnf); first
      | refine recT (Nat.beq_refl _) ?_
      | refine And.intro ⟨roomB_le1 (by simp; omega), roomB_le (by simp; omega), rfl, rfl⟩ ?_
      | refine recA (fun _ => ?_) (fun _ => ?_)
      | refine ACalls.retH (word_spec F.value_word _ _ _ _ (by rfl) (by simp; omega)) ?_)
    all_goals (conv => whnf)
    all_goals refine ⟨n - 1, by omega, Gp.one 0 1 (bC (encK rs (k + 1))) ?_ (pureEs_bC _) rfl ?_ fun ρ1 h => ⟨k + 1, by omega, hz2, rfl, h⟩⟩
    all_goals try (refine ⟨pubSl (k := 0) rfl rfl ?_ ?_, .closed _ rfl, .closed _ rfl, pub_int e1, trivial⟩)
    all_goals (rw [hkey]; simp_all [encV, bC, u8, w4, bytesI, byteCells])
  · conv => whnf
    simp at hlt2
    have e : rs.take k = rs := List.take_of_length_le hlt2
    rw [e] at hz
    have e2 : encK rs k = encB rs := by simp [encK, encB, e]
    rw [show encR rs = .tuple [.list false 1 (bC (encB rs)), .int .i64 0] by unfold encR; rw [if_neg (by omega), hz]; rfl, e2]
    have := Pub.frz (H1 := [.arr 1 (bC (encB rs))]) (n := 0) (ids := []) 0 (bC (encB rs)).length 0 (bC (encB rs)).length 1 (bC (encB rs)) rfl rfl (pureEs_bC _) (by simp)
    rw [List.drop_zero, List.take_length] at this
    exact pub2 this (.closed _ rfl)

end Go.AW

namespace Go.AW
attribute [local irreducible] ACalls
def iC (l : List Int) : List (List AVal) := l.map fun n => [.int .i64 n]

theorem iC_length (l : List Int) : (iC l).length = l.length := List.length_map ..

theorem iC_get {l : List Int} {k : Nat} (h : k < l.length) : (iC l)[k]? = some [.int .i64 (l.getD k 0)] := by
  rw [iC, List.getElem?_map, getElem?_getD h]; rfl

def w64 (n : Int) : Int := IntKind.i64.wrap n

end Go.AW

namespace Go.AW
attribute [local irreducible] ACalls
def vC (rs : List V) : List (List AVal) := rs.map valC

theorem vC_length (l : List V) : (vC l).length = l.length := List.length_map ..

theorem vC_append (a b : List V) : vC (a ++ b) = vC a ++ vC b := List.map_append

theorem pureEs_vC (l : List V) : pureEs (vC l) = true := by simp [pureEs, vC, valC, AVal.isPure]

theorem roomMul {n b : Nat} (h : n ≤ 1000000) (hb : b ≤ 1000000) : n * b ≤ roomB :=
  Nat.le_trans (Nat.mul_le_mul h hb) (by show 1000000 * 1000000 ≤ 1099511627776; omega)

theorem vC_at {l : List V} {k : Nat} {x : V} (h : l[k]? = some x) : (vC l)[k]? = some (valC x) := by
  rw [vC, List.getElem?_map, h]; rfl

theorem get_drop {α : Type} {l : List α} {k : Nat} (h : k < l.length) : ∃ x, l[k]? = some x ∧ l.drop k = x :: l.drop (k + 1) ∧ x ∈ l :=
  ⟨l[k], List.getElem?_eq_getElem h, List.drop_eq_getElem_cons h, List.getElem_mem h⟩

def rowsCmp : List V → List V → Int
  | [], [] => 0
  | [], _ :: _ => -1
  | _ :: _, [] => 1
  | x :: xs, y :: ys => if valCmp x y = 0 then rowsCmp xs ys else valCmp x y

end Go.AW

namespace Go.AW
attribute [local irreducible] ACalls
theorem w4_len (n : Int) : (bC (w4 n)).length = 4 := rfl

theorem four_spec {P : Program} (F : F_warehouseref1_four P) (n : Int) (H : List AObj) :
    ACalls P F.id [.int .i64 n] H (fun r H' => r = .list true 1 (bC (w4 n)) ∧ H' = H) := by
  refine ACalls.pure rfl (acalls_of_body F.has ?_)
  repeat' ((conv => whnf); refine And.intro (by decide) ?_)
  conv => whnf
  exact .closed _ rfl

def RawE (rs : List V) (r : AVal) (H1 : List AObj) : Prop :=
  (∃ e, r = .tuple [.nil, .int .i64 e] ∧ encR rs = .tuple [.nil, .int .i64 e]) ∨
  (∃ n, n = (bC (encB rs)).length ∧ r = .tuple [.sl 0 n 0 n, .int .i64 0] ∧ H1 = [.arr 1 (bC (encB rs))] ∧ encR rs = .tuple [.list false 1 (bC (encB rs)), .int .i64 0])

set_option maxRecDepth 20000 in
theorem ref1_Encode_raw {P : Program} (F : F_warehouseref1_Encode P) (ex : Bool) (rs : List V) :
    ACalls P F.id [.list ex 3 (vC rs)] [] (RawE rs) := by
  refine acalls_of_body F.has ?_
  (conv => whnf); refine recA (fun hlt => ?_) (fun hlt => ?_)
  · conv => whnf
    simp [vC_length] at hlt
    exact .inl ⟨2, rfl, if_pos (by omega)⟩
  conv => whnf
  simp [vC_length] at hlt
  refine ⟨fun n ρ H => ∃ k : Nat, k + n = rs.length ∧ (rs.take k).all validB = true ∧ H = [.arr 1 (bC (encK rs k))] ∧
    Sv 71 [(0, .list ex 3 (vC rs)), (4, .sl 0 (bC (encK rs k)).length 0 (bC (encK rs k)).length), (5, .int .i64 k)] ρ, rs.length, [], ⟨0, by simp, by simp, ?_, ?_⟩, ?_⟩
  · simp [encK, bC, u8, vC_length]
  · exact Sv.intro rfl ⟨rfl, rfl, rfl, trivial⟩
  rintro n ρ H ⟨k, hk, hz, rfl, d, rfl⟩
  conv => whnf
  refine recA (fun hlt2 => ?_) (fun hlt2 => ?_)
  · simp [vC_length] at hlt2
    conv => whnf
    refine ⟨by omega, ?_⟩
    obtain ⟨v, hv0, hdrop, hmem⟩ := get_drop hlt2
    (conv => whnf); refine recO (vC_at hv0) ?_
    conv => whnf
    have hb : (bC (encK rs k)).length ≤ 1000 := by rw [bC_length]; exact Nat.le_trans (encK_len rs k hz) (by omega)
    have hsnoc : rs.take (k + 1) = rs.take k ++ [v] := by rw [List.take_add_one, hv0]; rfl
    refine ACalls.use (ref1_Valid_spec F.warehouseref1_Valid v _) ?_
    (conv => whnf); refine recA (fun hv => ?_) (fun hv => ?_)
    · conv => whnf
      have hall : rs.all validB = false := by
        apply Bool.eq_false_iff.2
        intro hall
        rw [List.all_eq_true.1 hall v hmem] at hv
        cases hv
      exact .inl ⟨8, rfl, by unfold encR; rw [if_neg (by omega), hall]; rfl⟩
    have hz2 : (rs.take (k + 1)).all validB = true := by rw [hsnoc]; simp at hv; simp [hz, hv]
    have hsz : (byteCells v.str.data.toList).length ≤ 64 := valid_str v (by simpa using hv)
    have hkey : bC (encK rs (k + 1)) = bC (encK rs k) ++ bC (encV v) := by rw [← bC_append]; congr 1; simp [encK, hsnoc]
    have e1 := wrapI ((k : Int) + 1) (by omega) (by omega)
    repeat' ((conv => whnf); first
      | refine recT (Nat.beq_refl _) ?_
      | refine And.intro ⟨roomB_le1 (by simp [w4_len]; omega), roomB_le (by simp [w4_len]; omega), rfl, rfl⟩ ?_
      | refine And.intro (by decide) ?_
      | refine recA (fun _ => ?_) (fun _ => ?_)
      | refine ACalls.use (four_spec F.warehouseref1_four _ _) ?_
      | refine And.intro rfl ?_)
    all_goals (conv => whnf)
    all_goals refine ⟨n - 1, by omega, Gp.one 0 1 (bC (encK rs (k + 1))) ?_ (pureEs_bC _) rfl ?_ fun ρ1 h => ⟨k + 1, by omega, hz2, rfl, h⟩⟩
    all_goals try (refine ⟨.closed _ rfl, pubSl (k := 0) rfl rfl ?_ ?_, pub_int e1, trivial⟩)
    all_goals (rw [hkey]; simp_all [encV, bC, u8, w4, bytesI, byteCells])
  · conv => whnf
    simp [vC_length] at hlt2
    have e : rs.take k = rs := List.take_of_length_le hlt2
    rw [e] at hz
    have e2 : encK rs k = encB rs := by simp [encK, encB, e]
    rw [e2]
    exact .inr ⟨_, rfl, rfl, rfl, by unfold encR; rw [if_neg (by omega), hz]; rfl⟩

theorem ref1_Encode_spec {P : Program} (F : F_warehouseref1_Encode P) (ex : Bool) (rs : List V) (H : List AObj) :
    ACalls P F.id [.list ex 3 (vC rs)] H (fun r H' => r = encR rs ∧ H' = H) := by
  refine ACalls.pure (by simp [AVal.closed, AVal.isPure]) ((ref1_Encode_raw F ex rs).mono ?_)
  rintro r H1 (⟨e, rfl, h⟩ | ⟨n, hn, rfl, rfl, h⟩)
  · rw [h]; exact pub2 (.closed _ rfl) (.closed _ rfl)
  · rw [h]; exact pub2 (pubF rfl hn hn (pureEs_bC _)) (.closed _ rfl)

end Go.AW

