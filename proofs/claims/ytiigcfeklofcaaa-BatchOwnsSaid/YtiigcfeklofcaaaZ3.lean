/-
  An abstract machine over the model, the code of functions on it, and their contracts: what the claim needs.
  No condition: definitions, plain laws, contracts over any program that has this code.
-/
import Derived.Test.YtiigcfeklofcaaaZ2
set_option linter.all false
namespace Go.AW
def c_batch_Validate (f_schema_IsName : FuncId) (f_schema_IsQualified : FuncId) (f_value_Encode : FuncId) : AFunc := ⟨46, [.tmp 2], (.seq (.region [ ⟨(some 1), .box (.t 0), none⟩, ⟨(some 2), .move (.c (.int .i64 0)), none⟩]) (.seq (.seq (.region [ ⟨(some 7), .fieldAddr 0 (.t 1), none⟩, ⟨(some 8), .load false 1 (.t 7), none⟩, ⟨(some 9), .call f_schema_IsName [(.t 8)], none⟩, ⟨(some 10), .un .not (.t 9), none⟩, ⟨(some 11), .move (.t 10), none⟩, ⟨(some 12), .fieldAddr 1 (.t 1), some (some 11, false)⟩, ⟨(some 13), .load false 1 (.t 12), some (some 11, false)⟩, ⟨(some 14), .call f_schema_IsQualified [(.t 13)], some (some 11, false)⟩, ⟨(some 15), .un .not (.t 14), some (some 11, false)⟩, ⟨(some 16), .pick (.t 11) (.c (.bool true)) (.t 15), none⟩]) (.cond (.t 16) (.seq (.region [ ⟨(some 2), .move (.c (.int .i64 4)), none⟩]) .ret) .skip)) (.seq (.seq (.region [ ⟨(some 17), .fieldAddr 2 (.t 1), none⟩, ⟨(some 18), .load false 1 (.t 17), none⟩, ⟨(some 19), .len (.t 18), none⟩, ⟨(some 20), .bin .gtr (.t 19) (.c (.int .i64 1024)), none⟩]) (.cond (.t 20) (.seq (.region [ ⟨(some 2), .move (.c (.int .i64 2)), none⟩]) .ret) .skip)) (.seq (.seq (.region [ ⟨(some 21), .fieldAddr 2 (.t 1), none⟩, ⟨(some 22), .load false 1 (.t 21), none⟩, ⟨(some 23), .len (.t 22), none⟩, ⟨(some 24), .move (.c (.int .i64 0)), none⟩]) (.block 0 (.loop (.seq (.region [ ⟨(some 25), .bin .lss (.t 24) (.t 23), none⟩]) (.seq (.cond (.t 25) .skip (.exit 0)) (.seq (.block 1 (.seq (.region [ ⟨(some 26), .indexAddr 3 (.t 22) (.t 24), none⟩, ⟨(some 27), .load true 3 (.t 26), none⟩, ⟨(some 4), .alloc [(.bool false), (.int .i64 0), .nil], none⟩, ⟨none, .store 3 (.t 4) (.t 27), none⟩]) (.seq (.seq (.region [ ⟨(some 28), .fieldAddr 1 (.t 4), none⟩, ⟨(some 29), .load false 1 (.t 28), none⟩, ⟨(some 30), .bin .lss (.t 29) (.c (.int .i64 0)), none⟩, ⟨(some 31), .move (.t 30), none⟩, ⟨(some 32), .fieldAddr 1 (.t 4), some (some 31, false)⟩, ⟨(some 33), .load false 1 (.t 32), some (some 31, false)⟩, ⟨(some 34), .bin .gtr (.t 33) (.c (.int .i64 1073741824)), some (some 31, false)⟩, ⟨(some 35), .pick (.t 31) (.c (.bool true)) (.t 34), none⟩]) (.cond (.t 35) (.seq (.region [ ⟨(some 2), .move (.c (.int .i64 1)), none⟩]) .ret) .skip)) (.seq (.region [ ⟨(some 37), .fieldAddr 2 (.t 4), none⟩, ⟨(some 38), .load false 1 (.t 37), none⟩, ⟨(some 39), .call f_value_Encode [(.t 38)], none⟩, ⟨(some 36), .move (.t 39), none⟩, ⟨(some 40), .extract (.t 36) 0, none⟩, ⟨(some 41), .extract (.t 36) 1, none⟩, ⟨(some 5), .move (.t 40), none⟩, ⟨(some 6), .move (.t 41), none⟩]) (.seq (.region [ ⟨(some 42), .move (.t 6), none⟩, ⟨(some 43), .bin .neq (.t 42) (.c (.int .i64 0)), none⟩]) (.cond (.t 43) (.seq (.region [ ⟨(some 44), .move (.t 6), none⟩, ⟨(some 2), .move (.t 44), none⟩]) .ret) .skip)))))) (.region [ ⟨(some 45), .bin .add (.t 24) (.c (.int .i64 1)), none⟩, ⟨(some 24), .move (.t 45), none⟩]))))))) (.seq (.region [ ⟨(some 2), .move (.c (.int .i64 0)), none⟩]) .ret)))))⟩

structure F_batch_Validate (P : Program) where
  id : FuncId
  schema_IsName : F_schema_IsName P
  schema_IsQualified : F_schema_IsQualified P
  value_Encode : F_value_Encode P
  has : Has P id [] (c_batch_Validate schema_IsName.id schema_IsQualified.id value_Encode.id)

def c_batch_putText : AFunc := ⟨13, [.tmp 4], (.seq (.region [ ⟨(some 4), .move (.c .nil), none⟩]) (.seq (.region [ ⟨(some 5), .move (.t 0), none⟩, ⟨(some 6), .move (.t 1), none⟩, ⟨(some 7), .lenS (.t 6), none⟩, ⟨(some 8), .conv .u8 (.t 7), none⟩, ⟨(some 9), .buildSlice 1 1 [(.int .u8 0)] [(0, (.t 8))], none⟩, ⟨(some 10), .append 1 1 [(.int .u8 0)] (.t 5) (.t 9), none⟩, ⟨(some 11), .move (.t 1), none⟩, ⟨(some 12), .append 1 1 [(.int .u8 0)] (.t 10) (.t 11), none⟩, ⟨(some 4), .move (.t 12), none⟩]) .ret))⟩

structure F_batch_putText (P : Program) where
  id : FuncId
  has : Has P id [] c_batch_putText

def c_batch_put2 : AFunc := ⟨13, [.tmp 4], (.seq (.region [ ⟨(some 4), .move (.c .nil), none⟩]) (.seq (.region [ ⟨(some 5), .move (.t 0), none⟩, ⟨(some 6), .move (.t 1), none⟩, ⟨(some 7), .bin .shr (.t 6) (.c (.int .u64 8)), none⟩, ⟨(some 8), .conv .u8 (.t 7), none⟩, ⟨(some 9), .move (.t 1), none⟩, ⟨(some 10), .conv .u8 (.t 9), none⟩, ⟨(some 11), .buildSlice 1 2 [(.int .u8 0)] [(0, (.t 8)), (1, (.t 10))], none⟩, ⟨(some 12), .append 1 1 [(.int .u8 0)] (.t 5) (.t 11), none⟩, ⟨(some 4), .move (.t 12), none⟩]) .ret))⟩

structure F_batch_put2 (P : Program) where
  id : FuncId
  has : Has P id [] c_batch_put2

def c_batch_put4 (f_batch_put2 : FuncId) : AFunc := ⟨17, [.tmp 4], (.seq (.region [ ⟨(some 4), .move (.c .nil), none⟩]) (.seq (.region [ ⟨(some 5), .move (.t 0), none⟩, ⟨(some 6), .move (.t 1), none⟩, ⟨(some 7), .bin .shr (.t 6) (.c (.int .u64 16)), none⟩, ⟨(some 8), .conv .i64 (.t 7), none⟩, ⟨(some 9), .call f_batch_put2 [(.t 5), (.t 8)], none⟩, ⟨(some 10), .move (.t 1), none⟩, ⟨(some 11), .bin .shr (.t 10) (.c (.int .u64 8)), none⟩, ⟨(some 12), .conv .u8 (.t 11), none⟩, ⟨(some 13), .move (.t 1), none⟩, ⟨(some 14), .conv .u8 (.t 13), none⟩, ⟨(some 15), .buildSlice 1 2 [(.int .u8 0)] [(0, (.t 12)), (1, (.t 14))], none⟩, ⟨(some 16), .append 1 1 [(.int .u8 0)] (.t 9) (.t 15), none⟩, ⟨(some 4), .move (.t 16), none⟩]) .ret))⟩

structure F_batch_put4 (P : Program) where
  id : FuncId
  batch_put2 : F_batch_put2 P
  has : Has P id [] (c_batch_put4 batch_put2.id)

def c_batch_putRecord (f_value_Encode : FuncId) (f_batch_put4 : FuncId) (f_batch_put2 : FuncId) : AFunc := ⟨30, [.tmp 4], (.seq (.region [ ⟨(some 3), .box (.t 1), none⟩, ⟨(some 4), .move (.c .nil), none⟩]) (.seq (.region [ ⟨(some 9), .fieldAddr 2 (.t 3), none⟩, ⟨(some 10), .load false 1 (.t 9), none⟩, ⟨(some 11), .call f_value_Encode [(.t 10)], none⟩, ⟨(some 8), .move (.t 11), none⟩, ⟨(some 12), .extract (.t 8) 0, none⟩, ⟨(some 13), .extract (.t 8) 1, none⟩, ⟨(some 5), .move (.t 12), none⟩, ⟨(some 6), .move (.t 13), none⟩]) (.seq (.region [ ⟨(some 7), .move (.c (.int .u8 0)), none⟩]) (.seq (.seq (.region [ ⟨(some 14), .fieldAddr 0 (.t 3), none⟩, ⟨(some 15), .load false 1 (.t 14), none⟩]) (.cond (.t 15) (.region [ ⟨(some 7), .move (.c (.int .u8 1)), none⟩]) .skip)) (.seq (.draw [ (⟨(some 16), .move (.t 0), none⟩, []), (⟨(some 17), .move (.t 7), none⟩, []), (⟨(some 18), .buildSlice 1 1 [(.int .u8 0)] [(0, (.t 17))], none⟩, []), (⟨(some 19), .append 1 1 [(.int .u8 0)] (.t 16) (.t 18), none⟩, []), (⟨(some 20), .fieldAddr 1 (.t 3), none⟩, []), (⟨(some 21), .load false 1 (.t 20), none⟩, [9]), (⟨(some 22), .conv .u32 (.t 21), none⟩, []), (⟨(some 23), .callE f_batch_put4 [(.t 19), (.t 22)], none⟩, []), (⟨(some 0), .move (.t 23), none⟩, [])]) (.seq (.region [ ⟨(some 24), .move (.t 0), none⟩, ⟨(some 25), .move (.t 5), none⟩, ⟨(some 26), .len (.t 25), none⟩, ⟨(some 27), .call f_batch_put2 [(.t 24), (.t 26)], none⟩, ⟨(some 28), .move (.t 5), none⟩, ⟨(some 29), .append 1 1 [(.int .u8 0)] (.t 27) (.t 28), none⟩, ⟨(some 4), .move (.t 29), none⟩]) .ret))))))⟩

structure F_batch_putRecord (P : Program) where
  id : FuncId
  value_Encode : F_value_Encode P
  batch_put4 : F_batch_put4 P
  batch_put2 : F_batch_put2 P
  has : Has P id [23] (c_batch_putRecord value_Encode.id batch_put4.id batch_put2.id)

def c_batch_Checksum : AFunc := ⟨19, [.tmp 2], (.seq (.region [ ⟨(some 2), .move (.c (.int .u32 0)), none⟩]) (.seq (.region [ ⟨(some 3), .move (.c (.int .u32 2166136261)), none⟩]) (.seq (.seq (.region [ ⟨(some 6), .move (.t 0), none⟩, ⟨(some 7), .len (.t 6), none⟩, ⟨(some 8), .move (.c (.int .i64 0)), none⟩]) (.block 0 (.loop (.seq (.region [ ⟨(some 9), .bin .lss (.t 8) (.t 7), none⟩]) (.seq (.cond (.t 9) .skip (.exit 0)) (.seq (.block 1 (.seq (.region [ ⟨(some 10), .indexAddr 1 (.t 6) (.t 8), none⟩, ⟨(some 11), .load false 1 (.t 10), none⟩, ⟨(some 5), .move (.t 11), none⟩]) (.region [ ⟨(some 12), .move (.t 3), none⟩, ⟨(some 13), .move (.t 5), none⟩, ⟨(some 14), .conv .u32 (.t 13), none⟩, ⟨(some 15), .bin .xor (.t 12) (.t 14), none⟩, ⟨(some 16), .bin .mul (.t 15) (.c (.int .u32 16777619)), none⟩, ⟨(some 3), .move (.t 16), none⟩]))) (.region [ ⟨(some 17), .bin .add (.t 8) (.c (.int .i64 1)), none⟩, ⟨(some 8), .move (.t 17), none⟩]))))))) (.seq (.region [ ⟨(some 18), .move (.t 3), none⟩, ⟨(some 2), .move (.t 18), none⟩]) .ret))))⟩

structure F_batch_Checksum (P : Program) where
  id : FuncId
  has : Has P id [] c_batch_Checksum

def c_batch_Encode (f_batch_Validate : FuncId) (f_batch_putText : FuncId) (f_batch_put2 : FuncId) (f_batch_putRecord : FuncId) (f_batch_Checksum : FuncId) (f_batch_put4 : FuncId) : AFunc := ⟨45, [.tmp 2, .tmp 3], (.seq (.region [ ⟨(some 1), .box (.t 0), none⟩, ⟨(some 2), .move (.c .nil), none⟩, ⟨(some 3), .move (.c (.int .i64 0)), none⟩]) (.seq (.seq (.region [ ⟨(some 8), .load true 3 (.t 1), none⟩, ⟨(some 9), .call f_batch_Validate [(.t 8)], none⟩, ⟨(some 4), .move (.t 9), none⟩]) (.seq (.region [ ⟨(some 10), .move (.t 4), none⟩, ⟨(some 11), .bin .neq (.t 10) (.c (.int .i64 0)), none⟩]) (.cond (.t 11) (.seq (.region [ ⟨(some 12), .move (.t 4), none⟩, ⟨(some 2), .move (.c .nil), none⟩, ⟨(some 3), .move (.t 12), none⟩]) .ret) .skip))) (.seq (.draw [ (⟨(some 13), .buildSliceO 1 4 [(.int .u8 0)] [(0, (.c (.int .u8 87))), (1, (.c (.int .u8 72))), (2, (.c (.int .u8 70))), (3, (.c (.int .u8 49)))], none⟩, []), (⟨(some 14), .mark (.t 13), none⟩, []), (⟨(some 15), .fieldAddr 0 (.t 1), none⟩, []), (⟨(some 16), .load false 1 (.t 15), none⟩, [9, 8]), (⟨(some 17), .callE f_batch_putText [(.t 14), (.t 16)], none⟩, []), (⟨(some 18), .fieldAddr 1 (.t 1), none⟩, []), (⟨(some 19), .load false 1 (.t 18), none⟩, [9, 8, 7]), (⟨(some 20), .callE f_batch_putText [(.t 17), (.t 19)], none⟩, []), (⟨(some 5), .move (.t 20), none⟩, [])]) (.seq (.region [ ⟨(some 21), .move (.t 5), none⟩, ⟨(some 22), .fieldAddr 2 (.t 1), none⟩, ⟨(some 23), .load false 1 (.t 22), none⟩, ⟨(some 24), .len (.t 23), none⟩, ⟨(some 25), .call f_batch_put2 [(.t 21), (.t 24)], none⟩, ⟨(some 5), .move (.t 25), none⟩]) (.seq (.seq (.region [ ⟨(some 26), .fieldAddr 2 (.t 1), none⟩, ⟨(some 27), .load false 1 (.t 26), none⟩, ⟨(some 28), .len (.t 27), none⟩, ⟨(some 29), .move (.c (.int .i64 0)), none⟩]) (.block 0 (.loop (.seq (.region [ ⟨(some 30), .bin .lss (.t 29) (.t 28), none⟩]) (.seq (.cond (.t 30) .skip (.exit 0)) (.seq (.block 1 (.seq (.region [ ⟨(some 31), .indexAddr 3 (.t 27) (.t 29), none⟩, ⟨(some 32), .load true 3 (.t 31), none⟩, ⟨(some 7), .alloc [(.bool false), (.int .i64 0), .nil], none⟩, ⟨none, .store 3 (.t 7) (.t 32), none⟩]) (.region [ ⟨(some 33), .move (.t 5), none⟩, ⟨(some 34), .load true 3 (.t 7), none⟩, ⟨(some 35), .call f_batch_putRecord [(.t 33), (.t 34)], none⟩, ⟨(some 5), .move (.t 35), none⟩]))) (.region [ ⟨(some 36), .bin .add (.t 29) (.c (.int .i64 1)), none⟩, ⟨(some 29), .move (.t 36), none⟩]))))))) (.seq (.region [ ⟨(some 37), .move (.t 5), none⟩, ⟨(some 38), .move (.t 5), none⟩, ⟨(some 39), .call f_batch_Checksum [(.t 38)], none⟩, ⟨(some 40), .call f_batch_put4 [(.t 37), (.t 39)], none⟩, ⟨(some 5), .move (.t 40), none⟩]) (.seq (.seq (.region [ ⟨(some 41), .move (.t 5), none⟩, ⟨(some 42), .len (.t 41), none⟩, ⟨(some 43), .bin .gtr (.t 42) (.c (.int .i64 65536)), none⟩]) (.cond (.t 43) (.seq (.region [ ⟨(some 2), .move (.c .nil), none⟩, ⟨(some 3), .move (.c (.int .i64 2)), none⟩]) .ret) .skip)) (.seq (.region [ ⟨(some 44), .move (.t 5), none⟩, ⟨(some 2), .move (.t 44), none⟩, ⟨(some 3), .move (.c (.int .i64 0)), none⟩]) .ret))))))))⟩

structure F_batch_Encode (P : Program) where
  id : FuncId
  batch_Validate : F_batch_Validate P
  batch_putText : F_batch_putText P
  batch_put2 : F_batch_put2 P
  batch_putRecord : F_batch_putRecord P
  batch_Checksum : F_batch_Checksum P
  batch_put4 : F_batch_put4 P
  has : Has P id [13, 17, 20] (c_batch_Encode batch_Validate.id batch_putText.id batch_put2.id batch_putRecord.id batch_Checksum.id batch_put4.id)

def c_bytes_Equal : AFunc := ⟨10, [.tmp 4], (.seq (.region [ ⟨(some 4), .move (.c (.bool false)), none⟩]) (.seq (.region [ ⟨(some 5), .move (.t 0), none⟩, ⟨(some 6), .convBS (.t 5), none⟩, ⟨(some 7), .move (.t 1), none⟩, ⟨(some 8), .convBS (.t 7), none⟩, ⟨(some 9), .bin .eql (.t 6) (.t 8), none⟩, ⟨(some 4), .move (.t 9), none⟩]) .ret))⟩

structure F_bytes_Equal (P : Program) where
  id : FuncId
  has : Has P id [] c_bytes_Equal

def c_batch_reader_take : AFunc := ⟨38, [.tmp 4], (.seq (.region [ ⟨(some 4), .move (.c .nil), none⟩]) (.seq (.seq (.region [ ⟨(some 6), .move (.t 0), none⟩, ⟨(some 7), .nop (.t 6), none⟩, ⟨(some 8), .fieldAddr 1 (.t 7), none⟩, ⟨(some 9), .load false 1 (.t 8), none⟩, ⟨(some 10), .move (.t 9), none⟩, ⟨(some 11), .move (.t 1), some (some 10, false)⟩, ⟨(some 12), .move (.t 0), some (some 10, false)⟩, ⟨(some 13), .nop (.t 12), some (some 10, false)⟩, ⟨(some 14), .fieldAddr 0 (.t 13), some (some 10, false)⟩, ⟨(some 15), .load false 1 (.t 14), some (some 10, false)⟩, ⟨(some 16), .len (.t 15), some (some 10, false)⟩, ⟨(some 17), .bin .gtr (.t 11) (.t 16), some (some 10, false)⟩, ⟨(some 18), .pick (.t 10) (.c (.bool true)) (.t 17), none⟩]) (.cond (.t 18) (.seq (.region [ ⟨(some 19), .move (.t 0), none⟩, ⟨(some 20), .nop (.t 19), none⟩, ⟨(some 21), .fieldAddr 1 (.t 20), none⟩, ⟨none, .store 1 (.t 21) (.c (.bool true)), none⟩]) (.seq (.region [ ⟨(some 4), .move (.c .nil), none⟩]) .ret)) .skip)) (.seq (.region [ ⟨(some 22), .move (.t 0), none⟩, ⟨(some 23), .nop (.t 22), none⟩, ⟨(some 24), .fieldAddr 0 (.t 23), none⟩, ⟨(some 25), .load false 1 (.t 24), none⟩, ⟨(some 26), .move (.t 1), none⟩, ⟨(some 27), .slice 1 (.t 25) none (some (.t 26)), none⟩, ⟨(some 5), .move (.t 27), none⟩]) (.seq (.region [ ⟨(some 28), .move (.t 0), none⟩, ⟨(some 29), .move (.t 0), none⟩, ⟨(some 30), .nop (.t 29), none⟩, ⟨(some 31), .fieldAddr 0 (.t 30), none⟩, ⟨(some 32), .load false 1 (.t 31), none⟩, ⟨(some 33), .move (.t 1), none⟩, ⟨(some 34), .slice 1 (.t 32) (some (.t 33)) none, none⟩, ⟨(some 35), .nop (.t 28), none⟩, ⟨(some 36), .fieldAddr 0 (.t 35), none⟩, ⟨none, .store 1 (.t 36) (.t 34), none⟩]) (.seq (.region [ ⟨(some 37), .move (.t 5), none⟩, ⟨(some 4), .move (.t 37), none⟩]) .ret)))))⟩

structure F_batch_reader_take (P : Program) where
  id : FuncId
  has : Has P id [] c_batch_reader_take

def c_batch_reader_number (f_batch_reader_take : FuncId) : AFunc := ⟨23, [.tmp 4], (.seq (.region [ ⟨(some 4), .move (.c (.int .i64 0)), none⟩]) (.seq (.region [ ⟨(some 5), .move (.c (.int .i64 0)), none⟩]) (.seq (.seq (.region [ ⟨(some 8), .move (.t 0), none⟩, ⟨(some 9), .move (.t 1), none⟩, ⟨(some 10), .call f_batch_reader_take [(.t 8), (.t 9)], none⟩, ⟨(some 11), .len (.t 10), none⟩, ⟨(some 12), .move (.c (.int .i64 0)), none⟩]) (.block 0 (.loop (.seq (.region [ ⟨(some 13), .bin .lss (.t 12) (.t 11), none⟩]) (.seq (.cond (.t 13) .skip (.exit 0)) (.seq (.block 1 (.seq (.region [ ⟨(some 14), .indexAddr 1 (.t 10) (.t 12), none⟩, ⟨(some 15), .load false 1 (.t 14), none⟩, ⟨(some 7), .move (.t 15), none⟩]) (.region [ ⟨(some 16), .move (.t 5), none⟩, ⟨(some 17), .bin .shl (.t 16) (.c (.int .u64 8)), none⟩, ⟨(some 18), .move (.t 7), none⟩, ⟨(some 19), .conv .i64 (.t 18), none⟩, ⟨(some 20), .bin .or (.t 17) (.t 19), none⟩, ⟨(some 5), .move (.t 20), none⟩]))) (.region [ ⟨(some 21), .bin .add (.t 12) (.c (.int .i64 1)), none⟩, ⟨(some 12), .move (.t 21), none⟩]))))))) (.seq (.region [ ⟨(some 22), .move (.t 5), none⟩, ⟨(some 4), .move (.t 22), none⟩]) .ret))))⟩

structure F_batch_reader_number (P : Program) where
  id : FuncId
  batch_reader_take : F_batch_reader_take P
  has : Has P id [] (c_batch_reader_number batch_reader_take.id)

def c_batch_reader_text (f_batch_reader_number : FuncId) (f_batch_reader_take : FuncId) : AFunc := ⟨8, [.tmp 2], (.seq (.region [ ⟨(some 2), .move (.c (.str (bs []))), none⟩]) (.seq (.region [ ⟨(some 3), .move (.t 0), none⟩, ⟨(some 4), .move (.t 0), none⟩, ⟨(some 5), .call f_batch_reader_number [(.t 4), (.c (.int .i64 1))], none⟩, ⟨(some 6), .call f_batch_reader_take [(.t 3), (.t 5)], none⟩, ⟨(some 7), .convBS (.t 6), none⟩, ⟨(some 2), .move (.t 7), none⟩]) .ret))⟩

structure F_batch_reader_text (P : Program) where
  id : FuncId
  batch_reader_number : F_batch_reader_number P
  batch_reader_take : F_batch_reader_take P
  has : Has P id [] (c_batch_reader_text batch_reader_number.id batch_reader_take.id)

def c_batch_reader_record (f_batch_reader_number : FuncId) (f_batch_reader_take : FuncId) (f_value_Decode : FuncId) : AFunc := ⟨29, [.cell true 3 2], (.seq (.region [ ⟨(some 2), .alloc [(.bool false), (.int .i64 0), .nil], none⟩]) (.seq (.region [ ⟨(some 6), .move (.t 0), none⟩, ⟨(some 7), .call f_batch_reader_number [(.t 6), (.c (.int .i64 1))], none⟩, ⟨(some 8), .bin .neq (.t 7) (.c (.int .i64 0)), none⟩, ⟨(some 9), .build [(.bool false), (.int .i64 0), .nil] [(0, 1, (.t 8))], none⟩, ⟨(some 3), .alloc [(.bool false), (.int .i64 0), .nil], none⟩, ⟨none, .store 3 (.t 3) (.t 9), none⟩]) (.seq (.region [ ⟨(some 10), .move (.t 0), none⟩, ⟨(some 11), .call f_batch_reader_number [(.t 10), (.c (.int .i64 4))], none⟩, ⟨(some 12), .fieldAddr 1 (.t 3), none⟩, ⟨none, .store 1 (.t 12) (.t 11), none⟩]) (.seq (.region [ ⟨(some 14), .move (.t 0), none⟩, ⟨(some 15), .move (.t 0), none⟩, ⟨(some 16), .call f_batch_reader_number [(.t 15), (.c (.int .i64 2))], none⟩, ⟨(some 17), .call f_batch_reader_take [(.t 14), (.t 16)], none⟩, ⟨(some 18), .call f_value_Decode [(.t 17)], none⟩, ⟨(some 13), .move (.t 18), none⟩, ⟨(some 19), .extract (.t 13) 0, none⟩, ⟨(some 20), .extract (.t 13) 1, none⟩, ⟨(some 4), .move (.t 19), none⟩, ⟨(some 5), .move (.t 20), none⟩]) (.seq (.seq (.region [ ⟨(some 21), .move (.t 5), none⟩, ⟨(some 22), .bin .neq (.t 21) (.c (.int .i64 0)), none⟩]) (.cond (.t 22) (.region [ ⟨(some 23), .move (.t 0), none⟩, ⟨(some 24), .nop (.t 23), none⟩, ⟨(some 25), .fieldAddr 1 (.t 24), none⟩, ⟨none, .store 1 (.t 25) (.c (.bool true)), none⟩]) .skip)) (.seq (.region [ ⟨(some 26), .move (.t 4), none⟩, ⟨(some 27), .fieldAddr 2 (.t 3), none⟩, ⟨none, .store 1 (.t 27) (.t 26), none⟩]) (.seq (.region [ ⟨(some 28), .load true 3 (.t 3), none⟩, ⟨none, .store 3 (.t 2) (.t 28), none⟩]) .ret)))))))⟩

structure F_batch_reader_record (P : Program) where
  id : FuncId
  batch_reader_number : F_batch_reader_number P
  batch_reader_take : F_batch_reader_take P
  value_Decode : F_value_Decode P
  has : Has P id [] (c_batch_reader_record batch_reader_number.id batch_reader_take.id value_Decode.id)

def c_batch_reader_file (f_batch_reader_take : FuncId) (f_batch_reader_text : FuncId) (f_batch_reader_number : FuncId) (f_batch_reader_record : FuncId) : AFunc := ⟨39, [.cell true 3 2], (.seq (.region [ ⟨(some 2), .alloc [(.str (bs [])), (.str (bs [])), .nil], none⟩]) (.seq (.seq (.region [ ⟨(some 5), .move (.t 0), none⟩, ⟨(some 6), .call f_batch_reader_take [(.t 5), (.c (.int .i64 4))], none⟩, ⟨(some 7), .convBS (.t 6), none⟩, ⟨(some 8), .bin .neq (.t 7) (.c (.str (bs [87, 72, 70, 49]))), none⟩]) (.cond (.t 8) (.region [ ⟨(some 9), .move (.t 0), none⟩, ⟨(some 10), .nop (.t 9), none⟩, ⟨(some 11), .fieldAddr 1 (.t 10), none⟩, ⟨none, .store 1 (.t 11) (.c (.bool true)), none⟩]) .skip)) (.seq (.region [ ⟨(some 12), .move (.t 0), none⟩, ⟨(some 13), .call f_batch_reader_text [(.t 12)], none⟩, ⟨(some 14), .build [(.str (bs [])), (.str (bs [])), .nil] [(0, 1, (.t 13))], none⟩, ⟨(some 3), .alloc [(.str (bs [])), (.str (bs [])), .nil], none⟩, ⟨none, .store 3 (.t 3) (.t 14), none⟩]) (.seq (.region [ ⟨(some 15), .move (.t 0), none⟩, ⟨(some 16), .call f_batch_reader_text [(.t 15)], none⟩, ⟨(some 17), .fieldAddr 1 (.t 3), none⟩, ⟨none, .store 1 (.t 17) (.t 16), none⟩]) (.seq (.seq (.region [ ⟨(some 18), .move (.t 0), none⟩, ⟨(some 19), .call f_batch_reader_number [(.t 18), (.c (.int .i64 2))], none⟩, ⟨(some 4), .move (.t 19), none⟩]) (.block 0 (.loop (.seq (.seq (.region [ ⟨(some 20), .move (.t 4), none⟩, ⟨(some 21), .bin .gtr (.t 20) (.c (.int .i64 0)), none⟩, ⟨(some 22), .move (.t 21), none⟩, ⟨(some 23), .move (.t 0), some (some 22, true)⟩, ⟨(some 24), .nop (.t 23), some (some 22, true)⟩, ⟨(some 25), .fieldAddr 1 (.t 24), some (some 22, true)⟩, ⟨(some 26), .load false 1 (.t 25), some (some 22, true)⟩, ⟨(some 27), .un .not (.t 26), some (some 22, true)⟩, ⟨(some 28), .pick (.t 22) (.t 27) (.c (.bool false)), none⟩]) (.cond (.t 28) .skip (.exit 0))) (.seq (.block 1 (.draw [ (⟨(some 31), .fieldAddr 2 (.t 3), none⟩, []), (⟨(some 32), .load false 1 (.t 31), none⟩, [4]), (⟨(some 33), .move (.t 0), none⟩, []), (⟨(some 34), .callE f_batch_reader_record [(.t 33)], none⟩, []), (⟨(some 35), .buildSlice 3 1 [(.bool false), (.int .i64 0), .nil] [(0, (.t 34))], none⟩, []), (⟨(some 36), .append 3 40 [(.bool false), (.int .i64 0), .nil] (.t 32) (.t 35), none⟩, []), (⟨(some 37), .fieldAddr 2 (.t 3), none⟩, []), (⟨none, .store 1 (.t 37) (.t 36), none⟩, [])])) (.region [ ⟨(some 29), .move (.t 4), none⟩, ⟨(some 30), .bin .sub (.t 29) (.c (.int .i64 1)), none⟩, ⟨(some 4), .move (.t 30), none⟩])))))) (.seq (.region [ ⟨(some 38), .load true 3 (.t 3), none⟩, ⟨none, .store 3 (.t 2) (.t 38), none⟩]) .ret))))))⟩

structure F_batch_reader_file (P : Program) where
  id : FuncId
  batch_reader_take : F_batch_reader_take P
  batch_reader_text : F_batch_reader_text P
  batch_reader_number : F_batch_reader_number P
  batch_reader_record : F_batch_reader_record P
  has : Has P id [34] (c_batch_reader_file batch_reader_take.id batch_reader_text.id batch_reader_number.id batch_reader_record.id)

def c_batch_Decode (f_batch_Checksum : FuncId) (f_batch_put4 : FuncId) (f_bytes_Equal : FuncId) (f_batch_reader_file : FuncId) (f_batch_Encode : FuncId) : AFunc := ⟨69, [.cell true 3 2, .tmp 3], (.seq (.region [ ⟨(some 2), .alloc [(.str (bs [])), (.str (bs [])), .nil], none⟩, ⟨(some 3), .move (.c (.int .i64 0)), none⟩]) (.seq (.seq (.region [ ⟨(some 8), .move (.t 0), none⟩, ⟨(some 9), .len (.t 8), none⟩, ⟨(some 10), .bin .gtr (.t 9) (.c (.int .i64 65536)), none⟩]) (.cond (.t 10) (.seq (.region [ ⟨(some 11), .build [(.str (bs [])), (.str (bs [])), .nil] [], none⟩, ⟨none, .store 3 (.t 2) (.t 11), none⟩, ⟨(some 3), .move (.c (.int .i64 2)), none⟩]) .ret) .skip)) (.seq (.seq (.draw [ (⟨(some 12), .move (.t 0), none⟩, []), (⟨(some 13), .len (.t 12), none⟩, []), (⟨(some 14), .bin .lss (.t 13) (.c (.int .i64 4)), none⟩, []), (⟨(some 15), .move (.t 14), none⟩, []), (⟨(some 16), .move (.t 0), some (some 15, false)⟩, []), (⟨(some 17), .move (.t 0), some (some 15, false)⟩, []), (⟨(some 18), .len (.t 17), some (some 15, false)⟩, []), (⟨(some 19), .bin .sub (.t 18) (.c (.int .i64 4)), some (some 15, false)⟩, []), (⟨(some 20), .slice 1 (.t 16) (some (.t 19)) none, some (some 15, false)⟩, []), (⟨(some 21), .move (.t 0), some (some 15, false)⟩, []), (⟨(some 22), .move (.t 0), some (some 15, false)⟩, []), (⟨(some 23), .len (.t 22), some (some 15, false)⟩, []), (⟨(some 24), .bin .sub (.t 23) (.c (.int .i64 4)), some (some 15, false)⟩, []), (⟨(some 25), .slice 1 (.t 21) none (some (.t 24)), some (some 15, false)⟩, []), (⟨(some 26), .call f_batch_Checksum [(.t 25)], some (some 15, false)⟩, []), (⟨(some 27), .call f_batch_put4 [(.c .nil), (.t 26)], some (some 15, false)⟩, []), (⟨(some 28), .call f_bytes_Equal [(.t 20), (.t 27)], some (some 15, false)⟩, []), (⟨(some 29), .un .not (.t 28), some (some 15, false)⟩, []), (⟨(some 30), .pick (.t 15) (.c (.bool true)) (.t 29), none⟩, [])]) (.cond (.t 30) (.seq (.region [ ⟨(some 31), .build [(.str (bs [])), (.str (bs [])), .nil] [], none⟩, ⟨none, .store 3 (.t 2) (.t 31), none⟩, ⟨(some 3), .move (.c (.int .i64 12)), none⟩]) .ret) .skip)) (.seq (.region [ ⟨(some 32), .move (.t 0), none⟩, ⟨(some 33), .move (.t 0), none⟩, ⟨(some 34), .len (.t 33), none⟩, ⟨(some 35), .bin .sub (.t 34) (.c (.int .i64 4)), none⟩, ⟨(some 36), .slice 1 (.t 32) none (some (.t 35)), none⟩, ⟨(some 37), .build [.nil, (.bool false)] [(0, 1, (.t 36))], none⟩, ⟨(some 38), .box (.t 37), none⟩, ⟨(some 4), .move (.t 38), none⟩]) (.seq (.region [ ⟨(some 39), .move (.t 4), none⟩, ⟨(some 40), .call f_batch_reader_file [(.t 39)], none⟩, ⟨(some 5), .alloc [(.str (bs [])), (.str (bs [])), .nil], none⟩, ⟨none, .store 3 (.t 5) (.t 40), none⟩]) (.seq (.seq (.region [ ⟨(some 41), .move (.t 4), none⟩, ⟨(some 42), .nop (.t 41), none⟩, ⟨(some 43), .fieldAddr 1 (.t 42), none⟩, ⟨(some 44), .load false 1 (.t 43), none⟩, ⟨(some 45), .move (.t 44), none⟩, ⟨(some 46), .move (.t 4), some (some 45, false)⟩, ⟨(some 47), .nop (.t 46), some (some 45, false)⟩, ⟨(some 48), .fieldAddr 0 (.t 47), some (some 45, false)⟩, ⟨(some 49), .load false 1 (.t 48), some (some 45, false)⟩, ⟨(some 50), .len (.t 49), some (some 45, false)⟩, ⟨(some 51), .bin .gtr (.t 50) (.c (.int .i64 0)), some (some 45, false)⟩, ⟨(some 52), .pick (.t 45) (.c (.bool true)) (.t 51), none⟩]) (.cond (.t 52) (.seq (.region [ ⟨(some 53), .build [(.str (bs [])), (.str (bs [])), .nil] [], none⟩, ⟨none, .store 3 (.t 2) (.t 53), none⟩, ⟨(some 3), .move (.c (.int .i64 11)), none⟩]) .ret) .skip)) (.seq (.seq (.region [ ⟨(some 55), .load true 3 (.t 5), none⟩, ⟨(some 56), .call f_batch_Encode [(.t 55)], none⟩, ⟨(some 54), .move (.t 56), none⟩, ⟨(some 57), .extract (.t 54) 0, none⟩, ⟨(some 58), .extract (.t 54) 1, none⟩, ⟨(some 6), .move (.t 57), none⟩, ⟨(some 7), .move (.t 58), none⟩]) (.seq (.region [ ⟨(some 59), .move (.t 7), none⟩, ⟨(some 60), .bin .neq (.t 59) (.c (.int .i64 0)), none⟩, ⟨(some 61), .move (.t 60), none⟩, ⟨(some 62), .move (.t 6), some (some 61, false)⟩, ⟨(some 63), .move (.t 0), some (some 61, false)⟩, ⟨(some 64), .call f_bytes_Equal [(.t 62), (.t 63)], some (some 61, false)⟩, ⟨(some 65), .un .not (.t 64), some (some 61, false)⟩, ⟨(some 66), .pick (.t 61) (.c (.bool true)) (.t 65), none⟩]) (.cond (.t 66) (.seq (.region [ ⟨(some 67), .build [(.str (bs [])), (.str (bs [])), .nil] [], none⟩, ⟨none, .store 3 (.t 2) (.t 67), none⟩, ⟨(some 3), .move (.c (.int .i64 11)), none⟩]) .ret) .skip))) (.seq (.region [ ⟨(some 68), .load true 3 (.t 5), none⟩, ⟨none, .store 3 (.t 2) (.t 68), none⟩, ⟨(some 3), .move (.c (.int .i64 0)), none⟩]) .ret))))))))⟩

structure F_batch_Decode (P : Program) where
  id : FuncId
  batch_Checksum : F_batch_Checksum P
  batch_put4 : F_batch_put4 P
  bytes_Equal : F_bytes_Equal P
  batch_reader_file : F_batch_reader_file P
  batch_Encode : F_batch_Encode P
  has : Has P id [] (c_batch_Decode batch_Checksum.id batch_put4.id bytes_Equal.id batch_reader_file.id batch_Encode.id)

def c_warehouselaw24_known (f_batch_Encode : FuncId) (f_batch_Decode : FuncId) (f_batch_Checksum : FuncId) : AFunc := ⟨52, [.tmp 0], (.seq (.region [ ⟨(some 0), .move (.c (.bool false)), none⟩]) (.seq (.region [ ⟨(some 6), .build [(.str (bs [])), (.str (bs [])), .nil] [(0, 1, (.c (.str (bs [97])))), (1, 1, (.c (.str (bs [115]))))], none⟩, ⟨(some 7), .call f_batch_Encode [(.t 6)], none⟩, ⟨(some 5), .move (.t 7), none⟩, ⟨(some 8), .extract (.t 5) 0, none⟩, ⟨(some 9), .extract (.t 5) 1, none⟩, ⟨(some 1), .move (.t 8), none⟩, ⟨(some 2), .move (.t 9), none⟩]) (.seq (.region [ ⟨(some 11), .move (.t 1), none⟩, ⟨(some 12), .call f_batch_Decode [(.t 11)], none⟩, ⟨(some 10), .move (.t 12), none⟩, ⟨(some 13), .extract (.t 10) 0, none⟩, ⟨(some 14), .extract (.t 10) 1, none⟩, ⟨(some 3), .alloc [(.str (bs [])), (.str (bs [])), .nil], none⟩, ⟨none, .store 3 (.t 3) (.t 13), none⟩, ⟨(some 4), .move (.t 14), none⟩]) (.seq (.region [ ⟨(some 15), .move (.t 2), none⟩, ⟨(some 16), .bin .eql (.t 15) (.c (.int .i64 0)), none⟩, ⟨(some 17), .move (.t 16), none⟩, ⟨(some 18), .move (.t 1), some (some 17, true)⟩, ⟨(some 19), .len (.t 18), some (some 17, true)⟩, ⟨(some 20), .bin .eql (.t 19) (.c (.int .i64 14)), some (some 17, true)⟩, ⟨(some 21), .pick (.t 17) (.t 20) (.c (.bool false)), none⟩, ⟨(some 22), .move (.t 21), none⟩, ⟨(some 23), .move (.t 4), some (some 22, true)⟩, ⟨(some 24), .bin .eql (.t 23) (.c (.int .i64 0)), some (some 22, true)⟩, ⟨(some 25), .pick (.t 22) (.t 24) (.c (.bool false)), none⟩, ⟨(some 26), .move (.t 25), none⟩, ⟨(some 27), .fieldAddr 0 (.t 3), some (some 26, true)⟩, ⟨(some 28), .load false 1 (.t 27), some (some 26, true)⟩, ⟨(some 29), .bin .eql (.t 28) (.c (.str (bs [97]))), some (some 26, true)⟩, ⟨(some 30), .pick (.t 26) (.t 29) (.c (.bool false)), none⟩, ⟨(some 31), .move (.t 30), none⟩, ⟨(some 32), .fieldAddr 1 (.t 3), some (some 31, true)⟩, ⟨(some 33), .load false 1 (.t 32), some (some 31, true)⟩, ⟨(some 34), .bin .eql (.t 33) (.c (.str (bs [115]))), some (some 31, true)⟩, ⟨(some 35), .pick (.t 31) (.t 34) (.c (.bool false)), none⟩, ⟨(some 36), .move (.t 35), none⟩, ⟨(some 37), .fieldAddr 2 (.t 3), some (some 36, true)⟩, ⟨(some 38), .load false 1 (.t 37), some (some 36, true)⟩, ⟨(some 39), .len (.t 38), some (some 36, true)⟩, ⟨(some 40), .bin .eql (.t 39) (.c (.int .i64 0)), some (some 36, true)⟩, ⟨(some 41), .pick (.t 36) (.t 40) (.c (.bool false)), none⟩, ⟨(some 42), .move (.t 41), none⟩, ⟨(some 43), .call f_batch_Checksum [(.c .nil)], some (some 42, true)⟩, ⟨(some 44), .bin .eql (.t 43) (.c (.int .u32 2166136261)), some (some 42, true)⟩, ⟨(some 45), .pick (.t 42) (.t 44) (.c (.bool false)), none⟩, ⟨(some 46), .move (.t 45), none⟩, ⟨(some 47), .buildSliceO 1 1 [(.int .u8 0)] [(0, (.c (.int .u8 97)))], some (some 46, true)⟩, ⟨(some 48), .mark (.t 47), some (some 46, true)⟩, ⟨(some 49), .call f_batch_Checksum [(.t 48)], some (some 46, true)⟩, ⟨(some 50), .bin .eql (.t 49) (.c (.int .u32 3826002220)), some (some 46, true)⟩, ⟨(some 51), .pick (.t 46) (.t 50) (.c (.bool false)), none⟩, ⟨(some 0), .move (.t 51), none⟩]) .ret))))⟩

structure F_warehouselaw24_known (P : Program) where
  id : FuncId
  batch_Encode : F_batch_Encode P
  batch_Decode : F_batch_Decode P
  batch_Checksum : F_batch_Checksum P
  has : Has P id [47] (c_warehouselaw24_known batch_Encode.id batch_Decode.id batch_Checksum.id)

def c_warehouseworld_Place : AFunc := ⟨14, [.tmp 4], (.seq (.region [ ⟨(some 4), .move (.c (.int .i64 0)), none⟩]) (.seq (.seq (.region [ ⟨(some 5), .move (.t 1), none⟩, ⟨(some 6), .bin .lss (.t 5) (.c (.int .i64 1)), none⟩]) (.cond (.t 6) (.seq (.region [ ⟨(some 4), .move (.c (.int .i64 0)), none⟩]) .ret) .skip)) (.seq (.region [ ⟨(some 7), .move (.t 0), none⟩, ⟨(some 8), .move (.t 1), none⟩, ⟨(some 9), .bin .rem (.t 7) (.t 8), none⟩, ⟨(some 10), .move (.t 1), none⟩, ⟨(some 11), .bin .add (.t 9) (.t 10), none⟩, ⟨(some 12), .move (.t 1), none⟩, ⟨(some 13), .bin .rem (.t 11) (.t 12), none⟩, ⟨(some 4), .move (.t 13), none⟩]) .ret)))⟩

structure F_warehouseworld_Place (P : Program) where
  id : FuncId
  has : Has P id [] c_warehouseworld_Place

def c_warehouseworld_Name (f_warehouseworld_Place : FuncId) : AFunc := ⟨8, [.tmp 2], (.seq (.region [ ⟨(some 2), .move (.c (.str (bs []))), none⟩]) (.seq (.region [ ⟨(some 3), .buildSlice 1 12 [(.str (bs []))] [(0, (.c (.str (bs [102, 48])))), (1, (.c (.str (bs [102, 49])))), (2, (.c (.str (bs [102, 50])))), (3, (.c (.str (bs [102, 51])))), (4, (.c (.str (bs [102, 52])))), (5, (.c (.str (bs [102, 53])))), (6, (.c (.str (bs [102, 54])))), (7, (.c (.str (bs [102, 55])))), (8, (.c (.str (bs [102, 56])))), (9, (.c (.str (bs [102, 57])))), (10, (.c (.str (bs [103, 48])))), (11, (.c (.str (bs [103, 49]))))], none⟩, ⟨(some 4), .move (.t 0), none⟩, ⟨(some 5), .call f_warehouseworld_Place [(.t 4), (.c (.int .i64 12))], none⟩, ⟨(some 6), .indexAddr 1 (.t 3) (.t 5), none⟩, ⟨(some 7), .load false 1 (.t 6), none⟩, ⟨(some 2), .move (.t 7), none⟩]) .ret))⟩

structure F_warehouseworld_Name (P : Program) where
  id : FuncId
  warehouseworld_Place : F_warehouseworld_Place P
  has : Has P id [] (c_warehouseworld_Name warehouseworld_Place.id)

def c_warehouseworld_Columns (f_warehouseworld_Place : FuncId) : AFunc := ⟨20, [.tmp 2], (.seq (.region [ ⟨(some 2), .move (.c .nil), none⟩]) (.seq (.seq (.region [ ⟨(some 3), .move (.t 0), none⟩, ⟨(some 4), .call f_warehouseworld_Place [(.t 3), (.c (.int .i64 3))], none⟩]) (.block 0 (.seq (.region [ ⟨(some 6), .bin .eql (.t 4) (.c (.int .i64 0)), none⟩, ⟨(some 5), .move (.t 6), none⟩]) (.cond (.t 5) (.seq (.region [ ⟨(some 7), .build [(.str (bs [])), (.int .i64 0), (.bool false)] [(0, 1, (.c (.str (bs [105, 100])))), (1, 1, (.c (.int .i64 2)))], none⟩, ⟨(some 8), .build [(.str (bs [])), (.int .i64 0), (.bool false)] [(0, 1, (.c (.str (bs [110, 97, 109, 101])))), (1, 1, (.c (.int .i64 3))), (2, 1, (.c (.bool true)))], none⟩, ⟨(some 9), .build [(.str (bs [])), (.int .i64 0), (.bool false)] [(0, 1, (.c (.str (bs [97, 116])))), (1, 1, (.c (.int .i64 4)))], none⟩, ⟨(some 10), .buildSlice 3 3 [(.str (bs [])), (.int .i64 0), (.bool false)] [(0, (.t 7)), (1, (.t 8)), (2, (.t 9))], none⟩, ⟨(some 2), .move (.t 10), none⟩]) .ret) (.seq (.region [ ⟨(some 12), .bin .eql (.t 4) (.c (.int .i64 1)), none⟩, ⟨(some 11), .move (.t 12), none⟩]) (.cond (.t 11) (.seq (.region [ ⟨(some 13), .build [(.str (bs [])), (.int .i64 0), (.bool false)] [(0, 1, (.c (.str (bs [97, 116])))), (1, 1, (.c (.int .i64 4))), (2, 1, (.c (.bool true)))], none⟩, ⟨(some 14), .build [(.str (bs [])), (.int .i64 0), (.bool false)] [(0, 1, (.c (.str (bs [105, 100])))), (1, 1, (.c (.int .i64 2))), (2, 1, (.c (.bool true)))], none⟩, ⟨(some 15), .build [(.str (bs [])), (.int .i64 0), (.bool false)] [(0, 1, (.c (.str (bs [111, 107])))), (1, 1, (.c (.int .i64 1)))], none⟩, ⟨(some 16), .buildSlice 3 3 [(.str (bs [])), (.int .i64 0), (.bool false)] [(0, (.t 13)), (1, (.t 14)), (2, (.t 15))], none⟩, ⟨(some 2), .move (.t 16), none⟩]) .ret) .skip)))))) (.seq (.region [ ⟨(some 17), .build [(.str (bs [])), (.int .i64 0), (.bool false)] [(0, 1, (.c (.str (bs [110, 97, 109, 101])))), (1, 1, (.c (.int .i64 3)))], none⟩, ⟨(some 18), .build [(.str (bs [])), (.int .i64 0), (.bool false)] [(0, 1, (.c (.str (bs [97, 116])))), (1, 1, (.c (.int .i64 2))), (2, 1, (.c (.bool true)))], none⟩, ⟨(some 19), .buildSlice 3 2 [(.str (bs [])), (.int .i64 0), (.bool false)] [(0, (.t 17)), (1, (.t 18))], none⟩, ⟨(some 2), .move (.t 19), none⟩]) .ret)))⟩

structure F_warehouseworld_Columns (P : Program) where
  id : FuncId
  warehouseworld_Place : F_warehouseworld_Place P
  has : Has P id [] (c_warehouseworld_Columns warehouseworld_Place.id)

def c_warehouseworld_Source (f_warehouseworld_Columns : FuncId) (f_warehouseworld_Place : FuncId) : AFunc := ⟨31, [.cell true 7 2], (.seq (.region [ ⟨(some 2), .alloc [(.str (bs [])), .nil, .nil, (.str (bs [])), (.str (bs [])), (.int .i64 0), (.int .i64 0)], none⟩]) (.seq (.draw [ (⟨(some 4), .call f_warehouseworld_Columns [(.c (.int .i64 0))], none⟩, [1]), (⟨(some 5), .buildSlice 1 1 [(.str (bs []))] [(0, (.c (.str (bs [105, 100]))))], none⟩, []), (⟨(some 6), .buildSlice 1 4 [(.int .i64 0)] [(0, (.c (.int .i64 0))), (1, (.c (.int .i64 60))), (2, (.c (.int .i64 1440))), (3, (.c (.int .i64 3000)))], none⟩, []), (⟨(some 7), .move (.t 0), none⟩, []), (⟨(some 8), .call f_warehouseworld_Place [(.t 7), (.c (.int .i64 4))], none⟩, [1]), (⟨(some 9), .indexAddr 1 (.t 6) (.t 8), none⟩, [1]), (⟨(some 10), .load false 1 (.t 9), none⟩, [1]), (⟨(some 11), .buildSlice 1 4 [(.int .i64 0)] [(0, (.c (.int .i64 0))), (1, (.c (.int .i64 100))), (2, (.c (.int .i64 1500))), (3, (.c (.int .i64 5000)))], none⟩, []), (⟨(some 12), .move (.t 0), none⟩, []), (⟨(some 13), .bin .quo (.t 12) (.c (.int .i64 4)), none⟩, []), (⟨(some 14), .call f_warehouseworld_Place [(.t 13), (.c (.int .i64 4))], none⟩, [1]), (⟨(some 15), .indexAddr 1 (.t 11) (.t 14), none⟩, [1]), (⟨(some 16), .load false 1 (.t 15), none⟩, [1]), (⟨(some 17), .build [(.str (bs [])), .nil, .nil, (.str (bs [])), (.str (bs [])), (.int .i64 0), (.int .i64 0)] [(0, 1, (.c (.str (bs [115, 104, 111, 112, 46, 111, 114, 100, 101, 114, 115])))), (1, 1, (.t 4)), (2, 1, (.t 5)), (3, 1, (.c (.str (bs [97, 116])))), (4, 1, (.c (.str (bs [122])))), (5, 1, (.t 10)), (6, 1, (.t 16))], none⟩, []), (⟨(some 3), .alloc [(.str (bs [])), .nil, .nil, (.str (bs [])), (.str (bs [])), (.int .i64 0), (.int .i64 0)], none⟩, []), (⟨none, .store 7 (.t 3) (.t 17), none⟩, [])]) (.seq (.seq (.region [ ⟨(some 18), .move (.t 0), none⟩, ⟨(some 19), .bin .quo (.t 18) (.c (.int .i64 16)), none⟩, ⟨(some 20), .call f_warehouseworld_Place [(.t 19), (.c (.int .i64 2))], none⟩, ⟨(some 21), .bin .eql (.t 20) (.c (.int .i64 1)), none⟩]) (.cond (.t 21) (.seq (.region [ ⟨(some 22), .fieldAddr 1 (.t 3), none⟩, ⟨(some 23), .load false 1 (.t 22), none⟩, ⟨(some 24), .build [(.str (bs [])), (.int .i64 0), (.bool false)] [(0, 1, (.c (.str (bs [112, 97, 114, 116])))), (1, 1, (.c (.int .i64 3)))], none⟩, ⟨(some 25), .buildSlice 3 1 [(.str (bs [])), (.int .i64 0), (.bool false)] [(0, (.t 24))], none⟩, ⟨(some 26), .append 3 32 [(.str (bs [])), (.int .i64 0), (.bool false)] (.t 23) (.t 25), none⟩, ⟨(some 27), .fieldAddr 1 (.t 3), none⟩, ⟨none, .store 1 (.t 27) (.t 26), none⟩]) (.region [ ⟨(some 28), .buildSlice 1 2 [(.str (bs []))] [(0, (.c (.str (bs [112, 97, 114, 116])))), (1, (.c (.str (bs [105, 100]))))], none⟩, ⟨(some 29), .fieldAddr 2 (.t 3), none⟩, ⟨none, .store 1 (.t 29) (.t 28), none⟩])) .skip)) (.seq (.region [ ⟨(some 30), .load true 7 (.t 3), none⟩, ⟨none, .store 7 (.t 2) (.t 30), none⟩]) .ret))))⟩

structure F_warehouseworld_Source (P : Program) where
  id : FuncId
  warehouseworld_Columns : F_warehouseworld_Columns P
  warehouseworld_Place : F_warehouseworld_Place P
  has : Has P id [] (c_warehouseworld_Source warehouseworld_Columns.id warehouseworld_Place.id)

def c_warehouseworld_Numbers_Next (f_warehouseworld_Place : FuncId) : AFunc := ⟨39, [.tmp 4], (.seq (.region [ ⟨(some 4), .move (.c (.int .i64 0)), none⟩]) (.seq (.seq (.draw [ (⟨(some 5), .move (.t 0), none⟩, []), (⟨(some 6), .nop (.t 5), none⟩, []), (⟨(some 7), .fieldAddr 1 (.t 6), none⟩, []), (⟨(some 8), .load false 1 (.t 7), none⟩, []), (⟨(some 9), .move (.t 0), none⟩, []), (⟨(some 10), .nop (.t 9), none⟩, []), (⟨(some 11), .fieldAddr 0 (.t 10), none⟩, []), (⟨(some 12), .load false 1 (.t 11), none⟩, []), (⟨(some 13), .len (.t 12), none⟩, []), (⟨(some 14), .bin .geq (.t 8) (.t 13), none⟩, []), (⟨(some 15), .move (.t 14), none⟩, []), (⟨(some 16), .move (.t 1), some (some 15, false)⟩, []), (⟨(some 17), .bin .lss (.t 16) (.c (.int .i64 1)), some (some 15, false)⟩, []), (⟨(some 18), .pick (.t 15) (.c (.bool true)) (.t 17), none⟩, [])]) (.cond (.t 18) (.seq (.region [ ⟨(some 4), .move (.c (.int .i64 0)), none⟩]) .ret) .skip)) (.seq (.region [ ⟨(some 19), .move (.t 0), none⟩, ⟨(some 20), .nop (.t 19), none⟩, ⟨(some 21), .fieldAddr 1 (.t 20), none⟩, ⟨(some 22), .load false 1 (.t 21), none⟩, ⟨(some 23), .bin .add (.t 22) (.c (.int .i64 1)), none⟩, ⟨(some 24), .nop (.t 19), none⟩, ⟨(some 25), .fieldAddr 1 (.t 24), none⟩, ⟨none, .store 1 (.t 25) (.t 23), none⟩]) (.seq (.draw [ (⟨(some 26), .move (.t 0), none⟩, []), (⟨(some 27), .nop (.t 26), none⟩, []), (⟨(some 28), .fieldAddr 0 (.t 27), none⟩, []), (⟨(some 29), .load false 1 (.t 28), none⟩, []), (⟨(some 30), .move (.t 0), none⟩, []), (⟨(some 31), .nop (.t 30), none⟩, []), (⟨(some 32), .fieldAddr 1 (.t 31), none⟩, []), (⟨(some 33), .load false 1 (.t 32), none⟩, []), (⟨(some 34), .bin .sub (.t 33) (.c (.int .i64 1)), none⟩, []), (⟨(some 35), .indexAddr 1 (.t 29) (.t 34), none⟩, []), (⟨(some 36), .load false 1 (.t 35), none⟩, []), (⟨(some 37), .move (.t 1), none⟩, []), (⟨(some 38), .call f_warehouseworld_Place [(.t 36), (.t 37)], none⟩, []), (⟨(some 4), .move (.t 38), none⟩, [])]) .ret))))⟩

structure F_warehouseworld_Numbers_Next (P : Program) where
  id : FuncId
  warehouseworld_Place : F_warehouseworld_Place P
  has : Has P id [] (c_warehouseworld_Numbers_Next warehouseworld_Place.id)

def c_warehouseworld_Instants : AFunc := ⟨17, [.tmp 0], (.seq (.region [ ⟨(some 0), .move (.c .nil), none⟩]) (.seq (.region [ ⟨(some 3), .buildSliceO 1 16 [(.int .i64 0)] [(0, (.c (.int .i64 0))), (1, (.c (.int .i64 719))), (2, (.c (.int .i64 1380))), (3, (.c (.int .i64 1400))), (4, (.c (.int .i64 1439))), (5, (.c (.int .i64 1440))), (6, (.c (.int .i64 1500))), (7, (.c (.int .i64 2000))), (8, (.c (.int .i64 2879))), (9, (.c (.int .i64 2880))), (10, (.c (.int .i64 4000))), (11, (.c (.int .i64 4320))), (12, (.c (.int .i64 5000))), (13, (.c (.int .i64 7199))), (14, (.c (.int .i64 7200))), (15, (.c (.int .i64 9000)))], none⟩, ⟨(some 1), .move (.t 3), none⟩]) (.seq (.seq (.region [ ⟨(some 2), .move (.c (.int .i64 0)), none⟩]) (.block 0 (.loop (.seq (.seq (.region [ ⟨(some 4), .move (.t 2), none⟩, ⟨(some 5), .move (.t 1), none⟩, ⟨(some 6), .len (.t 5), none⟩, ⟨(some 7), .bin .lss (.t 4) (.t 6), none⟩]) (.cond (.t 7) .skip (.exit 0))) (.seq (.block 1 (.region [ ⟨(some 10), .move (.t 1), none⟩, ⟨(some 11), .move (.t 2), none⟩, ⟨(some 12), .indexAddr 1 (.t 10) (.t 11), none⟩, ⟨(some 13), .load false 1 (.t 12), none⟩, ⟨(some 14), .bin .add (.t 13) (.c (.int .i64 144000)), none⟩, ⟨(some 15), .indexAddr 1 (.t 10) (.t 11), none⟩, ⟨none, .store 1 (.t 15) (.t 14), none⟩])) (.region [ ⟨(some 8), .move (.t 2), none⟩, ⟨(some 9), .bin .add (.t 8) (.c (.int .i64 1)), none⟩, ⟨(some 2), .move (.t 9), none⟩])))))) (.seq (.region [ ⟨(some 16), .move (.t 1), none⟩, ⟨(some 0), .move (.t 16), none⟩]) .ret))))⟩

structure F_warehouseworld_Instants (P : Program) where
  id : FuncId
  has : Has P id [3] c_warehouseworld_Instants

def c_warehouseworld_Value (f_warehouseworld_Numbers_Next : FuncId) (f_warehouseworld_Instants : FuncId) : AFunc := ⟨40, [.cell true 3 4], (.seq (.region [ ⟨(some 2), .box (.t 0), none⟩, ⟨(some 4), .alloc [(.int .i64 0), (.int .i64 0), (.str (bs []))], none⟩]) (.seq (.seq (.region [ ⟨(some 5), .fieldAddr 2 (.t 2), none⟩, ⟨(some 6), .load false 1 (.t 5), none⟩, ⟨(some 7), .move (.t 6), none⟩, ⟨(some 8), .move (.t 1), some (some 7, true)⟩, ⟨(some 9), .call f_warehouseworld_Numbers_Next [(.t 8), (.c (.int .i64 5))], some (some 7, true)⟩, ⟨(some 10), .bin .eql (.t 9) (.c (.int .i64 0)), some (some 7, true)⟩, ⟨(some 11), .pick (.t 7) (.t 10) (.c (.bool false)), none⟩]) (.cond (.t 11) (.seq (.region [ ⟨(some 12), .build [(.int .i64 0), (.int .i64 0), (.str (bs []))] [], none⟩, ⟨none, .store 3 (.t 4) (.t 12), none⟩]) .ret) .skip)) (.seq (.seq (.region [ ⟨(some 13), .fieldAddr 1 (.t 2), none⟩, ⟨(some 14), .load false 1 (.t 13), none⟩]) (.block 0 (.seq (.region [ ⟨(some 16), .bin .eql (.t 14) (.c (.int .i64 1)), none⟩, ⟨(some 15), .move (.t 16), none⟩]) (.cond (.t 15) (.seq (.region [ ⟨(some 17), .move (.t 1), none⟩, ⟨(some 18), .call f_warehouseworld_Numbers_Next [(.t 17), (.c (.int .i64 2))], none⟩, ⟨(some 19), .build [(.int .i64 0), (.int .i64 0), (.str (bs []))] [(0, 1, (.c (.int .i64 1))), (1, 1, (.t 18))], none⟩, ⟨none, .store 3 (.t 4) (.t 19), none⟩]) .ret) (.seq (.region [ ⟨(some 21), .bin .eql (.t 14) (.c (.int .i64 2)), none⟩, ⟨(some 20), .move (.t 21), none⟩]) (.cond (.t 20) (.seq (.region [ ⟨(some 22), .move (.t 1), none⟩, ⟨(some 23), .call f_warehouseworld_Numbers_Next [(.t 22), (.c (.int .i64 7))], none⟩, ⟨(some 24), .bin .sub (.t 23) (.c (.int .i64 1)), none⟩, ⟨(some 25), .build [(.int .i64 0), (.int .i64 0), (.str (bs []))] [(0, 1, (.c (.int .i64 2))), (1, 1, (.t 24))], none⟩, ⟨none, .store 3 (.t 4) (.t 25), none⟩]) .ret) (.seq (.region [ ⟨(some 27), .bin .eql (.t 14) (.c (.int .i64 3)), none⟩, ⟨(some 26), .move (.t 27), none⟩]) (.cond (.t 26) (.seq (.region [ ⟨(some 28), .buildSlice 1 5 [(.str (bs []))] [(0, (.c (.str (bs [])))), (1, (.c (.str (bs [97])))), (2, (.c (.str (bs [98])))), (3, (.c (.str (bs [105, 116, 39, 115])))), (4, (.c (.str (bs [122, 122]))))], none⟩, ⟨(some 29), .move (.t 1), none⟩, ⟨(some 30), .call f_warehouseworld_Numbers_Next [(.t 29), (.c (.int .i64 5))], none⟩, ⟨(some 31), .indexAddr 1 (.t 28) (.t 30), none⟩, ⟨(some 32), .load false 1 (.t 31), none⟩, ⟨(some 33), .build [(.int .i64 0), (.int .i64 0), (.str (bs []))] [(0, 1, (.c (.int .i64 3))), (2, 1, (.t 32))], none⟩, ⟨none, .store 3 (.t 4) (.t 33), none⟩]) .ret) .skip)))))))) (.seq (.region [ ⟨(some 34), .call f_warehouseworld_Instants [], none⟩, ⟨(some 35), .move (.t 1), none⟩, ⟨(some 36), .call f_warehouseworld_Numbers_Next [(.t 35), (.c (.int .i64 16))], none⟩, ⟨(some 37), .indexAddr 1 (.t 34) (.t 36), none⟩, ⟨(some 38), .load false 1 (.t 37), none⟩, ⟨(some 39), .build [(.int .i64 0), (.int .i64 0), (.str (bs []))] [(0, 1, (.c (.int .i64 4))), (1, 1, (.t 38))], none⟩, ⟨none, .store 3 (.t 4) (.t 39), none⟩]) .ret))))⟩

structure F_warehouseworld_Value (P : Program) where
  id : FuncId
  warehouseworld_Numbers_Next : F_warehouseworld_Numbers_Next P
  warehouseworld_Instants : F_warehouseworld_Instants P
  has : Has P id [] (c_warehouseworld_Value warehouseworld_Numbers_Next.id warehouseworld_Instants.id)

def c_warehouseworld_Row (f_warehouseworld_Value : FuncId) : AFunc := ⟨23, [.tmp 4], (.seq (.region [ ⟨(some 4), .move (.c .nil), none⟩]) (.seq (.region [ ⟨(some 5), .move (.c .nil), none⟩]) (.seq (.seq (.region [ ⟨(some 6), .move (.c (.int .i64 0)), none⟩]) (.block 0 (.loop (.seq (.seq (.region [ ⟨(some 7), .move (.t 6), none⟩, ⟨(some 8), .move (.t 0), none⟩, ⟨(some 9), .len (.t 8), none⟩, ⟨(some 10), .bin .lss (.t 7) (.t 9), none⟩]) (.cond (.t 10) .skip (.exit 0))) (.seq (.block 1 (.region [ ⟨(some 13), .move (.t 5), none⟩, ⟨(some 14), .move (.t 0), none⟩, ⟨(some 15), .move (.t 6), none⟩, ⟨(some 16), .indexAddr 3 (.t 14) (.t 15), none⟩, ⟨(some 17), .load true 3 (.t 16), none⟩, ⟨(some 18), .move (.t 1), none⟩, ⟨(some 19), .call f_warehouseworld_Value [(.t 17), (.t 18)], none⟩, ⟨(some 20), .buildSlice 3 1 [(.int .i64 0), (.int .i64 0), (.str (bs []))] [(0, (.t 19))], none⟩, ⟨(some 21), .append 3 32 [(.int .i64 0), (.int .i64 0), (.str (bs []))] (.t 13) (.t 20), none⟩, ⟨(some 5), .move (.t 21), none⟩])) (.region [ ⟨(some 11), .move (.t 6), none⟩, ⟨(some 12), .bin .add (.t 11) (.c (.int .i64 1)), none⟩, ⟨(some 6), .move (.t 12), none⟩])))))) (.seq (.region [ ⟨(some 22), .move (.t 5), none⟩, ⟨(some 4), .move (.t 22), none⟩]) .ret))))⟩

structure F_warehouseworld_Row (P : Program) where
  id : FuncId
  warehouseworld_Value : F_warehouseworld_Value P
  has : Has P id [] (c_warehouseworld_Row warehouseworld_Value.id)

def c_warehouseref23_In : AFunc := ⟨18, [.tmp 4], (.seq (.region [ ⟨(some 4), .move (.c (.bool false)), none⟩]) (.seq (.seq (.region [ ⟨(some 5), .move (.c (.int .i64 0)), none⟩]) (.block 0 (.loop (.seq (.seq (.region [ ⟨(some 6), .move (.t 5), none⟩, ⟨(some 7), .move (.t 0), none⟩, ⟨(some 8), .len (.t 7), none⟩, ⟨(some 9), .bin .lss (.t 6) (.t 8), none⟩]) (.cond (.t 9) .skip (.exit 0))) (.seq (.block 1 (.seq (.region [ ⟨(some 12), .move (.t 0), none⟩, ⟨(some 13), .move (.t 5), none⟩, ⟨(some 14), .indexAddr 1 (.t 12) (.t 13), none⟩, ⟨(some 15), .load false 1 (.t 14), none⟩, ⟨(some 16), .move (.t 1), none⟩, ⟨(some 17), .bin .eql (.t 15) (.t 16), none⟩]) (.cond (.t 17) (.seq (.region [ ⟨(some 4), .move (.c (.bool true)), none⟩]) .ret) .skip))) (.region [ ⟨(some 10), .move (.t 5), none⟩, ⟨(some 11), .bin .add (.t 10) (.c (.int .i64 1)), none⟩, ⟨(some 5), .move (.t 11), none⟩])))))) (.seq (.region [ ⟨(some 4), .move (.c (.bool false)), none⟩]) .ret)))⟩

structure F_warehouseref23_In (P : Program) where
  id : FuncId
  has : Has P id [] c_warehouseref23_In

def c_warehouseworld_Deletion (f_warehouseref23_In : FuncId) : AFunc := ⟨51, [.cell true 3 4], (.seq (.region [ ⟨(some 2), .box (.t 0), none⟩, ⟨(some 3), .box (.t 1), none⟩, ⟨(some 4), .alloc [(.bool false), (.int .i64 0), .nil], none⟩]) (.seq (.region [ ⟨(some 8), .fieldAddr 1 (.t 3), none⟩, ⟨(some 9), .load false 1 (.t 8), none⟩, ⟨(some 10), .build [(.bool false), (.int .i64 0), .nil] [(0, 1, (.c (.bool true))), (1, 1, (.t 9))], none⟩, ⟨(some 5), .alloc [(.bool false), (.int .i64 0), .nil], none⟩, ⟨none, .store 3 (.t 5) (.t 10), none⟩]) (.seq (.seq (.region [ ⟨(some 6), .move (.c (.int .i64 0)), none⟩]) (.block 0 (.loop (.seq (.seq (.region [ ⟨(some 11), .move (.t 6), none⟩, ⟨(some 12), .fieldAddr 1 (.t 2), none⟩, ⟨(some 13), .load false 1 (.t 12), none⟩, ⟨(some 14), .len (.t 13), none⟩, ⟨(some 15), .bin .lss (.t 11) (.t 14), none⟩]) (.cond (.t 15) .skip (.exit 0))) (.seq (.block 1 (.seq (.region [ ⟨(some 18), .build [(.int .i64 0), (.int .i64 0), (.str (bs []))] [], none⟩, ⟨(some 7), .alloc [(.int .i64 0), (.int .i64 0), (.str (bs []))], none⟩, ⟨none, .store 3 (.t 7) (.t 18), none⟩]) (.seq (.seq (.draw [ (⟨(some 19), .fieldAddr 2 (.t 2), none⟩, []), (⟨(some 20), .load false 1 (.t 19), none⟩, []), (⟨(some 21), .fieldAddr 1 (.t 2), none⟩, []), (⟨(some 22), .load false 1 (.t 21), none⟩, []), (⟨(some 23), .move (.t 6), none⟩, []), (⟨(some 24), .indexAddr 3 (.t 22) (.t 23), none⟩, []), (⟨(some 25), .fieldAddr 0 (.t 24), none⟩, []), (⟨(some 26), .load false 1 (.t 25), none⟩, []), (⟨(some 27), .call f_warehouseref23_In [(.t 20), (.t 26)], none⟩, []), (⟨(some 28), .move (.t 27), none⟩, []), (⟨(some 29), .fieldAddr 1 (.t 2), some (some 28, false)⟩, []), (⟨(some 30), .load false 1 (.t 29), some (some 28, false)⟩, []), (⟨(some 31), .move (.t 6), some (some 28, false)⟩, []), (⟨(some 32), .indexAddr 3 (.t 30) (.t 31), some (some 28, false)⟩, []), (⟨(some 33), .fieldAddr 0 (.t 32), some (some 28, false)⟩, []), (⟨(some 34), .load false 1 (.t 33), some (some 28, false)⟩, []), (⟨(some 35), .fieldAddr 3 (.t 2), some (some 28, false)⟩, []), (⟨(some 36), .load false 1 (.t 35), some (some 28, false)⟩, []), (⟨(some 37), .bin .eql (.t 34) (.t 36), some (some 28, false)⟩, []), (⟨(some 38), .pick (.t 28) (.c (.bool true)) (.t 37), none⟩, [])]) (.cond (.t 38) (.region [ ⟨(some 39), .fieldAddr 2 (.t 3), none⟩, ⟨(some 40), .load false 1 (.t 39), none⟩, ⟨(some 41), .move (.t 6), none⟩, ⟨(some 42), .indexAddr 3 (.t 40) (.t 41), none⟩, ⟨(some 43), .load true 3 (.t 42), none⟩, ⟨none, .store 3 (.t 7) (.t 43), none⟩]) .skip)) (.region [ ⟨(some 44), .fieldAddr 2 (.t 5), none⟩, ⟨(some 45), .load false 1 (.t 44), none⟩, ⟨(some 46), .load true 3 (.t 7), none⟩, ⟨(some 47), .buildSlice 3 1 [(.int .i64 0), (.int .i64 0), (.str (bs []))] [(0, (.t 46))], none⟩, ⟨(some 48), .append 3 32 [(.int .i64 0), (.int .i64 0), (.str (bs []))] (.t 45) (.t 47), none⟩, ⟨(some 49), .fieldAddr 2 (.t 5), none⟩, ⟨none, .store 1 (.t 49) (.t 48), none⟩])))) (.region [ ⟨(some 16), .move (.t 6), none⟩, ⟨(some 17), .bin .add (.t 16) (.c (.int .i64 1)), none⟩, ⟨(some 6), .move (.t 17), none⟩])))))) (.seq (.region [ ⟨(some 50), .load true 3 (.t 5), none⟩, ⟨none, .store 3 (.t 4) (.t 50), none⟩]) .ret))))⟩

structure F_warehouseworld_Deletion (P : Program) where
  id : FuncId
  warehouseref23_In : F_warehouseref23_In P
  has : Has P id [] (c_warehouseworld_Deletion warehouseref23_In.id)

def c_warehouseworld_Record (f_warehouseworld_Numbers_Next : FuncId) (f_warehouseworld_Row : FuncId) (f_warehouseworld_Deletion : FuncId) : AFunc := ⟨52, [.cell true 3 4], (.seq (.region [ ⟨(some 2), .box (.t 0), none⟩, ⟨(some 4), .alloc [(.bool false), (.int .i64 0), .nil], none⟩]) (.seq (.draw [ (⟨(some 6), .move (.t 1), none⟩, []), (⟨(some 7), .callE f_warehouseworld_Numbers_Next [(.t 6), (.c (.int .i64 4))], none⟩, []), (⟨(some 8), .fieldAddr 1 (.t 2), none⟩, []), (⟨(some 9), .load false 1 (.t 8), none⟩, [9]), (⟨(some 10), .move (.t 1), none⟩, []), (⟨(some 11), .callE f_warehouseworld_Row [(.t 9), (.t 10)], none⟩, []), (⟨(some 12), .build [(.bool false), (.int .i64 0), .nil] [(1, 1, (.t 7)), (2, 1, (.t 11))], none⟩, []), (⟨(some 5), .alloc [(.bool false), (.int .i64 0), .nil], none⟩, []), (⟨none, .store 3 (.t 5) (.t 12), none⟩, [])]) (.seq (.seq (.seq (.region [ ⟨(some 13), .move (.t 1), none⟩, ⟨(some 14), .call f_warehouseworld_Numbers_Next [(.t 13), (.c (.int .i64 24))], none⟩]) .ghost) (.block 0 (.seq (.seq (.region [ ⟨(some 16), .bin .eql (.t 14) (.c (.int .i64 0)), none⟩, ⟨(some 15), .move (.t 16), none⟩]) (.cond (.t 15) .skip (.seq (.region [ ⟨(some 17), .bin .eql (.t 14) (.c (.int .i64 1)), none⟩, ⟨(some 15), .move (.t 17), none⟩]) (.cond (.t 15) .skip (.seq (.region [ ⟨(some 18), .bin .eql (.t 14) (.c (.int .i64 2)), none⟩, ⟨(some 15), .move (.t 18), none⟩]) (.cond (.t 15) .skip (.seq (.region [ ⟨(some 19), .bin .eql (.t 14) (.c (.int .i64 3)), none⟩, ⟨(some 15), .move (.t 19), none⟩]) (.cond (.t 15) .skip (.region [ ⟨(some 20), .bin .eql (.t 14) (.c (.int .i64 4)), none⟩, ⟨(some 15), .move (.t 20), none⟩]))))))))) (.cond (.t 15) (.region [ ⟨(some 21), .load true 7 (.t 2), none⟩, ⟨(some 22), .load true 3 (.t 5), none⟩, ⟨(some 23), .call f_warehouseworld_Deletion [(.t 21), (.t 22)], none⟩, ⟨none, .store 3 (.t 5) (.t 23), none⟩]) (.seq (.region [ ⟨(some 25), .bin .eql (.t 14) (.c (.int .i64 5)), none⟩, ⟨(some 24), .move (.t 25), none⟩]) (.cond (.t 24) (.region [ ⟨(some 26), .fieldAddr 0 (.t 5), none⟩, ⟨none, .store 1 (.t 26) (.c (.bool true)), none⟩]) (.seq (.region [ ⟨(some 28), .bin .eql (.t 14) (.c (.int .i64 6)), none⟩, ⟨(some 27), .move (.t 28), none⟩]) (.cond (.t 27) (.region [ ⟨(some 29), .fieldAddr 2 (.t 5), none⟩, ⟨(some 30), .load false 1 (.t 29), none⟩, ⟨(some 31), .fieldAddr 2 (.t 5), none⟩, ⟨(some 32), .load false 1 (.t 31), none⟩, ⟨(some 33), .len (.t 32), none⟩, ⟨(some 34), .bin .sub (.t 33) (.c (.int .i64 1)), none⟩, ⟨(some 35), .slice 3 (.t 30) none (some (.t 34)), none⟩, ⟨(some 36), .fieldAddr 2 (.t 5), none⟩, ⟨none, .store 1 (.t 36) (.t 35), none⟩]) (.seq (.region [ ⟨(some 38), .bin .eql (.t 14) (.c (.int .i64 7)), none⟩, ⟨(some 37), .move (.t 38), none⟩]) (.cond (.t 37) (.draw [ (⟨(some 39), .fieldAddr 2 (.t 5), none⟩, []), (⟨(some 40), .load false 1 (.t 39), none⟩, [3]), (⟨(some 41), .move (.t 1), none⟩, []), (⟨(some 42), .fieldAddr 2 (.t 5), none⟩, []), (⟨(some 43), .load false 1 (.t 42), none⟩, []), (⟨(some 44), .len (.t 43), none⟩, []), (⟨(some 45), .callE f_warehouseworld_Numbers_Next [(.t 41), (.t 44)], none⟩, []), (⟨(some 46), .build [(.int .i64 0), (.int .i64 0), (.str (bs []))] [(0, 1, (.c (.int .i64 1))), (1, 1, (.c (.int .i64 1)))], none⟩, []), (⟨(some 47), .indexAddr 3 (.t 40) (.t 45), none⟩, []), (⟨none, .store 3 (.t 47) (.t 46), none⟩, [])]) (.seq (.region [ ⟨(some 49), .bin .eql (.t 14) (.c (.int .i64 8)), none⟩, ⟨(some 48), .move (.t 49), none⟩]) (.cond (.t 48) (.region [ ⟨(some 50), .fieldAddr 1 (.t 5), none⟩, ⟨none, .store 1 (.t 50) (.c (.int .i64 (-1))), none⟩]) .skip)))))))))))) (.seq (.region [ ⟨(some 51), .load true 3 (.t 5), none⟩, ⟨none, .store 3 (.t 4) (.t 51), none⟩]) .ret))))⟩

structure F_warehouseworld_Record (P : Program) where
  id : FuncId
  warehouseworld_Numbers_Next : F_warehouseworld_Numbers_Next P
  warehouseworld_Row : F_warehouseworld_Row P
  warehouseworld_Deletion : F_warehouseworld_Deletion P
  has : Has P id [7, 11, 45, 100014] (c_warehouseworld_Record warehouseworld_Numbers_Next.id warehouseworld_Row.id warehouseworld_Deletion.id)

def c_warehouseworld_File (f_warehouseworld_Numbers_Next : FuncId) (f_warehouseworld_Record : FuncId) : AFunc := ⟨32, [.cell true 3 8], (.seq (.region [ ⟨(some 5), .box (.t 1), none⟩, ⟨(some 8), .alloc [(.str (bs [])), (.str (bs [])), .nil], none⟩]) (.seq (.region [ ⟨(some 11), .move (.t 0), none⟩, ⟨(some 12), .fieldAddr 0 (.t 5), none⟩, ⟨(some 13), .load false 1 (.t 12), none⟩, ⟨(some 14), .build [(.str (bs [])), (.str (bs [])), .nil] [(0, 1, (.t 11)), (1, 1, (.t 13))], none⟩, ⟨(some 9), .alloc [(.str (bs [])), (.str (bs [])), .nil], none⟩, ⟨none, .store 3 (.t 9) (.t 14), none⟩]) (.seq (.seq (.region [ ⟨(some 15), .move (.t 2), none⟩, ⟨(some 16), .move (.t 3), none⟩, ⟨(some 17), .bin .add (.t 16) (.c (.int .i64 1)), none⟩, ⟨(some 18), .call f_warehouseworld_Numbers_Next [(.t 15), (.t 17)], none⟩, ⟨(some 10), .move (.t 18), none⟩]) (.block 0 (.loop (.seq (.seq (.region [ ⟨(some 19), .move (.t 10), none⟩, ⟨(some 20), .bin .gtr (.t 19) (.c (.int .i64 0)), none⟩]) (.cond (.t 20) .skip (.exit 0))) (.seq (.block 1 (.draw [ (⟨(some 23), .fieldAddr 2 (.t 9), none⟩, []), (⟨(some 24), .load false 1 (.t 23), none⟩, [4]), (⟨(some 25), .load true 7 (.t 5), none⟩, []), (⟨(some 26), .move (.t 2), none⟩, []), (⟨(some 27), .callE f_warehouseworld_Record [(.t 25), (.t 26)], none⟩, []), (⟨(some 28), .buildSlice 3 1 [(.bool false), (.int .i64 0), .nil] [(0, (.t 27))], none⟩, []), (⟨(some 29), .append 3 40 [(.bool false), (.int .i64 0), .nil] (.t 24) (.t 28), none⟩, []), (⟨(some 30), .fieldAddr 2 (.t 9), none⟩, []), (⟨none, .store 1 (.t 30) (.t 29), none⟩, [])])) (.region [ ⟨(some 21), .move (.t 10), none⟩, ⟨(some 22), .bin .sub (.t 21) (.c (.int .i64 1)), none⟩, ⟨(some 10), .move (.t 22), none⟩])))))) (.seq (.region [ ⟨(some 31), .load true 3 (.t 9), none⟩, ⟨none, .store 3 (.t 8) (.t 31), none⟩]) .ret))))⟩

structure F_warehouseworld_File (P : Program) where
  id : FuncId
  warehouseworld_Numbers_Next : F_warehouseworld_Numbers_Next P
  warehouseworld_Record : F_warehouseworld_Record P
  has : Has P id [27] (c_warehouseworld_File warehouseworld_Numbers_Next.id warehouseworld_Record.id)

def c_warehouselaw24_file (f_warehouseworld_Name : FuncId) (f_warehouseworld_Source : FuncId) (f_warehouseworld_File : FuncId) : AFunc := ⟨37, [.cell true 3 4], (.seq (.region [ ⟨(some 4), .alloc [(.str (bs [])), (.str (bs [])), .nil], none⟩]) (.seq (.region [ ⟨(some 8), .move (.t 0), none⟩, ⟨(some 9), .build [.nil, (.int .i64 0)] [(0, 1, (.t 8))], none⟩, ⟨(some 10), .box (.t 9), none⟩, ⟨(some 5), .move (.t 10), none⟩]) (.seq (.region [ ⟨(some 11), .move (.t 1), none⟩, ⟨(some 12), .call f_warehouseworld_Name [(.t 11)], none⟩, ⟨(some 13), .move (.t 1), none⟩, ⟨(some 14), .call f_warehouseworld_Source [(.t 13)], none⟩, ⟨(some 15), .move (.t 5), none⟩, ⟨(some 16), .call f_warehouseworld_File [(.t 12), (.t 14), (.t 15), (.c (.int .i64 6))], none⟩, ⟨(some 6), .alloc [(.str (bs [])), (.str (bs [])), .nil], none⟩, ⟨none, .store 3 (.t 6) (.t 16), none⟩]) (.seq (.seq (.region [ ⟨(some 7), .move (.c (.int .i64 0)), none⟩]) (.block 0 (.loop (.seq (.seq (.region [ ⟨(some 17), .move (.t 7), none⟩, ⟨(some 18), .fieldAddr 2 (.t 6), none⟩, ⟨(some 19), .load false 1 (.t 18), none⟩, ⟨(some 20), .len (.t 19), none⟩, ⟨(some 21), .bin .lss (.t 17) (.t 20), none⟩]) (.cond (.t 21) .skip (.exit 0))) (.seq (.block 1 (.seq (.region [ ⟨(some 24), .fieldAddr 2 (.t 6), none⟩, ⟨(some 25), .load false 1 (.t 24), none⟩, ⟨(some 26), .move (.t 7), none⟩, ⟨(some 27), .indexAddr 3 (.t 25) (.t 26), none⟩, ⟨(some 28), .fieldAddr 1 (.t 27), none⟩, ⟨(some 29), .load false 1 (.t 28), none⟩, ⟨(some 30), .bin .lss (.t 29) (.c (.int .i64 0)), none⟩]) (.cond (.t 30) (.region [ ⟨(some 31), .fieldAddr 2 (.t 6), none⟩, ⟨(some 32), .load false 1 (.t 31), none⟩, ⟨(some 33), .move (.t 7), none⟩, ⟨(some 34), .indexAddr 3 (.t 32) (.t 33), none⟩, ⟨(some 35), .fieldAddr 1 (.t 34), none⟩, ⟨none, .store 1 (.t 35) (.c (.int .i64 1073741824)), none⟩]) .skip))) (.region [ ⟨(some 22), .move (.t 7), none⟩, ⟨(some 23), .bin .add (.t 22) (.c (.int .i64 1)), none⟩, ⟨(some 7), .move (.t 23), none⟩])))))) (.seq (.region [ ⟨(some 36), .load true 3 (.t 6), none⟩, ⟨none, .store 3 (.t 4) (.t 36), none⟩]) .ret)))))⟩

structure F_warehouselaw24_file (P : Program) where
  id : FuncId
  warehouseworld_Name : F_warehouseworld_Name P
  warehouseworld_Source : F_warehouseworld_Source P
  warehouseworld_File : F_warehouseworld_File P
  has : Has P id [] (c_warehouselaw24_file warehouseworld_Name.id warehouseworld_Source.id warehouseworld_File.id)

def c_warehouseref22_SameRow : AFunc := ⟨26, [.tmp 4], (.seq (.region [ ⟨(some 4), .move (.c (.bool false)), none⟩]) (.seq (.seq (.region [ ⟨(some 6), .move (.t 0), none⟩, ⟨(some 7), .len (.t 6), none⟩, ⟨(some 8), .move (.t 1), none⟩, ⟨(some 9), .len (.t 8), none⟩, ⟨(some 10), .bin .neq (.t 7) (.t 9), none⟩]) (.cond (.t 10) (.seq (.region [ ⟨(some 4), .move (.c (.bool false)), none⟩]) .ret) .skip)) (.seq (.seq (.region [ ⟨(some 5), .move (.c (.int .i64 0)), none⟩]) (.block 0 (.loop (.seq (.seq (.region [ ⟨(some 11), .move (.t 5), none⟩, ⟨(some 12), .move (.t 0), none⟩, ⟨(some 13), .len (.t 12), none⟩, ⟨(some 14), .bin .lss (.t 11) (.t 13), none⟩]) (.cond (.t 14) .skip (.exit 0))) (.seq (.block 1 (.seq (.draw [ (⟨(some 17), .move (.t 0), none⟩, []), (⟨(some 18), .move (.t 5), none⟩, []), (⟨(some 19), .indexAddr 3 (.t 17) (.t 18), none⟩, []), (⟨(some 20), .load true 3 (.t 19), none⟩, []), (⟨(some 21), .move (.t 1), none⟩, []), (⟨(some 22), .move (.t 5), none⟩, []), (⟨(some 23), .indexAddr 3 (.t 21) (.t 22), none⟩, []), (⟨(some 24), .load true 3 (.t 23), none⟩, []), (⟨(some 25), .eqs true [1, 1, 2] (.t 20) (.t 24), none⟩, [])]) (.cond (.t 25) (.seq (.region [ ⟨(some 4), .move (.c (.bool false)), none⟩]) .ret) .skip))) (.region [ ⟨(some 15), .move (.t 5), none⟩, ⟨(some 16), .bin .add (.t 15) (.c (.int .i64 1)), none⟩, ⟨(some 5), .move (.t 16), none⟩])))))) (.seq (.region [ ⟨(some 4), .move (.c (.bool true)), none⟩]) .ret))))⟩

structure F_warehouseref22_SameRow (P : Program) where
  id : FuncId
  has : Has P id [] c_warehouseref22_SameRow

def c_warehouseref24_SameRecord (f_warehouseref22_SameRow : FuncId) : AFunc := ⟨24, [.tmp 4], (.seq (.region [ ⟨(some 2), .box (.t 0), none⟩, ⟨(some 3), .box (.t 1), none⟩, ⟨(some 4), .move (.c (.bool false)), none⟩]) (.seq (.region [ ⟨(some 5), .fieldAddr 0 (.t 2), none⟩, ⟨(some 6), .load false 1 (.t 5), none⟩, ⟨(some 7), .fieldAddr 0 (.t 3), none⟩, ⟨(some 8), .load false 1 (.t 7), none⟩, ⟨(some 9), .eqb false (.t 6) (.t 8), none⟩, ⟨(some 10), .move (.t 9), none⟩, ⟨(some 11), .fieldAddr 1 (.t 2), some (some 10, true)⟩, ⟨(some 12), .load false 1 (.t 11), some (some 10, true)⟩, ⟨(some 13), .fieldAddr 1 (.t 3), some (some 10, true)⟩, ⟨(some 14), .load false 1 (.t 13), some (some 10, true)⟩, ⟨(some 15), .bin .eql (.t 12) (.t 14), some (some 10, true)⟩, ⟨(some 16), .pick (.t 10) (.t 15) (.c (.bool false)), none⟩, ⟨(some 17), .move (.t 16), none⟩, ⟨(some 18), .fieldAddr 2 (.t 2), some (some 17, true)⟩, ⟨(some 19), .load false 1 (.t 18), some (some 17, true)⟩, ⟨(some 20), .fieldAddr 2 (.t 3), some (some 17, true)⟩, ⟨(some 21), .load false 1 (.t 20), some (some 17, true)⟩, ⟨(some 22), .call f_warehouseref22_SameRow [(.t 19), (.t 21)], some (some 17, true)⟩, ⟨(some 23), .pick (.t 17) (.t 22) (.c (.bool false)), none⟩, ⟨(some 4), .move (.t 23), none⟩]) .ret))⟩

structure F_warehouseref24_SameRecord (P : Program) where
  id : FuncId
  warehouseref22_SameRow : F_warehouseref22_SameRow P
  has : Has P id [] (c_warehouseref24_SameRecord warehouseref22_SameRow.id)

def c_warehouseref24_SameFile (f_warehouseref24_SameRecord : FuncId) : AFunc := ⟨46, [.tmp 4], (.seq (.region [ ⟨(some 2), .box (.t 0), none⟩, ⟨(some 3), .box (.t 1), none⟩, ⟨(some 4), .move (.c (.bool false)), none⟩]) (.seq (.seq (.region [ ⟨(some 6), .fieldAddr 0 (.t 2), none⟩, ⟨(some 7), .load false 1 (.t 6), none⟩, ⟨(some 8), .fieldAddr 0 (.t 3), none⟩, ⟨(some 9), .load false 1 (.t 8), none⟩, ⟨(some 10), .bin .neq (.t 7) (.t 9), none⟩, ⟨(some 11), .move (.t 10), none⟩, ⟨(some 12), .fieldAddr 1 (.t 2), some (some 11, false)⟩, ⟨(some 13), .load false 1 (.t 12), some (some 11, false)⟩, ⟨(some 14), .fieldAddr 1 (.t 3), some (some 11, false)⟩, ⟨(some 15), .load false 1 (.t 14), some (some 11, false)⟩, ⟨(some 16), .bin .neq (.t 13) (.t 15), some (some 11, false)⟩, ⟨(some 17), .pick (.t 11) (.c (.bool true)) (.t 16), none⟩, ⟨(some 18), .move (.t 17), none⟩, ⟨(some 19), .fieldAddr 2 (.t 2), some (some 18, false)⟩, ⟨(some 20), .load false 1 (.t 19), some (some 18, false)⟩, ⟨(some 21), .len (.t 20), some (some 18, false)⟩, ⟨(some 22), .fieldAddr 2 (.t 3), some (some 18, false)⟩, ⟨(some 23), .load false 1 (.t 22), some (some 18, false)⟩, ⟨(some 24), .len (.t 23), some (some 18, false)⟩, ⟨(some 25), .bin .neq (.t 21) (.t 24), some (some 18, false)⟩, ⟨(some 26), .pick (.t 18) (.c (.bool true)) (.t 25), none⟩]) (.cond (.t 26) (.seq (.region [ ⟨(some 4), .move (.c (.bool false)), none⟩]) .ret) .skip)) (.seq (.seq (.region [ ⟨(some 5), .move (.c (.int .i64 0)), none⟩]) (.block 0 (.loop (.seq (.seq (.region [ ⟨(some 27), .move (.t 5), none⟩, ⟨(some 28), .fieldAddr 2 (.t 2), none⟩, ⟨(some 29), .load false 1 (.t 28), none⟩, ⟨(some 30), .len (.t 29), none⟩, ⟨(some 31), .bin .lss (.t 27) (.t 30), none⟩]) (.cond (.t 31) .skip (.exit 0))) (.seq (.block 1 (.seq (.draw [ (⟨(some 34), .fieldAddr 2 (.t 2), none⟩, []), (⟨(some 35), .load false 1 (.t 34), none⟩, []), (⟨(some 36), .move (.t 5), none⟩, []), (⟨(some 37), .indexAddr 3 (.t 35) (.t 36), none⟩, []), (⟨(some 38), .load true 3 (.t 37), none⟩, []), (⟨(some 39), .fieldAddr 2 (.t 3), none⟩, []), (⟨(some 40), .load false 1 (.t 39), none⟩, []), (⟨(some 41), .move (.t 5), none⟩, []), (⟨(some 42), .indexAddr 3 (.t 40) (.t 41), none⟩, []), (⟨(some 43), .load true 3 (.t 42), none⟩, []), (⟨(some 44), .call f_warehouseref24_SameRecord [(.t 38), (.t 43)], none⟩, []), (⟨(some 45), .un .not (.t 44), none⟩, [])]) (.cond (.t 45) (.seq (.region [ ⟨(some 4), .move (.c (.bool false)), none⟩]) .ret) .skip))) (.region [ ⟨(some 32), .move (.t 5), none⟩, ⟨(some 33), .bin .add (.t 32) (.c (.int .i64 1)), none⟩, ⟨(some 5), .move (.t 33), none⟩])))))) (.seq (.region [ ⟨(some 4), .move (.c (.bool true)), none⟩]) .ret))))⟩

structure F_warehouseref24_SameFile (P : Program) where
  id : FuncId
  warehouseref24_SameRecord : F_warehouseref24_SameRecord P
  has : Has P id [] (c_warehouseref24_SameFile warehouseref24_SameRecord.id)

end Go.AW

namespace Go.AW
variable [Draws]
open Go.RowKit
inductive Sh where
  | bool
  | int (k : IntKind)
  | str
  | slice (fs : List Sh)

def shapeFields (P : Program) (sh : TypeId → Option (List Sh)) : List Field → Nat → Option (List Sh)
  | [], _ => some []
  | f :: r, off => if f.offset = off then match sh f.type, shapeFields P sh r (off + P.cellsOf f.type) with
      | some a, some b => if a.length = P.cellsOf f.type then some (a ++ b) else none
      | _, _ => none
    else none

def shapeOf (P : Program) : Nat → TypeId → Option (List Sh)
  | 0, _ => none
  | n + 1, t => match P.underlying t with
    | some .bool => some [.bool]
    | some (.int k) => some [.int k]
    | some .string => some [.str]
    | some (.slice e) => match shapeOf P n e with
      | some l => if l.length = P.cellsOf e ∧ P.cellsOf e ≠ 0 then some [.slice l] else none
      | none => none
    | some (.struct fs) => match shapeFields P (shapeOf P n) fs.toList 0 with
      | some l => if l.length = P.cellsOf t then some l else none
      | none => none
    | _ => none

inductive ShOk : Sh → AVal → Prop where
  | bool (b : Bool) : ShOk .bool (.bool b)
  | int (k : IntKind) (n : Int) (h : (Lit.int k n).wf = true) : ShOk (.int k) (.int k n)
  | str (s : ByteArray) (h : s.size ≤ maxLen) : ShOk .str (.str s)
  | list (fs : List Sh) (es : List (List AVal)) (hb : es.length ≤ maxLen) (hl : ∀ e ∈ es, e.length = fs.length)
      (h : ∀ (e : List AVal) (i : Nat) (f : Sh) (d : AVal), e ∈ es → fs[i]? = some f → e[i]? = some d → ShOk f d) : ShOk (.slice fs) (.list false fs.length es)

def allC (w : World) (b : Nat) : Nat :=
  match w.heap[b]? with
  | some (.cells cells _ _) => cells.size
  | _ => 0

theorem allC_cell {w : World} {b i : Nat} {v : Value} (h : w.cell? ⟨b, i, none⟩ = some v) : i < allC w b := by
  unfold World.cell? at h
  unfold allC
  simp only [] at h
  split at h
  · rename_i hh
    rw [hh]
    simp only []
    exact (Array.getElem?_eq_some_iff.1 h).1
  · cases h

theorem ShOk.isCell {s : Sh} {a : AVal} (h : ShOk s a) : a.isCell = true := by cases h <;> rfl

section
variable {H : Type} {enc : TypeId × Value → H} {P : Program} {w : World} {spare : Nat → Bool} {held : Bool}
theorem cells?_get {a : Addr} {n : Nat} {cs : List Value} (h : w.cells? 0 a n = some cs) : cs.length = n ∧ ∀ i, i < n → w.cell? (a.add i) = cs[i]? := by
  unfold World.cells? at h
  rw [if_pos (Nat.zero_le _)] at h
  exact ⟨by simpa using Go.mapM_some_length h, fun i hi => Go.mapM_some_get h i i (by simp [hi])⟩

def RdAll (w : World) (shs : List Sh) (cs : List Value) : Prop :=
  ∃ asv : List AVal, asv.length = cs.length ∧ shs.length = cs.length ∧ (∀ (i : Nat) (s : Sh) (a : AVal), shs[i]? = some s → asv[i]? = some a → ShOk s a) ∧
    ∀ (i : Nat) (a : AVal) (c : Value), asv[i]? = some a → cs[i]? = some c → Rd (allC w) w a c

theorem RdAll.one {s : Sh} {a : AVal} {c : Value} (h : ShOk s a) (hr : Rd (allC w) w a c) : RdAll w [s] [c] := by
  refine ⟨[a], rfl, rfl, fun i s' a' h1 h2 => ?_, fun i a' c' h1 h2 => ?_⟩
  · cases i with
    | zero => simp at h1 h2; subst h1 h2; exact h
    | succ i => simp at h1
  · cases i with
    | zero => simp at h1 h2; subst h1 h2; exact hr
    | succ i => simp at h1

theorem RdAll.append {s1 s2 : List Sh} {c1 c2 : List Value} (h1 : RdAll w s1 c1) (h2 : RdAll w s2 c2) : RdAll w (s1 ++ s2) (c1 ++ c2) := by
  obtain ⟨a1, l1, m1, o1, r1⟩ := h1
  obtain ⟨a2, l2, m2, o2, r2⟩ := h2
  refine ⟨a1 ++ a2, by simp [l1, l2], by simp [m1, m2], fun i s a hs ha => ?_, fun i a c ha hc => ?_⟩
  · by_cases hi : i < c1.length
    · rw [List.getElem?_append_left (by omega)] at hs ha
      exact o1 i s a hs ha
    · rw [List.getElem?_append_right (by omega)] at hs ha
      rw [m1] at hs; rw [l1] at ha
      exact o2 _ s a hs ha
  · by_cases hi : i < c1.length
    · rw [List.getElem?_append_left (by omega)] at ha hc
      exact r1 i a c ha hc
    · rw [List.getElem?_append_right (by omega)] at ha hc
      rw [l1] at ha
      exact r2 _ a c ha hc

theorem RdAll.nil : RdAll w [] [] := ⟨[], rfl, rfl, fun i s a h => by simp at h, fun i a c h => by simp at h⟩

theorem open_fields {sh : TypeId → Option (List Sh)} (tr : Field → List Value → Prop) (htr : ∀ (f : Field) (cs : List Value) (l : List Sh), tr f cs → sh f.type = some l → RdAll w l cs) (cs : List Value) :
    ∀ (fs : List Field) (off : Nat) (l : List Sh), shapeFields P sh fs off = some l → (∀ f ∈ fs, tr f ((cs.drop f.offset).take (P.cellsOf f.type))) → off + l.length = cs.length → RdAll w l (cs.drop off)
  | [], off, l, h, _, hl => by
    simp only [shapeFields, Option.some.injEq] at h; subst h
    have : cs.drop off = [] := List.drop_eq_nil_of_le (by simp at hl; omega)
    rw [this]; exact .nil
  | f :: r, off, l, h, ht, hl => by
    simp only [shapeFields] at h
    split at h
    case isFalse => cases h
    rename_i ho
    split at h
    case h_2 => cases h
    rename_i a b h1 h2
    split at h
    case isFalse => cases h
    rename_i hlen
    cases h
    have hf := htr f _ _ (ht f (by simp)) h1
    have hr := open_fields tr htr cs r _ _ h2 (fun g hg => ht g (by simp [hg])) (by simp at hl; omega)
    rw [ho] at hf
    have := hf.append hr
    rwa [← List.drop_drop, List.take_append_drop] at this

theorem open_shape : ∀ (n : Nat) (fuel : Nat) (t : TypeId) (cs : List Value) (x : DataW H × List MemPlace) (l : List Sh), shapeOf P n t = some l → DataW.trod enc P w 0 spare held fuel t cs = some x → RdAll w l cs
  | 0, _, _, _, _, _, h, _ => by simp [shapeOf] at h
  | n + 1, fuel, t, cs, x, l, h, ht => by
    unfold shapeOf at h
    split at h
    · rename_i hu
      cases h
      cases fuel with
      | zero => simp [DataW.trod] at ht
      | succ m =>
        unfold DataW.trod at ht
        rw [hu] at ht
        split at ht <;> simp_all
        exact .one (.bool _) (.bool _)
    · rename_i k hu
      cases h
      cases fuel with
      | zero => simp [DataW.trod] at ht
      | succ m =>
        unfold DataW.trod at ht
        rw [hu] at ht
        split at ht <;> simp_all
        obtain ⟨⟨rfl, hw⟩, _⟩ := ht
        exact .one (.int _ _ hw) (.int _ _)
    · rename_i hu
      cases h
      cases fuel with
      | zero => simp [DataW.trod] at ht
      | succ m =>
        unfold DataW.trod at ht
        rw [hu] at ht
        split at ht <;> simp_all
        exact .one (.str _ ht.1) (.str _)
    · rename_i e hu
      split at h
      case h_2 => cases h
      rename_i fs hfs
      split at h
      case isFalse => cases h
      rename_i hlen'
      cases h
      have hlen := hlen'.1
      rcases DataW.trod_slice hu ht with ⟨rfl, _⟩ | ⟨a, len, cap, elems, rest, m, rfl, rfl, _, _, hl, hm, hel, hcell, _, _⟩
      · have hes : ShOk (.slice fs) (.list false fs.length []) := .list fs [] (Nat.zero_le _) (by simp) (by simp)
        exact .one hes (.list0 _ _ _ _ (by simp))
      · obtain ⟨b, off, spot⟩ := a
        have each : ∀ i, i < len → ∃ cells, w.cells? 0 ((Addr.mk b off spot).add (i * P.cellsOf e)) (P.cellsOf e) = some cells ∧ RdAll w fs cells := by
          intro i hi
          have h1 := hcell i hi
          rw [List.getElem?_eq_getElem (by omega), Option.bind_eq_some_iff] at h1
          obtain ⟨cells, h2, h3⟩ := h1
          exact ⟨cells, h2, open_shape n m e cells _ fs hfs h3⟩
        by_cases h0 : len = 0
        · subst h0
          have hes : ShOk (.slice fs) (.list false fs.length []) := .list fs [] (Nat.zero_le _) (by simp) (by simp)
          exact .one hes (.list0 _ _ _ _ (by simp))
        · by_cases hz : P.cellsOf e = 0
          · exact absurd hz hlen'.2
          · have hspot : spot = none := by
              obtain ⟨cells, h1, _⟩ := each 0 (by omega)
              obtain ⟨h2, h3⟩ := cells?_get h1
              have h4 := h3 0 (by omega)
              rw [List.getElem?_eq_getElem (by omega)] at h4
              have := World.cell?_spot h4
              simpa [Addr.add] using this
            subst hspot
            
            have hch : ∃ F : Nat → List AVal, ∀ i, i < len → (F i).length = fs.length ∧ (∀ (j : Nat) (s : Sh) (a : AVal), fs[j]? = some s → (F i)[j]? = some a → ShOk s a) ∧
                ∃ cells : List Value, cells.length = fs.length ∧ (∀ j, j < fs.length → w.cell? ⟨b, off + i * fs.length + j, none⟩ = cells[j]?) ∧ ∀ (j : Nat) (a : AVal) (c : Value), (F i)[j]? = some a → cells[j]? = some c → Rd (allC w) w a c := by
              refine ⟨fun i => if hi : i < len then Classical.choose (each i hi).choose_spec.2 else [], fun i hi => ?_⟩
              obtain ⟨h1, h2, h3, h4⟩ := Classical.choose_spec (each i hi).choose_spec.2
              have hc := (each i hi).choose_spec.1
              obtain ⟨h5, h6⟩ := cells?_get hc
              simp only [dif_pos hi]
              refine ⟨by omega, h3, (each i hi).choose, by omega, fun j hj => ?_, h4⟩
              rw [← h6 j (by omega)]
              rw [WideShapes.add_plain, WideShapes.add_plain, hlen]
            obtain ⟨F, hF⟩ := hch
            have hget : ∀ (i : Nat) (e' : List AVal), ((List.range len).map F)[i]? = some e' → i < len ∧ e' = F i := by
              intro i e' he
              by_cases hi : i < len
              · simp [hi] at he; exact ⟨hi, he.symm⟩
              · simp [hi] at he
            refine .one (a := .list false fs.length ((List.range len).map F)) (.list _ _ (by simp; omega) (fun e' he' => ?_) fun e' i f d he' hf hd => ?_) ?_
            · obtain ⟨i, hi, rfl⟩ := List.mem_map.1 he'
              exact (hF i (by simpa using hi)).1
            · obtain ⟨i', hi', rfl⟩ := List.mem_map.1 he'
              exact (hF i' (by simpa using hi')).2.1 i f d hf hd
            · have hcellv : ∀ i j, i < len → j < fs.length → ∃ v, w.cell? ⟨b, off + i * fs.length + j, none⟩ = some v := by
                intro i j hi hj
                obtain ⟨_, _, cells, h1, h2, _⟩ := hF i hi
                exact ⟨cells[j], by rw [h2 j hj, List.getElem?_eq_getElem (by omega)]⟩
              have := Rd.list (C := allC w) (w := w) false fs.length ((List.range len).map F) b off cap (fun i j => (w.cell? ⟨b, off + i * fs.length + j, none⟩).getD .nilIface) (by simp) (by simpa using hl)
                (fun e' he' => by obtain ⟨i, hi, rfl⟩ := List.mem_map.1 he'; exact (hF i (by simpa using hi)).1) ?_ ?_ ?_ ?_
              · simpa using this
              · obtain ⟨v, hv⟩ := hcellv (len - 1) (fs.length - 1) (by omega) (by omega)
                have h1 := allC_cell hv
                simp only [List.length_map, List.length_range]
                have h2 : len * fs.length = (len - 1) * fs.length + fs.length := by
                  rw [← Nat.succ_mul]; congr 1; omega
                omega
              · intro i j hi hj
                obtain ⟨v, hv⟩ := hcellv i j (by simpa using hi) hj
                rw [hv]; rfl
              · intro i j e' d he hd
                obtain ⟨hi, rfl⟩ := hget i e' he
                have hj : j < fs.length := by rw [← (hF i hi).1]; exact (List.getElem?_eq_some_iff.1 hd).1
                exact ((hF i hi).2.1 j _ d (List.getElem?_eq_getElem hj) hd).isCell
              · intro i j e' d he hd
                obtain ⟨hi, rfl⟩ := hget i e' he
                have hj : j < fs.length := by rw [← (hF i hi).1]; exact (List.getElem?_eq_some_iff.1 hd).1
                obtain ⟨_, _, cells, h1, h2, h3⟩ := hF i hi
                refine h3 j d _ hd ?_
                rw [← h2 j hj]
                obtain ⟨v, hv⟩ := hcellv i j hi hj
                rw [hv]; rfl
    · rename_i fs hu
      split at h
      case h_2 => cases h
      rename_i l' hl'
      split at h
      case isFalse => cases h
      rename_i hll
      cases h
      obtain ⟨xs, m, rfl, _, hlen, hxs, hf⟩ := DataW.trod_struct hu ht
      have := open_fields (P := P) (w := w) (sh := shapeOf P n) (fun f cs => ∃ y, DataW.trod enc P w 0 spare held m f.type cs = some y) (fun f cs l' ⟨y, hy⟩ hl => open_shape n m f.type cs y l' hl hy) cs fs.toList 0 _ hl' ?_ ?_
      · simpa using this
      · intro f hfm
        obtain ⟨i, hi, he⟩ := List.getElem_of_mem hfm
        have h1 := hf i f (by rw [← he]; simp)
        exact ⟨xs[i]'(by simp at hi; omega), by rw [h1]; exact List.getElem?_eq_getElem _⟩
      · omega
    · cases h

end
end Go.AW

namespace Go.AW
variable [Draws]
open Go.RowKit Go.ChangeShapes
def paramSh (P : Program) (n : Nat) (t : TypeId) : Option (Bool × List Sh) :=
  match P.underlying t with
  | some (.struct _) => (shapeOf P n t).map fun l => (true, l)
  | some (.array _ _) => none
  | _ => match shapeOf P n t with
    | some [s] => some (false, [s])
    | _ => none

def ArgOk : Bool × List Sh → AVal → Prop
  | (true, l), a => ∃ asv, a = .agg asv ∧ asv.length = l.length ∧ ∀ (i : Nat) (s : Sh) (c : AVal), l[i]? = some s → asv[i]? = some c → ShOk s c
  | (false, l), a => ∃ s, l = [s] ∧ ShOk s a

def ArgsOk : List (Bool × List Sh) → List AVal → Prop
  | [], [] => True
  | p :: ps, a :: asv => ArgOk p a ∧ ArgsOk ps asv
  | _, _ => False

def paramShs (P : Program) (n : Nat) : List TypeId → Option (List (Bool × List Sh))
  | [] => some []
  | t :: ts => match paramSh P n t, paramShs P n ts with
    | some p, some ps => some (p :: ps)
    | _, _ => none

section
variable {H : Type} {enc : TypeId × Value → H} {P : Program} {w : World} {τ : Nat → Option Loc}
theorem open_arg {n : Nat} {t : TypeId} {v : Value} {d : DataW H} {ps : List MemPlace} {p : Bool × List Sh} {base : Nat} (hp : paramSh P n t = some p) (hv : Value.okWide P w .any base t v)
    (h : DataW.Trod enc P w 0 (fun _ => true) true t v d ps) : ∃ a, ArgOk p a ∧ Rel (allC w) w τ [] a v := by
  obtain ⟨fuel, hf⟩ := h
  unfold paramSh at hp
  split at hp
  · rename_i fs hu
    simp only [Option.map_eq_some_iff] at hp
    obtain ⟨l, hl, rfl⟩ := hp
    obtain ⟨asv, h1, h2, h3, h4⟩ := open_shape n fuel t _ _ l hl hf
    unfold Value.okWide at hv
    rw [hu] at hv
    obtain ⟨cs, rfl, _⟩ := hv
    simp only [Value.cells] at h1 h2 h4
    exact ⟨.agg asv, ⟨asv, rfl, by omega, h3⟩, .agg asv cs (by simpa using h1) fun i c v hc hv => .rd (h4 i c v hc (by simpa using hv))⟩
  · cases hp
  · rename_i hns hna
    split at hp
    case h_2 => cases hp
    rename_i s hl
    cases hp
    obtain ⟨asv, h1, h2, h3, h4⟩ := open_shape n fuel t _ _ _ hl hf
    have hvc : v.cells.toList = [v] := by
      have : ∀ cs, v ≠ .agg cs := by
        rintro cs rfl
        unfold Value.okWide at hv
        split at hv
        · rename_i fs hu; exact hns fs hu
        · rename_i k e hu; exact hna k e hu
        · unfold Cell.okWide at hv
          split at hv <;> simp_all [Cell.ok]
      cases v <;> first | rfl | exact absurd rfl (this _)
    rw [hvc] at h1 h2 h4
    obtain ⟨a, rfl⟩ := List.length_eq_one_iff.1 h1
    exact ⟨a, ⟨s, rfl, h3 0 s a rfl rfl⟩, .rd (h4 0 a v rfl rfl)⟩

theorem open_args {n : Nat} {base : Nat} : ∀ (ts : List TypeId) (vs : List Value) (ds : List (DataW H)) (ps : List MemPlace) (shs : List (Bool × List Sh)), paramShs P n ts = some shs →
    (∀ (j : Nat) (t : TypeId) (v : Value), ts[j]? = some t → vs[j]? = some v → Value.okWide P w .any base t v) →
    DataW.TrodAll enc P w 0 (fun _ => true) true ts vs ds ps → ∃ asv, ArgsOk shs asv ∧ asv.length = vs.length ∧ ∀ (i : Nat) (a : AVal) (v : Value), asv[i]? = some a → vs[i]? = some v → Rel (allC w) w τ [] a v
  | [], vs, ds, ps, shs, hs, hv, h => by
    obtain ⟨rfl, rfl, rfl⟩ := trodAll_nil h
    simp only [paramShs, Option.some.injEq] at hs; subst hs
    exact ⟨[], trivial, rfl, fun i a v h => by simp at h⟩
  | t :: ts, vs, ds, ps, shs, hs, hv, h => by
    obtain ⟨v, vs', d, ds', p, q, rfl, rfl, rfl, h1, h2⟩ := trodAll_cons h
    simp only [paramShs] at hs
    split at hs
    case h_2 => cases hs
    rename_i sh shs' e1 e2
    cases hs
    obtain ⟨a, ha, hr⟩ := open_arg (τ := τ) e1 (hv 0 t v rfl rfl) h1
    obtain ⟨asv, has, hl, hrs⟩ := open_args ts vs' ds' q shs' e2 (fun j t' v' ht hv' => hv (j + 1) t' v' (by simpa using ht) (by simpa using hv')) h2
    refine ⟨a :: asv, ⟨ha, has⟩, by simp [hl], fun i a' v' h1 h2 => ?_⟩
    cases i with
    | zero => simp at h1 h2; subst h1 h2; exact hr
    | succ i => exact hrs i a' v' (by simpa using h1) (by simpa using h2)

theorem trodAll_below (hl : laidOutB P = true) {W W' : World} (hb : Below W.heap.size W W') : ∀ (ts : List TypeId) (vs : List Value) (ds : List (DataW H)) (ps : List MemPlace),
    (∀ t ∈ ts, P.readableRec t = true ∧ t < P.types.size) → DataW.TrodAll enc P W 0 (fun _ => true) true ts vs ds ps →
    DataW.TrodAll enc P W' 0 (fun b => decide (b < W.heap.size)) true ts vs ds ps
  | [], vs, ds, ps, _, h => by obtain ⟨rfl, rfl, rfl⟩ := trodAll_nil h; exact trodAll_mk0
  | t :: ts, vs, ds, ps, hr, h => by
    obtain ⟨v, vs', d, ds', p, q, rfl, rfl, rfl, h1, h2⟩ := trodAll_cons h
    have hlt : ∀ x ∈ p, x.block < W.heap.size := by obtain ⟨m, hm⟩ := h1; exact DataW.trod_lt m _ _ _ hm
    exact trodAll_cons_mk (Below.trod hl (hr t (by simp)).1 (hr t (by simp)).2 h1 hb hlt) (trodAll_below hl hb ts vs' ds' q (fun t' ht => hr t' (by simp [ht])) h2)

theorem calls_of_law {f : FuncId} {fn : Func} {c : Code} {args : Array Value} {asv : List AVal} (hfn : P.funcs[f]? = some fn) (hname : (fn.name == "runtime.NumGoroutine") = false) (hbody : fn.body = some c)
    (hlen : asv.length = args.size) (hrel : ∀ (i : Nat) (a : AVal) (v : Value), asv[i]? = some a → args[i]? = some v → Rel (allC w) w (fun _ => none) [] a v)
    (hlaw : ACalls P f asv [] (fun r _ => r = .bool true)) :
    Calls P f args w fun e w' => e = .returned (.bool true) ∧ Below w.heap.size w w' := by
  have hwf : WF (allC w) (fun _ => none) [] w := by
    refine ⟨fun id o h => by simp at h, fun id o h => by simp at h, fun id o l h => by simp at h, fun id l h => by simp at h, fun i j li lj h => by simp at h, fun b hb => ?_⟩
    unfold allC at hb
    split at hb
    · rename_i h
      exact lt_of_heap h
    · omega
  have h := hlaw (allC w) (fun _ => none) w args hwf hlen hrel
  have hcall : (callFunc f args).run P w = .ok (.enter f args) w := by
    simp only [callFunc, Sem.run_bind, run_program, Result.andThen_ok, hfn, hname, Bool.false_eq_true, if_false, hbody, Option.isNone_some, Sem.run_pure]
  unfold CallsX at h
  rw [hcall] at h
  refine Calls.mono h fun e w' => ?_
  rintro ⟨v, r, C', τ', H', rfl, rfl, hr, hst, hstep⟩
  refine ⟨?_, hst.fr.os, hst.fr.tape, hst.fr.output, hst.fr.size, fun k hk => hst.fr.prot k ⟨hk, ?_⟩⟩
  · cases hr with
    | rd hr => cases hr; rfl
  · rintro ⟨id, l, h1, _⟩
    exact absurd h1 (Nat.not_lt_zero _)

set_option maxRecDepth 100000 in

theorem lifted_of_law {C : Checked} {os : Os} {f : FuncId} {fn : Func} {s : ChangeSpec} {ob : List Nat} {af : AFunc} {n tb : Nat} {shs : List (Bool × List Sh)}
    (own : ownKnob C.prog.godebug = none) (started : os.Started) (noInit : C.prog.inits.idxOf? f = none) (hfn : C.prog.funcs[f]? = some fn)
    (witness : ∃ (w : World) (tape : Tape) (i : Input), w.os = os ∧ (w.forCall tape i).Shaped C.prog ∧ i.vars = [] ∧ Input.okWide C.prog (w.forCall tape i) .any w.heap.size f i ∧
      s.pre6 enc C.prog fn [] false (w.forCall tape i).memory i.args ∧ ({} : Assume).holds C.prog (lone (Frame.enter C.prog f i.args .normal) [] (w.forCall tape i)))
    (laid : laidOutB C.prog = true) (hread : (fn.params.toList.all fun t => C.prog.readableRec t && decide (t < C.prog.types.size)) = true)
    (hs : ∀ (ds : List (DataW H)), ds.length = fn.params.size → s.fn H ds = { results := [.lit (.bool true)], args := ds }) (hvars : s.vars = [])
    (hres : fn.resultTypes = #[tb]) (htb : C.prog.underlying tb = some .bool) (hsh : paramShs C.prog n fn.params.toList = some shs) (hhas : Has C.prog f ob af)
    (hlaw : ∀ asv, ArgsOk shs asv → ACalls C.prog f asv [] (fun r _ => r = .bool true)) :
    ReturnsInHanded {} C os f .any (s.pre6 enc C.prog fn [] false) (s.post enc C.prog fn false true false false) := by
  refine returnsInHanded_of_change (C := C) own started noInit hfn witness ?_
  intro W base args ds gs before hval hW _ _
  have hW' := hW
  obtain ⟨p, q, hA, hV, rfl, _, _⟩ := hW
  rw [hvars] at hV
  obtain ⟨rfl, rfl⟩ := trodVars_none hV
  obtain ⟨asv, has, hlen, hrel⟩ := open_args (τ := fun _ => none) (n := n) fn.params.toList args.toList ds p shs hsh (fun j t v h1 h2 => hval j t v (by simpa using h1) (by simpa using h2)) hA
  obtain ⟨fn', c, hfn', hname, hbody, _⟩ := hhas
  have e : fn' = fn := Option.some.inj (hfn'.symm.trans hfn)
  subst e
  have hlds : ds.length = fn'.params.size := by
    have : ∀ (ts : List TypeId) (vs : List Value) (ds : List (DataW H)) (ps : List MemPlace), DataW.TrodAll enc C.prog W 0 (fun _ => true) true ts vs ds ps → ds.length = ts.length := by
      intro ts
      induction ts with
      | nil => intro vs ds ps h; obtain ⟨_, rfl, _⟩ := trodAll_nil h; rfl
      | cons t ts ih =>
        intro vs ds ps h
        obtain ⟨_, _, _, _, _, _, _, rfl, _, _, h2⟩ := trodAll_cons h
        simp [ih _ _ _ h2]
    simpa using this _ _ _ _ hA
  refine (calls_of_law hfn hname hbody (by simpa using hlen) (fun i a v h1 h2 => hrel i a v h1 (by simpa using h2)) (hlaw asv has)).mono fun e W' ⟨he, bel⟩ => ?_
  subst he
  refine ⟨_, rfl, ds, [], _, [], p, [], hW', ?_, ?_, ?_, bel.frame _, fun h => by cases h⟩
  · rw [List.append_nil, hs ds hlds, hres]
    exact trodAll_mk1 (shut_bool htb _)
  · rw [List.append_nil, hs ds hlds]
    refine trodAll_below laid bel _ _ _ _ (fun t ht => ?_) hA
    have := List.all_eq_true.1 hread t ht
    simpa using this
  · rw [List.append_nil, hs ds hlds, hvars]
    rfl

end
theorem argsOk_cons {p : Bool × List Sh} {ps : List (Bool × List Sh)} {asv : List AVal} (h : ArgsOk (p :: ps) asv) : ∃ a as', asv = a :: as' ∧ ArgOk p a ∧ ArgsOk ps as' := by
  cases asv with
  | nil => exact h.elim
  | cons a asv => exact ⟨a, asv, rfl, h.1, h.2⟩

theorem argsOk_nil {asv : List AVal} (h : ArgsOk [] asv) : asv = [] := by
  cases asv with
  | nil => rfl
  | cons a asv => exact h.elim

theorem argOk_int {k : IntKind} {a : AVal} (h : ArgOk (false, [.int k]) a) : ∃ n, a = .int k n ∧ (Lit.int k n).wf = true := by
  obtain ⟨s, h1, h2⟩ := h
  cases h1
  cases h2 with
  | int _ n h => exact ⟨n, rfl, h⟩

def CellsOk : List Sh → List AVal → Prop
  | [], [] => True
  | s :: ss, a :: asv => ShOk s a ∧ CellsOk ss asv
  | _, _ => False

theorem cellsOk_of : ∀ (l : List Sh) (asv : List AVal), asv.length = l.length → (∀ (i : Nat) (s : Sh) (c : AVal), l[i]? = some s → asv[i]? = some c → ShOk s c) → CellsOk l asv
  | [], [], _, _ => trivial
  | s :: l, a :: asv, hl, h => ⟨h 0 s a rfl rfl, cellsOk_of l asv (by simpa using hl) fun i s c h1 h2 => h (i + 1) s c (by simpa using h1) (by simpa using h2)⟩
  | [], _ :: _, hl, _ => by simp at hl
  | _ :: _, [], hl, _ => by simp at hl

theorem shOk_slice {fs : List Sh} {a : AVal} (h : ShOk (.slice fs) a) : ∃ es, a = .list false fs.length es ∧ es.length ≤ maxLen ∧ ∀ e ∈ es, CellsOk fs e := by
  cases h with
  | list _ es hb hl h => exact ⟨es, rfl, hb, fun e he => cellsOk_of _ _ (hl e he) fun i s c h1 h2 => h e i s c he h1 h2⟩

theorem argOk_slice {fs : List Sh} {a : AVal} (h : ArgOk (false, [.slice fs]) a) : ∃ es, a = .list false fs.length es ∧ es.length ≤ maxLen ∧ ∀ e ∈ es, CellsOk fs e := by
  obtain ⟨s, h1, h2⟩ := h
  cases h1
  exact shOk_slice h2

theorem list_image {α β : Type} {g : α → β} {W : α → Prop} : ∀ (l : List β), (∀ x ∈ l, ∃ a, x = g a ∧ W a) → ∃ m : List α, l = m.map g ∧ ∀ a ∈ m, W a
  | [], _ => ⟨[], rfl, by simp⟩
  | x :: l, h => by
    obtain ⟨a, rfl, ha⟩ := h x (by simp)
    obtain ⟨m, rfl, hm⟩ := list_image l fun y hy => h y (by simp [hy])
    exact ⟨a :: m, rfl, fun b hb => by rcases List.mem_cons.1 hb with rfl | hb; exact ha; exact hm b hb⟩

theorem cellsOk_int {k : IntKind} {e : List AVal} (h : CellsOk [.int k] e) : ∃ n, e = [.int k n] ∧ (Lit.int k n).wf = true := by
  match e, h with
  | [a], h =>
    obtain ⟨h1, _⟩ := h
    cases h1
    rename_i n hn
    exact ⟨n, rfl, hn⟩

theorem argOk_ints {k : IntKind} {a : AVal} (h : ArgOk (false, [.slice [.int k]]) a) : ∃ l : List Int, a = .list false 1 (l.map fun n => [.int k n]) ∧ l.length ≤ maxLen ∧ ∀ n ∈ l, (Lit.int k n).wf = true := by
  obtain ⟨es, rfl, hl, h⟩ := argOk_slice h
  obtain ⟨m, rfl, hm⟩ := list_image (g := fun n => [AVal.int k n]) (W := fun n => (Lit.int k n).wf = true) es fun e he => cellsOk_int (h e he)
  exact ⟨m, rfl, by simpa using hl, hm⟩

end Go.AW

namespace Go.AW
variable [Draws]
attribute [local irreducible] ACalls
structure V where
  kind : Int
  num : Int
  str : ByteArray

def valC (v : V) : List AVal := [.int .i64 v.kind, .int .i64 v.num, .str v.str]

def validB (v : V) : Bool :=
  if v.kind = 0 then v.num == 0 && v.str.data.toList == []
  else if v.kind = 1 then (v.num == 0 || v.num == 1) && v.str.data.toList == []
  else if v.kind = 2 then decide (-1073741824 ≤ v.num) && decide (v.num ≤ 1073741824) && v.str.data.toList == []
  else if v.kind = 3 then v.num == 0 && decide (v.str.size ≤ 64)
  else if v.kind = 4 then decide (0 ≤ v.num) && decide (v.num ≤ 575999999) && v.str.data.toList == []
  else false

set_option maxRecDepth 20000 in
theorem value_Valid_spec {P : Program} (F : F_value_Valid P) (v : V) (H : List AObj) :
    ACalls P F.id [.agg (valC v)] H (fun r H' => r = .bool (validB v) ∧ H' = H) := by
  refine ACalls.pure rfl (acalls_of_body F.has ?_)
  repeat' ((conv => whnf); refine recA (fun _ => ?_) (fun _ => ?_))
  all_goals (conv => whnf)
  all_goals refine pubB ?_
  all_goals (simp_all [validB, bs_nil]; try omega)

def cmpI (a b : Int) : Int := if a < b then -1 else if b < a then 1 else 0

def cmpS (a b : List UInt8) : Int := if Op.bytesLess a b then -1 else if a = b then 0 else 1

def orI : List Int → Int
  | [] => 0
  | x :: xs => if x = 0 then orI xs else x

def valCmp (a b : V) : Int := orI [cmpI a.kind b.kind, cmpI a.num b.num, cmpS a.str.data.toList b.str.data.toList]

theorem getElem?_getD {l : List Int} {k : Nat} (h : k < l.length) : l[k]? = some (l.getD k 0) := by
  rw [List.getD_eq_getElem?_getD, List.getElem?_eq_getElem h]; rfl

end Go.AW

namespace Go.AW
variable [Draws]
attribute [local irreducible] ACalls
def bC (l : List Int) : List (List AVal) := l.map fun n => [.int .u8 n]

def u8 (n : Int) : Int := IntKind.u8.wrap n

def w4 (n : Int) : List Int := [u8 (n.fdiv (2 ^ 24)), u8 (n.fdiv (2 ^ 16)), u8 (n.fdiv (2 ^ 8)), u8 n]

theorem bC_append (a b : List Int) : bC (a ++ b) = bC a ++ bC b := List.map_append

theorem bC_length (l : List Int) : (bC l).length = l.length := List.length_map ..

theorem roomB_le {n : Nat} (h : n ≤ 1000000000) : n ≤ roomB := Nat.le_trans h (by show _ ≤ 1099511627776; omega)

theorem roomB_le1 {n : Nat} (h : n ≤ 1000000000) : n * 1 ≤ roomB := roomB_le (by omega)

theorem ACalls.retH {P : Program} {f : FuncId} {args : List AVal} {H H1 : List AObj} {R : AVal} {Q : AVal → List AObj → Prop} (h : ACalls P f args H (fun r H' => r = R ∧ H' = H1)) (hq : Q R H1) : ACalls P f args H Q :=
  h.mono fun r H' ⟨h1, h2⟩ => by subst h1 h2; exact hq

set_option maxRecDepth 20000 in
theorem word_spec {P : Program} (F : F_value_word P) (H : List AObj) (id : Nat) (es : List (List AVal)) (n : Int) (ho : H[id]? = some (.arr 1 es)) (hl : es.length ≤ 1000000) :
    ACalls P F.id [.sl id es.length 0 es.length, .int .i64 n] H (fun r H' => r = .sl id (es ++ bC (w4 n)).length 0 (es ++ bC (w4 n)).length ∧ H' = H.set id (.arr 1 (es ++ bC (w4 n)))) := by
  refine acalls_of_body F.has ?_
  repeat' ((conv => whnf); first | refine And.intro (by decide) ?_ | refine recO ho ?_ | refine recT (Nat.beq_refl _) ?_)
  conv => whnf
  refine And.intro ⟨?_, ?_, rfl, rfl⟩ ?_
  · exact roomB_le1 (by simp; omega)
  · exact roomB_le (by simp; omega)
  rw [setO_eq]
  conv => whnf
  exact ⟨rfl, rfl⟩

def bytesI (s : ByteArray) : List Int := s.data.toList.map fun b => (b.toNat : Int)

def encV (v : V) : List Int :=
  u8 v.kind :: (if v.kind = 1 then [u8 v.num] else if v.kind = 2 then w4 (IntKind.i64.wrap (v.num + 1073741824)) else if v.kind = 4 then w4 v.num else if v.kind = 3 then u8 v.str.size :: bytesI v.str else [])

def encK (rs : List V) (k : Nat) : List Int := u8 rs.length :: (rs.take k).flatMap encV

def encB (rs : List V) : List Int := u8 rs.length :: rs.flatMap encV

def encR (rs : List V) : AVal :=
  if 12 < rs.length then .tuple [.nil, .int .i64 2] else if rs.all validB then .tuple [.list false 1 (bC (encB rs)), .int .i64 0] else .tuple [.nil, .int .i64 8]

theorem encV_len (v : V) (h : validB v = true) : (encV v).length ≤ 66 := by
  unfold encV validB at *
  split <;> (try split) <;> (try split) <;> (try split) <;> simp_all [w4, bytesI]

theorem valid_str (v : V) (h : validB v = true) : (byteCells v.str.data.toList).length ≤ 64 := by
  simp only [byteCells, List.length_map]
  unfold validB at h
  split at h <;> (try split at h) <;> (try split at h) <;> (try split at h) <;> (try split at h) <;> simp_all

theorem encK_len (rs : List V) (k : Nat) (h : (rs.take k).all validB = true) : (encK rs k).length ≤ 1 + 66 * k := by
  simp only [encK, List.length_cons]
  have : ∀ l : List V, l.all validB = true → (l.flatMap encV).length ≤ 66 * l.length := by
    intro l hl
    induction l with
    | nil => simp
    | cons v l ih =>
      simp only [List.all_cons, Bool.and_eq_true] at hl
      have := encV_len v hl.1
      have := ih hl.2
      simp only [List.flatMap_cons, List.length_append, List.length_cons]; omega
  have := this _ h
  have h2 : (rs.take k).length ≤ k := List.length_take_le ..
  have h3 : 66 * (rs.take k).length ≤ 66 * k := Nat.mul_le_mul_left _ h2
  omega

theorem pureEs_bC (l : List Int) : pureEs (bC l) = true := by simp [pureEs, bC, AVal.isPure]

theorem pub_int {H1 : List AObj} {n : Nat} {ids : List Nat} {k : IntKind} {a b : Int} (h : a = b) : Pub H1 n ids (.int k a) (.int k b) := by subst h; exact .closed _ rfl

theorem pub2 {H1 : List AObj} {n : Nat} {ids : List Nat} {a b r s : AVal} (h1 : Pub H1 n ids a r) (h2 : Pub H1 n ids b s) : Pub H1 n ids (.tuple [a, b]) (.tuple [r, s]) := by
  refine .tuple _ _ rfl fun i v t h3 h4 => ?_
  rcases i with _ | _ | i
  · cases h3; cases h4; exact h1
  · cases h3; cases h4; exact h2
  · simp at h3

theorem pubF {H1 : List AObj} {n : Nat} {id ep len sz : Nat} {es : List (List AVal)} (ho : H1[id]? = some (.arr sz es)) (he : ep = es.length) (hl : len = es.length) (hp : pureEs es = true) : Pub H1 n [] (.sl id ep 0 len) (.list false sz es) := by
  subst hl he
  have := Pub.frz (n := n) (ids := []) id es.length 0 es.length sz es ho rfl hp (by simp)
  rwa [List.drop_zero, List.take_length] at this

def encS (ex : Bool) (rs : List V) (k : Nat) : List (Nat × AVal) := [(4, .sl 0 (bC (encK rs k)).length 0 (bC (encK rs k)).length), (14, .list ex 3 (rs.map valC)), (15, .int .i64 (rs.map valC).length), (16, .int .i64 k)]

set_option maxRecDepth 20000 in
theorem encode_list {P : Program} (F : F_value_Encode P) (ex : Bool) (rs : List V) (H : List AObj) :
    ACalls P F.id [.list ex 3 (rs.map valC)] H (fun r H' => r = encR rs ∧ H' = H) := by
  refine ACalls.pure rfl (acalls_of_body F.has ?_)
  (conv => whnf); refine recA (fun hlt => ?_) (fun hlt => ?_)
  · conv => whnf
    simp at hlt
    rw [show encR rs = .tuple [.nil, .int .i64 2] from if_pos (by omega)]
    exact pub2 (.closed _ rfl) (.closed _ rfl)
  conv => whnf
  simp at hlt
  refine ⟨fun n ρ H => ∃ k : Nat, k + n = rs.length ∧ (rs.take k).all validB = true ∧ H = [.arr 1 (bC (encK rs k))] ∧
    Sv 67 (encS ex rs k) ρ, rs.length, [], ⟨0, by simp, by simp, ?_, ?_⟩, ?_⟩
  · simp [encK, bC, u8]
  · exact Sv.intro rfl ⟨rfl, rfl, rfl, rfl, trivial⟩
  rintro n ρ H ⟨k, hk, hz, rfl, d, rfl⟩
  conv => whnf
  refine recA (fun hlt2 => ?_) (fun hlt2 => ?_)
  · simp at hlt2
    conv => whnf
    refine ⟨by omega, ?_⟩
    conv => whnf
    refine recO (e := valC rs[k]) ?_ ?_
    · rw [List.getElem?_map, List.getElem?_eq_getElem (by omega)]; rfl
    conv => whnf
    have hb : (bC (encK rs k)).length ≤ 1000 := by rw [bC_length]; exact Nat.le_trans (encK_len rs k hz) (by omega)
    have hsnoc : rs.take (k + 1) = rs.take k ++ [rs[k]] := by rw [List.take_add_one, List.getElem?_eq_getElem (by omega)]; rfl
    have hmem : rs[k] ∈ rs := List.getElem_mem _
    generalize rs[k] = v at hsnoc hmem ⊢
    refine (value_Valid_spec F.value_Valid v _).use ?_
    (conv => whnf); refine recA (fun hv => ?_) (fun hv => ?_)
    · conv => whnf
      have hall : rs.all validB = false := by
        apply Bool.eq_false_iff.2
        intro hall
        rw [List.all_eq_true.1 hall v hmem] at hv
        cases hv
      rw [show encR rs = .tuple [.nil, .int .i64 8] by unfold encR; rw [if_neg (by omega), hall]; rfl]
      exact pub2 (.closed _ rfl) (.closed _ rfl)
    have hz2 : (rs.take (k + 1)).all validB = true := by rw [hsnoc]; simp at hv; simp [hz, hv]
    have hsz : (byteCells v.str.data.toList).length ≤ 64 := valid_str v (by simpa using hv)
    have hkey : bC (encK rs (k + 1)) = bC (encK rs k) ++ bC (encV v) := by rw [← bC_append]; congr 1; simp [encK, hsnoc]
    have e1 := wrapI ((k : Int) + 1) (by omega) (by omega)
    repeat' ((conv => whnf); first
      | refine recT (Nat.beq_refl _) ?_
      | refine And.intro ⟨roomB_le1 (by simp; omega), roomB_le (by simp; omega), rfl, rfl⟩ ?_
      | refine recA (fun _ => ?_) (fun _ => ?_)
      | refine ACalls.retH (word_spec F.value_word _ _ _ _ (by rfl) (by simp; omega)) ?_)
    all_goals (conv => whnf)
    all_goals refine ⟨n - 1, by omega, Gp.one 0 1 (bC (encK rs (k + 1))) ?_ (pureEs_bC _) rfl ?_ fun ρ1 h => ⟨k + 1, by omega, hz2, rfl, h⟩⟩
    all_goals try (refine ⟨pubSl (k := 0) rfl rfl ?_ ?_, .closed _ rfl, .closed _ rfl, pub_int e1, trivial⟩)
    all_goals (rw [hkey]; simp_all [encV, bC, u8, w4, bytesI, byteCells])
  · conv => whnf
    simp at hlt2
    have e : rs.take k = rs := List.take_of_length_le hlt2
    rw [e] at hz
    have e2 : encK rs k = encB rs := by simp [encK, encB, e]
    rw [show encR rs = .tuple [.list false 1 (bC (encB rs)), .int .i64 0] by unfold encR; rw [if_neg (by omega), hz]; rfl, e2]
    have := Pub.frz (H1 := [.arr 1 (bC (encB rs))]) (n := 0) (ids := []) 0 (bC (encB rs)).length 0 (bC (encB rs)).length 1 (bC (encB rs)) rfl rfl (pureEs_bC _) (by simp)
    rw [List.drop_zero, List.take_length] at this
    exact pub2 this (.closed _ rfl)

end Go.AW

namespace Go.AW
variable [Draws]
attribute [local irreducible] ACalls
def iC (l : List Int) : List (List AVal) := l.map fun n => [.int .i64 n]

theorem iC_length (l : List Int) : (iC l).length = l.length := List.length_map ..

theorem iC_get {l : List Int} {k : Nat} (h : k < l.length) : (iC l)[k]? = some [.int .i64 (l.getD k 0)] := by
  rw [iC, List.getElem?_map, getElem?_getD h]; rfl

def w64 (n : Int) : Int := IntKind.i64.wrap n

end Go.AW

namespace Go.AW
variable [Draws]
attribute [local irreducible] ACalls
def vC (rs : List V) : List (List AVal) := rs.map valC

theorem vC_length (l : List V) : (vC l).length = l.length := List.length_map ..

theorem vC_append (a b : List V) : vC (a ++ b) = vC a ++ vC b := List.map_append

theorem pureEs_vC (l : List V) : pureEs (vC l) = true := by simp [pureEs, vC, valC, AVal.isPure]

theorem roomMul {n b : Nat} (h : n ≤ 1000000) (hb : b ≤ 1000000) : n * b ≤ roomB :=
  Nat.le_trans (Nat.mul_le_mul h hb) (by show 1000000 * 1000000 ≤ 1099511627776; omega)

theorem vC_at {l : List V} {k : Nat} {x : V} (h : l[k]? = some x) : (vC l)[k]? = some (valC x) := by
  rw [vC, List.getElem?_map, h]; rfl

theorem get_drop {α : Type} {l : List α} {k : Nat} (h : k < l.length) : ∃ x, l[k]? = some x ∧ l.drop k = x :: l.drop (k + 1) ∧ x ∈ l :=
  ⟨l[k], List.getElem?_eq_getElem h, List.drop_eq_getElem_cons h, List.getElem_mem h⟩

def rowsCmp : List V → List V → Int
  | [], [] => 0
  | [], _ :: _ => -1
  | _ :: _, [] => 1
  | x :: xs, y :: ys => if valCmp x y = 0 then rowsCmp xs ys else valCmp x y

end Go.AW

namespace Go.AW
variable [Draws]
attribute [local irreducible] ACalls
def or64 (a b : Int) : Int := IntKind.i64.wrap (BitVec.ofInt IntKind.i64.bits a ||| BitVec.ofInt IntKind.i64.bits b).toNat

theorem or64_add (m y : Int) (k : Nat) (hm : 0 ≤ m) (hy : 0 ≤ y) (hyk : y < 2 ^ k) (hb : m * 2 ^ k + y < 2 ^ 62) : or64 (m * 2 ^ k) y = m * 2 ^ k + y := by
  obtain ⟨m, rfl⟩ := Int.eq_ofNat_of_zero_le hm
  obtain ⟨y, rfl⟩ := Int.eq_ofNat_of_zero_le hy
  have hyk' : y < 2 ^ k := by exact_mod_cast hyk
  have hb' : m * 2 ^ k + y < 2 ^ 62 := by exact_mod_cast hb
  show IntKind.i64.wrap ((BitVec.ofInt 64 ((m : Int) * 2 ^ k) ||| BitVec.ofInt 64 (y : Int)).toNat : Int) = _
  have e1 : ((m : Int) * 2 ^ k) = ((m * 2 ^ k : Nat) : Int) := by simp
  rw [e1, BitVec.ofInt_natCast, BitVec.ofInt_natCast, BitVec.toNat_or, BitVec.toNat_ofNat, BitVec.toNat_ofNat, Nat.mod_eq_of_lt (by omega), Nat.mod_eq_of_lt (by omega)]
  have h := Nat.shiftLeft_add_eq_or_of_lt hyk' m
  rw [Nat.shiftLeft_eq] at h
  rw [← h, wrapI _ (by omega) (by omega)]
  simp

def Byt (l : List Int) : Prop := ∀ x ∈ l, 0 ≤ x ∧ x ≤ 255

def num (l : List Int) : Int := l.foldl (fun n x => n * 256 + x) 0

theorem bC_at {l : List Int} {k : Nat} {x : Int} (h : l[k]? = some x) : (bC l)[k]? = some [.int .u8 x] := by
  rw [bC, List.getElem?_map, h]; rfl

set_option maxRecDepth 20000 in
theorem value_number_spec {P : Program} (F : F_value_number P) (ex : Bool) (l : List Int) (hl : l.length ≤ 6) (hby : Byt l) (H : List AObj) :
    ACalls P F.id [.list ex 1 (bC l)] H (fun r H' => r = .int .i64 (num l) ∧ H' = H) := by
  refine ACalls.pure rfl (acalls_of_body F.has ?_)
  conv => whnf
  refine ⟨fun n ρ H => ∃ (k : Nat) (acc : Int), k + n = l.length ∧ 0 ≤ acc ∧ acc < 256 ^ k ∧ (l.drop k).foldl (fun n x => n * 256 + x) acc = num l ∧ H = [] ∧
    Sv 19 [(3, .int .i64 acc), (6, .list ex 1 (bC l)), (7, .int .i64 l.length), (8, .int .i64 k)] ρ, l.length, [], ?_, ?_⟩
  · exact ⟨0, 0, by omega, by omega, by omega, rfl, rfl, Sv.intro rfl ⟨rfl, rfl, intEq (by rw [bC_length]), rfl, trivial⟩⟩
  rintro n ρ H ⟨k, acc, hk, h0, h1, hr, rfl, d, rfl⟩
  (conv => whnf); refine recA (fun hlt => ?_) (fun hlt => ?_)
  · simp at hlt
    obtain ⟨x, hx, hd, hmem⟩ := get_drop hlt
    have hxb := hby x hmem
    conv => whnf
    refine ⟨by omega, ?_⟩
    (conv => whnf); refine recO (bC_at hx) ?_
    (conv => whnf); refine ⟨by decide, ?_⟩
    conv => whnf
    have hp : (256 : Int) ^ k ≤ 256 ^ 5 := by
      have : (256 : Nat) ^ k ≤ 256 ^ 5 := Nat.pow_le_pow_right (by omega) (by omega)
      exact_mod_cast this
    have hp2 : (256 : Int) ^ (k + 1) = 256 ^ k * 256 := Int.pow_succ ..
    refine ⟨n - 1, by omega, Gp.keep rfl ?_ fun ρ1 h => ⟨k + 1, acc * 256 + x, by omega, by omega, by omega, ?_, rfl, h⟩⟩
    · refine ⟨intEq ?_, rfl, rfl, intEq (wrapI ((k : Int) + 1) (by omega) (by omega)), trivial⟩
      show or64 (IntKind.i64.wrap (acc * 2 ^ 8)) (IntKind.i64.wrap x) = _
      rw [wrapI _ (by omega) (by omega), wrapI x (by omega) (by omega), or64_add acc x 8 h0 hxb.1 (by omega) (by omega)]
      omega
    · rw [← hr, hd]; rfl
  · simp at hlt
    conv => whnf
    rw [List.drop_eq_nil_of_le hlt] at hr
    exact pubI hr

def strOf (l : List Int) : ByteArray := ⟨(l.map fun n => UInt8.ofNat n.toNat).toArray⟩

theorem bytesOf_bC : ∀ (l : List Int), bytesOf (bC l) = some (l.map fun n => UInt8.ofNat n.toNat)
  | [] => rfl
  | x :: l => by
    show (bytesOf (bC l)).map (UInt8.ofNat x.toNat :: ·) = _
    rw [bytesOf_bC l]; rfl

theorem bC_drop (l : List Int) (k : Nat) : (bC l).drop k = bC (l.drop k) := by simp [bC, List.map_drop]

theorem bC_take (l : List Int) (k : Nat) : (bC l).take k = bC (l.take k) := by simp [bC, List.map_take]

def decW (l : List Int) (k n : Int) : V × Int :=
  if l.length = 0 then (⟨0, 0, bs []⟩, 0)
  else if k = 0 then (⟨0, 0, bs []⟩, 1)
  else if k = 1 ∧ 2 ≤ l.length then (⟨1, n, bs []⟩, 2)
  else if k = 2 ∧ 5 ≤ l.length then (⟨2, num ((l.take 5).drop 1) - 1073741824, bs []⟩, 5)
  else if k = 4 ∧ 5 ≤ l.length then (⟨4, num ((l.take 5).drop 1), bs []⟩, 5)
  else if k = 3 ∧ 2 ≤ l.length ∧ 2 + n ≤ l.length then (⟨3, 0, strOf ((l.take (2 + n).toNat).drop 2)⟩, 2 + n)
  else (⟨0, 0, bs []⟩, 0)

def decV (l : List Int) : V × Int := decW l (l.getD 0 0) (l.getD 1 0)

theorem decW_0 {l : List Int} {n : Int} (h : 1 ≤ l.length) : decW l 0 n = (⟨0, 0, bs []⟩, 1) := by
  unfold decW; rw [if_neg (by omega), if_pos (Eq.refl (0 : Int))]

theorem decW_1 {l : List Int} {n : Int} (h : 2 ≤ l.length) : decW l 1 n = (⟨1, n, bs []⟩, 2) := by
  unfold decW; rw [if_neg (by omega), if_neg (by omega), if_pos ⟨Eq.refl (1 : Int), h⟩]

theorem decW_2 {l : List Int} {n : Int} (h : 5 ≤ l.length) : decW l 2 n = (⟨2, num ((l.take 5).drop 1) - 1073741824, bs []⟩, 5) := by
  unfold decW; rw [if_neg (by omega), if_neg (by omega), if_neg (by omega), if_pos ⟨Eq.refl (2 : Int), h⟩]

theorem decW_4 {l : List Int} {n : Int} (h : 5 ≤ l.length) : decW l 4 n = (⟨4, num ((l.take 5).drop 1), bs []⟩, 5) := by
  unfold decW; rw [if_neg (by omega), if_neg (by omega), if_neg (by omega), if_neg (by omega), if_pos ⟨Eq.refl (4 : Int), h⟩]

theorem decW_3 {l : List Int} {n : Int} (h : 2 ≤ l.length) (h2 : 2 + n ≤ l.length) : decW l 3 n = (⟨3, 0, strOf ((l.take (2 + n).toNat).drop 2)⟩, 2 + n) := by
  unfold decW; rw [if_neg (by omega), if_neg (by omega), if_neg (by omega), if_neg (by omega), if_neg (by omega), if_pos ⟨Eq.refl (3 : Int), h, h2⟩]

theorem decW_no {l : List Int} {k n : Int} (h0 : k ≠ 0) (h1 : ¬ (k = 1 ∧ 2 ≤ l.length)) (h2 : ¬ (k = 2 ∧ 5 ≤ l.length)) (h4 : ¬ (k = 4 ∧ 5 ≤ l.length)) (h3 : ¬ (k = 3 ∧ 2 ≤ l.length ∧ 2 + n ≤ l.length)) : decW l k n = (⟨0, 0, bs []⟩, 0) := by
  unfold decW
  by_cases h : l.length = 0
  · rw [if_pos h]
  · rw [if_neg h, if_neg h0, if_neg h1, if_neg h2, if_neg h4, if_neg h3]

theorem getD_of {l : List Int} {k : Nat} {x : Int} (h : l[k]? = some x) : l.getD k 0 = x := by rw [List.getD_eq_getElem?_getD, h]; rfl

theorem num_bound (l : List Int) (hby : Byt l) (hl : l.length ≤ 4) : 0 ≤ num l ∧ num l ≤ 4294967295 := by
  match l, hl, hby with
  | [], _, _ => decide
  | [a], _, h => have := h a (by simp); simp [num]; omega
  | [a, b], _, h => have := h a (by simp); have := h b (by simp); simp [num]; omega
  | [a, b, c], _, h => have := h a (by simp); have := h b (by simp); have := h c (by simp); simp [num]; omega
  | [a, b, c, d], _, h => have := h a (by simp); have := h b (by simp); have := h c (by simp); have := h d (by simp); simp [num]; omega

theorem Byt.sub {l m : List Int} (h : Byt l) (hm : ∀ x ∈ m, x ∈ l) : Byt m := fun x hx => h x (hm x hx)

theorem Byt.drop {l : List Int} (h : Byt l) (k : Nat) : Byt (l.drop k) := h.sub fun _ hx => List.mem_of_mem_drop hx

theorem Byt.take {l : List Int} (h : Byt l) (k : Nat) : Byt (l.take k) := h.sub fun _ hx => List.mem_of_mem_take hx

theorem pubDec {H1 : List AObj} {m : Nat} {ids : List Nat} {v : V} {n : Int} {l : List Int} {a b c : AVal} {e : AVal} (h : decV l = (v, n)) (ha : [a, b, c] = valC v) (he : e = .int .i64 n) :
    Pub H1 m ids (.tuple [.agg [a, b, c], e]) (.tuple [.agg (valC (decV l).1), .int .i64 (decV l).2]) := by
  rw [h, he, ha]
  exact pub2 (.closed _ rfl) (.closed _ rfl)

set_option maxRecDepth 20000 in
theorem value_decode_spec {P : Program} (F : F_value_decode P) (ex : Bool) (l : List Int) (hby : Byt l) (hl : l.length ≤ 1000000) (H : List AObj) :
    ACalls P F.id [.list ex 1 (bC l)] H (fun r H' => r = .tuple [.agg (valC (decV l).1), .int .i64 (decV l).2] ∧ H' = H) := by
  refine ACalls.pure rfl (acalls_of_body F.has ?_)
  (conv => whnf); refine recA (fun h0 => ?_) (fun h0 => ?_)
  · simp [bC_length] at h0
    subst h0
    conv => whnf
    exact pubDec (v := ⟨0, 0, bs []⟩) (n := 0) rfl rfl rfl
  simp [bC_length] at h0
  have hpos := List.length_pos_iff.2 h0
  obtain ⟨k, hk, -, hkm⟩ := get_drop hpos
  have hkb := hby k hkm
  have ek : IntKind.i64.wrap k = k := wrapI k (by omega) (by omega)
  have gk := getD_of hk
  have hne : ¬ l.length = 0 := by omega
  conv => whnf
  refine And.intro (by decide) ?_
  (conv => whnf); refine recO (bC_at hk) ?_
  (conv => whnf); refine recA (fun h1 => ?_) (fun h1 => ?_)
  · simp [ek] at h1
    subst h1
    conv => whnf
    exact pubDec (v := ⟨0, 0, bs []⟩) (n := 1) (by rw [decV, gk]; exact decW_0 (by omega)) rfl rfl
  simp [ek] at h1
  (conv => whnf); refine recA (fun h2 => ?_) (fun h2 => ?_)
  · simp [ek] at h2
    subst h2
    (conv => whnf); refine recA (fun h3 => ?_) (fun h3 => ?_)
    · simp [bC_length] at h3
      obtain ⟨n, hn, -, hnm⟩ := get_drop (show 1 < l.length by omega)
      have hnb := hby n hnm
      conv => whnf
      refine And.intro (by decide) ?_
      (conv => whnf); refine recO (bC_at hn) ?_
      conv => whnf
      exact pubDec (v := ⟨1, n, bs []⟩) (n := 2) (by rw [decV, gk, getD_of hn]; exact decW_1 (by omega)) (by rw [wrapI n (by omega) (by omega)]; rfl) rfl
    · simp [bC_length] at h3
      conv => whnf
      exact pubDec (v := ⟨0, 0, bs []⟩) (n := 0) (by rw [decV, gk]; exact decW_no (by omega) (by omega) (by omega) (by omega) (by omega)) rfl rfl
  simp [ek] at h2
  (conv => whnf); refine recA (fun h4 => ?_) (fun h4 => ?_)
  · simp [ek] at h4
    subst h4
    (conv => whnf); refine recA (fun h3 => ?_) (fun h3 => ?_)
    · simp [bC_length] at h3
      have hb := num_bound ((l.take 5).drop 1) ((hby.take 5).drop 1) (by simp; omega)
      conv => whnf
      refine And.intro ⟨by decide, by decide, by simp [bC_length]; omega⟩ ?_
      conv => whnf
      refine ACalls.use (show ACalls _ _ [.list (ex && false) 1 (((bC l).take 5).drop 1)] _ _ from by rw [bC_take, bC_drop]; exact value_number_spec F.value_number _ _ (by simp; omega) ((hby.take 5).drop 1) _) ?_
      conv => whnf
      exact pubDec (v := ⟨2, num ((l.take 5).drop 1) - 1073741824, bs []⟩) (n := 5) (by rw [decV, gk]; exact decW_2 (by omega)) (by rw [wrapI (num ((l.take 5).drop 1) - 1073741824) (by omega) (by omega)]; rfl) rfl
    · simp [bC_length] at h3
      conv => whnf
      exact pubDec (v := ⟨0, 0, bs []⟩) (n := 0) (by rw [decV, gk]; exact decW_no (by omega) (by omega) (by omega) (by omega) (by omega)) rfl rfl
  simp [ek] at h4
  (conv => whnf); refine recA (fun h5 => ?_) (fun h5 => ?_)
  · simp [ek] at h5
    subst h5
    (conv => whnf); refine recA (fun h3 => ?_) (fun h3 => ?_)
    · simp [bC_length] at h3
      have hb := num_bound ((l.take 5).drop 1) ((hby.take 5).drop 1) (by simp; omega)
      conv => whnf
      refine And.intro ⟨by decide, by decide, by simp [bC_length]; omega⟩ ?_
      conv => whnf
      refine ACalls.use (show ACalls _ _ [.list (ex && false) 1 (((bC l).take 5).drop 1)] _ _ from by rw [bC_take, bC_drop]; exact value_number_spec F.value_number _ _ (by simp; omega) ((hby.take 5).drop 1) _) ?_
      conv => whnf
      exact pubDec (v := ⟨4, num ((l.take 5).drop 1), bs []⟩) (n := 5) (by rw [decV, gk]; exact decW_4 (by omega)) rfl rfl
    · simp [bC_length] at h3
      conv => whnf
      exact pubDec (v := ⟨0, 0, bs []⟩) (n := 0) (by rw [decV, gk]; exact decW_no (by omega) (by omega) (by omega) (by omega) (by omega)) rfl rfl
  simp [ek] at h5
  (conv => whnf); refine recA (fun h6 => ?_) (fun h6 => ?_)
  · simp [ek] at h6
    subst h6
    (conv => whnf); refine recA (fun h3 => ?_) (fun h3 => ?_)
    · simp [bC_length] at h3
      obtain ⟨n, hn, -, hnm⟩ := get_drop (show 1 < l.length by omega)
      have hnb := hby n hnm
      have en : IntKind.i64.wrap n = n := wrapI n (by omega) (by omega)
      have en2 : IntKind.i64.wrap (2 + n) = 2 + n := wrapI (2 + n) (by omega) (by omega)
      conv => whnf
      refine And.intro (by decide) ?_
      (conv => whnf); refine recO (bC_at hn) ?_
      (conv => whnf); refine recA (fun h7 => ?_) (fun h7 => ?_)
      · simp [bC_length, en, en2] at h7
        conv => whnf
        refine And.intro (by decide) ?_
        (conv => whnf); refine recO (bC_at hn) ?_
        conv => whnf
        refine And.intro ⟨by decide, by rw [en, en2]; omega, by rw [en, en2, bC_length]; omega⟩ ?_
        conv => whnf
        refine ⟨_, show bytesOf (((bC l).take (IntKind.i64.wrap (2 + IntKind.i64.wrap n)).toNat).drop 2) = _ from by rw [bC_take, bC_drop]; exact bytesOf_bC _, ?_⟩
        conv => whnf
        refine And.intro (by decide) ?_
        (conv => whnf); refine recO (bC_at hn) ?_
        conv => whnf
        refine And.intro (by (conv => whnf)) ?_
        conv => whnf
        refine And.intro (by (conv => whnf); refine And.intro (by decide) ?_; (conv => whnf); refine recO (bC_at hn) ?_; rfl) ?_
        conv => whnf
        exact pubDec (v := ⟨3, 0, strOf ((l.take (2 + n).toNat).drop 2)⟩) (n := 2 + n) (by rw [decV, gk, getD_of hn]; exact decW_3 (by omega) (by omega)) (by rw [en, en2]; rfl) (intEq (by rw [en, en2]))
      · simp [bC_length, en, en2] at h7
        conv => whnf
        exact pubDec (v := ⟨0, 0, bs []⟩) (n := 0) (by rw [decV, gk, getD_of hn]; exact decW_no (by omega) (by omega) (by omega) (by omega) (by omega)) rfl rfl
    · simp [bC_length] at h3
      conv => whnf
      exact pubDec (v := ⟨0, 0, bs []⟩) (n := 0) (by rw [decV, gk]; exact decW_no (by omega) (by omega) (by omega) (by omega) (by omega)) rfl rfl
  simp [ek] at h6
  conv => whnf
  exact pubDec (v := ⟨0, 0, bs []⟩) (n := 0) (by rw [decV, gk]; exact decW_no (by omega) (by omega) (by omega) (by omega) (by omega)) rfl rfl

theorem decW_used (l : List Int) (k n : Int) (hn : 0 ≤ n) : 0 ≤ (decW l k n).2 ∧ (decW l k n).2 ≤ l.length := by
  unfold decW
  split
  · simp
  split
  · simp; omega
  split
  · simp; omega
  split
  · simp; omega
  split
  · simp; omega
  split
  · simp; omega
  · simp

theorem decV_used (l : List Int) (hby : Byt l) : 0 ≤ (decV l).2 ∧ (decV l).2 ≤ l.length := by
  refine decW_used l _ _ ?_
  rw [List.getD_eq_getElem?_getD]
  cases h : l[1]? with
  | none => simp
  | some x => exact (hby x (List.mem_of_getElem? h)).1

def decN : Nat → List Int → Option (List V × List Int)
  | 0, l => some ([], l)
  | n + 1, l => if (decV l).2 = 0 ∨ validB (decV l).1 = false then none else match decN n (l.drop (decV l).2.toNat) with
    | some (rs, r) => some ((decV l).1 :: rs, r)
    | none => none

theorem decN_succ (n : Nat) (l : List Int) : decN (n + 1) l = if (decV l).2 = 0 ∨ validB (decV l).1 = false then none else match decN n (l.drop (decV l).2.toNat) with
    | some (rs, r) => some ((decV l).1 :: rs, r)
    | none => none := rfl

def decErr : AVal := .tuple [.nil, .int .i64 11]

def decR (l : List Int) : AVal :=
  if l.length = 0 ∨ 12 < l.getD 0 0 then decErr else match decN (l.getD 0 0).toNat (l.drop 1) with
    | some (rs, []) => .tuple [.list false 3 (vC rs), .int .i64 0]
    | _ => decErr

theorem pubErr {H1 : List AObj} {m : Nat} {ids : List Nat} {a : AVal} (h : a = decErr) : Pub H1 m ids (.tuple [.nil, .int .i64 11]) a := by
  subst h; exact pub2 (.closed _ rfl) (.closed _ rfl)

set_option maxRecDepth 20000 in
theorem value_Decode_spec {P : Program} (F : F_value_Decode P) (ex : Bool) (l : List Int) (hby : Byt l) (hl : l.length ≤ 1000000) (H : List AObj) :
    ACalls P F.id [.list ex 1 (bC l)] H (fun r H' => r = decR l ∧ H' = H) := by
  refine ACalls.pure rfl (acalls_of_body F.has ?_)
  (conv => whnf); refine recA (fun h0 => ?_) (fun h0 => ?_)
  · simp [bC_length] at h0
    conv => whnf
    exact pubErr (by rw [decR, if_pos (.inl (by simp [h0]))])
  simp [bC_length] at h0
  have hpos := List.length_pos_iff.2 h0
  obtain ⟨n, hn, hd0, hnm⟩ := get_drop hpos
  rw [List.drop_zero] at hd0
  have hnb := hby n hnm
  have gn := getD_of hn
  conv => whnf
  refine And.intro (by decide) ?_
  (conv => whnf); refine recO (bC_at hn) ?_
  (conv => whnf); refine recA (fun h1 => ?_) (fun h1 => ?_)
  · simp at h1
    conv => whnf
    exact pubErr (by rw [decR, gn, if_pos (.inr h1)])
  simp at h1
  conv => whnf
  refine And.intro (by decide) ?_
  (conv => whnf); refine recO (bC_at hn) ?_
  conv => whnf
  refine And.intro ⟨by decide, by rw [bC_length]; omega⟩ ?_
  conv => whnf
  have hR : decR l = match decN n.toNat (l.drop 1) with
      | some (rs, []) => .tuple [.list false 3 (vC rs), .int .i64 0]
      | _ => decErr := by rw [decR, gn, if_neg (by omega)]
  refine ⟨fun m ρ H => ∃ (k : Nat) (rs : List V) (r : List Int) (x : Bool), k + m = n.toNat ∧ rs.length = k ∧ Byt r ∧ r.length ≤ l.length ∧
    (decN n.toNat (l.drop 1) = match decN m r with | some (rs2, r2) => some (rs ++ rs2, r2) | none => none) ∧ H = [.arr 3 (vC rs)] ∧
    Sv 50 [(0, .list x 1 (bC r)), (5, .sl 0 k 0 k), (23, .int .i64 n), (24, .int .i64 k)] ρ, n.toNat, [(5, 3)], ?_, ?_⟩
  · refine ⟨0, [], l.drop 1, ex && true, by omega, rfl, hby.drop 1, by simp, ?_, by rfl, Sv.intro rfl ⟨?_, rfl, intEq (wrapI n (by omega) (by omega)), rfl, trivial⟩⟩
    · cases decN n.toNat (l.drop 1) with
      | none => rfl
      | some p => rfl
    · show AVal.list (ex && true) 1 (((bC l).take (bC l).length).drop (Int.toNat 1)) = _
      rw [List.take_length, show Int.toNat 1 = 1 from rfl, bC_drop]
  rintro m ρ H ⟨k, rs, r, x, hk, hrs, hrb, hrl, hdec, rfl, d, rfl⟩
  (conv => whnf); refine recA (fun hlt => ?_) (fun hlt => ?_)
  · simp at hlt
    obtain ⟨m, rfl⟩ : ∃ j, m = j + 1 := ⟨m - 1, by omega⟩
    conv => whnf
    refine ACalls.use (value_decode_spec F.value_decode x r hrb (by omega) _) ?_
    have hu := decV_used r hrb
    (conv => whnf); refine recA (fun h2 => ?_) (fun h2 => ?_)
    · simp at h2
      conv => whnf
      rw [decN_succ, if_pos (.inl h2)] at hdec
      exact pubErr (by rw [hR, hdec])
    simp at h2
    conv => whnf
    refine ACalls.use (value_Valid_spec F.value_Valid (decV r).1 _) ?_
    (conv => whnf); refine recA (fun h3 => ?_) (fun h3 => ?_)
    · simp at h3
      conv => whnf
      rw [decN_succ, if_pos (.inr h3)] at hdec
      exact pubErr (by rw [hR, hdec])
    simp at h3
    rw [decN_succ, if_neg (by simp [h2, h3])] at hdec
    (conv => whnf); refine recT (by simp [vC_length, hrs]) ?_
    conv => whnf
    refine And.intro ⟨roomMul (by simp; omega) (by omega), roomB_le (by simp; omega), rfl, by simp [vC_length, hrs]⟩ ?_
    conv => whnf
    refine And.intro ⟨hu.1, by rw [bC_length]; omega⟩ ?_
    conv => whnf
    refine And.intro (by (conv => whnf); refine And.intro ⟨hu.1, by rw [bC_length]; omega⟩ ?_; (conv => whnf)) ?_
    conv => whnf
    have hkey : vC (rs ++ [(decV r).1]) = vC rs ++ [valC (decV r).1] := by rw [vC_append]; rfl
    have hlen : (vC rs ++ [valC (decV r).1]).length = k + 1 := by simp [vC_length, hrs]
    refine ⟨m, by omega, Gp.one 0 3 (vC (rs ++ [(decV r).1])) ?_ (pureEs_vC _) rfl ?_ fun ρ1 h => ⟨k + 1, rs ++ [(decV r).1], r.drop (decV r).2.toNat, x && true, by omega, by simp [hrs], hrb.drop _, by simp; omega, ?_, rfl, h⟩⟩
    · rw [hkey]; rfl
    · refine ⟨pubEq ?_ rfl, pubSl (k := 0) rfl rfl hlen hlen, .closed _ rfl, pub_int (wrapI ((k : Int) + 1) (by omega) (by omega)), trivial⟩
      show AVal.list (x && true) 1 (((bC r).take (bC r).length).drop (decV r).2.toNat) = _
      rw [List.take_length, bC_drop]
    · rw [hdec]
      cases decN m (r.drop (decV r).2.toNat) with
      | none => rfl
      | some p => simp
  · simp at hlt
    have : m = 0 := by omega
    subst this
    (conv => whnf); refine recA (fun h2 => ?_) (fun h2 => ?_)
    · simp [bC_length] at h2
      conv => whnf
      refine pubErr ?_
      rw [hR, hdec]
      match r, h2 with
      | _ :: _, _ => rfl
    · simp [bC_length] at h2
      conv => whnf
      rw [hR, hdec]
      have : r = [] := h2
      subst this
      simp only [decN, List.append_nil]
      exact pub2 (pubF rfl (by rw [vC_length, hrs]) (by rw [vC_length, hrs]) (pureEs_vC _)) (.closed _ rfl)

end Go.AW

namespace Go.AW
variable [Draws]
attribute [local irreducible] ACalls
theorem bl_irrefl : ∀ (a : List UInt8), Op.bytesLess a a = false
  | [] => rfl
  | x :: a => by simp [Op.bytesLess, bl_irrefl a]

theorem bl_tri : ∀ (a b : List UInt8), Op.bytesLess a b = true ∨ a = b ∨ Op.bytesLess b a = true
  | [], [] => .inr (.inl rfl)
  | [], _ :: _ => .inl rfl
  | _ :: _, [] => .inr (.inr rfl)
  | x :: a, y :: b => by
    simp only [Op.bytesLess, Bool.or_eq_true, decide_eq_true_eq, Bool.and_eq_true, beq_iff_eq, List.cons.injEq]
    rcases (show x < y ∨ x = y ∨ y < x from by rcases Nat.lt_trichotomy x.toNat y.toNat with h | h | h; exact .inl h; exact .inr (.inl (UInt8.toNat_inj.1 h)); exact .inr (.inr h)) with h | h | h
    · exact .inl (.inl h)
    · subst h
      rcases bl_tri a b with h | h | h
      · exact .inl (.inr ⟨rfl, h⟩)
      · exact .inr (.inl ⟨rfl, h⟩)
      · exact .inr (.inr (.inr ⟨rfl, h⟩))
    · exact .inr (.inr (.inl h))

theorem bl_trans : ∀ (a b c : List UInt8), Op.bytesLess a b = true → Op.bytesLess b c = true → Op.bytesLess a c = true
  | _, [], _, h, _ => by cases ‹List UInt8› <;> simp [Op.bytesLess] at h
  | _, _ :: _, [], _, h => by simp [Op.bytesLess] at h
  | [], _ :: _, _ :: _, _, _ => rfl
  | x :: a, y :: b, z :: c, h1, h2 => by
    simp only [Op.bytesLess, Bool.or_eq_true, decide_eq_true_eq, Bool.and_eq_true, beq_iff_eq] at *
    rcases h1 with h1 | ⟨rfl, h1⟩
    · rcases h2 with h2 | ⟨rfl, h2⟩
      · exact .inl (UInt8.lt_trans h1 h2)
      · exact .inl h1
    · rcases h2 with h2 | ⟨rfl, h2⟩
      · exact .inl h2
      · exact .inr ⟨rfl, bl_trans a b c h1 h2⟩

structure IsCmp {α : Type} (c : α → α → Int) : Prop where
  vals : ∀ a b, c a b = -1 ∨ c a b = 0 ∨ c a b = 1
  anti : ∀ a b, c b a = - c a b
  zero : ∀ a b, c a b = 0 ↔ a = b
  trans : ∀ a b d, c a b < 0 → c b d < 0 → c a d < 0

theorem IsCmp.ltle {α : Type} {c : α → α → Int} (h : IsCmp c) {a b d : α} (h1 : c a b < 0) (h2 : c b d ≤ 0) : c a d < 0 := by
  by_cases e : c b d = 0
  · rw [← (h.zero b d).1 e]; exact h1
  · exact h.trans a b d h1 (by omega)

theorem IsCmp.le {α : Type} {c : α → α → Int} (h : IsCmp c) {a b d : α} (h1 : c a b ≤ 0) (h2 : c b d ≤ 0) : c a d ≤ 0 := by
  by_cases e : c a b = 0
  · rw [(h.zero a b).1 e]; exact h2
  · have := h.ltle (a := a) (by omega) h2; omega

theorem isCmp_int : IsCmp cmpI := by
  refine ⟨fun a b => ?_, fun a b => ?_, fun a b => ?_, fun a b d => ?_⟩ <;> unfold cmpI <;> (repeat' split) <;> omega

theorem isCmp_str : IsCmp cmpS := by
  have asym : ∀ a b, Op.bytesLess a b = true → Op.bytesLess b a = true → False := fun a b h1 h2 => by
    have := bl_trans a b a h1 h2
    rw [bl_irrefl] at this; cases this
  refine ⟨fun a b => ?_, fun a b => ?_, fun a b => ?_, fun a b d => ?_⟩
  · unfold cmpS; split
    · simp
    · split <;> simp
  · unfold cmpS
    rcases bl_tri a b with h | h | h
    · have hb : Op.bytesLess b a = false := by cases hb : Op.bytesLess b a with | false => rfl | true => exact (asym a b h hb).elim
      have hne : ¬ b = a := by rintro rfl; rw [bl_irrefl] at h; cases h
      simp [h, hb, hne]
    · subst h; simp [bl_irrefl]
    · have hb : Op.bytesLess a b = false := by cases hb : Op.bytesLess a b with | false => rfl | true => exact (asym a b hb h).elim
      have hne : ¬ a = b := by rintro rfl; rw [bl_irrefl] at h; cases h
      simp [h, hb, hne]
  · unfold cmpS
    split
    · rename_i h
      refine ⟨fun h => by omega, ?_⟩
      rintro rfl
      rw [bl_irrefl] at h; cases h
    · split <;> simp [*]
  · unfold cmpS
    intro h1 h2
    have e1 : Op.bytesLess a b = true := by
      revert h1
      split
      · intro _; assumption
      · split <;> intro h <;> omega
    have e2 : Op.bytesLess b d = true := by
      revert h2
      split
      · intro _; assumption
      · split <;> intro h <;> omega
    rw [if_pos (bl_trans a b d e1 e2)]; omega

theorem isCmp_val : IsCmp valCmp := by
  have I := isCmp_int
  have S := isCmp_str
  refine ⟨fun a b => ?_, fun a b => ?_, fun a b => ?_, fun a b d => ?_⟩
  · have := I.vals a.kind b.kind; have := I.vals a.num b.num; have := S.vals a.str.data.toList b.str.data.toList
    simp only [valCmp, orI]; (repeat' split) <;> omega
  · have := I.anti a.kind b.kind; have := I.anti a.num b.num; have := S.anti a.str.data.toList b.str.data.toList
    simp only [valCmp, orI]; (repeat' split) <;> omega
  · have h1 := I.zero a.kind b.kind; have h2 := I.zero a.num b.num; have h3 := S.zero a.str.data.toList b.str.data.toList
    constructor
    · intro h
      simp only [valCmp, orI] at h
      have e1 : cmpI a.kind b.kind = 0 := by revert h; (repeat' split) <;> omega
      have e2 : cmpI a.num b.num = 0 := by revert h; (repeat' split) <;> omega
      have e3 : cmpS a.str.data.toList b.str.data.toList = 0 := by revert h; (repeat' split) <;> omega
      obtain ⟨ak, an, ⟨⟨asv⟩⟩⟩ := a
      obtain ⟨bk, bn, ⟨⟨bl⟩⟩⟩ := b
      have q1 := h1.1 e1; have q2 := h2.1 e2; have q3 := h3.1 e3
      simp only at q1 q2 q3
      subst q1 q2 q3; rfl
    · rintro rfl
      simp only [valCmp, orI]
      rw [if_pos (h1.2 rfl), if_pos (h2.2 rfl), if_pos (h3.2 rfl)]
  · intro h1 h2
    have a1 := I.trans a.kind b.kind d.kind; have a2 := I.trans a.num b.num d.num; have a3 := S.trans a.str.data.toList b.str.data.toList d.str.data.toList
    have v1 := I.vals a.kind b.kind; have v2 := I.vals b.kind d.kind; have v3 := I.vals a.num b.num; have v4 := I.vals b.num d.num
    have z1 := I.zero a.kind b.kind; have z2 := I.zero b.kind d.kind; have z3 := I.zero a.num b.num; have z4 := I.zero b.num d.num
    have z5 := I.zero a.kind d.kind; have z6 := I.zero a.num d.num
    simp only [valCmp, orI] at *
    by_cases k1 : a.kind = b.kind <;> by_cases k2 : b.kind = d.kind <;> by_cases n1 : a.num = b.num <;> by_cases n2 : b.num = d.num <;> simp_all <;> (repeat' split) <;> omega

end Go.AW

namespace Go.AW
variable [Draws]
attribute [local irreducible] ACalls
def letterB (b : UInt8) : Bool := decide (97 ≤ b.toNat ∧ b.toNat ≤ 122)

def restB (b : UInt8) : Bool := decide (97 ≤ b.toNat ∧ b.toNat ≤ 122 ∨ 48 ≤ b.toNat ∧ b.toNat ≤ 57 ∨ b.toNat = 95)

def nameL : List UInt8 → Bool
  | [] => false
  | b :: r => letterB b && r.all restB

def nameB (s : ByteArray) : Bool := decide (s.size ≤ 24) && nameL s.data.toList

theorem get!_of {s : ByteArray} {p : Nat} {b : UInt8} (h : s.data.toList[p]? = some b) : s.get! p = b := by
  obtain ⟨⟨l⟩⟩ := s
  simp at h
  simp [ByteArray.get!, h]

theorem decode_ascii {s : ByteArray} {p : Nat} {b : UInt8} (h : s.data.toList[p]? = some b) (hb : b.toNat < 128) : Utf8.decode s p = (b.toNat, 1) := by
  unfold Utf8.decode
  simp only [Nat.add_zero, get!_of h]
  rw [if_pos hb]

theorem decode_big {s : ByteArray} {p : Nat} {b : UInt8} (h : s.data.toList[p]? = some b) (hb : ¬ b.toNat < 128) : 128 ≤ (Utf8.decode s p).1 := by
  unfold Utf8.decode
  simp only [Nat.add_zero, get!_of h]
  rw [if_neg hb]
  (repeat' split) <;> simp only [Utf8.runeError, Bool.and_eq_true, decide_eq_true_eq] at * <;> omega

theorem str_get {s : ByteArray} {p : Nat} (h : p < s.size) : ∃ b, s.data.toList[p]? = some b ∧ s.data.toList.drop p = b :: s.data.toList.drop (p + 1) := by
  have hl : p < s.data.toList.length := by simpa using h
  exact ⟨_, List.getElem?_eq_getElem hl, List.drop_eq_getElem_cons hl⟩

set_option maxRecDepth 20000 in
theorem schema_IsName_spec {P : Program} (F : F_schema_IsName P) (s : ByteArray) (H : List AObj) :
    ACalls P F.id [.str s] H (fun r H' => r = .bool (nameB s) ∧ H' = H) := by
  refine ACalls.pure rfl (acalls_of_body F.has ?_)
  (conv => whnf); refine recA (fun h0 => ?_) (fun h0 => ?_)
  · simp at h0
    conv => whnf
    exact pubB (by simp [nameB]; omega)
  simp at h0
  conv => whnf
  refine ⟨fun m ρ H => ∃ p : Nat, p + m = s.size ∧ (0 < p → nameB s = (s.data.toList.drop p).all restB) ∧ H = [.iter s p] ∧ Sv 41 [(0, .str s), (10, .it 0)] ρ, s.size, [], ?_, ?_⟩
  · exact ⟨0, by omega, by omega, rfl, Sv.intro rfl ⟨rfl, rfl, trivial⟩⟩
  rintro m ρ H ⟨p, hp, hr, rfl, d, rfl⟩
  (conv => whnf); refine recA (fun hlt => ?_) (fun hlt => ?_)
  · simp at hlt
    obtain ⟨b, hb, hd⟩ := str_get hlt
    
    have h0n : p = 0 → nameB s = (letterB b && (s.data.toList.drop (p + 1)).all restB) := by
      rintro rfl
      rw [List.drop_zero] at hd
      have : nameL s.data.toList = (letterB b && (s.data.toList.drop (0 + 1)).all restB) := by
        conv => lhs; rw [hd]
        rfl
      rw [nameB, this, decide_eq_true (by omega), Bool.true_and]
    have hno : (if p = 0 then letterB b else restB b) = false → nameB s = false := by
      intro h
      by_cases h1 : p = 0
      · rw [if_pos h1] at h
        rw [h0n h1, h]; rfl
      · rw [if_neg h1] at h
        rw [hr (by omega), hd, List.all_cons, h]; rfl
    have hyes : (if p = 0 then letterB b else restB b) = true → nameB s = (s.data.toList.drop (p + 1)).all restB := by
      intro h
      by_cases h1 : p = 0
      · rw [if_pos h1] at h
        rw [h0n h1, h]; rfl
      · rw [if_neg h1] at h
        rw [hr (by omega), hd, List.all_cons, h]; rfl
    by_cases hb1 : b.toNat < 128
    · have hdec := decode_ascii hb hb1
      have e1 : ((Utf8.decode s p).1 : Int) = b.toNat := by rw [hdec]
      have e2 : p + (Utf8.decode s p).2 = p + 1 := by rw [hdec]
      repeat' ((conv => whnf); refine recA (fun h => ?_) (fun h => ?_))
      all_goals conv => whnf
      all_goals first
        | refine ⟨m - 1, by omega, Gp.keep rfl ?_ fun ρ1 h => ⟨p + 1, by omega, fun _ => hyes ?_, by rw [e2], h⟩⟩
        | refine pubB (hno ?_).symm
      all_goals first
        | exact ⟨rfl, rfl, trivial⟩
        | skip
      all_goals
        (simp only [e1] at *)
        clear hno hyes h0n hr hd
        by_cases hp0 : p = 0 <;> simp [letterB, restB, hp0] at * <;> omega
    · have hdec := decode_big hb hb1
      have hn1 : letterB b = false := by simp [letterB]; omega
      have hn2 : restB b = false := by simp [restB]; omega
      have hz : nameB s = false := hno (by split; exact hn1; exact hn2)
      repeat' ((conv => whnf); refine recA (fun h => ?_) (fun h => ?_))
      all_goals conv => whnf
      all_goals first
        | exact pubB hz.symm
        | (exfalso; simp at *; omega)
  · have hlt2 : ¬ p < s.size := of_decide_eq_false hlt
    have hl0 : s.data.toList.length = s.size := by simp
    conv => whnf
    refine pubB ?_
    show (!(s.data.toList == [])) = _
    by_cases h1 : p = 0
    · have : s.data.toList = [] := List.eq_nil_of_length_eq_zero (by omega)
      simp [nameB, this, nameL]
    · rw [hr (by omega), List.drop_eq_nil_of_le (by omega)]
      cases hs : s.data.toList with
      | nil => rw [hs] at hl0; simp at hl0; omega
      | cons b r => rfl

end Go.AW

namespace Go.AW
variable [Draws]
attribute [local irreducible] ACalls
open Go.Lib (indexByte)
theorem ib_cases : ∀ (l : List UInt8) (c : UInt8), indexByte l c = -1 ∨ ∃ i : Nat, indexByte l c = i ∧ i < l.length
  | [], _ => .inl rfl
  | b :: l, c => by
    simp only [indexByte]
    split
    · exact .inr ⟨0, rfl, by simp⟩
    · rcases ib_cases l c with h | ⟨i, h, hl⟩
      · rw [if_pos (by simp [h])]; exact .inl rfl
      · rw [if_neg (by simp [h]), h]; exact .inr ⟨i + 1, by omega, by simpa using hl⟩

def dotAt (s : ByteArray) : Int := indexByte s.data.toList 46

def qualB (s : ByteArray) : Bool :=
  if 0 ≤ dotAt s then nameB (s.extract 0 (dotAt s).toNat) && nameB (s.extract (dotAt s + 1).toNat s.size) else nameB s

theorem sliteIndexByte_spec {P : Program} (F : F_stringslite_IndexByte P) (s : ByteArray) (c : Int) (H : List AObj) :
    ACalls P F.id [.str s, .int .u8 c] H (fun r H' => r = .int .i64 (indexByte s.data.toList c.toNat.toUInt8) ∧ H' = H) := by
  refine ACalls.pure rfl (acalls_of_body F.has ?_)
  conv => whnf
  refine ACalls.use (indexByteString_spec F.bytealg_IndexByteString.has s c _) ?_
  conv => whnf
  exact .closed _ rfl

set_option maxRecDepth 20000 in
theorem sliteIndex_spec {P : Program} (F : F_stringslite_Index P) (s : ByteArray) (H : List AObj) :
    ACalls P F.id [.str s, .str (bs [46])] H (fun r H' => r = .int .i64 (dotAt s) ∧ H' = H) := by
  refine ACalls.pure rfl (acalls_of_body F.has ?_)
  (conv => whnf); refine recA (fun h => ?_) (fun h => ?_)
  · conv => whnf
    refine pubI ?_
    have h : (bs [46]).data.toList = s.data.toList := by simpa using h
    rw [dotAt, ← h]; rfl
  · conv => whnf
    refine And.intro (by decide) ?_
    conv => whnf
    refine ACalls.use (sliteIndexByte_spec F.stringslite_IndexByte s _ _) ?_
    conv => whnf
    exact pubI rfl

def cutR (s : ByteArray) : AVal :=
  if 0 ≤ dotAt s then .tuple [.str (s.extract 0 (dotAt s).toNat), .str (s.extract (dotAt s + 1).toNat s.size), .bool true] else .tuple [.str s, .str (bs []), .bool false]

theorem pub3 {H1 : List AObj} {n : Nat} {ids : List Nat} {a b c r s t : AVal} (h1 : Pub H1 n ids a r) (h2 : Pub H1 n ids b s) (h3 : Pub H1 n ids c t) : Pub H1 n ids (.tuple [a, b, c]) (.tuple [r, s, t]) := by
  refine .tuple _ _ rfl fun i v u h4 h5 => ?_
  rcases i with _ | _ | _ | i
  · cases h4; cases h5; exact h1
  · cases h4; cases h5; exact h2
  · cases h4; cases h5; exact h3
  · simp at h4

set_option maxRecDepth 20000 in
theorem sliteCut_spec {P : Program} (F : F_stringslite_Cut P) (s : ByteArray) (hs : s.size ≤ 1000000) (H : List AObj) :
    ACalls P F.id [.str s, .str (bs [46])] H (fun r H' => r = cutR s ∧ H' = H) := by
  refine ACalls.pure rfl (acalls_of_body F.has ?_)
  conv => whnf
  refine ACalls.use (sliteIndex_spec F.stringslite_Index s _) ?_
  have hl0 : s.data.toList.length = s.size := by simp
  have hc := ib_cases s.data.toList 46
  (conv => whnf); refine recA (fun h => ?_) (fun h => ?_)
  · have h : 0 ≤ dotAt s := of_decide_eq_true h
    have hlt : dotAt s < s.size := by
      rcases hc with h1 | ⟨i, h1, h2⟩
      · have : dotAt s = -1 := h1
        omega
      · have : dotAt s = i := h1
        omega
    have e1 : IntKind.i64.wrap (dotAt s + ((bs [46]).size : Nat)) = dotAt s + 1 := wrapI _ (by show -9223372036854775808 ≤ dotAt s + 1; omega) (by show dotAt s + 1 ≤ _; omega)
    conv => whnf
    refine And.intro (by omega) ?_
    conv => whnf
    refine And.intro (by rw [e1]; omega) ?_
    conv => whnf
    rw [cutR, if_pos h]
    refine pub3 (.closed _ rfl) (pubEq ?_ rfl) (.closed _ rfl)
    rw [e1]
  · have h : ¬ 0 ≤ dotAt s := of_decide_eq_false h
    conv => whnf
    rw [cutR, if_neg h]
    exact pub3 (.closed _ rfl) (.closed _ rfl) (.closed _ rfl)

set_option maxRecDepth 20000 in
theorem stringsCut_spec {P : Program} (F : F_strings_Cut P) (s : ByteArray) (hs : s.size ≤ 1000000) (H : List AObj) :
    ACalls P F.id [.str s, .str (bs [46])] H (fun r H' => r = cutR s ∧ H' = H) := by
  refine ACalls.pure rfl (acalls_of_body F.has ?_)
  conv => whnf
  refine ACalls.use (sliteCut_spec F.stringslite_Cut s hs _) ?_
  unfold cutR
  split
  all_goals
    conv => whnf
    exact pub3 (.closed _ rfl) (.closed _ rfl) (.closed _ rfl)

set_option maxRecDepth 20000 in
theorem schema_IsQualified_spec {P : Program} (F : F_schema_IsQualified P) (s : ByteArray) (hs : s.size ≤ 1000000) (H : List AObj) :
    ACalls P F.id [.str s] H (fun r H' => r = .bool (qualB s) ∧ H' = H) := by
  refine ACalls.pure rfl (acalls_of_body F.has ?_)
  conv => whnf
  refine ACalls.use (stringsCut_spec F.strings_Cut s hs _) ?_
  unfold cutR
  split
  · rename_i h
    conv => whnf
    refine ACalls.use (schema_IsName_spec F.schema_IsName _ _) ?_
    (conv => whnf); refine recA (fun h1 => ?_) (fun h1 => ?_)
    · conv => whnf
      refine ACalls.use (schema_IsName_spec F.schema_IsName _ _) ?_
      conv => whnf
      exact pubB (by rw [qualB, if_pos h, h1, Bool.true_and])
    · conv => whnf
      exact pubB (by rw [qualB, if_pos h, h1]; rfl)
  · rename_i h
    conv => whnf
    refine ACalls.use (schema_IsName_spec F.schema_IsName _ _) ?_
    (conv => whnf); refine recA (fun h1 => ?_) (fun h1 => ?_)
    · conv => whnf
      exact pubB (by rw [qualB, if_neg h, h1])
    · conv => whnf
      exact pubB (by rw [qualB, if_neg h, h1])

end Go.AW

namespace Go.AW
variable [Draws]
attribute [local irreducible] ACalls
structure Col where
  name : ByteArray
  kind : Int
  nul : Bool

def colC (c : Col) : List AVal := [.str c.name, .int .i64 c.kind, .bool c.nul]

def cC (cs : List Col) : List (List AVal) := cs.map colC

theorem cC_length (l : List Col) : (cC l).length = l.length := List.length_map ..

theorem pureEs_cC (l : List Col) : pureEs (cC l) = true := by simp [pureEs, cC, colC, AVal.isPure]

theorem cC_at {l : List Col} {k : Nat} {x : Col} (h : l[k]? = some x) : (cC l)[k]? = some (colC x) := by
  rw [cC, List.getElem?_map, h]; rfl

end Go.AW

namespace Go.AW
variable [Draws]
attribute [local irreducible] ACalls
theorem ACalls.frz1 {P : Program} {f : FuncId} {args : List AVal} {n sz : Nat} {es : List (List AVal)} {H : List AObj} (ha : args.all AVal.closed = true) (h : ACalls P f args [] (fun r H1 => r = .sl 0 n 0 n ∧ H1 = [.arr sz es]))
    (hn : n = es.length) (hp : pureEs es = true) : ACalls P f args H (fun r H' => r = .list false sz es ∧ H' = H) := by
  refine ACalls.pure ha (h.mono ?_)
  rintro r H1 ⟨rfl, rfl⟩
  exact pubF rfl hn hn hp

def zV : V := ⟨0, 0, bs []⟩

theorem setEs_vC (l : List V) (k : Nat) (v : V) : setEs (vC l) k (valC v) = vC (l.set k v) := by rw [setEs_eq]; simp [vC]

end Go.AW

namespace Go.AW
variable [Draws]
attribute [local irreducible] ACalls
theorem u8_eq (n : Int) : u8 n = n % 256 := by
  show IntKind.u8.wrap n = _
  simp [IntKind.wrap, IntKind.signed, IntKind.bits]

theorem num_w4 (x : Int) (h0 : 0 ≤ x) (h1 : x < 4294967296) : num (w4 x) = x := by
  simp only [num, w4, List.foldl_cons, List.foldl_nil, u8_eq]
  rw [Int.fdiv_eq_ediv_of_nonneg _ (by omega), Int.fdiv_eq_ediv_of_nonneg _ (by omega), Int.fdiv_eq_ediv_of_nonneg _ (by omega)]
  omega

theorem strOf_bytesI (s : ByteArray) : strOf (bytesI s) = s := by
  obtain ⟨⟨l⟩⟩ := s
  simp only [strOf, bytesI, List.map_map]
  congr
  rw [List.map_congr_left (g := id)]
  · simp
  · intro b _
    simp

theorem V.ext' {a b : V} (h1 : a.kind = b.kind) (h2 : a.num = b.num) (h3 : a.str = b.str) : a = b := by
  cases a; cases b; simp_all

theorem str_nil {s : ByteArray} (h : s.data.toList = []) : s = bs [] := by
  obtain ⟨⟨l⟩⟩ := s
  simp at h
  subst h; rfl

theorem decV_enc (v : V) (hv : validB v = true) (t : List Int) : decV (encV v ++ t) = (v, ((encV v).length : Int)) := by
  unfold validB at hv
  split at hv
  · rename_i hk
    simp at hv
    have hs := str_nil (show v.str.data.toList = [] by simp [hv.2])
    have e : encV v = [0] := by simp [encV, hk, u8_eq]
    rw [e]
    show decW ([0] ++ t) 0 _ = _
    rw [decW_0 (by simp)]
    rw [show v = ⟨0, 0, bs []⟩ from V.ext' hk hv.1 hs]; rfl
  split at hv
  · rename_i hk
    simp at hv
    have hs := str_nil (show v.str.data.toList = [] by simp [hv.2])
    have e : encV v = [1, v.num] := by
      have : u8 v.num = v.num := by rw [u8_eq]; omega
      simp [encV, hk, this, u8_eq]
    rw [e]
    show decW ([1, v.num] ++ t) 1 v.num = _
    rw [decW_1 (by simp)]
    rw [show v = ⟨1, v.num, bs []⟩ from V.ext' hk rfl hs]; rfl
  split at hv
  · rename_i hk
    simp at hv
    have hs := str_nil (show v.str.data.toList = [] by simp [hv.2])
    have e : encV v = 2 :: w4 (v.num + 1073741824) := by
      simp only [encV, hk]
      rw [if_neg (by decide), if_pos trivial, wrapI (v.num + 1073741824) (by omega) (by omega)]
      simp [u8_eq]
    rw [e]
    show decW ((2 :: w4 (v.num + 1073741824)) ++ t) 2 _ = _
    rw [decW_2 (by simp [w4])]
    have : (((2 :: w4 (v.num + 1073741824)) ++ t).take 5).drop 1 = w4 (v.num + 1073741824) := by simp [w4]
    rw [this, num_w4 _ (by omega) (by omega)]
    rw [show v = ⟨2, v.num, bs []⟩ from V.ext' hk rfl hs]
    simp [w4]
  split at hv
  · rename_i hk
    simp at hv
    have e : encV v = 3 :: (v.str.size : Int) :: bytesI v.str := by
      have : u8 (v.str.size : Int) = v.str.size := by rw [u8_eq]; omega
      simp only [encV, hk]
      rw [if_neg (by decide), if_neg (by decide), if_neg (by decide), if_pos trivial, this]
      simp [u8_eq]
    have hlen : (bytesI v.str).length = v.str.size := by simp [bytesI]
    rw [e]
    show decW ((3 :: (v.str.size : Int) :: bytesI v.str) ++ t) 3 (v.str.size : Int) = _
    rw [decW_3 (by simp) (by simp [hlen]; omega)]
    have : (((3 :: (v.str.size : Int) :: bytesI v.str) ++ t).take (2 + (v.str.size : Int)).toNat).drop 2 = bytesI v.str := by
      rw [show (2 + (v.str.size : Int)).toNat = v.str.size + 1 + 1 by omega]
      simp [← hlen]
    rw [this, strOf_bytesI]
    rw [show (⟨3, 0, v.str⟩ : V) = v from V.ext' hk.symm hv.1.symm rfl]
    simp [hlen]; omega
  split at hv
  · rename_i hk
    simp at hv
    have hs := str_nil (show v.str.data.toList = [] by simp [hv.2])
    have e : encV v = 4 :: w4 v.num := by
      simp only [encV, hk]
      rw [if_neg (by decide), if_neg (by decide), if_pos trivial]
      simp [u8_eq]
    rw [e]
    show decW ((4 :: w4 v.num) ++ t) 4 _ = _
    rw [decW_4 (by simp [w4])]
    have : (((4 :: w4 v.num) ++ t).take 5).drop 1 = w4 v.num := by simp [w4]
    rw [this, num_w4 _ (by omega) (by omega)]
    rw [show v = ⟨4, v.num, bs []⟩ from V.ext' hk rfl hs]
    simp [w4]
  · cases hv

theorem encV_pos (v : V) : 0 < (encV v).length := by simp [encV]

theorem decN_enc : ∀ (rs : List V) (t : List Int), (∀ v ∈ rs, validB v = true) → decN rs.length (rs.flatMap encV ++ t) = some (rs, t)
  | [], t, _ => rfl
  | v :: rs, t, h => by
    have hv := h v (by simp)
    have e : (v :: rs).flatMap encV ++ t = encV v ++ (rs.flatMap encV ++ t) := by simp
    rw [e, List.length_cons, decN_succ, decV_enc v hv]
    have := encV_pos v
    rw [if_neg (by rw [hv]; simp only [Bool.true_eq_false, or_false]; omega)]
    simp only [Int.toNat_natCast, List.drop_left]
    rw [decN_enc rs t fun w hw => h w (by simp [hw])]

theorem decR_enc (rs : List V) (hl : rs.length ≤ 12) (h : ∀ v ∈ rs, validB v = true) : decR (encB rs) = .tuple [.list false 3 (vC rs), .int .i64 0] := by
  have hu : u8 (rs.length : Int) = rs.length := by rw [u8_eq]; omega
  have e : encB rs = (rs.length : Int) :: rs.flatMap encV := by rw [encB, hu]
  rw [e]
  unfold decR
  rw [if_neg (by simp; omega)]
  have := decN_enc rs [] h
  rw [List.append_nil] at this
  simp [this]

theorem rowsCmp_zero : ∀ (a b : List V), rowsCmp a b = 0 ↔ a = b
  | [], [] => by simp [rowsCmp]
  | [], _ :: _ => by simp [rowsCmp]
  | _ :: _, [] => by simp [rowsCmp]
  | x :: a, y :: b => by
    have hz := isCmp_val.zero x y
    rw [rowsCmp]
    by_cases h : valCmp x y = 0
    · rw [if_pos h, rowsCmp_zero a b, hz.1 h]; simp
    · rw [if_neg h]
      constructor
      · intro h2; exact absurd h2 h
      · intro h2; simp at h2; exact absurd (hz.2 h2.1) h

end Go.AW

namespace Go.AW
variable [Draws]
attribute [local irreducible] ACalls
theorem iC_at {l : List Int} {k : Nat} {x : Int} (h : l[k]? = some x) : (iC l)[k]? = some [.int .i64 x] := by simp [iC, h]

end Go.AW

namespace Go.AW
variable [Draws]
attribute [local irreducible] ACalls
theorem pureEs_iC (l : List Int) : pureEs (iC l) = true := by simp [pureEs, iC, AVal.isPure]

theorem Ghost.one {n : Nat} {live : List (Nat × AVal)} {ρ : List AVal} {H : List AObj} {I : List AVal → List AObj → Prop} (id : Nat) (sz : Nat) (es : List (List AVal)) (ho : H[id]? = .some (.arr sz es)) (hp : pureEs es = true) (hl : ρ.length = n) (h : SvPub H [id] ρ live) (hI : ∀ ρ1, Sv n live ρ1 → I ρ1 [.arr sz es]) : Ghost [] ρ H I :=
  ⟨Gp.one id sz es ho hp hl h hI⟩

end Go.AW

namespace Go.AW
variable [Draws]
attribute [local irreducible] ACalls
def sC (l : List ByteArray) : List (List AVal) := l.map fun s => [.str s]

theorem sC_length (l : List ByteArray) : (sC l).length = l.length := List.length_map ..

theorem sC_at {l : List ByteArray} {k : Nat} {x : ByteArray} (h : l[k]? = some x) : (sC l)[k]? = some [.str x] := by simp [sC, h]

def eqS (s t : ByteArray) : Bool := s.data.toList == t.data.toList

end Go.AW

namespace Go.AW
variable [Draws]
attribute [local irreducible] ACalls
structure Ent where
  row : List V
  cnt : Int

def fitB (e : Ent) : Int := if 12 < e.row.length ∨ e.cnt < -65536 ∨ 65536 < e.cnt then 2 else if e.row.all validB then 0 else 8

def notB : Option (List V) → List V → Bool
  | some q, r => decide (rowsCmp q r ≥ 0)
  | none, _ => false

def bvGo : List Ent → Option (List V) → Int
  | [], _ => 0
  | e :: es, p => if fitB e ≠ 0 then fitB e else if e.cnt = 0 then 8 else if notB p e.row = true then 14 else bvGo es (some e.row)

def bagB (b : List Ent) : Int := if 4096 < b.length then 2 else bvGo b none

end Go.AW

namespace Go.AW
variable [Draws]
theorem ACalls.weakR {P : Program} {f : FuncId} {args : List AVal} {H : List AObj} {Q Q' : AVal → List AObj → Prop} (h : ACalls P f args H Q) (hq : ∀ r H', Q r H' → ∃ r', Wk r r' ∧ Q' r' H') : ACalls P f args H Q' := by
  intro C τ w vs hw hl hr
  have h := h C τ w vs hw hl hr
  unfold CallsX at h ⊢
  split at h
  · exact Calls.mono h fun e w' ⟨v, r, C', τ', H', h1, h2, h3, h4⟩ => by
      obtain ⟨r', hk, hq'⟩ := hq _ _ h2
      exact ⟨v, r', C', τ', H', h1, hq', h3.weak hk, h4⟩
  · obtain ⟨v, r, C', τ', H', h1, h2, h3, h4⟩ := h
    obtain ⟨r', hk, hq'⟩ := hq _ _ h2
    exact ⟨v, r', C', τ', H', h1, hq', h3.weak hk, h4⟩
  · exact h

end Go.AW

namespace Go.AW
variable [Draws]
attribute [local irreducible] ACalls
def smallB (n : Int) : Bool := decide (-65536 ≤ n) && decide (n ≤ 65536)

def mrg : List Ent → List Ent → List Ent
  | [], b => b
  | x :: a, [] => x :: a
  | x :: a, y :: b => if rowsCmp x.row y.row < 0 then x :: mrg a (y :: b) else if 0 < rowsCmp x.row y.row then y :: mrg (x :: a) b else ⟨x.row, x.cnt + y.cnt⟩ :: mrg a b
termination_by a b => a.length + b.length

theorem mrg_nil (b : List Ent) : mrg [] b = b := by rw [mrg]

theorem mrg_nil2 (a : List Ent) : mrg a [] = a := by
  cases a with
  | nil => rw [mrg]
  | cons x a => rw [mrg]

theorem mrg_cons (x y : Ent) (a b : List Ent) : mrg (x :: a) (y :: b) = if rowsCmp x.row y.row < 0 then x :: mrg a (y :: b) else if 0 < rowsCmp x.row y.row then y :: mrg (x :: a) b else ⟨x.row, x.cnt + y.cnt⟩ :: mrg a b := by rw [mrg]

def nzB (e : Ent) : Bool := !(e.cnt == 0)

end Go.AW

namespace Go.AW
variable [Draws]
attribute [local irreducible] ACalls
theorem mrg_length : ∀ (a b : List Ent), (mrg a b).length ≤ a.length + b.length
  | [], b => by rw [mrg_nil]; omega
  | x :: a, [] => by rw [mrg_nil2]; omega
  | x :: a, y :: b => by
    rw [mrg_cons]
    have h1 := mrg_length a (y :: b)
    have h2 := mrg_length (x :: a) b
    have h3 := mrg_length a b
    split
    · simp at h1 ⊢; omega
    split
    · simp at h2 ⊢; omega
    · simp; omega
termination_by a b => a.length + b.length

end Go.AW

namespace Go.AW
variable [Draws]
attribute [local irreducible] ACalls
structure Grp where
  n : Int
  vals : List Ent

def oneB (e : Ent) : Bool := match e.row with
  | [v] => !(v.kind == 0)
  | _ => false

def rowsB (n : Int) : Bool := decide (-268435456 ≤ n) && decide (n ≤ 268435456)

def grpB (g : Grp) : Int := if rowsB g.n = false then 1 else if bagB g.vals ≠ 0 then bagB g.vals else if g.vals.all oneB then 0 else 8

end Go.AW

namespace Go.AW
variable [Draws]
section
variable {P : Program} {C : Nat → Nat} {τ : Nat → Option Loc} {H : List AObj} {w : World}
inductive WkD : AVal → AVal → Prop where
  | refl (a : AVal) : WkD a a
  | nil (x : Bool) (sz : Nat) : WkD .nil (.list x sz [])
  | list (x y : Bool) (sz : Nat) (es fs : List (List AVal)) (h : y = true → x = true) (hl : es.length = fs.length)
      (hl2 : ∀ (i : Nat) (e f : List AVal), es[i]? = some e → fs[i]? = some f → e.length = f.length)
      (hcell : ∀ (i j : Nat) (f : List AVal) (c : AVal), fs[i]? = some f → f[j]? = some c → c.isCell = true)
      (hc : ∀ (i j : Nat) (e f : List AVal) (d c : AVal), es[i]? = some e → fs[i]? = some f → e[j]? = some d → f[j]? = some c → WkD d c) : WkD (.list x sz es) (.list y sz fs)
  | agg (asv bs : List AVal) (hl : asv.length = bs.length) (h : ∀ (i : Nat) (a b : AVal), asv[i]? = some a → bs[i]? = some b → WkD a b) : WkD (.agg asv) (.agg bs)
  | tuple (asv bs : List AVal) (hl : asv.length = bs.length) (h : ∀ (i : Nat) (a b : AVal), asv[i]? = some a → bs[i]? = some b → WkD a b) : WkD (.tuple asv) (.tuple bs)

theorem Rd.weakD {a b : AVal} {v : Value} (h : Rd C w a v) (hw : WkD a b) : Rd C w b v := by
  induction hw generalizing v with
  | refl => exact h
  | nil x sz => cases h; exact .list0 x sz none 0 (fun _ => rfl)
  | list x y sz es fs hxy hl hl2 hcell hc ih =>
    have hsome : ∀ {i : Nat} {f : List AVal}, fs[i]? = some f → ∃ e, es[i]? = some e ∧ e.length = f.length := fun {i f} hf => by
      have hi : i < es.length := by have := (List.getElem?_eq_some_iff.1 hf).1; omega
      exact ⟨es[i], List.getElem?_eq_getElem hi, hl2 i _ _ (List.getElem?_eq_getElem hi) hf⟩
    cases h with
    | list0 _ _ a cap hx =>
      cases fs with
      | nil => exact .list0 y sz a cap fun hy => hx (hxy hy)
      | cons f fs => simp at hl
    | list _ _ _ b off cap vs hx hcap hsz hC hcl hp hrd =>
      rw [hl]
      refine .list y sz fs b off cap vs (fun hy => by rw [← hl]; exact hx (hxy hy)) (by omega) (fun f hf => ?_) (by rw [← hl]; exact hC) (fun i j hi hj => hcl i j (by omega) hj) hcell (fun i j f c hf hcc => ?_)
      · obtain ⟨i, hi, rfl⟩ := List.getElem_of_mem hf
        obtain ⟨e, he, hle⟩ := hsome (List.getElem?_eq_getElem hi)
        rw [← hle]; exact hsz e (List.mem_of_getElem? he)
      · obtain ⟨e, he, hle⟩ := hsome hf
        have hj : j < e.length := by have := (List.getElem?_eq_some_iff.1 hcc).1; omega
        exact ih i j e f e[j] c he hf (List.getElem?_eq_getElem hj) hcc (hrd i j e e[j] he (List.getElem?_eq_getElem hj))
  | agg => cases h
  | tuple => cases h

theorem Rel.weakD {a b : AVal} {v : Value} (h : Rel C w τ H a v) (hw : WkD a b) : Rel C w τ H b v := by
  induction hw generalizing v with
  | refl => exact h
  | nil x sz =>
    cases h with
    | rd h => exact .rd (h.weakD (.nil x sz))
  | list x y sz es fs hxy hl hl2 hcell hc ih =>
    cases h with
    | rd h => exact .rd (h.weakD (.list x y sz es fs hxy hl hl2 hcell hc))
  | agg asv bs hl h2 ih =>
    cases h with
    | rd h => cases h
    | agg _ vs hlv hv =>
      refine .agg bs vs (by omega) fun i c u hc hu => ?_
      have hi : i < asv.length := by have := (List.getElem?_eq_some_iff.1 hc).1; omega
      exact ih i asv[i] c (List.getElem?_eq_getElem hi) hc (hv i asv[i] u (List.getElem?_eq_getElem hi) hu)
  | tuple asv bs hl h2 ih =>
    cases h with
    | rd h => cases h
    | tuple _ vs hlv hv =>
      refine .tuple bs vs (by omega) fun i c u hc hu => ?_
      have hi : i < asv.length := by have := (List.getElem?_eq_some_iff.1 hc).1; omega
      exact ih i asv[i] c (List.getElem?_eq_getElem hi) hc (hv i asv[i] u (List.getElem?_eq_getElem hi) hu)

def WksD (asv bs : List AVal) : Prop := asv.length = bs.length ∧ ∀ (i : Nat) (a b : AVal), asv[i]? = some a → bs[i]? = some b → WkD a b

theorem WksD.nil : WksD [] [] := ⟨rfl, fun i a b h => by simp at h⟩

theorem WksD.cons {a b : AVal} {asv bs : List AVal} (h : WkD a b) (hs : WksD asv bs) : WksD (a :: asv) (b :: bs) := by
  refine ⟨by simp [hs.1], fun i x y hx hy => ?_⟩
  cases i with
  | zero => simp at hx hy; subst hx hy; exact h
  | succ i => exact hs.2 i x y (by simpa using hx) (by simpa using hy)

theorem WkD.aggs {asv bs : List AVal} (h : WksD asv bs) : WkD (.agg asv) (.agg bs) := .agg asv bs h.1 h.2

theorem WkD.tuples {asv bs : List AVal} (h : WksD asv bs) : WkD (.tuple asv) (.tuple bs) := .tuple asv bs h.1 h.2

theorem ACalls.weakD {f : FuncId} {args bs : List AVal} {Q : AVal → List AObj → Prop} (h : ACalls P f bs H Q) (hw : WksD args bs) : ACalls P f args H Q := by
  intro C τ w vs hwf hl hr
  refine h C τ w vs hwf (by rw [← hw.1]; exact hl) fun i b v hb hv => ?_
  have hi : i < args.length := by have := (List.getElem?_eq_some_iff.1 hb).1; have := hw.1; omega
  exact (hr i args[i] v (List.getElem?_eq_getElem hi) hv).weakD (hw.2 i args[i] b (List.getElem?_eq_getElem hi) hb)

theorem ACalls.weakRD {f : FuncId} {args : List AVal} {Q Q' : AVal → List AObj → Prop} (h : ACalls P f args H Q) (hq : ∀ r H', Q r H' → ∃ r', WkD r r' ∧ Q' r' H') : ACalls P f args H Q' := by
  intro C τ w vs hw hl hr
  have h := h C τ w vs hw hl hr
  unfold CallsX at h ⊢
  split at h
  · exact Calls.mono h fun e w' ⟨v, r, C', τ', H', h1, h2, h3, h4⟩ => by
      obtain ⟨r', hk, hq'⟩ := hq _ _ h2
      exact ⟨v, r', C', τ', H', h1, hq', h3.weakD hk, h4⟩
  · obtain ⟨v, r, C', τ', H', h1, h2, h3, h4⟩ := h
    obtain ⟨r', hk, hq'⟩ := hq _ _ h2
    exact ⟨v, r', C', τ', H', h1, hq', h3.weakD hk, h4⟩
  · exact h

end
end Go.AW

namespace Go.AW
variable [Draws]
attribute [local irreducible] ACalls
def sumE (a b : List Ent) : Int :=
  if bagB a ≠ 0 then bagB a else if bagB b ≠ 0 then bagB b else if ((mrg a b).all fun e => smallB e.cnt) = true ∧ ((mrg a b).filter nzB).length ≤ 4096 then 0 else 2

def sumL (a b : List Ent) : List Ent := (mrg a b).filter nzB

def mrgE (a b : Grp) : Int := if rowsB (a.n + b.n) = false then 2 else sumE a.vals b.vals

def mrgG (a b : Grp) : Grp := if mrgE a b = 0 then ⟨a.n + b.n, sumL a.vals b.vals⟩ else ⟨0, []⟩

def GrpOk (g : Grp) : Prop := -1000000000 ≤ g.n ∧ g.n ≤ 1000000000

end Go.AW

namespace Go.AW
variable [Draws]
attribute [local irreducible] ACalls
def oneG (v : V) (c : Int) : Grp := ⟨c, if v.kind ≠ 0 ∧ c ≠ 0 then [⟨[v], c⟩] else []⟩

def preE (g : Grp) (v : V) (c : Int) : Int := if grpB g ≠ 0 then grpB g else if validB v = false then 8 else if smallB c = false then 1 else 0

def addGE (g : Grp) (v : V) (c : Int) : Int := if preE g v c ≠ 0 then preE g v c else mrgE g (oneG v c)

def addGG (g : Grp) (v : V) (c : Int) : Grp := if preE g v c ≠ 0 then ⟨0, []⟩ else mrgG g (oneG v c)

theorem grpB_ok {g : Grp} (h : grpB g = 0) : GrpOk g ∧ rowsB g.n = true ∧ bagB g.vals = 0 ∧ g.vals.all oneB = true := by
  unfold grpB at h
  split at h
  · cases h
  rename_i h1
  split at h
  · rename_i h2; exact absurd h h2
  rename_i h2
  split at h
  · rename_i h3
    simp [rowsB] at h1
    exact ⟨⟨by omega, by omega⟩, by simp [rowsB, h1], by simpa using h2, h3⟩
  · cases h

end Go.AW

namespace Go.AW
variable [Draws]
attribute [local irreducible] ACalls
def numV (n : Int) : V := if n < -1073741824 ∨ 1073741824 < n then zV else ⟨2, n, bs []⟩

def num0 (e : Ent) : Int := (e.row.getD 0 zV).num

def totGo : List Ent → Int → Int → Int × Int
  | [], s, c => (s, c)
  | e :: es, s, c => totGo es (w64 (s + w64 (num0 e * e.cnt))) (w64 (c + e.cnt))

end Go.AW

namespace Go.AW
variable [Draws]
attribute [local irreducible] ACalls
def posB (e : Ent) : Bool := decide (e.cnt > 0)

def notInt (e : Ent) : Bool := !((e.row.getD 0 zV).kind == 2)

end Go.AW

namespace Go.AW
variable [Draws]
attribute [local irreducible] ACalls
def row0 (e : Ent) : V := e.row.getD 0 zV

def presV (l : List Ent) : List V := (l.filter posB).map row0

def floorV (s c : Int) : Int := if s.tmod c < 0 then w64 (w64 (s.tdiv c) - 1) else w64 (s.tdiv c)

def resE (f : Int) (g : Grp) : Int := if f < 1 ∨ 7 < f then 1 else if grpB g ≠ 0 then grpB g else if (f = 3 ∨ f = 7) ∧ g.vals.any notInt = true then 7 else 0

def resV0 (f : Int) (g : Grp) : V :=
  if f = 1 then numV g.n else if f = 2 then numV (totGo g.vals 0 0).2 else if f = 6 then numV (presV g.vals).length
  else if f = 4 then (presV g.vals).head?.getD zV else if f = 5 then (presV g.vals).getLast?.getD zV
  else if f = 3 then (if g.vals = [] then zV else numV (totGo g.vals 0 0).1)
  else if 0 < (totGo g.vals 0 0).2 then numV (floorV (totGo g.vals 0 0).1 (totGo g.vals 0 0).2) else zV

def resV (f : Int) (g : Grp) : V := if resE f g ≠ 0 then zV else resV0 f g

end Go.AW

namespace Go.AW
variable [Draws]
theorem rowsCmp_vals : ∀ (a b : List V), rowsCmp a b = -1 ∨ rowsCmp a b = 0 ∨ rowsCmp a b = 1
  | [], [] => .inr (.inl rfl)
  | [], _ :: _ => .inl rfl
  | _ :: _, [] => .inr (.inr rfl)
  | x :: xs, y :: ys => by
    rw [rowsCmp]
    split
    · exact rowsCmp_vals xs ys
    · exact isCmp_val.vals x y

theorem rowsCmp_anti : ∀ (a b : List V), rowsCmp b a = - rowsCmp a b
  | [], [] => rfl
  | [], _ :: _ => rfl
  | _ :: _, [] => rfl
  | x :: xs, y :: ys => by
    rw [rowsCmp, rowsCmp, isCmp_val.anti x y]
    by_cases h : valCmp x y = 0
    · rw [if_pos h, if_pos (by omega), rowsCmp_anti xs ys]
    · rw [if_neg h, if_neg (by omega)]

theorem rowsCmp_trans : ∀ (a b d : List V), rowsCmp a b < 0 → rowsCmp b d < 0 → rowsCmp a d < 0
  | [], _, [], _, h2 => by
    rename_i b _
    cases b with
    | nil => exact h2
    | cons y ys => rw [rowsCmp] at h2; omega
  | [], _, _ :: _, _, _ => by rw [rowsCmp]; omega
  | x :: xs, [], _, h1, _ => by rw [rowsCmp] at h1; omega
  | x :: xs, y :: ys, [], _, h2 => by rw [rowsCmp] at h2; omega
  | x :: xs, y :: ys, z :: zs, h1, h2 => by
    rw [rowsCmp] at h1 h2 ⊢
    by_cases e1 : valCmp x y = 0
    · rw [if_pos e1] at h1
      have hxy := (isCmp_val.zero x y).1 e1
      subst hxy
      by_cases e2 : valCmp x z = 0
      · rw [if_pos e2] at h2 ⊢; exact rowsCmp_trans xs ys zs h1 h2
      · rw [if_neg e2] at h2 ⊢; exact h2
    · rw [if_neg e1] at h1
      by_cases e2 : valCmp y z = 0
      · have hyz := (isCmp_val.zero y z).1 e2
        subst hyz
        rw [if_neg e1]; exact h1
      · rw [if_neg e2] at h2
        have := isCmp_val.trans x y z h1 h2
        rw [if_neg (by omega)]; exact this

def cntL : List Ent → List V → Int
  | [], _ => 0
  | e :: l, r => (if rowsCmp e.row r = 0 then e.cnt else 0) + cntL l r

def Srt (l : List Ent) : Prop := l.Pairwise fun x y => rowsCmp x.row y.row < 0

theorem cntL_zero : ∀ (l : List Ent) (r : List V), (∀ e ∈ l, rowsCmp e.row r ≠ 0) → cntL l r = 0
  | [], _, _ => rfl
  | e :: l, r, h => by rw [cntL, if_neg (h e (List.mem_cons_self ..)), cntL_zero l r fun e he => h e (List.mem_cons_of_mem _ he)]; rfl

theorem cntL_above {l : List Ent} {r : List V} (h : ∀ e ∈ l, rowsCmp r e.row < 0) : cntL l r = 0 :=
  cntL_zero l r fun e he hz => by have := h e he; rw [rowsCmp_anti] at this; omega

theorem cntL_head {x : Ent} {l : List Ent} (h : Srt (x :: l)) : cntL (x :: l) x.row = x.cnt := by
  rw [cntL, if_pos ((rowsCmp_zero _ _).2 rfl), cntL_above (List.pairwise_cons.1 h).1]; omega

theorem cntL_mem : ∀ {l : List Ent} {e : Ent}, Srt l → e ∈ l → cntL l e.row = e.cnt
  | x :: l, e, hs, he => by
    rcases List.mem_cons.1 he with rfl | he
    · exact cntL_head hs
    · have h1 := (List.pairwise_cons.1 hs).1 e he
      rw [cntL, if_neg (by omega), cntL_mem (List.pairwise_cons.1 hs).2 he]; omega

theorem mem_mrg : ∀ (a b : List Ent) (e : Ent), e ∈ mrg a b → (∃ x ∈ a, x.row = e.row) ∨ ∃ y ∈ b, y.row = e.row
  | [], b, e, h => by rw [mrg_nil] at h; exact .inr ⟨e, h, rfl⟩
  | x :: a, [], e, h => by rw [mrg_nil2] at h; exact .inl ⟨e, h, rfl⟩
  | x :: a, y :: b, e, h => by
    rw [mrg_cons] at h
    have la : ∀ {e : Ent}, (∃ x ∈ a, x.row = e.row) → ∃ z ∈ x :: a, z.row = e.row := fun ⟨z, h1, h2⟩ => ⟨z, List.mem_cons_of_mem _ h1, h2⟩
    have lb : ∀ {e : Ent}, (∃ x ∈ b, x.row = e.row) → ∃ z ∈ y :: b, z.row = e.row := fun ⟨z, h1, h2⟩ => ⟨z, List.mem_cons_of_mem _ h1, h2⟩
    split at h
    · rcases List.mem_cons.1 h with rfl | h
      · exact .inl ⟨e, List.mem_cons_self .., rfl⟩
      · exact (mem_mrg a (y :: b) e h).imp la id
    split at h
    · rcases List.mem_cons.1 h with rfl | h
      · exact .inr ⟨e, List.mem_cons_self .., rfl⟩
      · exact (mem_mrg (x :: a) b e h).imp id lb
    · rcases List.mem_cons.1 h with rfl | h
      · exact .inl ⟨x, List.mem_cons_self .., rfl⟩
      · exact (mem_mrg a b e h).imp la lb
termination_by a b => a.length + b.length

theorem srt_mrg : ∀ (a b : List Ent), Srt a → Srt b → Srt (mrg a b)
  | [], b, _, hb => by rw [mrg_nil]; exact hb
  | x :: a, [], ha, _ => by rw [mrg_nil2]; exact ha
  | x :: a, y :: b, ha, hb => by
    have ax := (List.pairwise_cons.1 ha).1
    have bx := (List.pairwise_cons.1 hb).1
    have ha' := (List.pairwise_cons.1 ha).2
    have hb' := (List.pairwise_cons.1 hb).2
    rw [mrg_cons]
    split
    · rename_i hc
      refine List.pairwise_cons.2 ⟨fun e he => ?_, srt_mrg a (y :: b) ha' hb⟩
      rcases mem_mrg a (y :: b) e he with ⟨z, hz, hzr⟩ | ⟨z, hz, hzr⟩
      · rw [← hzr]; exact ax z hz
      · rw [← hzr]
        rcases List.mem_cons.1 hz with rfl | hz
        · exact hc
        · exact rowsCmp_trans _ _ _ hc (bx z hz)
    split
    · rename_i hc0 hc
      have hc' : rowsCmp y.row x.row < 0 := by rw [rowsCmp_anti]; omega
      refine List.pairwise_cons.2 ⟨fun e he => ?_, srt_mrg (x :: a) b ha hb'⟩
      rcases mem_mrg (x :: a) b e he with ⟨z, hz, hzr⟩ | ⟨z, hz, hzr⟩
      · rw [← hzr]
        rcases List.mem_cons.1 hz with rfl | hz
        · exact hc'
        · exact rowsCmp_trans _ _ _ hc' (ax z hz)
      · rw [← hzr]; exact bx z hz
    · have hr : x.row = y.row := (rowsCmp_zero _ _).1 (by have := rowsCmp_vals x.row y.row; omega)
      refine List.pairwise_cons.2 ⟨fun e he => ?_, srt_mrg a b ha' hb'⟩
      rcases mem_mrg a b e he with ⟨z, hz, hzr⟩ | ⟨z, hz, hzr⟩
      · rw [← hzr]; exact ax z hz
      · rw [← hzr]; show rowsCmp x.row z.row < 0; rw [hr]; exact bx z hz
termination_by a b => a.length + b.length

theorem srt_filter {l : List Ent} (p : Ent → Bool) (h : Srt l) : Srt (l.filter p) := List.Pairwise.filter p h

theorem fitB_iff (e : Ent) : fitB e = 0 ↔ e.row.length ≤ 12 ∧ smallB e.cnt = true ∧ e.row.all validB = true := by
  simp only [smallB, Bool.and_eq_true, decide_eq_true_eq]
  unfold fitB
  constructor
  · intro h
    split at h
    · cases h
    · split at h
      · rename_i h1 h2; exact ⟨by omega, ⟨by omega, by omega⟩, h2⟩
      · cases h
  · rintro ⟨h1, ⟨h2, h3⟩, h4⟩
    rw [if_neg (by omega), if_pos h4]

theorem bvGo_iff : ∀ (l : List Ent) (p : Option (List V)), bvGo l p = 0 ↔ (∀ e ∈ l, fitB e = 0 ∧ e.cnt ≠ 0) ∧ Srt l ∧ ∀ q, p = some q → ∀ e ∈ l, rowsCmp q e.row < 0
  | [], p => ⟨fun _ => ⟨fun e h => (by simp at h), List.Pairwise.nil, fun q _ e h => by simp at h⟩, fun _ => rfl⟩
  | x :: l, p => by
    rw [bvGo]
    have nb : notB p x.row = true ↔ ∃ q, p = some q ∧ ¬ rowsCmp q x.row < 0 := by
      cases p with
      | none => simp [notB]
      | some q => simp [notB]
    constructor
    · intro h
      by_cases h1 : fitB x = 0
      · rw [if_neg (by simp [h1])] at h
        by_cases h2 : x.cnt = 0
        · rw [if_pos h2] at h; cases h
        · rw [if_neg h2] at h
          by_cases h3 : notB p x.row = true
          · rw [if_pos h3] at h; cases h
          · rw [if_neg h3] at h
            obtain ⟨g1, g2, g3⟩ := (bvGo_iff l (some x.row)).1 h
            have hp : ∀ q, p = some q → rowsCmp q x.row < 0 := fun q hq => Classical.byContradiction fun hn => h3 (nb.2 ⟨q, hq, hn⟩)
            refine ⟨fun e he => ?_, List.pairwise_cons.2 ⟨g3 _ rfl, g2⟩, fun q hq e he => ?_⟩
            · rcases List.mem_cons.1 he with rfl | he
              · exact ⟨h1, h2⟩
              · exact g1 e he
            · rcases List.mem_cons.1 he with rfl | he
              · exact hp q hq
              · exact rowsCmp_trans _ _ _ (hp q hq) (g3 _ rfl e he)
      · rw [if_pos h1] at h; exact absurd h h1
    · rintro ⟨h1, h2, h3⟩
      have hx := h1 x (List.mem_cons_self ..)
      rw [if_neg (by simp [hx.1]), if_neg hx.2, if_neg (fun h => by
        obtain ⟨q, hq, hn⟩ := nb.1 h
        exact hn (h3 q hq x (List.mem_cons_self ..)))]
      exact (bvGo_iff l (some x.row)).2 ⟨fun e he => h1 e (List.mem_cons_of_mem _ he), (List.pairwise_cons.1 h2).2, fun q hq e he => by cases hq; exact (List.pairwise_cons.1 h2).1 e he⟩

theorem bagB_iff (l : List Ent) : bagB l = 0 ↔ l.length ≤ 4096 ∧ (∀ e ∈ l, fitB e = 0 ∧ e.cnt ≠ 0) ∧ Srt l := by
  rw [bagB]
  constructor
  · intro h
    split at h
    · cases h
    · have := (bvGo_iff l none).1 h
      exact ⟨by omega, this.1, this.2.1⟩
  · rintro ⟨h1, h2, h3⟩
    rw [if_neg (by omega)]
    exact (bvGo_iff l none).2 ⟨h2, h3, fun q hq => by cases hq⟩

theorem resOk {l : List Ent} (hs : Srt l) (hl : (l.filter nzB).length ≤ 4096) (hf : ∀ e ∈ l, e.row.length ≤ 12 ∧ e.row.all validB = true) (hc : ∀ r, smallB (cntL l r) = true) :
    ((l.all fun e => smallB e.cnt) = true ∧ (l.filter nzB).length ≤ 4096) ∧ bagB (l.filter nzB) = 0 := by
  have hsm : ∀ e ∈ l, smallB e.cnt = true := fun e he => by rw [← cntL_mem hs he]; exact hc _
  refine ⟨⟨List.all_eq_true.2 hsm, hl⟩, (bagB_iff _).2 ⟨hl, fun e he => ?_, srt_filter _ hs⟩⟩
  obtain ⟨h1, h2⟩ := List.mem_filter.1 he
  exact ⟨(fitB_iff e).2 ⟨(hf e h1).1, hsm e h1, (hf e h1).2⟩, by simpa [nzB] using h2⟩

theorem fit_row {l : List Ent} (h : bagB l = 0) : ∀ e ∈ l, e.row.length ≤ 12 ∧ e.row.all validB = true := fun e he => by
  have := (fitB_iff e).1 (((bagB_iff l).1 h).2.1 e he).1
  exact ⟨this.1, this.2.2⟩

end Go.AW

namespace Go.AW
variable [Draws]
attribute [local irreducible] ACalls
def g0 : Grp := ⟨0, []⟩

def n5 : V := ⟨2, 5, bs []⟩

theorem n5_valid : validB n5 = true := by kernel_rfl

theorem mrg_one (v : V) (a b : Int) : mrg [⟨[v], a⟩] [⟨[v], b⟩] = [⟨[v], a + b⟩] := by
  have h : rowsCmp [v] [v] = 0 := (rowsCmp_zero _ _).2 rfl
  rw [mrg_cons, if_neg (by show ¬ rowsCmp [v] [v] < 0; omega), if_neg (by show ¬ 0 < rowsCmp [v] [v]; omega), mrg_nil]

theorem srt_one (e : Ent) : Srt [e] := List.pairwise_singleton ..

theorem bagB_one (v : V) (c : Int) (hv : validB v = true) (hc : c ≠ 0) (hs : smallB c = true) : bagB [⟨[v], c⟩] = 0 :=
  (bagB_iff _).2 ⟨by simp, fun e he => by
    rw [List.mem_singleton] at he; subst he
    exact ⟨(fitB_iff _).2 ⟨by simp, hs, by simp [hv]⟩, hc⟩, srt_one _⟩

theorem bagB_nil : bagB [] = 0 := rfl

theorem grpB_intro {g : Grp} (h1 : rowsB g.n = true) (h2 : bagB g.vals = 0) (h3 : g.vals.all oneB = true) : grpB g = 0 := by
  rw [grpB, if_neg (by simp [h1]), if_neg (by simp [h2]), if_pos h3]

theorem k1 : addGE g0 n5 2 = 0 ∧ addGG g0 n5 2 = ⟨2, [⟨[n5], 2⟩]⟩ := by
  have hp : preE g0 n5 2 = 0 := by rw [preE, if_neg (by simp [grpB_intro (g := g0) rfl rfl rfl]), if_neg (by simp [n5_valid]), if_neg (by decide)]
  have ho : oneG n5 2 = ⟨2, [⟨[n5], 2⟩]⟩ := by rw [oneG, if_pos ⟨by decide, by decide⟩]
  have hm : mrgE g0 ⟨2, [⟨[n5], 2⟩]⟩ = 0 := by
    rw [mrgE, if_neg (by decide), sumE, if_neg (by simp [g0, bagB_nil]), if_neg (by simp [bagB_one n5 2 n5_valid (by decide) (by decide)]), if_pos ⟨by simp [g0, mrg_nil, smallB], by simp [g0, mrg_nil, nzB]⟩]
  have e1 : addGE g0 n5 2 = 0 := by rw [addGE, if_neg (by simp [hp]), ho, hm]
  refine ⟨e1, ?_⟩
  rw [addGG, if_neg (by simp [hp]), ho, mrgG, if_pos hm]
  simp [g0, sumL, mrg_nil, nzB]

theorem k2 : addGE ⟨2, [⟨[n5], 2⟩]⟩ n5 (-1) = 0 ∧ addGG ⟨2, [⟨[n5], 2⟩]⟩ n5 (-1) = ⟨1, [⟨[n5], 1⟩]⟩ := by
  have hb := bagB_one n5 2 n5_valid (by decide) (by decide)
  have hp : preE ⟨2, [⟨[n5], 2⟩]⟩ n5 (-1) = 0 := by rw [preE, if_neg (by simp [grpB_intro (g := ⟨2, [⟨[n5], 2⟩]⟩) rfl hb rfl]), if_neg (by simp [n5_valid]), if_neg (by decide)]
  have ho : oneG n5 (-1) = ⟨-1, [⟨[n5], -1⟩]⟩ := by rw [oneG, if_pos ⟨by decide, by decide⟩]
  have hm : mrgE ⟨2, [⟨[n5], 2⟩]⟩ ⟨-1, [⟨[n5], -1⟩]⟩ = 0 := by
    rw [mrgE, if_neg (by decide), sumE, if_neg (by simp [hb]), if_neg (by simp [bagB_one n5 (-1) n5_valid (by decide) (by decide)]), if_pos ⟨by simp [mrg_one, smallB], by simp [mrg_one, nzB]⟩]
  have e1 : addGE ⟨2, [⟨[n5], 2⟩]⟩ n5 (-1) = 0 := by rw [addGE, if_neg (by simp [hp]), ho, hm]
  refine ⟨e1, ?_⟩
  rw [addGG, if_neg (by simp [hp]), ho, mrgG, if_pos hm]
  simp [sumL, mrg_one, nzB]

def gk : Grp := ⟨1, [⟨[n5], 1⟩]⟩

theorem gk_ok : grpB gk = 0 := grpB_intro rfl (bagB_one n5 1 n5_valid (by decide) (by decide)) rfl

theorem k3 : resE 3 gk = 0 ∧ resV 3 gk = n5 ∧ resE 1 gk = 0 ∧ resV 1 gk = ⟨2, 1, bs []⟩ := by
  have h3 : resE 3 gk = 0 := by rw [resE, if_neg (by decide), if_neg (by simp [gk_ok])]; rfl
  have h1 : resE 1 gk = 0 := by rw [resE, if_neg (by decide), if_neg (by simp [gk_ok])]; rfl
  refine ⟨h3, ?_, h1, ?_⟩
  · rw [resV, if_neg (by simp [h3])]; kernel_rfl
  · rw [resV, if_neg (by simp [h1])]; kernel_rfl

structure It where
  v : V
  c : Int

end Go.AW

