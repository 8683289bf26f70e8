/-
  An abstract machine over the model, the code of functions on it, and their contracts: what the claim needs.
  No condition: definitions, plain laws, contracts over any program that has this code.
-/
import Derived.Test.YtbjodpkinpnebaaGreatZ3
set_option linter.all false
namespace Go.AW
def c_z15 : AFunc:=⟨38,[.tmp 4],(.seq (.region [ iD 4 (.move (.c .nil))]) (.seq (.seq (.region [ iM 6 0,iD 7 (.nop (.t 6)),iD 8 (.fieldAddr 1 (.t 7)),iD 9 (.load false 1 (.t 8)),iM 10 9,⟨(some 11),.move (.t 1),some (some 10,false)⟩,⟨(some 12),.move (.t 0),some (some 10,false)⟩,⟨(some 13),.nop (.t 12),some (some 10,false)⟩,⟨(some 14),.fieldAddr 0 (.t 13),some (some 10,false)⟩,⟨(some 15),.load false 1 (.t 14),some (some 10,false)⟩,⟨(some 16),.len (.t 15),some (some 10,false)⟩,⟨(some 17),.bin .gtr (.t 11) (.t 16),some (some 10,false)⟩,iD 18 (.pick (.t 10) (.c (.bool true)) (.t 17))]) (.cond (.t 18) (.seq (.region [ iM 19 0,iD 20 (.nop (.t 19)),iD 21 (.fieldAddr 1 (.t 20)),iN (.store 1 (.t 21) (.c (.bool true)))]) (.seq (.region [ iD 4 (.move (.c .nil))]) .ret)) .skip)) (.seq (.region [ iM 22 0,iD 23 (.nop (.t 22)),iD 24 (.fieldAddr 0 (.t 23)),iD 25 (.load false 1 (.t 24)),iM 26 1,iD 27 (.slice 1 (.t 25) none (some (.t 26))),iM 5 27]) (.seq (.region [ iM 28 0,iM 29 0,iD 30 (.nop (.t 29)),iD 31 (.fieldAddr 0 (.t 30)),iD 32 (.load false 1 (.t 31)),iM 33 1,iD 34 (.slice 1 (.t 32) (some (.t 33)) none),iD 35 (.nop (.t 28)),iD 36 (.fieldAddr 0 (.t 35)),iN (.store 1 (.t 36) (.t 34))]) (.seq (.region [ iM 37 5,iM 4 37]) .ret)))))⟩
structure F_z15 (P : Program) where
 id : FuncId
 has : Has P id [] c_z15
def c_z14 (f_z15 : FuncId) : AFunc:=⟨23,[.tmp 4],(.seq (.region [ iD 4 (.move (cI 0))]) (.seq (.region [ iD 5 (.move (cI 0))]) (.seq (.seq (.region [ iM 8 0,iM 9 1,iD 10 (.call f_z15 [(.t 8),(.t 9)]),iD 11 (.len (.t 10)),iD 12 (.move (cI 0))]) (.block 0 (.loop (.seq (.region [ iD 13 (.bin .lss (.t 12) (.t 11))]) (.seq (.cond (.t 13) .skip (.exit 0)) (.seq (.block 1 (.seq (.region [ iD 14 (.indexAddr 1 (.t 10) (.t 12)),iD 15 (.load false 1 (.t 14)),iM 7 15]) (.region [ iM 16 5,iD 17 (.bin .shl (.t 16) (.c (.int .u64 8))),iM 18 7,iD 19 (.conv .i64 (.t 18)),iD 20 (.bin .or (.t 17) (.t 19)),iM 5 20]))) (.region [ iD 21 (.bin .add (.t 12) (cI 1)),iM 12 21]))))))) (.seq (.region [ iM 22 5,iM 4 22]) .ret))))⟩
structure F_z14 (P : Program) where
 id : FuncId
 z15 : F_z15 P
 has : Has P id [] (c_z14 z15.id)
def c_z16 (f_z14 : FuncId) (f_z15 : FuncId) : AFunc:=⟨8,[.tmp 2],(.seq (.region [ iD 2 (.move (.c (.str (bs []))))]) (.seq (.region [ iM 3 0,iM 4 0,iD 5 (.call f_z14 [(.t 4),(cI 1)]),iD 6 (.call f_z15 [(.t 3),(.t 5)]),iD 7 (.convBS (.t 6)),iM 2 7]) .ret))⟩
structure F_z16 (P : Program) where
 id : FuncId
 z14 : F_z14 P
 z15 : F_z15 P
 has : Has P id [] (c_z16 z14.id z15.id)
def c_z0d : AFunc:=⟨9,[.tmp 2],(.seq (.region [ iD 2 (.move (.c .nilm))]) (.seq (.seq (.region [ iM 3 0,iD 4 (.isNilM false (.t 3))]) (.cond (.t 4) (.seq (.region [ iD 2 (.move (.c .nilm))]) .ret) .skip)) (.seq .stuck .ret)))⟩
structure F_z0d (P : Program) where
 id : FuncId
 has : Has P id [] c_z0d
def c_z0t (f_z0d : FuncId) : AFunc:=⟨40,[.tmp 6,.tmp 7],(.seq (.region [ iD 6 (.move (.c .nilm)),iD 7 (.move (cI 0))]) (.seq (.region [ iM 11 0,iD 12 (.nop (.t 11)),iD 13 (.fieldAddr 0 (.t 12)),iD 14 (.load false 1 (.t 13)),iM 15 1,iD 16 (.lookupM 2 .nilm false (.t 14) (.t 15)),iD 17 (.call f_z0d [(.t 16)]),iM 8 17]) (.seq (.seq (.region [ iM 18 8,iD 19 (.isNilM false (.t 18))]) (.cond (.t 19) (.region [ iD 20 (.mkMap),iM 8 20]) .skip)) (.seq (.seq (.region [ iM 21 2,iD 22 (.rangeM (.t 21))]) (.block 0 (.loop (.seq (.region [ iD 23 (.nextM (.t 22)),iD 24 (.extract (.t 23) 0)]) (.seq (.cond (.t 24) .skip (.exit 0)) (.block 1 (.seq (.region [ iD 25 (.entryM (.t 22)),iD 26 (.extract (.t 25) 0),iD 27 (.extract (.t 25) 1),iD 10 (.alloc [(.bool false),.nil]),iM 9 26,iN (.store 2 (.t 10) (.t 27))]) (.seq (.region [ iD 28 (.fieldAddr 0 (.t 10)),iD 29 (.load false 1 (.t 28))]) (.cond (.t 29) (.region [ iM 30 8,iM 31 9,iN (.deleteM 2 (.t 30) (.t 31))]) (.region [ iM 32 8,iM 33 9,iD 34 (.fieldAddr 1 (.t 10)),iD 35 (.load false 1 (.t 34)),iN (.mapSet 2 (.t 32) (.t 33) (.t 35))])))))))))) (.seq (.seq (.region [ iM 36 8,iD 37 (.lenM (.t 36)),iD 38 (.bin .gtr (.t 37) (cI 256))]) (.cond (.t 38) (.seq (.region [ iD 6 (.move (.c .nilm)),iD 7 (.move (cI 2))]) .ret) .skip)) (.seq (.region [ iM 39 8,iM 6 39,iD 7 (.move (cI 0))]) .ret))))))⟩
structure F_z0t (P : Program) where
 id : FuncId
 z0d : F_z0d P
 has : Has P id [] (c_z0t z0d.id)
def c_z0k : AFunc:=⟨9,[],(.region [ iM 4 0,iD 5 (.nop (.t 4)),iD 6 (.fieldAddr 1 (.t 5)),iD 7 (.load false 1 (.t 6)),iM 8 1,iN (.deleteM 2 (.t 7) (.t 8))])⟩
structure F_z0k (P : Program) where
 id : FuncId
 has : Has P id [] c_z0k
def c_z0v (f_z0k : FuncId) : AFunc:=⟨22,[],(.seq (.region [ iM 6 0,iD 7 (.nop (.t 6)),iD 8 (.fieldAddr 0 (.t 7)),iD 9 (.load false 1 (.t 8)),iM 10 1,iM 11 2,iN (.mapSet 2 (.t 9) (.t 10) (.t 11))]) (.seq (.region [ iM 12 0,iD 13 (.nop (.t 12)),iD 14 (.fieldAddr 2 (.t 13)),iD 15 (.load false 1 (.t 14)),iM 16 1,iD 17 (.lookupM 2 (.int .i64 0) false (.t 15) (.t 16)),iD 18 (.bin .add (.t 17) (cI 1)),iN (.mapSet 2 (.t 15) (.t 16) (.t 18))]) (.region [ iM 19 0,iM 20 1,iD 21 (.call f_z0k [(.t 19),(.t 20)])])))⟩
structure F_z0v (P : Program) where
 id : FuncId
 z0k : F_z0k P
 has : Has P id [] (c_z0v z0k.id)
def c_z13 : AFunc:=⟨13,[.tmp 4],(.seq (.region [ iD 4 (.move (.c .nil))]) (.seq (.region [ iM 5 0,iM 6 1,iD 7 (.lenS (.t 6)),iD 8 (.conv .u8 (.t 7)),iD 9 (.buildSlice 1 1 [(.int .u8 0)] [(0,(.t 8))]),iD 10 (.append 1 1 [(.int .u8 0)] (.t 5) (.t 9)),iM 11 1,iD 12 (.append 1 1 [(.int .u8 0)] (.t 10) (.t 11)),iM 4 12]) .ret))⟩
structure F_z13 (P : Program) where
 id : FuncId
 has : Has P id [] c_z13
def c_z11 : AFunc:=⟨22,[.tmp 6],(.seq (.region [ iD 6 (.move (.c .nil))]) (.seq (.seq (.region [ iM 7 1,iD 8 (.bin .sub (.t 7) (cI 1)),iM 1 8]) (.block 0 (.loop (.seq (.seq (.region [ iM 9 1,iD 10 (.bin .geq (.t 9) (cI 0))]) (.cond (.t 10) .skip (.exit 0))) (.seq (.block 1 (.region [ iM 13 0,iM 14 2,iM 15 1,iD 16 (.bin .mul (cI 8) (.t 15)),iD 17 (.bin .shr (.t 14) (.t 16)),iD 18 (.conv .u8 (.t 17)),iD 19 (.buildSlice 1 1 [(.int .u8 0)] [(0,(.t 18))]),iD 20 (.append 1 1 [(.int .u8 0)] (.t 13) (.t 19)),iM 0 20])) (.region [ iM 11 1,iD 12 (.bin .sub (.t 11) (cI 1)),iM 1 12])))))) (.seq (.region [ iM 21 0,iM 6 21]) .ret)))⟩
structure F_z11 (P : Program) where
 id : FuncId
 has : Has P id [] c_z11
def c_z0f (f_maps_Keys_mapstringstorechange_string_storechange_1 : FuncId) : AFunc:=⟨4,[.tmp 2],(.seq (.region [ iD 1 (.box (.t 0)),iD 2 (.move (.c .junk))]) (.seq (.region [ iD 3 (.makeFunc f_maps_Keys_mapstringstorechange_string_storechange_1 [(.t 1)]),iM 2 3]) .ret))⟩
structure F_z0f (P : Program) where
 id : FuncId
 maps_Keys_mapstringstorechange_string_storechange_1 : RawF
 has : Has P id [] (c_z0f maps_Keys_mapstringstorechange_string_storechange_1.id)
def c_z12 : AFunc:=⟨12,[.tmp 4],(.seq (.region [ iD 4 (.move (.c .nil))]) (.seq (.seq (.region [ iM 5 1]) (.cond (.t 5) (.seq (.region [ iM 6 0,iD 7 (.buildSlice 1 1 [(.int .u8 0)] [(0,(.c (.int .u8 1)))]),iD 8 (.append 1 1 [(.int .u8 0)] (.t 6) (.t 7)),iM 4 8]) .ret) .skip)) (.seq (.region [ iM 9 0,iD 10 (.buildSlice 1 1 [(.int .u8 0)] [(0,(.c (.int .u8 0)))]),iD 11 (.append 1 1 [(.int .u8 0)] (.t 9) (.t 10)),iM 4 11]) .ret)))⟩
structure F_z12 (P : Program) where
 id : FuncId
 has : Has P id [] c_z12
def c_z10 (f_z13 : FuncId) (f_z11 : FuncId) (f_z0f : FuncId) (f_slices_Sorted_string : FuncId) (f_z12 : FuncId) : AFunc:=⟨45,[.tmp 4],(.seq (.region [ iD 4 (.move (.c .nil))]) (.seq (.region [ iD 9 (.buildSliceO 1 1 [(.int .u8 0)] [(0,(.c (.int .u8 1)))]),iM 10 0,iD 11 (.call f_z13 [(.t 9),(.t 10)]),iM 12 1,iD 13 (.lenM (.t 12)),iD 14 (.call f_z11 [(.t 11),(cI 2),(.t 13)]),iM 5 14]) (.seq (.seq (.region [ iM 15 1,iD 16 (.call f_z0f [(.t 15)]),iD 17 (.call f_slices_Sorted_string [(.t 16)]),iD 18 (.len (.t 17)),iD 19 (.move (cI 0))]) (.block 0 (.loop (.seq (.region [ iD 20 (.bin .lss (.t 19) (.t 18))]) (.seq (.cond (.t 20) .skip (.exit 0)) (.seq (.block 1 (.seq (.region [ iD 21 (.indexAddr 1 (.t 17) (.t 19)),iD 22 (.load false 1 (.t 21)),iM 7 22]) (.seq (.region [ iM 23 1,iM 24 7,iD 25 (.lookupM 2 (.agg [(.bool false),.nil]) false (.t 23) (.t 24)),iD 8 (.alloc [(.bool false),.nil]),iN (.store 2 (.t 8) (.t 25))]) (.seq (.region [ iM 26 5,iD 27 (.fieldAddr 0 (.t 8)),iD 28 (.load false 1 (.t 27)),iD 29 (.call f_z12 [(.t 26),(.t 28)]),iM 30 7,iD 31 (.call f_z13 [(.t 29),(.t 30)]),iM 5 31]) (.seq (.region [ iD 32 (.fieldAddr 0 (.t 8)),iD 33 (.load false 1 (.t 32)),iD 34 (.un .not (.t 33))]) (.cond (.t 34) (.draw [ jM 35 5,jD 36 (.fieldAddr 1 (.t 8)),jD 37 (.load false 1 (.t 36)),jD 38 (.len (.t 37)),jD 39 (.callE f_z11 [(.t 35),(cI 4),(.t 38)]),jD 40 (.fieldAddr 1 (.t 8)),(iD 41 (.load false 1 (.t 40)),[9]),jD 42 (.append 1 1 [(.int .u8 0)] (.t 39) (.t 41)),jM 5 42]) .skip)))))) (.region [ iD 43 (.bin .add (.t 19) (cI 1)),iM 19 43]))))))) (.seq (.region [ iM 44 5,iM 4 44]) .ret))))⟩
structure F_z10 (P : Program) where
 id : FuncId
 z13 : F_z13 P
 z11 : F_z11 P
 z0f : F_z0f P
 slices_Sorted_string : RawF
 z12 : F_z12 P
 has : Has P id [9,39] (c_z10 z13.id z11.id z0f.id slices_Sorted_string.id z12.id)
def c_z0w (f_z16 : FuncId) (f_z14 : FuncId) (f_z15 : FuncId) (f_z06 : FuncId) (f_z0h : FuncId) (f_z0t : FuncId) (f_z0g : FuncId) (f_z0v : FuncId) (f_z10 : FuncId) : AFunc:=⟨90,[.tmp 4],(.seq (.region [ iD 4 (.move (.c .nil))]) (.seq (.region [ iM 12 1,iD 13 (.call f_z16 [(.t 12)]),iM 5 13]) (.seq (.region [ iD 14 (.mkMap),iM 6 14]) (.seq (.seq (.region [ iM 15 1,iD 16 (.call f_z14 [(.t 15),(cI 2)]),iM 7 16]) (.block 0 (.loop (.seq (.seq (.region [ iM 17 7,iD 18 (.bin .gtr (.t 17) (cI 0)),iM 19 18,⟨(some 20),.move (.t 1),some (some 19,true)⟩,⟨(some 21),.nop (.t 20),some (some 19,true)⟩,⟨(some 22),.fieldAddr 1 (.t 21),some (some 19,true)⟩,⟨(some 23),.load false 1 (.t 22),some (some 19,true)⟩,⟨(some 24),.un .not (.t 23),some (some 19,true)⟩,iD 25 (.pick (.t 19) (.t 24) (.c (.bool false)))]) (.cond (.t 25) .skip (.exit 0))) (.seq (.block 1 (.seq (.region [ iM 28 1,iD 29 (.call f_z14 [(.t 28),(cI 1)]),iD 30 (.bin .neq (.t 29) (cI 0)),iD 31 (.build [(.bool false),.nil] [(0,1,(.t 30))]),iD 8 (.alloc [(.bool false),.nil]),iN (.store 2 (.t 8) (.t 31))]) (.seq (.region [ iM 32 1,iD 33 (.call f_z16 [(.t 32)]),iM 9 33]) (.seq (.seq (.region [ iD 34 (.fieldAddr 0 (.t 8)),iD 35 (.load false 1 (.t 34)),iD 36 (.un .not (.t 35))]) (.cond (.t 36) (.region [ iM 37 1,iM 38 1,iD 39 (.call f_z14 [(.t 38),(cI 4)]),iD 40 (.call f_z15 [(.t 37),(.t 39)]),iD 41 (.call f_z06 [(.t 40)]),iD 42 (.fieldAddr 1 (.t 8)),iN (.store 1 (.t 42) (.t 41))]) .skip)) (.seq (.seq (.region [ iM 43 9,iD 44 (.call f_z0h [(.t 43)]),iD 45 (.un .not (.t 44)),iM 46 45,⟨(some 47),.fieldAddr 1 (.t 8),some (some 46,false)⟩,⟨(some 48),.load false 1 (.t 47),some (some 46,false)⟩,⟨(some 49),.len (.t 48),some (some 46,false)⟩,⟨(some 50),.bin .gtr (.t 49) (cI 65536),some (some 46,false)⟩,iD 51 (.pick (.t 46) (.c (.bool true)) (.t 50))]) (.cond (.t 51) (.region [ iM 52 1,iD 53 (.nop (.t 52)),iD 54 (.fieldAddr 1 (.t 53)),iN (.store 1 (.t 54) (.c (.bool true)))]) .skip)) (.region [ iM 55 6,iM 56 9,iD 57 (.load true 2 (.t 8)),iN (.mapSet 2 (.t 55) (.t 56) (.t 57))])))))) (.region [ iM 26 7,iD 27 (.bin .sub (.t 26) (cI 1)),iM 7 27])))))) (.seq (.region [ iM 59 0,iM 60 5,iM 61 6,iD 62 (.call f_z0t [(.t 59),(.t 60),(.t 61)]),iM 58 62,iD 63 (.extract (.t 58) 0),iD 64 (.extract (.t 58) 1),iM 10 63,iM 11 64]) (.seq (.seq (.region [ iM 65 1,iD 66 (.nop (.t 65)),iD 67 (.fieldAddr 1 (.t 66)),iD 68 (.load false 1 (.t 67)),iM 69 68,⟨(some 70),.move (.t 11),some (some 69,false)⟩,⟨(some 71),.bin .neq (.t 70) (cI 0),some (some 69,false)⟩,iD 72 (.pick (.t 69) (.c (.bool true)) (.t 71)),iM 73 72,⟨(some 74),.move (.t 5),some (some 73,false)⟩,⟨(some 75),.call f_z0g [(.t 74)],some (some 73,false)⟩,⟨(some 76),.un .not (.t 75),some (some 73,false)⟩,iD 77 (.pick (.t 73) (.c (.bool true)) (.t 76)),iM 78 77,⟨(some 79),.move (.t 6),some (some 78,false)⟩,⟨(some 80),.lenM (.t 79),some (some 78,false)⟩,⟨(some 81),.bin .eql (.t 80) (cI 0),some (some 78,false)⟩,iD 82 (.pick (.t 78) (.c (.bool true)) (.t 81))]) (.cond (.t 82) (.seq (.region [ iD 4 (.move (.c .nil))]) .ret) .skip)) (.seq (.region [ iM 83 0,iM 84 5,iM 85 10,iD 86 (.call f_z0v [(.t 83),(.t 84),(.t 85)])]) (.seq (.region [ iM 87 5,iM 88 6,iD 89 (.call f_z10 [(.t 87),(.t 88)]),iM 4 89]) .ret))))))))⟩
structure F_z0w (P : Program) where
 id : FuncId
 z16 : F_z16 P
 z14 : F_z14 P
 z15 : F_z15 P
 z06 : F_z06 P
 z0h : F_z0h P
 z0t : F_z0t P
 z0g : F_z0g P
 z0v : F_z0v P
 z10 : F_z10 P
 has : Has P id [] (c_z0w z16.id z14.id z15.id z06.id z0h.id z0t.id z0g.id z0v.id z10.id)
def c_z0z (f_z0k : FuncId) : AFunc:=⟨53,[],(.seq (.seq .ghost (.draw [ jM 8 0,jD 9 (.nop (.t 8)),jD 10 (.fieldAddr 0 (.t 9)),jD 11 (.load false 1 (.t 10)),jM 12 1,jM 13 0,jD 14 (.nop (.t 13)),jD 15 (.fieldAddr 0 (.t 14)),jD 16 (.load false 1 (.t 15)),jM 17 2,jM 18 0,jD 19 (.nop (.t 18)),jD 20 (.fieldAddr 0 (.t 19)),(iD 21 (.load false 1 (.t 20)),[5]),jM 22 2,(iD 23 (.lookupM 2 .nilm false (.t 21) (.t 22)),[5]),jM 24 0,jD 25 (.nop (.t 24)),jD 26 (.fieldAddr 0 (.t 25)),jD 27 (.load false 1 (.t 26)),jM 28 1,jD 29 (.lookupM 2 .nilm false (.t 27) (.t 28)),jD 30 (.mapEnt 2 .nilm (.t 11) (.t 12)),jD 31 (.extract (.t 30) 1),(iN (.entryStoreM (.t 11) (.t 31) (.t 23)),[]),jD 32 (.mapEnt 2 .nilm (.t 16) (.t 17)),jD 33 (.extract (.t 32) 1),(iN (.entryStoreM (.t 16) (.t 33) (.t 29)),[])])) (.seq (.region [ iM 34 1,iM 35 2,iD 36 (.buildSlice 1 2 [(.str (bs []))] [(0,(.t 34)),(1,(.t 35))]),iD 37 (.len (.t 36)),iD 38 (.move (cI 0))]) (.block 0 (.loop (.seq (.region [ iD 39 (.bin .lss (.t 38) (.t 37))]) (.seq (.cond (.t 39) .skip (.exit 0)) (.seq (.block 1 (.seq (.region [ iD 40 (.indexAddr 1 (.t 36) (.t 38)),iD 41 (.load false 1 (.t 40)),iM 7 41]) (.seq (.region [ iM 42 0,iD 43 (.nop (.t 42)),iD 44 (.fieldAddr 2 (.t 43)),iD 45 (.load false 1 (.t 44)),iM 46 7,iD 47 (.lookupM 2 (.int .i64 0) false (.t 45) (.t 46)),iD 48 (.bin .add (.t 47) (cI 1)),iN (.mapSet 2 (.t 45) (.t 46) (.t 48))]) (.region [ iM 49 0,iM 50 7,iD 51 (.call f_z0k [(.t 49),(.t 50)])])))) (.region [ iD 52 (.bin .add (.t 38) (cI 1)),iM 38 52]))))))))⟩
structure F_z0z (P : Program) where
 id : FuncId
 z0k : F_z0k P
 has : Has P id [300008] (c_z0z z0k.id)
def c_z0x (f_z16 : FuncId) (f_z0g : FuncId) (f_z0z : FuncId) (f_z13 : FuncId) : AFunc:=⟨39,[.tmp 4],(.seq (.region [ iD 4 (.move (.c .nil))]) (.seq (.region [ iM 7 1,iD 8 (.call f_z16 [(.t 7)]),iM 5 8]) (.seq (.region [ iM 9 1,iD 10 (.call f_z16 [(.t 9)]),iM 6 10]) (.seq (.seq (.region [ iM 11 1,iD 12 (.nop (.t 11)),iD 13 (.fieldAddr 1 (.t 12)),iD 14 (.load false 1 (.t 13)),iM 15 14,⟨(some 16),.move (.t 5),some (some 15,false)⟩,⟨(some 17),.call f_z0g [(.t 16)],some (some 15,false)⟩,⟨(some 18),.un .not (.t 17),some (some 15,false)⟩,iD 19 (.pick (.t 15) (.c (.bool true)) (.t 18)),iM 20 19,⟨(some 21),.move (.t 6),some (some 20,false)⟩,⟨(some 22),.call f_z0g [(.t 21)],some (some 20,false)⟩,⟨(some 23),.un .not (.t 22),some (some 20,false)⟩,iD 24 (.pick (.t 20) (.c (.bool true)) (.t 23)),iM 25 24,⟨(some 26),.move (.t 5),some (some 25,false)⟩,⟨(some 27),.move (.t 6),some (some 25,false)⟩,⟨(some 28),.bin .eql (.t 26) (.t 27),some (some 25,false)⟩,iD 29 (.pick (.t 25) (.c (.bool true)) (.t 28))]) (.cond (.t 29) (.seq (.region [ iD 4 (.move (.c .nil))]) .ret) .skip)) (.seq (.region [ iM 30 0,iM 31 5,iM 32 6,iD 33 (.call f_z0z [(.t 30),(.t 31),(.t 32)])]) (.seq (.region [ iD 34 (.buildSliceO 1 1 [(.int .u8 0)] [(0,(.c (.int .u8 2)))]),iM 35 5,iD 36 (.call f_z13 [(.t 34),(.t 35)]),iM 37 6,iD 38 (.call f_z13 [(.t 36),(.t 37)]),iM 4 38]) .ret))))))⟩
structure F_z0x (P : Program) where
 id : FuncId
 z16 : F_z16 P
 z0g : F_z0g P
 z0z : F_z0z P
 z13 : F_z13 P
 has : Has P id [34] (c_z0x z16.id z0g.id z0z.id z13.id)
def c_z0u (f_z14 : FuncId) (f_z0w : FuncId) (f_z0x : FuncId) (f_z07 : FuncId) : AFunc:=⟨29,[.tmp 4],(.seq (.region [ iD 4 (.move (.c (.bool false)))]) (.seq (.region [ iM 7 1,iD 8 (.build [.nil,(.bool false)] [(0,1,(.t 7))]),iD 9 (.box (.t 8)),iM 5 9]) (.seq (.region [ iD 6 (.move (.c .nil))]) (.seq (.seq (.region [ iM 10 5,iD 11 (.call f_z14 [(.t 10),(cI 1)])]) (.block 0 (.seq (.region [ iD 13 (.bin .eql (.t 11) (cI 1)),iM 12 13]) (.cond (.t 12) (.region [ iM 14 0,iM 15 5,iD 16 (.call f_z0w [(.t 14),(.t 15)]),iM 6 16]) (.seq (.region [ iD 18 (.bin .eql (.t 11) (cI 2)),iM 17 18]) (.cond (.t 17) (.region [ iM 19 0,iM 20 5,iD 21 (.call f_z0x [(.t 19),(.t 20)]),iM 6 21]) .skip)))))) (.seq (.region [ iM 22 6,iD 23 (.isNil true (.t 22)),iM 24 23,⟨(some 25),.move (.t 6),some (some 24,true)⟩,⟨(some 26),.move (.t 1),some (some 24,true)⟩,⟨(some 27),.call f_z07 [(.t 25),(.t 26)],some (some 24,true)⟩,iD 28 (.pick (.t 24) (.t 27) (.c (.bool false))),iM 4 28]) .ret)))))⟩
structure F_z0u (P : Program) where
 id : FuncId
 z14 : F_z14 P
 z0w : F_z0w P
 z0x : F_z0x P
 z07 : F_z07 P
 has : Has P id [] (c_z0u z14.id z0w.id z0x.id z07.id)
def c_z0i (f_z09 : FuncId) (f_journal_Read : FuncId) (f_z0u : FuncId) : AFunc:=⟨33,[.tmp 2,.tmp 3],(.seq (.region [ iD 2 (.move (.c .nilp)),iD 3 (.move (cI 0))]) (.seq (.region [ iD 9 (.mkMap),iD 10 (.mkMap),iD 11 (.mkMap),iM 12 0,iD 13 (.call f_z09 [(.t 12)]),iD 14 (.build [.nilm,.nilm,.nilm,.nil] [(0,1,(.t 9)),(1,1,(.t 10)),(2,1,(.t 11)),(3,1,(.t 13))]),iD 15 (.box (.t 14)),iM 4 15]) (.seq (.region [ iM 17 0,iD 18 (.call f_journal_Read [(.t 17)]),iM 16 18,iD 19 (.extract (.t 16) 0),iD 20 (.extract (.t 16) 1),iM 5 19,iM 6 20]) (.seq (.seq (.region [ iM 21 5,iD 22 (.len (.t 21)),iD 23 (.move (cI 0))]) (.block 0 (.loop (.seq (.region [ iD 24 (.bin .lss (.t 23) (.t 22))]) (.seq (.cond (.t 24) .skip (.exit 0)) (.seq (.block 1 (.seq (.region [ iD 25 (.indexAddr 1 (.t 21) (.t 23)),iD 26 (.load false 1 (.t 25)),iM 8 26]) (.seq (.region [ iM 27 4,iM 28 8,iD 29 (.call f_z0u [(.t 27),(.t 28)]),iD 30 (.un .not (.t 29))]) (.cond (.t 30) (.seq (.region [ iD 2 (.move (.c .nilp)),iD 3 (.move (cI 11))]) .ret) .skip)))) (.region [ iD 31 (.bin .add (.t 23) (cI 1)),iM 23 31]))))))) (.seq (.region [ iM 32 4,iM 2 32,iD 3 (.move (cI 0))]) .ret)))))⟩
structure F_z0i (P : Program) where
 id : FuncId
 z09 : F_z09 P
 journal_Read : RawF
 z0u : F_z0u P
 has : Has P id [] (c_z0i z09.id journal_Read.id z0u.id)
def c_z0y : AFunc:=⟨29,[],(.seq (.region [ iD 7 (.box (.t 3))]) (.seq (.seq (.region [ iM 8 0,iD 9 (.nop (.t 8)),iD 10 (.fieldAddr 1 (.t 9)),iD 11 (.load false 1 (.t 10)),iM 12 1,iD 13 (.lookupM 2 .nilm false (.t 11) (.t 12)),iD 14 (.isNilM false (.t 13))]) (.cond (.t 14) (.region [ iM 15 0,iD 16 (.nop (.t 15)),iD 17 (.fieldAddr 1 (.t 16)),iD 18 (.load false 1 (.t 17)),iM 19 1,iD 20 (.mkMap),iN (.mapSet 2 (.t 18) (.t 19) (.t 20))]) .skip)) (.draw [ jM 21 0,jD 22 (.nop (.t 21)),jD 23 (.fieldAddr 1 (.t 22)),jD 24 (.load false 1 (.t 23)),jM 25 1,jD 26 (.lookupM 2 .nilm false (.t 24) (.t 25)),jM 27 2,jD 28 (.load true 2 (.t 7)),(iN (.mapSet 2 (.t 26) (.t 27) (.t 28)),[])])))⟩
structure F_z0y (P : Program) where
 id : FuncId
 has : Has P id [] c_z0y
def c_z0p (f_z0g : FuncId) (f_z0h : FuncId) (f_z06 : FuncId) (f_z0y : FuncId) : AFunc:=⟨29,[.tmp 6],(.seq (.region [ iD 5 (.box (.t 2)),iD 6 (.move (cI 0))]) (.seq (.block 0 (.seq (.seq (.region [ iM 8 1,iD 9 (.call f_z0g [(.t 8)]),iD 10 (.un .not (.t 9)),iM 7 10]) (.cond (.t 7) .skip (.region [ iD 11 (.fieldAddr 0 (.t 5)),iD 12 (.load false 1 (.t 11)),iD 13 (.call f_z0h [(.t 12)]),iD 14 (.un .not (.t 13)),iM 7 14]))) (.cond (.t 7) (.seq (.region [ iD 6 (.move (cI 4))]) .ret) (.seq (.region [ iD 16 (.fieldAddr 1 (.t 5)),iD 17 (.load false 1 (.t 16)),iD 18 (.len (.t 17)),iD 19 (.bin .gtr (.t 18) (cI 65536)),iM 15 19]) (.cond (.t 15) (.seq (.region [ iD 6 (.move (cI 2))]) .ret) .skip))))) (.seq (.draw [ jM 20 0,jM 21 1,jD 22 (.fieldAddr 0 (.t 5)),jD 23 (.load false 1 (.t 22)),jD 24 (.fieldAddr 1 (.t 5)),jD 25 (.load false 1 (.t 24)),jD 26 (.call f_z06 [(.t 25)]),jD 27 (.build [(.bool false),.nil] [(1,1,(.t 26))]),jD 28 (.callE f_z0y [(.t 20),(.t 21),(.t 23),(.t 27)])]) (.seq (.region [ iD 6 (.move (cI 0))]) .ret))))⟩
structure F_z0p (P : Program) where
 id : FuncId
 z0g : F_z0g P
 z0h : F_z0h P
 z06 : F_z06 P
 z0y : F_z0y P
 has : Has P id [28] (c_z0p z0g.id z0h.id z06.id z0y.id)
def c_z0n (f_z06 : FuncId) : AFunc:=⟨24,[.tmp 6,.tmp 7],(.seq (.region [ iD 6 (.move (.c .nil)),iD 7 (.move (.c (.bool false)))]) (.seq (.region [ iM 11 0,iD 12 (.nop (.t 11)),iD 13 (.fieldAddr 0 (.t 12)),iD 14 (.load false 1 (.t 13)),iM 15 1,iD 16 (.lookupM 2 .nilm false (.t 14) (.t 15)),iM 17 2,iD 18 (.lookupM 2 .nil true (.t 16) (.t 17)),iM 10 18,iD 19 (.extract (.t 10) 0),iD 20 (.extract (.t 10) 1),iM 8 19,iM 9 20]) (.seq (.region [ iM 21 8,iD 22 (.call f_z06 [(.t 21)]),iM 23 9,iM 6 22,iM 7 23]) .ret)))⟩
structure F_z0n (P : Program) where
 id : FuncId
 z06 : F_z06 P
 has : Has P id [] (c_z0n z06.id)
def c_z0j (f_z0g : FuncId) (f_z0t : FuncId) (f_z10 : FuncId) (f_z08 : FuncId) (f_z0v : FuncId) : AFunc:=⟨55,[.tmp 4],(.seq (.region [ iD 4 (.move (cI 0))]) (.seq (.region [ iM 9 0,iD 10 (.nop (.t 9)),iD 11 (.fieldAddr 1 (.t 10)),iD 12 (.load false 1 (.t 11)),iM 13 1,iD 14 (.lookupM 2 .nilm false (.t 12) (.t 13)),iM 5 14]) (.seq (.block 0 (.seq (.region [ iM 16 1,iD 17 (.call f_z0g [(.t 16)]),iD 18 (.un .not (.t 17)),iM 15 18]) (.cond (.t 15) (.seq (.region [ iD 4 (.move (cI 4))]) .ret) (.seq (.region [ iM 20 5,iD 21 (.lenM (.t 20)),iD 22 (.bin .eql (.t 21) (cI 0)),iM 19 22]) (.cond (.t 19) (.seq (.region [ iD 4 (.move (cI 13))]) .ret) .skip))))) (.seq (.region [ iM 24 0,iM 25 1,iM 26 5,iD 27 (.call f_z0t [(.t 24),(.t 25),(.t 26)]),iM 23 27,iD 28 (.extract (.t 23) 0),iD 29 (.extract (.t 23) 1),iM 6 28,iM 7 29]) (.seq (.seq (.region [ iM 30 7,iD 31 (.bin .neq (.t 30) (cI 0))]) (.cond (.t 31) (.seq (.region [ iM 32 7,iM 4 32]) .ret) .skip)) (.seq (.draw [ jM 34 0,jD 35 (.nop (.t 34)),jD 36 (.fieldAddr 3 (.t 35)),jD 37 (.load false 1 (.t 36)),jM 38 1,jM 39 5,jD 40 (.call f_z10 [(.t 38),(.t 39)]),jD 41 (.call f_z08 [(.t 37),(.t 40)]),jM 33 41,jD 42 (.extract (.t 33) 0),jD 43 (.extract (.t 33) 1),jM 8 42,jM 7 43]) (.seq (.seq (.region [ iM 44 7,iD 45 (.bin .neq (.t 44) (cI 0))]) (.cond (.t 45) (.seq (.region [ iM 46 7,iM 4 46]) .ret) .skip)) (.seq (.region [ iM 47 0,iM 48 8,iD 49 (.nop (.t 47)),iD 50 (.fieldAddr 3 (.t 49)),iN (.store 1 (.t 50) (.t 48))]) (.seq (.region [ iM 51 0,iM 52 1,iM 53 6,iD 54 (.call f_z0v [(.t 51),(.t 52),(.t 53)])]) (.seq (.region [ iD 4 (.move (cI 0))]) .ret))))))))))⟩
structure F_z0j (P : Program) where
 id : FuncId
 z0g : F_z0g P
 z0t : F_z0t P
 z10 : F_z10 P
 z08 : F_z08 P
 z0v : F_z0v P
 has : Has P id [] (c_z0j z0g.id z0t.id z10.id z08.id z0v.id)
def c_z0r (f_z0g : FuncId) (f_z13 : FuncId) (f_z08 : FuncId) (f_z0z : FuncId) : AFunc:=⟨46,[.tmp 6],(.seq (.region [ iD 6 (.move (cI 0))]) (.seq (.block 0 (.seq (.region [ iM 10 1,iD 11 (.call f_z0g [(.t 10)]),iD 12 (.un .not (.t 11)),iM 13 12,⟨(some 14),.move (.t 2),some (some 13,false)⟩,⟨(some 15),.call f_z0g [(.t 14)],some (some 13,false)⟩,⟨(some 16),.un .not (.t 15),some (some 13,false)⟩,iD 17 (.pick (.t 13) (.c (.bool true)) (.t 16)),iM 9 17]) (.cond (.t 9) (.seq (.region [ iD 6 (.move (cI 4))]) .ret) (.seq (.region [ iM 19 1,iM 20 2,iD 21 (.bin .eql (.t 19) (.t 20)),iM 18 21]) (.cond (.t 18) (.seq (.region [ iD 6 (.move (cI 6))]) .ret) .skip))))) (.seq (.draw [ jM 23 0,jD 24 (.nop (.t 23)),jD 25 (.fieldAddr 3 (.t 24)),(iD 26 (.load false 1 (.t 25)),[10,8,6]),jD 27 (.buildSliceO 1 1 [(.int .u8 0)] [(0,(.c (.int .u8 2)))]),jM 28 1,jD 29 (.callE f_z13 [(.t 27),(.t 28)]),jM 30 2,jD 31 (.callE f_z13 [(.t 29),(.t 30)]),jD 32 (.call f_z08 [(.t 26),(.t 31)]),jM 22 32,jD 33 (.extract (.t 22) 0),jD 34 (.extract (.t 22) 1),jM 7 33,jM 8 34]) (.seq (.seq (.region [ iM 35 8,iD 36 (.bin .neq (.t 35) (cI 0))]) (.cond (.t 36) (.seq (.region [ iM 37 8,iM 6 37]) .ret) .skip)) (.seq (.region [ iM 38 0,iM 39 7,iD 40 (.nop (.t 38)),iD 41 (.fieldAddr 3 (.t 40)),iN (.store 1 (.t 41) (.t 39))]) (.seq (.region [ iM 42 0,iM 43 1,iM 44 2,iD 45 (.call f_z0z [(.t 42),(.t 43),(.t 44)])]) (.seq (.region [ iD 6 (.move (cI 0))]) .ret)))))))⟩
structure F_z0r (P : Program) where
 id : FuncId
 z0g : F_z0g P
 z13 : F_z13 P
 z08 : F_z08 P
 z0z : F_z0z P
 has : Has P id [27,29,31] (c_z0r z0g.id z13.id z08.id z0z.id)
def c_z0l (f_z06 : FuncId) : AFunc:=⟨8,[.tmp 2],(.seq (.region [ iD 2 (.move (.c .nil))]) (.seq (.region [ iM 3 0,iD 4 (.nop (.t 3)),iD 5 (.fieldAddr 3 (.t 4)),iD 6 (.load false 1 (.t 5)),iD 7 (.call f_z06 [(.t 6)]),iM 2 7]) .ret))⟩
structure F_z0l (P : Program) where
 id : FuncId
 z06 : F_z06 P
 has : Has P id [] (c_z0l z06.id)
def c_z0s : AFunc:=⟨11,[.tmp 4],(.seq (.region [ iD 4 (.move (cI 0))]) (.seq (.region [ iM 5 0,iD 6 (.nop (.t 5)),iD 7 (.fieldAddr 2 (.t 6)),iD 8 (.load false 1 (.t 7)),iM 9 1,iD 10 (.lookupM 2 (.int .i64 0) false (.t 8) (.t 9)),iM 4 10]) .ret))⟩
structure F_z0s (P : Program) where
 id : FuncId
 has : Has P id [] c_z0s
def c_z0e (f_maps_Keys_mapstringLbyte_string_Lbyte_1 : FuncId) : AFunc:=⟨4,[.tmp 2],(.seq (.region [ iD 1 (.box (.t 0)),iD 2 (.move (.c .junk))]) (.seq (.region [ iD 3 (.makeFunc f_maps_Keys_mapstringLbyte_string_Lbyte_1 [(.t 1)]),iM 2 3]) .ret))⟩
structure F_z0e (P : Program) where
 id : FuncId
 maps_Keys_mapstringLbyte_string_Lbyte_1 : RawF
 has : Has P id [] (c_z0e maps_Keys_mapstringLbyte_string_Lbyte_1.id)
def c_z0m (f_z0e : FuncId) (f_slices_Sorted_string : FuncId) : AFunc:=⟨13,[.tmp 4],(.seq (.region [ iD 4 (.move (.c .nil))]) (.seq (.region [ iM 5 0,iD 6 (.nop (.t 5)),iD 7 (.fieldAddr 0 (.t 6)),iD 8 (.load false 1 (.t 7)),iM 9 1,iD 10 (.lookupM 2 .nilm false (.t 8) (.t 9)),iD 11 (.call f_z0e [(.t 10)]),iD 12 (.call f_slices_Sorted_string [(.t 11)]),iM 4 12]) .ret))⟩
structure F_z0m (P : Program) where
 id : FuncId
 z0e : F_z0e P
 slices_Sorted_string : RawF
 has : Has P id [] (c_z0m z0e.id slices_Sorted_string.id)
def c_z1d (f_z0i : FuncId) (f_z0p : FuncId) (f_z0n : FuncId) (f_z0j : FuncId) (f_z0r : FuncId) (f_z0l : FuncId) (f_z0s : FuncId) (f_z0m : FuncId) : AFunc:=⟨98,[.tmp 0],(.seq (.region [ iD 0 (.move (.c (.bool false)))]) (.seq (.region [ iD 12 (.call f_z0i [(.c .nil)]),iM 11 12,iD 13 (.extract (.t 11) 0),iD 14 (.extract (.t 11) 1),iM 1 13,iM 2 14]) (.seq (.seq (.region [ iM 15 2,iD 16 (.bin .neq (.t 15) (cI 0)),iM 17 16,⟨(some 18),.move (.t 1),some (some 17,false)⟩,⟨(some 19),.isNilP false (.t 18),some (some 17,false)⟩,iD 20 (.pick (.t 17) (.c (.bool true)) (.t 19)),iM 21 20,⟨(some 22),.move (.t 1),some (some 21,false)⟩,⟨(some 23),.buildSliceO 1 1 [(.int .u8 0)] [(0,(.c (.int .u8 49)))],some (some 21,false)⟩,⟨(some 24),.mark (.t 23),some (some 21,false)⟩,⟨(some 25),.build [(.str (bs [])),.nil] [(0,1,(.c (.str (bs [97])))),(1,1,(.t 24))],some (some 21,false)⟩,⟨(some 26),.call f_z0p [(.t 22),(.c (.str (bs [108,105,118,101]))),(.t 25)],some (some 21,false)⟩,⟨(some 27),.bin .neq (.t 26) (cI 0),some (some 21,false)⟩,iD 28 (.pick (.t 21) (.c (.bool true)) (.t 27))]) (.cond (.t 28) (.seq (.region [ iD 0 (.move (.c (.bool false)))]) .ret) .skip)) (.seq (.region [ iM 30 1,iD 31 (.call f_z0n [(.t 30),(.c (.str (bs [108,105,118,101]))),(.c (.str (bs [97])))]),iM 29 31,iD 32 (.extract (.t 29) 0),iD 33 (.extract (.t 29) 1),iM 3 32,iM 4 33]) (.seq (.seq (.region [ iM 34 4,iM 35 34,⟨(some 36),.move (.t 1),some (some 35,false)⟩,⟨(some 37),.call f_z0j [(.t 36),(.c (.str (bs [108,105,118,101])))],some (some 35,false)⟩,⟨(some 38),.bin .neq (.t 37) (cI 0),some (some 35,false)⟩,iD 39 (.pick (.t 35) (.c (.bool true)) (.t 38)),iM 40 39,⟨(some 41),.move (.t 1),some (some 40,false)⟩,⟨(some 42),.call f_z0j [(.t 41),(.c (.str (bs [108,105,118,101])))],some (some 40,false)⟩,⟨(some 43),.bin .neq (.t 42) (cI 13),some (some 40,false)⟩,iD 44 (.pick (.t 40) (.c (.bool true)) (.t 43)),iM 45 44,⟨(some 46),.move (.t 1),some (some 45,false)⟩,⟨(some 47),.call f_z0r [(.t 46),(.c (.str (bs [108,105,118,101]))),(.c (.str (bs [115,104,97,100,111,119])))],some (some 45,false)⟩,⟨(some 48),.bin .neq (.t 47) (cI 0),some (some 45,false)⟩,iD 49 (.pick (.t 45) (.c (.bool true)) (.t 48))]) (.cond (.t 49) (.seq (.region [ iD 0 (.move (.c (.bool false)))]) .ret) .skip)) (.seq (.region [ iM 51 1,iD 52 (.call f_z0l [(.t 51)]),iD 53 (.call f_z0i [(.t 52)]),iM 50 53,iD 54 (.extract (.t 50) 0),iD 55 (.extract (.t 50) 1),iM 5 54,iM 6 55]) (.seq (.seq (.region [ iM 56 6,iD 57 (.bin .neq (.t 56) (cI 0)),iM 58 57,⟨(some 59),.move (.t 5),some (some 58,false)⟩,⟨(some 60),.isNilP false (.t 59),some (some 58,false)⟩,iD 61 (.pick (.t 58) (.c (.bool true)) (.t 60))]) (.cond (.t 61) (.seq (.region [ iD 0 (.move (.c (.bool false)))]) .ret) .skip)) (.seq (.region [ iM 63 5,iD 64 (.call f_z0n [(.t 63),(.c (.str (bs [115,104,97,100,111,119]))),(.c (.str (bs [97])))]),iM 62 64,iD 65 (.extract (.t 62) 0),iD 66 (.extract (.t 62) 1),iM 7 65,iM 8 66]) (.seq (.region [ iM 68 5,iD 69 (.call f_z0n [(.t 68),(.c (.str (bs [108,105,118,101]))),(.c (.str (bs [97])))]),iM 67 69,iD 70 (.extract (.t 67) 0),iD 71 (.extract (.t 67) 1),iM 9 70,iM 10 71]) (.seq (.region [ iM 72 8,iM 73 72,⟨(some 74),.move (.t 7),some (some 73,true)⟩,⟨(some 75),.convBS (.t 74),some (some 73,true)⟩,⟨(some 76),.bin .eql (.t 75) (.c (.str (bs [49]))),some (some 73,true)⟩,iD 77 (.pick (.t 73) (.t 76) (.c (.bool false))),iM 78 77,⟨(some 79),.move (.t 10),some (some 78,true)⟩,⟨(some 80),.un .not (.t 79),some (some 78,true)⟩,iD 81 (.pick (.t 78) (.t 80) (.c (.bool false))),iM 82 81,⟨(some 83),.move (.t 5),some (some 82,true)⟩,⟨(some 84),.call f_z0s [(.t 83),(.c (.str (bs [108,105,118,101])))],some (some 82,true)⟩,⟨(some 85),.bin .eql (.t 84) (cI 2),some (some 82,true)⟩,iD 86 (.pick (.t 82) (.t 85) (.c (.bool false))),iM 87 86,⟨(some 88),.move (.t 5),some (some 87,true)⟩,⟨(some 89),.call f_z0s [(.t 88),(.c (.str (bs [115,104,97,100,111,119])))],some (some 87,true)⟩,⟨(some 90),.bin .eql (.t 89) (cI 1),some (some 87,true)⟩,iD 91 (.pick (.t 87) (.t 90) (.c (.bool false))),iM 92 91,⟨(some 93),.move (.t 5),some (some 92,true)⟩,⟨(some 94),.call f_z0m [(.t 93),(.c (.str (bs [115,104,97,100,111,119])))],some (some 92,true)⟩,⟨(some 95),.len (.t 94),some (some 92,true)⟩,⟨(some 96),.bin .eql (.t 95) (cI 1),some (some 92,true)⟩,iD 97 (.pick (.t 92) (.t 96) (.c (.bool false))),iM 0 97]) .ret))))))))))⟩
structure F_z1d (P : Program) where
 id : FuncId
 z0i : F_z0i P
 z0p : F_z0p P
 z0n : F_z0n P
 z0j : F_z0j P
 z0r : F_z0r P
 z0l : F_z0l P
 z0s : F_z0s P
 z0m : F_z0m P
 has : Has P id [23] (c_z1d z0i.id z0p.id z0n.id z0j.id z0r.id z0l.id z0s.id z0m.id)
def c_z1m : AFunc:=⟨6,[.tmp 0],(.seq (.region [ iD 0 (.move (.c .nilp))]) (.seq (.region [ iD 1 (.mkMap),iD 2 (.mkMap),iD 3 (.mkMap),iD 4 (.build [.nilm,.nilm,.nilm,.nil] [(0,1,(.t 1)),(1,1,(.t 2)),(2,1,(.t 3))]),iD 5 (.box (.t 4)),iM 0 5]) .ret))⟩
structure F_z1m (P : Program) where
 id : FuncId
 has : Has P id [] c_z1m
def c_z1c (f_z27 : FuncId) : AFunc:=⟨49,[.tmp 2],(.seq (.region [ iD 2 (.move (.c .nil))]) (.seq (.region [ iM 6 0,iD 7 (.build [.nil,(.int .i64 0)] [(0,1,(.t 6))]),iD 8 (.box (.t 7)),iM 3 8]) (.seq (.region [ iD 4 (.move (.c .nil))]) (.seq (.seq (.region [ iD 5 (.move (cI 0))]) (.block 0 (.loop (.seq (.seq (.region [ iM 9 5,iD 10 (.bin .lss (.t 9) (cI 40)),iM 11 10,⟨(some 12),.move (.t 3),some (some 11,true)⟩,⟨(some 13),.nop (.t 12),some (some 11,true)⟩,⟨(some 14),.fieldAddr 1 (.t 13),some (some 11,true)⟩,⟨(some 15),.load false 1 (.t 14),some (some 11,true)⟩,⟨(some 16),.move (.t 0),some (some 11,true)⟩,⟨(some 17),.len (.t 16),some (some 11,true)⟩,⟨(some 18),.bin .lss (.t 15) (.t 17),some (some 11,true)⟩,iD 19 (.pick (.t 11) (.t 18) (.c (.bool false)))]) (.cond (.t 19) .skip (.exit 0))) (.seq (.block 1 (.draw [ jM 22 4,jM 23 3,jD 24 (.callE f_z27 [(.t 23),(cI 9)]),(iD 25 (.buildSlice 1 3 [(.str (bs []))] [(0,(.c (.str (bs [108,105,118,101])))),(1,(.c (.str (bs [115,104,97,100,111,119])))),(2,(.c (.str (bs [120]))))]),[]),jM 26 3,jD 27 (.callE f_z27 [(.t 26),(cI 3)]),(iD 28 (.indexAddr 1 (.t 25) (.t 27)),[16,12,9,5]),(iD 29 (.load false 1 (.t 28)),[16,12,9,5]),(iD 30 (.buildSlice 1 4 [(.str (bs []))] [(0,(.c (.str (bs [97])))),(1,(.c (.str (bs [98])))),(2,(.c (.str (bs [109,46,97])))),(3,(.c (.str (bs [108,105,118,101]))))]),[]),jM 31 3,jD 32 (.callE f_z27 [(.t 31),(cI 4)]),(iD 33 (.indexAddr 1 (.t 30) (.t 32)),[12,9,5]),(iD 34 (.load false 1 (.t 33)),[12,9,5]),jM 35 3,jD 36 (.callE f_z27 [(.t 35),(cI 256)]),jD 37 (.conv .u8 (.t 36)),jM 38 3,jD 39 (.callE f_z27 [(.t 38),(cI 3)]),jD 40 (.conv .u8 (.t 39)),jD 41 (.buildSlice 1 2 [(.int .u8 0)] [(0,(.t 37)),(1,(.t 40))]),jM 42 3,jD 43 (.callE f_z27 [(.t 42),(cI 3)]),jD 44 (.slice 1 (.t 41) none (some (.t 43))),jD 45 (.build [(.int .i64 0),.nil,(.str (bs [])),(.str (bs [])),(.str (bs [])),.nil,(.bool false),(.int .i64 0),(.int .i64 0),(.int .i64 0)] [(0,1,(.t 24)),(2,1,(.t 29)),(3,1,(.t 34)),(1,1,(.t 44))]),jD 46 (.buildSlice 10 1 [(.int .i64 0),.nil,(.str (bs [])),(.str (bs [])),(.str (bs [])),.nil,(.bool false),(.int .i64 0),(.int .i64 0),(.int .i64 0)] [(0,(.t 45))]),jD 47 (.append 10 136 [(.int .i64 0),.nil,(.str (bs [])),(.str (bs [])),(.str (bs [])),.nil,(.bool false),(.int .i64 0),(.int .i64 0),(.int .i64 0)] (.t 22) (.t 46)),jM 4 47])) (.region [ iM 20 5,iD 21 (.bin .add (.t 20) (cI 1)),iM 5 21])))))) (.seq (.region [ iM 48 4,iM 2 48]) .ret)))))⟩
structure F_z1c (P : Program) where
 id : FuncId
 z27 : F_z27 P
 has : Has P id [24,27,32,36,39,43] (c_z1c z27.id)
def c_z1y : AFunc:=⟨78,[],(.seq (.region [ iD 5 (.box (.t 2))]) (.seq (.region [ iD 6 (.move (.c .nil))]) (.seq (.seq (.region [ iD 7 (.move (cI 0))]) (.block 0 (.loop (.seq (.seq (.region [ iM 9 7,iM 10 0,iD 11 (.nop (.t 10)),iD 12 (.fieldAddr 1 (.t 11)),iD 13 (.load false 1 (.t 12)),iM 14 1,iD 15 (.lookupM 2 .nil false (.t 13) (.t 14)),iD 16 (.len (.t 15)),iD 17 (.bin .lss (.t 9) (.t 16))]) (.cond (.t 17) .skip (.exit 0))) (.seq (.block 1 (.seq (.draw [ jM 20 0,jD 21 (.nop (.t 20)),jD 22 (.fieldAddr 1 (.t 21)),jD 23 (.load false 1 (.t 22)),jM 24 1,jD 25 (.lookupM 2 .nil false (.t 23) (.t 24)),jM 26 7,jD 27 (.indexAddr 3 (.t 25) (.t 26)),jD 28 (.fieldAddr 0 (.t 27)),jD 29 (.load false 1 (.t 28)),jD 30 (.fieldAddr 0 (.t 5)),jD 31 (.load false 1 (.t 30)),jD 32 (.bin .neq (.t 29) (.t 31))]) (.cond (.t 32) (.region [ iM 33 6,iM 34 0,iD 35 (.nop (.t 34)),iD 36 (.fieldAddr 1 (.t 35)),iD 37 (.load false 1 (.t 36)),iM 38 1,iD 39 (.lookupM 2 .nil false (.t 37) (.t 38)),iM 40 7,iD 41 (.indexAddr 3 (.t 39) (.t 40)),iD 42 (.load true 3 (.t 41)),iD 43 (.buildSliceO 3 1 [(.str (bs [])),(.bool false),.nil] [(0,(.t 42))]),iD 44 (.append 3 48 [(.str (bs [])),(.bool false),.nil] (.t 33) (.t 43)),iM 6 44]) .skip))) (.region [ iM 18 7,iD 19 (.bin .add (.t 18) (cI 1)),iM 7 19])))))) (.seq (.region [ iM 45 6,iD 46 (.len (.t 45)),iM 8 46]) (.seq (.block 2 (.loop (.seq (.seq (.draw [ jM 47 8,jD 48 (.bin .gtr (.t 47) (cI 0)),jM 49 48,(⟨(some 50),.fieldAddr 0 (.t 5),some (some 49,true)⟩,[]),(⟨(some 51),.load false 1 (.t 50),some (some 49,true)⟩,[]),(⟨(some 52),.move (.t 6),some (some 49,true)⟩,[]),(⟨(some 53),.move (.t 8),some (some 49,true)⟩,[]),(⟨(some 54),.bin .sub (.t 53) (cI 1),some (some 49,true)⟩,[]),(⟨(some 55),.indexAddr 3 (.t 52) (.t 54),some (some 49,true)⟩,[]),(⟨(some 56),.fieldAddr 0 (.t 55),some (some 49,true)⟩,[]),(⟨(some 57),.load false 1 (.t 56),some (some 49,true)⟩,[]),(⟨(some 58),.bin .lss (.t 51) (.t 57),some (some 49,true)⟩,[]),jD 59 (.pick (.t 49) (.t 58) (.c (.bool false)))]) (.cond (.t 59) .skip (.exit 2))) (.block 3 (.region [ iM 60 8,iD 61 (.bin .sub (.t 60) (cI 1)),iM 8 61]))))) (.draw [ jM 62 0,jD 63 (.nop (.t 62)),jD 64 (.fieldAddr 1 (.t 63)),(iD 65 (.load false 1 (.t 64)),[6,2,1]),jM 66 1,jM 67 6,jM 68 8,jM 69 8,(iD 70 (.slice3 3 (.t 67) (.t 68) (.t 69)),[6,2]),jD 71 (.load true 3 (.t 5)),jD 72 (.buildSliceO 3 1 [(.str (bs [])),(.bool false),.nil] [(0,(.t 71))]),jM 73 6,jM 74 8,(iD 75 (.slice 3 (.t 73) (some (.t 74)) none),[17]),jD 76 (.append 3 48 [(.str (bs [])),(.bool false),.nil] (.t 72) (.t 75)),jD 77 (.append 3 48 [(.str (bs [])),(.bool false),.nil] (.t 70) (.t 76)),(iN (.mapSet 2 (.t 65) (.t 66) (.t 77)),[])]))))))⟩
structure F_z1y (P : Program) where
 id : FuncId
 has : Has P id [43,72] c_z1y
def c_z1u (f_z25 : FuncId) (f_z26 : FuncId) (f_z1y : FuncId) : AFunc:=⟨29,[.tmp 6],(.seq (.region [ iD 5 (.box (.t 2)),iD 6 (.move (cI 0))]) (.seq (.seq (.region [ iM 7 1,iD 8 (.call f_z25 [(.t 7)]),iD 9 (.un .not (.t 8)),iM 10 9,⟨(some 11),.fieldAddr 0 (.t 5),some (some 10,false)⟩,⟨(some 12),.load false 1 (.t 11),some (some 10,false)⟩,⟨(some 13),.call f_z26 [(.t 12)],some (some 10,false)⟩,⟨(some 14),.un .not (.t 13),some (some 10,false)⟩,iD 15 (.pick (.t 10) (.c (.bool true)) (.t 14))]) (.cond (.t 15) (.seq (.region [ iD 6 (.move (cI 4))]) .ret) .skip)) (.seq (.seq (.region [ iD 16 (.fieldAddr 1 (.t 5)),iD 17 (.load false 1 (.t 16)),iD 18 (.len (.t 17)),iD 19 (.bin .gtr (.t 18) (cI 65536))]) (.cond (.t 19) (.seq (.region [ iD 6 (.move (cI 2))]) .ret) .skip)) (.seq (.draw [ jM 20 0,jM 21 1,jD 22 (.fieldAddr 0 (.t 5)),(iD 23 (.load false 1 (.t 22)),[2]),jD 24 (.fieldAddr 1 (.t 5)),jD 25 (.load false 1 (.t 24)),jD 26 (.append 1 1 [(.int .u8 0)] (.c .nil) (.t 25)),jD 27 (.build [(.str (bs [])),(.bool false),.nil] [(0,1,(.t 23)),(2,1,(.t 26))]),jD 28 (.callE f_z1y [(.t 20),(.t 21),(.t 27)])]) (.seq (.region [ iD 6 (.move (cI 0))]) .ret)))))⟩
structure F_z1u (P : Program) where
 id : FuncId
 z25 : F_z25 P
 z26 : F_z26 P
 z1y : F_z1y P
 has : Has P id [28] (c_z1u z25.id z26.id z1y.id)
def c_z1t (f_z25 : FuncId) (f_z26 : FuncId) (f_z1y : FuncId) : AFunc:=⟨20,[.tmp 6],(.seq (.region [ iD 6 (.move (cI 0))]) (.seq (.seq (.region [ iM 7 1,iD 8 (.call f_z25 [(.t 7)]),iD 9 (.un .not (.t 8)),iM 10 9,⟨(some 11),.move (.t 2),some (some 10,false)⟩,⟨(some 12),.call f_z26 [(.t 11)],some (some 10,false)⟩,⟨(some 13),.un .not (.t 12),some (some 10,false)⟩,iD 14 (.pick (.t 10) (.c (.bool true)) (.t 13))]) (.cond (.t 14) (.seq (.region [ iD 6 (.move (cI 4))]) .ret) .skip)) (.seq (.region [ iM 15 0,iM 16 1,iM 17 2,iD 18 (.build [(.str (bs [])),(.bool false),.nil] [(0,1,(.t 17)),(1,1,(.c (.bool true)))]),iD 19 (.call f_z1y [(.t 15),(.t 16),(.t 18)])]) (.seq (.region [ iD 6 (.move (cI 0))]) .ret))))⟩
structure F_z1t (P : Program) where
 id : FuncId
 z25 : F_z25 P
 z26 : F_z26 P
 z1y : F_z1y P
 has : Has P id [] (c_z1t z25.id z26.id z1y.id)
def c_z24 : AFunc:=⟨9,[.tmp 2],(.seq (.region [ iD 2 (.move (.c .nil))]) (.seq (.region [ iM 3 0,iD 4 (.lenS (.t 3)),iD 5 (.conv .u8 (.t 4)),iD 6 (.buildSliceO 1 1 [(.int .u8 0)] [(0,(.t 5))]),iM 7 0,iD 8 (.append 1 1 [(.int .u8 0)] (.t 6) (.t 7)),iM 2 8]) .ret))⟩
structure F_z24 (P : Program) where
 id : FuncId
 has : Has P id [6] c_z24
def c_z20 : AFunc:=⟨4,[.tmp 2],(.seq (.region [ iD 2 (.move (.c (.int .u8 0)))]) (.seq (.seq (.region [ iM 3 0]) (.cond (.t 3) (.seq (.region [ iD 2 (.move (.c (.int .u8 1)))]) .ret) .skip)) (.seq (.region [ iD 2 (.move (.c (.int .u8 0)))]) .ret)))⟩
structure F_z20 (P : Program) where
 id : FuncId
 has : Has P id [] c_z20
def c_z1p : AFunc:=⟨9,[],(.region [ iM 4 0,iD 5 (.nop (.t 4)),iD 6 (.fieldAddr 1 (.t 5)),iD 7 (.load false 1 (.t 6)),iM 8 1,iN (.deleteM 2 (.t 7) (.t 8))])⟩
structure F_z1p (P : Program) where
 id : FuncId
 has : Has P id [] c_z1p
def c_z1o (f_z25 : FuncId) (f_z24 : FuncId) (f_z1k : FuncId) (f_z20 : FuncId) (f_z1i : FuncId) (f_z1p : FuncId) : AFunc:=⟨146,[.tmp 4],(.seq (.region [ iD 4 (.move (cI 0))]) (.seq (.seq (.region [ iM 13 1,iD 14 (.call f_z25 [(.t 13)]),iD 15 (.un .not (.t 14))]) (.cond (.t 15) (.seq (.region [ iD 4 (.move (cI 4))]) .ret) .skip)) (.seq (.region [ iM 16 0,iD 17 (.nop (.t 16)),iD 18 (.fieldAddr 1 (.t 17)),iD 19 (.load false 1 (.t 18)),iM 20 1,iD 21 (.lookupM 2 .nil false (.t 19) (.t 20)),iM 5 21]) (.seq (.seq (.region [ iM 22 5,iD 23 (.len (.t 22)),iD 24 (.bin .eql (.t 23) (cI 0))]) (.cond (.t 24) (.seq (.region [ iD 4 (.move (cI 13))]) .ret) .skip)) (.seq (.region [ iD 25 (.mkMap),iM 6 25]) (.seq (.seq (.region [ iM 26 0,iD 27 (.nop (.t 26)),iD 28 (.fieldAddr 0 (.t 27)),iD 29 (.load false 1 (.t 28)),iM 30 1,iD 31 (.lookupM 2 .nilm false (.t 29) (.t 30)),iD 32 (.rangeM (.t 31))]) (.block 0 (.loop (.seq (.region [ iD 33 (.nextM (.t 32)),iD 34 (.extract (.t 33) 0)]) (.seq (.cond (.t 34) .skip (.exit 0)) (.block 1 (.seq (.region [ iD 35 (.entryM (.t 32)),iD 36 (.extract (.t 35) 0),iD 37 (.extract (.t 35) 1),iM 7 36,iM 8 37]) (.region [ iM 38 6,iM 39 7,iM 40 8,iN (.mapSet 2 (.t 38) (.t 39) (.t 40))])))))))) (.seq (.region [ iD 41 (.buildSliceO 1 1 [(.int .u8 0)] [(0,(.c (.int .u8 1)))]),iM 42 1,iD 43 (.call f_z24 [(.t 42)]),iD 44 (.append 1 1 [(.int .u8 0)] (.t 41) (.t 43)),iM 9 44]) (.seq (.region [ iM 45 9,iM 46 5,iD 47 (.len (.t 46)),iD 48 (.call f_z1k [(.t 47),(cI 2)]),iD 49 (.append 1 1 [(.int .u8 0)] (.t 45) (.t 48)),iM 9 49]) (.seq (.seq (.region [ iD 10 (.move (cI 0))]) (.block 2 (.loop (.seq (.seq (.region [ iM 50 10,iM 51 5,iD 52 (.len (.t 51)),iD 53 (.bin .lss (.t 50) (.t 52))]) (.cond (.t 53) .skip (.exit 2))) (.seq (.block 3 (.seq (.draw [ jM 56 9,jM 57 5,jM 58 10,jD 59 (.indexAddr 3 (.t 57) (.t 58)),jD 60 (.fieldAddr 1 (.t 59)),jD 61 (.load false 1 (.t 60)),jD 62 (.call f_z20 [(.t 61)]),jD 63 (.buildSlice 1 1 [(.int .u8 0)] [(0,(.t 62))]),jD 64 (.append 1 1 [(.int .u8 0)] (.t 56) (.t 63)),jM 65 5,jM 66 10,(iD 67 (.indexAddr 3 (.t 65) (.t 66)),[17]),jD 68 (.fieldAddr 0 (.t 67)),(iD 69 (.load false 1 (.t 68)),[17]),jD 70 (.call f_z24 [(.t 69)]),jD 71 (.append 1 1 [(.int .u8 0)] (.t 64) (.t 70)),jM 9 71]) (.seq (.seq (.region [ iM 72 5,iM 73 10,iD 74 (.indexAddr 3 (.t 72) (.t 73)),iD 75 (.fieldAddr 1 (.t 74)),iD 76 (.load false 1 (.t 75))]) (.cond (.t 76) (.seq (.region [ iM 77 6,iM 78 5,iM 79 10,iD 80 (.indexAddr 3 (.t 78) (.t 79)),iD 81 (.fieldAddr 0 (.t 80)),iD 82 (.load false 1 (.t 81)),iN (.deleteM 2 (.t 77) (.t 82))]) (.exit 3)) .skip)) (.seq (.draw [ jM 83 6,jM 84 5,jM 85 10,jD 86 (.indexAddr 3 (.t 84) (.t 85)),jD 87 (.fieldAddr 0 (.t 86)),jD 88 (.load false 1 (.t 87)),jM 89 5,jM 90 10,jD 91 (.indexAddr 3 (.t 89) (.t 90)),jD 92 (.fieldAddr 2 (.t 91)),jD 93 (.load false 1 (.t 92)),(iN (.mapSet 2 (.t 83) (.t 88) (.t 93)),[])]) (.draw [ jM 94 9,jM 95 5,jM 96 10,jD 97 (.indexAddr 3 (.t 95) (.t 96)),jD 98 (.fieldAddr 2 (.t 97)),jD 99 (.load false 1 (.t 98)),jD 100 (.len (.t 99)),jD 101 (.call f_z1k [(.t 100),(cI 4)]),jD 102 (.append 1 1 [(.int .u8 0)] (.t 94) (.t 101)),jM 103 5,jM 104 10,(iD 105 (.indexAddr 3 (.t 103) (.t 104)),[16]),jD 106 (.fieldAddr 2 (.t 105)),(iD 107 (.load false 1 (.t 106)),[16]),jD 108 (.append 1 1 [(.int .u8 0)] (.t 102) (.t 107)),jM 9 108]))))) (.region [ iM 54 10,iD 55 (.bin .add (.t 54) (cI 1)),iM 10 55])))))) (.seq (.seq (.region [ iM 109 6,iD 110 (.lenM (.t 109)),iD 111 (.bin .gtr (.t 110) (cI 256))]) (.cond (.t 111) (.seq (.region [ iD 4 (.move (cI 2))]) .ret) .skip)) (.seq (.region [ iM 113 0,iD 114 (.nop (.t 113)),iD 115 (.fieldAddr 3 (.t 114)),iD 116 (.load false 1 (.t 115)),iM 117 9,iD 118 (.call f_z1i [(.t 116),(.t 117)]),iM 112 118,iD 119 (.extract (.t 112) 0),iD 120 (.extract (.t 112) 1),iM 11 119,iM 12 120]) (.seq (.seq (.region [ iM 121 12,iD 122 (.bin .neq (.t 121) (cI 0))]) (.cond (.t 122) (.seq (.region [ iM 123 12,iM 4 123]) .ret) .skip)) (.seq (.seq .ghost (.region [ iM 124 0,iM 125 0,iD 126 (.nop (.t 125)),iD 127 (.fieldAddr 0 (.t 126)),iD 128 (.load false 1 (.t 127)),iM 129 1,iM 130 11,iM 131 6,iD 132 (.nop (.t 124)),iD 133 (.fieldAddr 3 (.t 132)),iN (.store 1 (.t 133) (.t 130)),iD 134 (.mapEnt 2 .nilm (.t 128) (.t 129)),iD 135 (.extract (.t 134) 1),iN (.entryStoreM (.t 128) (.t 135) (.t 131))])) (.seq (.region [ iM 136 0,iD 137 (.nop (.t 136)),iD 138 (.fieldAddr 2 (.t 137)),iD 139 (.load false 1 (.t 138)),iM 140 1,iD 141 (.lookupM 2 (.int .i64 0) false (.t 139) (.t 140)),iD 142 (.bin .add (.t 141) (cI 1)),iN (.mapSet 2 (.t 139) (.t 140) (.t 142))]) (.seq (.region [ iM 143 0,iM 144 1,iD 145 (.call f_z1p [(.t 143),(.t 144)])]) (.seq (.region [ iD 4 (.move (cI 0))]) .ret))))))))))))))))⟩
structure F_z1o (P : Program) where
 id : FuncId
 z25 : F_z25 P
 z24 : F_z24 P
 z1k : F_z1k P
 z20 : F_z20 P
 z1i : F_z1i P
 z1p : F_z1p P
 has : Has P id [41,300128] (c_z1o z25.id z24.id z1k.id z20.id z1i.id z1p.id)
def c_z1w (f_z25 : FuncId) (f_z24 : FuncId) (f_z1i : FuncId) (f_z1p : FuncId) : AFunc:=⟨88,[.tmp 6],(.seq (.region [ iD 6 (.move (cI 0))]) (.seq (.seq (.region [ iM 9 1,iD 10 (.call f_z25 [(.t 9)]),iD 11 (.un .not (.t 10)),iM 12 11,⟨(some 13),.move (.t 2),some (some 12,false)⟩,⟨(some 14),.call f_z25 [(.t 13)],some (some 12,false)⟩,⟨(some 15),.un .not (.t 14),some (some 12,false)⟩,iD 16 (.pick (.t 12) (.c (.bool true)) (.t 15))]) (.cond (.t 16) (.seq (.region [ iD 6 (.move (cI 4))]) .ret) .skip)) (.seq (.seq (.region [ iM 17 1,iM 18 2,iD 19 (.bin .eql (.t 17) (.t 18))]) (.cond (.t 19) (.seq (.region [ iD 6 (.move (cI 6))]) .ret) .skip)) (.seq (.draw [ jM 21 0,jD 22 (.nop (.t 21)),jD 23 (.fieldAddr 3 (.t 22)),(iD 24 (.load false 1 (.t 23)),[12,9,6]),jD 25 (.buildSliceO 1 1 [(.int .u8 0)] [(0,(.c (.int .u8 2)))]),jM 26 1,(iD 27 (.call f_z24 [(.t 26)]),[17]),jD 28 (.append 1 1 [(.int .u8 0)] (.t 25) (.t 27)),jM 29 2,jD 30 (.call f_z24 [(.t 29)]),jD 31 (.append 1 1 [(.int .u8 0)] (.t 28) (.t 30)),jD 32 (.call f_z1i [(.t 24),(.t 31)]),jM 20 32,jD 33 (.extract (.t 20) 0),jD 34 (.extract (.t 20) 1),jM 7 33,jM 8 34]) (.seq (.seq (.region [ iM 35 8,iD 36 (.bin .neq (.t 35) (cI 0))]) (.cond (.t 36) (.seq (.region [ iM 37 8,iM 6 37]) .ret) .skip)) (.seq (.region [ iM 38 0,iM 39 7,iD 40 (.nop (.t 38)),iD 41 (.fieldAddr 3 (.t 40)),iN (.store 1 (.t 41) (.t 39))]) (.seq (.seq .ghost (.draw [ jM 42 0,jD 43 (.nop (.t 42)),jD 44 (.fieldAddr 0 (.t 43)),jD 45 (.load false 1 (.t 44)),jM 46 1,jM 47 0,jD 48 (.nop (.t 47)),jD 49 (.fieldAddr 0 (.t 48)),jD 50 (.load false 1 (.t 49)),jM 51 2,jM 52 0,jD 53 (.nop (.t 52)),jD 54 (.fieldAddr 0 (.t 53)),(iD 55 (.load false 1 (.t 54)),[5]),jM 56 2,(iD 57 (.lookupM 2 .nilm false (.t 55) (.t 56)),[5]),jM 58 0,jD 59 (.nop (.t 58)),jD 60 (.fieldAddr 0 (.t 59)),jD 61 (.load false 1 (.t 60)),jM 62 1,jD 63 (.lookupM 2 .nilm false (.t 61) (.t 62)),jD 64 (.mapEnt 2 .nilm (.t 45) (.t 46)),jD 65 (.extract (.t 64) 1),(iN (.entryStoreM (.t 45) (.t 65) (.t 57)),[]),jD 66 (.mapEnt 2 .nilm (.t 50) (.t 51)),jD 67 (.extract (.t 66) 1),(iN (.entryStoreM (.t 50) (.t 67) (.t 63)),[])])) (.seq (.region [ iM 68 0,iD 69 (.nop (.t 68)),iD 70 (.fieldAddr 2 (.t 69)),iD 71 (.load false 1 (.t 70)),iM 72 1,iD 73 (.lookupM 2 (.int .i64 0) false (.t 71) (.t 72)),iD 74 (.bin .add (.t 73) (cI 1)),iN (.mapSet 2 (.t 71) (.t 72) (.t 74))]) (.seq (.region [ iM 75 0,iD 76 (.nop (.t 75)),iD 77 (.fieldAddr 2 (.t 76)),iD 78 (.load false 1 (.t 77)),iM 79 2,iD 80 (.lookupM 2 (.int .i64 0) false (.t 78) (.t 79)),iD 81 (.bin .add (.t 80) (cI 1)),iN (.mapSet 2 (.t 78) (.t 79) (.t 81))]) (.seq (.region [ iM 82 0,iM 83 1,iD 84 (.call f_z1p [(.t 82),(.t 83)])]) (.seq (.region [ iM 85 0,iM 86 2,iD 87 (.call f_z1p [(.t 85),(.t 86)])]) (.seq (.region [ iD 6 (.move (cI 0))]) .ret))))))))))))⟩
structure F_z1w (P : Program) where
 id : FuncId
 z25 : F_z25 P
 z24 : F_z24 P
 z1i : F_z1i P
 z1p : F_z1p P
 has : Has P id [25,300043] (c_z1w z25.id z24.id z1i.id z1p.id)
def c_z1q : AFunc:=⟨8,[.tmp 2],(.seq (.region [ iD 2 (.move (.c .nil))]) (.seq (.region [ iM 3 0,iD 4 (.nop (.t 3)),iD 5 (.fieldAddr 3 (.t 4)),iD 6 (.load false 1 (.t 5)),iD 7 (.append 1 1 [(.int .u8 0)] (.c .nil) (.t 6)),iM 2 7]) .ret))⟩
structure F_z1q (P : Program) where
 id : FuncId
 has : Has P id [] c_z1q
def c_z22 : AFunc:=⟨38,[.tmp 4],(.seq (.region [ iD 4 (.move (.c .nil))]) (.seq (.seq (.region [ iM 6 0,iD 7 (.nop (.t 6)),iD 8 (.fieldAddr 1 (.t 7)),iD 9 (.load false 1 (.t 8)),iM 10 9,⟨(some 11),.move (.t 1),some (some 10,false)⟩,⟨(some 12),.move (.t 0),some (some 10,false)⟩,⟨(some 13),.nop (.t 12),some (some 10,false)⟩,⟨(some 14),.fieldAddr 0 (.t 13),some (some 10,false)⟩,⟨(some 15),.load false 1 (.t 14),some (some 10,false)⟩,⟨(some 16),.len (.t 15),some (some 10,false)⟩,⟨(some 17),.bin .gtr (.t 11) (.t 16),some (some 10,false)⟩,iD 18 (.pick (.t 10) (.c (.bool true)) (.t 17))]) (.cond (.t 18) (.seq (.region [ iM 19 0,iD 20 (.nop (.t 19)),iD 21 (.fieldAddr 1 (.t 20)),iN (.store 1 (.t 21) (.c (.bool true)))]) (.seq (.region [ iD 4 (.move (.c .nil))]) .ret)) .skip)) (.seq (.region [ iM 22 0,iD 23 (.nop (.t 22)),iD 24 (.fieldAddr 0 (.t 23)),iD 25 (.load false 1 (.t 24)),iM 26 1,iD 27 (.slice 1 (.t 25) none (some (.t 26))),iM 5 27]) (.seq (.region [ iM 28 0,iM 29 0,iD 30 (.nop (.t 29)),iD 31 (.fieldAddr 0 (.t 30)),iD 32 (.load false 1 (.t 31)),iM 33 1,iD 34 (.slice 1 (.t 32) (some (.t 33)) none),iD 35 (.nop (.t 28)),iD 36 (.fieldAddr 0 (.t 35)),iN (.store 1 (.t 36) (.t 34))]) (.seq (.region [ iM 37 5,iM 4 37]) .ret)))))⟩
structure F_z22 (P : Program) where
 id : FuncId
 has : Has P id [] c_z22
def c_z21 (f_z22 : FuncId) : AFunc:=⟨23,[.tmp 4],(.seq (.region [ iD 4 (.move (cI 0))]) (.seq (.region [ iD 5 (.move (cI 0))]) (.seq (.seq (.region [ iM 8 0,iM 9 1,iD 10 (.call f_z22 [(.t 8),(.t 9)]),iD 11 (.len (.t 10)),iD 12 (.move (cI 0))]) (.block 0 (.loop (.seq (.region [ iD 13 (.bin .lss (.t 12) (.t 11))]) (.seq (.cond (.t 13) .skip (.exit 0)) (.seq (.block 1 (.seq (.region [ iD 14 (.indexAddr 1 (.t 10) (.t 12)),iD 15 (.load false 1 (.t 14)),iM 7 15]) (.region [ iM 16 5,iD 17 (.bin .mul (.t 16) (cI 256)),iM 18 7,iD 19 (.conv .i64 (.t 18)),iD 20 (.bin .add (.t 17) (.t 19)),iM 5 20]))) (.region [ iD 21 (.bin .add (.t 12) (cI 1)),iM 12 21]))))))) (.seq (.region [ iM 22 5,iM 4 22]) .ret))))⟩
structure F_z21 (P : Program) where
 id : FuncId
 z22 : F_z22 P
 has : Has P id [] (c_z21 z22.id)
def c_z23 (f_z21 : FuncId) (f_z22 : FuncId) : AFunc:=⟨8,[.tmp 2],(.seq (.region [ iD 2 (.move (.c (.str (bs []))))]) (.seq (.region [ iM 3 0,iM 4 0,iD 5 (.call f_z21 [(.t 4),(cI 1)]),iD 6 (.call f_z22 [(.t 3),(.t 5)]),iD 7 (.convBS (.t 6)),iM 2 7]) .ret))⟩
structure F_z23 (P : Program) where
 id : FuncId
 z21 : F_z21 P
 z22 : F_z22 P
 has : Has P id [] (c_z23 z21.id z22.id)
def c_z1z (f_z21 : FuncId) (f_z23 : FuncId) (f_z1w : FuncId) (f_z1t : FuncId) (f_z22 : FuncId) (f_z1u : FuncId) (f_z1o : FuncId) : AFunc:=⟨72,[.tmp 4],(.seq (.region [ iD 4 (.move (.c (.bool false)))]) (.seq (.region [ iM 11 1,iD 12 (.call f_z21 [(.t 11),(cI 1)]),iM 5 12]) (.seq (.region [ iM 13 1,iD 14 (.call f_z23 [(.t 13)]),iM 6 14]) (.seq (.seq (.region [ iM 15 5,iD 16 (.bin .eql (.t 15) (cI 2))]) (.cond (.t 16) (.seq (.region [ iM 17 0,iM 18 6,iM 19 1,iD 20 (.call f_z23 [(.t 19)]),iD 21 (.call f_z1w [(.t 17),(.t 18),(.t 20)]),iD 22 (.bin .eql (.t 21) (cI 0)),iM 4 22]) .ret) .skip)) (.seq (.seq (.region [ iM 23 1,iD 24 (.call f_z21 [(.t 23),(cI 2)]),iM 7 24]) (.block 0 (.loop (.seq (.seq (.region [ iM 25 7,iD 26 (.bin .gtr (.t 25) (cI 0)),iM 27 26,⟨(some 28),.move (.t 1),some (some 27,true)⟩,⟨(some 29),.nop (.t 28),some (some 27,true)⟩,⟨(some 30),.fieldAddr 1 (.t 29),some (some 27,true)⟩,⟨(some 31),.load false 1 (.t 30),some (some 27,true)⟩,⟨(some 32),.un .not (.t 31),some (some 27,true)⟩,iD 33 (.pick (.t 27) (.t 32) (.c (.bool false)))]) (.cond (.t 33) .skip (.exit 0))) (.seq (.block 1 (.seq (.region [ iM 36 1,iD 37 (.call f_z21 [(.t 36),(cI 1)]),iD 38 (.bin .eql (.t 37) (cI 1)),iM 8 38]) (.seq (.region [ iM 39 1,iD 40 (.call f_z23 [(.t 39)]),iM 9 40]) (.seq (.region [ iD 10 (.move (cI 0))]) (.seq (.seq (.region [ iM 41 8]) (.cond (.t 41) (.region [ iM 42 0,iM 43 6,iM 44 9,iD 45 (.call f_z1t [(.t 42),(.t 43),(.t 44)]),iM 10 45]) (.region [ iM 46 0,iM 47 6,iM 48 9,iM 49 1,iM 50 1,iD 51 (.call f_z21 [(.t 50),(cI 4)]),iD 52 (.call f_z22 [(.t 49),(.t 51)]),iD 53 (.build [(.str (bs [])),.nil] [(0,1,(.t 48)),(1,1,(.t 52))]),iD 54 (.call f_z1u [(.t 46),(.t 47),(.t 53)]),iM 10 54]))) (.seq (.region [ iM 55 10,iD 56 (.bin .neq (.t 55) (cI 0))]) (.cond (.t 56) (.seq (.region [ iD 4 (.move (.c (.bool false)))]) .ret) .skip))))))) (.region [ iM 34 7,iD 35 (.bin .sub (.t 34) (cI 1)),iM 7 35])))))) (.seq (.region [ iM 57 5,iD 58 (.bin .eql (.t 57) (cI 1)),iM 59 58,⟨(some 60),.move (.t 1),some (some 59,true)⟩,⟨(some 61),.nop (.t 60),some (some 59,true)⟩,⟨(some 62),.fieldAddr 1 (.t 61),some (some 59,true)⟩,⟨(some 63),.load false 1 (.t 62),some (some 59,true)⟩,⟨(some 64),.un .not (.t 63),some (some 59,true)⟩,iD 65 (.pick (.t 59) (.t 64) (.c (.bool false))),iM 66 65,⟨(some 67),.move (.t 0),some (some 66,true)⟩,⟨(some 68),.move (.t 6),some (some 66,true)⟩,⟨(some 69),.call f_z1o [(.t 67),(.t 68)],some (some 66,true)⟩,⟨(some 70),.bin .eql (.t 69) (cI 0),some (some 66,true)⟩,iD 71 (.pick (.t 66) (.t 70) (.c (.bool false))),iM 4 71]) .ret))))))⟩
structure F_z1z (P : Program) where
 id : FuncId
 z21 : F_z21 P
 z23 : F_z23 P
 z1w : F_z1w P
 z1t : F_z1t P
 z22 : F_z22 P
 z1u : F_z1u P
 z1o : F_z1o P
 has : Has P id [] (c_z1z z21.id z23.id z1w.id z1t.id z22.id z1u.id z1o.id)
def c_z1n (f_z1m : FuncId) (f_z1l : FuncId) (f_z1z : FuncId) (f_z1j : FuncId) : AFunc:=⟨48,[.tmp 2,.tmp 3],(.seq (.region [ iD 2 (.move (.c .nilp)),iD 3 (.move (cI 0))]) (.seq (.region [ iD 10 (.call f_z1m []),iM 4 10]) (.seq (.region [ iM 12 0,iD 13 (.call f_z1l [(.t 12)]),iM 11 13,iD 14 (.extract (.t 11) 0),iD 15 (.extract (.t 11) 1),iM 5 14,iM 6 15]) (.seq (.seq (.region [ iM 16 5,iD 17 (.len (.t 16)),iD 18 (.move (cI 0))]) (.block 0 (.loop (.seq (.region [ iD 19 (.bin .lss (.t 18) (.t 17))]) (.seq (.cond (.t 19) .skip (.exit 0)) (.seq (.block 1 (.seq (.region [ iD 20 (.indexAddr 1 (.t 16) (.t 18)),iD 21 (.load false 1 (.t 20)),iM 8 21]) (.seq (.region [ iM 22 4,iD 23 (.nop (.t 22)),iD 24 (.fieldAddr 3 (.t 23)),iD 25 (.load false 1 (.t 24)),iD 26 (.len (.t 25)),iM 9 26]) (.seq (.draw [ jM 27 4,jM 28 8,jD 29 (.build [.nil,(.bool false)] [(0,1,(.t 28))]),jD 30 (.box (.t 29)),jD 31 (.callE f_z1z [(.t 27),(.t 30)]),jD 32 (.un .not (.t 31)),jM 33 32,(⟨(some 34),.move (.t 4),some (some 33,false)⟩,[]),(⟨(some 35),.nop (.t 34),some (some 33,false)⟩,[]),(⟨(some 36),.fieldAddr 3 (.t 35),some (some 33,false)⟩,[]),(⟨(some 37),.load false 1 (.t 36),some (some 33,false)⟩,[]),(⟨(some 38),.move (.t 9),some (some 33,false)⟩,[]),(⟨(some 39),.slice 1 (.t 37) (some (.t 38)) none,some (some 33,false)⟩,[]),(⟨(some 40),.convBS (.t 39),some (some 33,false)⟩,[]),(⟨(some 41),.move (.t 8),some (some 33,false)⟩,[]),(⟨(some 42),.call f_z1j [(.t 41)],some (some 33,false)⟩,[]),(⟨(some 43),.convBS (.t 42),some (some 33,false)⟩,[]),(⟨(some 44),.bin .neq (.t 40) (.t 43),some (some 33,false)⟩,[]),jD 45 (.pick (.t 33) (.c (.bool true)) (.t 44))]) (.cond (.t 45) (.seq (.region [ iD 2 (.move (.c .nilp)),iD 3 (.move (cI 11))]) .ret) .skip))))) (.region [ iD 46 (.bin .add (.t 18) (cI 1)),iM 18 46]))))))) (.seq (.region [ iM 47 4,iM 2 47,iD 3 (.move (cI 0))]) .ret)))))⟩
structure F_z1n (P : Program) where
 id : FuncId
 z1m : F_z1m P
 z1l : F_z1l P
 z1z : F_z1z P
 z1j : F_z1j P
 has : Has P id [31] (c_z1n z1m.id z1l.id z1z.id z1j.id)
def c_z1r : AFunc:=⟨46,[.tmp 4],(.seq (.region [ iD 4 (.move (.c .nil))]) (.seq (.region [ iD 5 (.move (.c .nil))]) (.seq (.seq (.region [ iM 8 0,iD 9 (.nop (.t 8)),iD 10 (.fieldAddr 0 (.t 9)),iD 11 (.load false 1 (.t 10)),iM 12 1,iD 13 (.lookupM 2 .nilm false (.t 11) (.t 12)),iD 14 (.rangeM (.t 13))]) (.block 0 (.loop (.seq (.region [ iD 15 (.nextM (.t 14)),iD 16 (.extract (.t 15) 0)]) (.seq (.cond (.t 16) .skip (.exit 0)) (.block 1 (.seq (.region [ iD 17 (.entryM (.t 14)),iD 18 (.extract (.t 17) 0),iM 6 18]) (.seq (.region [ iM 19 5,iD 20 (.len (.t 19)),iM 7 20]) (.seq (.block 2 (.loop (.seq (.seq (.region [ iM 21 7,iD 22 (.bin .gtr (.t 21) (cI 0)),iM 23 22,⟨(some 24),.move (.t 6),some (some 23,true)⟩,⟨(some 25),.move (.t 5),some (some 23,true)⟩,⟨(some 26),.move (.t 7),some (some 23,true)⟩,⟨(some 27),.bin .sub (.t 26) (cI 1),some (some 23,true)⟩,⟨(some 28),.indexAddr 1 (.t 25) (.t 27),some (some 23,true)⟩,⟨(some 29),.load false 1 (.t 28),some (some 23,true)⟩,⟨(some 30),.bin .lss (.t 24) (.t 29),some (some 23,true)⟩,iD 31 (.pick (.t 23) (.t 30) (.c (.bool false)))]) (.cond (.t 31) .skip (.exit 2))) (.block 3 (.region [ iM 32 7,iD 33 (.bin .sub (.t 32) (cI 1)),iM 7 33]))))) (.draw [ jM 34 5,jM 35 7,jM 36 7,(iD 37 (.slice3 1 (.t 34) (.t 35) (.t 36)),[6,2]),jM 38 6,jD 39 (.buildSliceO 1 1 [(.str (bs []))] [(0,(.t 38))]),jM 40 5,jM 41 7,(iD 42 (.slice 1 (.t 40) (some (.t 41)) none),[12]),jD 43 (.append 1 16 [(.str (bs []))] (.t 39) (.t 42)),jD 44 (.append 1 16 [(.str (bs []))] (.t 37) (.t 43)),jM 5 44])))))))))) (.seq (.region [ iM 45 5,iM 4 45]) .ret))))⟩
structure F_z1r (P : Program) where
 id : FuncId
 has : Has P id [39] c_z1r
def c_z2a : AFunc:=⟨26,[.tmp 4],(.seq (.region [ iD 4 (.move (.c (.bool false)))]) (.seq (.seq (.region [ iM 6 0,iD 7 (.len (.t 6)),iM 8 1,iD 9 (.len (.t 8)),iD 10 (.bin .neq (.t 7) (.t 9))]) (.cond (.t 10) (.seq (.region [ iD 4 (.move (.c (.bool false)))]) .ret) .skip)) (.seq (.seq (.region [ iD 5 (.move (cI 0))]) (.block 0 (.loop (.seq (.seq (.region [ iM 11 5,iM 12 0,iD 13 (.len (.t 12)),iD 14 (.bin .lss (.t 11) (.t 13))]) (.cond (.t 14) .skip (.exit 0))) (.seq (.block 1 (.seq (.draw [ jM 17 0,jM 18 5,jD 19 (.indexAddr 1 (.t 17) (.t 18)),jD 20 (.load false 1 (.t 19)),jM 21 1,jM 22 5,jD 23 (.indexAddr 1 (.t 21) (.t 22)),jD 24 (.load false 1 (.t 23)),jD 25 (.bin .neq (.t 20) (.t 24))]) (.cond (.t 25) (.seq (.region [ iD 4 (.move (.c (.bool false)))]) .ret) .skip))) (.region [ iM 15 5,iD 16 (.bin .add (.t 15) (cI 1)),iM 5 16])))))) (.seq (.region [ iD 4 (.move (.c (.bool true)))]) .ret))))⟩
structure F_z2a (P : Program) where
 id : FuncId
 has : Has P id [] c_z2a
def c_z0q (f_z0f : FuncId) (f_slices_Sorted_string : FuncId) : AFunc:=⟨13,[.tmp 4],(.seq (.region [ iD 4 (.move (.c .nil))]) (.seq (.region [ iM 5 0,iD 6 (.nop (.t 5)),iD 7 (.fieldAddr 1 (.t 6)),iD 8 (.load false 1 (.t 7)),iM 9 1,iD 10 (.lookupM 2 .nilm false (.t 8) (.t 9)),iD 11 (.call f_z0f [(.t 10)]),iD 12 (.call f_slices_Sorted_string [(.t 11)]),iM 4 12]) .ret))⟩
structure F_z0q (P : Program) where
 id : FuncId
 z0f : F_z0f P
 slices_Sorted_string : RawF
 has : Has P id [] (c_z0q z0f.id slices_Sorted_string.id)
def c_z1v : AFunc:=⟨32,[.tmp 4],(.seq (.region [ iD 4 (.move (.c .nil))]) (.seq (.region [ iD 5 (.move (.c .nil))]) (.seq (.seq (.region [ iD 6 (.move (cI 0))]) (.block 0 (.loop (.seq (.seq (.region [ iM 7 6,iM 8 0,iD 9 (.nop (.t 8)),iD 10 (.fieldAddr 1 (.t 9)),iD 11 (.load false 1 (.t 10)),iM 12 1,iD 13 (.lookupM 2 .nil false (.t 11) (.t 12)),iD 14 (.len (.t 13)),iD 15 (.bin .lss (.t 7) (.t 14))]) (.cond (.t 15) .skip (.exit 0))) (.seq (.block 1 (.region [ iM 18 5,iM 19 0,iD 20 (.nop (.t 19)),iD 21 (.fieldAddr 1 (.t 20)),iD 22 (.load false 1 (.t 21)),iM 23 1,iD 24 (.lookupM 2 .nil false (.t 22) (.t 23)),iM 25 6,iD 26 (.indexAddr 3 (.t 24) (.t 25)),iD 27 (.fieldAddr 0 (.t 26)),iD 28 (.load false 1 (.t 27)),iD 29 (.buildSlice 1 1 [(.str (bs []))] [(0,(.t 28))]),iD 30 (.append 1 16 [(.str (bs []))] (.t 18) (.t 29)),iM 5 30])) (.region [ iM 16 6,iD 17 (.bin .add (.t 16) (cI 1)),iM 6 17])))))) (.seq (.region [ iM 31 5,iM 4 31]) .ret))))⟩
structure F_z1v (P : Program) where
 id : FuncId
 has : Has P id [] c_z1v
def c_z1x : AFunc:=⟨11,[.tmp 4],(.seq (.region [ iD 4 (.move (cI 0))]) (.seq (.region [ iM 5 0,iD 6 (.nop (.t 5)),iD 7 (.fieldAddr 2 (.t 6)),iD 8 (.load false 1 (.t 7)),iM 9 1,iD 10 (.lookupM 2 (.int .i64 0) false (.t 8) (.t 9)),iM 4 10]) .ret))⟩
structure F_z1x (P : Program) where
 id : FuncId
 has : Has P id [] c_z1x
def c_z1s : AFunc:=⟨24,[.tmp 6,.tmp 7],(.seq (.region [ iD 6 (.move (.c .nil)),iD 7 (.move (.c (.bool false)))]) (.seq (.region [ iM 11 0,iD 12 (.nop (.t 11)),iD 13 (.fieldAddr 0 (.t 12)),iD 14 (.load false 1 (.t 13)),iM 15 1,iD 16 (.lookupM 2 .nilm false (.t 14) (.t 15)),iM 17 2,iD 18 (.lookupM 2 .nil true (.t 16) (.t 17)),iM 10 18,iD 19 (.extract (.t 10) 0),iD 20 (.extract (.t 10) 1),iM 8 19,iM 9 20]) (.seq (.region [ iM 21 8,iD 22 (.append 1 1 [(.int .u8 0)] (.c .nil) (.t 21)),iM 23 9,iM 6 22,iM 7 23]) .ret)))⟩
structure F_z1s (P : Program) where
 id : FuncId
 has : Has P id [] c_z1s
def c_z1f (f_z1r : FuncId) (f_z0m : FuncId) (f_z2a : FuncId) (f_z0q : FuncId) (f_z1v : FuncId) (f_z0s : FuncId) (f_z1x : FuncId) (f_z0n : FuncId) (f_z1s : FuncId) (f_z29 : FuncId) (f_z0l : FuncId) (f_z1q : FuncId) : AFunc:=⟨103,[.tmp 6],(.seq (.region [ iD 6 (.move (.c (.bool false)))]) (.seq (.seq (.region [ iD 16 (.build [(.int .i64 0),.nil,(.str (bs [])),(.str (bs [])),(.str (bs [])),.nil,(.bool false),(.int .i64 0),(.int .i64 0),(.int .i64 0)] [(2,1,(.c (.str (bs [108,105,118,101]))))]),iD 17 (.build [(.int .i64 0),.nil,(.str (bs [])),(.str (bs [])),(.str (bs [])),.nil,(.bool false),(.int .i64 0),(.int .i64 0),(.int .i64 0)] [(2,1,(.c (.str (bs [115,104,97,100,111,119]))))]),iD 18 (.build [(.int .i64 0),.nil,(.str (bs [])),(.str (bs [])),(.str (bs [])),.nil,(.bool false),(.int .i64 0),(.int .i64 0),(.int .i64 0)] [(2,1,(.c (.str (bs [120]))))]),iD 19 (.buildSliceO 10 3 [(.int .i64 0),.nil,(.str (bs [])),(.str (bs [])),(.str (bs [])),.nil,(.bool false),(.int .i64 0),(.int .i64 0),(.int .i64 0)] [(0,(.t 16)),(1,(.t 17)),(2,(.t 18))]),iM 20 2,iD 21 (.append 10 136 [(.int .i64 0),.nil,(.str (bs [])),(.str (bs [])),(.str (bs [])),.nil,(.bool false),(.int .i64 0),(.int .i64 0),(.int .i64 0)] (.t 19) (.t 20)),iD 22 (.len (.t 21)),iD 23 (.move (cI 0))]) (.block 0 (.loop (.seq (.region [ iD 24 (.bin .lss (.t 23) (.t 22))]) (.seq (.cond (.t 24) .skip (.exit 0)) (.seq (.block 1 (.seq (.region [ iD 25 (.indexAddr 10 (.t 21) (.t 23)),iD 26 (.load true 10 (.t 25)),iD 8 (.alloc [(.int .i64 0),.nil,(.str (bs [])),(.str (bs [])),(.str (bs [])),.nil,(.bool false),(.int .i64 0),(.int .i64 0),(.int .i64 0)]),iN (.store 10 (.t 8) (.t 26))]) (.seq (.region [ iM 27 1,iD 28 (.fieldAddr 2 (.t 8)),iD 29 (.load false 1 (.t 28)),iD 30 (.call f_z1r [(.t 27),(.t 29)]),iM 9 30]) (.seq (.seq (.draw [ jM 31 0,jD 32 (.fieldAddr 2 (.t 8)),jD 33 (.load false 1 (.t 32)),jD 34 (.call f_z0m [(.t 31),(.t 33)]),jM 35 9,jD 36 (.call f_z2a [(.t 34),(.t 35)]),jD 37 (.un .not (.t 36)),jM 38 37,(⟨(some 39),.move (.t 0),some (some 38,false)⟩,[]),(⟨(some 40),.fieldAddr 2 (.t 8),some (some 38,false)⟩,[]),(⟨(some 41),.load false 1 (.t 40),some (some 38,false)⟩,[]),(⟨(some 42),.call f_z0q [(.t 39),(.t 41)],some (some 38,false)⟩,[]),(⟨(some 43),.move (.t 1),some (some 38,false)⟩,[]),(⟨(some 44),.fieldAddr 2 (.t 8),some (some 38,false)⟩,[]),(⟨(some 45),.load false 1 (.t 44),some (some 38,false)⟩,[]),(⟨(some 46),.callE f_z1v [(.t 43),(.t 45)],some (some 38,false)⟩,[]),(⟨(some 47),.call f_z2a [(.t 42),(.t 46)],some (some 38,false)⟩,[]),(⟨(some 48),.un .not (.t 47),some (some 38,false)⟩,[]),jD 49 (.pick (.t 38) (.c (.bool true)) (.t 48)),jM 50 49,(⟨(some 51),.move (.t 0),some (some 50,false)⟩,[]),(⟨(some 52),.fieldAddr 2 (.t 8),some (some 50,false)⟩,[]),(⟨(some 53),.load false 1 (.t 52),some (some 50,false)⟩,[]),(⟨(some 54),.call f_z0s [(.t 51),(.t 53)],some (some 50,false)⟩,[]),(⟨(some 55),.move (.t 1),some (some 50,false)⟩,[]),(⟨(some 56),.fieldAddr 2 (.t 8),some (some 50,false)⟩,[]),(⟨(some 57),.load false 1 (.t 56),some (some 50,false)⟩,[]),(⟨(some 58),.call f_z1x [(.t 55),(.t 57)],some (some 50,false)⟩,[]),(⟨(some 59),.bin .neq (.t 54) (.t 58),some (some 50,false)⟩,[]),jD 60 (.pick (.t 50) (.c (.bool true)) (.t 59))]) (.cond (.t 60) (.seq (.region [ iD 6 (.move (.c (.bool false)))]) .ret) .skip)) (.seq (.region [ iM 61 9,iD 62 (.fieldAddr 3 (.t 8)),iD 63 (.load false 1 (.t 62)),iD 64 (.buildSlice 1 1 [(.str (bs []))] [(0,(.t 63))]),iD 65 (.append 1 16 [(.str (bs []))] (.t 61) (.t 64)),iD 66 (.len (.t 65)),iD 67 (.move (cI 0))]) (.block 2 (.loop (.seq (.region [ iD 68 (.bin .lss (.t 67) (.t 66))]) (.seq (.cond (.t 68) .skip (.exit 2)) (.seq (.block 3 (.seq (.region [ iD 69 (.indexAddr 1 (.t 65) (.t 67)),iD 70 (.load false 1 (.t 69)),iM 11 70]) (.seq (.region [ iM 72 0,iD 73 (.fieldAddr 2 (.t 8)),iD 74 (.load false 1 (.t 73)),iM 75 11,iD 76 (.call f_z0n [(.t 72),(.t 74),(.t 75)]),iM 71 76,iD 77 (.extract (.t 71) 0),iD 78 (.extract (.t 71) 1),iM 12 77,iM 13 78]) (.seq (.region [ iM 80 1,iD 81 (.fieldAddr 2 (.t 8)),iD 82 (.load false 1 (.t 81)),iM 83 11,iD 84 (.call f_z1s [(.t 80),(.t 82),(.t 83)]),iM 79 84,iD 85 (.extract (.t 79) 0),iD 86 (.extract (.t 79) 1),iM 14 85,iM 15 86]) (.seq (.region [ iM 87 13,iM 88 15,iD 89 (.eqb true (.t 87) (.t 88)),iM 90 89,⟨(some 91),.move (.t 12),some (some 90,false)⟩,⟨(some 92),.move (.t 14),some (some 90,false)⟩,⟨(some 93),.call f_z29 [(.t 91),(.t 92)],some (some 90,false)⟩,⟨(some 94),.un .not (.t 93),some (some 90,false)⟩,iD 95 (.pick (.t 90) (.c (.bool true)) (.t 94))]) (.cond (.t 95) (.seq (.region [ iD 6 (.move (.c (.bool false)))]) .ret) .skip)))))) (.region [ iD 96 (.bin .add (.t 67) (cI 1)),iM 67 96]))))))))))) (.region [ iD 97 (.bin .add (.t 23) (cI 1)),iM 23 97]))))))) (.seq (.region [ iM 98 0,iD 99 (.call f_z0l [(.t 98)]),iM 100 1,iD 101 (.call f_z1q [(.t 100)]),iD 102 (.call f_z29 [(.t 99),(.t 101)]),iM 6 102]) .ret)))⟩
structure F_z1f (P : Program) where
 id : FuncId
 z1r : F_z1r P
 z0m : F_z0m P
 z2a : F_z2a P
 z0q : F_z0q P
 z1v : F_z1v P
 z0s : F_z0s P
 z1x : F_z1x P
 z0n : F_z0n P
 z1s : F_z1s P
 z29 : F_z29 P
 z0l : F_z0l P
 z1q : F_z1q P
 has : Has P id [19,46] (c_z1f z1r.id z0m.id z2a.id z0q.id z1v.id z0s.id z1x.id z0n.id z1s.id z29.id z0l.id z1q.id)
end Go.AW
namespace Go.AW
def c_z0o (f_z0g : FuncId) (f_z0h : FuncId) (f_z0y : FuncId) : AFunc:=⟨20,[.tmp 6],(.seq (.region [ iD 6 (.move (cI 0))]) (.seq (.seq (.region [ iM 7 1,iD 8 (.call f_z0g [(.t 7)]),iD 9 (.un .not (.t 8)),iM 10 9,⟨(some 11),.move (.t 2),some (some 10,false)⟩,⟨(some 12),.call f_z0h [(.t 11)],some (some 10,false)⟩,⟨(some 13),.un .not (.t 12),some (some 10,false)⟩,iD 14 (.pick (.t 10) (.c (.bool true)) (.t 13))]) (.cond (.t 14) (.seq (.region [ iD 6 (.move (cI 4))]) .ret) .skip)) (.seq (.region [ iM 15 0,iM 16 1,iM 17 2,iD 18 (.build [(.bool false),.nil] [(0,1,(.c (.bool true)))]),iD 19 (.call f_z0y [(.t 15),(.t 16),(.t 17),(.t 18)])]) (.seq (.region [ iD 6 (.move (cI 0))]) .ret))))⟩
structure F_z0o (P : Program) where
 id : FuncId
 z0g : F_z0g P
 z0h : F_z0h P
 z0y : F_z0y P
 has : Has P id [] (c_z0o z0g.id z0h.id z0y.id)
def c_z1e (f_z28 : FuncId) (f_z0p : FuncId) (f_z1u : FuncId) (f_z0o : FuncId) (f_z1t : FuncId) (f_z0j : FuncId) (f_z1o : FuncId) (f_z0r : FuncId) (f_z1w : FuncId) (f_z0k : FuncId) (f_z1p : FuncId) : AFunc:=⟨83,[.tmp 6],(.seq (.region [ iD 5 (.box (.t 2)),iD 6 (.move (.c (.bool false)))]) (.seq (.region [ iD 7 (.move (cI 0)),iD 8 (.move (cI 0))]) (.seq (.seq (.region [ iD 10 (.fieldAddr 0 (.t 5)),iD 11 (.load false 1 (.t 10)),iD 12 (.call f_z28 [(.t 11),(cI 9)])]) (.block 0 (.seq (.seq (.region [ iD 22 (.bin .eql (.t 12) (cI 0)),iM 21 22]) (.cond (.t 21) .skip (.seq (.region [ iD 23 (.bin .eql (.t 12) (cI 1)),iM 21 23]) (.cond (.t 21) .skip (.seq (.region [ iD 24 (.bin .eql (.t 12) (cI 2)),iM 21 24]) (.cond (.t 21) .skip (.region [ iD 25 (.bin .eql (.t 12) (cI 3)),iM 21 25]))))))) (.cond (.t 21) (.seq (.region [ iD 26 (.fieldAddr 3 (.t 5)),iD 27 (.load false 1 (.t 26)),iD 28 (.fieldAddr 1 (.t 5)),iD 29 (.load false 1 (.t 28)),iD 30 (.build [(.str (bs [])),.nil] [(0,1,(.t 27)),(1,1,(.t 29))]),iD 9 (.alloc [(.str (bs [])),.nil]),iN (.store 2 (.t 9) (.t 30))]) (.draw [ jM 31 0,jD 32 (.fieldAddr 2 (.t 5)),jD 33 (.load false 1 (.t 32)),jD 34 (.load true 2 (.t 9)),jD 35 (.callE f_z0p [(.t 31),(.t 33),(.t 34)]),jM 36 1,jD 37 (.fieldAddr 2 (.t 5)),(iD 38 (.load false 1 (.t 37)),[12]),(iD 39 (.load true 2 (.t 9)),[12]),jD 40 (.callE f_z1u [(.t 36),(.t 38),(.t 39)]),jM 7 35,jM 8 40])) (.seq (.region [ iD 42 (.bin .eql (.t 12) (cI 4)),iM 41 42]) (.cond (.t 41) (.draw [ jM 43 0,jD 44 (.fieldAddr 2 (.t 5)),jD 45 (.load false 1 (.t 44)),jD 46 (.fieldAddr 3 (.t 5)),jD 47 (.load false 1 (.t 46)),jD 48 (.callE f_z0o [(.t 43),(.t 45),(.t 47)]),jM 49 1,jD 50 (.fieldAddr 2 (.t 5)),(iD 51 (.load false 1 (.t 50)),[14]),jD 52 (.fieldAddr 3 (.t 5)),(iD 53 (.load false 1 (.t 52)),[14]),jD 54 (.callE f_z1t [(.t 49),(.t 51),(.t 53)]),jM 7 48,jM 8 54]) (.seq (.seq (.region [ iD 56 (.bin .eql (.t 12) (cI 5)),iM 55 56]) (.cond (.t 55) .skip (.region [ iD 57 (.bin .eql (.t 12) (cI 6)),iM 55 57]))) (.cond (.t 55) (.draw [ jM 58 0,jD 59 (.fieldAddr 2 (.t 5)),jD 60 (.load false 1 (.t 59)),jD 61 (.callE f_z0j [(.t 58),(.t 60)]),jM 62 1,jD 63 (.fieldAddr 2 (.t 5)),(iD 64 (.load false 1 (.t 63)),[10]),jD 65 (.callE f_z1o [(.t 62),(.t 64)]),jM 7 61,jM 8 65]) (.seq (.region [ iD 67 (.bin .eql (.t 12) (cI 7)),iM 66 67]) (.cond (.t 66) (.draw [ jM 68 0,jD 69 (.fieldAddr 2 (.t 5)),jD 70 (.load false 1 (.t 69)),jD 71 (.fieldAddr 3 (.t 5)),jD 72 (.load false 1 (.t 71)),jD 73 (.callE f_z0r [(.t 68),(.t 70),(.t 72)]),jM 74 1,jD 75 (.fieldAddr 2 (.t 5)),(iD 76 (.load false 1 (.t 75)),[14]),jD 77 (.fieldAddr 3 (.t 5)),(iD 78 (.load false 1 (.t 77)),[14]),jD 79 (.callE f_z1w [(.t 74),(.t 76),(.t 78)]),jM 7 73,jM 8 79]) (.seq (.region [ iM 13 0,iD 14 (.fieldAddr 2 (.t 5)),iD 15 (.load false 1 (.t 14)),iD 16 (.call f_z0k [(.t 13),(.t 15)])]) (.region [ iM 17 1,iD 18 (.fieldAddr 2 (.t 5)),iD 19 (.load false 1 (.t 18)),iD 20 (.call f_z1p [(.t 17),(.t 19)])])))))))))))) (.seq (.region [ iM 80 7,iM 81 8,iD 82 (.bin .eql (.t 80) (.t 81)),iM 6 82]) .ret))))⟩
structure F_z1e (P : Program) where
 id : FuncId
 z28 : F_z28 P
 z0p : F_z0p P
 z1u : F_z1u P
 z0o : F_z0o P
 z1t : F_z1t P
 z0j : F_z0j P
 z1o : F_z1o P
 z0r : F_z0r P
 z1w : F_z1w P
 z0k : F_z0k P
 z1p : F_z1p P
 has : Has P id [35,40,48,54,61,65,73,79] (c_z1e z28.id z0p.id z1u.id z0o.id z1t.id z0j.id z1o.id z0r.id z1w.id z0k.id z1p.id)
def c_z1b (f_z1d : FuncId) (f_z0i : FuncId) (f_z1m : FuncId) (f_z1c : FuncId) (f_z1e : FuncId) (f_z1q : FuncId) (f_z1n : FuncId) (f_z0l : FuncId) (f_z28 : FuncId) (f_z1f : FuncId) (f_z0q : FuncId) : AFunc:=⟨131,[.tmp 4],(.seq (.region [ iD 4 (.move (.c (.bool false)))]) (.seq (.seq (.region [ iM 21 0,iD 22 (.len (.t 21)),iD 23 (.bin .gtr (.t 22) (cI 300))]) (.cond (.t 23) (.seq (.region [ iD 24 (.call f_z1d []),iM 4 24]) .ret) .skip)) (.seq (.region [ iD 26 (.call f_z0i [(.c .nil)]),iM 25 26,iD 27 (.extract (.t 25) 0),iD 28 (.extract (.t 25) 1),iM 5 27,iM 6 28]) (.seq (.seq (.region [ iM 29 6,iD 30 (.bin .neq (.t 29) (cI 0)),iM 31 30,⟨(some 32),.move (.t 5),some (some 31,false)⟩,⟨(some 33),.isNilP false (.t 32),some (some 31,false)⟩,iD 34 (.pick (.t 31) (.c (.bool true)) (.t 33))]) (.cond (.t 34) (.seq (.region [ iD 4 (.move (.c (.bool false)))]) .ret) .skip)) (.seq (.region [ iD 35 (.call f_z1m []),iM 7 35]) (.seq (.region [ iD 36 (.buildSliceO 1 1 [(.int .i64 0)] [(0,(cI 0))]),iM 8 36]) (.seq (.region [ iD 37 (.call f_z1m []),iD 38 (.buildSliceO 1 1 [.nilp] [(0,(.t 37))]),iM 9 38]) (.seq (.seq (.region [ iM 39 0,iD 40 (.call f_z1c [(.t 39)]),iD 41 (.len (.t 40)),iD 42 (.move (cI 0))]) (.block 0 (.loop (.seq (.region [ iD 43 (.bin .lss (.t 42) (.t 41))]) (.seq (.cond (.t 43) .skip (.exit 0)) (.seq (.block 1 (.seq (.region [ iD 44 (.indexAddr 10 (.t 40) (.t 42)),iD 45 (.load true 10 (.t 44)),iD 11 (.alloc [(.int .i64 0),.nil,(.str (bs [])),(.str (bs [])),(.str (bs [])),.nil,(.bool false),(.int .i64 0),(.int .i64 0),(.int .i64 0)]),iN (.store 10 (.t 11) (.t 45))]) (.seq (.seq (.region [ iM 46 5,iM 47 7,iD 48 (.load true 10 (.t 11)),iD 49 (.call f_z1e [(.t 46),(.t 47),(.t 48)]),iD 50 (.un .not (.t 49))]) (.cond (.t 50) (.seq (.region [ iD 4 (.move (.c (.bool false)))]) .ret) .skip)) (.seq (.region [ iM 51 7,iD 52 (.call f_z1q [(.t 51)]),iD 53 (.len (.t 52)),iM 12 53]) (.seq (.region [ iM 54 12,iM 55 8,iM 56 8,iD 57 (.len (.t 56)),iD 58 (.bin .sub (.t 57) (cI 1)),iD 59 (.indexAddr 1 (.t 55) (.t 58)),iD 60 (.load false 1 (.t 59)),iD 61 (.bin .gtr (.t 54) (.t 60))]) (.cond (.t 61) (.seq (.region [ iM 63 7,iD 64 (.call f_z1q [(.t 63)]),iD 65 (.call f_z1n [(.t 64)]),iM 62 65,iD 66 (.extract (.t 62) 0),iD 67 (.extract (.t 62) 1),iM 13 66,iM 14 67]) (.region [ iM 68 8,iM 69 12,iD 70 (.buildSlice 1 1 [(.int .i64 0)] [(0,(.t 69))]),iD 71 (.append 1 8 [(.int .i64 0)] (.t 68) (.t 70)),iM 72 9,iM 73 13,iD 74 (.buildSliceO 1 1 [.nilp] [(0,(.t 73))]),iD 75 (.append 1 8 [.nilp] (.t 72) (.t 74)),iM 8 71,iM 9 75])) .skip)))))) (.region [ iD 76 (.bin .add (.t 42) (cI 1)),iM 42 76]))))))) (.seq (.region [ iM 77 5,iD 78 (.call f_z0l [(.t 77)]),iM 15 78]) (.seq (.region [ iM 79 1,iM 80 15,iD 81 (.len (.t 80)),iD 82 (.bin .add (.t 81) (cI 1)),iD 83 (.call f_z28 [(.t 79),(.t 82)]),iM 16 83]) (.seq (.region [ iD 17 (.move (cI 0))]) (.seq (.seq (.region [ iM 84 8,iD 85 (.len (.t 84)),iD 86 (.move (cI 0))]) (.block 2 (.loop (.seq (.region [ iD 87 (.bin .lss (.t 86) (.t 85))]) (.seq (.cond (.t 87) .skip (.exit 2)) (.seq (.block 3 (.seq (.region [ iM 88 86,iM 18 88]) (.seq (.region [ iM 89 8,iM 90 18,iD 91 (.indexAddr 1 (.t 89) (.t 90)),iD 92 (.load false 1 (.t 91)),iM 93 16,iD 94 (.bin .leq (.t 92) (.t 93))]) (.cond (.t 94) (.region [ iM 95 18,iM 17 95]) .skip)))) (.region [ iD 96 (.bin .add (.t 86) (cI 1)),iM 86 96]))))))) (.seq (.region [ iM 98 15,iM 99 16,iD 100 (.slice 1 (.t 98) none (some (.t 99))),iD 101 (.call f_z0i [(.t 100)]),iM 97 101,iD 102 (.extract (.t 97) 0),iD 103 (.extract (.t 97) 1),iM 19 102,iM 20 103]) (.seq (.region [ iM 104 20,iD 105 (.bin .eql (.t 104) (cI 0)),iM 106 105,⟨(some 107),.move (.t 19),some (some 106,true)⟩,⟨(some 108),.isNilP true (.t 107),some (some 106,true)⟩,iD 109 (.pick (.t 106) (.t 108) (.c (.bool false))),iM 110 109,⟨(some 111),.move (.t 19),some (some 110,true)⟩,⟨(some 112),.move (.t 9),some (some 110,true)⟩,⟨(some 113),.move (.t 17),some (some 110,true)⟩,⟨(some 114),.indexAddr 1 (.t 112) (.t 113),some (some 110,true)⟩,⟨(some 115),.load false 1 (.t 114),some (some 110,true)⟩,⟨(some 116),.call f_z1f [(.t 111),(.t 115),(.c .nil)],some (some 110,true)⟩,iD 117 (.pick (.t 110) (.t 116) (.c (.bool false))),iM 118 117,⟨(some 119),.move (.t 19),some (some 118,true)⟩,⟨(some 120),.call f_z0q [(.t 119),(.c (.str (bs [108,105,118,101])))],some (some 118,true)⟩,⟨(some 121),.len (.t 120),some (some 118,true)⟩,⟨(some 122),.move (.t 19),some (some 118,true)⟩,⟨(some 123),.call f_z0q [(.t 122),(.c (.str (bs [115,104,97,100,111,119])))],some (some 118,true)⟩,⟨(some 124),.len (.t 123),some (some 118,true)⟩,⟨(some 125),.bin .add (.t 121) (.t 124),some (some 118,true)⟩,⟨(some 126),.bin .eql (.t 125) (cI 0),some (some 118,true)⟩,iD 127 (.pick (.t 118) (.t 126) (.c (.bool false))),iM 128 127,⟨(some 129),.call f_z1d [],some (some 128,true)⟩,iD 130 (.pick (.t 128) (.t 129) (.c (.bool false))),iM 4 130]) .ret))))))))))))))⟩
structure F_z1b (P : Program) where
 id : FuncId
 z1d : F_z1d P
 z0i : F_z0i P
 z1m : F_z1m P
 z1c : F_z1c P
 z1e : F_z1e P
 z1q : F_z1q P
 z1n : F_z1n P
 z0l : F_z0l P
 z28 : F_z28 P
 z1f : F_z1f P
 z0q : F_z0q P
 has : Has P id [36,38,74] (c_z1b z1d.id z0i.id z1m.id z1c.id z1e.id z1q.id z1n.id z0l.id z28.id z1f.id z0q.id)
variable [Draws]
attribute [local irreducible] ACalls
def letterB (b : UInt8) : Bool:=decide (97 ≤ b.toNat ∧ b.toNat ≤ 122)
def restB (b : UInt8) : Bool:=decide (97 ≤ b.toNat ∧ b.toNat ≤ 122 ∨ 48 ≤ b.toNat ∧ b.toNat ≤ 57 ∨ b.toNat = 95)
def nameL : List UInt8 → Bool
 | []=>false
 | b :: r=>letterB b && r.all restB
def nameB (s : ByteArray) : Bool:=decide (s.size ≤ 24) && nameL s.data.toList
theorem get!_of {s : ByteArray} {p : Nat} {b : UInt8} (h : s.data.toList[p]? = some b) : s.get! p = b:=by
 obtain ⟨⟨l⟩⟩:=s
 simp at h
 simp [ByteArray.get!,h]
theorem decode_ascii {s : ByteArray} {p : Nat} {b : UInt8} (h : s.data.toList[p]? = some b) (hb : b.toNat < 128) : Utf8.decode s p = (b.toNat,1):=by
 unfold Utf8.decode
 simp only [Nat.add_zero,get!_of h]
 rw [if_pos hb]
theorem decode_big {s : ByteArray} {p : Nat} {b : UInt8} (h : s.data.toList[p]? = some b) (hb : ¬ b.toNat < 128) : 128 ≤ (Utf8.decode s p).1:=by
 unfold Utf8.decode
 simp only [Nat.add_zero,get!_of h]
 rw [if_neg hb]
 (repeat' split) <;> simp only [Utf8.runeError,Bool.and_eq_true,decide_eq_true_eq] at * <;> omega
theorem str_get {s : ByteArray} {p : Nat} (h : p < s.size) : ∃ b,s.data.toList[p]? = some b ∧ s.data.toList.drop p = b :: s.data.toList.drop (p + 1):=by
 have hl : p < s.data.toList.length:=by simpa using h
 exact ⟨_,List.getElem?_eq_getElem hl,List.drop_eq_getElem_cons hl⟩
set_option maxRecDepth 20000 in
theorem schema_IsName_spec {P : Program} (F : F_z0g P) (s : ByteArray) (H : List AObj) :
  ACalls P F.id [.str s] H (fun r H'=>r = .bool (nameB s) ∧ H' = H):=by
 refine ACalls.pure rfl (acalls_of_body F.has ?_)
 (conv=>whnf);refine recA (fun h0=>?_) (fun h0=>?_)
 ·simp at h0
  conv=>whnf
  exact pubB (by simp [nameB];omega)
 simp at h0
 conv=>whnf
 refine ⟨fun m ρ H=>∃ p : Nat,p + m = s.size ∧ (0 < p → nameB s = (s.data.toList.drop p).all restB) ∧ H = [.iter s p] ∧ Sv 41 [(0,.str s),(10,.it 0)] ρ,s.size,[],?_,?_⟩
 ·exact ⟨0,by omega,by omega,rfl,Sv.intro rfl ⟨rfl,rfl,trivial⟩⟩
 rintro m ρ H ⟨p,hp,hr,rfl,d,rfl⟩
 (conv=>whnf);refine recA (fun hlt=>?_) (fun hlt=>?_)
 ·simp at hlt
  obtain ⟨b,hb,hd⟩:=str_get hlt
  
  have h0n : p = 0 → nameB s = (letterB b && (s.data.toList.drop (p + 1)).all restB):=by
   rintro rfl
   rw [List.drop_zero] at hd
   have : nameL s.data.toList = (letterB b && (s.data.toList.drop (0 + 1)).all restB):=by
    conv=>lhs;rw [hd]
    rfl
   rw [nameB,this,decide_eq_true (by omega),Bool.true_and]
  have hno : (if p = 0 then letterB b else restB b) = false → nameB s = false:=by
   intro h
   by_cases h1 : p = 0
   ·rw [if_pos h1] at h
    rw [h0n h1,h];rfl
   ·rw [if_neg h1] at h
    rw [hr (by omega),hd,List.all_cons,h];rfl
  have hyes : (if p = 0 then letterB b else restB b) = true → nameB s = (s.data.toList.drop (p + 1)).all restB:=by
   intro h
   by_cases h1 : p = 0
   ·rw [if_pos h1] at h
    rw [h0n h1,h];rfl
   ·rw [if_neg h1] at h
    rw [hr (by omega),hd,List.all_cons,h];rfl
  by_cases hb1 : b.toNat < 128
  ·have hdec:=decode_ascii hb hb1
   have e1 : ((Utf8.decode s p).1 : Int) = b.toNat:=by rw [hdec]
   have e2 : p + (Utf8.decode s p).2 = p + 1:=by rw [hdec]
   repeat' ((conv=>whnf);refine recA (fun h=>?_) (fun h=>?_))
   all_goals conv=>whnf
   all_goals first
    | refine ⟨m - 1,by omega,Gp.keep rfl ?_ fun ρ1 h=>⟨p + 1,by omega,fun _=>hyes ?_,by rw [e2],h⟩⟩
    | refine pubB (hno ?_).symm
   all_goals first
    | exact ⟨rfl,rfl,trivial⟩
    | skip
   all_goals
    (simp only [e1] at *)
    clear hno hyes h0n hr hd
    by_cases hp0 : p = 0 <;> simp [letterB,restB,hp0] at * <;> omega
  ·have hdec:=decode_big hb hb1
   have hn1 : letterB b = false:=by simp [letterB];omega
   have hn2 : restB b = false:=by simp [restB];omega
   have hz : nameB s = false:=hno (by split;exact hn1;exact hn2)
   repeat' ((conv=>whnf);refine recA (fun h=>?_) (fun h=>?_))
   all_goals conv=>whnf
   all_goals first
    | exact pubB hz.symm
    | (exfalso;simp at *;omega)
 ·have hlt2 : ¬ p < s.size:=of_decide_eq_false hlt
  have hl0 : s.data.toList.length = s.size:=by simp
  conv=>whnf
  refine pubB ?_
  show (!(s.data.toList == [])) = _
  by_cases h1 : p = 0
  ·have : s.data.toList = []:=List.eq_nil_of_length_eq_zero (by omega)
   simp [nameB,this,nameL]
  ·rw [hr (by omega),List.drop_eq_nil_of_le (by omega)]
   cases hs : s.data.toList with
   | nil=>rw [hs] at hl0;simp at hl0;omega
   | cons b r=>rfl
theorem str_at {s : ByteArray} {p : Nat} {b : UInt8} {q : Nat} (h : s.data.toList[p]? = some b) (hq : q = p) : s.data.toList[q]? = some b:=by subst hq;exact h
set_option maxRecDepth 20000 in
theorem ref5_IsName_spec {P : Program} (F : F_z25 P) (s : ByteArray) (H : List AObj) :
  ACalls P F.id [.str s] H (fun r H'=>r = .bool (nameB s) ∧ H' = H):=by
 refine ACalls.pure rfl (acalls_of_body F.has ?_)
 have hl0 : s.data.toList.length = s.size:=by simp
 (conv=>whnf);refine recA (fun h0=>?_) (fun h0=>?_)
 ·have h0:=of_decide_eq_true h0
  conv=>whnf
  have : s.data.toList = []:=List.eq_nil_of_length_eq_zero (by omega)
  exact pubB (by simp [nameB,this,nameL])
 have h0:=of_decide_eq_false h0
 (conv=>whnf);refine recA (fun h1=>?_) (fun h1=>?_)
 ·have h1:=of_decide_eq_true h1
  conv=>whnf
  exact pubB (by rw [nameB,decide_eq_false (by omega)];rfl)
 have h1:=of_decide_eq_false h1
 obtain ⟨a,ha,hd0⟩:=str_get (show 0 < s.size by omega)
 have hn : nameB s = (letterB a && (s.data.toList.drop 1).all restB):=by
  rw [List.drop_zero] at hd0
  have : nameL s.data.toList = (letterB a && (s.data.toList.drop (0 + 1)).all restB):=by
   conv=>lhs;rw [hd0]
   rfl
  rw [nameB,this,decide_eq_true (by omega),Bool.true_and]
 conv=>whnf
 refine And.intro (by decide) ?_
 (conv=>whnf);refine recO ha ?_
 (conv=>whnf);refine recA (fun h2=>?_) (fun h2=>?_)
 ·have h2:=of_decide_eq_true h2
  conv=>whnf
  exact pubB (by rw [hn];simp [letterB];omega)
 have h2:=of_decide_eq_false h2
 conv=>whnf
 refine And.intro (by decide) ?_
 (conv=>whnf);refine recO ha ?_
 (conv=>whnf);refine recA (fun h3=>?_) (fun h3=>?_)
 ·have h3:=of_decide_eq_true h3
  conv=>whnf
  exact pubB (by rw [hn];simp [letterB];omega)
 have h3:=of_decide_eq_false h3
 have hla : letterB a = true:=by simp [letterB];omega
 have hra : restB a = true:=by simp [restB];omega
 have hn2 : nameB s = s.data.toList.all restB:=by
  rw [hn,hla,Bool.true_and]
  rw [List.drop_zero] at hd0
  conv=>rhs;rw [hd0,List.all_cons,hra,Bool.true_and]
 conv=>whnf
 refine ⟨fun m ρ H=>∃ k : Nat,k + m = s.size ∧ nameB s = (s.data.toList.drop k).all restB ∧ H = [] ∧ Sv 58 [(0,.str s),(3,.int .i64 k)] ρ,s.size,[],?_,?_⟩
 ·exact ⟨0,by omega,hn2,rfl,Sv.intro rfl ⟨rfl,rfl,trivial⟩⟩
 rintro m ρ H ⟨k,hk,hr,rfl,d,rfl⟩
 (conv=>whnf);refine recA (fun hlt=>?_) (fun hlt=>?_)
 ·simp at hlt
  obtain ⟨b,hb,hd⟩:=str_get hlt
  rw [hd,List.all_cons] at hr
  repeat' ((conv=>whnf);first | refine And.intro (by omega) ?_ | refine recO (str_at hb (by rfl)) ?_ | refine recA (fun h=>?_) (fun h=>?_))
  all_goals conv=>whnf
  all_goals first
   | refine ⟨m - 1,by omega,Gp.keep rfl ?_ fun ρ1 h=>⟨k + 1,by omega,?_,rfl,h⟩⟩
   | refine pubB ?_
  all_goals first
   | exact ⟨rfl,intEq (wrapI ((k : Int) + 1) (by omega) (by omega)),trivial⟩
   | skip
  all_goals
   rw [hr]
   have hx : restB b = true ∨ restB b = false:=by cases restB b <;> simp
   rcases hx with hx | hx <;> rw [hx] <;> (first | rfl | (exfalso;simp [restB] at *;omega))
 ·have hlt2 : ¬ (k : Int) < s.size:=of_decide_eq_false hlt
  conv=>whnf
  rw [List.drop_eq_nil_of_le (by omega)] at hr
  exact pubB hr.symm
open Go.Lib (indexByte)
theorem ib_at : ∀ {l : List UInt8} {c : UInt8} {i : Nat},l[i]? = some c → (∀ j,j < i → l[j]? ≠ some c) → indexByte l c = i
 | [],_,_,h,_=>by simp at h
 | b :: l,c,0,h,_=>by simp at h;subst h;simp [indexByte]
 | b :: l,c,i + 1,h,hb=>by
  have h0:=hb 0 (by omega)
  simp at h0
  have:=ib_at (l:=l) (i:=i) (by simpa using h) fun j hj=>by have:=hb (j + 1) (by omega);simpa using this
  simp only [indexByte,this,beq_iff_eq,h0,if_false]
  rw [if_neg (by omega)]
  rfl
theorem ib_none : ∀ {l : List UInt8} {c : UInt8},(∀ j : Nat,l[j]? ≠ some c) → indexByte l c = -1
 | [],_,_=>rfl
 | b :: l,c,h=>by
  have h0:=h 0
  simp at h0
  have:=ib_none (l:=l) fun j=>by have:=h (j + 1);simpa using this
  simp [indexByte,this,h0]
theorem ib_cases : ∀ (l : List UInt8) (c : UInt8),indexByte l c = -1 ∨ ∃ i : Nat,indexByte l c = i ∧ i < l.length
 | [],_=>.inl rfl
 | b :: l,c=>by
  simp only [indexByte]
  split
  ·exact .inr ⟨0,rfl,by simp⟩
  ·rcases ib_cases l c with h | ⟨i,h,hl⟩
   ·rw [if_pos (by simp [h])];exact .inl rfl
   ·rw [if_neg (by simp [h]),h];exact .inr ⟨i + 1,by omega,by simpa using hl⟩
def dotAt (s : ByteArray) : Int:=indexByte s.data.toList 46
def qualB (s : ByteArray) : Bool :=
 if 0 ≤ dotAt s then nameB (s.extract 0 (dotAt s).toNat) && nameB (s.extract (dotAt s + 1).toNat s.size) else nameB s
set_option maxRecDepth 20000 in
theorem ref5_IsQualified_spec {P : Program} (F : F_z26 P) (s : ByteArray) (hs : s.size ≤ 1000000) (H : List AObj) :
  ACalls P F.id [.str s] H (fun r H'=>r = .bool (qualB s) ∧ H' = H):=by
 refine ACalls.pure rfl (acalls_of_body F.has ?_)
 conv=>whnf
 refine ⟨fun m ρ H=>∃ k : Nat,k + m = s.size ∧ (∀ j,j < k → s.data.toList[j]? ≠ some 46) ∧ H = [] ∧ Sv 27 [(0,.str s),(3,.int .i64 k)] ρ,s.size,[],?_,?_⟩
 ·exact ⟨0,by omega,by omega,rfl,Sv.intro rfl ⟨rfl,rfl,trivial⟩⟩
 rintro m ρ H ⟨k,hk,hr,rfl,d,rfl⟩
 (conv=>whnf);refine recA (fun hlt=>?_) (fun hlt=>?_)
 ·simp at hlt
  obtain ⟨b,hb,hd⟩:=str_get hlt
  conv=>whnf
  refine And.intro (by omega) ?_
  (conv=>whnf);refine recO (str_at hb (by rfl)) ?_
  (conv=>whnf);refine recA (fun h=>?_) (fun hne=>?_)
  ·have hbe : b = 46:=by
    have h : (b.toNat : Int) = 46:=by simpa using h
    apply UInt8.toNat_inj.1
    show b.toNat = 46
    omega
   subst hbe
   have hdot : dotAt s = k:=ib_at hb hr
   have e1 : IntKind.i64.wrap ((k : Int) + 1) = k + 1:=wrapI _ (by omega) (by omega)
   conv=>whnf
   refine And.intro (by omega) ?_
   (conv=>whnf);refine ACalls.use (ref5_IsName_spec F.z25 _ _) ?_
   (conv=>whnf);refine recA (fun h1=>?_) (fun h1=>?_)
   ·conv=>whnf
    refine And.intro (by rw [e1];omega) ?_
    (conv=>whnf);refine ACalls.use (ref5_IsName_spec F.z25 _ _) ?_
    conv=>whnf
    refine pubB ?_
    replace h1 : nameB (s.extract 0 (k : Int).toNat) = true:=h1
    rw [qualB,hdot,if_pos (by omega),h1,Bool.true_and]
    show nameB (s.extract (IntKind.i64.wrap ((k : Int) + 1)).toNat s.size) = _
    rw [e1]
   ·conv=>whnf
    refine pubB ?_
    replace h1 : nameB (s.extract 0 (k : Int).toNat) = false:=h1
    rw [qualB,hdot,if_pos (by omega),h1];rfl
  ·conv=>whnf
   refine ⟨m - 1,by omega,Gp.keep rfl ?_ fun ρ1 h=>⟨k + 1,by omega,fun j hj=>?_,rfl,h⟩⟩
   ·exact ⟨rfl,intEq (wrapI ((k : Int) + 1) (by omega) (by omega)),trivial⟩
   ·rcases Nat.lt_succ_iff_lt_or_eq.1 hj with h1 | rfl
    ·exact hr j h1
    ·rw [hb]
     intro h2
     cases h2
     exact absurd hne (by decide)
 ·have hlt2 : ¬ (k : Int) < s.size:=of_decide_eq_false hlt
  conv=>whnf
  refine ACalls.use (ref5_IsName_spec F.z25 _ _) ?_
  conv=>whnf
  refine pubB ?_
  have : dotAt s = -1:=ib_none fun j=>by
   by_cases hj : j < k
   ·exact hr j hj
   ·rw [List.getElem?_eq_none (by simp;omega)];simp
  rw [qualB,this,if_neg (by omega)]
theorem sliteIndexByte_spec {P : Program} (F : F_z1a P) (s : ByteArray) (c : Int) (H : List AObj) :
  ACalls P F.id [.str s,.int .u8 c] H (fun r H'=>r = .int .i64 (indexByte s.data.toList c.toNat.toUInt8) ∧ H' = H):=by
 refine ACalls.pure rfl (acalls_of_body F.has ?_)
 conv=>whnf
 refine ACalls.use (indexByteString_spec F.z05.has s c _) ?_
 conv=>whnf
 exact .closed _ rfl
set_option maxRecDepth 20000 in
theorem sliteIndex_spec {P : Program} (F : F_z19 P) (s : ByteArray) (H : List AObj) :
  ACalls P F.id [.str s,.str (bs [46])] H (fun r H'=>r = .int .i64 (dotAt s) ∧ H' = H):=by
 refine ACalls.pure rfl (acalls_of_body F.has ?_)
 (conv=>whnf);refine recA (fun h=>?_) (fun h=>?_)
 ·conv=>whnf
  refine pubI ?_
  have h : (bs [46]).data.toList = s.data.toList:=by simpa using h
  rw [dotAt,← h];rfl
 ·conv=>whnf
  refine And.intro (by decide) ?_
  conv=>whnf
  refine ACalls.use (sliteIndexByte_spec F.z1a s _ _) ?_
  conv=>whnf
  exact pubI rfl
def cutR (s : ByteArray) : AVal :=
 if 0 ≤ dotAt s then .tuple [.str (s.extract 0 (dotAt s).toNat),.str (s.extract (dotAt s + 1).toNat s.size),.bool true] else .tuple [.str s,.str (bs []),.bool false]
theorem pub3 {H1 : List AObj} {n : Nat} {ids : List Nat} {a b c r s t : AVal} (h1 : Pub H1 n ids a r) (h2 : Pub H1 n ids b s) (h3 : Pub H1 n ids c t) : Pub H1 n ids (.tuple [a,b,c]) (.tuple [r,s,t]):=by
 refine .tuple _ _ rfl fun i v u h4 h5=>?_
 rcases i with _ | _ | _ | i
 ·cases h4;cases h5;exact h1
 ·cases h4;cases h5;exact h2
 ·cases h4;cases h5;exact h3
 ·simp at h4
set_option maxRecDepth 20000 in
theorem sliteCut_spec {P : Program} (F : F_z18 P) (s : ByteArray) (hs : s.size ≤ 1000000) (H : List AObj) :
  ACalls P F.id [.str s,.str (bs [46])] H (fun r H'=>r = cutR s ∧ H' = H):=by
 refine ACalls.pure rfl (acalls_of_body F.has ?_)
 conv=>whnf
 refine ACalls.use (sliteIndex_spec F.z19 s _) ?_
 have hl0 : s.data.toList.length = s.size:=by simp
 have hc:=ib_cases s.data.toList 46
 (conv=>whnf);refine recA (fun h=>?_) (fun h=>?_)
 ·have h : 0 ≤ dotAt s:=of_decide_eq_true h
  have hlt : dotAt s < s.size:=by
   rcases hc with h1 | ⟨i,h1,h2⟩
   ·have : dotAt s = -1:=h1
    omega
   ·have : dotAt s = i:=h1
    omega
  have e1 : IntKind.i64.wrap (dotAt s + ((bs [46]).size : Nat)) = dotAt s + 1:=wrapI _ (by show -9223372036854775808 ≤ dotAt s + 1;omega) (by show dotAt s + 1 ≤ _;omega)
  conv=>whnf
  refine And.intro (by omega) ?_
  conv=>whnf
  refine And.intro (by rw [e1];omega) ?_
  conv=>whnf
  rw [cutR,if_pos h]
  refine pub3 (.closed _ rfl) (pubEq ?_ rfl) (.closed _ rfl)
  rw [e1]
 ·have h : ¬ 0 ≤ dotAt s:=of_decide_eq_false h
  conv=>whnf
  rw [cutR,if_neg h]
  exact pub3 (.closed _ rfl) (.closed _ rfl) (.closed _ rfl)
set_option maxRecDepth 20000 in
theorem stringsCut_spec {P : Program} (F : F_z17 P) (s : ByteArray) (hs : s.size ≤ 1000000) (H : List AObj) :
  ACalls P F.id [.str s,.str (bs [46])] H (fun r H'=>r = cutR s ∧ H' = H):=by
 refine ACalls.pure rfl (acalls_of_body F.has ?_)
 conv=>whnf
 refine ACalls.use (sliteCut_spec F.z18 s hs _) ?_
 unfold cutR
 split
 all_goals
  conv=>whnf
  exact pub3 (.closed _ rfl) (.closed _ rfl) (.closed _ rfl)
set_option maxRecDepth 20000 in
theorem schema_IsQualified_spec {P : Program} (F : F_z0h P) (s : ByteArray) (hs : s.size ≤ 1000000) (H : List AObj) :
  ACalls P F.id [.str s] H (fun r H'=>r = .bool (qualB s) ∧ H' = H):=by
 refine ACalls.pure rfl (acalls_of_body F.has ?_)
 conv=>whnf
 refine ACalls.use (stringsCut_spec F.z17 s hs _) ?_
 unfold cutR
 split
 ·rename_i h
  conv=>whnf
  refine ACalls.use (schema_IsName_spec F.z0g _ _) ?_
  (conv=>whnf);refine recA (fun h1=>?_) (fun h1=>?_)
  ·conv=>whnf
   refine ACalls.use (schema_IsName_spec F.z0g _ _) ?_
   conv=>whnf
   exact pubB (by rw [qualB,if_pos h,h1,Bool.true_and])
  ·conv=>whnf
   exact pubB (by rw [qualB,if_pos h,h1];rfl)
 ·rename_i h
  conv=>whnf
  refine ACalls.use (schema_IsName_spec F.z0g _ _) ?_
  (conv=>whnf);refine recA (fun h1=>?_) (fun h1=>?_)
  ·conv=>whnf
   exact pubB (by rw [qualB,if_neg h,h1])
  ·conv=>whnf
   exact pubB (by rw [qualB,if_neg h,h1])
structure Col where
 name : ByteArray
 kind : Int
 nul : Bool
theorem ACalls.frz1 {P : Program} {f : FuncId} {args : List AVal} {n sz : Nat} {es : List (List AVal)} {H : List AObj} (ha : args.all AVal.closed = true) (h : ACalls P f args [] (fun r H1=>r = .sl 0 n 0 n ∧ H1 = [.arr sz es]))
  (hn : n = es.length) (hp : pureEs es = true) : ACalls P f args H (fun r H'=>r = .list false sz es ∧ H' = H):=by
 refine ACalls.pure ha (h.mono ?_)
 rintro r H1 ⟨rfl,rfl⟩
 exact pubF rfl hn hn hp
def zV : V:=⟨0,0,bs []⟩
theorem u8_eq (n : Int) : u8 n = n % 256:=by
 show IntKind.u8.wrap n = _
 simp [IntKind.wrap,IntKind.signed,IntKind.bits]
theorem strOf_bytesI (s : ByteArray) : strOf (bytesI s) = s:=by
 obtain ⟨⟨l⟩⟩:=s
 simp only [strOf,bytesI,List.map_map]
 congr
 rw [List.map_congr_left (g:=id)]
 ·simp
 ·intro b _
  simp
theorem rowsCmp_zero : ∀ (a b : List V),rowsCmp a b = 0 ↔ a = b
 | [],[]=>by simp [rowsCmp]
 | [],_ :: _=>by simp [rowsCmp]
 | _ :: _,[]=>by simp [rowsCmp]
 | x :: a,y :: b=>by
  have hz:=isCmp_val.zero x y
  rw [rowsCmp]
  by_cases h : valCmp x y = 0
  ·rw [if_pos h,rowsCmp_zero a b,hz.1 h];simp
  ·rw [if_neg h]
   constructor
   ·intro h2;exact absurd h2 h
   ·intro h2;simp at h2;exact absurd (hz.2 h2.1) h
theorem lentSl {H : List AObj} {id ep len sz : Nat} {es : List (List AVal)} (ho : H[id]? = some (.arr sz es)) (he : ep = es.length) (hl : len = es.length) (hp : pureEs es = true) : Lent H (.sl id ep 0 len) (.list false sz es):=by
 subst he hl
 have:=Lent.sl id es.length 0 es.length sz es ho rfl hp
 rwa [List.drop_zero,List.take_length] at this
theorem iC_at {l : List Int} {k : Nat} {x : Int} (h : l[k]? = some x) : (iC l)[k]? = some [.int .i64 x]:=by simp [iC,h]
theorem iC_append (a b : List Int) : iC (a ++ b) = iC a ++ iC b:=List.map_append
def eqS (s t : ByteArray) : Bool:=s.data.toList == t.data.toList
structure Ent where
 row : List V
 cnt : Int
def fitB (e : Ent) : Int:=if 12 < e.row.length ∨ e.cnt < -65536 ∨ 65536 < e.cnt then 2 else if e.row.all validB then 0 else 8
def notB : Option (List V) → List V → Bool
 | some q,r=>decide (rowsCmp q r ≥ 0)
 | none,_=>false
def bvGo : List Ent → Option (List V) → Int
 | [],_=>0
 | e :: es,p=>if fitB e ≠ 0 then fitB e else if e.cnt = 0 then 8 else if notB p e.row = true then 14 else bvGo es (some e.row)
def bagB (b : List Ent) : Int:=if 4096 < b.length then 2 else bvGo b none
end Go.AW
namespace Go.AW
variable [Draws]
theorem ACalls.weakR {P : Program} {f : FuncId} {args : List AVal} {H : List AObj} {Q Q' : AVal → List AObj → Prop} (h : ACalls P f args H Q) (hq : ∀ r H',Q r H' → ∃ r',Wk r r' ∧ Q' r' H') : ACalls P f args H Q':=by
 intro C τ w vs hw hl hr
 have h:=h C τ w vs hw hl hr
 unfold CallsX at h ⊢
 split at h
 ·exact Calls.mono h fun e w' ⟨v,r,C',τ',H',h1,h2,h3,h4⟩=>by
   obtain ⟨r',hk,hq'⟩:=hq _ _ h2
   exact ⟨v,r',C',τ',H',h1,hq',h3.weak hk,h4⟩
 ·obtain ⟨v,r,C',τ',H',h1,h2,h3,h4⟩:=h
  obtain ⟨r',hk,hq'⟩:=hq _ _ h2
  exact ⟨v,r',C',τ',H',h1,hq',h3.weak hk,h4⟩
 ·exact h
attribute [local irreducible] ACalls
def smallB (n : Int) : Bool:=decide (-65536 ≤ n) && decide (n ≤ 65536)
def mrg : List Ent → List Ent → List Ent
 | [],b=>b
 | x :: a,[]=>x :: a
 | x :: a,y :: b=>if rowsCmp x.row y.row < 0 then x :: mrg a (y :: b) else if 0 < rowsCmp x.row y.row then y :: mrg (x :: a) b else ⟨x.row,x.cnt + y.cnt⟩ :: mrg a b
termination_by a b=>a.length + b.length
theorem mrg_nil (b : List Ent) : mrg [] b = b:=by rw [mrg]
theorem mrg_cons (x y : Ent) (a b : List Ent) : mrg (x :: a) (y :: b) = if rowsCmp x.row y.row < 0 then x :: mrg a (y :: b) else if 0 < rowsCmp x.row y.row then y :: mrg (x :: a) b else ⟨x.row,x.cnt + y.cnt⟩ :: mrg a b:=by rw [mrg]
def nzB (e : Ent) : Bool:=!(e.cnt == 0)
structure Grp where
 n : Int
 vals : List Ent
def oneB (e : Ent) : Bool:=match e.row with
 | [v]=>!(v.kind == 0)
 | _=>false
def rowsB (n : Int) : Bool:=decide (-268435456 ≤ n) && decide (n ≤ 268435456)
def grpB (g : Grp) : Int:=if rowsB g.n = false then 1 else if bagB g.vals ≠ 0 then bagB g.vals else if g.vals.all oneB then 0 else 8
end Go.AW
namespace Go.AW
variable [Draws]
section
variable {P : Program} {C : Nat → Nat} {τ : Nat → Option Loc} {H : List AObj} {w : World}
inductive WkD : AVal → AVal → Prop where
 | refl (a : AVal) : WkD a a
 | nil (x : Bool) (sz : Nat) : WkD .nil (.list x sz [])
 | list (x y : Bool) (sz : Nat) (es fs : List (List AVal)) (h : y = true → x = true) (hl : es.length = fs.length)
   (hl2 : ∀ (i : Nat) (e f : List AVal),es[i]? = some e → fs[i]? = some f → e.length = f.length)
   (hcell : ∀ (i j : Nat) (f : List AVal) (c : AVal),fs[i]? = some f → f[j]? = some c → c.isCell = true)
   (hc : ∀ (i j : Nat) (e f : List AVal) (d c : AVal),es[i]? = some e → fs[i]? = some f → e[j]? = some d → f[j]? = some c → WkD d c) : WkD (.list x sz es) (.list y sz fs)
 | agg (asv bs : List AVal) (hl : asv.length = bs.length) (h : ∀ (i : Nat) (a b : AVal),asv[i]? = some a → bs[i]? = some b → WkD a b) : WkD (.agg asv) (.agg bs)
 | tuple (asv bs : List AVal) (hl : asv.length = bs.length) (h : ∀ (i : Nat) (a b : AVal),asv[i]? = some a → bs[i]? = some b → WkD a b) : WkD (.tuple asv) (.tuple bs)
theorem Rd.weakD {a b : AVal} {v : Value} (h : Rd C w a v) (hw : WkD a b) : Rd C w b v:=by
 induction hw generalizing v with
 | refl=>exact h
 | nil x sz=>cases h;exact .list0 x sz none 0 (fun _=>rfl)
 | list x y sz es fs hxy hl hl2 hcell hc ih =>
  have hsome : ∀ {i : Nat} {f : List AVal},fs[i]? = some f → ∃ e,es[i]? = some e ∧ e.length = f.length:=fun {i f} hf=>by
   have hi : i < es.length:=by have:=(List.getElem?_eq_some_iff.1 hf).1;omega
   exact ⟨es[i],List.getElem?_eq_getElem hi,hl2 i _ _ (List.getElem?_eq_getElem hi) hf⟩
  cases h with
  | list0 _ _ a cap hx =>
   cases fs with
   | nil=>exact .list0 y sz a cap fun hy=>hx (hxy hy)
   | cons f fs=>simp at hl
  | list _ _ _ b off cap vs hx hcap hsz hC hcl hp hrd =>
   rw [hl]
   refine .list y sz fs b off cap vs (fun hy=>by rw [← hl];exact hx (hxy hy)) (by omega) (fun f hf=>?_) (by rw [← hl];exact hC) (fun i j hi hj=>hcl i j (by omega) hj) hcell (fun i j f c hf hcc=>?_)
   ·obtain ⟨i,hi,rfl⟩:=List.getElem_of_mem hf
    obtain ⟨e,he,hle⟩:=hsome (List.getElem?_eq_getElem hi)
    rw [← hle];exact hsz e (List.mem_of_getElem? he)
   ·obtain ⟨e,he,hle⟩:=hsome hf
    have hj : j < e.length:=by have:=(List.getElem?_eq_some_iff.1 hcc).1;omega
    exact ih i j e f e[j] c he hf (List.getElem?_eq_getElem hj) hcc (hrd i j e e[j] he (List.getElem?_eq_getElem hj))
 | agg=>cases h
 | tuple=>cases h
theorem Rel.weakD {a b : AVal} {v : Value} (h : Rel C w τ H a v) (hw : WkD a b) : Rel C w τ H b v:=by
 induction hw generalizing v with
 | refl=>exact h
 | nil x sz =>
  cases h with
  | rd h=>exact .rd (h.weakD (.nil x sz))
 | list x y sz es fs hxy hl hl2 hcell hc ih =>
  cases h with
  | rd h=>exact .rd (h.weakD (.list x y sz es fs hxy hl hl2 hcell hc))
 | agg asv bs hl h2 ih =>
  cases h with
  | rd h=>cases h
  | agg _ vs hlv hv =>
   refine .agg bs vs (by omega) fun i c u hc hu=>?_
   have hi : i < asv.length:=by have:=(List.getElem?_eq_some_iff.1 hc).1;omega
   exact ih i asv[i] c (List.getElem?_eq_getElem hi) hc (hv i asv[i] u (List.getElem?_eq_getElem hi) hu)
 | tuple asv bs hl h2 ih =>
  cases h with
  | rd h=>cases h
  | tuple _ vs hlv hv =>
   refine .tuple bs vs (by omega) fun i c u hc hu=>?_
   have hi : i < asv.length:=by have:=(List.getElem?_eq_some_iff.1 hc).1;omega
   exact ih i asv[i] c (List.getElem?_eq_getElem hi) hc (hv i asv[i] u (List.getElem?_eq_getElem hi) hu)
def WksD (asv bs : List AVal) : Prop:=asv.length = bs.length ∧ ∀ (i : Nat) (a b : AVal),asv[i]? = some a → bs[i]? = some b → WkD a b
theorem WksD.nil : WksD [] []:=⟨rfl,fun i a b h=>by simp at h⟩
theorem WksD.cons {a b : AVal} {asv bs : List AVal} (h : WkD a b) (hs : WksD asv bs) : WksD (a :: asv) (b :: bs):=by
 refine ⟨by simp [hs.1],fun i x y hx hy=>?_⟩
 cases i with
 | zero=>simp at hx hy;subst hx hy;exact h
 | succ i=>exact hs.2 i x y (by simpa using hx) (by simpa using hy)
theorem WkD.tuples {asv bs : List AVal} (h : WksD asv bs) : WkD (.tuple asv) (.tuple bs):=.tuple asv bs h.1 h.2
theorem ACalls.weakD {f : FuncId} {args bs : List AVal} {Q : AVal → List AObj → Prop} (h : ACalls P f bs H Q) (hw : WksD args bs) : ACalls P f args H Q:=by
 intro C τ w vs hwf hl hr
 refine h C τ w vs hwf (by rw [← hw.1];exact hl) fun i b v hb hv=>?_
 have hi : i < args.length:=by have:=(List.getElem?_eq_some_iff.1 hb).1;have:=hw.1;omega
 exact (hr i args[i] v (List.getElem?_eq_getElem hi) hv).weakD (hw.2 i args[i] b (List.getElem?_eq_getElem hi) hb)
theorem ACalls.weakRD {f : FuncId} {args : List AVal} {Q Q' : AVal → List AObj → Prop} (h : ACalls P f args H Q) (hq : ∀ r H',Q r H' → ∃ r',WkD r r' ∧ Q' r' H') : ACalls P f args H Q':=by
 intro C τ w vs hw hl hr
 have h:=h C τ w vs hw hl hr
 unfold CallsX at h ⊢
 split at h
 ·exact Calls.mono h fun e w' ⟨v,r,C',τ',H',h1,h2,h3,h4⟩=>by
   obtain ⟨r',hk,hq'⟩:=hq _ _ h2
   exact ⟨v,r',C',τ',H',h1,hq',h3.weakD hk,h4⟩
 ·obtain ⟨v,r,C',τ',H',h1,h2,h3,h4⟩:=h
  obtain ⟨r',hk,hq'⟩:=hq _ _ h2
  exact ⟨v,r',C',τ',H',h1,hq',h3.weakD hk,h4⟩
 ·exact h
end
attribute [local irreducible] ACalls
def sumE (a b : List Ent) : Int :=
 if bagB a ≠ 0 then bagB a else if bagB b ≠ 0 then bagB b else if ((mrg a b).all fun e=>smallB e.cnt) = true ∧ ((mrg a b).filter nzB).length ≤ 4096 then 0 else 2
def sumL (a b : List Ent) : List Ent:=(mrg a b).filter nzB
def mrgE (a b : Grp) : Int:=if rowsB (a.n + b.n) = false then 2 else sumE a.vals b.vals
def mrgG (a b : Grp) : Grp:=if mrgE a b = 0 then ⟨a.n + b.n,sumL a.vals b.vals⟩ else ⟨0,[]⟩
def oneG (v : V) (c : Int) : Grp:=⟨c,if v.kind ≠ 0 ∧ c ≠ 0 then [⟨[v],c⟩] else []⟩
def preE (g : Grp) (v : V) (c : Int) : Int:=if grpB g ≠ 0 then grpB g else if validB v = false then 8 else if smallB c = false then 1 else 0
def addGE (g : Grp) (v : V) (c : Int) : Int:=if preE g v c ≠ 0 then preE g v c else mrgE g (oneG v c)
def addGG (g : Grp) (v : V) (c : Int) : Grp:=if preE g v c ≠ 0 then ⟨0,[]⟩ else mrgG g (oneG v c)
def numV (n : Int) : V:=if n < -1073741824 ∨ 1073741824 < n then zV else ⟨2,n,bs []⟩
def num0 (e : Ent) : Int:=(e.row.getD 0 zV).num
def totGo : List Ent → Int → Int → Int × Int
 | [],s,c=>(s,c)
 | e :: es,s,c=>totGo es (w64 (s + w64 (num0 e * e.cnt))) (w64 (c + e.cnt))
def posB (e : Ent) : Bool:=decide (e.cnt > 0)
def notInt (e : Ent) : Bool:=!((e.row.getD 0 zV).kind == 2)
def row0 (e : Ent) : V:=e.row.getD 0 zV
def presV (l : List Ent) : List V:=(l.filter posB).map row0
def floorV (s c : Int) : Int:=if s.tmod c < 0 then w64 (w64 (s.tdiv c) - 1) else w64 (s.tdiv c)
def resE (f : Int) (g : Grp) : Int:=if f < 1 ∨ 7 < f then 1 else if grpB g ≠ 0 then grpB g else if (f = 3 ∨ f = 7) ∧ g.vals.any notInt = true then 7 else 0
def resV0 (f : Int) (g : Grp) : V :=
 if f = 1 then numV g.n else if f = 2 then numV (totGo g.vals 0 0).2 else if f = 6 then numV (presV g.vals).length
 else if f = 4 then (presV g.vals).head?.getD zV else if f = 5 then (presV g.vals).getLast?.getD zV
 else if f = 3 then (if g.vals = [] then zV else numV (totGo g.vals 0 0).1)
 else if 0 < (totGo g.vals 0 0).2 then numV (floorV (totGo g.vals 0 0).1 (totGo g.vals 0 0).2) else zV
def resV (f : Int) (g : Grp) : V:=if resE f g ≠ 0 then zV else resV0 f g
end Go.AW
namespace Go.AW
variable [Draws]
theorem rowsCmp_trans : ∀ (a b d : List V),rowsCmp a b < 0 → rowsCmp b d < 0 → rowsCmp a d < 0
 | [],_,[],_,h2=>by
  rename_i b _
  cases b with
  | nil=>exact h2
  | cons y ys=>rw [rowsCmp] at h2;omega
 | [],_,_ :: _,_,_=>by rw [rowsCmp];omega
 | x :: xs,[],_,h1,_=>by rw [rowsCmp] at h1;omega
 | x :: xs,y :: ys,[],_,h2=>by rw [rowsCmp] at h2;omega
 | x :: xs,y :: ys,z :: zs,h1,h2=>by
  rw [rowsCmp] at h1 h2 ⊢
  by_cases e1 : valCmp x y = 0
  ·rw [if_pos e1] at h1
   have hxy:=(isCmp_val.zero x y).1 e1
   subst hxy
   by_cases e2 : valCmp x z = 0
   ·rw [if_pos e2] at h2 ⊢;exact rowsCmp_trans xs ys zs h1 h2
   ·rw [if_neg e2] at h2 ⊢;exact h2
  ·rw [if_neg e1] at h1
   by_cases e2 : valCmp y z = 0
   ·have hyz:=(isCmp_val.zero y z).1 e2
    subst hyz
    rw [if_neg e1];exact h1
   ·rw [if_neg e2] at h2
    have:=isCmp_val.trans x y z h1 h2
    rw [if_neg (by omega)];exact this
def Srt (l : List Ent) : Prop:=l.Pairwise fun x y=>rowsCmp x.row y.row < 0
theorem fitB_iff (e : Ent) : fitB e = 0 ↔ e.row.length ≤ 12 ∧ smallB e.cnt = true ∧ e.row.all validB = true:=by
 simp only [smallB,Bool.and_eq_true,decide_eq_true_eq]
 unfold fitB
 constructor
 ·intro h
  split at h
  ·cases h
  ·split at h
   ·rename_i h1 h2;exact ⟨by omega,⟨by omega,by omega⟩,h2⟩
   ·cases h
 ·rintro ⟨h1,⟨h2,h3⟩,h4⟩
  rw [if_neg (by omega),if_pos h4]
theorem bvGo_iff : ∀ (l : List Ent) (p : Option (List V)),bvGo l p = 0 ↔ (∀ e ∈ l,fitB e = 0 ∧ e.cnt ≠ 0) ∧ Srt l ∧ ∀ q,p = some q → ∀ e ∈ l,rowsCmp q e.row < 0
 | [],p=>⟨fun _=>⟨fun e h=>(by simp at h),List.Pairwise.nil,fun q _ e h=>by simp at h⟩,fun _=>rfl⟩
 | x :: l,p=>by
  rw [bvGo]
  have nb : notB p x.row = true ↔ ∃ q,p = some q ∧ ¬ rowsCmp q x.row < 0:=by
   cases p with
   | none=>simp [notB]
   | some q=>simp [notB]
  constructor
  ·intro h
   by_cases h1 : fitB x = 0
   ·rw [if_neg (by simp [h1])] at h
    by_cases h2 : x.cnt = 0
    ·rw [if_pos h2] at h;cases h
    ·rw [if_neg h2] at h
     by_cases h3 : notB p x.row = true
     ·rw [if_pos h3] at h;cases h
     ·rw [if_neg h3] at h
      obtain ⟨g1,g2,g3⟩:=(bvGo_iff l (some x.row)).1 h
      have hp : ∀ q,p = some q → rowsCmp q x.row < 0:=fun q hq=>Classical.byContradiction fun hn=>h3 (nb.2 ⟨q,hq,hn⟩)
      refine ⟨fun e he=>?_,List.pairwise_cons.2 ⟨g3 _ rfl,g2⟩,fun q hq e he=>?_⟩
      ·rcases List.mem_cons.1 he with rfl | he
       ·exact ⟨h1,h2⟩
       ·exact g1 e he
      ·rcases List.mem_cons.1 he with rfl | he
       ·exact hp q hq
       ·exact rowsCmp_trans _ _ _ (hp q hq) (g3 _ rfl e he)
   ·rw [if_pos h1] at h;exact absurd h h1
  ·rintro ⟨h1,h2,h3⟩
   have hx:=h1 x (List.mem_cons_self ..)
   rw [if_neg (by simp [hx.1]),if_neg hx.2,if_neg (fun h=>by
    obtain ⟨q,hq,hn⟩:=nb.1 h
    exact hn (h3 q hq x (List.mem_cons_self ..)))]
   exact (bvGo_iff l (some x.row)).2 ⟨fun e he=>h1 e (List.mem_cons_of_mem _ he),(List.pairwise_cons.1 h2).2,fun q hq e he=>by cases hq;exact (List.pairwise_cons.1 h2).1 e he⟩
theorem bagB_iff (l : List Ent) : bagB l = 0 ↔ l.length ≤ 4096 ∧ (∀ e ∈ l,fitB e = 0 ∧ e.cnt ≠ 0) ∧ Srt l:=by
 rw [bagB]
 constructor
 ·intro h
  split at h
  ·cases h
  ·have:=(bvGo_iff l none).1 h
   exact ⟨by omega,this.1,this.2.1⟩
 ·rintro ⟨h1,h2,h3⟩
  rw [if_neg (by omega)]
  exact (bvGo_iff l none).2 ⟨h2,h3,fun q hq=>by cases hq⟩
attribute [local irreducible] ACalls
def g0 : Grp:=⟨0,[]⟩
def n5 : V:=⟨2,5,bs []⟩
theorem n5_valid : validB n5 = true:=by kernel_rfl
theorem mrg_one (v : V) (a b : Int) : mrg [⟨[v],a⟩] [⟨[v],b⟩] = [⟨[v],a + b⟩]:=by
 have h : rowsCmp [v] [v] = 0:=(rowsCmp_zero _ _).2 rfl
 rw [mrg_cons,if_neg (by show ¬ rowsCmp [v] [v] < 0;omega),if_neg (by show ¬ 0 < rowsCmp [v] [v];omega),mrg_nil]
theorem srt_one (e : Ent) : Srt [e]:=List.pairwise_singleton ..
theorem bagB_one (v : V) (c : Int) (hv : validB v = true) (hc : c ≠ 0) (hs : smallB c = true) : bagB [⟨[v],c⟩] = 0 :=
 (bagB_iff _).2 ⟨by simp,fun e he=>by
  rw [List.mem_singleton] at he;subst he
  exact ⟨(fitB_iff _).2 ⟨by simp,hs,by simp [hv]⟩,hc⟩,srt_one _⟩
theorem bagB_nil : bagB [] = 0:=rfl
theorem grpB_intro {g : Grp} (h1 : rowsB g.n = true) (h2 : bagB g.vals = 0) (h3 : g.vals.all oneB = true) : grpB g = 0:=by
 rw [grpB,if_neg (by simp [h1]),if_neg (by simp [h2]),if_pos h3]
theorem k1 : addGE g0 n5 2 = 0 ∧ addGG g0 n5 2 = ⟨2,[⟨[n5],2⟩]⟩:=by
 have hp : preE g0 n5 2 = 0:=by rw [preE,if_neg (by simp [grpB_intro (g:=g0) rfl rfl rfl]),if_neg (by simp [n5_valid]),if_neg (by decide)]
 have ho : oneG n5 2 = ⟨2,[⟨[n5],2⟩]⟩:=by rw [oneG,if_pos ⟨by decide,by decide⟩]
 have hm : mrgE g0 ⟨2,[⟨[n5],2⟩]⟩ = 0:=by
  rw [mrgE,if_neg (by decide),sumE,if_neg (by simp [g0,bagB_nil]),if_neg (by simp [bagB_one n5 2 n5_valid (by decide) (by decide)]),if_pos ⟨by simp [g0,mrg_nil,smallB],by simp [g0,mrg_nil,nzB]⟩]
 have e1 : addGE g0 n5 2 = 0:=by rw [addGE,if_neg (by simp [hp]),ho,hm]
 refine ⟨e1,?_⟩
 rw [addGG,if_neg (by simp [hp]),ho,mrgG,if_pos hm]
 simp [g0,sumL,mrg_nil,nzB]
theorem k2 : addGE ⟨2,[⟨[n5],2⟩]⟩ n5 (-1) = 0 ∧ addGG ⟨2,[⟨[n5],2⟩]⟩ n5 (-1) = ⟨1,[⟨[n5],1⟩]⟩:=by
 have hb:=bagB_one n5 2 n5_valid (by decide) (by decide)
 have hp : preE ⟨2,[⟨[n5],2⟩]⟩ n5 (-1) = 0:=by rw [preE,if_neg (by simp [grpB_intro (g:=⟨2,[⟨[n5],2⟩]⟩) rfl hb rfl]),if_neg (by simp [n5_valid]),if_neg (by decide)]
 have ho : oneG n5 (-1) = ⟨-1,[⟨[n5],-1⟩]⟩:=by rw [oneG,if_pos ⟨by decide,by decide⟩]
 have hm : mrgE ⟨2,[⟨[n5],2⟩]⟩ ⟨-1,[⟨[n5],-1⟩]⟩ = 0:=by
  rw [mrgE,if_neg (by decide),sumE,if_neg (by simp [hb]),if_neg (by simp [bagB_one n5 (-1) n5_valid (by decide) (by decide)]),if_pos ⟨by simp [mrg_one,smallB],by simp [mrg_one,nzB]⟩]
 have e1 : addGE ⟨2,[⟨[n5],2⟩]⟩ n5 (-1) = 0:=by rw [addGE,if_neg (by simp [hp]),ho,hm]
 refine ⟨e1,?_⟩
 rw [addGG,if_neg (by simp [hp]),ho,mrgG,if_pos hm]
 simp [sumL,mrg_one,nzB]
def gk : Grp:=⟨1,[⟨[n5],1⟩]⟩
theorem gk_ok : grpB gk = 0:=grpB_intro rfl (bagB_one n5 1 n5_valid (by decide) (by decide)) rfl
theorem k3 : resE 3 gk = 0 ∧ resV 3 gk = n5 ∧ resE 1 gk = 0 ∧ resV 1 gk = ⟨2,1,bs []⟩:=by
 have h3 : resE 3 gk = 0:=by rw [resE,if_neg (by decide),if_neg (by simp [gk_ok])];rfl
 have h1 : resE 1 gk = 0:=by rw [resE,if_neg (by decide),if_neg (by simp [gk_ok])];rfl
 refine ⟨h3,?_,h1,?_⟩
 ·rw [resV,if_neg (by simp [h3])];kernel_rfl
 ·rw [resV,if_neg (by simp [h1])];kernel_rfl
def beN : Nat → Int → List Int
 | 0,_=>[]
 | k + 1,n=>beN k (n / 256) ++ [n % 256]
theorem beN_length : ∀ (k : Nat) (n : Int),(beN k n).length = k
 | 0,_=>rfl
 | k + 1,n=>by rw [beN,List.length_append,beN_length k];rfl
theorem beN_byt : ∀ (k : Nat) (n : Int),Byt (beN k n)
 | 0,_=>fun x h=>by simp [beN] at h
 | k + 1,n=>fun x h=>by
  rw [beN] at h
  rcases List.mem_append.1 h with h | h
  ·exact beN_byt k _ x h
  ·rw [List.mem_singleton] at h;subst h;omega
theorem beN_head : ∀ (k : Nat) (n : Int),beN (k + 1) n = (n / 256 ^ k) % 256 :: beN k n
 | 0,n=>by simp [beN]
 | k + 1,n=>by
  rw [beN,beN_head k (n / 256),beN,List.cons_append]
  congr 2
  rw [Int.ediv_ediv_of_nonneg (by omega),Int.pow_succ,Int.mul_comm]
def w2 (n : Int) : List Int:=[u8 (n.fdiv (2 ^ 8)),u8 n]
theorem w2_eq (n : Int) : w2 n = beN 2 n:=by
 simp only [w2,beN,u8_eq,List.nil_append,List.singleton_append]
 rw [Int.fdiv_eq_ediv_of_nonneg _ (by omega)];rfl
theorem w4_eq (n : Int) : w4 n = beN 4 n:=by
 simp only [w4,beN,u8_eq,List.nil_append,List.singleton_append,List.cons_append]
 rw [Int.fdiv_eq_ediv_of_nonneg _ (by omega),Int.fdiv_eq_ediv_of_nonneg _ (by omega),Int.fdiv_eq_ediv_of_nonneg _ (by omega)]
 congr 1
 ·omega
 congr 1
 ·omega
def p4 (n : Int) : List Int:=w2 (IntKind.i64.wrap (n.fdiv (2 ^ 16))) ++ [u8 (n.fdiv (2 ^ 8)),u8 n]
theorem byteCells_eq (s : ByteArray) : byteCells s.data.toList = bC (bytesI s):=by simp [byteCells,bC,bytesI]
theorem bytesI_length (s : ByteArray) : (bytesI s).length = s.size:=by simp [bytesI]
set_option maxRecDepth 20000 in
theorem putText_spec {P : Program} (F : F_z01 P) (H : List AObj) (id : Nat) (es : List (List AVal)) (s : ByteArray) (ho : H[id]? = some (.arr 1 es)) (hl : es.length ≤ 100000) (hs : s.size ≤ 100000) :
  ACalls P F.id [.sl id es.length 0 es.length,.str s] H (fun r H'=>r = .sl id (es ++ bC (u8 s.size :: bytesI s)).length 0 (es ++ bC (u8 s.size :: bytesI s)).length ∧ H' = H.set id (.arr 1 (es ++ bC (u8 s.size :: bytesI s)))):=by
 have hid:=(List.getElem?_eq_some_iff.1 ho).1
 have hbl:=bytesI_length s
 refine acalls_of_body F.has ?_
 (conv=>whnf);refine recO (ho) ?_
 (conv=>whnf);refine recT (Nat.beq_refl _) ?_
 conv=>whnf
 refine And.intro ⟨?_,?_,rfl,rfl⟩ ?_
 ·exact roomB_le1 (by simp;omega)
 ·exact roomB_le (by simp;omega)
 rw [setO_eq]
 have ho2 : (H.set id (.arr 1 (es ++ [[AVal.int .u8 (u8 s.size)]])))[id]? = some (.arr 1 (es ++ [[AVal.int .u8 (u8 s.size)]])):=List.getElem?_set_self hid
 (conv=>whnf);refine recO (ho2) ?_
 (conv=>whnf);refine recT (Nat.beq_refl _) ?_
 conv=>whnf
 refine And.intro ⟨?_,?_,rfl,rfl⟩ ?_
 ·exact roomB_le1 (by rw [byteCells_eq];simp [bC_length];omega)
 ·exact roomB_le (by rw [byteCells_eq];simp [bC_length];omega)
 rw [setO_eq]
 conv=>whnf
 have e : es ++ bC (u8 s.size :: bytesI s) = es ++ [[AVal.int .u8 (u8 s.size)]] ++ byteCells s.data.toList:=by rw [byteCells_eq];simp [bC]
 rw [e]
 exact ⟨rfl,by rw [List.set_set]⟩
def fnvS (s c : Int) : Int:=IntKind.u32.wrap (IntKind.u32.wrap (BitVec.ofInt 32 s ^^^ BitVec.ofInt 32 (IntKind.u32.wrap c)).toNat * 16777619)
def fnvG (l : List Int) (s : Int) : Int:=l.foldl fnvS s
def fnv (l : List Int) : Int:=fnvG l 2166136261
theorem u32_wrap (n : Int) : IntKind.u32.wrap n = n % 4294967296:=by simp [IntKind.wrap,IntKind.bits,IntKind.signed]
theorem u64_wrap (n : Int) : IntKind.u64.wrap n = n % 18446744073709551616:=by simp [IntKind.wrap,IntKind.bits,IntKind.signed]
theorem fnvS_bound (s c : Int) : 0 ≤ fnvS s c ∧ fnvS s c < 4294967296:=by rw [fnvS,u32_wrap];omega
theorem fnvG_bound : ∀ (l : List Int) (s : Int),0 ≤ s → s < 4294967296 → 0 ≤ fnvG l s ∧ fnvG l s < 4294967296
 | [],s,h1,h2=>⟨h1,h2⟩
 | c :: l,s,_,_=>fnvG_bound l (fnvS s c) (fnvS_bound s c).1 (fnvS_bound s c).2
theorem fnv_bound (l : List Int) : 0 ≤ fnv l ∧ fnv l < 4294967296:=fnvG_bound l _ (by decide) (by decide)
theorem bC_get {l : List Int} {k : Nat} {x : Int} (h : l[k]? = some x) : (bC l)[k]? = some [.int .u8 x]:=by rw [bC,List.getElem?_map,h];rfl
set_option maxRecDepth 20000 in
theorem Checksum_spec {P : Program} (F : F_z00 P) (ex : Bool) (l : List Int) (hl : l.length ≤ 100000000) (H : List AObj) :
  ACalls P F.id [.list ex 1 (bC l)] H (fun r H'=>r = .int .u32 (fnv l) ∧ H' = H):=by
 refine ACalls.pure rfl (acalls_of_body F.has ?_)
 conv=>whnf
 refine ⟨fun m ρ H1=>∃ (k : Nat) (s : Int),k + m = l.length ∧ fnvG (l.drop k) s = fnv l ∧ H1 = [] ∧
  Sv 19 [(3,.int .u32 s),(6,.list ex 1 (bC l)),(7,.int .i64 l.length),(8,.int .i64 k)] ρ,l.length,[],?_,?_⟩
 ·exact ⟨0,_,by omega,rfl,rfl,Sv.intro rfl ⟨rfl,rfl,intEq (by rw [bC_length]),rfl,trivial⟩⟩
 rintro m ρ H1 ⟨k,s,hk,hr,rfl,d,rfl⟩
 (conv=>whnf);refine recA (fun hlt=>?_) (fun hlt=>?_)
 ·simp at hlt
  obtain ⟨x,hx,hd,_⟩:=get_drop hlt
  rw [hd] at hr
  (conv=>whnf);refine And.intro (by omega) ?_
  (conv=>whnf);refine recO (bC_get hx) ?_
  conv=>whnf
  refine ⟨m - 1,by omega,Gp.keep rfl ?_ fun ρ1 h=>⟨k + 1,fnvS s x,by omega,hr,rfl,h⟩⟩
  exact ⟨rfl,rfl,rfl,intEq (wrapI ((k : Int) + 1) (by omega) (by omega)),trivial⟩
 ·simp at hlt
  conv=>whnf
  rw [List.drop_eq_nil_of_le hlt] at hr
  exact pubI hr
theorem xor_nat (k : Nat) (a b : Nat) (ha : a < 2 ^ k) (hb : b < 2 ^ k) : (BitVec.ofInt k (a : Int) ^^^ BitVec.ofInt k (b : Int)).toNat = a ^^^ b:=by
 rw [BitVec.toNat_xor,BitVec.ofInt_natCast,BitVec.ofInt_natCast,BitVec.toNat_ofNat,BitVec.toNat_ofNat,Nat.mod_eq_of_lt ha,Nat.mod_eq_of_lt hb]
theorem fnv_ref (s c : Int) (h0 : 0 ≤ s) (h1 : s < 4294967296) (c0 : 0 ≤ c) (c1 : c ≤ 255) :
  (IntKind.u64.wrap (IntKind.u64.wrap (BitVec.ofInt 64 s ^^^ BitVec.ofInt 64 (IntKind.u64.wrap c)).toNat * 16777619)).tmod 4294967296 = fnvS s c:=by
 obtain ⟨a,rfl⟩:=Int.eq_ofNat_of_zero_le h0
 obtain ⟨b,rfl⟩:=Int.eq_ofNat_of_zero_le c0
 have w1 : IntKind.u64.wrap (b : Int) = b:=by rw [u64_wrap];omega
 have w2 : IntKind.u32.wrap (b : Int) = b:=by rw [u32_wrap];omega
 have hx : a ^^^ b < 2 ^ 32:=Nat.xor_lt_two_pow (by omega) (by omega)
 rw [fnvS,w1,w2,xor_nat 64 a b (by omega) (by omega),xor_nat 32 a b (by omega) (by omega)]
 rw [u64_wrap,u64_wrap,u32_wrap,u32_wrap,Int.tmod_eq_emod_of_nonneg (by omega)]
 omega
set_option maxRecDepth 20000 in
theorem ref24_Checksum_spec {P : Program} (F : F_z1g P) (ex : Bool) (l : List Int) (hl : l.length ≤ 100000000) (hb : Byt l) (H : List AObj) :
  ACalls P F.id [.list ex 1 (bC l)] H (fun r H'=>r = .int .u32 (fnv l) ∧ H' = H):=by
 refine ACalls.pure rfl (acalls_of_body F.has ?_)
 conv=>whnf
 refine ⟨fun m ρ H1=>∃ (k : Nat) (s : Int),k + m = l.length ∧ fnvG (l.drop k) s = fnv l ∧ 0 ≤ s ∧ s < 4294967296 ∧ H1 = [] ∧
  Sv 22 [(0,.list ex 1 (bC l)),(3,.int .u64 s),(4,.int .i64 k)] ρ,l.length,[],?_,?_⟩
 ·exact ⟨0,_,by omega,rfl,by decide,by decide,rfl,Sv.intro rfl ⟨rfl,rfl,rfl,trivial⟩⟩
 rintro m ρ H1 ⟨k,s,hk,hr,s0,s1,rfl,d,rfl⟩
 (conv=>whnf);refine recA (fun hlt=>?_) (fun hlt=>?_)
 ·simp [bC_length] at hlt
  obtain ⟨x,hx,hd,hxm⟩:=get_drop hlt
  rw [hd] at hr
  have hxb:=hb x hxm
  (conv=>whnf);refine And.intro (by omega) ?_
  (conv=>whnf);refine recO (bC_get hx) ?_
  (conv=>whnf);refine And.intro (by decide) ?_
  conv=>whnf
  refine ⟨m - 1,by omega,Gp.keep rfl ?_ fun ρ1 h=>⟨k + 1,fnvS s x,by omega,hr,(fnvS_bound s x).1,(fnvS_bound s x).2,rfl,h⟩⟩
  exact ⟨rfl,intEq (fnv_ref s x s0 s1 hxb.1 hxb.2),intEq (wrapI ((k : Int) + 1) (by omega) (by omega)),trivial⟩
 ·simp [bC_length] at hlt
  conv=>whnf
  rw [List.drop_eq_nil_of_le hlt] at hr
  have e : IntKind.u32.wrap s = s:=by rw [u32_wrap];omega
  exact pubI (by rw [← hr];exact e)
theorem setEs_bC (l : List Int) (k : Nat) (v : Int) : setEs (bC l) k [.int .u8 v] = bC (l.set k v):=by rw [setEs_eq];simp [bC]
def numK (k j : Nat) (n : Int) : List Int:=List.replicate (k - j) 0 ++ beN j n
theorem numK_length {k j : Nat} (n : Int) (h : j ≤ k) : (numK k j n).length = k:=by rw [numK,List.length_append,List.length_replicate,beN_length];omega
theorem numK_set {k j : Nat} (n : Int) (h : j < k) : (numK k j n).set (k - 1 - j) ((n / 256 ^ j) % 256) = numK k (j + 1) n:=by
 rw [numK,numK,beN_head,show k - j = (k - (j + 1)) + 1 by omega,List.replicate_succ',List.append_assoc,List.set_append,if_neg (by simp;omega)]
 simp [show k - 1 - j - (k - (j + 1)) = 0 by omega]
theorem div_pow (n : Int) (j : Nat) : n / 256 ^ j / 256 = n / 256 ^ (j + 1):=by
 rw [Int.ediv_ediv_of_nonneg (Int.pow_nonneg (by omega)),Int.pow_succ]
set_option maxRecDepth 20000 in
theorem ref24_number_raw {P : Program} (F : F_z1h P) (n : Int) (k : Nat) (hn : 0 ≤ n) (hn2 : n ≤ 9000000000000000000) (hk : k ≤ 100) :
  ACalls P F.id [.int .i64 n,.int .i64 k] [] (fun r H'=>r = .sl 0 k 0 k ∧ H' = [.arr 1 (bC (beN k n))]):=by
 refine acalls_of_body F.has ?_
 (conv=>whnf);refine And.intro (⟨by omega,by omega,by show (k : Int) * ((1 : Nat) : Int) ≤ 1099511627776;omega,by show (k : Int) ≤ 1099511627776;omega⟩) ?_
 conv=>whnf
 have ew : IntKind.i64.wrap ((k : Int) - 1) = (k : Int) - 1:=wrapI _ (by omega) (by omega)
 refine ⟨fun m ρ H1=>∃ j : Nat,j + m = k ∧ H1 = [.arr 1 (bC (numK k j n))] ∧
  Sv 24 [(0,.int .i64 (n / 256 ^ j)),(5,.sl 0 k 0 k),(6,.int .i64 ((k : Int) - 1 - j))] ρ,k,[],?_,?_⟩
 ·refine ⟨0,by omega,?_,Sv.intro rfl ⟨intEq (by simp),rfl,intEq (by rw [ew];omega),trivial⟩⟩
  simp [numK,beN,bC]
 rintro m ρ H1 ⟨j,hj,rfl,d,rfl⟩
 have hlen : (bC (numK k j n)).length = k:=by rw [bC_length,numK_length n (by omega)]
 have hq0 : 0 ≤ n / 256 ^ j:=Int.ediv_nonneg hn (Int.pow_nonneg (by omega))
 have hq1 : n / 256 ^ j ≤ n:=Int.ediv_le_self _ hn
 (conv=>whnf);refine recA (fun hlt=>?_) (fun hlt=>?_)
 ·replace hlt : decide ((k : Int) - 1 - j ≥ 0) = true:=hlt
  simp at hlt
  have hjn : ((k : Int) - 1 - j).toNat = k - 1 - j:=by omega
  have hg : (bC (numK k j n))[0 + ((k : Int) - 1 - j).toNat]? = some [.int .u8 ((numK k j n)[k - 1 - j]'(by rw [numK_length n (by omega)];omega))]:=by
   rw [Nat.zero_add,hjn];exact bC_get (List.getElem?_eq_getElem _)
  (conv=>whnf);refine And.intro (by decide) ?_
  (conv=>whnf);refine recT (by rw [hlen];exact Nat.beq_refl _) ?_
  (conv=>whnf);refine And.intro (⟨by omega,by omega⟩) ?_
  (conv=>whnf);refine recT (by rw [hlen];exact Nat.beq_refl _) ?_
  (conv=>whnf);refine recO (hg) ?_
  (conv=>whnf);refine And.intro (by decide) ?_
  conv=>whnf
  refine ⟨m - 1,by omega,Gp.keep rfl ?_ fun ρ1 h=>⟨j + 1,by omega,?_,h⟩⟩
  ·refine ⟨intEq ?_,rfl,intEq ?_,trivial⟩
   ·show IntKind.i64.wrap ((n / 256 ^ j).tdiv 256) = _
    rw [Int.tdiv_eq_ediv_of_nonneg hq0,div_pow,wrapI _ (by have:=Int.ediv_nonneg hn (Int.pow_nonneg (n:=256) (m:=j + 1) (by omega));omega) (by have:=Int.ediv_le_self (256 ^ (j + 1)) hn;omega)]
   ·show IntKind.i64.wrap ((k : Int) - 1 - j - 1) = _
    rw [wrapI _ (by omega) (by omega)];omega
  ·have hv : IntKind.u8.wrap ((n / 256 ^ j).tmod 256) = (n / 256 ^ j) % 256:=by
    have:=u8_eq ((n / 256 ^ j).tmod 256)
    rw [show u8 ((n / 256 ^ j).tmod 256) = IntKind.u8.wrap ((n / 256 ^ j).tmod 256) from rfl] at this
    rw [this,Int.tmod_eq_emod_of_nonneg hq0];omega
   rw [← numK_set n (by omega),← setEs_bC,← hv,← hjn]
   show [AObj.arr 1 (setEs (bC (numK k j n)) (0 + ((k : Int) - 1 - j).toNat) _)] = _
   rw [Nat.zero_add]
 ·replace hlt : decide ((k : Int) - 1 - j ≥ 0) = false:=hlt
  simp at hlt
  have : j = k:=by omega
  subst this
  conv=>whnf
  refine ⟨rfl,?_⟩
  simp [numK]
theorem ref24_number_spec {P : Program} (F : F_z1h P) (n : Int) (k : Nat) (hn : 0 ≤ n) (hn2 : n ≤ 9000000000000000000) (hk : k ≤ 100) (H : List AObj) :
  ACalls P F.id [.int .i64 n,.int .i64 k] H (fun r H'=>r = .list false 1 (bC (beN k n)) ∧ H' = H) :=
 ACalls.frz1 rfl (ref24_number_raw F n k hn hn2 hk) (by rw [bC_length,beN_length]) (pureEs_bC _)
structure Rec where
 del : Bool
 seq : Int
 row : List V
structure Fil where
 id : ByteArray
 src : ByteArray
 recs : List Rec
structure RdS where
 rest : List Int
 bad : Bool
def rdO (s : RdS) : AObj:=.arr 2 [[.list false 1 (bC s.rest),.bool s.bad]]
def tkB (n : Int) (s : RdS) : Bool:=!s.bad && decide (n ≤ s.rest.length)
def tkL (n : Int) (s : RdS) : List Int:=if tkB n s then s.rest.take n.toNat else []
def tkS (n : Int) (s : RdS) : RdS:=if tkB n s then ⟨s.rest.drop n.toNat,false⟩ else ⟨s.rest,true⟩
theorem tkL_byt {n : Int} {s : RdS} (h : Byt s.rest) : Byt (tkL n s):=by
 intro x hx
 unfold tkL at hx
 split at hx
 ·exact h x (List.mem_of_mem_take hx)
 ·simp at hx
theorem tkS_byt {n : Int} {s : RdS} (h : Byt s.rest) : Byt (tkS n s).rest:=by
 unfold tkS
 split
 ·exact fun x hx=>h x (List.mem_of_mem_drop hx)
 ·exact h
theorem tkS_len (n : Int) (s : RdS) : (tkS n s).rest.length ≤ s.rest.length:=by
 unfold tkS
 split
 ·simp
 ·exact Nat.le_refl _
theorem tkL_len {n : Int} {s : RdS} (hn : 0 ≤ n) : ((tkL n s).length : Int) ≤ n:=by
 unfold tkL
 split
 ·rw [List.length_take];omega
 ·simp;omega
theorem tkL_len2 (n : Int) (s : RdS) : (tkL n s).length ≤ s.rest.length:=by
 unfold tkL
 split
 ·rw [List.length_take];omega
 ·simp
set_option maxRecDepth 20000 in
theorem take_raw {P : Program} (F : F_z03 P) (n : Int) (hn : 0 ≤ n) (s : RdS) :
  ACalls P F.id [.ptr 0 1 0 0,.int .i64 n] [rdO s] (fun r H'=>r = .list false 1 (bC (tkL n s)) ∧ H' = [rdO (tkS n s)]):=by
 refine ACalls.weakR (Q:=fun r H'=>(r = .nil ∧ tkB n s = false ∧ H' = [rdO (tkS n s)]) ∨ (r = .list false 1 (bC (tkL n s)) ∧ H' = [rdO (tkS n s)])) ?_ (by
  rintro r H' (⟨rfl,h,rfl⟩ | ⟨rfl,rfl⟩)
  ·exact ⟨_,.nil false 1,by rw [tkL,h];rfl,rfl⟩
  ·exact ⟨_,.refl _,rfl,rfl⟩)
 refine acalls_of_body F.has ?_
 (conv=>whnf);refine recA (fun hb=>?_) (fun hb=>?_)
 ·replace hb : s.bad = true:=hb
  have ht : tkB n s = false:=by rw [tkB,hb];rfl
  conv=>whnf
  exact .inl ⟨rfl,ht,by rw [tkS,ht];rfl⟩
 replace hb : s.bad = false:=hb
 (conv=>whnf);refine recA (fun hl=>?_) (fun hl=>?_)
 ·simp [bC_length] at hl
  have ht : tkB n s = false:=by rw [tkB,hb];simp;omega
  conv=>whnf
  exact .inl ⟨rfl,ht,by rw [tkS,ht];rfl⟩
 simp [bC_length] at hl
 have ht : tkB n s = true:=by rw [tkB,hb];simp;omega
 (conv=>whnf);refine And.intro (⟨by omega,by rw [bC_length];omega⟩) ?_
 (conv=>whnf);refine And.intro (⟨by omega,by rw [bC_length];omega⟩) ?_
 conv=>whnf
 refine .inr ⟨?_,?_⟩
 ·rw [tkL,ht,if_pos rfl,← bC_take];rfl
 ·rw [tkS,ht,if_pos rfl,rdO]
  simp only [hb]
  rw [← bC_drop]
  show [AObj.arr 2 [[.list false 1 (((bC s.rest).take (bC s.rest).length).drop n.toNat),.bool false]]] = _
  rw [List.take_length]
theorem take_spec {P : Program} (F : F_z03 P) (n : Int) (hn : 0 ≤ n) (s : RdS) (H : List AObj) (id : Nat) (ho : H[id]? = some (rdO s)) :
  ACalls P F.id [.ptr id 1 0 0,.int .i64 n] H (fun r H'=>r = .list false 1 (bC (tkL n s)) ∧ H' = H.set id (rdO (tkS n s))) :=
 (take_raw F n hn s).fr ho rfl rfl (.pt (.cl rfl trivial)) (.closed _ rfl)
def nbV (n : Int) (s : RdS) : Int:=num (tkL n s)
theorem num_bnd (l : List Int) (h : Byt l) : 0 ≤ num l ∧ num l < 256 ^ l.length:=by
 have key : ∀ (l : List Int),Byt l → ∀ (a : Int) (k : Nat),0 ≤ a → a < 256 ^ k → 0 ≤ l.foldl (fun n x=>n * 256 + x) a ∧ l.foldl (fun n x=>n * 256 + x) a < 256 ^ (k + l.length):=by
  intro l
  induction l with
  | nil=>intro _ a k h1 h2;exact ⟨h1,h2⟩
  | cons x l ih =>
   intro hb a k h1 h2
   have hx:=hb x (List.mem_cons_self ..)
   have hp : (256 : Int) ^ (k + 1) = 256 ^ k * 256:=Int.pow_succ ..
   have:=ih (fun y hy=>hb y (List.mem_cons_of_mem _ hy)) (a * 256 + x) (k + 1) (by omega) (by omega)
   rw [List.length_cons,show k + (l.length + 1) = k + 1 + l.length by omega]
   exact this
 have:=key l h 0 0 (by omega) (by decide)
 rwa [Nat.zero_add] at this
set_option maxRecDepth 20000 in
theorem nbV_bound {n : Int} {s : RdS} (hn : 0 ≤ n) (hn4 : n ≤ 4) (h : Byt s.rest) : 0 ≤ nbV n s ∧ nbV n s < 4294967296:=by
 have h1:=num_bnd _ (tkL_byt (n:=n) h)
 have h2:=tkL_len (s:=s) hn
 have h3 : (256 : Int) ^ (tkL n s).length ≤ 256 ^ 4:=by
  have : (256 : Nat) ^ (tkL n s).length ≤ 256 ^ 4:=Nat.pow_le_pow_right (by omega) (by omega)
  exact_mod_cast this
 rw [nbV];omega
set_option maxRecDepth 20000 in
theorem rnumber_raw {P : Program} (F : F_z02 P) (n : Int) (hn : 0 ≤ n) (hn6 : n ≤ 4) (s : RdS) (hby : Byt s.rest) :
  ACalls P F.id [.ptr 0 1 0 0,.int .i64 n] [rdO s] (fun r H'=>r = .int .i64 (nbV n s) ∧ H' = [rdO (tkS n s)]):=by
 have hl:=tkL_len (s:=s) hn
 have hb:=tkL_byt (n:=n) hby
 refine acalls_of_body F.has ?_
 (conv=>whnf);refine ACalls.mono (take_raw F.z03 n hn s) ?_
 rintro r H' ⟨rfl,rfl⟩
 conv=>whnf
 refine ⟨fun m ρ H=>∃ (k : Nat) (acc : Int),k + m = (tkL n s).length ∧ 0 ≤ acc ∧ acc < 256 ^ k ∧ ((tkL n s).drop k).foldl (fun n x=>n * 256 + x) acc = num (tkL n s) ∧ H = [rdO (tkS n s)] ∧
  Sv 23 [(5,.int .i64 acc),(10,.list false 1 (bC (tkL n s))),(11,.int .i64 (tkL n s).length),(12,.int .i64 k)] ρ,(tkL n s).length,[],?_,?_⟩
 ·exact ⟨0,0,by omega,by omega,by omega,rfl,rfl,Sv.intro rfl ⟨rfl,rfl,intEq (by rw [bC_length]),rfl,trivial⟩⟩
 rintro m ρ H ⟨k,acc,hk,h0,h1,hr,rfl,d,rfl⟩
 (conv=>whnf);refine recA (fun hlt=>?_) (fun hlt=>?_)
 ·simp at hlt
  obtain ⟨x,hx,hd,hmem⟩:=get_drop hlt
  have hxb:=hb x hmem
  (conv=>whnf);refine And.intro (by omega) ?_
  (conv=>whnf);refine recO (bC_at hx) ?_
  (conv=>whnf);refine And.intro (by decide) ?_
  conv=>whnf
  have hp : (256 : Int) ^ k ≤ 256 ^ 4:=by
   have : (256 : Nat) ^ k ≤ 256 ^ 4:=Nat.pow_le_pow_right (by omega) (by omega)
   exact_mod_cast this
  have hp2 : (256 : Int) ^ (k + 1) = 256 ^ k * 256:=Int.pow_succ ..
  refine ⟨m - 1,by omega,Gp.keep rfl ?_ fun ρ1 h=>⟨k + 1,acc * 256 + x,by omega,by omega,by omega,?_,rfl,h⟩⟩
  ·refine ⟨intEq ?_,rfl,rfl,intEq (wrapI ((k : Int) + 1) (by omega) (by omega)),trivial⟩
   show or64 (IntKind.i64.wrap (acc * 2 ^ 8)) (IntKind.i64.wrap x) = _
   rw [wrapI _ (by omega) (by omega),wrapI x (by omega) (by omega),or64_add acc x 8 h0 hxb.1 (by omega) (by omega)]
   omega
  ·rw [← hr,hd];rfl
 ·simp at hlt
  conv=>whnf
  rw [List.drop_eq_nil_of_le hlt] at hr
  exact ⟨intEq hr,rfl⟩
theorem rnumber_spec {P : Program} (F : F_z02 P) (n : Int) (hn : 0 ≤ n) (hn6 : n ≤ 4) (s : RdS) (hby : Byt s.rest) (H : List AObj) (id : Nat) (ho : H[id]? = some (rdO s)) :
  ACalls P F.id [.ptr id 1 0 0,.int .i64 n] H (fun r H'=>r = .int .i64 (nbV n s) ∧ H' = H.set id (rdO (tkS n s))) :=
 (rnumber_raw F n hn hn6 s hby).fr ho rfl rfl (.pt (.cl rfl trivial)) (.closed _ rfl)
def txV (s : RdS) : ByteArray:=strOf (tkL (nbV 1 s) (tkS 1 s))
def txS (s : RdS) : RdS:=tkS (nbV 1 s) (tkS 1 s)
set_option maxRecDepth 20000 in
theorem rtext_raw {P : Program} (F : F_z04 P) (s : RdS) (hby : Byt s.rest) :
  ACalls P F.id [.ptr 0 1 0 0] [rdO s] (fun r H'=>r = .str (txV s) ∧ H' = [rdO (txS s)]):=by
 refine acalls_of_body F.has ?_
 (conv=>whnf);refine ACalls.mono (rnumber_raw F.z02 1 (by omega) (by omega) s hby) ?_
 rintro r H' ⟨rfl,rfl⟩
 (conv=>whnf);refine ACalls.mono (take_raw F.z03 _ (nbV_bound (by omega) (by omega) hby).1 (tkS 1 s)) ?_
 rintro r H' ⟨rfl,rfl⟩
 (conv=>whnf);refine ⟨_,bytesOf_bC _,?_⟩
 conv=>whnf
 exact ⟨rfl,rfl⟩
theorem rtext_spec {P : Program} (F : F_z04 P) (s : RdS) (hby : Byt s.rest) (H : List AObj) (id : Nat) (ho : H[id]? = some (rdO s)) :
  ACalls P F.id [.ptr id 1 0 0] H (fun r H'=>r = .str (txV s) ∧ H' = H.set id (rdO (txS s))) :=
 (rtext_raw F s hby).fr ho rfl rfl (.pt trivial) (.closed _ rfl)
theorem txS_byt {s : RdS} (h : Byt s.rest) : Byt (txS s).rest:=tkS_byt (tkS_byt h)
theorem txS_len (s : RdS) : (txS s).rest.length ≤ s.rest.length:=Nat.le_trans (tkS_len _ _) (tkS_len _ _)
theorem byt_inj : ∀ {a b : List Int},Byt a → Byt b → (a.map fun n=>UInt8.ofNat n.toNat) = (b.map fun n=>UInt8.ofNat n.toNat) → a = b
 | [],[],_,_,_=>rfl
 | [],_ :: _,_,_,h=>by simp at h
 | _ :: _,[],_,_,h=>by simp at h
 | x :: a,y :: b,ha,hb,h=>by
  rw [List.map_cons,List.map_cons,List.cons.injEq] at h
  have hx:=ha x (List.mem_cons_self ..)
  have hy:=hb y (List.mem_cons_self ..)
  have e1 : x = y:=by
   have:=congrArg UInt8.toNat h.1
   rw [UInt8.toNat_ofNat',UInt8.toNat_ofNat'] at this
   omega
  rw [e1,byt_inj (fun z hz=>ha z (List.mem_cons_of_mem _ hz)) (fun z hz=>hb z (List.mem_cons_of_mem _ hz)) h.2]
theorem byt_beq {a b : List Int} (ha : Byt a) (hb : Byt b) : ((a.map fun n=>UInt8.ofNat n.toNat) == (b.map fun n=>UInt8.ofNat n.toNat)) = (a == b):=by
 rw [Bool.eq_iff_iff,beq_iff_eq,beq_iff_eq]
 exact ⟨byt_inj ha hb,fun h=>by rw [h]⟩
theorem bytesEqual_spec {P : Program} (F : F_z07 P) (e1 e2 : Bool) (a b : List Int) (ha : Byt a) (hb : Byt b) (H : List AObj) :
  ACalls P F.id [.list e1 1 (bC a),.list e2 1 (bC b)] H (fun r H'=>r = .bool (a == b) ∧ H' = H):=by
 refine ACalls.pure rfl (acalls_of_body F.has ?_)
 (conv=>whnf);refine ⟨_,bytesOf_bC _,?_⟩
 (conv=>whnf);refine ⟨_,bytesOf_bC _,?_⟩
 conv=>whnf
 exact pubB (byt_beq ha hb)
def f0 : Fil:=⟨bs [],bs [],[]⟩
def dS (l : List Int) : RdS:=⟨l.take (l.length - 4),false⟩
theorem strOf_size (l : List Int) : (strOf l).size = l.length:=by simp [strOf,ByteArray.size]
set_option maxRecDepth 20000 in
theorem txV_size {s : RdS} (h : Byt s.rest) : (txV s).size ≤ 255:=by
 rw [txV,strOf_size]
 have h1:=num_bnd _ (tkL_byt (n:=1) h)
 have h2:=tkL_len (n:=1) (s:=s) (by omega)
 have h3 : (256 : Int) ^ (tkL 1 s).length ≤ 256 ^ 1:=by
  have : (256 : Nat) ^ (tkL 1 s).length ≤ 256 ^ 1:=Nat.pow_le_pow_right (by omega) (by omega)
  exact_mod_cast this
 have h4:=tkL_len (n:=nbV 1 s) (s:=tkS 1 s) h1.1
 have h5 : nbV 1 s < 256:=by rw [nbV];omega
 omega
def tkZ (n : Int) (s : RdS) : List Int:=if tkB n s then s.rest.take n.toNat else List.replicate n.toNat 0
def zt (s : RdS) : ByteArray:=strOf (tkZ (nbV 1 s) (tkS 1 s))
def z1 (l : List Int) : RdS:=tkS 4 (dS l)
def z2 (l : List Int) : RdS:=txS (z1 l)
def z3 (l : List Int) : RdS:=txS (z2 l)
def z4 (l : List Int) : RdS:=tkS 2 (z3 l)
end Go.AW
namespace Go.AW
variable [Draws]
theorem tk_app (x rest : List Int) (n : Int) (hn : n = x.length) : tkL n ⟨x ++ rest,false⟩ = x ∧ tkZ n ⟨x ++ rest,false⟩ = x ∧ tkS n ⟨x ++ rest,false⟩ = ⟨rest,false⟩:=by
 subst hn
 have h : tkB x.length ⟨x ++ rest,false⟩ = true:=by simp [tkB];omega
 refine ⟨?_,?_,?_⟩
 ·rw [tkL,h,if_pos rfl];simp
 ·rw [tkZ,h,if_pos rfl];simp
 ·rw [tkS,h,if_pos rfl];simp
theorem num_be : ∀ (k : Nat) (n : Int),0 ≤ n → n < 256 ^ k → num (beN k n) = n
 | 0,n,h0,h1=>by simp at h1;rw [beN];show (0 : Int) = n;omega
 | k + 1,n,h0,h1=>by
  rw [Int.pow_succ] at h1
  have ih:=num_be k (n / 256) (by omega) (by omega)
  rw [num] at ih
  rw [beN,num,List.foldl_append,ih]
  show n / 256 * 256 + n % 256 = n
  omega
theorem nb_app (x rest : List Int) (n : Int) (hn : n = x.length) : nbV n ⟨x ++ rest,false⟩ = num x:=by rw [nbV,(tk_app x rest n hn).1]
theorem text_app (s : ByteArray) (rest : List Int) (hs : s.size ≤ 255) :
  txV ⟨(u8 s.size :: bytesI s) ++ rest,false⟩ = s ∧ zt ⟨(u8 s.size :: bytesI s) ++ rest,false⟩ = s ∧ txS ⟨(u8 s.size :: bytesI s) ++ rest,false⟩ = ⟨rest,false⟩:=by
 have e1 : (u8 s.size :: bytesI s) ++ rest = [u8 s.size] ++ (bytesI s ++ rest):=rfl
 have hn : nbV 1 ⟨(u8 s.size :: bytesI s) ++ rest,false⟩ = s.size:=by
  rw [e1,nb_app [u8 s.size] _ 1 rfl]
  show 0 * 256 + u8 s.size = _
  rw [u8_eq];omega
 have ht : tkS 1 ⟨(u8 s.size :: bytesI s) ++ rest,false⟩ = ⟨bytesI s ++ rest,false⟩:=by
  rw [e1];exact (tk_app [u8 s.size] _ 1 rfl).2.2
 have hb:=tk_app (bytesI s) rest s.size (by rw [bytesI_length])
 rw [txV,zt,txS,hn,ht,hb.1,hb.2.1,hb.2.2,strOf_bytesI]
 exact ⟨rfl,rfl,rfl⟩
theorem nameB_size {s : ByteArray} (h : nameB s = true) : s.size ≤ 24:=by
 simp only [nameB,Bool.and_eq_true,decide_eq_true_eq] at h;exact h.1
theorem qualB_size {s : ByteArray} (h : qualB s = true) : s.size ≤ 49:=by
 unfold qualB at h
 split at h
 ·rename_i h0
  simp only [Bool.and_eq_true] at h
  have h1:=nameB_size h.1
  have h2:=nameB_size h.2
  have hd : dotAt s < s.size:=by
   rcases ib_cases s.data.toList 46 with hx | ⟨i,hx,hl⟩
   ·rw [dotAt,hx] at h0;omega
   ·rw [dotAt,hx]
    have : s.data.toList.length = s.size:=by simp
    omega
  rw [ByteArray.size_extract] at h1 h2
  omega
 ·have:=nameB_size h;omega
attribute [local irreducible] ACalls
theorem pubFI {H1 : List AObj} {n : Nat} {ids : List Nat} {id ep len sz : Nat} {es : List (List AVal)} (hid : id ∉ ids) (ho : H1[id]? = some (.arr sz es)) (he : ep = es.length) (hl : len = es.length) (hp : pureEs es = true) : Pub H1 n ids (.sl id ep 0 len) (.list false sz es):=by
 subst hl he
 have:=Pub.frz (n:=n) (ids:=ids) id es.length 0 es.length sz es ho rfl hp hid
 rwa [List.drop_zero,List.take_length] at this
theorem place_eq (x k : Int) (hk : 1 ≤ k) (hk2 : k ≤ 1000000) : (IntKind.i64.wrap (x.tmod k + k)).tmod k = x % k:=by
 have h1:=Int.tmod_lt_of_pos x (show 0 < k by omega)
 have h2:=Int.lt_tmod_of_pos x (show 0 < k by omega)
 rw [wrapI _ (by omega) (by omega),Int.tmod_eq_emod_of_nonneg (by omega),Int.add_emod_right,Int.tmod_def,Int.sub_mul_emod_self_left]
theorem Place_spec {P : Program} (F : F_z28 P) (x k : Int) (hk : 1 ≤ k) (hk2 : k ≤ 1000000) (H : List AObj) :
  ACalls P F.id [.int .i64 x,.int .i64 k] H (fun r H'=>r = .int .i64 (x % k) ∧ H' = H):=by
 refine ACalls.pure rfl (acalls_of_body F.has ?_)
 (conv=>whnf);refine recF (by simp;omega) ?_
 (conv=>whnf);refine And.intro (by omega) ?_
 (conv=>whnf);refine And.intro (by omega) ?_
 conv=>whnf
 exact pub_int (place_eq x k hk hk2)
theorem SameBytes_spec {P : Program} (F : F_z29 P) (e1 e2 : Bool) (a b : List Int) (ha : Byt a) (hb : Byt b) (H : List AObj) :
  ACalls P F.id [.list e1 1 (bC a),.list e2 1 (bC b)] H (fun r H'=>r = .bool (a == b) ∧ H' = H):=by
 refine ACalls.pure rfl (acalls_of_body F.has ?_)
 (conv=>whnf);refine ⟨_,bytesOf_bC _,?_⟩
 (conv=>whnf);refine ⟨_,bytesOf_bC _,?_⟩
 conv=>whnf
 exact pubB (byt_beq ha hb)
def gO (l : List Int) (i : Nat) : AObj:=.arr 2 [[.list false 1 (iC l),.int .i64 i]]
def nx (l : List Int) (i : Nat) (n : Int) : Int × Nat:=if l.length ≤ i ∨ n < 1 then (0,i) else (l.getD i 0 % n,i + 1)
theorem nx_bnd (l : List Int) (i : Nat) (n : Int) (hn : 1 ≤ n) : 0 ≤ (nx l i n).1 ∧ (nx l i n).1 < n:=by
 unfold nx
 split
 ·exact ⟨by simp,by simp;omega⟩
 ·exact ⟨Int.emod_nonneg _ (by omega),Int.emod_lt_of_pos _ (by omega)⟩
theorem nx_le (l : List Int) (i : Nat) (n : Int) (h : i ≤ l.length) : (nx l i n).2 ≤ l.length:=by
 unfold nx
 split
 ·exact h
 ·rename_i h1
  show i + 1 ≤ _
  omega
set_option maxRecDepth 20000 in
theorem Next_raw {P : Program} (F : F_z27 P) (l : List Int) (i : Nat) (n : Int) (hi : i ≤ l.length) (hl : l.length ≤ 1000000) (hn : n ≤ 1000000) :
  ACalls P F.id [.ptr 0 1 0 0,.int .i64 n] [gO l i] (fun r H'=>r = .int .i64 (nx l i n).1 ∧ H' = [gO l (nx l i n).2]):=by
 refine acalls_of_body F.has ?_
 (conv=>whnf);refine recA (fun h1=>?_) (fun h1=>?_)
 ·simp [iC_length] at h1
  conv=>whnf
  rw [nx,if_pos (.inl h1)]
  exact ⟨rfl,rfl⟩
 simp [iC_length] at h1
 (conv=>whnf);refine recA (fun h2=>?_) (fun h2=>?_)
 ·simp at h2
  conv=>whnf
  rw [nx,if_pos (.inr h2)]
  exact ⟨rfl,rfl⟩
 simp at h2
 have e1 : IntKind.i64.wrap ((i : Int) + 1) = ((i + 1 : Nat) : Int):=by rw [wrapI _ (by omega) (by omega)];omega
 have e2 : IntKind.i64.wrap (IntKind.i64.wrap ((i : Int) + 1) - 1) = i:=by rw [e1,wrapI _ (by omega) (by omega)];omega
 have e3 : (IntKind.i64.wrap (IntKind.i64.wrap ((i : Int) + 1) - 1)).toNat = i:=by rw [e2,Int.toNat_natCast]
 have eg : (iC l)[i]? = some [.int .i64 (l.getD i 0)]:=iC_get (by omega)
 (conv=>whnf);refine And.intro (by rw [e2];omega) ?_
 (conv=>whnf);refine recO (by rw [e3];exact eg) ?_
 (conv=>whnf);refine ⟨_,Place_spec F.z28 (l.getD i 0) n (by omega) (by omega) _,?_⟩
 conv=>whnf
 rw [nx,if_neg (by omega)]
 refine ⟨rfl,?_⟩
 show [AObj.arr 2 [[.list false 1 (iC l),.int .i64 (IntKind.i64.wrap ((i : Int) + 1))]]] = _
 rw [e1];rfl
def inB (l : List ByteArray) (s : ByteArray) : Bool:=l.any fun x=>eqS x s
theorem Next_spec {P : Program} (F : F_z27 P) (l : List Int) (i : Nat) (n : Int) (hi : i ≤ l.length) (hl : l.length ≤ 1000000) (hn : n ≤ 1000000) (H : List AObj) (id : Nat) (ho : H[id]? = some (gO l i)) :
  ACalls P F.id [.ptr id 1 0 0,.int .i64 n] H (fun r H'=>r = .int .i64 (nx l i n).1 ∧ H' = H.set id (gO l (nx l i n).2)) :=
 (Next_raw F l i n hi hl hn).fr ho rfl rfl (.pt (.cl rfl trivial)) (.closed _ rfl)
def instL : List Int:=[144000,144719,145380,145400,145439,145440,145500,146000,146879,146880,148000,148320,149000,151199,151200,153000]
def wtexts : List ByteArray:=[bs [],bs [97],bs [98],bs [105,116,39,115],bs [122,122]]
def wv1 (k : Int) (l : List Int) (i : Nat) : V × Nat :=
 if k = 1 then (⟨1,(nx l i 2).1,bs []⟩,(nx l i 2).2)
 else if k = 2 then (⟨2,(nx l i 7).1 - 1,bs []⟩,(nx l i 7).2)
 else if k = 3 then (⟨3,0,wtexts.getD (nx l i 5).1.toNat (bs [])⟩,(nx l i 5).2)
 else (⟨4,instL.getD (nx l i 16).1.toNat 0,bs []⟩,(nx l i 16).2)
def wv (c : Col) (l : List Int) (i : Nat) : V × Nat :=
 if c.nul then (if (nx l i 5).1 = 0 then (zV,(nx l i 5).2) else wv1 c.kind l (nx l i 5).2) else wv1 c.kind l i
def wr (l : List Int) : List Col → Nat → List V → List V × Nat
 | [],i,out=>(out,i)
 | c :: cs,i,out=>wr l cs (wv c l i).2 (out ++ [(wv c l i).1])
structure Src where
 cols : List Col
 key : List ByteArray
 late : Int
 reopen : Int
def sAt : ByteArray:=bs [97,116]
def keepC (key : List ByteArray) (c : Col) : Bool:=inB key c.name || eqS c.name sAt
def delR (key : List ByteArray) : List Col → List V → List V
 | c :: cs,v :: vs=>(if keepC key c then v else zV) :: delR key cs vs
 | _,_=>[]
def wk (s : Src) (l : List Int) (i : Nat) : Int × Nat:=nx l (wr l s.cols (nx l i 4).2 []).2 24
def wrow (s : Src) (l : List Int) (i : Nat) : List V:=(wr l s.cols (nx l i 4).2 []).1
def wrec (s : Src) (l : List Int) (i : Nat) : Rec × Nat :=
 if (wk s l i).1 < 5 then (⟨true,(nx l i 4).1,delR s.key s.cols (wrow s l i)⟩,(wk s l i).2)
 else if (wk s l i).1 = 5 then (⟨true,(nx l i 4).1,wrow s l i⟩,(wk s l i).2)
 else if (wk s l i).1 = 6 then (⟨false,(nx l i 4).1,(wrow s l i).take (s.cols.length - 1)⟩,(wk s l i).2)
 else if (wk s l i).1 = 7 then (⟨false,(nx l i 4).1,(wrow s l i).set (nx l (wk s l i).2 s.cols.length).1.toNat ⟨1,1,bs []⟩⟩,(nx l (wk s l i).2 s.cols.length).2)
 else if (wk s l i).1 = 8 then (⟨false,-1,wrow s l i⟩,(wk s l i).2)
 else (⟨false,(nx l i 4).1,wrow s l i⟩,(wk s l i).2)
def wf (s : Src) (l : List Int) : Nat → Nat → List Rec → List Rec × Nat
 | 0,i,L=>(L,i)
 | k + 1,i,L=>wf s l k (wrec s l i).2 (L ++ [(wrec s l i).1])
theorem u8w_byt (x : Int) : 0 ≤ IntKind.u8.wrap x ∧ IntKind.u8.wrap x ≤ 255:=by
 have:=u8_eq x
 show 0 ≤ u8 x ∧ u8 x ≤ 255
 omega
def tO (x y z : List Int) : AObj:=.arr 1 [[.list false 1 (bC x)],[.list false 1 (bC y)],[.list false 1 (bC z)]]
def entT (e : Ent) : List AVal:=[.list true 3 (vC e.row),.int .i64 e.cnt]
def eT (l : List Ent) : List (List AVal):=l.map entT
theorem or4 {a b c e : Int} (ha : 0 ≤ a ∧ a ≤ 255) (hb : 0 ≤ b ∧ b ≤ 255) (hc : 0 ≤ c ∧ c ≤ 255) (he : 0 ≤ e ∧ e ≤ 255) :
  or64 (or64 (or64 (IntKind.i64.wrap (IntKind.i64.wrap a * 2 ^ 24)) (IntKind.i64.wrap (IntKind.i64.wrap b * 2 ^ 16))) (IntKind.i64.wrap (IntKind.i64.wrap c * 2 ^ 8))) (IntKind.i64.wrap e) = num [a,b,c,e]:=by
 have w : ∀ x : Int,0 ≤ x → x ≤ 4294967296 → IntKind.i64.wrap x = x:=fun x h1 h2=>wrapI x (by omega) (by omega)
 rw [w a (by omega) (by omega),w b (by omega) (by omega),w c (by omega) (by omega),w e (by omega) (by omega),w (a * 2 ^ 24) (by omega) (by omega),w (b * 2 ^ 16) (by omega) (by omega),w (c * 2 ^ 8) (by omega) (by omega)]
 rw [or64_add a (b * 2 ^ 16) 24 (by omega) (by omega) (by omega) (by omega)]
 rw [show a * 2 ^ 24 + b * 2 ^ 16 = (a * 256 + b) * 2 ^ 16 by omega,or64_add (a * 256 + b) (c * 2 ^ 8) 16 (by omega) (by omega) (by omega) (by omega)]
 rw [show (a * 256 + b) * 2 ^ 16 + c * 2 ^ 8 = ((a * 256 + b) * 256 + c) * 2 ^ 8 by omega,or64_add ((a * 256 + b) * 256 + c) e 8 (by omega) (by omega) (by omega) (by omega)]
 simp only [num,List.foldl]
 omega
theorem four {l : List Int} (h : 4 ≤ l.length) : ∃ a b c e t,l = a :: b :: c :: e :: t:=by
 match l,h with
 | a :: b :: c :: e :: t,_=>exact ⟨a,b,c,e,t,rfl⟩
set_option maxRecDepth 20000 in
theorem jnumber_spec {P : Program} (F : F_z0a P) (ex : Bool) (l : List Int) (hl : 4 ≤ l.length) (hby : Byt l) (H : List AObj) :
  ACalls P F.id [.list ex 1 (bC l)] H (fun r H'=>r = .int .i64 (num (l.take 4)) ∧ H' = H):=by
 obtain ⟨a,b,c,e,t,rfl⟩:=four hl
 have ha:=hby a (by simp)
 have hb:=hby b (by simp)
 have hc:=hby c (by simp)
 have he:=hby e (by simp)
 refine ACalls.pure rfl (acalls_of_body F.has ?_)
 (conv=>whnf);refine And.intro (by decide) ?_
 (conv=>whnf);refine And.intro (by decide) ?_
 (conv=>whnf);refine And.intro (by decide) ?_
 (conv=>whnf);refine And.intro (by decide) ?_
 (conv=>whnf);refine And.intro (by decide) ?_
 (conv=>whnf);refine And.intro (by decide) ?_
 (conv=>whnf);refine And.intro (by decide) ?_
 conv=>whnf
 exact pubI (or4 ha hb hc he)
def jBody (p : List Int) : List Int:=beN 4 p.length ++ p
set_option maxRecDepth 20000 in
theorem jput4_own {P : Program} (F : F_z0b P) (H : List AObj) (id : Nat) (l : List Int) (n : Int) (h0 : 0 ≤ n) (h1 : n < 4294967296) (ho : H[id]? = some (.arr 1 (bC l))) (hl : l.length ≤ 90000000) :
  ACalls P F.id [.sl id l.length 0 l.length,.int .u32 n] H (fun r H'=>r = .sl id (l.length + 4) 0 (l.length + 4) ∧ H' = H.set id (.arr 1 (bC (l ++ beN 4 n)))):=by
 refine acalls_of_body F.has ?_
 (conv=>whnf);refine And.intro (by decide) ?_
 (conv=>whnf);refine And.intro (by decide) ?_
 (conv=>whnf);refine And.intro (by decide) ?_
 (conv=>whnf);refine recO (ho) ?_
 (conv=>whnf);refine recT (by rw [bC_length];exact Nat.beq_refl _) ?_
 (conv=>whnf);refine And.intro (⟨roomB_le1 (by simp;omega),roomB_le (by simp;omega),rfl,by rw [bC_length]⟩) ?_
 rw [setO_eq]
 conv=>whnf
 have hl2 : (bC l ++ bC (w4 n)).length = l.length + 4:=by rw [List.length_append,bC_length];rfl
 rw [← w4_eq,bC_append]
 exact ⟨by show AVal.sl id (bC l ++ bC (w4 n)).length 0 (bC l ++ bC (w4 n)).length = _;rw [hl2],rfl⟩
set_option maxRecDepth 20000 in
theorem jput4_nil {P : Program} (F : F_z0b P) (n : Int) :
  ACalls P F.id [.nil,.int .u32 n] [] (fun r H'=>r = .sl 0 4 0 4 ∧ H' = [.arr 1 (bC (beN 4 n))]):=by
 refine acalls_of_body F.has ?_
 (conv=>whnf);refine And.intro (by decide) ?_
 (conv=>whnf);refine And.intro (by decide) ?_
 (conv=>whnf);refine And.intro (by decide) ?_
 (conv=>whnf);refine And.intro (⟨roomB_le1 (by simp),roomB_le (by simp)⟩) ?_
 conv=>whnf
 rw [← w4_eq]
 exact ⟨rfl,rfl⟩
theorem u32_small {n : Nat} (h : n < 4294967296) : IntKind.u32.wrap (n : Int) = n:=by rw [u32_wrap];omega
set_option maxRecDepth 20000 in
theorem jsum_spec {P : Program} (F : F_z0c P) (ex : Bool) (p : List Int) (hl : p.length ≤ 10000000) (H : List AObj) :
  ACalls P F.id [.list ex 1 (bC p)] H (fun r H'=>r = .int .u32 (fnv (jBody p)) ∧ H' = H):=by
 have e1 : IntKind.u32.wrap ((bC p).length : Int) = p.length:=by rw [bC_length];exact u32_small (by omega)
 refine ACalls.pure rfl (acalls_of_body F.has ?_)
 conv=>whnf
 rw [e1]
 (conv=>whnf);refine ACalls.mono (jput4_nil F.z0b p.length) ?_
 rintro r H1 ⟨rfl,rfl⟩
 (conv=>whnf);refine And.intro (⟨roomB_le1 (by simp [bC_length,beN_length];omega),roomB_le (by simp [bC_length,beN_length];omega),rfl,rfl⟩) ?_
 conv=>whnf
 have hl3 : (bC (beN 4 (p.length : Int)) ++ bC p).length = (bC (jBody p)).length:=by rw [jBody,bC_append]
 have key:=ACalls.bor (H:=[.arr 1 (bC (jBody p))]) (R:=.int .u32 (fnv (jBody p))) rfl ((Checksum_spec F.z00 false (jBody p) (by rw [jBody,List.length_append,beN_length];omega) []).mono fun _ _ h=>h.1) (.cons (lentSl (id:=0) (ep:=(bC (beN 4 (p.length : Int)) ++ bC p).length) (len:=(bC (beN 4 (p.length : Int)) ++ bC p).length) rfl hl3 hl3 (pureEs_bC _)) .nil)
 rw [jBody,bC_append] at key
 refine ACalls.use key ?_
 conv=>whnf
 exact .closed _ rfl
set_option maxRecDepth 20000 in
theorem bClone_raw {P : Program} (F : F_z06 P) (ex : Bool) (l : List Int) (hl : l.length ≤ 90000000) :
  ACalls P F.id [.list ex 1 (bC l)] [] (fun r H'=>(r = .nil ∧ l = [] ∧ H' = []) ∨ (r = .sl 0 l.length 0 l.length ∧ H' = [.arr 1 (bC l)])):=by
 refine acalls_of_body F.has ?_
 conv=>whnf
 refine And.intro (fun h=>?_) ?_
 ·conv=>whnf
  exact .inl ⟨rfl,by simpa [bC] using h,rfl⟩
 ·(conv=>whnf);refine And.intro (⟨roomB_le1 (by simp [bC_length];omega),roomB_le (by simp [bC_length];omega),.inr rfl⟩) ?_
  conv=>whnf
  exact .inr ⟨slEq (bC_length l) (bC_length l),rfl⟩
end Go.AW
namespace Go.AW
variable [Draws]
def Reads (W : World) (v : Value) (l : List Int) : Prop :=
 (l = [] ∧ ∃ a cap,v = .slice a 0 cap) ∨ (l ≠ [] ∧ ∃ b off cap,v = .slice (some ⟨b,off,none⟩) l.length cap ∧ l.length ≤ cap ∧ b < W.heap.size ∧ ∀ i x,l[i]? = some x → W.cell? ⟨b,off + i,none⟩ = some (.int .u8 x))
theorem Reads.kept {W W' : World} {v : Value} {l : List Int} {row : Option Nat} (h : Reads W v l) (hg : W.grownBy W' row) (hr : l ≠ [] → ∀ b,v.ownBlock = some b → some b ≠ row) : Reads W' v l:=by
 rcases h with h | ⟨h0,b,off,cap,rfl,hcap,hb,hc⟩
 ·exact .inl h
 ·refine .inr ⟨h0,b,off,cap,rfl,hcap,Nat.lt_of_lt_of_le hb hg.size,fun i x hx=>?_⟩
  rw [← hc i x hx]
  exact World.cell?_of_block (hg.block b hb (hr h0 b rfl))
theorem Reads.rd {W : World} {v : Value} {l : List Int} (h : Reads W v l) : ∃ C : Nat → Nat,Rd C W (.list false 1 (bC l)) v ∧ (∀ b,0 < C b → b < W.heap.size) ∧ (∀ b,0 < C b → v.ownBlock = some b):=by
 rcases h with ⟨rfl,a,cap,rfl⟩ | ⟨h0,b,off,cap,rfl,hcap,hb,hc⟩
 ·exact ⟨fun _=>0,.list0 _ _ _ _ (by simp),fun b h=>absurd h (by simp),fun b h=>absurd h (by simp)⟩
 ·refine ⟨fun x=>if x = b then off + l.length else 0,?_,fun x hx=>?_,fun x hx=>?_⟩
  ·have hl:=bC_length l
   have:=Rd.list (C:=fun x=>if x = b then off + l.length else 0) (w:=W) false 1 (bC l) b off cap (fun i _=>.int .u8 (l.getD i 0)) (by simp) (by rw [hl];exact hcap) (fun e he=>by
     rw [bC] at he
     obtain ⟨x,_,rfl⟩:=List.mem_map.1 he
     rfl) (by rw [hl,Nat.mul_one];simp) (fun i j hi hj=>by
     obtain rfl : j = 0:=by omega
     rw [hl] at hi
     rw [Nat.mul_one,Nat.add_zero,hc i l[i] (List.getElem?_eq_getElem hi),List.getD_eq_getElem?_getD,List.getElem?_eq_getElem hi];rfl) (fun i j e d he hd=>by
     rw [bC,List.getElem?_map] at he
     obtain ⟨x,_,rfl⟩:=Option.map_eq_some_iff.1 he
     rcases j with _ | j
     ·cases hd;rfl
     ·simp at hd) (fun i j e d he hd=>by
     rw [bC,List.getElem?_map] at he
     obtain ⟨x,hx,rfl⟩:=Option.map_eq_some_iff.1 he
     rcases j with _ | j
     ·cases hd
      rw [List.getD_eq_getElem?_getD,hx]
      exact .int _ _
     ·simp at hd)
   rwa [hl] at this
  ·by_cases hx2 : x = b
   ·rw [hx2];exact hb
   ·simp [hx2] at hx
  ·by_cases hx2 : x = b
   ·rw [hx2];rfl
   ·simp [hx2] at hx
theorem Reads.of_rd {C : Nat → Nat} {W : World} {x : Bool} {v : Value} {l : List Int} (h : Rd C W (.list x 1 (bC l)) v) (hC : ∀ b,0 < C b → b < W.heap.size) : Reads W v l ∧ (l ≠ [] → ∃ b,v.ownBlock = some b ∧ 0 < C b):=by
 generalize he : bC l = es at h
 cases h with
 | list0 _ _ a cap hx =>
  have : l = []:=by simpa [bC] using he
  subst this
  exact ⟨.inl ⟨rfl,a,cap,rfl⟩,fun h=>absurd rfl h⟩
 | list _ _ es b off cap vs hx hcap hsz hC2 hcell hp hrd =>
  subst he
  have hl:=bC_length l
  rw [hl] at hcap hC2 ⊢
  by_cases h0 : l = []
  ·subst h0
   exact ⟨.inl ⟨rfl,_,_,rfl⟩,fun h=>absurd rfl h⟩
  ·have hpos:=List.length_pos_iff.2 h0
   have hb : 0 < C b:=by omega
   refine ⟨.inr ⟨h0,b,off,cap,rfl,hcap,hC b hb,fun i y hy=>?_⟩,fun _=>⟨b,rfl,hb⟩⟩
   have hi:=(List.getElem?_eq_some_iff.1 hy).1
   have h1:=hcell i 0 (by omega) (by omega)
   have h2:=hrd i 0 [.int .u8 y] (.int .u8 y) (by rw [bC,List.getElem?_map,hy];rfl) rfl
   rw [Nat.mul_one,Nat.add_zero] at h1
   generalize vs i 0 = z at h1 h2
   cases h2
   exact h1
theorem wf0 {C : Nat → Nat} {W : World} (h : ∀ b,0 < C b → b < W.heap.size) : WF C (fun _=>none) [] W :=
 ⟨fun id o h=>by simp at h,fun id o h=>by simp at h,fun id o l h=>by simp at h,fun id l h=>by simp at h,fun i j li lj h=>by simp at h,h⟩
theorem grown0 {C C' : Nat → Nat} {τ' : Nat → Option Loc} {H' : List AObj} {W W' : World} (h : St W (PrCall (fun _=>none) [] W) C' τ' H' W') : W.grownBy W' none :=
 ⟨h.fr.os,h.fr.tape,h.fr.output,h.fr.size,fun k hk _=>h.fr.prot k ⟨hk,by rintro ⟨id,l,h,_⟩;simp at h⟩⟩
theorem ACalls.int1 {P : Program} {f : FuncId} {l : List Int} {k : IntKind} {n : Int} (eg : ∀ args w,(callFunc f args).run P w = .ok (.enter f args) w) (h : ACalls P f [.list false 1 (bC l)] [] (fun r _=>r = .int k n)) {W : World} {v : Value} (hr : Reads W v l) :
  Calls P f #[v] W fun e W'=>e = .returned (.int k n) ∧ W.grownBy W' none:=by
 obtain ⟨C,hrd,hC,_⟩:=hr.rd
 have h:=h C (fun _=>none) W #[v] (wf0 hC) rfl fun i a u ha hu=>by
  rcases i with _ | i
  ·cases ha;cases hu;exact .rd hrd
  ·simp at ha
 unfold CallsX at h
 rw [eg] at h
 refine Calls.mono h fun e w'=>?_
 rintro ⟨u,r,C',τ',H',rfl,rfl,hrv,hst,_⟩
 refine ⟨?_,grown0 (C:=C) hst⟩
 cases hrv with
 | rd h=>cases h;rfl
theorem Reads.rdC {C : Nat → Nat} {W : World} {v : Value} {l : List Int} (h : Reads W v l) (hC : l ≠ [] → ∀ b i x,v.ownBlock = some b → W.cell? ⟨b,i,none⟩ = some x → i < C b) : Rd C W (.list false 1 (bC l)) v:=by
 rcases h with ⟨rfl,a,cap,rfl⟩ | ⟨h0,b,off,cap,rfl,hcap,hb,hc⟩
 ·exact .list0 _ _ _ _ (by simp)
 ·have hl:=bC_length l
  have hp:=List.length_pos_iff.2 h0
  have hlast:=hC h0 b _ _ rfl (hc (l.length - 1) _ (List.getElem?_eq_getElem (by omega)))
  have:=Rd.list (C:=C) (w:=W) false 1 (bC l) b off cap (fun i _=>.int .u8 (l.getD i 0)) (by simp) (by rw [hl];exact hcap) (fun e he=>by
    rw [bC] at he
    obtain ⟨x,_,rfl⟩:=List.mem_map.1 he
    rfl) (by rw [hl,Nat.mul_one];omega) (fun i j hi hj=>by
    obtain rfl : j = 0:=by omega
    rw [hl] at hi
    rw [Nat.mul_one,Nat.add_zero,hc i l[i] (List.getElem?_eq_getElem hi),List.getD_eq_getElem?_getD,List.getElem?_eq_getElem hi];rfl) (fun i j e d he hd=>by
    rw [bC,List.getElem?_map] at he
    obtain ⟨x,_,rfl⟩:=Option.map_eq_some_iff.1 he
    rcases j with _ | j
    ·cases hd;rfl
    ·simp at hd) (fun i j e d he hd=>by
    rw [bC,List.getElem?_map] at he
    obtain ⟨x,hx,rfl⟩:=Option.map_eq_some_iff.1 he
    rcases j with _ | j
    ·cases hd
     rw [List.getD_eq_getElem?_getD,hx]
     exact .int _ _
    ·simp at hd)
  rwa [hl] at this
theorem Reads.of_sl {C : Nat → Nat} {τ : Nat → Option Loc} {H : List AObj} {W : World} {v : Value} {l : List Int} {id : Nat} (hw : WF C τ H W) (ho : H[id]? = some (.arr 1 (bC l))) (h : Rel C W τ H (.sl id l.length 0 l.length) v) : Reads W v l:=by
 cases h with
 | rd h=>cases h
 | sl id ep off len a cap esz es ho2 hep hh =>
  rw [ho] at ho2
  cases ho2
  obtain ⟨h1,h2,h3⟩:=hh (bC_length l).symm
  by_cases h0 : l = []
  ·subst h0;exact .inl ⟨rfl,_,_,rfl⟩
  ·have hp:=List.length_pos_iff.2 h0
   rcases h3 with ⟨_,h3⟩ | ⟨lc,h3,h4,h5⟩
   ·omega
   ·rcases h5 with h5 | rfl
    ·omega
    ·obtain ⟨hle,cells,elem,fz,hb,hsz,hfz,hcs⟩:=hw.objs id _ lc ho h3
     refine .inr ⟨h0,_,_,_,rfl,h2,lt_of_heap hb,fun i x hx=>?_⟩
     obtain ⟨y,hy,hy2⟩:=hcs i 0 [.int .u8 x] (.int .u8 x) (by rw [bC,List.getElem?_map,hx];rfl) rfl
     have hyx : y = .int .u8 x:=by
      cases hy2 with
      | rd h=>cases h;rfl
     subst hyx
     rw [Nat.mul_one,Nat.add_zero] at hy
     rw [Nat.mul_one,Nat.zero_add]
     simp only [World.cell?,hb]
     exact hy
theorem Reads.of_slPart {C : Nat → Nat} {τ : Nat → Option Loc} {H : List AObj} {W : World} {v : Value} {l : List Int} {rest : List (List AVal)} {id ep : Nat} (hw : WF C τ H W) (ho : H[id]? = some (.arr 1 (bC l ++ rest))) (hep : ep = l.length + rest.length) (h : Rel C W τ H (.sl id ep 0 l.length) v) : Reads W v l:=by
 cases h with
 | rd h=>cases h
 | sl id ep off len a cap esz es ho2 hep2 hh =>
  rw [ho] at ho2
  cases ho2
  obtain ⟨h1,h2,h3⟩:=hh (by rw [List.length_append,bC_length];exact hep)
  by_cases h0 : l = []
  ·subst h0;exact .inl ⟨rfl,_,_,rfl⟩
  ·have hp:=List.length_pos_iff.2 h0
   rcases h3 with ⟨_,h3⟩ | ⟨lc,h3,h4,h5⟩
   ·omega
   ·rcases h5 with h5 | rfl
    ·omega
    ·obtain ⟨hle,cells,elem,fz,hb,hsz,hfz,hcs⟩:=hw.objs id _ lc ho h3
     refine .inr ⟨h0,_,_,_,rfl,h2,lt_of_heap hb,fun i x hx=>?_⟩
     have hil : i < (bC l).length:=by rw [bC_length];exact (List.getElem?_eq_some_iff.1 hx).1
     obtain ⟨y,hy,hy2⟩:=hcs i 0 [.int .u8 x] (.int .u8 x) (by rw [List.getElem?_append_left hil,bC,List.getElem?_map,hx];rfl) rfl
     have hyx : y = .int .u8 x:=by
      cases hy2 with
      | rd h=>cases h;rfl
     subst hyx
     rw [Nat.mul_one,Nat.add_zero] at hy
     rw [Nat.mul_one,Nat.zero_add]
     simp only [World.cell?,hb]
     exact hy
theorem ACalls.fresh1 {P : Program} {f : FuncId} {l l' : List Int} (eg : ∀ args w,(callFunc f args).run P w = .ok (.enter f args) w) (h : ACalls P f [.list false 1 (bC l)] [] (fun r H'=>(r = .nil ∧ l' = [] ∧ H' = []) ∨ (r = .sl 0 l'.length 0 l'.length ∧ H' = [.arr 1 (bC l')]))) {W : World} {v : Value} (hr : Reads W v l) :
  Calls P f #[v] W fun e W'=>∃ a c,e = .returned (.slice a l'.length c) ∧ Reads W' (.slice a l'.length c) l' ∧ W.grownBy W' none ∧ (l' ≠ [] → ∀ b,(Value.slice a l'.length c).ownBlock = some b → W.heap.size ≤ b):=by
 obtain ⟨C,hrd,hC,hC2⟩:=hr.rd
 have h:=h C (fun _=>none) W #[v] (wf0 hC) rfl fun i a u ha hu=>by
  rcases i with _ | i
  ·cases ha;cases hu;exact .rd hrd
  ·simp at ha
 unfold CallsX at h
 rw [eg] at h
 refine Calls.mono h fun e w'=>?_
 rintro ⟨u,r,C',τ',H',rfl,hq,hrv,hst,hstep⟩
 rcases hq with ⟨rfl,rfl,rfl⟩ | ⟨rfl,rfl⟩
 ·cases hrv with
  | rd h =>
   cases h
   exact ⟨_,_,rfl,.inl ⟨rfl,_,_,rfl⟩,grown0 (C:=C) hst,fun h=>absurd rfl h⟩
 ·cases hrv with
  | rd h=>cases h
  | sl id ep off len a cap esz es ho hep hh =>
   cases ho
   obtain ⟨h1,h2,h3⟩:=hh (bC_length l').symm
   refine ⟨a,cap,rfl,?_,grown0 (C:=C) hst,?_⟩
   ·by_cases h0 : l' = []
    ·subst h0;exact .inl ⟨rfl,_,_,rfl⟩
    ·have hp:=List.length_pos_iff.2 h0
     rcases h3 with ⟨_,h3⟩ | ⟨lc,h3,h4,h5⟩
     ·omega
     ·rcases h5 with h5 | rfl
      ·omega
      ·obtain ⟨hle,cells,elem,fz,hb,hsz,hfz,hcs⟩:=hst.wf.objs 0 _ lc rfl h3
       refine .inr ⟨h0,_,_,_,rfl,h2,lt_of_heap hb,fun i x hx=>?_⟩
       obtain ⟨y,hy,hy2⟩:=hcs i 0 [.int .u8 x] (.int .u8 x) (by rw [bC,List.getElem?_map,hx];rfl) rfl
       have hyx : y = .int .u8 x:=by
        cases hy2 with
        | rd h=>cases h;rfl
       subst hyx
       rw [Nat.mul_one,Nat.add_zero] at hy
       rw [Nat.mul_one,Nat.zero_add]
       simp only [World.cell?,hb]
       exact hy
   ·intro h0 b hbb
    have hp:=List.length_pos_iff.2 h0
    rcases h3 with ⟨_,h3⟩ | ⟨lc,h3,h4,h5⟩
    ·omega
    ·rcases h5 with h5 | rfl
     ·omega
     ·cases hbb
      have:=hst.own lc.b ⟨0,lc,by simp,h3,rfl⟩
      by_cases hlt : W.heap.size ≤ lc.b
      ·exact hlt
      ·exact absurd ⟨by omega,by rintro ⟨id,l,h,_⟩;simp at h⟩ this
def hdr (zs : List Int) (k : Nat) : Int:=num ((zs.drop k).take 4)
def okE (zs : List Int) (k : Nat) : Bool :=
 decide (k + 8 ≤ zs.length) && (decide (hdr zs k ≤ 65536) && decide (hdr zs k ≤ (zs.length : Int) - k - 8)) && decide (IntKind.u32.wrap (hdr zs (k + 4)) = fnv (jBody ((zs.drop (k + 8)).take (hdr zs k).toNat)))
def entP (zs : List Int) (k : Nat) : List (Nat × Nat) :=
 if h : okE zs k = true then (k + 8,(hdr zs k).toNat) :: entP zs (k + 8 + (hdr zs k).toNat) else []
termination_by zs.length - k
decreasing_by
 simp [okE] at h
 omega
theorem num_nonneg : ∀ (l : List Int) (a : Int),0 ≤ a → (∀ x ∈ l,0 ≤ x) → 0 ≤ l.foldl (fun n x=>n * 256 + x) a
 | [],a,h,_=>h
 | x :: l,a,h,hx=>num_nonneg l _ (by have:=hx x (List.mem_cons_self ..);show 0 ≤ a * 256 + x;omega) fun y hy=>hx y (List.mem_cons_of_mem _ hy)
theorem hdr_nonneg {zs : List Int} (h : Byt zs) (k : Nat) : 0 ≤ hdr zs k:=num_nonneg _ 0 (Int.le_refl _) fun x hx=>(h x (List.mem_of_mem_drop (List.mem_of_mem_take hx))).1
theorem entP_nil {zs : List Int} {k : Nat} (h : okE zs k = false) : entP zs k = []:=by rw [entP,dif_neg (by simp [h])]
theorem entP_cons {zs : List Int} {k : Nat} (h : okE zs k = true) : entP zs k = (k + 8,(hdr zs k).toNat) :: entP zs (k + 8 + (hdr zs k).toNat):=by rw [entP,dif_pos h]
theorem okE_short {zs : List Int} {k : Nat} (h : ¬ k + 8 ≤ zs.length) : okE zs k = false:=by simp [okE,h]
theorem okE_big {zs : List Int} {k : Nat} {N : Nat} (hN : hdr zs k = N) (h : 65536 < N ∨ (zs.length : Int) - k - 8 < N) : okE zs k = false:=by
 simp only [okE,hN]
 rcases h with h | h
 ·rw [decide_eq_false (p:=(N : Int) ≤ 65536) (by omega)];simp
 ·rw [decide_eq_false (p:=(N : Int) ≤ (zs.length : Int) - k - 8) (by omega)];simp
theorem okE_sum {zs : List Int} {k : Nat} {N : Nat} (hN : hdr zs k = N) (h8 : k + 8 ≤ zs.length) (h1 : ¬ 65536 < N) (h2 : ¬ (zs.length : Int) - k - 8 < N) : okE zs k = decide (IntKind.u32.wrap (hdr zs (k + 4)) = fnv (jBody ((zs.drop (k + 8)).take N))):=by
 simp only [okE,hN,Int.toNat_natCast]
 rw [decide_eq_true h8,decide_eq_true (p:=(N : Int) ≤ 65536) (by omega),decide_eq_true (p:=(N : Int) ≤ (zs.length : Int) - k - 8) (by omega)]
 rfl
def endP (l : List (Nat × Nat)) : Nat:=l.foldl (fun _ x=>x.1 + x.2) 0
theorem endP_snoc (l : List (Nat × Nat)) (x : Nat × Nat) : endP (l ++ [x]) = x.1 + x.2:=by simp [endP]
def payP (zs : List Int) (x : Nat × Nat) : List Int:=(zs.drop x.1).take x.2
def payL (zs : List Int) : AVal:=.list false 1 ((entP zs 0).map fun x=>[.list false 1 (bC (payP zs x))])
structure JRead (P : Program) (f : FuncId) : Prop where
 pure : ∀ (ex : Bool) (zs : List Int) (_ : zs.length ≤ 10000000) (_ : Byt zs) (H : List AObj),
  ACalls P f [.list ex 1 (bC zs)] H (fun r H'=>r = .tuple [payL zs,.int .i64 (endP (entP zs 0))] ∧ H' = H)
 own : ∀ (zs : List Int) (n : Nat) (_ : n = zs.length) (_ : zs.length ≤ 10000000) (_ : Byt zs) (H : List AObj) (id : Nat) (_ : H[id]? = some (.arr 1 (bC zs))),
  ACalls P f [.sl id n 0 n] H (fun r H'=>r = .tuple [payL zs,.int .i64 (endP (entP zs 0))] ∧ H' = H)
 part : ∀ (zs : List Int) (rest : List (List AVal)) (ep n : Nat) (_ : ep = zs.length + rest.length) (_ : n = zs.length) (_ : zs.length ≤ 10000000) (_ : Byt zs) (H : List AObj) (id : Nat) (_ : H[id]? = some (.arr 1 (bC zs ++ rest))),
  ACalls P f [.sl id ep 0 n] H (fun r H'=>r = .tuple [payL zs,.int .i64 (endP (entP zs 0))] ∧ H' = H)
attribute [local irreducible] ACalls
def jEnt (p : List Int) : List Int:=beN 4 p.length ++ beN 4 (fnv (jBody p)) ++ p
theorem jEnt_length (p : List Int) : (jEnt p).length = 8 + p.length:=by simp [jEnt,beN_length];omega
def jFull (zs p : List Int) : Bool:=decide ((p.length : Int) > 65536) || decide ((zs.length : Int) + 8 + p.length > 4194304)
def jApp (zs p : List Int) : AVal:=if jFull zs p then .tuple [.nil,.int .i64 2] else .tuple [.list false 1 (bC (zs ++ jEnt p)),.int .i64 0]
theorem jput4_own2 {P : Program} (F : F_z0b P) (l : List Int) (k : Nat) (n : Int) (hk : k = l.length) (h0 : 0 ≤ n) (h1 : n < 4294967296) (hl : l.length ≤ 90000000) :
  ACalls P F.id [.sl 0 k 0 k,.int .u32 n] [.arr 1 (bC l)] (fun r H'=>r = .sl 0 (k + 4) 0 (k + 4) ∧ H' = [.arr 1 (bC (l ++ beN 4 n))]):=by
 subst hk
 exact jput4_own F _ 0 l n h0 h1 rfl hl
set_option maxRecDepth 20000 in
theorem jAppend_spec {P : Program} (F : F_z08 P) (e1 e2 : Bool) (zs p : List Int) (hz : zs.length ≤ 10000000) (hp : p.length ≤ 10000000) (H : List AObj) :
  ACalls P F.id [.list e1 1 (bC zs),.list e2 1 (bC p)] H (fun r H'=>r = jApp zs p ∧ H' = H):=by
 have w1 : IntKind.i64.wrap (((bC zs).length : Int) + 8) = (zs.length : Int) + 8:=by rw [bC_length];exact wrapI _ (by omega) (by omega)
 have w2 : IntKind.i64.wrap ((zs.length : Int) + 8 + ((bC p).length : Int)) = (zs.length : Int) + 8 + p.length:=by rw [bC_length];exact wrapI _ (by omega) (by omega)
 have e3 : IntKind.u32.wrap ((bC p).length : Int) = p.length:=by rw [bC_length];exact u32_small (by omega)
 refine ACalls.pure rfl (acalls_of_body F.has ?_)
 conv=>whnf
 (conv=>whnf);refine recA (fun h1=>?_) (fun h1=>?_)
 ·have hf : jFull zs p = true:=by rw [bC_length] at h1;simp at h1;simp [jFull];omega
  rw [jApp,if_pos hf]
  conv=>whnf
  exact pub2 (.closed _ rfl) (.closed _ rfl)
 have h1' : ¬ 65536 < p.length:=by rw [bC_length] at h1;simp at h1;omega
 conv=>whnf
 rw [w1,w2]
 (conv=>whnf);refine recA (fun h2=>?_) (fun h2=>?_)
 ·have hf : jFull zs p = true:=by simp at h2;simp [jFull];omega
  rw [jApp,if_pos hf]
  conv=>whnf
  exact pub2 (.closed _ rfl) (.closed _ rfl)
 have hf : jFull zs p = false:=by simp at h2;simp [jFull];omega
 rw [jApp,if_neg (by simp [hf])]
 (conv=>whnf);refine ACalls.mono (bClone_raw F.z06 e1 zs (by omega)) ?_
 rintro r H1 (⟨rfl,h3,rfl⟩ | ⟨rfl,rfl⟩)
 ·subst h3
  conv=>whnf
  rw [e3]
  (conv=>whnf);refine ACalls.mono (jput4_nil F.z0b p.length) ?_
  rintro r H1 ⟨rfl,rfl⟩
  conv=>whnf
  (conv=>whnf);refine ACalls.use (jsum_spec F.z0c e2 p hp _) ?_
  (conv=>whnf);refine ACalls.mono (jput4_own2 F.z0b ([] ++ beN 4 (p.length : Int)) _ (fnv (jBody p)) (by simp [beN_length]) (fnv_bound _).1 (fnv_bound _).2 (by rw [List.length_append,beN_length];omega)) ?_
  rintro r H1 ⟨rfl,rfl⟩
  try ((conv=>whnf);refine recT (by rw [bC_length];simp [beN_length]) ?_)
  (conv=>whnf);refine And.intro (⟨roomB_le1 (by simp [bC_length,beN_length];omega),roomB_le (by simp [bC_length,beN_length];omega),rfl,by simp [bC_length,beN_length]⟩) ?_
  conv=>whnf
  have hlen : (bC ([] ++ beN 4 (p.length : Int) ++ beN 4 (fnv (jBody p))) ++ bC p).length = (bC ([] ++ jEnt p)).length:=by simp [bC_length,jEnt,beN_length];omega
  refine pub2 (pubF (es:=bC ([] ++ jEnt p)) ?_ hlen hlen (pureEs_bC _)) (.closed _ rfl)
  show some (AObj.arr 1 (bC ([] ++ beN 4 (p.length : Int) ++ beN 4 (fnv (jBody p))) ++ bC p)) = _
  rw [← bC_append,jEnt]
  simp only [List.append_assoc]
 ·conv=>whnf
  rw [e3]
  (conv=>whnf);refine ACalls.mono (jput4_own2 F.z0b zs _ p.length rfl (by omega) (by omega) (by omega)) ?_
  rintro r H1 ⟨rfl,rfl⟩
  conv=>whnf
  (conv=>whnf);refine ACalls.use (jsum_spec F.z0c e2 p hp _) ?_
  (conv=>whnf);refine ACalls.mono (jput4_own2 F.z0b (zs ++ beN 4 (p.length : Int)) _ (fnv (jBody p)) (by simp [beN_length]) (fnv_bound _).1 (fnv_bound _).2 (by rw [List.length_append,beN_length];omega)) ?_
  rintro r H1 ⟨rfl,rfl⟩
  try ((conv=>whnf);refine recT (by rw [bC_length];simp [beN_length]) ?_)
  (conv=>whnf);refine And.intro (⟨roomB_le1 (by simp [bC_length,beN_length];omega),roomB_le (by simp [bC_length,beN_length];omega),rfl,by simp [bC_length,beN_length]⟩) ?_
  conv=>whnf
  have hlen : (bC (zs ++ beN 4 (p.length : Int) ++ beN 4 (fnv (jBody p))) ++ bC p).length = (bC (zs ++ jEnt p)).length:=by simp [bC_length,jEnt,beN_length];omega
  refine pub2 (pubF (es:=bC (zs ++ jEnt p)) ?_ hlen hlen (pureEs_bC _)) (.closed _ rfl)
  show some (AObj.arr 1 (bC (zs ++ beN 4 (p.length : Int) ++ beN 4 (fnv (jBody p))) ++ bC p)) = _
  rw [← bC_append,jEnt]
  simp only [List.append_assoc]
end Go.AW
namespace Go.AW
variable [Draws]
def pays (zs : List Int) : List (List Int):=(entP zs 0).map (payP zs)
def stop (zs : List Int) : Nat:=endP (entP zs 0)
theorem drop_app (a t : List Int) (k : Nat) : (a ++ t).drop (a.length + k) = t.drop k:=by simp
theorem hdr_app (a t : List Int) (k : Nat) : hdr (a ++ t) (a.length + k) = hdr t k:=by rw [hdr,drop_app,hdr]
theorem okE_app (a t : List Int) (k : Nat) : okE (a ++ t) (a.length + k) = okE t k:=by
 have e1 : (a.length + k + 8 ≤ (a ++ t).length) ↔ (k + 8 ≤ t.length):=by rw [List.length_append];omega
 have e2 : (hdr t k ≤ ((a ++ t).length : Int) - ((a.length + k : Nat) : Int) - 8) ↔ (hdr t k ≤ (t.length : Int) - k - 8):=by rw [List.length_append];omega
 simp only [okE,hdr_app,e1,e2]
 rw [show a.length + k + 4 = a.length + (k + 4) by omega,hdr_app,show a.length + k + 8 = a.length + (k + 8) by omega,drop_app]
theorem entP_app (a t : List Int) : ∀ (n k : Nat),t.length - k ≤ n → entP (a ++ t) (a.length + k) = (entP t k).map fun x=>(a.length + x.1,x.2)
 | n,k,hn=>by
  by_cases h : okE t k = true
  ·have h' : okE (a ++ t) (a.length + k) = true:=by rw [okE_app];exact h
   rw [entP_cons h,entP_cons h',hdr_app]
   have hk : k + 8 ≤ t.length:=by simp [okE] at h;omega
   match n,hn with
   | 0,hn=>omega
   | n + 1,hn =>
    have:=entP_app a t n (k + 8 + (hdr t k).toNat) (by omega)
    rw [List.map_cons,← this]
    congr 2
    omega
  ·have h0 : okE t k = false:=by simpa using h
   rw [entP_nil h0,entP_nil (by rw [okE_app];exact h0)];rfl
theorem entP_bound (zs : List Int) : ∀ (n k : Nat),zs.length - k ≤ n → ∀ x ∈ entP zs k,k + 8 ≤ x.1 ∧ x.1 + x.2 ≤ zs.length
 | n,k,hn,x,hx=>by
  by_cases h : okE zs k = true
  ·rw [entP_cons h] at hx
   have hk : k + 8 ≤ zs.length ∧ hdr zs k ≤ (zs.length : Int) - k - 8:=by simp [okE] at h;omega
   rcases List.mem_cons.1 hx with rfl | hx
   ·exact ⟨by simp,by simp only [];omega⟩
   ·match n,hn with
    | 0,hn=>omega
    | n + 1,hn =>
     have:=entP_bound zs n _ (by omega) x hx
     omega
  ·rw [entP_nil (by simpa using h)] at hx
   simp at hx
def endA (a : Nat) (l : List (Nat × Nat)) : Nat:=l.foldl (fun _ x=>x.1 + x.2) a
theorem endA_mem : ∀ (l : List (Nat × Nat)) (a : Nat),(l = [] ∧ endA a l = a) ∨ ∃ x ∈ l,endA a l = x.1 + x.2
 | [],a=>.inl ⟨rfl,rfl⟩
 | x :: l,a=>by
  rcases endA_mem l (x.1 + x.2) with ⟨rfl,h⟩ | ⟨y,hy,h⟩
  ·exact .inr ⟨x,by simp,h⟩
  ·exact .inr ⟨y,by simp [hy],h⟩
theorem endA_map (n : Nat) : ∀ (l : List (Nat × Nat)) (a : Nat),endA (n + a) (l.map fun x=>(n + x.1,x.2)) = n + endA a l
 | [],a=>rfl
 | x :: l,a=>by
  have:=endA_map n l (x.1 + x.2)
  show endA (n + x.1 + x.2) _ = n + endA (x.1 + x.2) l
  rw [← this,Nat.add_assoc]
theorem endP_mem (l : List (Nat × Nat)) : l = [] ∨ ∃ x ∈ l,endP l = x.1 + x.2:=by
 rcases endA_mem l 0 with h | h
 ·exact .inl h.1
 ·exact .inr h
theorem stop_le (zs : List Int) : stop zs ≤ zs.length:=by
 rcases endP_mem (entP zs 0) with h | ⟨x,hx,h⟩
 ·rw [stop,h];exact Nat.zero_le _
 ·rw [stop,h];exact (entP_bound zs _ 0 (Nat.le_refl _) x hx).2
theorem payP_app (a t : List Int) (x : Nat × Nat) : payP (a ++ t) (a.length + x.1,x.2) = payP t x:=by rw [payP,drop_app,payP]
theorem jEnt_hdr (p t : List Int) (hp : p.length < 4294967296) : hdr (jEnt p ++ t) 0 = p.length ∧ hdr (jEnt p ++ t) 4 = fnv (jBody p):=by
 have h1 : ((jEnt p ++ t).drop 0).take 4 = beN 4 p.length:=by
  rw [List.drop_zero,jEnt,List.append_assoc,List.append_assoc,List.take_left' (beN_length _ _)]
 have h2 : ((jEnt p ++ t).drop 4).take 4 = beN 4 (fnv (jBody p)):=by
  rw [jEnt,List.append_assoc,List.append_assoc,List.drop_left' (beN_length _ _),List.take_left' (beN_length _ _)]
 have hb:=fnv_bound (jBody p)
 exact ⟨by rw [hdr,h1];exact num_be 4 _ (by omega) (by omega),by rw [hdr,h2];exact num_be 4 _ hb.1 (by omega)⟩
theorem jEnt_pay (p t : List Int) : payP (jEnt p ++ t) (8,p.length) = p:=by
 rw [payP,jEnt,List.append_assoc,List.drop_left' (by simp [beN_length]),List.take_left]
theorem okE_ent (p t : List Int) (hp : p.length ≤ 65536) : okE (jEnt p ++ t) 0 = true:=by
 obtain ⟨h1,h2⟩:=jEnt_hdr p t (by omega)
 have hl : (jEnt p ++ t).length = 8 + p.length + t.length:=by rw [List.length_append,jEnt_length]
 have h3 : ((jEnt p ++ t).drop 8).take p.length = p:=jEnt_pay p t
 have hb:=fnv_bound (jBody p)
 simp only [okE,Nat.zero_add,h1,h2,Int.toNat_natCast,h3,u32_wrap]
 rw [Int.emod_eq_of_lt hb.1 hb.2]
 simp only [hl,Bool.and_eq_true,decide_eq_true_eq]
 exact ⟨⟨by omega,by omega,by omega⟩,trivial⟩
theorem entP_ent (p t : List Int) (hp : p.length ≤ 65536) : entP (jEnt p ++ t) 0 = (8,p.length) :: (entP t 0).map fun x=>(8 + p.length + x.1,x.2):=by
 rw [entP_cons (okE_ent p t hp),(jEnt_hdr p t (by omega)).1,Int.toNat_natCast]
 have:=entP_app (jEnt p) t _ 0 (Nat.le_refl _)
 rw [jEnt_length,Nat.add_zero] at this
 rw [show 0 + 8 + p.length = 8 + p.length by omega,this]
theorem pays_ent (p t : List Int) (hp : p.length ≤ 65536) : pays (jEnt p ++ t) = p :: pays t ∧ stop (jEnt p ++ t) = 8 + p.length + stop t:=by
 rw [pays,stop,entP_ent p t hp,List.map_cons,jEnt_pay,List.map_map,pays,stop]
 refine ⟨?_,?_⟩
 ·congr 1
  refine List.map_congr_left fun x _=>?_
  have:=payP_app (jEnt p) t x
  rw [jEnt_length] at this
  exact this
 ·have:=endA_map (8 + p.length) (entP t 0) 0
  exact this
theorem pays_nil : pays [] = [] ∧ stop [] = 0:=by rw [pays,stop,entP_nil (okE_short (by simp))];exact ⟨rfl,rfl⟩
def jLog (l : List (List Int)) : List Int:=l.flatMap jEnt
theorem jLog_cons (p : List Int) (l : List (List Int)) : jLog (p :: l) = jEnt p ++ jLog l:=by simp [jLog]
theorem jLog_snoc (l : List (List Int)) (p : List Int) : jLog (l ++ [p]) = jLog l ++ jEnt p:=by simp [jLog]
theorem pays_log : ∀ (l : List (List Int)) (t : List Int),(∀ p ∈ l,p.length ≤ 65536) → pays (jLog l ++ t) = l ++ pays t ∧ stop (jLog l ++ t) = (jLog l).length + stop t
 | [],t,_=>⟨rfl,by simp [jLog]⟩
 | p :: l,t,h=>by
  obtain ⟨h1,h2⟩:=pays_log l t fun q hq=>h q (List.mem_cons_of_mem _ hq)
  obtain ⟨h3,h4⟩:=pays_ent p (jLog l ++ t) (h p (List.mem_cons_self ..))
  rw [jLog_cons,List.append_assoc,h3,h4,h1,h2,List.length_append,jEnt_length]
  exact ⟨rfl,by omega⟩
theorem okE_cut (p : List Int) (hp : p.length ≤ 65536) (m : Nat) (hm : m < 8 + p.length) : okE ((jEnt p).take m) 0 = false:=by
 have hl : ((jEnt p).take m).length = m:=by rw [List.length_take,jEnt_length];omega
 by_cases h8 : 8 ≤ m
 ·have h : hdr ((jEnt p).take m) 0 = p.length:=by
   have:=(jEnt_hdr p [] (by omega)).1
   rw [List.append_nil] at this
   rw [← this,hdr,hdr,List.drop_zero,List.drop_zero,List.take_take,show min 4 m = 4 by omega]
  exact okE_big h (.inr (by rw [hl];omega))
 ·exact okE_short (by rw [hl];omega)
theorem pays_cut (p : List Int) (hp : p.length ≤ 65536) (m : Nat) (hm : m < 8 + p.length) : pays ((jEnt p).take m) = [] ∧ stop ((jEnt p).take m) = 0:=by
 rw [pays,stop,entP_nil (okE_cut p hp m hm)];exact ⟨rfl,rfl⟩
attribute [local irreducible] ACalls
theorem ref35_Number_raw {P : Program} (F : F_z1k P) (n : Int) (hn : 0 ≤ n) (hn2 : n ≤ 9000000000000000000) :
  ACalls P F.id [.int .i64 n,.int .i64 4] [] (fun r H'=>r = .sl 0 4 0 4 ∧ H' = [.arr 1 (bC (beN 4 n))]) :=
 ref24_number_raw ⟨F.id,F.has⟩ n 4 hn hn2 (by decide)
theorem ref35_Number_spec {P : Program} (F : F_z1k P) (n : Int) (hn : 0 ≤ n) (hn2 : n ≤ 9000000000000000000) (H : List AObj) :
  ACalls P F.id [.int .i64 n,.int .i64 4] H (fun r H'=>r = .list false 1 (bC (beN 4 n)) ∧ H' = H) :=
 ref24_number_spec ⟨F.id,F.has⟩ n 4 hn hn2 (by decide) H
set_option maxRecDepth 20000 in
theorem ref35_Entry_spec {P : Program} (F : F_z1j P) (ex : Bool) (p : List Int) (hp : p.length ≤ 10000000) (hb : Byt p) (H : List AObj) :
  ACalls P F.id [.list ex 1 (bC p)] H (fun r H'=>r = .list false 1 (bC (jEnt p)) ∧ H' = H):=by
 have hbb : Byt (jBody p):=fun x hx=>(List.mem_append.1 hx).elim (beN_byt _ _ x) (hb x)
 have hf:=fnv_bound (jBody p)
 refine ACalls.pure rfl (acalls_of_body F.has ?_)
 conv=>whnf
 rw [bC_length]
 (conv=>whnf);refine ACalls.mono (ref35_Number_raw F.z1k p.length (by omega) (by omega)) ?_
 rintro r H1 ⟨rfl,rfl⟩
 (conv=>whnf);refine And.intro (⟨roomB_le1 (by simp [bC_length,beN_length];omega),roomB_le (by simp [bC_length,beN_length];omega),rfl,rfl⟩) ?_
 have h1 : (bC (beN 4 (p.length : Int)) ++ bC p).length = 4 + p.length:=by simp [bC_length,beN_length]
 (conv=>whnf);refine recT (Nat.beq_refl _) ?_
 (conv=>whnf);refine And.intro (⟨by omega,by show (4 : Int) ≤ ((bC (beN 4 (p.length : Int)) ++ bC p).length : Int);rw [h1];omega⟩) ?_
 (conv=>whnf);refine recT (Nat.beq_refl _) ?_
 conv=>whnf
 have hsub : List.take (Int.toNat 4 - 0) (List.drop (0 + 0) (bC (beN 4 (p.length : Int)) ++ bC p)) = bC (beN 4 p.length):=by
  show List.take 4 (List.drop 0 (bC (beN 4 (p.length : Int)) ++ bC p)) = _
  rw [List.drop_zero,List.take_left' (by simp [bC_length,beN_length])]
 rw [hsub]
 (conv=>whnf);refine And.intro (⟨roomB_le1 (by simp [bC_length,beN_length]),roomB_le (by simp [bC_length,beN_length])⟩) ?_
 conv=>whnf
 have hl3 : (bC (beN 4 (p.length : Int)) ++ bC p).length = (bC (jBody p)).length:=by rw [jBody,bC_append]
 have key:=ACalls.bor (H:=[.arr 1 (bC (jBody p)),.arr 1 (bC (beN 4 (p.length : Int)))]) (R:=.int .u32 (fnv (jBody p))) rfl ((ref24_Checksum_spec F.z1g false (jBody p) (by rw [jBody,List.length_append,beN_length];omega) hbb []).mono fun _ _ h=>h.1) (.cons (lentSl (id:=0) (ep:=(bC (beN 4 (p.length : Int)) ++ bC p).length) (len:=(bC (beN 4 (p.length : Int)) ++ bC p).length) rfl hl3 hl3 (pureEs_bC _)) .nil)
 rw [jBody,bC_append] at key
 (conv=>whnf);refine ACalls.use (key) ?_
 conv=>whnf
 rw [show IntKind.i64.wrap (fnv (beN 4 (p.length : Int) ++ p)) = fnv (jBody p) from wrapI _ (by show _ ≤ fnv (jBody p);omega) (by show fnv (jBody p) ≤ _;omega)]
 (conv=>whnf);refine ACalls.use (ref35_Number_spec F.z1k (fnv (jBody p)) hf.1 (by omega) _) ?_
 (conv=>whnf);refine And.intro (⟨roomB_le1 (by simp [bC_length,beN_length]),roomB_le (by simp [bC_length,beN_length]),rfl,rfl⟩) ?_
 (conv=>whnf);refine And.intro (⟨roomB_le1 (by simp [bC_length,beN_length];omega),roomB_le (by simp [bC_length,beN_length];omega),rfl,rfl⟩) ?_
 conv=>whnf
 have hl4 : (bC (beN 4 (p.length : Int)) ++ bC (beN 4 (fnv (jBody p))) ++ bC p).length = (bC (jEnt p)).length:=by simp [bC_length,jEnt,beN_length]
 refine pubF (es:=bC (jEnt p)) ?_ hl4 hl4 (pureEs_bC _)
 show some (AObj.arr 1 (bC (beN 4 (p.length : Int)) ++ bC (beN 4 (fnv (jBody p))) ++ bC p)) = _
 rw [← bC_append,← bC_append,jEnt]
theorem jEnt_byt {p : List Int} (hb : Byt p) : Byt (jEnt p):=fun x hx=>by
 rw [jEnt,List.append_assoc] at hx
 rcases List.mem_append.1 hx with h | h
 ·exact beN_byt _ _ x h
 rcases List.mem_append.1 h with h | h
 ·exact beN_byt _ _ x h
 ·exact hb x h
end Go.AW
