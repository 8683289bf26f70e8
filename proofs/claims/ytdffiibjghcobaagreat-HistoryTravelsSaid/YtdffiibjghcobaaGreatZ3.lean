/-
  An abstract machine over the model, the code of functions on it, and their contracts: what the claim needs.
  No condition: definitions, plain laws, contracts over any program that has this code.
-/
import Derived.Test.YtdffiibjghcobaaGreatZ2
set_option linter.all false
namespace Go.AW
def c_z03 (f_z24 : FuncId) : AFunc := ⟨30,[.tmp 2],(.seq (.region [ iD 1 (.box (.t 0)),iD 2 (.move (cI 0))]) (.seq (.seq (.region [ iD 5 (.fieldAddr 0 (.t 1)),iD 6 (.load false 1 (.t 5)),iD 7 (.len (.t 6)),iD 8 (.bin .gtr (.t 7) (cI 12)),iM 9 8,⟨(some 10),.fieldAddr 1 (.t 1),some (some 9,false)⟩,⟨(some 11),.load false 1 (.t 10),some (some 9,false)⟩,⟨(some 12),.bin .lss (.t 11) (.c (.int .i64 (-65536))),some (some 9,false)⟩,iD 13 (.pick (.t 9) (.c (.bool true)) (.t 12)),iM 14 13,⟨(some 15),.fieldAddr 1 (.t 1),some (some 14,false)⟩,⟨(some 16),.load false 1 (.t 15),some (some 14,false)⟩,⟨(some 17),.bin .gtr (.t 16) (cI 65536),some (some 14,false)⟩,iD 18 (.pick (.t 14) (.c (.bool true)) (.t 17))]) (.cond (.t 18) (.seq (.region [ iD 2 (.move (cI 2))]) .ret) .skip)) (.seq (.seq (.region [ iD 19 (.fieldAddr 0 (.t 1)),iD 20 (.load false 1 (.t 19)),iD 21 (.len (.t 20)),iD 22 (.move (cI 0))]) (.block 0 (.loop (.seq (.region [ iD 23 (.bin .lss (.t 22) (.t 21))]) (.seq (.cond (.t 23) .skip (.exit 0)) (.seq (.block 1 (.seq (.region [ iD 24 (.indexAddr 3 (.t 20) (.t 22)),iD 25 (.load true 3 (.t 24)),iD 4 (.alloc [(.int .i64 0),(.int .i64 0),(.str (bs []))]),iN (.store 3 (.t 4) (.t 25))]) (.seq (.region [ iD 26 (.load true 3 (.t 4)),iD 27 (.call f_z24 [(.t 26)]),iD 28 (.un .not (.t 27))]) (.cond (.t 28) (.seq (.region [ iD 2 (.move (cI 8))]) .ret) .skip)))) (.region [ iD 29 (.bin .add (.t 22) (cI 1)),iM 22 29]))))))) (.seq (.region [ iD 2 (.move (cI 0))]) .ret))))⟩
structure F_z03 (P : Program) where
 id : FuncId
 z24 : F_z24 P
 has : Has P id [] (c_z03 z24.id)
def c_z01 (f_z03 : FuncId) (f_z22 : FuncId) : AFunc := ⟨39,[.tmp 2],(.seq (.region [ iD 2 (.move (cI 0))]) (.seq (.seq (.region [ iM 6 0,iD 7 (.len (.t 6)),iD 8 (.bin .gtr (.t 7) (cI 4096))]) (.cond (.t 8) (.seq (.region [ iD 2 (.move (cI 2))]) .ret) .skip)) (.seq (.seq (.region [ iM 9 0,iD 10 (.len (.t 9)),iD 11 (.move (cI 0))]) (.block 0 (.loop (.seq (.region [ iD 12 (.bin .lss (.t 11) (.t 10))]) (.seq (.cond (.t 12) .skip (.exit 0)) (.seq (.block 1 (.seq (.region [ iM 13 11,iD 14 (.indexAddr 2 (.t 9) (.t 11)),iD 15 (.load true 2 (.t 14)),iD 4 (.alloc [.nil,(.int .i64 0)]),iM 3 13,iN (.store 2 (.t 4) (.t 15))]) (.seq (.seq (.region [ iD 16 (.load true 2 (.t 4)),iD 17 (.call f_z03 [(.t 16)]),iM 5 17]) (.seq (.region [ iM 18 5,iD 19 (.bin .neq (.t 18) (cI 0))]) (.cond (.t 19) (.seq (.region [ iM 20 5,iM 2 20]) .ret) .skip))) (.seq (.seq (.region [ iD 21 (.fieldAddr 1 (.t 4)),iD 22 (.load false 1 (.t 21)),iD 23 (.bin .eql (.t 22) (cI 0))]) (.cond (.t 23) (.seq (.region [ iD 2 (.move (cI 8))]) .ret) .skip)) (.seq (.draw [ jM 24 3,jD 25 (.bin .gtr (.t 24) (cI 0)),jM 26 25,(⟨(some 27),.move (.t 0),some (some 26,true)⟩,[]),(⟨(some 28),.move (.t 3),some (some 26,true)⟩,[]),(⟨(some 29),.bin .sub (.t 28) (cI 1),some (some 26,true)⟩,[]),(⟨(some 30),.indexAddr 2 (.t 27) (.t 29),some (some 26,true)⟩,[]),(⟨(some 31),.fieldAddr 0 (.t 30),some (some 26,true)⟩,[]),(⟨(some 32),.load false 1 (.t 31),some (some 26,true)⟩,[]),(⟨(some 33),.fieldAddr 0 (.t 4),some (some 26,true)⟩,[]),(⟨(some 34),.load false 1 (.t 33),some (some 26,true)⟩,[]),(⟨(some 35),.call f_z22 [(.t 32),(.t 34)],some (some 26,true)⟩,[]),(⟨(some 36),.bin .geq (.t 35) (cI 0),some (some 26,true)⟩,[]),jD 37 (.pick (.t 26) (.t 36) (.c (.bool false)))]) (.cond (.t 37) (.seq (.region [ iD 2 (.move (cI 14))]) .ret) .skip)))))) (.region [ iD 38 (.bin .add (.t 11) (cI 1)),iM 11 38]))))))) (.seq (.region [ iD 2 (.move (cI 0))]) .ret))))⟩
structure F_z01 (P : Program) where
 id : FuncId
 z03 : F_z03 P
 z22 : F_z22 P
 has : Has P id [] (c_z01 z03.id z22.id)
def c_z1e : AFunc := ⟨8,[.tmp 2],(.seq (.region [ iD 2 (.move (.c .nil))]) (.seq (.seq (.region [ iM 3 0,iD 4 (.isNil false (.t 3))]) (.cond (.t 4) (.seq (.region [ iD 2 (.move (.c .nil))]) .ret) .skip)) (.seq (.region [ iD 5 (.buildSlice 3 0 [(.int .i64 0),(.int .i64 0),(.str (bs []))] []),iM 6 0,iD 7 (.append 3 32 [(.int .i64 0),(.int .i64 0),(.str (bs []))] (.t 5) (.t 6)),iM 2 7]) .ret)))⟩
structure F_z1e (P : Program) where
 id : FuncId
 has : Has P id [] c_z1e
def c_z04 (f_z1e : FuncId) : AFunc := ⟨24,[.tmp 6,.tmp 7],(.seq (.region [ iD 6 (.move (.c .nil)),iD 7 (.move (.c (.bool false)))]) (.seq (.seq (.region [ iM 8 2,iD 9 (.bin .lss (.t 8) (.c (.int .i64 (-65536)))),iM 10 9,⟨(some 11),.move (.t 2),some (some 10,false)⟩,⟨(some 12),.bin .gtr (.t 11) (cI 65536),some (some 10,false)⟩,iD 13 (.pick (.t 10) (.c (.bool true)) (.t 12))]) (.cond (.t 13) (.seq (.region [ iD 6 (.move (.c .nil)),iD 7 (.move (.c (.bool false)))]) .ret) .skip)) (.seq (.seq (.region [ iM 14 2,iD 15 (.bin .neq (.t 14) (cI 0))]) (.cond (.t 15) (.region [ iM 16 0,iM 17 1,iD 18 (.call f_z1e [(.t 17)]),iM 19 2,iD 20 (.build [.nil,(.int .i64 0)] [(0,1,(.t 18)),(1,1,(.t 19))]),iD 21 (.buildSlice 2 1 [.nil,(.int .i64 0)] [(0,(.t 20))]),iD 22 (.append 2 32 [.nil,(.int .i64 0)] (.t 16) (.t 21)),iM 0 22]) .skip)) (.seq (.region [ iM 23 0,iM 6 23,iD 7 (.move (.c (.bool true)))]) .ret))))⟩
structure F_z04 (P : Program) where
 id : FuncId
 z1e : F_z1e P
 has : Has P id [] (c_z04 z1e.id)
def c_z02 : AFunc := ⟨8,[.tmp 2,.tmp 3],(.seq (.region [ iD 2 (.move (.c .nil)),iD 3 (.move (cI 0))]) (.seq (.seq (.region [ iM 4 0,iD 5 (.len (.t 4)),iD 6 (.bin .gtr (.t 5) (cI 4096))]) (.cond (.t 6) (.seq (.region [ iD 2 (.move (.c .nil)),iD 3 (.move (cI 2))]) .ret) .skip)) (.seq (.region [ iM 7 0,iM 2 7,iD 3 (.move (cI 0))]) .ret)))⟩
structure F_z02 (P : Program) where
 id : FuncId
 has : Has P id [] c_z02
def c_z1d : AFunc := ⟨8,[.tmp 2],(.seq (.region [ iD 2 (.move (.c .nil))]) (.seq (.seq (.region [ iM 3 0,iD 4 (.isNil false (.t 3))]) (.cond (.t 4) (.seq (.region [ iD 2 (.move (.c .nil))]) .ret) .skip)) (.seq (.region [ iD 5 (.buildSlice 2 0 [.nil,(.int .i64 0)] []),iM 6 0,iD 7 (.append 2 32 [.nil,(.int .i64 0)] (.t 5) (.t 6)),iM 2 7]) .ret)))⟩
structure F_z1d (P : Program) where
 id : FuncId
 has : Has P id [] c_z1d
def c_z3o : AFunc := ⟨9,[.tmp 2],(.seq (.region [ iD 2 (.move (.c (.bool false)))]) (.seq (.region [ iM 3 0,iD 4 (.bin .geq (.t 3) (.c (.int .i64 (-65536)))),iM 5 4,⟨(some 6),.move (.t 0),some (some 5,true)⟩,⟨(some 7),.bin .leq (.t 6) (cI 65536),some (some 5,true)⟩,iD 8 (.pick (.t 5) (.t 7) (.c (.bool false))),iM 2 8]) .ret))⟩
structure F_z3o (P : Program) where
 id : FuncId
 has : Has P id [] c_z3o
def c_z3l (f_z3o : FuncId) (f_z2e : FuncId) : AFunc := ⟨28,[.tmp 2],(.seq (.region [ iD 1 (.box (.t 0)),iD 2 (.move (cI 0))]) (.seq (.seq (.region [ iD 4 (.fieldAddr 0 (.t 1)),iD 5 (.load false 1 (.t 4)),iD 6 (.len (.t 5)),iD 7 (.bin .gtr (.t 6) (cI 12)),iM 8 7,⟨(some 9),.fieldAddr 1 (.t 1),some (some 8,false)⟩,⟨(some 10),.load false 1 (.t 9),some (some 8,false)⟩,⟨(some 11),.call f_z3o [(.t 10)],some (some 8,false)⟩,⟨(some 12),.un .not (.t 11),some (some 8,false)⟩,iD 13 (.pick (.t 8) (.c (.bool true)) (.t 12))]) (.cond (.t 13) (.seq (.region [ iD 2 (.move (cI 2))]) .ret) .skip)) (.seq (.seq (.region [ iD 3 (.move (cI 0))]) (.block 0 (.loop (.seq (.seq (.region [ iM 14 3,iD 15 (.fieldAddr 0 (.t 1)),iD 16 (.load false 1 (.t 15)),iD 17 (.len (.t 16)),iD 18 (.bin .lss (.t 14) (.t 17))]) (.cond (.t 18) .skip (.exit 0))) (.seq (.block 1 (.seq (.region [ iD 21 (.fieldAddr 0 (.t 1)),iD 22 (.load false 1 (.t 21)),iM 23 3,iD 24 (.indexAddr 3 (.t 22) (.t 23)),iD 25 (.load true 3 (.t 24)),iD 26 (.call f_z2e [(.t 25)]),iD 27 (.un .not (.t 26))]) (.cond (.t 27) (.seq (.region [ iD 2 (.move (cI 8))]) .ret) .skip))) (.region [ iM 19 3,iD 20 (.bin .add (.t 19) (cI 1)),iM 3 20])))))) (.seq (.region [ iD 2 (.move (cI 0))]) .ret))))⟩
structure F_z3l (P : Program) where
 id : FuncId
 z3o : F_z3o P
 z2e : F_z2e P
 has : Has P id [] (c_z3l z3o.id z2e.id)
def c_z3m (f_z2c : FuncId) : AFunc := ⟨74,[.tmp 4],(.seq (.region [ iD 4 (.move (.c .nil))]) (.seq (.region [ iD 5 (.move (.c .nil))]) (.seq (.block 0 (.loop (.seq (.seq (.region [ iM 7 0,iD 8 (.len (.t 7)),iD 9 (.bin .gtr (.t 8) (cI 0)),iM 10 9,⟨(some 11),.move (.t 1),some (some 10,false)⟩,⟨(some 12),.len (.t 11),some (some 10,false)⟩,⟨(some 13),.bin .gtr (.t 12) (cI 0),some (some 10,false)⟩,iD 14 (.pick (.t 10) (.c (.bool true)) (.t 13))]) (.cond (.t 14) .skip (.exit 0))) (.block 1 (.seq (.region [ iD 6 (.move (.c (.int .i64 (-1))))]) (.seq (.seq (.region [ iM 15 0,iD 16 (.len (.t 15)),iD 17 (.bin .eql (.t 16) (cI 0))]) (.cond (.t 17) (.region [ iD 6 (.move (cI 1))]) (.seq (.region [ iM 18 1,iD 19 (.len (.t 18)),iD 20 (.bin .gtr (.t 19) (cI 0))]) (.cond (.t 20) (.draw [ jM 21 0,jD 22 (.indexAddr 2 (.t 21) (cI 0)),jD 23 (.fieldAddr 0 (.t 22)),jD 24 (.load false 1 (.t 23)),jM 25 1,jD 26 (.indexAddr 2 (.t 25) (cI 0)),jD 27 (.fieldAddr 0 (.t 26)),jD 28 (.load false 1 (.t 27)),jD 29 (.call f_z2c [(.t 24),(.t 28)]),jM 6 29]) .skip)))) (.block 2 (.seq (.region [ iM 52 6,iD 53 (.bin .lss (.t 52) (cI 0)),iM 51 53]) (.cond (.t 51) (.draw [ jM 54 5,jM 55 0,jD 56 (.indexAddr 2 (.t 55) (cI 0)),jD 57 (.load true 2 (.t 56)),jD 58 (.buildSlice 2 1 [.nil,(.int .i64 0)] [(0,(.t 57))]),jD 59 (.append 2 32 [.nil,(.int .i64 0)] (.t 54) (.t 58)),jM 60 0,(iD 61 (.slice 2 (.t 60) (some (cI 1)) none),[10]),jM 5 59,jM 0 61]) (.seq (.region [ iM 63 6,iD 64 (.bin .gtr (.t 63) (cI 0)),iM 62 64]) (.cond (.t 62) (.draw [ jM 65 5,jM 66 1,jD 67 (.indexAddr 2 (.t 66) (cI 0)),jD 68 (.load true 2 (.t 67)),jD 69 (.buildSlice 2 1 [.nil,(.int .i64 0)] [(0,(.t 68))]),jD 70 (.append 2 32 [.nil,(.int .i64 0)] (.t 65) (.t 69)),jM 71 1,(iD 72 (.slice 2 (.t 71) (some (cI 1)) none),[10]),jM 5 70,jM 1 72]) (.seq (.draw [ jM 30 5,jM 31 0,jD 32 (.indexAddr 2 (.t 31) (cI 0)),jD 33 (.fieldAddr 0 (.t 32)),jD 34 (.load false 1 (.t 33)),jM 35 0,jD 36 (.indexAddr 2 (.t 35) (cI 0)),jD 37 (.fieldAddr 1 (.t 36)),jD 38 (.load false 1 (.t 37)),jM 39 1,jD 40 (.indexAddr 2 (.t 39) (cI 0)),jD 41 (.fieldAddr 1 (.t 40)),jD 42 (.load false 1 (.t 41)),jD 43 (.bin .add (.t 38) (.t 42)),jD 44 (.build [.nil,(.int .i64 0)] [(0,1,(.t 34)),(1,1,(.t 43))]),jD 45 (.buildSlice 2 1 [.nil,(.int .i64 0)] [(0,(.t 44))]),jD 46 (.append 2 32 [.nil,(.int .i64 0)] (.t 30) (.t 45)),jM 5 46]) (.draw [ jM 47 0,jD 48 (.slice 2 (.t 47) (some (cI 1)) none),jM 49 1,jD 50 (.slice 2 (.t 49) (some (cI 1)) none),jM 0 48,jM 1 50]))))))))))))) (.seq (.region [ iM 73 5,iM 4 73]) .ret))))⟩
structure F_z3m (P : Program) where
 id : FuncId
 z2c : F_z2c P
 has : Has P id [] (c_z3m z2c.id)
def c_z3n (f_z3o : FuncId) : AFunc := ⟨46,[.tmp 2,.tmp 3],(.seq (.region [ iD 2 (.move (.c .nil)),iD 3 (.move (cI 0))]) (.seq (.region [ iD 4 (.move (.c .nil))]) (.seq (.seq (.region [ iD 5 (.move (cI 0))]) (.block 0 (.loop (.seq (.seq (.region [ iM 6 5,iM 7 0,iD 8 (.len (.t 7)),iD 9 (.bin .lss (.t 6) (.t 8))]) (.cond (.t 9) .skip (.exit 0))) (.seq (.block 1 (.seq (.seq (.region [ iM 12 0,iM 13 5,iD 14 (.indexAddr 2 (.t 12) (.t 13)),iD 15 (.fieldAddr 1 (.t 14)),iD 16 (.load false 1 (.t 15)),iD 17 (.bin .eql (.t 16) (cI 0))]) (.cond (.t 17) (.exit 1) .skip)) (.seq (.seq (.region [ iM 18 0,iM 19 5,iD 20 (.indexAddr 2 (.t 18) (.t 19)),iD 21 (.fieldAddr 1 (.t 20)),iD 22 (.load false 1 (.t 21)),iD 23 (.call f_z3o [(.t 22)]),iD 24 (.un .not (.t 23)),iM 25 24,⟨(some 26),.move (.t 4),some (some 25,false)⟩,⟨(some 27),.len (.t 26),some (some 25,false)⟩,⟨(some 28),.bin .eql (.t 27) (cI 4096),some (some 25,false)⟩,iD 29 (.pick (.t 25) (.c (.bool true)) (.t 28))]) (.cond (.t 29) (.seq (.region [ iD 2 (.move (.c .nil)),iD 3 (.move (cI 2))]) .ret) .skip)) (.draw [ jM 30 4,jM 31 0,jM 32 5,jD 33 (.indexAddr 2 (.t 31) (.t 32)),jD 34 (.fieldAddr 0 (.t 33)),jD 35 (.load false 1 (.t 34)),jD 36 (.append 3 32 [(.int .i64 0),(.int .i64 0),(.str (bs []))] (.c .nil) (.t 35)),jM 37 0,jM 38 5,(iD 39 (.indexAddr 2 (.t 37) (.t 38)),[16]),jD 40 (.fieldAddr 1 (.t 39)),(iD 41 (.load false 1 (.t 40)),[16]),jD 42 (.build [.nil,(.int .i64 0)] [(0,1,(.t 36)),(1,1,(.t 41))]),jD 43 (.buildSliceO 2 1 [.nil,(.int .i64 0)] [(0,(.t 42))]),jD 44 (.append 2 32 [.nil,(.int .i64 0)] (.t 30) (.t 43)),jM 4 44])))) (.region [ iM 10 5,iD 11 (.bin .add (.t 10) (cI 1)),iM 5 11])))))) (.seq (.region [ iM 45 4,iM 2 45,iD 3 (.move (cI 0))]) .ret))))⟩
structure F_z3n (P : Program) where
 id : FuncId
 z3o : F_z3o P
 has : Has P id [43] (c_z3n z3o.id)
def c_z35 : AFunc := ⟨16,[.tmp 4],(.seq (.region [ iD 4 (.move (cI 0))]) (.seq (.region [ iM 6 0,iM 7 1,iD 8 (.bin .quo (.t 6) (.t 7)),iM 5 8]) (.seq (.seq (.region [ iM 9 0,iM 10 1,iD 11 (.bin .rem (.t 9) (.t 10)),iD 12 (.bin .lss (.t 11) (cI 0))]) (.cond (.t 12) (.region [ iM 13 5,iD 14 (.bin .sub (.t 13) (cI 1)),iM 5 14]) .skip)) (.seq (.region [ iM 15 5,iM 4 15]) .ret))))⟩
structure F_z35 (P : Program) where
 id : FuncId
 has : Has P id [] c_z35
end Go.AW
namespace Go.AW
def c_z08 (f_z17 : FuncId) (f_z18 : FuncId) (f_z23 : FuncId) : AFunc := ⟨46,[.tmp 2],(.seq (.region [ iD 1 (.box (.t 0)),iD 2 (.move (cI 0))]) (.seq (.seq (.region [ iD 7 (.fieldAddr 0 (.t 1)),iD 8 (.load false 1 (.t 7)),iD 9 (.call f_z17 [(.t 8)]),iD 10 (.un .not (.t 9)),iM 11 10,⟨(some 12),.fieldAddr 1 (.t 1),some (some 11,false)⟩,⟨(some 13),.load false 1 (.t 12),some (some 11,false)⟩,⟨(some 14),.call f_z18 [(.t 13)],some (some 11,false)⟩,⟨(some 15),.un .not (.t 14),some (some 11,false)⟩,iD 16 (.pick (.t 11) (.c (.bool true)) (.t 15))]) (.cond (.t 16) (.seq (.region [ iD 2 (.move (cI 4))]) .ret) .skip)) (.seq (.seq (.region [ iD 17 (.fieldAddr 2 (.t 1)),iD 18 (.load false 1 (.t 17)),iD 19 (.len (.t 18)),iD 20 (.bin .gtr (.t 19) (cI 1024))]) (.cond (.t 20) (.seq (.region [ iD 2 (.move (cI 2))]) .ret) .skip)) (.seq (.seq (.region [ iD 21 (.fieldAddr 2 (.t 1)),iD 22 (.load false 1 (.t 21)),iD 23 (.len (.t 22)),iD 24 (.move (cI 0))]) (.block 0 (.loop (.seq (.region [ iD 25 (.bin .lss (.t 24) (.t 23))]) (.seq (.cond (.t 25) .skip (.exit 0)) (.seq (.block 1 (.seq (.region [ iD 26 (.indexAddr 3 (.t 22) (.t 24)),iD 27 (.load true 3 (.t 26)),iD 4 (.alloc [(.bool false),(.int .i64 0),.nil]),iN (.store 3 (.t 4) (.t 27))]) (.seq (.seq (.region [ iD 28 (.fieldAddr 1 (.t 4)),iD 29 (.load false 1 (.t 28)),iD 30 (.bin .lss (.t 29) (cI 0)),iM 31 30,⟨(some 32),.fieldAddr 1 (.t 4),some (some 31,false)⟩,⟨(some 33),.load false 1 (.t 32),some (some 31,false)⟩,⟨(some 34),.bin .gtr (.t 33) (cI 1073741824),some (some 31,false)⟩,iD 35 (.pick (.t 31) (.c (.bool true)) (.t 34))]) (.cond (.t 35) (.seq (.region [ iD 2 (.move (cI 1))]) .ret) .skip)) (.seq (.region [ iD 37 (.fieldAddr 2 (.t 4)),iD 38 (.load false 1 (.t 37)),iD 39 (.call f_z23 [(.t 38)]),iM 36 39,iD 40 (.extract (.t 36) 0),iD 41 (.extract (.t 36) 1),iM 5 40,iM 6 41]) (.seq (.region [ iM 42 6,iD 43 (.bin .neq (.t 42) (cI 0))]) (.cond (.t 43) (.seq (.region [ iM 44 6,iM 2 44]) .ret) .skip)))))) (.region [ iD 45 (.bin .add (.t 24) (cI 1)),iM 24 45]))))))) (.seq (.region [ iD 2 (.move (cI 0))]) .ret)))))⟩
structure F_z08 (P : Program) where
 id : FuncId
 z17 : F_z17 P
 z18 : F_z18 P
 z23 : F_z23 P
 has : Has P id [] (c_z08 z17.id z18.id z23.id)
def c_z07 : AFunc := ⟨19,[.tmp 2],(.seq (.region [ iD 2 (.move (.c (.int .u32 0)))]) (.seq (.region [ iD 3 (.move (.c (.int .u32 2166136261)))]) (.seq (.seq (.region [ iM 6 0,iD 7 (.len (.t 6)),iD 8 (.move (cI 0))]) (.block 0 (.loop (.seq (.region [ iD 9 (.bin .lss (.t 8) (.t 7))]) (.seq (.cond (.t 9) .skip (.exit 0)) (.seq (.block 1 (.seq (.region [ iD 10 (.indexAddr 1 (.t 6) (.t 8)),iD 11 (.load false 1 (.t 10)),iM 5 11]) (.region [ iM 12 3,iM 13 5,iD 14 (.conv .u32 (.t 13)),iD 15 (.bin .xor (.t 12) (.t 14)),iD 16 (.bin .mul (.t 15) (.c (.int .u32 16777619))),iM 3 16]))) (.region [ iD 17 (.bin .add (.t 8) (cI 1)),iM 8 17]))))))) (.seq (.region [ iM 18 3,iM 2 18]) .ret))))⟩
structure F_z07 (P : Program) where
 id : FuncId
 has : Has P id [] c_z07
def c_z2l : AFunc := ⟨22,[.tmp 2],(.seq (.region [ iD 2 (.move (.c (.int .u32 0)))]) (.seq (.region [ iD 3 (.move (.c (.int .u64 2166136261)))]) (.seq (.seq (.region [ iD 4 (.move (cI 0))]) (.block 0 (.loop (.seq (.seq (.region [ iM 5 4,iM 6 0,iD 7 (.len (.t 6)),iD 8 (.bin .lss (.t 5) (.t 7))]) (.cond (.t 8) .skip (.exit 0))) (.seq (.block 1 (.region [ iM 11 3,iM 12 0,iM 13 4,iD 14 (.indexAddr 1 (.t 12) (.t 13)),iD 15 (.load false 1 (.t 14)),iD 16 (.conv .u64 (.t 15)),iD 17 (.bin .xor (.t 11) (.t 16)),iD 18 (.bin .mul (.t 17) (.c (.int .u64 16777619))),iD 19 (.bin .rem (.t 18) (.c (.int .u64 4294967296))),iM 3 19])) (.region [ iM 9 4,iD 10 (.bin .add (.t 9) (cI 1)),iM 4 10])))))) (.seq (.region [ iM 20 3,iD 21 (.conv .u32 (.t 20)),iM 2 21]) .ret))))⟩
structure F_z2l (P : Program) where
 id : FuncId
 has : Has P id [] c_z2l
def c_z2q (f_z3h : FuncId) (f_z3i : FuncId) (f_z2d : FuncId) : AFunc := ⟨56,[.tmp 2],(.seq (.region [ iD 1 (.box (.t 0)),iD 2 (.move (cI 0))]) (.seq (.seq (.region [ iD 6 (.fieldAddr 0 (.t 1)),iD 7 (.load false 1 (.t 6)),iD 8 (.call f_z3h [(.t 7)]),iD 9 (.un .not (.t 8)),iM 10 9,⟨(some 11),.fieldAddr 1 (.t 1),some (some 10,false)⟩,⟨(some 12),.load false 1 (.t 11),some (some 10,false)⟩,⟨(some 13),.call f_z3i [(.t 12)],some (some 10,false)⟩,⟨(some 14),.un .not (.t 13),some (some 10,false)⟩,iD 15 (.pick (.t 10) (.c (.bool true)) (.t 14))]) (.cond (.t 15) (.seq (.region [ iD 2 (.move (cI 4))]) .ret) .skip)) (.seq (.seq (.region [ iD 16 (.fieldAddr 2 (.t 1)),iD 17 (.load false 1 (.t 16)),iD 18 (.len (.t 17)),iD 19 (.bin .gtr (.t 18) (cI 1024))]) (.cond (.t 19) (.seq (.region [ iD 2 (.move (cI 2))]) .ret) .skip)) (.seq (.seq (.region [ iD 3 (.move (cI 0))]) (.block 0 (.loop (.seq (.seq (.region [ iM 20 3,iD 21 (.fieldAddr 2 (.t 1)),iD 22 (.load false 1 (.t 21)),iD 23 (.len (.t 22)),iD 24 (.bin .lss (.t 20) (.t 23))]) (.cond (.t 24) .skip (.exit 0))) (.seq (.block 1 (.seq (.seq (.region [ iD 27 (.fieldAddr 2 (.t 1)),iD 28 (.load false 1 (.t 27)),iM 29 3,iD 30 (.indexAddr 3 (.t 28) (.t 29)),iD 31 (.fieldAddr 1 (.t 30)),iD 32 (.load false 1 (.t 31)),iD 33 (.bin .lss (.t 32) (cI 0)),iM 34 33,⟨(some 35),.fieldAddr 2 (.t 1),some (some 34,false)⟩,⟨(some 36),.load false 1 (.t 35),some (some 34,false)⟩,⟨(some 37),.move (.t 3),some (some 34,false)⟩,⟨(some 38),.indexAddr 3 (.t 36) (.t 37),some (some 34,false)⟩,⟨(some 39),.fieldAddr 1 (.t 38),some (some 34,false)⟩,⟨(some 40),.load false 1 (.t 39),some (some 34,false)⟩,⟨(some 41),.bin .gtr (.t 40) (cI 1073741824),some (some 34,false)⟩,iD 42 (.pick (.t 34) (.c (.bool true)) (.t 41))]) (.cond (.t 42) (.seq (.region [ iD 2 (.move (cI 1))]) .ret) .skip)) (.seq (.region [ iD 44 (.fieldAddr 2 (.t 1)),iD 45 (.load false 1 (.t 44)),iM 46 3,iD 47 (.indexAddr 3 (.t 45) (.t 46)),iD 48 (.fieldAddr 2 (.t 47)),iD 49 (.load false 1 (.t 48)),iD 50 (.call f_z2d [(.t 49)]),iM 43 50,iD 51 (.extract (.t 43) 0),iD 52 (.extract (.t 43) 1),iM 4 51,iM 5 52]) (.seq (.region [ iM 53 5,iD 54 (.bin .neq (.t 53) (cI 0))]) (.cond (.t 54) (.seq (.region [ iM 55 5,iM 2 55]) .ret) .skip))))) (.region [ iM 25 3,iD 26 (.bin .add (.t 25) (cI 1)),iM 3 26])))))) (.seq (.region [ iD 2 (.move (cI 0))]) .ret)))))⟩
structure F_z2q (P : Program) where
 id : FuncId
 z3h : F_z3h P
 z3i : F_z3i P
 z2d : F_z2d P
 has : Has P id [] (c_z2q z3h.id z3i.id z2d.id)
def c_z2r : AFunc := ⟨24,[.tmp 4],(.seq (.region [ iD 4 (.move (.c .nil))]) (.seq (.region [ iM 7 1,iD 8 (.mkSlice 1 1 [(.int .u8 0)] (.t 7) (.t 7)),iM 5 8]) (.seq (.seq (.region [ iM 9 1,iD 10 (.bin .sub (.t 9) (cI 1)),iM 6 10]) (.block 0 (.loop (.seq (.seq (.region [ iM 11 6,iD 12 (.bin .geq (.t 11) (cI 0))]) (.cond (.t 12) .skip (.exit 0))) (.seq (.block 1 (.seq (.region [ iM 15 5,iM 16 6,iM 17 0,iD 18 (.bin .rem (.t 17) (cI 256)),iD 19 (.conv .u8 (.t 18)),iD 20 (.indexAddr 1 (.t 15) (.t 16)),iN (.store 1 (.t 20) (.t 19))]) (.region [ iM 21 0,iD 22 (.bin .quo (.t 21) (cI 256)),iM 0 22]))) (.region [ iM 13 6,iD 14 (.bin .sub (.t 13) (cI 1)),iM 6 14])))))) (.seq (.region [ iM 23 5,iM 4 23]) .ret))))⟩
structure F_z2r (P : Program) where
 id : FuncId
 has : Has P id [] c_z2r
def c_z2n (f_z2q : FuncId) (f_z2r : FuncId) (f_z2d : FuncId) (f_z2l : FuncId) : AFunc := ⟨90,[.tmp 2,.tmp 3],(.seq (.region [ iD 1 (.box (.t 0)),iD 2 (.move (.c .nil)),iD 3 (.move (cI 0))]) (.seq (.seq (.region [ iD 10 (.load true 3 (.t 1)),iD 11 (.call f_z2q [(.t 10)]),iM 4 11]) (.seq (.region [ iM 12 4,iD 13 (.bin .neq (.t 12) (cI 0))]) (.cond (.t 13) (.seq (.region [ iM 14 4,iD 2 (.move (.c .nil)),iM 3 14]) .ret) .skip))) (.seq (.region [ iD 15 (.buildSliceO 1 4 [(.int .u8 0)] [(0,(.c (.int .u8 87))),(1,(.c (.int .u8 72))),(2,(.c (.int .u8 70))),(3,(.c (.int .u8 49)))]),iD 16 (.mark (.t 15)),iD 17 (.fieldAddr 0 (.t 1)),iD 18 (.load false 1 (.t 17)),iD 19 (.lenS (.t 18)),iD 20 (.conv .u8 (.t 19)),iD 21 (.buildSlice 1 1 [(.int .u8 0)] [(0,(.t 20))]),iD 22 (.append 1 1 [(.int .u8 0)] (.t 16) (.t 21)),iM 5 22]) (.seq (.draw [ jM 23 5,jD 24 (.fieldAddr 0 (.t 1)),jD 25 (.load false 1 (.t 24)),jD 26 (.append 1 1 [(.int .u8 0)] (.t 23) (.t 25)),jD 27 (.fieldAddr 1 (.t 1)),(iD 28 (.load false 1 (.t 27)),[11]),jD 29 (.lenS (.t 28)),jD 30 (.conv .u8 (.t 29)),jD 31 (.buildSlice 1 1 [(.int .u8 0)] [(0,(.t 30))]),jD 32 (.append 1 1 [(.int .u8 0)] (.t 26) (.t 31)),jM 5 32]) (.seq (.draw [ jM 33 5,jD 34 (.fieldAddr 1 (.t 1)),jD 35 (.load false 1 (.t 34)),jD 36 (.append 1 1 [(.int .u8 0)] (.t 33) (.t 35)),jD 37 (.fieldAddr 2 (.t 1)),(iD 38 (.load false 1 (.t 37)),[10]),(iD 39 (.len (.t 38)),[10]),jD 40 (.call f_z2r [(.t 39),(cI 2)]),jD 41 (.append 1 1 [(.int .u8 0)] (.t 36) (.t 40)),jM 5 41]) (.seq (.seq (.region [ iD 6 (.move (cI 0))]) (.block 0 (.loop (.seq (.seq (.region [ iM 42 6,iD 43 (.fieldAddr 2 (.t 1)),iD 44 (.load false 1 (.t 43)),iD 45 (.len (.t 44)),iD 46 (.bin .lss (.t 42) (.t 45))]) (.cond (.t 46) .skip (.exit 0))) (.seq (.block 1 (.seq (.region [ iD 49 (.fieldAddr 2 (.t 1)),iD 50 (.load false 1 (.t 49)),iM 51 6,iD 52 (.indexAddr 3 (.t 50) (.t 51)),iD 53 (.load true 3 (.t 52)),iD 7 (.alloc [(.bool false),(.int .i64 0),.nil]),iN (.store 3 (.t 7) (.t 53))]) (.seq (.seq (.region [ iD 54 (.fieldAddr 0 (.t 7)),iD 55 (.load false 1 (.t 54))]) (.cond (.t 55) (.region [ iM 56 5,iD 57 (.buildSlice 1 1 [(.int .u8 0)] [(0,(.c (.int .u8 1)))]),iD 58 (.append 1 1 [(.int .u8 0)] (.t 56) (.t 57)),iM 5 58]) (.region [ iM 59 5,iD 60 (.buildSlice 1 1 [(.int .u8 0)] [(0,(.c (.int .u8 0)))]),iD 61 (.append 1 1 [(.int .u8 0)] (.t 59) (.t 60)),iM 5 61]))) (.seq (.region [ iD 63 (.fieldAddr 2 (.t 7)),iD 64 (.load false 1 (.t 63)),iD 65 (.call f_z2d [(.t 64)]),iM 62 65,iD 66 (.extract (.t 62) 0),iD 67 (.extract (.t 62) 1),iM 8 66,iM 9 67]) (.seq (.region [ iM 68 5,iD 69 (.fieldAddr 1 (.t 7)),iD 70 (.load false 1 (.t 69)),iD 71 (.call f_z2r [(.t 70),(cI 4)]),iD 72 (.append 1 1 [(.int .u8 0)] (.t 68) (.t 71)),iM 73 8,iD 74 (.len (.t 73)),iD 75 (.call f_z2r [(.t 74),(cI 2)]),iD 76 (.append 1 1 [(.int .u8 0)] (.t 72) (.t 75)),iM 5 76]) (.region [ iM 77 5,iM 78 8,iD 79 (.append 1 1 [(.int .u8 0)] (.t 77) (.t 78)),iM 5 79])))))) (.region [ iM 47 6,iD 48 (.bin .add (.t 47) (cI 1)),iM 6 48])))))) (.seq (.region [ iM 80 5,iM 81 5,iD 82 (.call f_z2l [(.t 81)]),iD 83 (.conv .i64 (.t 82)),iD 84 (.call f_z2r [(.t 83),(cI 4)]),iD 85 (.append 1 1 [(.int .u8 0)] (.t 80) (.t 84)),iM 5 85]) (.seq (.seq (.region [ iM 86 5,iD 87 (.len (.t 86)),iD 88 (.bin .gtr (.t 87) (cI 65536))]) (.cond (.t 88) (.seq (.region [ iD 2 (.move (.c .nil)),iD 3 (.move (cI 2))]) .ret) .skip)) (.seq (.region [ iM 89 5,iM 2 89,iD 3 (.move (cI 0))]) .ret)))))))))⟩
structure F_z2n (P : Program) where
 id : FuncId
 z2q : F_z2q P
 z2r : F_z2r P
 z2d : F_z2d P
 z2l : F_z2l P
 has : Has P id [15] (c_z2n z2q.id z2r.id z2d.id z2l.id)
def c_z3y : AFunc := ⟨14,[.tmp 4],(.seq (.region [ iD 4 (.move (cI 0))]) (.seq (.seq (.region [ iM 5 1,iD 6 (.bin .lss (.t 5) (cI 1))]) (.cond (.t 6) (.seq (.region [ iD 4 (.move (cI 0))]) .ret) .skip)) (.seq (.region [ iM 7 0,iM 8 1,iD 9 (.bin .rem (.t 7) (.t 8)),iM 10 1,iD 11 (.bin .add (.t 9) (.t 10)),iM 12 1,iD 13 (.bin .rem (.t 11) (.t 12)),iM 4 13]) .ret)))⟩
structure F_z3y (P : Program) where
 id : FuncId
 has : Has P id [] c_z3y
def c_z3w (f_z3y : FuncId) : AFunc := ⟨8,[.tmp 2],(.seq (.region [ iD 2 (.move (.c (.str (bs []))))]) (.seq (.region [ iD 3 (.buildSlice 1 12 [(.str (bs []))] [(0,(.c (.str (bs [102,48])))),(1,(.c (.str (bs [102,49])))),(2,(.c (.str (bs [102,50])))),(3,(.c (.str (bs [102,51])))),(4,(.c (.str (bs [102,52])))),(5,(.c (.str (bs [102,53])))),(6,(.c (.str (bs [102,54])))),(7,(.c (.str (bs [102,55])))),(8,(.c (.str (bs [102,56])))),(9,(.c (.str (bs [102,57])))),(10,(.c (.str (bs [103,48])))),(11,(.c (.str (bs [103,49]))))]),iM 4 0,iD 5 (.call f_z3y [(.t 4),(cI 12)]),iD 6 (.indexAddr 1 (.t 3) (.t 5)),iD 7 (.load false 1 (.t 6)),iM 2 7]) .ret))⟩
structure F_z3w (P : Program) where
 id : FuncId
 z3y : F_z3y P
 has : Has P id [] (c_z3w z3y.id)
def c_z3q (f_z3y : FuncId) : AFunc := ⟨20,[.tmp 2],(.seq (.region [ iD 2 (.move (.c .nil))]) (.seq (.seq (.region [ iM 3 0,iD 4 (.call f_z3y [(.t 3),(cI 3)])]) (.block 0 (.seq (.region [ iD 6 (.bin .eql (.t 4) (cI 0)),iM 5 6]) (.cond (.t 5) (.seq (.region [ iD 7 (.build [(.str (bs [])),(.int .i64 0),(.bool false)] [(0,1,(.c (.str (bs [105,100])))),(1,1,(cI 2))]),iD 8 (.build [(.str (bs [])),(.int .i64 0),(.bool false)] [(0,1,(.c (.str (bs [110,97,109,101])))),(1,1,(cI 3)),(2,1,(.c (.bool true)))]),iD 9 (.build [(.str (bs [])),(.int .i64 0),(.bool false)] [(0,1,(.c (.str (bs [97,116])))),(1,1,(cI 4))]),iD 10 (.buildSlice 3 3 [(.str (bs [])),(.int .i64 0),(.bool false)] [(0,(.t 7)),(1,(.t 8)),(2,(.t 9))]),iM 2 10]) .ret) (.seq (.region [ iD 12 (.bin .eql (.t 4) (cI 1)),iM 11 12]) (.cond (.t 11) (.seq (.region [ iD 13 (.build [(.str (bs [])),(.int .i64 0),(.bool false)] [(0,1,(.c (.str (bs [97,116])))),(1,1,(cI 4)),(2,1,(.c (.bool true)))]),iD 14 (.build [(.str (bs [])),(.int .i64 0),(.bool false)] [(0,1,(.c (.str (bs [105,100])))),(1,1,(cI 2)),(2,1,(.c (.bool true)))]),iD 15 (.build [(.str (bs [])),(.int .i64 0),(.bool false)] [(0,1,(.c (.str (bs [111,107])))),(1,1,(cI 1))]),iD 16 (.buildSlice 3 3 [(.str (bs [])),(.int .i64 0),(.bool false)] [(0,(.t 13)),(1,(.t 14)),(2,(.t 15))]),iM 2 16]) .ret) .skip)))))) (.seq (.region [ iD 17 (.build [(.str (bs [])),(.int .i64 0),(.bool false)] [(0,1,(.c (.str (bs [110,97,109,101])))),(1,1,(cI 3))]),iD 18 (.build [(.str (bs [])),(.int .i64 0),(.bool false)] [(0,1,(.c (.str (bs [97,116])))),(1,1,(cI 2)),(2,1,(.c (.bool true)))]),iD 19 (.buildSlice 3 2 [(.str (bs [])),(.int .i64 0),(.bool false)] [(0,(.t 17)),(1,(.t 18))]),iM 2 19]) .ret)))⟩
structure F_z3q (P : Program) where
 id : FuncId
 z3y : F_z3y P
 has : Has P id [] (c_z3q z3y.id)
def c_z41 (f_z3q : FuncId) (f_z3y : FuncId) : AFunc := ⟨31,[.cell true 7 2],(.seq (.region [ iD 2 (.alloc [(.str (bs [])),.nil,.nil,(.str (bs [])),(.str (bs [])),(.int .i64 0),(.int .i64 0)])]) (.seq (.draw [ (iD 4 (.call f_z3q [(cI 0)]),[1]),(iD 5 (.buildSlice 1 1 [(.str (bs []))] [(0,(.c (.str (bs [105,100]))))]),[]),jD 6 (.buildSlice 1 4 [(.int .i64 0)] [(0,(cI 0)),(1,(cI 60)),(2,(cI 1440)),(3,(cI 3000))]),jM 7 0,(iD 8 (.call f_z3y [(.t 7),(cI 4)]),[1]),(iD 9 (.indexAddr 1 (.t 6) (.t 8)),[1]),(iD 10 (.load false 1 (.t 9)),[1]),jD 11 (.buildSlice 1 4 [(.int .i64 0)] [(0,(cI 0)),(1,(cI 100)),(2,(cI 1500)),(3,(cI 5000))]),jM 12 0,jD 13 (.bin .quo (.t 12) (cI 4)),(iD 14 (.call f_z3y [(.t 13),(cI 4)]),[1]),(iD 15 (.indexAddr 1 (.t 11) (.t 14)),[1]),(iD 16 (.load false 1 (.t 15)),[1]),(iD 17 (.build [(.str (bs [])),.nil,.nil,(.str (bs [])),(.str (bs [])),(.int .i64 0),(.int .i64 0)] [(0,1,(.c (.str (bs [115,104,111,112,46,111,114,100,101,114,115])))),(1,1,(.t 4)),(2,1,(.t 5)),(3,1,(.c (.str (bs [97,116])))),(4,1,(.c (.str (bs [122])))),(5,1,(.t 10)),(6,1,(.t 16))]),[]),jD 3 (.alloc [(.str (bs [])),.nil,.nil,(.str (bs [])),(.str (bs [])),(.int .i64 0),(.int .i64 0)]),(iN (.store 7 (.t 3) (.t 17)),[])]) (.seq (.seq (.region [ iM 18 0,iD 19 (.bin .quo (.t 18) (cI 16)),iD 20 (.call f_z3y [(.t 19),(cI 2)]),iD 21 (.bin .eql (.t 20) (cI 1))]) (.cond (.t 21) (.seq (.region [ iD 22 (.fieldAddr 1 (.t 3)),iD 23 (.load false 1 (.t 22)),iD 24 (.build [(.str (bs [])),(.int .i64 0),(.bool false)] [(0,1,(.c (.str (bs [112,97,114,116])))),(1,1,(cI 3))]),iD 25 (.buildSlice 3 1 [(.str (bs [])),(.int .i64 0),(.bool false)] [(0,(.t 24))]),iD 26 (.append 3 32 [(.str (bs [])),(.int .i64 0),(.bool false)] (.t 23) (.t 25)),iD 27 (.fieldAddr 1 (.t 3)),iN (.store 1 (.t 27) (.t 26))]) (.region [ iD 28 (.buildSlice 1 2 [(.str (bs []))] [(0,(.c (.str (bs [112,97,114,116])))),(1,(.c (.str (bs [105,100]))))]),iD 29 (.fieldAddr 2 (.t 3)),iN (.store 1 (.t 29) (.t 28))])) .skip)) (.seq (.region [ iD 30 (.load true 7 (.t 3)),iN (.store 7 (.t 2) (.t 30))]) .ret))))⟩
structure F_z41 (P : Program) where
 id : FuncId
 z3q : F_z3q P
 z3y : F_z3y P
 has : Has P id [] (c_z41 z3q.id z3y.id)
def c_z3x (f_z3y : FuncId) : AFunc := ⟨39,[.tmp 4],(.seq (.region [ iD 4 (.move (cI 0))]) (.seq (.seq (.draw [ jM 5 0,jD 6 (.nop (.t 5)),jD 7 (.fieldAddr 1 (.t 6)),jD 8 (.load false 1 (.t 7)),jM 9 0,jD 10 (.nop (.t 9)),jD 11 (.fieldAddr 0 (.t 10)),jD 12 (.load false 1 (.t 11)),jD 13 (.len (.t 12)),jD 14 (.bin .geq (.t 8) (.t 13)),jM 15 14,(⟨(some 16),.move (.t 1),some (some 15,false)⟩,[]),(⟨(some 17),.bin .lss (.t 16) (cI 1),some (some 15,false)⟩,[]),jD 18 (.pick (.t 15) (.c (.bool true)) (.t 17))]) (.cond (.t 18) (.seq (.region [ iD 4 (.move (cI 0))]) .ret) .skip)) (.seq (.region [ iM 19 0,iD 20 (.nop (.t 19)),iD 21 (.fieldAddr 1 (.t 20)),iD 22 (.load false 1 (.t 21)),iD 23 (.bin .add (.t 22) (cI 1)),iD 24 (.nop (.t 19)),iD 25 (.fieldAddr 1 (.t 24)),iN (.store 1 (.t 25) (.t 23))]) (.seq (.draw [ jM 26 0,jD 27 (.nop (.t 26)),jD 28 (.fieldAddr 0 (.t 27)),jD 29 (.load false 1 (.t 28)),jM 30 0,jD 31 (.nop (.t 30)),jD 32 (.fieldAddr 1 (.t 31)),jD 33 (.load false 1 (.t 32)),jD 34 (.bin .sub (.t 33) (cI 1)),jD 35 (.indexAddr 1 (.t 29) (.t 34)),jD 36 (.load false 1 (.t 35)),jM 37 1,jD 38 (.call f_z3y [(.t 36),(.t 37)]),jM 4 38]) .ret))))⟩
structure F_z3x (P : Program) where
 id : FuncId
 z3y : F_z3y P
 has : Has P id [] (c_z3x z3y.id)
def c_z3u : AFunc := ⟨17,[.tmp 0],(.seq (.region [ iD 0 (.move (.c .nil))]) (.seq (.region [ iD 3 (.buildSliceO 1 16 [(.int .i64 0)] [(0,(cI 0)),(1,(cI 719)),(2,(cI 1380)),(3,(cI 1400)),(4,(cI 1439)),(5,(cI 1440)),(6,(cI 1500)),(7,(cI 2000)),(8,(cI 2879)),(9,(cI 2880)),(10,(cI 4000)),(11,(cI 4320)),(12,(cI 5000)),(13,(cI 7199)),(14,(cI 7200)),(15,(cI 9000))]),iM 1 3]) (.seq (.seq (.region [ iD 2 (.move (cI 0))]) (.block 0 (.loop (.seq (.seq (.region [ iM 4 2,iM 5 1,iD 6 (.len (.t 5)),iD 7 (.bin .lss (.t 4) (.t 6))]) (.cond (.t 7) .skip (.exit 0))) (.seq (.block 1 (.region [ iM 10 1,iM 11 2,iD 12 (.indexAddr 1 (.t 10) (.t 11)),iD 13 (.load false 1 (.t 12)),iD 14 (.bin .add (.t 13) (cI 144000)),iD 15 (.indexAddr 1 (.t 10) (.t 11)),iN (.store 1 (.t 15) (.t 14))])) (.region [ iM 8 2,iD 9 (.bin .add (.t 8) (cI 1)),iM 2 9])))))) (.seq (.region [ iM 16 1,iM 0 16]) .ret))))⟩
structure F_z3u (P : Program) where
 id : FuncId
 has : Has P id [3] c_z3u
def c_z42 (f_z3x : FuncId) (f_z3u : FuncId) : AFunc := ⟨40,[.cell true 3 4],(.seq (.region [ iD 2 (.box (.t 0)),iD 4 (.alloc [(.int .i64 0),(.int .i64 0),(.str (bs []))])]) (.seq (.seq (.region [ iD 5 (.fieldAddr 2 (.t 2)),iD 6 (.load false 1 (.t 5)),iM 7 6,⟨(some 8),.move (.t 1),some (some 7,true)⟩,⟨(some 9),.call f_z3x [(.t 8),(cI 5)],some (some 7,true)⟩,⟨(some 10),.bin .eql (.t 9) (cI 0),some (some 7,true)⟩,iD 11 (.pick (.t 7) (.t 10) (.c (.bool false)))]) (.cond (.t 11) (.seq (.region [ iD 12 (.build [(.int .i64 0),(.int .i64 0),(.str (bs []))] []),iN (.store 3 (.t 4) (.t 12))]) .ret) .skip)) (.seq (.seq (.region [ iD 13 (.fieldAddr 1 (.t 2)),iD 14 (.load false 1 (.t 13))]) (.block 0 (.seq (.region [ iD 16 (.bin .eql (.t 14) (cI 1)),iM 15 16]) (.cond (.t 15) (.seq (.region [ iM 17 1,iD 18 (.call f_z3x [(.t 17),(cI 2)]),iD 19 (.build [(.int .i64 0),(.int .i64 0),(.str (bs []))] [(0,1,(cI 1)),(1,1,(.t 18))]),iN (.store 3 (.t 4) (.t 19))]) .ret) (.seq (.region [ iD 21 (.bin .eql (.t 14) (cI 2)),iM 20 21]) (.cond (.t 20) (.seq (.region [ iM 22 1,iD 23 (.call f_z3x [(.t 22),(cI 7)]),iD 24 (.bin .sub (.t 23) (cI 1)),iD 25 (.build [(.int .i64 0),(.int .i64 0),(.str (bs []))] [(0,1,(cI 2)),(1,1,(.t 24))]),iN (.store 3 (.t 4) (.t 25))]) .ret) (.seq (.region [ iD 27 (.bin .eql (.t 14) (cI 3)),iM 26 27]) (.cond (.t 26) (.seq (.region [ iD 28 (.buildSlice 1 5 [(.str (bs []))] [(0,(.c (.str (bs [])))),(1,(.c (.str (bs [97])))),(2,(.c (.str (bs [98])))),(3,(.c (.str (bs [105,116,39,115])))),(4,(.c (.str (bs [122,122]))))]),iM 29 1,iD 30 (.call f_z3x [(.t 29),(cI 5)]),iD 31 (.indexAddr 1 (.t 28) (.t 30)),iD 32 (.load false 1 (.t 31)),iD 33 (.build [(.int .i64 0),(.int .i64 0),(.str (bs []))] [(0,1,(cI 3)),(2,1,(.t 32))]),iN (.store 3 (.t 4) (.t 33))]) .ret) .skip)))))))) (.seq (.region [ iD 34 (.call f_z3u []),iM 35 1,iD 36 (.call f_z3x [(.t 35),(cI 16)]),iD 37 (.indexAddr 1 (.t 34) (.t 36)),iD 38 (.load false 1 (.t 37)),iD 39 (.build [(.int .i64 0),(.int .i64 0),(.str (bs []))] [(0,1,(cI 4)),(1,1,(.t 38))]),iN (.store 3 (.t 4) (.t 39))]) .ret))))⟩
structure F_z42 (P : Program) where
 id : FuncId
 z3x : F_z3x P
 z3u : F_z3u P
 has : Has P id [] (c_z42 z3x.id z3u.id)
def c_z40 (f_z42 : FuncId) : AFunc := ⟨23,[.tmp 4],(.seq (.region [ iD 4 (.move (.c .nil))]) (.seq (.region [ iD 5 (.move (.c .nil))]) (.seq (.seq (.region [ iD 6 (.move (cI 0))]) (.block 0 (.loop (.seq (.seq (.region [ iM 7 6,iM 8 0,iD 9 (.len (.t 8)),iD 10 (.bin .lss (.t 7) (.t 9))]) (.cond (.t 10) .skip (.exit 0))) (.seq (.block 1 (.region [ iM 13 5,iM 14 0,iM 15 6,iD 16 (.indexAddr 3 (.t 14) (.t 15)),iD 17 (.load true 3 (.t 16)),iM 18 1,iD 19 (.call f_z42 [(.t 17),(.t 18)]),iD 20 (.buildSlice 3 1 [(.int .i64 0),(.int .i64 0),(.str (bs []))] [(0,(.t 19))]),iD 21 (.append 3 32 [(.int .i64 0),(.int .i64 0),(.str (bs []))] (.t 13) (.t 20)),iM 5 21])) (.region [ iM 11 6,iD 12 (.bin .add (.t 11) (cI 1)),iM 6 12])))))) (.seq (.region [ iM 22 5,iM 4 22]) .ret))))⟩
structure F_z40 (P : Program) where
 id : FuncId
 z42 : F_z42 P
 has : Has P id [] (c_z40 z42.id)
def c_z2j : AFunc := ⟨18,[.tmp 4],(.seq (.region [ iD 4 (.move (.c (.bool false)))]) (.seq (.seq (.region [ iD 5 (.move (cI 0))]) (.block 0 (.loop (.seq (.seq (.region [ iM 6 5,iM 7 0,iD 8 (.len (.t 7)),iD 9 (.bin .lss (.t 6) (.t 8))]) (.cond (.t 9) .skip (.exit 0))) (.seq (.block 1 (.seq (.region [ iM 12 0,iM 13 5,iD 14 (.indexAddr 1 (.t 12) (.t 13)),iD 15 (.load false 1 (.t 14)),iM 16 1,iD 17 (.bin .eql (.t 15) (.t 16))]) (.cond (.t 17) (.seq (.region [ iD 4 (.move (.c (.bool true)))]) .ret) .skip))) (.region [ iM 10 5,iD 11 (.bin .add (.t 10) (cI 1)),iM 5 11])))))) (.seq (.region [ iD 4 (.move (.c (.bool false)))]) .ret)))⟩
structure F_z2j (P : Program) where
 id : FuncId
 has : Has P id [] c_z2j
def c_z3r (f_z2j : FuncId) : AFunc := ⟨51,[.cell true 3 4],(.seq (.region [ iD 2 (.box (.t 0)),iD 3 (.box (.t 1)),iD 4 (.alloc [(.bool false),(.int .i64 0),.nil])]) (.seq (.region [ iD 8 (.fieldAddr 1 (.t 3)),iD 9 (.load false 1 (.t 8)),iD 10 (.build [(.bool false),(.int .i64 0),.nil] [(0,1,(.c (.bool true))),(1,1,(.t 9))]),iD 5 (.alloc [(.bool false),(.int .i64 0),.nil]),iN (.store 3 (.t 5) (.t 10))]) (.seq (.seq (.region [ iD 6 (.move (cI 0))]) (.block 0 (.loop (.seq (.seq (.region [ iM 11 6,iD 12 (.fieldAddr 1 (.t 2)),iD 13 (.load false 1 (.t 12)),iD 14 (.len (.t 13)),iD 15 (.bin .lss (.t 11) (.t 14))]) (.cond (.t 15) .skip (.exit 0))) (.seq (.block 1 (.seq (.region [ iD 18 (.build [(.int .i64 0),(.int .i64 0),(.str (bs []))] []),iD 7 (.alloc [(.int .i64 0),(.int .i64 0),(.str (bs []))]),iN (.store 3 (.t 7) (.t 18))]) (.seq (.seq (.draw [ jD 19 (.fieldAddr 2 (.t 2)),jD 20 (.load false 1 (.t 19)),jD 21 (.fieldAddr 1 (.t 2)),jD 22 (.load false 1 (.t 21)),jM 23 6,jD 24 (.indexAddr 3 (.t 22) (.t 23)),jD 25 (.fieldAddr 0 (.t 24)),jD 26 (.load false 1 (.t 25)),jD 27 (.call f_z2j [(.t 20),(.t 26)]),jM 28 27,(⟨(some 29),.fieldAddr 1 (.t 2),some (some 28,false)⟩,[]),(⟨(some 30),.load false 1 (.t 29),some (some 28,false)⟩,[]),(⟨(some 31),.move (.t 6),some (some 28,false)⟩,[]),(⟨(some 32),.indexAddr 3 (.t 30) (.t 31),some (some 28,false)⟩,[]),(⟨(some 33),.fieldAddr 0 (.t 32),some (some 28,false)⟩,[]),(⟨(some 34),.load false 1 (.t 33),some (some 28,false)⟩,[]),(⟨(some 35),.fieldAddr 3 (.t 2),some (some 28,false)⟩,[]),(⟨(some 36),.load false 1 (.t 35),some (some 28,false)⟩,[]),(⟨(some 37),.bin .eql (.t 34) (.t 36),some (some 28,false)⟩,[]),jD 38 (.pick (.t 28) (.c (.bool true)) (.t 37))]) (.cond (.t 38) (.region [ iD 39 (.fieldAddr 2 (.t 3)),iD 40 (.load false 1 (.t 39)),iM 41 6,iD 42 (.indexAddr 3 (.t 40) (.t 41)),iD 43 (.load true 3 (.t 42)),iN (.store 3 (.t 7) (.t 43))]) .skip)) (.region [ iD 44 (.fieldAddr 2 (.t 5)),iD 45 (.load false 1 (.t 44)),iD 46 (.load true 3 (.t 7)),iD 47 (.buildSlice 3 1 [(.int .i64 0),(.int .i64 0),(.str (bs []))] [(0,(.t 46))]),iD 48 (.append 3 32 [(.int .i64 0),(.int .i64 0),(.str (bs []))] (.t 45) (.t 47)),iD 49 (.fieldAddr 2 (.t 5)),iN (.store 1 (.t 49) (.t 48))])))) (.region [ iM 16 6,iD 17 (.bin .add (.t 16) (cI 1)),iM 6 17])))))) (.seq (.region [ iD 50 (.load true 3 (.t 5)),iN (.store 3 (.t 4) (.t 50))]) .ret))))⟩
structure F_z3r (P : Program) where
 id : FuncId
 z2j : F_z2j P
 has : Has P id [] (c_z3r z2j.id)
def c_z3z (f_z3x : FuncId) (f_z40 : FuncId) (f_z3r : FuncId) : AFunc := ⟨52,[.cell true 3 4],(.seq (.region [ iD 2 (.box (.t 0)),iD 4 (.alloc [(.bool false),(.int .i64 0),.nil])]) (.seq (.draw [ jM 6 1,jD 7 (.callE f_z3x [(.t 6),(cI 4)]),jD 8 (.fieldAddr 1 (.t 2)),(iD 9 (.load false 1 (.t 8)),[9]),jM 10 1,jD 11 (.callE f_z40 [(.t 9),(.t 10)]),jD 12 (.build [(.bool false),(.int .i64 0),.nil] [(1,1,(.t 7)),(2,1,(.t 11))]),jD 5 (.alloc [(.bool false),(.int .i64 0),.nil]),(iN (.store 3 (.t 5) (.t 12)),[])]) (.seq (.seq (.seq (.region [ iM 13 1,iD 14 (.call f_z3x [(.t 13),(cI 24)])]) .ghost) (.block 0 (.seq (.seq (.region [ iD 16 (.bin .eql (.t 14) (cI 0)),iM 15 16]) (.cond (.t 15) .skip (.seq (.region [ iD 17 (.bin .eql (.t 14) (cI 1)),iM 15 17]) (.cond (.t 15) .skip (.seq (.region [ iD 18 (.bin .eql (.t 14) (cI 2)),iM 15 18]) (.cond (.t 15) .skip (.seq (.region [ iD 19 (.bin .eql (.t 14) (cI 3)),iM 15 19]) (.cond (.t 15) .skip (.region [ iD 20 (.bin .eql (.t 14) (cI 4)),iM 15 20]))))))))) (.cond (.t 15) (.region [ iD 21 (.load true 7 (.t 2)),iD 22 (.load true 3 (.t 5)),iD 23 (.call f_z3r [(.t 21),(.t 22)]),iN (.store 3 (.t 5) (.t 23))]) (.seq (.region [ iD 25 (.bin .eql (.t 14) (cI 5)),iM 24 25]) (.cond (.t 24) (.region [ iD 26 (.fieldAddr 0 (.t 5)),iN (.store 1 (.t 26) (.c (.bool true)))]) (.seq (.region [ iD 28 (.bin .eql (.t 14) (cI 6)),iM 27 28]) (.cond (.t 27) (.region [ iD 29 (.fieldAddr 2 (.t 5)),iD 30 (.load false 1 (.t 29)),iD 31 (.fieldAddr 2 (.t 5)),iD 32 (.load false 1 (.t 31)),iD 33 (.len (.t 32)),iD 34 (.bin .sub (.t 33) (cI 1)),iD 35 (.slice 3 (.t 30) none (some (.t 34))),iD 36 (.fieldAddr 2 (.t 5)),iN (.store 1 (.t 36) (.t 35))]) (.seq (.region [ iD 38 (.bin .eql (.t 14) (cI 7)),iM 37 38]) (.cond (.t 37) (.draw [ jD 39 (.fieldAddr 2 (.t 5)),(iD 40 (.load false 1 (.t 39)),[3]),jM 41 1,jD 42 (.fieldAddr 2 (.t 5)),jD 43 (.load false 1 (.t 42)),jD 44 (.len (.t 43)),jD 45 (.callE f_z3x [(.t 41),(.t 44)]),jD 46 (.build [(.int .i64 0),(.int .i64 0),(.str (bs []))] [(0,1,(cI 1)),(1,1,(cI 1))]),jD 47 (.indexAddr 3 (.t 40) (.t 45)),(iN (.store 3 (.t 47) (.t 46)),[])]) (.seq (.region [ iD 49 (.bin .eql (.t 14) (cI 8)),iM 48 49]) (.cond (.t 48) (.region [ iD 50 (.fieldAddr 1 (.t 5)),iN (.store 1 (.t 50) (.c (.int .i64 (-1))))]) .skip)))))))))))) (.seq (.region [ iD 51 (.load true 3 (.t 5)),iN (.store 3 (.t 4) (.t 51))]) .ret))))⟩
structure F_z3z (P : Program) where
 id : FuncId
 z3x : F_z3x P
 z40 : F_z40 P
 z3r : F_z3r P
 has : Has P id [7, 11, 45, 100014] (c_z3z z3x.id z40.id z3r.id)
def c_z3t (f_z3x : FuncId) (f_z3z : FuncId) : AFunc := ⟨32,[.cell true 3 8],(.seq (.region [ iD 5 (.box (.t 1)),iD 8 (.alloc [(.str (bs [])),(.str (bs [])),.nil])]) (.seq (.region [ iM 11 0,iD 12 (.fieldAddr 0 (.t 5)),iD 13 (.load false 1 (.t 12)),iD 14 (.build [(.str (bs [])),(.str (bs [])),.nil] [(0,1,(.t 11)),(1,1,(.t 13))]),iD 9 (.alloc [(.str (bs [])),(.str (bs [])),.nil]),iN (.store 3 (.t 9) (.t 14))]) (.seq (.seq (.region [ iM 15 2,iM 16 3,iD 17 (.bin .add (.t 16) (cI 1)),iD 18 (.call f_z3x [(.t 15),(.t 17)]),iM 10 18]) (.block 0 (.loop (.seq (.seq (.region [ iM 19 10,iD 20 (.bin .gtr (.t 19) (cI 0))]) (.cond (.t 20) .skip (.exit 0))) (.seq (.block 1 (.draw [ jD 23 (.fieldAddr 2 (.t 9)),(iD 24 (.load false 1 (.t 23)),[4]),jD 25 (.load true 7 (.t 5)),jM 26 2,jD 27 (.callE f_z3z [(.t 25),(.t 26)]),jD 28 (.buildSlice 3 1 [(.bool false),(.int .i64 0),.nil] [(0,(.t 27))]),jD 29 (.append 3 40 [(.bool false),(.int .i64 0),.nil] (.t 24) (.t 28)),jD 30 (.fieldAddr 2 (.t 9)),(iN (.store 1 (.t 30) (.t 29)),[])])) (.region [ iM 21 10,iD 22 (.bin .sub (.t 21) (cI 1)),iM 10 22])))))) (.seq (.region [ iD 31 (.load true 3 (.t 9)),iN (.store 3 (.t 8) (.t 31))]) .ret))))⟩
structure F_z3t (P : Program) where
 id : FuncId
 z3x : F_z3x P
 z3z : F_z3z P
 has : Has P id [27] (c_z3t z3x.id z3z.id)
def c_z2i : AFunc := ⟨26,[.tmp 4],(.seq (.region [ iD 4 (.move (.c (.bool false)))]) (.seq (.seq (.region [ iM 6 0,iD 7 (.len (.t 6)),iM 8 1,iD 9 (.len (.t 8)),iD 10 (.bin .neq (.t 7) (.t 9))]) (.cond (.t 10) (.seq (.region [ iD 4 (.move (.c (.bool false)))]) .ret) .skip)) (.seq (.seq (.region [ iD 5 (.move (cI 0))]) (.block 0 (.loop (.seq (.seq (.region [ iM 11 5,iM 12 0,iD 13 (.len (.t 12)),iD 14 (.bin .lss (.t 11) (.t 13))]) (.cond (.t 14) .skip (.exit 0))) (.seq (.block 1 (.seq (.draw [ jM 17 0,jM 18 5,jD 19 (.indexAddr 3 (.t 17) (.t 18)),jD 20 (.load true 3 (.t 19)),jM 21 1,jM 22 5,jD 23 (.indexAddr 3 (.t 21) (.t 22)),jD 24 (.load true 3 (.t 23)),jD 25 (.eqs true [1,1,2] (.t 20) (.t 24))]) (.cond (.t 25) (.seq (.region [ iD 4 (.move (.c (.bool false)))]) .ret) .skip))) (.region [ iM 15 5,iD 16 (.bin .add (.t 15) (cI 1)),iM 5 16])))))) (.seq (.region [ iD 4 (.move (.c (.bool true)))]) .ret))))⟩
structure F_z2i (P : Program) where
 id : FuncId
 has : Has P id [] c_z2i
def c_z2p (f_z2i : FuncId) : AFunc := ⟨24,[.tmp 4],(.seq (.region [ iD 2 (.box (.t 0)),iD 3 (.box (.t 1)),iD 4 (.move (.c (.bool false)))]) (.seq (.region [ iD 5 (.fieldAddr 0 (.t 2)),iD 6 (.load false 1 (.t 5)),iD 7 (.fieldAddr 0 (.t 3)),iD 8 (.load false 1 (.t 7)),iD 9 (.eqb false (.t 6) (.t 8)),iM 10 9,⟨(some 11),.fieldAddr 1 (.t 2),some (some 10,true)⟩,⟨(some 12),.load false 1 (.t 11),some (some 10,true)⟩,⟨(some 13),.fieldAddr 1 (.t 3),some (some 10,true)⟩,⟨(some 14),.load false 1 (.t 13),some (some 10,true)⟩,⟨(some 15),.bin .eql (.t 12) (.t 14),some (some 10,true)⟩,iD 16 (.pick (.t 10) (.t 15) (.c (.bool false))),iM 17 16,⟨(some 18),.fieldAddr 2 (.t 2),some (some 17,true)⟩,⟨(some 19),.load false 1 (.t 18),some (some 17,true)⟩,⟨(some 20),.fieldAddr 2 (.t 3),some (some 17,true)⟩,⟨(some 21),.load false 1 (.t 20),some (some 17,true)⟩,⟨(some 22),.call f_z2i [(.t 19),(.t 21)],some (some 17,true)⟩,iD 23 (.pick (.t 17) (.t 22) (.c (.bool false))),iM 4 23]) .ret))⟩
structure F_z2p (P : Program) where
 id : FuncId
 z2i : F_z2i P
 has : Has P id [] (c_z2p z2i.id)
def c_z2o (f_z2p : FuncId) : AFunc := ⟨46,[.tmp 4],(.seq (.region [ iD 2 (.box (.t 0)),iD 3 (.box (.t 1)),iD 4 (.move (.c (.bool false)))]) (.seq (.seq (.region [ iD 6 (.fieldAddr 0 (.t 2)),iD 7 (.load false 1 (.t 6)),iD 8 (.fieldAddr 0 (.t 3)),iD 9 (.load false 1 (.t 8)),iD 10 (.bin .neq (.t 7) (.t 9)),iM 11 10,⟨(some 12),.fieldAddr 1 (.t 2),some (some 11,false)⟩,⟨(some 13),.load false 1 (.t 12),some (some 11,false)⟩,⟨(some 14),.fieldAddr 1 (.t 3),some (some 11,false)⟩,⟨(some 15),.load false 1 (.t 14),some (some 11,false)⟩,⟨(some 16),.bin .neq (.t 13) (.t 15),some (some 11,false)⟩,iD 17 (.pick (.t 11) (.c (.bool true)) (.t 16)),iM 18 17,⟨(some 19),.fieldAddr 2 (.t 2),some (some 18,false)⟩,⟨(some 20),.load false 1 (.t 19),some (some 18,false)⟩,⟨(some 21),.len (.t 20),some (some 18,false)⟩,⟨(some 22),.fieldAddr 2 (.t 3),some (some 18,false)⟩,⟨(some 23),.load false 1 (.t 22),some (some 18,false)⟩,⟨(some 24),.len (.t 23),some (some 18,false)⟩,⟨(some 25),.bin .neq (.t 21) (.t 24),some (some 18,false)⟩,iD 26 (.pick (.t 18) (.c (.bool true)) (.t 25))]) (.cond (.t 26) (.seq (.region [ iD 4 (.move (.c (.bool false)))]) .ret) .skip)) (.seq (.seq (.region [ iD 5 (.move (cI 0))]) (.block 0 (.loop (.seq (.seq (.region [ iM 27 5,iD 28 (.fieldAddr 2 (.t 2)),iD 29 (.load false 1 (.t 28)),iD 30 (.len (.t 29)),iD 31 (.bin .lss (.t 27) (.t 30))]) (.cond (.t 31) .skip (.exit 0))) (.seq (.block 1 (.seq (.draw [ jD 34 (.fieldAddr 2 (.t 2)),jD 35 (.load false 1 (.t 34)),jM 36 5,jD 37 (.indexAddr 3 (.t 35) (.t 36)),jD 38 (.load true 3 (.t 37)),jD 39 (.fieldAddr 2 (.t 3)),jD 40 (.load false 1 (.t 39)),jM 41 5,jD 42 (.indexAddr 3 (.t 40) (.t 41)),jD 43 (.load true 3 (.t 42)),jD 44 (.call f_z2p [(.t 38),(.t 43)]),jD 45 (.un .not (.t 44))]) (.cond (.t 45) (.seq (.region [ iD 4 (.move (.c (.bool false)))]) .ret) .skip))) (.region [ iM 32 5,iD 33 (.bin .add (.t 32) (cI 1)),iM 5 33])))))) (.seq (.region [ iD 4 (.move (.c (.bool true)))]) .ret))))⟩
structure F_z2o (P : Program) where
 id : FuncId
 z2p : F_z2p P
 has : Has P id [] (c_z2o z2p.id)
variable [Draws]
open Go.RowKit
inductive Sh where
 | bool
 | int (k : IntKind)
 | str
 | slice (fs : List Sh)
def shapeFields (P : Program) (sh : TypeId → Option (List Sh)) : List Field → Nat → Option (List Sh)
 | [], _ => some []
 | f :: r, off => if f.offset = off then match sh f.type, shapeFields P sh r (off + P.cellsOf f.type) with
   | some a, some b => if a.length = P.cellsOf f.type then some (a ++ b) else none
   | _, _ => none
  else none
def shapeOf (P : Program) : Nat → TypeId → Option (List Sh)
 | 0, _ => none
 | n + 1, t => match P.underlying t with
  | some .bool => some [.bool]
  | some (.int k) => some [.int k]
  | some .string => some [.str]
  | some (.slice e) => match shapeOf P n e with
   | some l => if l.length = P.cellsOf e ∧ P.cellsOf e ≠ 0 then some [.slice l] else none
   | none => none
  | some (.struct fs) => match shapeFields P (shapeOf P n) fs.toList 0 with
   | some l => if l.length = P.cellsOf t then some l else none
   | none => none
  | _ => none
inductive ShOk : Sh → AVal → Prop where
 | bool (b : Bool) : ShOk .bool (.bool b)
 | int (k : IntKind) (n : Int) (h : (Lit.int k n).wf = true) : ShOk (.int k) (.int k n)
 | str (s : ByteArray) (h : s.size ≤ maxLen) : ShOk .str (.str s)
 | list (fs : List Sh) (es : List (List AVal)) (hb : es.length ≤ maxLen) (hl : ∀ e ∈ es, e.length = fs.length)
   (h : ∀ (e : List AVal) (i : Nat) (f : Sh) (d : AVal), e ∈ es → fs[i]? = some f → e[i]? = some d → ShOk f d) : ShOk (.slice fs) (.list false fs.length es)
def allC (w : World) (b : Nat) : Nat :=
 match w.heap[b]? with
 | some (.cells cells _ _) => cells.size
 | _ => 0
theorem allC_cell {w : World} {b i : Nat} {v : Value} (h : w.cell? ⟨b, i, none⟩ = some v) : i < allC w b := by
 unfold World.cell? at h
 unfold allC
 simp only [] at h
 split at h
 ·rename_i hh
  rw [hh]
  simp only []
  exact (Array.getElem?_eq_some_iff.1 h).1
 ·cases h
theorem ShOk.isCell {s : Sh} {a : AVal} (h : ShOk s a) : a.isCell = true := by cases h <;> rfl
section
variable {H : Type} {enc : TypeId × Value → H} {P : Program} {w : World} {spare : Nat → Bool} {held : Bool}
theorem cells?_get {a : Addr} {n : Nat} {cs : List Value} (h : w.cells? 0 a n = some cs) : cs.length = n ∧ ∀ i, i < n → w.cell? (a.add i) = cs[i]? := by
 unfold World.cells? at h
 rw [if_pos (Nat.zero_le _)] at h
 exact ⟨by simpa using Go.mapM_some_length h, fun i hi => Go.mapM_some_get h i i (by simp [hi])⟩
def RdAll (w : World) (shs : List Sh) (cs : List Value) : Prop :=
 ∃ asv : List AVal, asv.length = cs.length ∧ shs.length = cs.length ∧ (∀ (i : Nat) (s : Sh) (a : AVal), shs[i]? = some s → asv[i]? = some a → ShOk s a) ∧
  ∀ (i : Nat) (a : AVal) (c : Value), asv[i]? = some a → cs[i]? = some c → Rd (allC w) w a c
theorem RdAll.one {s : Sh} {a : AVal} {c : Value} (h : ShOk s a) (hr : Rd (allC w) w a c) : RdAll w [s] [c] := by
 refine ⟨[a], rfl, rfl, fun i s' a' h1 h2 => ?_, fun i a' c' h1 h2 => ?_⟩
 ·cases i with
  | zero => simp at h1 h2; subst h1 h2; exact h
  | succ i => simp at h1
 ·cases i with
  | zero => simp at h1 h2; subst h1 h2; exact hr
  | succ i => simp at h1
theorem RdAll.append {s1 s2 : List Sh} {c1 c2 : List Value} (h1 : RdAll w s1 c1) (h2 : RdAll w s2 c2) : RdAll w (s1 ++ s2) (c1 ++ c2) := by
 obtain ⟨a1, l1, m1, o1, r1⟩ := h1
 obtain ⟨a2, l2, m2, o2, r2⟩ := h2
 refine ⟨a1 ++ a2, by simp [l1, l2], by simp [m1, m2], fun i s a hs ha => ?_, fun i a c ha hc => ?_⟩
 ·by_cases hi : i < c1.length
  ·rw [List.getElem?_append_left (by omega)] at hs ha
   exact o1 i s a hs ha
  ·rw [List.getElem?_append_right (by omega)] at hs ha
   rw [m1] at hs; rw [l1] at ha
   exact o2 _ s a hs ha
 ·by_cases hi : i < c1.length
  ·rw [List.getElem?_append_left (by omega)] at ha hc
   exact r1 i a c ha hc
  ·rw [List.getElem?_append_right (by omega)] at ha hc
   rw [l1] at ha
   exact r2 _ a c ha hc
theorem RdAll.nil : RdAll w [] [] := ⟨[], rfl, rfl, fun i s a h => by simp at h, fun i a c h => by simp at h⟩
theorem open_fields {sh : TypeId → Option (List Sh)} (tr : Field → List Value → Prop) (htr : ∀ (f : Field) (cs : List Value) (l : List Sh), tr f cs → sh f.type = some l → RdAll w l cs) (cs : List Value) :
  ∀ (fs : List Field) (off : Nat) (l : List Sh), shapeFields P sh fs off = some l → (∀ f ∈ fs, tr f ((cs.drop f.offset).take (P.cellsOf f.type))) → off + l.length = cs.length → RdAll w l (cs.drop off)
 | [], off, l, h, _, hl => by
  simp only [shapeFields, Option.some.injEq] at h; subst h
  have : cs.drop off = [] := List.drop_eq_nil_of_le (by simp at hl; omega)
  rw [this]; exact .nil
 | f :: r, off, l, h, ht, hl => by
  simp only [shapeFields] at h
  split at h
  case isFalse => cases h
  rename_i ho
  split at h
  case h_2 => cases h
  rename_i a b h1 h2
  split at h
  case isFalse => cases h
  rename_i hlen
  cases h
  have hf := htr f _ _ (ht f (by simp)) h1
  have hr := open_fields tr htr cs r _ _ h2 (fun g hg => ht g (by simp [hg])) (by simp at hl; omega)
  rw [ho] at hf
  have := hf.append hr
  rwa [← List.drop_drop, List.take_append_drop] at this
theorem open_shape : ∀ (n : Nat) (fuel : Nat) (t : TypeId) (cs : List Value) (x : DataW H × List MemPlace) (l : List Sh), shapeOf P n t = some l → DataW.trod enc P w 0 spare held fuel t cs = some x → RdAll w l cs
 | 0, _, _, _, _, _, h, _ => by simp [shapeOf] at h
 | n + 1, fuel, t, cs, x, l, h, ht => by
  unfold shapeOf at h
  split at h
  ·rename_i hu
   cases h
   cases fuel with
   | zero => simp [DataW.trod] at ht
   | succ m =>
    unfold DataW.trod at ht
    rw [hu] at ht
    split at ht <;> simp_all
    exact .one (.bool _) (.bool _)
  ·rename_i k hu
   cases h
   cases fuel with
   | zero => simp [DataW.trod] at ht
   | succ m =>
    unfold DataW.trod at ht
    rw [hu] at ht
    split at ht <;> simp_all
    obtain ⟨⟨rfl, hw⟩, _⟩ := ht
    exact .one (.int _ _ hw) (.int _ _)
  ·rename_i hu
   cases h
   cases fuel with
   | zero => simp [DataW.trod] at ht
   | succ m =>
    unfold DataW.trod at ht
    rw [hu] at ht
    split at ht <;> simp_all
    exact .one (.str _ ht.1) (.str _)
  ·rename_i e hu
   split at h
   case h_2 => cases h
   rename_i fs hfs
   split at h
   case isFalse => cases h
   rename_i hlen'
   cases h
   have hlen := hlen'.1
   rcases DataW.trod_slice hu ht with ⟨rfl, _⟩ | ⟨a, len, cap, elems, rest, m, rfl, rfl, _, _, hl, hm, hel, hcell, _, _⟩
   ·have hes : ShOk (.slice fs) (.list false fs.length []) := .list fs [] (Nat.zero_le _) (by simp) (by simp)
    exact .one hes (.list0 _ _ _ _ (by simp))
   ·obtain ⟨b, off, spot⟩ := a
    have each : ∀ i, i < len → ∃ cells, w.cells? 0 ((Addr.mk b off spot).add (i * P.cellsOf e)) (P.cellsOf e) = some cells ∧ RdAll w fs cells := by
     intro i hi
     have h1 := hcell i hi
     rw [List.getElem?_eq_getElem (by omega), Option.bind_eq_some_iff] at h1
     obtain ⟨cells, h2, h3⟩ := h1
     exact ⟨cells, h2, open_shape n m e cells _ fs hfs h3⟩
    by_cases h0 : len = 0
    ·subst h0
     have hes : ShOk (.slice fs) (.list false fs.length []) := .list fs [] (Nat.zero_le _) (by simp) (by simp)
     exact .one hes (.list0 _ _ _ _ (by simp))
    ·by_cases hz : P.cellsOf e = 0
     ·exact absurd hz hlen'.2
     ·have hspot : spot = none := by
       obtain ⟨cells, h1, _⟩ := each 0 (by omega)
       obtain ⟨h2, h3⟩ := cells?_get h1
       have h4 := h3 0 (by omega)
       rw [List.getElem?_eq_getElem (by omega)] at h4
       have := World.cell?_spot h4
       simpa [Addr.add] using this
      subst hspot
      
      have hch : ∃ F : Nat → List AVal, ∀ i, i < len → (F i).length = fs.length ∧ (∀ (j : Nat) (s : Sh) (a : AVal), fs[j]? = some s → (F i)[j]? = some a → ShOk s a) ∧
        ∃ cells : List Value, cells.length = fs.length ∧ (∀ j, j < fs.length → w.cell? ⟨b, off + i * fs.length + j, none⟩ = cells[j]?) ∧ ∀ (j : Nat) (a : AVal) (c : Value), (F i)[j]? = some a → cells[j]? = some c → Rd (allC w) w a c := by
       refine ⟨fun i => if hi : i < len then Classical.choose (each i hi).choose_spec.2 else [], fun i hi => ?_⟩
       obtain ⟨h1, h2, h3, h4⟩ := Classical.choose_spec (each i hi).choose_spec.2
       have hc := (each i hi).choose_spec.1
       obtain ⟨h5, h6⟩ := cells?_get hc
       simp only [dif_pos hi]
       refine ⟨by omega, h3, (each i hi).choose, by omega, fun j hj => ?_, h4⟩
       rw [← h6 j (by omega)]
       rw [WideShapes.add_plain, WideShapes.add_plain, hlen]
      obtain ⟨F, hF⟩ := hch
      have hget : ∀ (i : Nat) (e' : List AVal), ((List.range len).map F)[i]? = some e' → i < len ∧ e' = F i := by
       intro i e' he
       by_cases hi : i < len
       ·simp [hi] at he; exact ⟨hi, he.symm⟩
       ·simp [hi] at he
      refine .one (a := .list false fs.length ((List.range len).map F)) (.list _ _ (by simp; omega) (fun e' he' => ?_) fun e' i f d he' hf hd => ?_) ?_
      ·obtain ⟨i, hi, rfl⟩ := List.mem_map.1 he'
       exact (hF i (by simpa using hi)).1
      ·obtain ⟨i', hi', rfl⟩ := List.mem_map.1 he'
       exact (hF i' (by simpa using hi')).2.1 i f d hf hd
      ·have hcellv : ∀ i j, i < len → j < fs.length → ∃ v, w.cell? ⟨b, off + i * fs.length + j, none⟩ = some v := by
        intro i j hi hj
        obtain ⟨_, _, cells, h1, h2, _⟩ := hF i hi
        exact ⟨cells[j], by rw [h2 j hj, List.getElem?_eq_getElem (by omega)]⟩
       have := Rd.list (C := allC w) (w := w) false fs.length ((List.range len).map F) b off cap (fun i j => (w.cell? ⟨b, off + i * fs.length + j, none⟩).getD .nilIface) (by simp) (by simpa using hl)
        (fun e' he' => by obtain ⟨i, hi, rfl⟩ := List.mem_map.1 he'; exact (hF i (by simpa using hi)).1) ?_ ?_ ?_ ?_
       ·simpa using this
       ·obtain ⟨v, hv⟩ := hcellv (len - 1) (fs.length - 1) (by omega) (by omega)
        have h1 := allC_cell hv
        simp only [List.length_map, List.length_range]
        have h2 : len * fs.length = (len - 1) * fs.length + fs.length := by
         rw [← Nat.succ_mul]; congr 1; omega
        omega
       ·intro i j hi hj
        obtain ⟨v, hv⟩ := hcellv i j (by simpa using hi) hj
        rw [hv]; rfl
       ·intro i j e' d he hd
        obtain ⟨hi, rfl⟩ := hget i e' he
        have hj : j < fs.length := by rw [← (hF i hi).1]; exact (List.getElem?_eq_some_iff.1 hd).1
        exact ((hF i hi).2.1 j _ d (List.getElem?_eq_getElem hj) hd).isCell
       ·intro i j e' d he hd
        obtain ⟨hi, rfl⟩ := hget i e' he
        have hj : j < fs.length := by rw [← (hF i hi).1]; exact (List.getElem?_eq_some_iff.1 hd).1
        obtain ⟨_, _, cells, h1, h2, h3⟩ := hF i hi
        refine h3 j d _ hd ?_
        rw [← h2 j hj]
        obtain ⟨v, hv⟩ := hcellv i j hi hj
        rw [hv]; rfl
  ·rename_i fs hu
   split at h
   case h_2 => cases h
   rename_i l' hl'
   split at h
   case isFalse => cases h
   rename_i hll
   cases h
   obtain ⟨xs, m, rfl, _, hlen, hxs, hf⟩ := DataW.trod_struct hu ht
   have := open_fields (P := P) (w := w) (sh := shapeOf P n) (fun f cs => ∃ y, DataW.trod enc P w 0 spare held m f.type cs = some y) (fun f cs l' ⟨y, hy⟩ hl => open_shape n m f.type cs y l' hl hy) cs fs.toList 0 _ hl' ?_ ?_
   ·simpa using this
   ·intro f hfm
    obtain ⟨i, hi, he⟩ := List.getElem_of_mem hfm
    have h1 := hf i f (by rw [← he]; simp)
    exact ⟨xs[i]'(by simp at hi; omega), by rw [h1]; exact List.getElem?_eq_getElem _⟩
   ·omega
  ·cases h
end
open Go.RowKit Go.ChangeShapes
def paramSh (P : Program) (n : Nat) (t : TypeId) : Option (Bool × List Sh) :=
 match P.underlying t with
 | some (.struct _) => (shapeOf P n t).map fun l => (true, l)
 | some (.array _ _) => none
 | _ => match shapeOf P n t with
  | some [s] => some (false, [s])
  | _ => none
def ArgOk : Bool × List Sh → AVal → Prop
 | (true, l), a => ∃ asv, a = .agg asv ∧ asv.length = l.length ∧ ∀ (i : Nat) (s : Sh) (c : AVal), l[i]? = some s → asv[i]? = some c → ShOk s c
 | (false, l), a => ∃ s, l = [s] ∧ ShOk s a
def ArgsOk : List (Bool × List Sh) → List AVal → Prop
 | [], [] => True
 | p :: ps, a :: asv => ArgOk p a ∧ ArgsOk ps asv
 | _, _ => False
def paramShs (P : Program) (n : Nat) : List TypeId → Option (List (Bool × List Sh))
 | [] => some []
 | t :: ts => match paramSh P n t, paramShs P n ts with
  | some p, some ps => some (p :: ps)
  | _, _ => none
section
variable {H : Type} {enc : TypeId × Value → H} {P : Program} {w : World} {τ : Nat → Option Loc}
theorem open_arg {n : Nat} {t : TypeId} {v : Value} {d : DataW H} {ps : List MemPlace} {p : Bool × List Sh} {base : Nat} (hp : paramSh P n t = some p) (hv : Value.okWide P w .any base t v)
  (h : DataW.Trod enc P w 0 (fun _ => true) true t v d ps) : ∃ a, ArgOk p a ∧ Rel (allC w) w τ [] a v := by
 obtain ⟨fuel, hf⟩ := h
 unfold paramSh at hp
 split at hp
 ·rename_i fs hu
  simp only [Option.map_eq_some_iff] at hp
  obtain ⟨l, hl, rfl⟩ := hp
  obtain ⟨asv, h1, h2, h3, h4⟩ := open_shape n fuel t _ _ l hl hf
  unfold Value.okWide at hv
  rw [hu] at hv
  obtain ⟨cs, rfl, _⟩ := hv
  simp only [Value.cells] at h1 h2 h4
  exact ⟨.agg asv, ⟨asv, rfl, by omega, h3⟩, .agg asv cs (by simpa using h1) fun i c v hc hv => .rd (h4 i c v hc (by simpa using hv))⟩
 ·cases hp
 ·rename_i hns hna
  split at hp
  case h_2 => cases hp
  rename_i s hl
  cases hp
  obtain ⟨asv, h1, h2, h3, h4⟩ := open_shape n fuel t _ _ _ hl hf
  have hvc : v.cells.toList = [v] := by
   have : ∀ cs, v ≠ .agg cs := by
    rintro cs rfl
    unfold Value.okWide at hv
    split at hv
    ·rename_i fs hu; exact hns fs hu
    ·rename_i k e hu; exact hna k e hu
    ·unfold Cell.okWide at hv
     split at hv <;> simp_all [Cell.ok]
   cases v <;> first | rfl | exact absurd rfl (this _)
  rw [hvc] at h1 h2 h4
  obtain ⟨a, rfl⟩ := List.length_eq_one_iff.1 h1
  exact ⟨a, ⟨s, rfl, h3 0 s a rfl rfl⟩, .rd (h4 0 a v rfl rfl)⟩
theorem open_args {n : Nat} {base : Nat} : ∀ (ts : List TypeId) (vs : List Value) (ds : List (DataW H)) (ps : List MemPlace) (shs : List (Bool × List Sh)), paramShs P n ts = some shs →
  (∀ (j : Nat) (t : TypeId) (v : Value), ts[j]? = some t → vs[j]? = some v → Value.okWide P w .any base t v) →
  DataW.TrodAll enc P w 0 (fun _ => true) true ts vs ds ps → ∃ asv, ArgsOk shs asv ∧ asv.length = vs.length ∧ ∀ (i : Nat) (a : AVal) (v : Value), asv[i]? = some a → vs[i]? = some v → Rel (allC w) w τ [] a v
 | [], vs, ds, ps, shs, hs, hv, h => by
  obtain ⟨rfl, rfl, rfl⟩ := trodAll_nil h
  simp only [paramShs, Option.some.injEq] at hs; subst hs
  exact ⟨[], trivial, rfl, fun i a v h => by simp at h⟩
 | t :: ts, vs, ds, ps, shs, hs, hv, h => by
  obtain ⟨v, vs', d, ds', p, q, rfl, rfl, rfl, h1, h2⟩ := trodAll_cons h
  simp only [paramShs] at hs
  split at hs
  case h_2 => cases hs
  rename_i sh shs' e1 e2
  cases hs
  obtain ⟨a, ha, hr⟩ := open_arg (τ := τ) e1 (hv 0 t v rfl rfl) h1
  obtain ⟨asv, has, hl, hrs⟩ := open_args ts vs' ds' q shs' e2 (fun j t' v' ht hv' => hv (j + 1) t' v' (by simpa using ht) (by simpa using hv')) h2
  refine ⟨a :: asv, ⟨ha, has⟩, by simp [hl], fun i a' v' h1 h2 => ?_⟩
  cases i with
  | zero => simp at h1 h2; subst h1 h2; exact hr
  | succ i => exact hrs i a' v' (by simpa using h1) (by simpa using h2)
theorem trodAll_below (hl : laidOutB P = true) {W W' : World} (hb : Below W.heap.size W W') : ∀ (ts : List TypeId) (vs : List Value) (ds : List (DataW H)) (ps : List MemPlace),
  (∀ t ∈ ts, P.readableRec t = true ∧ t < P.types.size) → DataW.TrodAll enc P W 0 (fun _ => true) true ts vs ds ps →
  DataW.TrodAll enc P W' 0 (fun b => decide (b < W.heap.size)) true ts vs ds ps
 | [], vs, ds, ps, _, h => by obtain ⟨rfl, rfl, rfl⟩ := trodAll_nil h; exact trodAll_mk0
 | t :: ts, vs, ds, ps, hr, h => by
  obtain ⟨v, vs', d, ds', p, q, rfl, rfl, rfl, h1, h2⟩ := trodAll_cons h
  have hlt : ∀ x ∈ p, x.block < W.heap.size := by obtain ⟨m, hm⟩ := h1; exact DataW.trod_lt m _ _ _ hm
  exact trodAll_cons_mk (Below.trod hl (hr t (by simp)).1 (hr t (by simp)).2 h1 hb hlt) (trodAll_below hl hb ts vs' ds' q (fun t' ht => hr t' (by simp [ht])) h2)
theorem calls_of_law {f : FuncId} {fn : Func} {c : Code} {args : Array Value} {asv : List AVal} (hfn : P.funcs[f]? = some fn) (hname : (fn.name == "runtime.NumGoroutine") = false) (hbody : fn.body = some c)
  (hlen : asv.length = args.size) (hrel : ∀ (i : Nat) (a : AVal) (v : Value), asv[i]? = some a → args[i]? = some v → Rel (allC w) w (fun _ => none) [] a v)
  (hlaw : ACalls P f asv [] (fun r _ => r = .bool true)) :
  Calls P f args w fun e w' => e = .returned (.bool true) ∧ Below w.heap.size w w' := by
 have hwf : WF (allC w) (fun _ => none) [] w := by
  refine ⟨fun id o h => by simp at h, fun id o h => by simp at h, fun id o l h => by simp at h, fun id l h => by simp at h, fun i j li lj h => by simp at h, fun b hb => ?_⟩
  unfold allC at hb
  split at hb
  ·rename_i h
   exact lt_of_heap h
  ·omega
 have h := hlaw (allC w) (fun _ => none) w args hwf hlen hrel
 have hcall : (callFunc f args).run P w = .ok (.enter f args) w := by
  simp only [callFunc, Sem.run_bind, run_program, Result.andThen_ok, hfn, hname, Bool.false_eq_true, if_false, hbody, Option.isNone_some, Sem.run_pure]
 unfold CallsX at h
 rw [hcall] at h
 refine Calls.mono h fun e w' => ?_
 rintro ⟨v, r, C', τ', H', rfl, rfl, hr, hst, hstep⟩
 refine ⟨?_, hst.fr.os, hst.fr.tape, hst.fr.output, hst.fr.size, fun k hk => hst.fr.prot k ⟨hk, ?_⟩⟩
 ·cases hr with
  | rd hr => cases hr; rfl
 ·rintro ⟨id, l, h1, _⟩
  exact absurd h1 (Nat.not_lt_zero _)
set_option maxRecDepth 100000 in
theorem lifted_of_law {C : Checked} {os : Os} {f : FuncId} {fn : Func} {s : ChangeSpec} {ob : List Nat} {af : AFunc} {n tb : Nat} {shs : List (Bool × List Sh)}
  (own : ownKnob C.prog.godebug = none) (started : os.Started) (noInit : C.prog.inits.idxOf? f = none) (hfn : C.prog.funcs[f]? = some fn)
  (witness : ∃ (w : World) (tape : Tape) (i : Input), w.os = os ∧ (w.forCall tape i).Shaped C.prog ∧ i.vars = [] ∧ Input.okWide C.prog (w.forCall tape i) .any w.heap.size f i ∧
   s.pre6 enc C.prog fn [] false (w.forCall tape i).memory i.args ∧ ({} : Assume).holds C.prog (lone (Frame.enter C.prog f i.args .normal) [] (w.forCall tape i)))
  (laid : laidOutB C.prog = true) (hread : (fn.params.toList.all fun t => C.prog.readableRec t && decide (t < C.prog.types.size)) = true)
  (hs : ∀ (ds : List (DataW H)), ds.length = fn.params.size → s.fn H ds = { results := [.lit (.bool true)], args := ds }) (hvars : s.vars = [])
  (hres : fn.resultTypes = #[tb]) (htb : C.prog.underlying tb = some .bool) (hsh : paramShs C.prog n fn.params.toList = some shs) (hhas : Has C.prog f ob af)
  (hlaw : ∀ asv, ArgsOk shs asv → ACalls C.prog f asv [] (fun r _ => r = .bool true)) :
  ReturnsInHanded {} C os f .any (s.pre6 enc C.prog fn [] false) (s.post enc C.prog fn false true false false) := by
 refine returnsInHanded_of_change (C := C) own started noInit hfn witness ?_
 intro W base args ds gs before hval hW _ _
 have hW' := hW
 obtain ⟨p, q, hA, hV, rfl, _, _⟩ := hW
 rw [hvars] at hV
 obtain ⟨rfl, rfl⟩ := trodVars_none hV
 obtain ⟨asv, has, hlen, hrel⟩ := open_args (τ := fun _ => none) (n := n) fn.params.toList args.toList ds p shs hsh (fun j t v h1 h2 => hval j t v (by simpa using h1) (by simpa using h2)) hA
 obtain ⟨fn', c, hfn', hname, hbody, _⟩ := hhas
 have e : fn' = fn := Option.some.inj (hfn'.symm.trans hfn)
 subst e
 have hlds : ds.length = fn'.params.size := by
  have : ∀ (ts : List TypeId) (vs : List Value) (ds : List (DataW H)) (ps : List MemPlace), DataW.TrodAll enc C.prog W 0 (fun _ => true) true ts vs ds ps → ds.length = ts.length := by
   intro ts
   induction ts with
   | nil => intro vs ds ps h; obtain ⟨_, rfl, _⟩ := trodAll_nil h; rfl
   | cons t ts ih =>
    intro vs ds ps h
    obtain ⟨_, _, _, _, _, _, _, rfl, _, _, h2⟩ := trodAll_cons h
    simp [ih _ _ _ h2]
  simpa using this _ _ _ _ hA
 refine (calls_of_law hfn hname hbody (by simpa using hlen) (fun i a v h1 h2 => hrel i a v h1 (by simpa using h2)) (hlaw asv has)).mono fun e W' ⟨he, bel⟩ => ?_
 subst he
 refine ⟨_, rfl, ds, [], _, [], p, [], hW', ?_, ?_, ?_, bel.frame _, fun h => by cases h⟩
 ·rw [List.append_nil, hs ds hlds, hres]
  exact trodAll_mk1 (shut_bool htb _)
 ·rw [List.append_nil, hs ds hlds]
  refine trodAll_below laid bel _ _ _ _ (fun t ht => ?_) hA
  have := List.all_eq_true.1 hread t ht
  simpa using this
 ·rw [List.append_nil, hs ds hlds, hvars]
  rfl
end
theorem argsOk_cons {p : Bool × List Sh} {ps : List (Bool × List Sh)} {asv : List AVal} (h : ArgsOk (p :: ps) asv) : ∃ a as', asv = a :: as' ∧ ArgOk p a ∧ ArgsOk ps as' := by
 cases asv with
 | nil => exact h.elim
 | cons a asv => exact ⟨a, asv, rfl, h.1, h.2⟩
theorem argsOk_nil {asv : List AVal} (h : ArgsOk [] asv) : asv = [] := by
 cases asv with
 | nil => rfl
 | cons a asv => exact h.elim
theorem argOk_int {k : IntKind} {a : AVal} (h : ArgOk (false, [.int k]) a) : ∃ n, a = .int k n ∧ (Lit.int k n).wf = true := by
 obtain ⟨s, h1, h2⟩ := h
 cases h1
 cases h2 with
 | int _ n h => exact ⟨n, rfl, h⟩
def CellsOk : List Sh → List AVal → Prop
 | [], [] => True
 | s :: ss, a :: asv => ShOk s a ∧ CellsOk ss asv
 | _, _ => False
theorem cellsOk_of : ∀ (l : List Sh) (asv : List AVal), asv.length = l.length → (∀ (i : Nat) (s : Sh) (c : AVal), l[i]? = some s → asv[i]? = some c → ShOk s c) → CellsOk l asv
 | [], [], _, _ => trivial
 | s :: l, a :: asv, hl, h => ⟨h 0 s a rfl rfl, cellsOk_of l asv (by simpa using hl) fun i s c h1 h2 => h (i + 1) s c (by simpa using h1) (by simpa using h2)⟩
 | [], _ :: _, hl, _ => by simp at hl
 | _ :: _, [], hl, _ => by simp at hl
theorem shOk_slice {fs : List Sh} {a : AVal} (h : ShOk (.slice fs) a) : ∃ es, a = .list false fs.length es ∧ es.length ≤ maxLen ∧ ∀ e ∈ es, CellsOk fs e := by
 cases h with
 | list _ es hb hl h => exact ⟨es, rfl, hb, fun e he => cellsOk_of _ _ (hl e he) fun i s c h1 h2 => h e i s c he h1 h2⟩
theorem argOk_slice {fs : List Sh} {a : AVal} (h : ArgOk (false, [.slice fs]) a) : ∃ es, a = .list false fs.length es ∧ es.length ≤ maxLen ∧ ∀ e ∈ es, CellsOk fs e := by
 obtain ⟨s, h1, h2⟩ := h
 cases h1
 exact shOk_slice h2
theorem list_image {α β : Type} {g : α → β} {W : α → Prop} : ∀ (l : List β), (∀ x ∈ l, ∃ a, x = g a ∧ W a) → ∃ m : List α, l = m.map g ∧ ∀ a ∈ m, W a
 | [], _ => ⟨[], rfl, by simp⟩
 | x :: l, h => by
  obtain ⟨a, rfl, ha⟩ := h x (by simp)
  obtain ⟨m, rfl, hm⟩ := list_image l fun y hy => h y (by simp [hy])
  exact ⟨a :: m, rfl, fun b hb => by rcases List.mem_cons.1 hb with rfl | hb; exact ha; exact hm b hb⟩
theorem cellsOk_int {k : IntKind} {e : List AVal} (h : CellsOk [.int k] e) : ∃ n, e = [.int k n] ∧ (Lit.int k n).wf = true := by
 match e, h with
 | [a], h =>
  obtain ⟨h1, _⟩ := h
  cases h1
  rename_i n hn
  exact ⟨n, rfl, hn⟩
theorem argOk_ints {k : IntKind} {a : AVal} (h : ArgOk (false, [.slice [.int k]]) a) : ∃ l : List Int, a = .list false 1 (l.map fun n => [.int k n]) ∧ l.length ≤ maxLen ∧ ∀ n ∈ l, (Lit.int k n).wf = true := by
 obtain ⟨es, rfl, hl, h⟩ := argOk_slice h
 obtain ⟨m, rfl, hm⟩ := list_image (g := fun n => [AVal.int k n]) (W := fun n => (Lit.int k n).wf = true) es fun e he => cellsOk_int (h e he)
 exact ⟨m, rfl, by simpa using hl, hm⟩
attribute [local irreducible] ACalls
structure V where
 kind : Int
 num : Int
 str : ByteArray
def valC (v : V) : List AVal := [.int .i64 v.kind, .int .i64 v.num, .str v.str]
def validB (v : V) : Bool :=
 if v.kind = 0 then v.num == 0 && v.str.data.toList == []
 else if v.kind = 1 then (v.num == 0 || v.num == 1) && v.str.data.toList == []
 else if v.kind = 2 then decide (-1073741824 ≤ v.num) && decide (v.num ≤ 1073741824) && v.str.data.toList == []
 else if v.kind = 3 then v.num == 0 && decide (v.str.size ≤ 64)
 else if v.kind = 4 then decide (0 ≤ v.num) && decide (v.num ≤ 575999999) && v.str.data.toList == []
 else false
set_option maxRecDepth 20000 in
theorem value_Valid_spec {P : Program} (F : F_z24 P) (v : V) (H : List AObj) :
  ACalls P F.id [.agg (valC v)] H (fun r H' => r = .bool (validB v) ∧ H' = H) := by
 refine ACalls.pure rfl (acalls_of_body F.has ?_)
 repeat' ((conv => whnf); refine recA (fun _ => ?_) (fun _ => ?_))
 all_goals (conv => whnf)
 all_goals refine pubB ?_
 all_goals (simp_all [validB, bs_nil]; try omega)
set_option maxRecDepth 20000 in
theorem ref1_Valid_spec {P : Program} (F : F_z2e P) (v : V) (H : List AObj) :
  ACalls P F.id [.agg (valC v)] H (fun r H' => r = .bool (validB v) ∧ H' = H) := by
 refine ACalls.pure rfl (acalls_of_body F.has ?_)
 repeat' ((conv => whnf); refine recA (fun _ => ?_) (fun _ => ?_))
 all_goals (conv => whnf)
 all_goals refine pubB ?_
 all_goals (simp_all [validB, bs_nil]; try omega)
def cmpI (a b : Int) : Int := if a < b then -1 else if b < a then 1 else 0
def cmpS (a b : List UInt8) : Int := if Op.bytesLess a b then -1 else if a = b then 0 else 1
theorem isNaN_int_spec {P : Program} (F : F_z0d P) (a : Int) (H : List AObj) :
  ACalls P F.id [.int .i64 a] H (fun r H' => r = .bool false ∧ H' = H) := by
 refine ACalls.pure rfl (acalls_of_body F.has ?_)
 conv => whnf
 exact pubB (by simp)
theorem isNaN_string_spec {P : Program} (F : F_z0e P) (a : ByteArray) (H : List AObj) :
  ACalls P F.id [.str a] H (fun r H' => r = .bool false ∧ H' = H) := by
 refine ACalls.pure rfl (acalls_of_body F.has ?_)
 conv => whnf
 exact pubB (by simp)
theorem cmpCompare_int_spec {P : Program} (F : F_z0a P) (a b : Int) (H : List AObj) :
  ACalls P F.id [.int .i64 a, .int .i64 b] H (fun r H' => r = .int .i64 (cmpI a b) ∧ H' = H) := by
 refine ACalls.pure rfl (acalls_of_body F.has ?_)
 conv => whnf
 refine (isNaN_int_spec F.z0d _ _).use ?_
 conv => whnf
 refine (isNaN_int_spec F.z0d _ _).use ?_
 repeat' ((conv => whnf); refine recA (fun _ => ?_) (fun _ => ?_))
 all_goals (conv => whnf)
 all_goals refine pubI ?_
 all_goals (simp_all [cmpI]; try omega)
theorem cmpCompare_string_spec {P : Program} (F : F_z0b P) (a b : ByteArray) (H : List AObj) :
  ACalls P F.id [.str a, .str b] H (fun r H' => r = .int .i64 (cmpS a.data.toList b.data.toList) ∧ H' = H) := by
 refine ACalls.pure rfl (acalls_of_body F.has ?_)
 conv => whnf
 refine (isNaN_string_spec F.z0e _ _).use ?_
 conv => whnf
 refine (isNaN_string_spec F.z0e _ _).use ?_
 repeat' ((conv => whnf); refine recA (fun _ => ?_) (fun _ => ?_))
 all_goals (conv => whnf)
 all_goals refine pubI ?_
 all_goals (simp_all [cmpS])
def orI : List Int → Int
 | [] => 0
 | x :: xs => if x = 0 then orI xs else x
def valCmp (a b : V) : Int := orI [cmpI a.kind b.kind, cmpI a.num b.num, cmpS a.str.data.toList b.str.data.toList]
theorem orI_drop (l : List Int) (k : Nat) (h : ∀ j, j < k → l.getD j 0 = 0) : orI l = orI (l.drop k) := by
 induction k generalizing l with
 | zero => rfl
 | succ k ih =>
  cases l with
  | nil => rfl
  | cons x xs =>
   have h0 := h 0 (by omega)
   simp at h0
   subst h0
   simp only [orI, if_true, List.drop_succ_cons]
   exact ih xs fun j hj => by have := h (j + 1) (by omega); simpa using this
theorem getElem?_getD {l : List Int} {k : Nat} (h : k < l.length) : l[k]? = some (l.getD k 0) := by
 rw [List.getD_eq_getElem?_getD, List.getElem?_eq_getElem h]; rfl
theorem orI_at (l : List Int) (k : Nat) (h : ∀ j, j < k → l.getD j 0 = 0) (hk : k < l.length) (hne : l.getD k 0 ≠ 0) : orI l = l.getD k 0 := by
 rw [orI_drop l k h, List.drop_eq_getElem_cons hk]
 rw [List.getD_eq_getElem?_getD, List.getElem?_eq_getElem hk] at hne ⊢
 simp only [Option.getD_some] at hne ⊢
 simp [orI, hne]
theorem orI_all (l : List Int) (h : ∀ j, j < l.length → l.getD j 0 = 0) : orI l = 0 := by
 rw [orI_drop l l.length h, List.drop_length]; rfl
set_option maxRecDepth 20000 in
theorem cmpOr_spec {P : Program} (F : F_z0c P) (l : List Int) (hl : l.length ≤ 1000000) (H : List AObj) :
  ACalls P F.id [.list true 1 (l.map fun x => [.int .i64 x])] H (fun r H' => r = .int .i64 (orI l) ∧ H' = H) := by
 refine ACalls.pure rfl (acalls_of_body F.has ?_)
 conv => whnf
 refine ⟨fun n ρ H => ∃ k : Nat, k + n = l.length ∧ (∀ j, j < k → l.getD j 0 = 0) ∧ H = [] ∧
  Sv 18 [(0, .list true 1 (l.map fun x => [.int .i64 x])), (2, .int .i64 0), (3, .int .i64 0), (6, .list true 1 (l.map fun x => [.int .i64 x])), (7, .int .i64 (l.map fun x => [AVal.int .i64 x]).length), (8, .int .i64 k)] ρ, l.length, [], ⟨0, by simp, by simp, rfl, Sv.intro rfl ⟨rfl, rfl, rfl, rfl, rfl, rfl, trivial⟩⟩, ?_⟩
 rintro n ρ H ⟨k, hk, hz, rfl, d, rfl⟩
 conv => whnf
 refine recA (fun hlt => ?_) (fun hlt => ?_)
 ·simp at hlt
  conv => whnf
  refine ⟨by omega, ?_⟩
  conv => whnf
  refine recO (e := [AVal.int .i64 (l.getD k 0)]) ?_ ?_
  ·rw [List.getElem?_map, getElem?_getD (by omega)]; rfl
  (conv => whnf); refine recA (fun hne => ?_) (fun hne => ?_)
  ·conv => whnf
   refine pubI ?_
   rw [orI_at l k hz (by omega) (by simpa using hne)]
  ·conv => whnf
   have e := wrapI ((k : Int) + 1) (by omega) (by omega)
   refine ⟨n - 1, by omega, Gp.keep rfl ?_ fun ρ1 h => ⟨k + 1, by omega, fun j hj => ?_, rfl, h⟩⟩
   ·exact ⟨rfl, rfl, rfl, rfl, rfl, intEq e, trivial⟩
   rcases Nat.lt_succ_iff_lt_or_eq.1 hj with h | rfl
   ·exact hz j h
   ·simpa using hne
 ·conv => whnf
  refine pubI ?_
  simp at hlt
  rw [orI_all l fun j hj => hz j (by omega)]
theorem numbers_spec {P : Program} (F : F_z2g P) (a b : Int) (H : List AObj) :
  ACalls P F.id [.int .i64 a, .int .i64 b] H (fun r H' => r = .int .i64 (cmpI a b) ∧ H' = H) := by
 refine ACalls.pure rfl (acalls_of_body F.has ?_)
 repeat' ((conv => whnf); refine recA (fun _ => ?_) (fun _ => ?_))
 all_goals (conv => whnf)
 all_goals refine pubI ?_
 all_goals (simp_all [cmpI]; try omega)
set_option maxRecDepth 20000 in
theorem value_Compare_spec {P : Program} (F : F_z21 P) (a b : V) (H : List AObj) :
  ACalls P F.id [.agg (valC a), .agg (valC b)] H (fun r H' => r = .int .i64 (valCmp a b) ∧ H' = H) := by
 refine ACalls.pure rfl (acalls_of_body F.has ?_)
 conv => whnf
 refine ⟨_, cmpCompare_int_spec F.z0a a.kind b.kind _, ?_⟩
 conv => whnf
 refine ⟨_, cmpCompare_int_spec F.z0a a.num b.num _, ?_⟩
 conv => whnf
 refine ⟨_, cmpCompare_string_spec F.z0b a.str b.str _, ?_⟩
 conv => whnf
 refine ⟨_, cmpOr_spec F.z0c [_, _, _] (by simp) _, ?_⟩
 conv => whnf
 exact pubI rfl
set_option maxRecDepth 20000 in
theorem ref1_Compare_spec {P : Program} (F : F_z2b P) (a b : V) (H : List AObj) :
  ACalls P F.id [.agg (valC a), .agg (valC b)] H (fun r H' => r = .int .i64 (valCmp a b) ∧ H' = H) := by
 refine ACalls.pure rfl (acalls_of_body F.has ?_)
 repeat' ((conv => whnf); first | refine recA (fun _ => ?_) (fun _ => ?_) | refine ACalls.use (numbers_spec F.z2g _ _ _) ?_)
 all_goals (conv => whnf)
 all_goals refine pubI ?_
 all_goals simp_all [valCmp, orI, cmpS]
def bC (l : List Int) : List (List AVal) := l.map fun n => [.int .u8 n]
def u8 (n : Int) : Int := IntKind.u8.wrap n
def w4 (n : Int) : List Int := [u8 (n.fdiv (2 ^ 24)), u8 (n.fdiv (2 ^ 16)), u8 (n.fdiv (2 ^ 8)), u8 n]
theorem bC_append (a b : List Int) : bC (a ++ b) = bC a ++ bC b := List.map_append
theorem bC_length (l : List Int) : (bC l).length = l.length := List.length_map ..
theorem roomB_le {n : Nat} (h : n ≤ 1000000000) : n ≤ roomB := Nat.le_trans h (by show _ ≤ 1099511627776; omega)
theorem roomB_le1 {n : Nat} (h : n ≤ 1000000000) : n * 1 ≤ roomB := roomB_le (by omega)
theorem ACalls.retH {P : Program} {f : FuncId} {args : List AVal} {H H1 : List AObj} {R : AVal} {Q : AVal → List AObj → Prop} (h : ACalls P f args H (fun r H' => r = R ∧ H' = H1)) (hq : Q R H1) : ACalls P f args H Q :=
 h.mono fun r H' ⟨h1, h2⟩ => by subst h1 h2; exact hq
set_option maxRecDepth 20000 in
theorem word_spec {P : Program} (F : F_z25 P) (H : List AObj) (id : Nat) (es : List (List AVal)) (n : Int) (ho : H[id]? = some (.arr 1 es)) (hl : es.length ≤ 1000000) :
  ACalls P F.id [.sl id es.length 0 es.length, .int .i64 n] H (fun r H' => r = .sl id (es ++ bC (w4 n)).length 0 (es ++ bC (w4 n)).length ∧ H' = H.set id (.arr 1 (es ++ bC (w4 n)))) := by
 refine acalls_of_body F.has ?_
 repeat' ((conv => whnf); first | refine And.intro (by decide) ?_ | refine recO ho ?_ | refine recT (Nat.beq_refl _) ?_)
 conv => whnf
 refine And.intro ⟨?_, ?_, rfl, rfl⟩ ?_
 ·exact roomB_le1 (by simp; omega)
 ·exact roomB_le (by simp; omega)
 rw [setO_eq]
 conv => whnf
 exact ⟨rfl, rfl⟩
def bytesI (s : ByteArray) : List Int := s.data.toList.map fun b => (b.toNat : Int)
def encV (v : V) : List Int :=
 u8 v.kind :: (if v.kind = 1 then [u8 v.num] else if v.kind = 2 then w4 (IntKind.i64.wrap (v.num + 1073741824)) else if v.kind = 4 then w4 v.num else if v.kind = 3 then u8 v.str.size :: bytesI v.str else [])
def encK (rs : List V) (k : Nat) : List Int := u8 rs.length :: (rs.take k).flatMap encV
def encB (rs : List V) : List Int := u8 rs.length :: rs.flatMap encV
def encR (rs : List V) : AVal :=
 if 12 < rs.length then .tuple [.nil, .int .i64 2] else if rs.all validB then .tuple [.list false 1 (bC (encB rs)), .int .i64 0] else .tuple [.nil, .int .i64 8]
theorem encV_len (v : V) (h : validB v = true) : (encV v).length ≤ 66 := by
 unfold encV validB at *
 split <;> (try split) <;> (try split) <;> (try split) <;> simp_all [w4, bytesI]
theorem valid_str (v : V) (h : validB v = true) : (byteCells v.str.data.toList).length ≤ 64 := by
 simp only [byteCells, List.length_map]
 unfold validB at h
 split at h <;> (try split at h) <;> (try split at h) <;> (try split at h) <;> (try split at h) <;> simp_all
theorem encK_len (rs : List V) (k : Nat) (h : (rs.take k).all validB = true) : (encK rs k).length ≤ 1 + 66 * k := by
 simp only [encK, List.length_cons]
 have : ∀ l : List V, l.all validB = true → (l.flatMap encV).length ≤ 66 * l.length := by
  intro l hl
  induction l with
  | nil => simp
  | cons v l ih =>
   simp only [List.all_cons, Bool.and_eq_true] at hl
   have := encV_len v hl.1
   have := ih hl.2
   simp only [List.flatMap_cons, List.length_append, List.length_cons]; omega
 have := this _ h
 have h2 : (rs.take k).length ≤ k := List.length_take_le ..
 have h3 : 66 * (rs.take k).length ≤ 66 * k := Nat.mul_le_mul_left _ h2
 omega
theorem pureEs_bC (l : List Int) : pureEs (bC l) = true := by simp [pureEs, bC, AVal.isPure]
theorem pub_int {H1 : List AObj} {n : Nat} {ids : List Nat} {k : IntKind} {a b : Int} (h : a = b) : Pub H1 n ids (.int k a) (.int k b) := by subst h; exact .closed _ rfl
theorem pub2 {H1 : List AObj} {n : Nat} {ids : List Nat} {a b r s : AVal} (h1 : Pub H1 n ids a r) (h2 : Pub H1 n ids b s) : Pub H1 n ids (.tuple [a, b]) (.tuple [r, s]) := by
 refine .tuple _ _ rfl fun i v t h3 h4 => ?_
 rcases i with _ | _ | i
 ·cases h3; cases h4; exact h1
 ·cases h3; cases h4; exact h2
 ·simp at h3
theorem pubF {H1 : List AObj} {n : Nat} {id ep len sz : Nat} {es : List (List AVal)} (ho : H1[id]? = some (.arr sz es)) (he : ep = es.length) (hl : len = es.length) (hp : pureEs es = true) : Pub H1 n [] (.sl id ep 0 len) (.list false sz es) := by
 subst hl he
 have := Pub.frz (n := n) (ids := []) id es.length 0 es.length sz es ho rfl hp (by simp)
 rwa [List.drop_zero, List.take_length] at this
def encS (ex : Bool) (rs : List V) (k : Nat) : List (Nat × AVal) := [(4, .sl 0 (bC (encK rs k)).length 0 (bC (encK rs k)).length), (14, .list ex 3 (rs.map valC)), (15, .int .i64 (rs.map valC).length), (16, .int .i64 k)]
set_option maxRecDepth 20000 in
theorem encode_list {P : Program} (F : F_z23 P) (ex : Bool) (rs : List V) (H : List AObj) :
  ACalls P F.id [.list ex 3 (rs.map valC)] H (fun r H' => r = encR rs ∧ H' = H) := by
 refine ACalls.pure rfl (acalls_of_body F.has ?_)
 (conv => whnf); refine recA (fun hlt => ?_) (fun hlt => ?_)
 ·conv => whnf
  simp at hlt
  rw [show encR rs = .tuple [.nil, .int .i64 2] from if_pos (by omega)]
  exact pub2 (.closed _ rfl) (.closed _ rfl)
 conv => whnf
 simp at hlt
 refine ⟨fun n ρ H => ∃ k : Nat, k + n = rs.length ∧ (rs.take k).all validB = true ∧ H = [.arr 1 (bC (encK rs k))] ∧
  Sv 67 (encS ex rs k) ρ, rs.length, [], ⟨0, by simp, by simp, ?_, ?_⟩, ?_⟩
 ·simp [encK, bC, u8]
 ·exact Sv.intro rfl ⟨rfl, rfl, rfl, rfl, trivial⟩
 rintro n ρ H ⟨k, hk, hz, rfl, d, rfl⟩
 conv => whnf
 refine recA (fun hlt2 => ?_) (fun hlt2 => ?_)
 ·simp at hlt2
  conv => whnf
  refine ⟨by omega, ?_⟩
  conv => whnf
  refine recO (e := valC rs[k]) ?_ ?_
  ·rw [List.getElem?_map, List.getElem?_eq_getElem (by omega)]; rfl
  conv => whnf
  have hb : (bC (encK rs k)).length ≤ 1000 := by rw [bC_length]; exact Nat.le_trans (encK_len rs k hz) (by omega)
  have hsnoc : rs.take (k + 1) = rs.take k ++ [rs[k]] := by rw [List.take_add_one, List.getElem?_eq_getElem (by omega)]; rfl
  have hmem : rs[k] ∈ rs := List.getElem_mem _
  generalize rs[k] = v at hsnoc hmem ⊢
  refine (value_Valid_spec F.z24 v _).use ?_
  (conv => whnf); refine recA (fun hv => ?_) (fun hv => ?_)
  ·conv => whnf
   have hall : rs.all validB = false := by
    apply Bool.eq_false_iff.2
    intro hall
    rw [List.all_eq_true.1 hall v hmem] at hv
    cases hv
   rw [show encR rs = .tuple [.nil, .int .i64 8] by unfold encR; rw [if_neg (by omega), hall]; rfl]
   exact pub2 (.closed _ rfl) (.closed _ rfl)
  have hz2 : (rs.take (k + 1)).all validB = true := by rw [hsnoc]; simp at hv; simp [hz, hv]
  have hsz : (byteCells v.str.data.toList).length ≤ 64 := valid_str v (by simpa using hv)
  have hkey : bC (encK rs (k + 1)) = bC (encK rs k) ++ bC (encV v) := by rw [← bC_append]; congr 1; simp [encK, hsnoc]
  have e1 := wrapI ((k : Int) + 1) (by omega) (by omega)
  repeat' ((conv => whnf); first
   | refine recT (Nat.beq_refl _) ?_
   | refine And.intro ⟨roomB_le1 (by simp; omega), roomB_le (by simp; omega), rfl, rfl⟩ ?_
   | refine recA (fun _ => ?_) (fun _ => ?_)
   | refine ACalls.retH (word_spec F.z25 _ _ _ _ (by rfl) (by simp; omega)) ?_)
  all_goals (conv => whnf)
  all_goals refine ⟨n - 1, by omega, Gp.one 0 1 (bC (encK rs (k + 1))) ?_ (pureEs_bC _) rfl ?_ fun ρ1 h => ⟨k + 1, by omega, hz2, rfl, h⟩⟩
  all_goals try (refine ⟨pubSl (k := 0) rfl rfl ?_ ?_, .closed _ rfl, .closed _ rfl, pub_int e1, trivial⟩)
  all_goals (rw [hkey]; simp_all [encV, bC, u8, w4, bytesI, byteCells])
 ·conv => whnf
  simp at hlt2
  have e : rs.take k = rs := List.take_of_length_le hlt2
  rw [e] at hz
  have e2 : encK rs k = encB rs := by simp [encK, encB, e]
  rw [show encR rs = .tuple [.list false 1 (bC (encB rs)), .int .i64 0] by unfold encR; rw [if_neg (by omega), hz]; rfl, e2]
  have := Pub.frz (H1 := [.arr 1 (bC (encB rs))]) (n := 0) (ids := []) 0 (bC (encB rs)).length 0 (bC (encB rs)).length 1 (bC (encB rs)) rfl rfl (pureEs_bC _) (by simp)
  rw [List.drop_zero, List.take_length] at this
  exact pub2 this (.closed _ rfl)
def iC (l : List Int) : List (List AVal) := l.map fun n => [.int .i64 n]
theorem iC_length (l : List Int) : (iC l).length = l.length := List.length_map ..
theorem iC_get {l : List Int} {k : Nat} (h : k < l.length) : (iC l)[k]? = some [.int .i64 (l.getD k 0)] := by
 rw [iC, List.getElem?_map, getElem?_getD h]; rfl
def w64 (n : Int) : Int := IntKind.i64.wrap n
def vC (rs : List V) : List (List AVal) := rs.map valC
theorem vC_length (l : List V) : (vC l).length = l.length := List.length_map ..
theorem vC_append (a b : List V) : vC (a ++ b) = vC a ++ vC b := List.map_append
theorem pureEs_vC (l : List V) : pureEs (vC l) = true := by simp [pureEs, vC, valC, AVal.isPure]
theorem roomMul {n b : Nat} (h : n ≤ 1000000) (hb : b ≤ 1000000) : n * b ≤ roomB :=
 Nat.le_trans (Nat.mul_le_mul h hb) (by show 1000000 * 1000000 ≤ 1099511627776; omega)
theorem vC_at {l : List V} {k : Nat} {x : V} (h : l[k]? = some x) : (vC l)[k]? = some (valC x) := by
 rw [vC, List.getElem?_map, h]; rfl
theorem get_drop {α : Type} {l : List α} {k : Nat} (h : k < l.length) : ∃ x, l[k]? = some x ∧ l.drop k = x :: l.drop (k + 1) ∧ x ∈ l :=
 ⟨l[k], List.getElem?_eq_getElem h, List.drop_eq_getElem_cons h, List.getElem_mem h⟩
def rowsCmp : List V → List V → Int
 | [], [] => 0
 | [], _ :: _ => -1
 | _ :: _, [] => 1
 | x :: xs, y :: ys => if valCmp x y = 0 then rowsCmp xs ys else valCmp x y
set_option maxRecDepth 20000 in
theorem CompareFunc_spec {P : Program} (F : F_z1g P) (g : FuncId) (hg : ∀ (a b : V) (H : List AObj), ACalls P g [.agg (valC a), .agg (valC b)] H (fun r H' => r = .int .i64 (valCmp a b) ∧ H' = H))
  (e1 e2 : Bool) (a b : List V) (ha : a.length ≤ 1000000) (H : List AObj) :
  ACalls P F.id [.list e1 3 (vC a), .list e2 3 (vC b), .fn g []] H (fun r H' => r = .int .i64 (rowsCmp a b) ∧ H' = H) := by
 refine ACalls.pure rfl (acalls_of_body F.has ?_)
 conv => whnf
 refine ⟨fun m ρ H => ∃ k : Nat, k + m = a.length ∧ rowsCmp (a.drop k) (b.drop k) = rowsCmp a b ∧ H = [] ∧
  Sv 39 [(0, .list e1 3 (vC a)), (1, .list e2 3 (vC b)), (2, .fn g []), (11, .list e1 3 (vC a)), (12, .int .i64 a.length), (13, .int .i64 k)] ρ, a.length, [], ?_, ?_⟩
 ·exact ⟨0, by omega, rfl, rfl, Sv.intro rfl ⟨rfl, rfl, rfl, rfl, intEq (by rw [vC_length]), rfl, trivial⟩⟩
 rintro m ρ H ⟨k, hk, hr, rfl, d, rfl⟩
 (conv => whnf); refine recA (fun hlt => ?_) (fun hlt => ?_)
 ·simp at hlt
  conv => whnf
  refine And.intro (by omega) ?_
  obtain ⟨x, hx, hda, _⟩ := get_drop hlt
  rw [hda] at hr
  (conv => whnf); refine recO (vC_at hx) ?_
  (conv => whnf); refine recA (fun hlt2 => ?_) (fun hlt2 => ?_)
  ·simp [vC_length] at hlt2
   conv => whnf
   rw [List.drop_eq_nil_of_le hlt2] at hr
   exact pubI hr
  simp [vC_length] at hlt2
  conv => whnf
  refine And.intro (by omega) ?_
  obtain ⟨y, hy, hdb, _⟩ := get_drop hlt2
  rw [hdb] at hr
  (conv => whnf); refine recO (vC_at hy) ?_
  conv => whnf
  refine ACalls.use (hg x y _) ?_
  (conv => whnf); refine recA (fun hne => ?_) (fun hne => ?_)
  ·conv => whnf
   refine pubI ?_
   rw [← hr, rowsCmp, if_neg (by simpa using hne)]
  ·conv => whnf
   refine ⟨m - 1, by omega, Gp.none rfl ?_ fun ρ1 h => ⟨k + 1, by omega, ?_, rfl, h⟩⟩
   ·exact ⟨.closed _ rfl, .closed _ rfl, .closed _ rfl, .closed _ rfl, .closed _ rfl, pub_int (wrapI ((k : Int) + 1) (by omega) (by omega)), trivial⟩
   ·rw [← hr, rowsCmp, if_pos (by simpa using hne)]
 ·simp at hlt
  rw [List.drop_eq_nil_of_le hlt] at hr
  (conv => whnf); refine recA (fun hlt2 => ?_) (fun hlt2 => ?_)
  ·simp [vC_length] at hlt2
   conv => whnf
   have hdb : b.drop k = b[k]'(by omega) :: b.drop (k + 1) := List.drop_eq_getElem_cons (by omega)
   rw [hdb] at hr
   exact pubI hr
  ·simp [vC_length] at hlt2
   conv => whnf
   rw [List.drop_eq_nil_of_le (by omega)] at hr
   exact pubI hr
theorem value_CompareRows_spec {P : Program} (F : F_z22 P) (e1 e2 : Bool) (a b : List V) (ha : a.length ≤ 1000000) (H : List AObj) :
  ACalls P F.id [.list e1 3 (vC a), .list e2 3 (vC b)] H (fun r H' => r = .int .i64 (rowsCmp a b) ∧ H' = H) := by
 refine ACalls.pure rfl (acalls_of_body F.has ?_)
 conv => whnf
 refine ACalls.use (CompareFunc_spec F.z1g _ (value_Compare_spec F.z21) e1 e2 a b ha _) ?_
 conv => whnf
 exact .closed _ rfl
set_option maxRecDepth 20000 in
theorem ref1_CompareRows_spec {P : Program} (F : F_z2c P) (e1 e2 : Bool) (a b : List V) (ha : a.length ≤ 1000000) (H : List AObj) :
  ACalls P F.id [.list e1 3 (vC a), .list e2 3 (vC b)] H (fun r H' => r = .int .i64 (rowsCmp a b) ∧ H' = H) := by
 refine ACalls.pure rfl (acalls_of_body F.has ?_)
 conv => whnf
 refine ⟨fun m ρ H => ∃ k : Nat, k + m = a.length ∧ k ≤ b.length ∧ rowsCmp (a.drop k) (b.drop k) = rowsCmp a b ∧ H = [] ∧
  Sv 36 [(0, .list e1 3 (vC a)), (1, .list e2 3 (vC b)), (5, .int .i64 k)] ρ, a.length, [], ?_, ?_⟩
 ·exact ⟨0, by omega, by omega, rfl, rfl, Sv.intro rfl ⟨rfl, rfl, rfl, trivial⟩⟩
 rintro m ρ H ⟨k, hk, hkb, hr, rfl, d, rfl⟩
 have fin : a.length ≤ k ∨ b.length ≤ k → cmpI (vC a).length (vC b).length = rowsCmp a b := by
  intro h
  rw [vC_length, vC_length, ← hr]
  by_cases h1 : a.length ≤ k
  ·rw [List.drop_eq_nil_of_le h1]
   by_cases h2 : b.length ≤ k
   ·rw [List.drop_eq_nil_of_le h2]
    have : a.length = b.length := by omega
    simp [cmpI, rowsCmp, this]
   ·rw [show b.drop k = b[k]'(by omega) :: b.drop (k + 1) from List.drop_eq_getElem_cons (by omega), rowsCmp, cmpI, if_pos (by omega)]
  ·rw [show a.drop k = a[k]'(by omega) :: a.drop (k + 1) from List.drop_eq_getElem_cons (by omega), List.drop_eq_nil_of_le (show b.length ≤ k by omega), rowsCmp, cmpI, if_neg (by omega), if_pos (by omega)]
 (conv => whnf); refine recA (fun hlt => ?_) (fun hlt => ?_)
 ·simp [vC_length] at hlt
  (conv => whnf); refine recA (fun hlt2 => ?_) (fun hlt2 => ?_)
  ·simp [vC_length] at hlt2
   conv => whnf
   refine And.intro (by omega) ?_
   obtain ⟨x, hx, hda, _⟩ := get_drop hlt
   obtain ⟨y, hy, hdb, _⟩ := get_drop hlt2
   rw [hda, hdb] at hr
   (conv => whnf); refine recO (vC_at hx) ?_
   conv => whnf
   refine And.intro (by omega) ?_
   (conv => whnf); refine recO (vC_at hy) ?_
   conv => whnf
   refine ⟨_, ref1_Compare_spec F.z2b x y _, ?_⟩
   (conv => whnf); refine recA (fun hne => ?_) (fun hne => ?_)
   ·conv => whnf
    refine pubI ?_
    rw [← hr, rowsCmp, if_neg (by simpa using hne)]
   ·conv => whnf
    refine ⟨m - 1, by omega, Gp.none rfl ?_ fun ρ1 h => ⟨k + 1, by omega, by omega, ?_, rfl, h⟩⟩
    ·exact ⟨.closed _ rfl, .closed _ rfl, pub_int (wrapI ((k : Int) + 1) (by omega) (by omega)), trivial⟩
    ·rw [← hr, rowsCmp, if_pos (by simpa using hne)]
  ·simp [vC_length] at hlt2
   conv => whnf
   refine ACalls.use (numbers_spec F.z2g _ _ _) ?_
   conv => whnf
   exact pubI (fin (.inr hlt2))
 ·simp [vC_length] at hlt
  conv => whnf
  refine ACalls.use (numbers_spec F.z2g _ _ _) ?_
  conv => whnf
  exact pubI (fin (.inl hlt))
theorem w4_len (n : Int) : (bC (w4 n)).length = 4 := rfl
theorem four_spec {P : Program} (F : F_z2f P) (n : Int) (H : List AObj) :
  ACalls P F.id [.int .i64 n] H (fun r H' => r = .list true 1 (bC (w4 n)) ∧ H' = H) := by
 refine ACalls.pure rfl (acalls_of_body F.has ?_)
 repeat' ((conv => whnf); refine And.intro (by decide) ?_)
 conv => whnf
 exact .closed _ rfl
def RawE (rs : List V) (r : AVal) (H1 : List AObj) : Prop :=
 (∃ e, r = .tuple [.nil, .int .i64 e] ∧ encR rs = .tuple [.nil, .int .i64 e]) ∨
 (∃ n, n = (bC (encB rs)).length ∧ r = .tuple [.sl 0 n 0 n, .int .i64 0] ∧ H1 = [.arr 1 (bC (encB rs))] ∧ encR rs = .tuple [.list false 1 (bC (encB rs)), .int .i64 0])
set_option maxRecDepth 20000 in
theorem ref1_Encode_raw {P : Program} (F : F_z2d P) (ex : Bool) (rs : List V) :
  ACalls P F.id [.list ex 3 (vC rs)] [] (RawE rs) := by
 refine acalls_of_body F.has ?_
 (conv => whnf); refine recA (fun hlt => ?_) (fun hlt => ?_)
 ·conv => whnf
  simp [vC_length] at hlt
  exact .inl ⟨2, rfl, if_pos (by omega)⟩
 conv => whnf
 simp [vC_length] at hlt
 refine ⟨fun n ρ H => ∃ k : Nat, k + n = rs.length ∧ (rs.take k).all validB = true ∧ H = [.arr 1 (bC (encK rs k))] ∧
  Sv 71 [(0, .list ex 3 (vC rs)), (4, .sl 0 (bC (encK rs k)).length 0 (bC (encK rs k)).length), (5, .int .i64 k)] ρ, rs.length, [], ⟨0, by simp, by simp, ?_, ?_⟩, ?_⟩
 ·simp [encK, bC, u8, vC_length]
 ·exact Sv.intro rfl ⟨rfl, rfl, rfl, trivial⟩
 rintro n ρ H ⟨k, hk, hz, rfl, d, rfl⟩
 conv => whnf
 refine recA (fun hlt2 => ?_) (fun hlt2 => ?_)
 ·simp [vC_length] at hlt2
  conv => whnf
  refine ⟨by omega, ?_⟩
  obtain ⟨v, hv0, hdrop, hmem⟩ := get_drop hlt2
  (conv => whnf); refine recO (vC_at hv0) ?_
  conv => whnf
  have hb : (bC (encK rs k)).length ≤ 1000 := by rw [bC_length]; exact Nat.le_trans (encK_len rs k hz) (by omega)
  have hsnoc : rs.take (k + 1) = rs.take k ++ [v] := by rw [List.take_add_one, hv0]; rfl
  refine ACalls.use (ref1_Valid_spec F.z2e v _) ?_
  (conv => whnf); refine recA (fun hv => ?_) (fun hv => ?_)
  ·conv => whnf
   have hall : rs.all validB = false := by
    apply Bool.eq_false_iff.2
    intro hall
    rw [List.all_eq_true.1 hall v hmem] at hv
    cases hv
   exact .inl ⟨8, rfl, by unfold encR; rw [if_neg (by omega), hall]; rfl⟩
  have hz2 : (rs.take (k + 1)).all validB = true := by rw [hsnoc]; simp at hv; simp [hz, hv]
  have hsz : (byteCells v.str.data.toList).length ≤ 64 := valid_str v (by simpa using hv)
  have hkey : bC (encK rs (k + 1)) = bC (encK rs k) ++ bC (encV v) := by rw [← bC_append]; congr 1; simp [encK, hsnoc]
  have e1 := wrapI ((k : Int) + 1) (by omega) (by omega)
  repeat' ((conv => whnf); first
   | refine recT (Nat.beq_refl _) ?_
   | refine And.intro ⟨roomB_le1 (by simp [w4_len]; omega), roomB_le (by simp [w4_len]; omega), rfl, rfl⟩ ?_
   | refine And.intro (by decide) ?_
   | refine recA (fun _ => ?_) (fun _ => ?_)
   | refine ACalls.use (four_spec F.z2f _ _) ?_
   | refine And.intro rfl ?_)
  all_goals (conv => whnf)
  all_goals refine ⟨n - 1, by omega, Gp.one 0 1 (bC (encK rs (k + 1))) ?_ (pureEs_bC _) rfl ?_ fun ρ1 h => ⟨k + 1, by omega, hz2, rfl, h⟩⟩
  all_goals try (refine ⟨.closed _ rfl, pubSl (k := 0) rfl rfl ?_ ?_, pub_int e1, trivial⟩)
  all_goals (rw [hkey]; simp_all [encV, bC, u8, w4, bytesI, byteCells])
 ·conv => whnf
  simp [vC_length] at hlt2
  have e : rs.take k = rs := List.take_of_length_le hlt2
  rw [e] at hz
  have e2 : encK rs k = encB rs := by simp [encK, encB, e]
  rw [e2]
  exact .inr ⟨_, rfl, rfl, rfl, by unfold encR; rw [if_neg (by omega), hz]; rfl⟩
theorem ref1_Encode_spec {P : Program} (F : F_z2d P) (ex : Bool) (rs : List V) (H : List AObj) :
  ACalls P F.id [.list ex 3 (vC rs)] H (fun r H' => r = encR rs ∧ H' = H) := by
 refine ACalls.pure (by simp [AVal.closed, AVal.isPure]) ((ref1_Encode_raw F ex rs).mono ?_)
 rintro r H1 (⟨e, rfl, h⟩ | ⟨n, hn, rfl, rfl, h⟩)
 ·rw [h]; exact pub2 (.closed _ rfl) (.closed _ rfl)
 ·rw [h]; exact pub2 (pubF rfl hn hn (pureEs_bC _)) (.closed _ rfl)
def Byt (l : List Int) : Prop := ∀ x ∈ l, 0 ≤ x ∧ x ≤ 255
def num (l : List Int) : Int := l.foldl (fun n x => n * 256 + x) 0
theorem bl_irrefl : ∀ (a : List UInt8), Op.bytesLess a a = false
 | [] => rfl
 | x :: a => by simp [Op.bytesLess, bl_irrefl a]
theorem bl_tri : ∀ (a b : List UInt8), Op.bytesLess a b = true ∨ a = b ∨ Op.bytesLess b a = true
 | [], [] => .inr (.inl rfl)
 | [], _ :: _ => .inl rfl
 | _ :: _, [] => .inr (.inr rfl)
 | x :: a, y :: b => by
  simp only [Op.bytesLess, Bool.or_eq_true, decide_eq_true_eq, Bool.and_eq_true, beq_iff_eq, List.cons.injEq]
  rcases (show x < y ∨ x = y ∨ y < x from by rcases Nat.lt_trichotomy x.toNat y.toNat with h | h | h; exact .inl h; exact .inr (.inl (UInt8.toNat_inj.1 h)); exact .inr (.inr h)) with h | h | h
  ·exact .inl (.inl h)
  ·subst h
   rcases bl_tri a b with h | h | h
   ·exact .inl (.inr ⟨rfl, h⟩)
   ·exact .inr (.inl ⟨rfl, h⟩)
   ·exact .inr (.inr (.inr ⟨rfl, h⟩))
  ·exact .inr (.inr (.inl h))
theorem bl_trans : ∀ (a b c : List UInt8), Op.bytesLess a b = true → Op.bytesLess b c = true → Op.bytesLess a c = true
 | _, [], _, h, _ => by cases ‹List UInt8› <;> simp [Op.bytesLess] at h
 | _, _ :: _, [], _, h => by simp [Op.bytesLess] at h
 | [], _ :: _, _ :: _, _, _ => rfl
 | x :: a, y :: b, z :: c, h1, h2 => by
  simp only [Op.bytesLess, Bool.or_eq_true, decide_eq_true_eq, Bool.and_eq_true, beq_iff_eq] at *
  rcases h1 with h1 | ⟨rfl, h1⟩
  ·rcases h2 with h2 | ⟨rfl, h2⟩
   ·exact .inl (UInt8.lt_trans h1 h2)
   ·exact .inl h1
  ·rcases h2 with h2 | ⟨rfl, h2⟩
   ·exact .inl h2
   ·exact .inr ⟨rfl, bl_trans a b c h1 h2⟩
structure IsCmp {α : Type} (c : α → α → Int) : Prop where
 vals : ∀ a b, c a b = -1 ∨ c a b = 0 ∨ c a b = 1
 anti : ∀ a b, c b a = - c a b
 zero : ∀ a b, c a b = 0 ↔ a = b
 trans : ∀ a b d, c a b < 0 → c b d < 0 → c a d < 0
theorem isCmp_int : IsCmp cmpI := by
 refine ⟨fun a b => ?_, fun a b => ?_, fun a b => ?_, fun a b d => ?_⟩ <;> unfold cmpI <;> (repeat' split) <;> omega
theorem isCmp_str : IsCmp cmpS := by
 have asym : ∀ a b, Op.bytesLess a b = true → Op.bytesLess b a = true → False := fun a b h1 h2 => by
  have := bl_trans a b a h1 h2
  rw [bl_irrefl] at this; cases this
 refine ⟨fun a b => ?_, fun a b => ?_, fun a b => ?_, fun a b d => ?_⟩
 ·unfold cmpS; split
  ·simp
  ·split <;> simp
 ·unfold cmpS
  rcases bl_tri a b with h | h | h
  ·have hb : Op.bytesLess b a = false := by cases hb : Op.bytesLess b a with | false => rfl | true => exact (asym a b h hb).elim
   have hne : ¬ b = a := by rintro rfl; rw [bl_irrefl] at h; cases h
   simp [h, hb, hne]
  ·subst h; simp [bl_irrefl]
  ·have hb : Op.bytesLess a b = false := by cases hb : Op.bytesLess a b with | false => rfl | true => exact (asym a b hb h).elim
   have hne : ¬ a = b := by rintro rfl; rw [bl_irrefl] at h; cases h
   simp [h, hb, hne]
 ·unfold cmpS
  split
  ·rename_i h
   refine ⟨fun h => by omega, ?_⟩
   rintro rfl
   rw [bl_irrefl] at h; cases h
  ·split <;> simp [*]
 ·unfold cmpS
  intro h1 h2
  have e1 : Op.bytesLess a b = true := by
   revert h1
   split
   ·intro _; assumption
   ·split <;> intro h <;> omega
  have e2 : Op.bytesLess b d = true := by
   revert h2
   split
   ·intro _; assumption
   ·split <;> intro h <;> omega
  rw [if_pos (bl_trans a b d e1 e2)]; omega
theorem isCmp_val : IsCmp valCmp := by
 have I := isCmp_int
 have S := isCmp_str
 refine ⟨fun a b => ?_, fun a b => ?_, fun a b => ?_, fun a b d => ?_⟩
 ·have := I.vals a.kind b.kind; have := I.vals a.num b.num; have := S.vals a.str.data.toList b.str.data.toList
  simp only [valCmp, orI]; (repeat' split) <;> omega
 ·have := I.anti a.kind b.kind; have := I.anti a.num b.num; have := S.anti a.str.data.toList b.str.data.toList
  simp only [valCmp, orI]; (repeat' split) <;> omega
 ·have h1 := I.zero a.kind b.kind; have h2 := I.zero a.num b.num; have h3 := S.zero a.str.data.toList b.str.data.toList
  constructor
  ·intro h
   simp only [valCmp, orI] at h
   have e1 : cmpI a.kind b.kind = 0 := by revert h; (repeat' split) <;> omega
   have e2 : cmpI a.num b.num = 0 := by revert h; (repeat' split) <;> omega
   have e3 : cmpS a.str.data.toList b.str.data.toList = 0 := by revert h; (repeat' split) <;> omega
   obtain ⟨ak, an, ⟨⟨asv⟩⟩⟩ := a
   obtain ⟨bk, bn, ⟨⟨bl⟩⟩⟩ := b
   have q1 := h1.1 e1; have q2 := h2.1 e2; have q3 := h3.1 e3
   simp only at q1 q2 q3
   subst q1 q2 q3; rfl
  ·rintro rfl
   simp only [valCmp, orI]
   rw [if_pos (h1.2 rfl), if_pos (h2.2 rfl), if_pos (h3.2 rfl)]
 ·intro h1 h2
  have a1 := I.trans a.kind b.kind d.kind; have a2 := I.trans a.num b.num d.num; have a3 := S.trans a.str.data.toList b.str.data.toList d.str.data.toList
  have v1 := I.vals a.kind b.kind; have v2 := I.vals b.kind d.kind; have v3 := I.vals a.num b.num; have v4 := I.vals b.num d.num
  have z1 := I.zero a.kind b.kind; have z2 := I.zero b.kind d.kind; have z3 := I.zero a.num b.num; have z4 := I.zero b.num d.num
  have z5 := I.zero a.kind d.kind; have z6 := I.zero a.num d.num
  simp only [valCmp, orI] at *
  by_cases k1 : a.kind = b.kind <;> by_cases k2 : b.kind = d.kind <;> by_cases n1 : a.num = b.num <;> by_cases n2 : b.num = d.num <;> simp_all <;> (repeat' split) <;> omega
def letterB (b : UInt8) : Bool := decide (97 ≤ b.toNat ∧ b.toNat ≤ 122)
def restB (b : UInt8) : Bool := decide (97 ≤ b.toNat ∧ b.toNat ≤ 122 ∨ 48 ≤ b.toNat ∧ b.toNat ≤ 57 ∨ b.toNat = 95)
def nameL : List UInt8 → Bool
 | [] => false
 | b :: r => letterB b && r.all restB
def nameB (s : ByteArray) : Bool := decide (s.size ≤ 24) && nameL s.data.toList
theorem get!_of {s : ByteArray} {p : Nat} {b : UInt8} (h : s.data.toList[p]? = some b) : s.get! p = b := by
 obtain ⟨⟨l⟩⟩ := s
 simp at h
 simp [ByteArray.get!, h]
theorem decode_ascii {s : ByteArray} {p : Nat} {b : UInt8} (h : s.data.toList[p]? = some b) (hb : b.toNat < 128) : Utf8.decode s p = (b.toNat, 1) := by
 unfold Utf8.decode
 simp only [Nat.add_zero, get!_of h]
 rw [if_pos hb]
theorem decode_big {s : ByteArray} {p : Nat} {b : UInt8} (h : s.data.toList[p]? = some b) (hb : ¬ b.toNat < 128) : 128 ≤ (Utf8.decode s p).1 := by
 unfold Utf8.decode
 simp only [Nat.add_zero, get!_of h]
 rw [if_neg hb]
 (repeat' split) <;> simp only [Utf8.runeError, Bool.and_eq_true, decide_eq_true_eq] at * <;> omega
theorem str_get {s : ByteArray} {p : Nat} (h : p < s.size) : ∃ b, s.data.toList[p]? = some b ∧ s.data.toList.drop p = b :: s.data.toList.drop (p + 1) := by
 have hl : p < s.data.toList.length := by simpa using h
 exact ⟨_, List.getElem?_eq_getElem hl, List.drop_eq_getElem_cons hl⟩
set_option maxRecDepth 20000 in
theorem schema_IsName_spec {P : Program} (F : F_z17 P) (s : ByteArray) (H : List AObj) :
  ACalls P F.id [.str s] H (fun r H' => r = .bool (nameB s) ∧ H' = H) := by
 refine ACalls.pure rfl (acalls_of_body F.has ?_)
 (conv => whnf); refine recA (fun h0 => ?_) (fun h0 => ?_)
 ·simp at h0
  conv => whnf
  exact pubB (by simp [nameB]; omega)
 simp at h0
 conv => whnf
 refine ⟨fun m ρ H => ∃ p : Nat, p + m = s.size ∧ (0 < p → nameB s = (s.data.toList.drop p).all restB) ∧ H = [.iter s p] ∧ Sv 41 [(0, .str s), (10, .it 0)] ρ, s.size, [], ?_, ?_⟩
 ·exact ⟨0, by omega, by omega, rfl, Sv.intro rfl ⟨rfl, rfl, trivial⟩⟩
 rintro m ρ H ⟨p, hp, hr, rfl, d, rfl⟩
 (conv => whnf); refine recA (fun hlt => ?_) (fun hlt => ?_)
 ·simp at hlt
  obtain ⟨b, hb, hd⟩ := str_get hlt
  
  have h0n : p = 0 → nameB s = (letterB b && (s.data.toList.drop (p + 1)).all restB) := by
   rintro rfl
   rw [List.drop_zero] at hd
   have : nameL s.data.toList = (letterB b && (s.data.toList.drop (0 + 1)).all restB) := by
    conv => lhs; rw [hd]
    rfl
   rw [nameB, this, decide_eq_true (by omega), Bool.true_and]
  have hno : (if p = 0 then letterB b else restB b) = false → nameB s = false := by
   intro h
   by_cases h1 : p = 0
   ·rw [if_pos h1] at h
    rw [h0n h1, h]; rfl
   ·rw [if_neg h1] at h
    rw [hr (by omega), hd, List.all_cons, h]; rfl
  have hyes : (if p = 0 then letterB b else restB b) = true → nameB s = (s.data.toList.drop (p + 1)).all restB := by
   intro h
   by_cases h1 : p = 0
   ·rw [if_pos h1] at h
    rw [h0n h1, h]; rfl
   ·rw [if_neg h1] at h
    rw [hr (by omega), hd, List.all_cons, h]; rfl
  by_cases hb1 : b.toNat < 128
  ·have hdec := decode_ascii hb hb1
   have e1 : ((Utf8.decode s p).1 : Int) = b.toNat := by rw [hdec]
   have e2 : p + (Utf8.decode s p).2 = p + 1 := by rw [hdec]
   repeat' ((conv => whnf); refine recA (fun h => ?_) (fun h => ?_))
   all_goals conv => whnf
   all_goals first
    | refine ⟨m - 1, by omega, Gp.keep rfl ?_ fun ρ1 h => ⟨p + 1, by omega, fun _ => hyes ?_, by rw [e2], h⟩⟩
    | refine pubB (hno ?_).symm
   all_goals first
    | exact ⟨rfl, rfl, trivial⟩
    | skip
   all_goals
    (simp only [e1] at *)
    clear hno hyes h0n hr hd
    by_cases hp0 : p = 0 <;> simp [letterB, restB, hp0] at * <;> omega
  ·have hdec := decode_big hb hb1
   have hn1 : letterB b = false := by simp [letterB]; omega
   have hn2 : restB b = false := by simp [restB]; omega
   have hz : nameB s = false := hno (by split; exact hn1; exact hn2)
   repeat' ((conv => whnf); refine recA (fun h => ?_) (fun h => ?_))
   all_goals conv => whnf
   all_goals first
    | exact pubB hz.symm
    | (exfalso; simp at *; omega)
 ·have hlt2 : ¬ p < s.size := of_decide_eq_false hlt
  have hl0 : s.data.toList.length = s.size := by simp
  conv => whnf
  refine pubB ?_
  show (!(s.data.toList == [])) = _
  by_cases h1 : p = 0
  ·have : s.data.toList = [] := List.eq_nil_of_length_eq_zero (by omega)
   simp [nameB, this, nameL]
  ·rw [hr (by omega), List.drop_eq_nil_of_le (by omega)]
   cases hs : s.data.toList with
   | nil => rw [hs] at hl0; simp at hl0; omega
   | cons b r => rfl
theorem str_at {s : ByteArray} {p : Nat} {b : UInt8} {q : Nat} (h : s.data.toList[p]? = some b) (hq : q = p) : s.data.toList[q]? = some b := by subst hq; exact h
set_option maxRecDepth 20000 in
theorem ref5_IsName_spec {P : Program} (F : F_z3h P) (s : ByteArray) (H : List AObj) :
  ACalls P F.id [.str s] H (fun r H' => r = .bool (nameB s) ∧ H' = H) := by
 refine ACalls.pure rfl (acalls_of_body F.has ?_)
 have hl0 : s.data.toList.length = s.size := by simp
 (conv => whnf); refine recA (fun h0 => ?_) (fun h0 => ?_)
 ·have h0 := of_decide_eq_true h0
  conv => whnf
  have : s.data.toList = [] := List.eq_nil_of_length_eq_zero (by omega)
  exact pubB (by simp [nameB, this, nameL])
 have h0 := of_decide_eq_false h0
 (conv => whnf); refine recA (fun h1 => ?_) (fun h1 => ?_)
 ·have h1 := of_decide_eq_true h1
  conv => whnf
  exact pubB (by rw [nameB, decide_eq_false (by omega)]; rfl)
 have h1 := of_decide_eq_false h1
 obtain ⟨a, ha, hd0⟩ := str_get (show 0 < s.size by omega)
 have hn : nameB s = (letterB a && (s.data.toList.drop 1).all restB) := by
  rw [List.drop_zero] at hd0
  have : nameL s.data.toList = (letterB a && (s.data.toList.drop (0 + 1)).all restB) := by
   conv => lhs; rw [hd0]
   rfl
  rw [nameB, this, decide_eq_true (by omega), Bool.true_and]
 conv => whnf
 refine And.intro (by decide) ?_
 (conv => whnf); refine recO ha ?_
 (conv => whnf); refine recA (fun h2 => ?_) (fun h2 => ?_)
 ·have h2 := of_decide_eq_true h2
  conv => whnf
  exact pubB (by rw [hn]; simp [letterB]; omega)
 have h2 := of_decide_eq_false h2
 conv => whnf
 refine And.intro (by decide) ?_
 (conv => whnf); refine recO ha ?_
 (conv => whnf); refine recA (fun h3 => ?_) (fun h3 => ?_)
 ·have h3 := of_decide_eq_true h3
  conv => whnf
  exact pubB (by rw [hn]; simp [letterB]; omega)
 have h3 := of_decide_eq_false h3
 have hla : letterB a = true := by simp [letterB]; omega
 have hra : restB a = true := by simp [restB]; omega
 have hn2 : nameB s = s.data.toList.all restB := by
  rw [hn, hla, Bool.true_and]
  rw [List.drop_zero] at hd0
  conv => rhs; rw [hd0, List.all_cons, hra, Bool.true_and]
 conv => whnf
 refine ⟨fun m ρ H => ∃ k : Nat, k + m = s.size ∧ nameB s = (s.data.toList.drop k).all restB ∧ H = [] ∧ Sv 58 [(0, .str s), (3, .int .i64 k)] ρ, s.size, [], ?_, ?_⟩
 ·exact ⟨0, by omega, hn2, rfl, Sv.intro rfl ⟨rfl, rfl, trivial⟩⟩
 rintro m ρ H ⟨k, hk, hr, rfl, d, rfl⟩
 (conv => whnf); refine recA (fun hlt => ?_) (fun hlt => ?_)
 ·simp at hlt
  obtain ⟨b, hb, hd⟩ := str_get hlt
  rw [hd, List.all_cons] at hr
  repeat' ((conv => whnf); first | refine And.intro (by omega) ?_ | refine recO (str_at hb (by rfl)) ?_ | refine recA (fun h => ?_) (fun h => ?_))
  all_goals conv => whnf
  all_goals first
   | refine ⟨m - 1, by omega, Gp.keep rfl ?_ fun ρ1 h => ⟨k + 1, by omega, ?_, rfl, h⟩⟩
   | refine pubB ?_
  all_goals first
   | exact ⟨rfl, intEq (wrapI ((k : Int) + 1) (by omega) (by omega)), trivial⟩
   | skip
  all_goals
   rw [hr]
   have hx : restB b = true ∨ restB b = false := by cases restB b <;> simp
   rcases hx with hx | hx <;> rw [hx] <;> (first | rfl | (exfalso; simp [restB] at *; omega))
 ·have hlt2 : ¬ (k : Int) < s.size := of_decide_eq_false hlt
  conv => whnf
  rw [List.drop_eq_nil_of_le (by omega)] at hr
  exact pubB hr.symm
open Go.Lib (indexByte)
theorem ib_at : ∀ {l : List UInt8} {c : UInt8} {i : Nat}, l[i]? = some c → (∀ j, j < i → l[j]? ≠ some c) → indexByte l c = i
 | [], _, _, h, _ => by simp at h
 | b :: l, c, 0, h, _ => by simp at h; subst h; simp [indexByte]
 | b :: l, c, i + 1, h, hb => by
  have h0 := hb 0 (by omega)
  simp at h0
  have := ib_at (l := l) (i := i) (by simpa using h) fun j hj => by have := hb (j + 1) (by omega); simpa using this
  simp only [indexByte, this, beq_iff_eq, h0, if_false]
  rw [if_neg (by omega)]
  rfl
theorem ib_none : ∀ {l : List UInt8} {c : UInt8}, (∀ j : Nat, l[j]? ≠ some c) → indexByte l c = -1
 | [], _, _ => rfl
 | b :: l, c, h => by
  have h0 := h 0
  simp at h0
  have := ib_none (l := l) fun j => by have := h (j + 1); simpa using this
  simp [indexByte, this, h0]
theorem ib_cases : ∀ (l : List UInt8) (c : UInt8), indexByte l c = -1 ∨ ∃ i : Nat, indexByte l c = i ∧ i < l.length
 | [], _ => .inl rfl
 | b :: l, c => by
  simp only [indexByte]
  split
  ·exact .inr ⟨0, rfl, by simp⟩
  ·rcases ib_cases l c with h | ⟨i, h, hl⟩
   ·rw [if_pos (by simp [h])]; exact .inl rfl
   ·rw [if_neg (by simp [h]), h]; exact .inr ⟨i + 1, by omega, by simpa using hl⟩
def dotAt (s : ByteArray) : Int := indexByte s.data.toList 46
def qualB (s : ByteArray) : Bool :=
 if 0 ≤ dotAt s then nameB (s.extract 0 (dotAt s).toNat) && nameB (s.extract (dotAt s + 1).toNat s.size) else nameB s
set_option maxRecDepth 20000 in
theorem ref5_IsQualified_spec {P : Program} (F : F_z3i P) (s : ByteArray) (hs : s.size ≤ 1000000) (H : List AObj) :
  ACalls P F.id [.str s] H (fun r H' => r = .bool (qualB s) ∧ H' = H) := by
 refine ACalls.pure rfl (acalls_of_body F.has ?_)
 conv => whnf
 refine ⟨fun m ρ H => ∃ k : Nat, k + m = s.size ∧ (∀ j, j < k → s.data.toList[j]? ≠ some 46) ∧ H = [] ∧ Sv 27 [(0, .str s), (3, .int .i64 k)] ρ, s.size, [], ?_, ?_⟩
 ·exact ⟨0, by omega, by omega, rfl, Sv.intro rfl ⟨rfl, rfl, trivial⟩⟩
 rintro m ρ H ⟨k, hk, hr, rfl, d, rfl⟩
 (conv => whnf); refine recA (fun hlt => ?_) (fun hlt => ?_)
 ·simp at hlt
  obtain ⟨b, hb, hd⟩ := str_get hlt
  conv => whnf
  refine And.intro (by omega) ?_
  (conv => whnf); refine recO (str_at hb (by rfl)) ?_
  (conv => whnf); refine recA (fun h => ?_) (fun hne => ?_)
  ·have hbe : b = 46 := by
    have h : (b.toNat : Int) = 46 := by simpa using h
    apply UInt8.toNat_inj.1
    show b.toNat = 46
    omega
   subst hbe
   have hdot : dotAt s = k := ib_at hb hr
   have e1 : IntKind.i64.wrap ((k : Int) + 1) = k + 1 := wrapI _ (by omega) (by omega)
   conv => whnf
   refine And.intro (by omega) ?_
   (conv => whnf); refine ACalls.use (ref5_IsName_spec F.z3h _ _) ?_
   (conv => whnf); refine recA (fun h1 => ?_) (fun h1 => ?_)
   ·conv => whnf
    refine And.intro (by rw [e1]; omega) ?_
    (conv => whnf); refine ACalls.use (ref5_IsName_spec F.z3h _ _) ?_
    conv => whnf
    refine pubB ?_
    replace h1 : nameB (s.extract 0 (k : Int).toNat) = true := h1
    rw [qualB, hdot, if_pos (by omega), h1, Bool.true_and]
    show nameB (s.extract (IntKind.i64.wrap ((k : Int) + 1)).toNat s.size) = _
    rw [e1]
   ·conv => whnf
    refine pubB ?_
    replace h1 : nameB (s.extract 0 (k : Int).toNat) = false := h1
    rw [qualB, hdot, if_pos (by omega), h1]; rfl
  ·conv => whnf
   refine ⟨m - 1, by omega, Gp.keep rfl ?_ fun ρ1 h => ⟨k + 1, by omega, fun j hj => ?_, rfl, h⟩⟩
   ·exact ⟨rfl, intEq (wrapI ((k : Int) + 1) (by omega) (by omega)), trivial⟩
   ·rcases Nat.lt_succ_iff_lt_or_eq.1 hj with h1 | rfl
    ·exact hr j h1
    ·rw [hb]
     intro h2
     cases h2
     exact absurd hne (by decide)
 ·have hlt2 : ¬ (k : Int) < s.size := of_decide_eq_false hlt
  conv => whnf
  refine ACalls.use (ref5_IsName_spec F.z3h _ _) ?_
  conv => whnf
  refine pubB ?_
  have : dotAt s = -1 := ib_none fun j => by
   by_cases hj : j < k
   ·exact hr j hj
   ·rw [List.getElem?_eq_none (by simp; omega)]; simp
  rw [qualB, this, if_neg (by omega)]
theorem sliteIndexByte_spec {P : Program} (F : F_z20 P) (s : ByteArray) (c : Int) (H : List AObj) :
  ACalls P F.id [.str s, .int .u8 c] H (fun r H' => r = .int .i64 (indexByte s.data.toList c.toNat.toUInt8) ∧ H' = H) := by
 refine ACalls.pure rfl (acalls_of_body F.has ?_)
 conv => whnf
 refine ACalls.use (indexByteString_spec F.z09.has s c _) ?_
 conv => whnf
 exact .closed _ rfl
set_option maxRecDepth 20000 in
theorem sliteIndex_spec {P : Program} (F : F_z1z P) (s : ByteArray) (H : List AObj) :
  ACalls P F.id [.str s, .str (bs [46])] H (fun r H' => r = .int .i64 (dotAt s) ∧ H' = H) := by
 refine ACalls.pure rfl (acalls_of_body F.has ?_)
 (conv => whnf); refine recA (fun h => ?_) (fun h => ?_)
 ·conv => whnf
  refine pubI ?_
  have h : (bs [46]).data.toList = s.data.toList := by simpa using h
  rw [dotAt, ← h]; rfl
 ·conv => whnf
  refine And.intro (by decide) ?_
  conv => whnf
  refine ACalls.use (sliteIndexByte_spec F.z20 s _ _) ?_
  conv => whnf
  exact pubI rfl
def cutR (s : ByteArray) : AVal :=
 if 0 ≤ dotAt s then .tuple [.str (s.extract 0 (dotAt s).toNat), .str (s.extract (dotAt s + 1).toNat s.size), .bool true] else .tuple [.str s, .str (bs []), .bool false]
theorem pub3 {H1 : List AObj} {n : Nat} {ids : List Nat} {a b c r s t : AVal} (h1 : Pub H1 n ids a r) (h2 : Pub H1 n ids b s) (h3 : Pub H1 n ids c t) : Pub H1 n ids (.tuple [a, b, c]) (.tuple [r, s, t]) := by
 refine .tuple _ _ rfl fun i v u h4 h5 => ?_
 rcases i with _ | _ | _ | i
 ·cases h4; cases h5; exact h1
 ·cases h4; cases h5; exact h2
 ·cases h4; cases h5; exact h3
 ·simp at h4
set_option maxRecDepth 20000 in
theorem sliteCut_spec {P : Program} (F : F_z1y P) (s : ByteArray) (hs : s.size ≤ 1000000) (H : List AObj) :
  ACalls P F.id [.str s, .str (bs [46])] H (fun r H' => r = cutR s ∧ H' = H) := by
 refine ACalls.pure rfl (acalls_of_body F.has ?_)
 conv => whnf
 refine ACalls.use (sliteIndex_spec F.z1z s _) ?_
 have hl0 : s.data.toList.length = s.size := by simp
 have hc := ib_cases s.data.toList 46
 (conv => whnf); refine recA (fun h => ?_) (fun h => ?_)
 ·have h : 0 ≤ dotAt s := of_decide_eq_true h
  have hlt : dotAt s < s.size := by
   rcases hc with h1 | ⟨i, h1, h2⟩
   ·have : dotAt s = -1 := h1
    omega
   ·have : dotAt s = i := h1
    omega
  have e1 : IntKind.i64.wrap (dotAt s + ((bs [46]).size : Nat)) = dotAt s + 1 := wrapI _ (by show -9223372036854775808 ≤ dotAt s + 1; omega) (by show dotAt s + 1 ≤ _; omega)
  conv => whnf
  refine And.intro (by omega) ?_
  conv => whnf
  refine And.intro (by rw [e1]; omega) ?_
  conv => whnf
  rw [cutR, if_pos h]
  refine pub3 (.closed _ rfl) (pubEq ?_ rfl) (.closed _ rfl)
  rw [e1]
 ·have h : ¬ 0 ≤ dotAt s := of_decide_eq_false h
  conv => whnf
  rw [cutR, if_neg h]
  exact pub3 (.closed _ rfl) (.closed _ rfl) (.closed _ rfl)
set_option maxRecDepth 20000 in
theorem stringsCut_spec {P : Program} (F : F_z1x P) (s : ByteArray) (hs : s.size ≤ 1000000) (H : List AObj) :
  ACalls P F.id [.str s, .str (bs [46])] H (fun r H' => r = cutR s ∧ H' = H) := by
 refine ACalls.pure rfl (acalls_of_body F.has ?_)
 conv => whnf
 refine ACalls.use (sliteCut_spec F.z1y s hs _) ?_
 unfold cutR
 split
 all_goals
  conv => whnf
  exact pub3 (.closed _ rfl) (.closed _ rfl) (.closed _ rfl)
set_option maxRecDepth 20000 in
theorem schema_IsQualified_spec {P : Program} (F : F_z18 P) (s : ByteArray) (hs : s.size ≤ 1000000) (H : List AObj) :
  ACalls P F.id [.str s] H (fun r H' => r = .bool (qualB s) ∧ H' = H) := by
 refine ACalls.pure rfl (acalls_of_body F.has ?_)
 conv => whnf
 refine ACalls.use (stringsCut_spec F.z1x s hs _) ?_
 unfold cutR
 split
 ·rename_i h
  conv => whnf
  refine ACalls.use (schema_IsName_spec F.z17 _ _) ?_
  (conv => whnf); refine recA (fun h1 => ?_) (fun h1 => ?_)
  ·conv => whnf
   refine ACalls.use (schema_IsName_spec F.z17 _ _) ?_
   conv => whnf
   exact pubB (by rw [qualB, if_pos h, h1, Bool.true_and])
  ·conv => whnf
   exact pubB (by rw [qualB, if_pos h, h1]; rfl)
 ·rename_i h
  conv => whnf
  refine ACalls.use (schema_IsName_spec F.z17 _ _) ?_
  (conv => whnf); refine recA (fun h1 => ?_) (fun h1 => ?_)
  ·conv => whnf
   exact pubB (by rw [qualB, if_neg h, h1])
  ·conv => whnf
   exact pubB (by rw [qualB, if_neg h, h1])
structure Col where
 name : ByteArray
 kind : Int
 nul : Bool
def colC (c : Col) : List AVal := [.str c.name, .int .i64 c.kind, .bool c.nul]
def cC (cs : List Col) : List (List AVal) := cs.map colC
theorem cC_length (l : List Col) : (cC l).length = l.length := List.length_map ..
theorem cC_append (a b : List Col) : cC (a ++ b) = cC a ++ cC b := List.map_append
theorem pureEs_cC (l : List Col) : pureEs (cC l) = true := by simp [pureEs, cC, colC, AVal.isPure]
theorem cC_at {l : List Col} {k : Nat} {x : Col} (h : l[k]? = some x) : (cC l)[k]? = some (colC x) := by
 rw [cC, List.getElem?_map, h]; rfl
def idxOf {α : Type} (p : α → Bool) : List α → Int → Int
 | [], _ => -1
 | c :: cs, i => if p c then i else idxOf p cs (i + 1)
def named (name : ByteArray) (c : Col) : Bool := c.name.data.toList == name.data.toList
def colIdx (cs : List Col) (name : ByteArray) : Int := idxOf (named name) cs 0
set_option maxRecDepth 20000 in
theorem IndexFunc_spec {P : Program} (F : F_z1j P) (g : FuncId) (caps : List AVal) (p : Col → Bool) (H : List AObj) (hg : ∀ c : Col, ACalls P g ([.agg (colC c)] ++ caps) H (fun r H' => r = .bool (p c) ∧ H' = H))
  (ex : Bool) (cs : List Col) (hl : cs.length ≤ 1000000) :
  ACalls P F.id [.list ex 3 (cC cs), .fn g caps] H (fun r H' => r = .int .i64 (idxOf p cs 0) ∧ H' = H) := by
 refine acalls_of_body F.has ?_
 conv => whnf
 refine ⟨fun m ρ H1 => ∃ k : Nat, k + m = cs.length ∧ idxOf p (cs.drop k) k = idxOf p cs 0 ∧ H1 = H ∧
  Sv 19 [(0, .list ex 3 (cC cs)), (1, .fn g caps), (7, .int .i64 cs.length), (8, .int .i64 k)] ρ, cs.length, [], ?_, ?_⟩
 ·exact ⟨0, by omega, rfl, rfl, Sv.intro rfl ⟨rfl, rfl, intEq (by rw [cC_length]), rfl, trivial⟩⟩
 rintro m ρ H1 ⟨k, hk, hr, rfl, d, rfl⟩
 (conv => whnf); refine recA (fun hlt => ?_) (fun hlt => ?_)
 ·simp at hlt
  obtain ⟨c, hc, hd, _⟩ := get_drop hlt
  rw [hd] at hr
  conv => whnf
  refine And.intro (by omega) ?_
  (conv => whnf); refine recO (cC_at hc) ?_
  conv => whnf
  refine ACalls.use (hg c) ?_
  (conv => whnf); refine recA (fun h => ?_) (fun hf => ?_)
  ·conv => whnf
   refine ⟨intEq ?_, rfl⟩
   rw [← hr, idxOf, if_pos h]
  ·conv => whnf
   refine ⟨m - 1, by omega, Gp.keep rfl ?_ fun ρ1 h => ⟨k + 1, by omega, ?_, rfl, h⟩⟩
   ·exact ⟨rfl, rfl, rfl, intEq (wrapI ((k : Int) + 1) (by omega) (by omega)), trivial⟩
   ·rw [← hr, idxOf, if_neg (by rw [hf]; simp)]; rfl
 ·simp at hlt
  conv => whnf
  rw [List.drop_eq_nil_of_le hlt] at hr
  exact ⟨intEq hr, rfl⟩
set_option maxRecDepth 20000 in
theorem Index_1_spec {P : Program} (F : F_z16 P) (c : Col) (name : ByteArray) :
  ACalls P F.id ([.agg (colC c)] ++ [.ptr 0 1 0 0]) [.arr 1 [[.str name]]] (fun r H' => r = .bool (named name c) ∧ H' = [.arr 1 [[.str name]]]) := by
 refine ACalls.drop rfl (acalls_of_body F.has ?_)
 conv => whnf
 exact ⟨rfl, _, rfl⟩
set_option maxRecDepth 20000 in
theorem schema_Index_spec {P : Program} (F : F_z15 P) (ex : Bool) (cs : List Col) (hl : cs.length ≤ 1000000) (name : ByteArray) (H : List AObj) :
  ACalls P F.id [.list ex 3 (cC cs), .str name] H (fun r H' => r = .int .i64 (colIdx cs name) ∧ H' = H) := by
 refine ACalls.pure (by simp [AVal.closed, AVal.isPure]) (acalls_of_body F.has ?_)
 conv => whnf
 refine ACalls.use (IndexFunc_spec F.z1j _ _ (named name) _ (fun c => Index_1_spec F.z16 c name) ex cs hl) ?_
 conv => whnf
 exact .closed _ rfl
set_option maxRecDepth 20000 in
theorem ref5_Index_spec {P : Program} (F : F_z3g P) (ex : Bool) (cs : List Col) (hl : cs.length ≤ 1000000) (name : ByteArray) (H : List AObj) :
  ACalls P F.id [.list ex 3 (cC cs), .str name] H (fun r H' => r = .int .i64 (colIdx cs name) ∧ H' = H) := by
 refine ACalls.pure (by simp [AVal.closed, AVal.isPure]) (acalls_of_body F.has ?_)
 conv => whnf
 refine ⟨fun m ρ H1 => ∃ k : Nat, k + m = cs.length ∧ idxOf (named name) (cs.drop k) k = colIdx cs name ∧ H1 = [] ∧
  Sv 20 [(0, .list ex 3 (cC cs)), (1, .str name), (5, .int .i64 k)] ρ, cs.length, [], ?_, ?_⟩
 ·exact ⟨0, by omega, rfl, rfl, Sv.intro rfl ⟨rfl, rfl, rfl, trivial⟩⟩
 rintro m ρ H1 ⟨k, hk, hr, rfl, d, rfl⟩
 (conv => whnf); refine recA (fun hlt => ?_) (fun hlt => ?_)
 ·simp [cC_length] at hlt
  obtain ⟨c, hc, hd, _⟩ := get_drop hlt
  rw [hd] at hr
  conv => whnf
  refine And.intro (by omega) ?_
  (conv => whnf); refine recO (cC_at hc) ?_
  (conv => whnf); refine recA (fun h => ?_) (fun hf => ?_)
  ·conv => whnf
   refine pubI ?_
   rw [← hr, idxOf, if_pos (show named name c = true from h)]
  ·conv => whnf
   refine ⟨m - 1, by omega, Gp.keep rfl ?_ fun ρ1 h => ⟨k + 1, by omega, ?_, rfl, h⟩⟩
   ·exact ⟨rfl, rfl, intEq (wrapI ((k : Int) + 1) (by omega) (by omega)), trivial⟩
   ·rw [← hr, idxOf, if_neg (by rw [show named name c = false from hf]; simp)]; rfl
 ·simp [cC_length] at hlt
  conv => whnf
  rw [List.drop_eq_nil_of_le hlt] at hr
  exact pubI hr
def badB (c : Col) (v : V) : Bool := (v.kind == 0 && !c.nul) || (v.kind != 0 && v.kind != c.kind)
def chkGo : List Col → List V → Int
 | c :: cs, v :: rs => if validB v = false then 8 else if badB c v = true then 7 else chkGo cs rs
 | _, _ => 0
def chkRow (cs : List Col) (rs : List V) : Int := if rs.length = cs.length then chkGo cs rs else 8
set_option maxRecDepth 20000 in
theorem schema_CheckRow_spec {P : Program} (F : F_z14 P) (e1 e2 : Bool) (cs : List Col) (rs : List V) (hl : rs.length ≤ 1000000) (H : List AObj) :
  ACalls P F.id [.list e1 3 (cC cs), .list e2 3 (vC rs)] H (fun r H' => r = .int .i64 (chkRow cs rs) ∧ H' = H) := by
 refine ACalls.pure rfl (acalls_of_body F.has ?_)
 (conv => whnf); refine recA (fun h0 => ?_) (fun h0 => ?_)
 ·simp [vC_length, cC_length] at h0
  conv => whnf
  exact pubI (by rw [chkRow, if_neg (by omega)])
 simp [vC_length, cC_length] at h0
 have hR : chkRow cs rs = chkGo cs rs := by rw [chkRow, if_pos (by omega)]
 conv => whnf
 refine ⟨fun m ρ H1 => ∃ k : Nat, k + m = rs.length ∧ chkGo (cs.drop k) (rs.drop k) = chkRow cs rs ∧ H1 = [] ∧
  Sv 48 [(0, .list e1 3 (cC cs)), (13, .list e2 3 (vC rs)), (14, .int .i64 rs.length), (15, .int .i64 k)] ρ, rs.length, [], ?_, ?_⟩
 ·exact ⟨0, by omega, hR.symm, rfl, Sv.intro rfl ⟨rfl, rfl, intEq (by rw [vC_length]), rfl, trivial⟩⟩
 rintro m ρ H1 ⟨k, hk, hr, rfl, d, rfl⟩
 (conv => whnf); refine recA (fun hlt => ?_) (fun hlt => ?_)
 ·simp at hlt
  obtain ⟨v, hv, hdv, _⟩ := get_drop hlt
  obtain ⟨c, hc, hdc, _⟩ := get_drop (show k < cs.length by omega)
  rw [hdv, hdc, chkGo] at hr
  repeat' ((conv => whnf); first | refine And.intro (by omega) ?_ | refine recO (vC_at hv) ?_ | refine recO (cC_at hc) ?_ | refine ACalls.use (value_Valid_spec F.z24 v _) ?_ | refine recA (fun h => ?_) (fun h => ?_))
  all_goals (conv => whnf)
  all_goals first
   | refine ⟨m - 1, by omega, Gp.none rfl ?_ fun ρ1 h => ⟨k + 1, by omega, ?_, rfl, h⟩⟩
   | refine pubI ?_
  all_goals first
   | exact ⟨.closed _ rfl, .closed _ rfl, .closed _ rfl, pub_int (wrapI ((k : Int) + 1) (by omega) (by omega)), trivial⟩
   | skip
  all_goals
   rw [← hr]
   simp_all [badB]
 ·simp at hlt
  conv => whnf
  rw [List.drop_eq_nil_of_le (show cs.length ≤ k by omega)] at hr
  exact pubI hr
set_option maxRecDepth 20000 in
theorem ref5_CheckRow_spec {P : Program} (F : F_z3f P) (e1 e2 : Bool) (cs : List Col) (rs : List V) (hl : rs.length ≤ 1000000) (H : List AObj) :
  ACalls P F.id [.list e1 3 (cC cs), .list e2 3 (vC rs)] H (fun r H' => r = .int .i64 (chkRow cs rs) ∧ H' = H) := by
 refine ACalls.pure rfl (acalls_of_body F.has ?_)
 (conv => whnf); refine recA (fun h0 => ?_) (fun h0 => ?_)
 ·simp [vC_length, cC_length] at h0
  conv => whnf
  exact pubI (by rw [chkRow, if_neg (by omega)])
 simp [vC_length, cC_length] at h0
 have hR : chkRow cs rs = chkGo cs rs := by rw [chkRow, if_pos (by omega)]
 conv => whnf
 refine ⟨fun m ρ H1 => ∃ k : Nat, k + m = rs.length ∧ chkGo (cs.drop k) (rs.drop k) = chkRow cs rs ∧ H1 = [] ∧
  Sv 58 [(0, .list e1 3 (cC cs)), (1, .list e2 3 (vC rs)), (5, .int .i64 k)] ρ, rs.length, [], ?_, ?_⟩
 ·exact ⟨0, by omega, hR.symm, rfl, Sv.intro rfl ⟨rfl, rfl, rfl, trivial⟩⟩
 rintro m ρ H1 ⟨k, hk, hr, rfl, d, rfl⟩
 (conv => whnf); refine recA (fun hlt => ?_) (fun hlt => ?_)
 ·simp [vC_length] at hlt
  obtain ⟨v, hv, hdv, _⟩ := get_drop hlt
  obtain ⟨c, hc, hdc, _⟩ := get_drop (show k < cs.length by omega)
  rw [hdv, hdc, chkGo] at hr
  repeat' ((conv => whnf); first | refine And.intro (by omega) ?_ | refine recO (vC_at hv) ?_ | refine recO (cC_at hc) ?_ | refine ACalls.use (ref1_Valid_spec F.z2e v _) ?_ | refine recA (fun h => ?_) (fun h => ?_))
  all_goals (conv => whnf)
  all_goals first
   | refine ⟨m - 1, by omega, Gp.none rfl ?_ fun ρ1 h => ⟨k + 1, by omega, ?_, rfl, h⟩⟩
   | refine pubI ?_
  all_goals first
   | exact ⟨.closed _ rfl, .closed _ rfl, pub_int (wrapI ((k : Int) + 1) (by omega) (by omega)), trivial⟩
   | skip
  all_goals
   rw [← hr]
   simp_all [badB]
 ·simp [vC_length] at hlt
  conv => whnf
  rw [List.drop_eq_nil_of_le (show cs.length ≤ k by omega)] at hr
  exact pubI hr
theorem ACalls.frz1 {P : Program} {f : FuncId} {args : List AVal} {n sz : Nat} {es : List (List AVal)} {H : List AObj} (ha : args.all AVal.closed = true) (h : ACalls P f args [] (fun r H1 => r = .sl 0 n 0 n ∧ H1 = [.arr sz es]))
  (hn : n = es.length) (hp : pureEs es = true) : ACalls P f args H (fun r H' => r = .list false sz es ∧ H' = H) := by
 refine ACalls.pure ha (h.mono ?_)
 rintro r H1 ⟨rfl, rfl⟩
 exact pubF rfl hn hn hp
def fillUp {α : Type} (W : List α) (z : α) (k : Nat) : List α := W.take k ++ List.replicate (W.length - k) z
theorem fillUp_length {α : Type} (W : List α) (z : α) (k : Nat) (h : k ≤ W.length) : (fillUp W z k).length = W.length := by simp [fillUp]; omega
theorem fillUp_zero {α : Type} (W : List α) (z : α) : fillUp W z 0 = List.replicate W.length z := by simp [fillUp]
theorem fillUp_all {α : Type} (W : List α) (z : α) : fillUp W z W.length = W := by simp [fillUp]
theorem fillUp_set {α : Type} (W : List α) (z : α) (k : Nat) (x : α) (h : W[k]? = some x) : (fillUp W z k).set k x = fillUp W z (k + 1) := by
 have hk := (List.getElem?_eq_some_iff.1 h).1
 unfold fillUp
 obtain ⟨m, hm⟩ : ∃ m, W.length - k = m + 1 := ⟨W.length - k - 1, by omega⟩
 have h1 : (W.take k).length = k := by simp; omega
 rw [hm, List.replicate_succ, List.set_append_right _ _ (by omega), h1, Nat.sub_self, List.set_cons_zero, List.take_add_one, h, show W.length - (k + 1) = m by omega]
 simp
theorem fillUp_get {α : Type} (W : List α) (z : α) (k : Nat) (hk : k < W.length) : (fillUp W z k)[k]? = some z := by
 have h1 : (W.take k).length = k := by simp; omega
 rw [fillUp, List.getElem?_append_right (by omega), h1, Nat.sub_self]
 obtain ⟨m, hm⟩ : ∃ m, W.length - k = m + 1 := ⟨W.length - k - 1, by omega⟩
 rw [hm, List.replicate_succ]; rfl
def zV : V := ⟨0, 0, bs []⟩
theorem setEs_vC (l : List V) (k : Nat) (v : V) : setEs (vC l) k (valC v) = vC (l.set k v) := by rw [setEs_eq]; simp [vC]
theorem u8_eq (n : Int) : u8 n = n % 256 := by
 show IntKind.u8.wrap n = _
 simp [IntKind.wrap, IntKind.signed, IntKind.bits]
theorem rowsCmp_zero : ∀ (a b : List V), rowsCmp a b = 0 ↔ a = b
 | [], [] => by simp [rowsCmp]
 | [], _ :: _ => by simp [rowsCmp]
 | _ :: _, [] => by simp [rowsCmp]
 | x :: a, y :: b => by
  have hz := isCmp_val.zero x y
  rw [rowsCmp]
  by_cases h : valCmp x y = 0
  ·rw [if_pos h, rowsCmp_zero a b, hz.1 h]; simp
  ·rw [if_neg h]
   constructor
   ·intro h2; exact absurd h2 h
   ·intro h2; simp at h2; exact absurd (hz.2 h2.1) h
def pickL {α : Type} (z : α) (l : List α) (is : List Int) : List α := is.map fun i => if 0 ≤ i ∧ i < (l.length : Int) then l.getD i.toNat z else z
theorem pickL_length {α : Type} (z : α) (l : List α) (is : List Int) : (pickL z l is).length = is.length := by simp [pickL]
theorem pickL_in {α : Type} (z : α) (l : List α) (is : List Int) (k : Nat) (i : Int) (x : α) (h : is[k]? = some i) (h0 : 0 ≤ i) (hx : l[i.toNat]? = some x) : (pickL z l is)[k]? = some x := by
 have hi := (List.getElem?_eq_some_iff.1 hx).1
 rw [pickL, List.getElem?_map, h, Option.map_some, if_pos ⟨h0, by omega⟩, List.getD_eq_getElem?_getD, hx]; rfl
theorem pickL_out {α : Type} (z : α) (l : List α) (is : List Int) (k : Nat) (i : Int) (h : is[k]? = some i) (h0 : ¬ (0 ≤ i ∧ i < (l.length : Int))) : (pickL z l is)[k]? = some z := by
 rw [pickL, List.getElem?_map, h, Option.map_some, if_neg h0]
theorem fillUp_skip {α : Type} (W : List α) (z : α) (k : Nat) (h : W[k]? = some z) : fillUp W z k = fillUp W z (k + 1) := by
 rw [← fillUp_set W z k z h]
 have hg := fillUp_get W z k (List.getElem?_eq_some_iff.1 h).1
 obtain ⟨hl, he⟩ := List.getElem?_eq_some_iff.1 hg
 conv => lhs; rw [← List.set_getElem_self hl]
 rw [he]
theorem iC_at {l : List Int} {k : Nat} {x : Int} (h : l[k]? = some x) : (iC l)[k]? = some [.int .i64 x] := by simp [iC, h]
set_option maxRecDepth 20000 in
theorem pick_Value_raw {P : Program} (F : F_z1b P) (e1 e2 : Bool) (r : List V) (is : List Int) (hr : r.length ≤ 1000000) (hl : is.length ≤ 1000000) :
  ACalls P F.id [.list e1 3 (vC r), .list e2 1 (iC is)] [] (fun q H' => q = .sl 0 is.length 0 is.length ∧ H' = [.arr 3 (vC (pickL zV r is))]) := by
 refine acalls_of_body F.has ?_
 conv => whnf
 refine And.intro ⟨by omega, by omega, by rw [iC_length]; show (is.length : Int) * 32 ≤ 1099511627776; omega, by rw [iC_length]; show (is.length : Int) ≤ 1099511627776; omega⟩ ?_
 conv => whnf
 refine ⟨fun m ρ H => ∃ k : Nat, k + m = is.length ∧ H = [.arr 3 (vC (fillUp (pickL zV r is) zV k))] ∧ Sv 35 [(0, .list e1 3 (vC r)), (5, .sl 0 is.length 0 is.length), (11, .list e2 1 (iC is)), (12, .int .i64 is.length), (13, .int .i64 k)] ρ, is.length, [], ?_, ?_⟩
 ·refine ⟨0, by omega, ?_, Sv.intro rfl ⟨rfl, slEq ?_ ?_, rfl, intEq (by rw [iC_length]), rfl, trivial⟩⟩
  ·rw [fillUp_zero, pickL_length]
   simp [vC, iC_length]; exact .inr rfl
  ·simp [iC_length]
  ·simp [iC_length]
 rintro m ρ H ⟨k, hk, rfl, d, rfl⟩
 (conv => whnf); refine recA (fun hlt => ?_) (fun hlt => ?_)
 ·simp at hlt
  obtain ⟨i, hi, _, _⟩ := get_drop hlt
  have hlen : (vC (fillUp (pickL zV r is) zV k)).length = is.length := by rw [vC_length, fillUp_length _ _ _ (by rw [pickL_length]; omega), pickL_length]
  have e1 := wrapI ((k : Int) + 1) (by omega) (by omega)
  conv => whnf
  refine And.intro (by omega) ?_
  (conv => whnf); refine recO (iC_at hi) ?_
  conv => whnf
  refine recA (fun h0 => ?_) (fun h0 => ?_)
  ·replace h0 : decide (i ≥ 0) = true := h0
   simp at h0
   (conv => whnf); refine recA (fun h1 => ?_) (fun h1 => ?_)
   ·replace h1 : decide (i < ((vC r).length : Int)) = true := h1
    simp [vC_length] at h1
    obtain ⟨x, hx, _, _⟩ := get_drop (l := r) (k := i.toNat) (by omega)
    have hw := pickL_in zV r is k i x hi h0 hx
    conv => whnf
    refine And.intro h0 ?_
    (conv => whnf); refine recO (vC_at hx) ?_
    (conv => whnf); refine recT (by rw [hlen]; exact Nat.beq_refl _) ?_
    conv => whnf
    refine And.intro ⟨by omega, by omega⟩ ?_
    (conv => whnf); refine recT (by rw [hlen]; exact Nat.beq_refl _) ?_
    conv => whnf
    have hidx : (vC (fillUp (pickL zV r is) zV k))[0 + (k : Int).toNat]? = some (valC zV) := by
     rw [Nat.zero_add, Int.toNat_natCast]
     exact vC_at (fillUp_get _ _ _ (by rw [pickL_length]; omega))
    refine recO hidx ?_
    conv => whnf
    refine ⟨m - 1, by omega, Gp.keep rfl ?_ fun ρ1 h => ⟨k + 1, by omega, ?_, h⟩⟩
    ·exact ⟨rfl, rfl, rfl, rfl, intEq e1, trivial⟩
    ·rw [← fillUp_set _ _ _ _ hw, ← setEs_vC]
     show [AObj.arr 3 (setEs (vC (fillUp (pickL zV r is) zV k)) (0 + (k : Int).toNat) (valC x))] = _
     rw [Nat.zero_add, Int.toNat_natCast]
   ·replace h1 : decide (i < ((vC r).length : Int)) = false := h1
    simp [vC_length] at h1
    conv => whnf
    refine ⟨m - 1, by omega, Gp.keep rfl ?_ fun ρ1 h => ⟨k + 1, by omega, ?_, h⟩⟩
    ·exact ⟨rfl, rfl, rfl, rfl, intEq e1, trivial⟩
    ·rw [← fillUp_skip _ _ _ (pickL_out zV r is k i hi (by omega))]
  ·replace h0 : decide (i ≥ 0) = false := h0
   simp at h0
   conv => whnf
   refine ⟨m - 1, by omega, Gp.keep rfl ?_ fun ρ1 h => ⟨k + 1, by omega, ?_, h⟩⟩
   ·exact ⟨rfl, rfl, rfl, rfl, intEq e1, trivial⟩
   ·rw [← fillUp_skip _ _ _ (pickL_out zV r is k i hi (by omega))]
 ·simp at hlt
  have : k = is.length := by omega
  subst this
  conv => whnf
  refine ⟨rfl, ?_⟩
  rw [← pickL_length zV r is, fillUp_all]
theorem pick_Value_spec {P : Program} (F : F_z1b P) (e1 e2 : Bool) (r : List V) (is : List Int) (hr : r.length ≤ 1000000) (hl : is.length ≤ 1000000) (H : List AObj) :
  ACalls P F.id [.list e1 3 (vC r), .list e2 1 (iC is)] H (fun q H' => q = .list false 3 (vC (pickL zV r is)) ∧ H' = H) :=
 ACalls.frz1 (by simp [AVal.closed, AVal.isPure]) (pick_Value_raw F e1 e2 r is hr hl) (by rw [vC_length, pickL_length]) (pureEs_vC _)
theorem schema_Pick_spec {P : Program} (F : F_z19 P) (e1 e2 : Bool) (r : List V) (is : List Int) (hr : r.length ≤ 1000000) (hl : is.length ≤ 1000000) (H : List AObj) :
  ACalls P F.id [.list e1 3 (vC r), .list e2 1 (iC is)] H (fun q H' => q = .list false 3 (vC (pickL zV r is)) ∧ H' = H) := by
 refine ACalls.pure (by simp [AVal.closed, AVal.isPure]) (acalls_of_body F.has ?_)
 (conv => whnf); refine ACalls.use (pick_Value_spec F.z1b e1 e2 r is hr hl _) ?_
 conv => whnf
 exact .closed _ rfl
theorem pureEs_iC (l : List Int) : pureEs (iC l) = true := by simp [pureEs, iC, AVal.isPure]
theorem iC_append (a b : List Int) : iC (a ++ b) = iC a ++ iC b := List.map_append
theorem Ghost.one {n : Nat} {live : List (Nat × AVal)} {ρ : List AVal} {H : List AObj} {I : List AVal → List AObj → Prop} (id : Nat) (sz : Nat) (es : List (List AVal)) (ho : H[id]? = .some (.arr sz es)) (hp : pureEs es = true) (hl : ρ.length = n) (h : SvPub H [id] ρ live) (hI : ∀ ρ1, Sv n live ρ1 → I ρ1 [.arr sz es]) : Ghost [] ρ H I :=
 ⟨Gp.one id sz es ho hp hl h hI⟩
def sC (l : List ByteArray) : List (List AVal) := l.map fun s => [.str s]
theorem sC_length (l : List ByteArray) : (sC l).length = l.length := List.length_map ..
theorem sC_at {l : List ByteArray} {k : Nat} {x : ByteArray} (h : l[k]? = some x) : (sC l)[k]? = some [.str x] := by simp [sC, h]
def eqS (s t : ByteArray) : Bool := s.data.toList == t.data.toList
set_option maxRecDepth 20000 in
theorem IndexS_spec {P : Program} (F : F_z1l P) (ex : Bool) (l : List ByteArray) (hl : l.length ≤ 1000000) (s : ByteArray) (H : List AObj) :
  ACalls P F.id [.list ex 1 (sC l), .str s] H (fun r H' => r = .int .i64 (idxOf (eqS s) l 0) ∧ H' = H) := by
 refine ACalls.pure (by simp [AVal.closed, AVal.isPure]) (acalls_of_body F.has ?_)
 conv => whnf
 refine ⟨fun m ρ H1 => ∃ k : Nat, k + m = l.length ∧ idxOf (eqS s) (l.drop k) k = idxOf (eqS s) l 0 ∧ H1 = [] ∧
  Sv 19 [(0, .list ex 1 (sC l)), (1, .str s), (7, .int .i64 l.length), (8, .int .i64 k)] ρ, l.length, [], ?_, ?_⟩
 ·exact ⟨0, by omega, rfl, rfl, Sv.intro rfl ⟨rfl, rfl, intEq (by rw [sC_length]), rfl, trivial⟩⟩
 rintro m ρ H1 ⟨k, hk, hr, rfl, d, rfl⟩
 (conv => whnf); refine recA (fun hlt => ?_) (fun hlt => ?_)
 ·simp at hlt
  obtain ⟨c, hc, hd, _⟩ := get_drop hlt
  rw [hd] at hr
  conv => whnf
  refine And.intro (by omega) ?_
  (conv => whnf); refine recO (sC_at hc) ?_
  (conv => whnf); refine recA (fun h => ?_) (fun hf => ?_)
  ·conv => whnf
   refine pubI ?_
   rw [← hr, idxOf, if_pos (show eqS s c = true from h)]
  ·conv => whnf
   refine ⟨m - 1, by omega, Gp.keep rfl ?_ fun ρ1 h => ⟨k + 1, by omega, ?_, rfl, h⟩⟩
   ·exact ⟨rfl, rfl, rfl, intEq (wrapI ((k : Int) + 1) (by omega) (by omega)), trivial⟩
   ·rw [← hr, idxOf, if_neg (by rw [show eqS s c = false from hf]; simp)]; rfl
 ·simp at hlt
  conv => whnf
  rw [List.drop_eq_nil_of_le hlt] at hr
  exact pubI hr
theorem idxOf_any {α : Type} (p : α → Bool) : ∀ (l : List α) (i : Int), 0 ≤ i → (idxOf p l i ≥ 0 ↔ l.any p = true)
 | [], i, h => by simp [idxOf]
 | c :: cs, i, h => by
  rw [idxOf]
  split
  ·simp_all
  ·rw [idxOf_any p cs (i + 1) (by omega)]; simp_all
set_option maxRecDepth 20000 in
theorem Contains_spec {P : Program} (F : F_z1i P) (ex : Bool) (l : List ByteArray) (hl : l.length ≤ 1000000) (s : ByteArray) (H : List AObj) :
  ACalls P F.id [.list ex 1 (sC l), .str s] H (fun r H' => r = .bool (l.any (eqS s)) ∧ H' = H) := by
 refine ACalls.pure (by simp [AVal.closed, AVal.isPure]) (acalls_of_body F.has ?_)
 (conv => whnf); refine ACalls.use (IndexS_spec F.z1l ex l hl s _) ?_
 conv => whnf
 refine pubB ?_
 have h := idxOf_any (eqS s) l 0 (by omega)
 rw [Bool.eq_iff_iff, ← h]; simp
structure Ent where
 row : List V
 cnt : Int
def entC (e : Ent) : List AVal := [.list false 3 (vC e.row), .int .i64 e.cnt]
def eC (l : List Ent) : List (List AVal) := l.map entC
theorem eC_length (l : List Ent) : (eC l).length = l.length := List.length_map ..
theorem eC_append (a b : List Ent) : eC (a ++ b) = eC a ++ eC b := List.map_append
theorem pureEs_eC (l : List Ent) : pureEs (eC l) = true := by simp [pureEs, eC, entC, AVal.isPure]
theorem eC_at {l : List Ent} {k : Nat} {x : Ent} (h : l[k]? = some x) : (eC l)[k]? = some (entC x) := by
 rw [eC, List.getElem?_map, h]; rfl
def fitB (e : Ent) : Int := if 12 < e.row.length ∨ e.cnt < -65536 ∨ 65536 < e.cnt then 2 else if e.row.all validB then 0 else 8
theorem fitB_zero (e : Ent) (h : fitB e = 0) : e.row.length ≤ 12 ∧ -65536 ≤ e.cnt ∧ e.cnt ≤ 65536 ∧ ∀ v ∈ e.row, validB v = true := by
 unfold fitB at h
 split at h
 ·cases h
 ·split at h
  ·rename_i h1 h2
   exact ⟨by omega, by omega, by omega, by simpa using h2⟩
  ·cases h
set_option maxRecDepth 20000 in
theorem formed_spec {P : Program} (F : F_z03 P) (x : Ent) (H : List AObj) :
  ACalls P F.id [.agg (entC x)] H (fun r H' => r = .int .i64 (fitB x) ∧ H' = H) := by
 refine ACalls.pure (by simp [AVal.closed, entC, AVal.isPure]) (acalls_of_body F.has ?_)
 (conv => whnf); refine recA (fun h0 => ?_) (fun h0 => ?_)
 ·simp [vC_length] at h0
  conv => whnf
  exact pubI (by rw [fitB, if_pos (by omega)])
 simp [vC_length] at h0
 (conv => whnf); refine recA (fun h1 => ?_) (fun h1 => ?_)
 ·simp at h1
  conv => whnf
  exact pubI (by rw [fitB, if_pos (by omega)])
 simp at h1
 (conv => whnf); refine recA (fun h2 => ?_) (fun h2 => ?_)
 ·simp at h2
  conv => whnf
  exact pubI (by rw [fitB, if_pos (by omega)])
 simp at h2
 have hR : fitB x = if x.row.all validB then 0 else 8 := by rw [fitB, if_neg (by omega)]
 conv => whnf
 refine ⟨fun m ρ H1 => ∃ k : Nat, k + m = x.row.length ∧ (x.row.drop k).all validB = x.row.all validB ∧ H1 = [.arr 2 [entC x]] ∧
  Sv 30 [(20, .list false 3 (vC x.row)), (21, .int .i64 x.row.length), (22, .int .i64 k)] ρ, x.row.length, [], ?_, ?_⟩
 ·exact ⟨0, by omega, rfl, rfl, Sv.intro rfl ⟨rfl, intEq (by rw [vC_length]), rfl, trivial⟩⟩
 rintro m ρ H1 ⟨k, hk, hr, rfl, d, rfl⟩
 (conv => whnf); refine recA (fun hlt => ?_) (fun hlt => ?_)
 ·simp at hlt
  obtain ⟨v, hv, hd, _⟩ := get_drop hlt
  rw [hd, List.all_cons] at hr
  conv => whnf
  refine And.intro (by omega) ?_
  (conv => whnf); refine recO (vC_at hv) ?_
  conv => whnf
  refine ACalls.use (value_Valid_spec F.z24 v _) ?_
  (conv => whnf); refine recA (fun h => ?_) (fun hf => ?_)
  ·replace h : (!(validB v)) = true := h
   conv => whnf
   exact pubI (by rw [hR, ← hr, if_neg (by simp_all)])
  ·replace hf : (!(validB v)) = false := hf
   conv => whnf
   refine ⟨m - 1, by omega, Gp.one 0 2 [entC x] rfl (by simp [pureEs, entC, AVal.isPure]) rfl ?_ fun ρ1 h => ⟨k + 1, by omega, ?_, rfl, h⟩⟩
   ·exact ⟨.closed _ rfl, .closed _ rfl, pub_int (wrapI ((k : Int) + 1) (by omega) (by omega)), trivial⟩
   ·rw [← hr]; simp_all
 ·simp at hlt
  conv => whnf
  rw [List.drop_eq_nil_of_le hlt] at hr
  exact pubI (by rw [hR, ← hr]; rfl)
theorem small_spec {P : Program} (F : F_z3o P) (n : Int) (H : List AObj) :
  ACalls P F.id [.int .i64 n] H (fun r H' => r = .bool (decide (-65536 ≤ n) && decide (n ≤ 65536)) ∧ H' = H) := by
 refine ACalls.pure rfl (acalls_of_body F.has ?_)
 (conv => whnf); refine recA (fun h => ?_) (fun h => ?_)
 ·simp at h
  conv => whnf
  exact pubB (by simp [h])
 ·simp at h
  conv => whnf
  exact pubB (by simp; omega)
set_option maxRecDepth 20000 in
theorem fits_spec {P : Program} (F : F_z3l P) (x : Ent) (H : List AObj) :
  ACalls P F.id [.agg (entC x)] H (fun r H' => r = .int .i64 (fitB x) ∧ H' = H) := by
 refine ACalls.pure (by simp [AVal.closed, entC, AVal.isPure]) (acalls_of_body F.has ?_)
 (conv => whnf); refine recA (fun h0 => ?_) (fun h0 => ?_)
 ·simp [vC_length] at h0
  conv => whnf
  exact pubI (by rw [fitB, if_pos (by omega)])
 simp [vC_length] at h0
 (conv => whnf); refine ACalls.use (small_spec F.z3o _ _) ?_
 (conv => whnf); refine recA (fun h1 => ?_) (fun h1 => ?_)
 ·replace h1 : (!(decide (-65536 ≤ x.cnt) && decide (x.cnt ≤ 65536))) = true := h1
  simp at h1
  conv => whnf
  exact pubI (by rw [fitB, if_pos (by omega)])
 replace h1 : (!(decide (-65536 ≤ x.cnt) && decide (x.cnt ≤ 65536))) = false := h1
 simp at h1
 have hR : fitB x = if x.row.all validB then 0 else 8 := by rw [fitB, if_neg (by omega)]
 conv => whnf
 refine ⟨fun m ρ H1 => ∃ k : Nat, k + m = x.row.length ∧ (x.row.drop k).all validB = x.row.all validB ∧ H1 = [.arr 2 [entC x]] ∧
  Sv 28 [(1, .ptr 0 1 0 0), (3, .int .i64 k)] ρ, x.row.length, [], ?_, ?_⟩
 ·exact ⟨0, by omega, rfl, rfl, Sv.intro rfl ⟨rfl, rfl, trivial⟩⟩
 rintro m ρ H1 ⟨k, hk, hr, rfl, d, rfl⟩
 (conv => whnf); refine recA (fun hlt => ?_) (fun hlt => ?_)
 ·simp [vC_length] at hlt
  obtain ⟨v, hv, hd, _⟩ := get_drop hlt
  rw [hd, List.all_cons] at hr
  conv => whnf
  refine And.intro (by omega) ?_
  (conv => whnf); refine recO (vC_at hv) ?_
  conv => whnf
  refine ACalls.use (ref1_Valid_spec F.z2e v _) ?_
  (conv => whnf); refine recA (fun h => ?_) (fun hf => ?_)
  ·replace h : (!(validB v)) = true := h
   conv => whnf
   exact pubI (by rw [hR, ← hr, if_neg (by simp_all)])
  ·replace hf : (!(validB v)) = false := hf
   conv => whnf
   refine ⟨m - 1, by omega, Gp.keep rfl ?_ fun ρ1 h => ⟨k + 1, by omega, ?_, rfl, h⟩⟩
   ·exact ⟨rfl, intEq (wrapI ((k : Int) + 1) (by omega) (by omega)), trivial⟩
   ·rw [← hr]; simp_all
 ·simp [vC_length] at hlt
  conv => whnf
  rw [List.drop_eq_nil_of_le hlt] at hr
  exact pubI (by rw [hR, ← hr]; rfl)
def notB : Option (List V) → List V → Bool
 | some q, r => decide (rowsCmp q r ≥ 0)
 | none, _ => false
def bvGo : List Ent → Option (List V) → Int
 | [], _ => 0
 | e :: es, p => if fitB e ≠ 0 then fitB e else if e.cnt = 0 then 8 else if notB p e.row = true then 14 else bvGo es (some e.row)
def bagB (b : List Ent) : Int := if 4096 < b.length then 2 else bvGo b none
def prevR (b : List Ent) : Nat → Option (List V)
 | 0 => none
 | k + 1 => (b[k]?).map Ent.row
theorem prevR_succ {b : List Ent} {k : Nat} {x : Ent} (h : b[k]? = some x) : prevR b (k + 1) = some x.row := by rw [prevR, h]; rfl
set_option maxRecDepth 20000 in
theorem bag_Validate_spec {P : Program} (F : F_z01 P) (ex : Bool) (b : List Ent) (H : List AObj) :
  ACalls P F.id [.list ex 2 (eC b)] H (fun r H' => r = .int .i64 (bagB b) ∧ H' = H) := by
 refine ACalls.pure (by simp [AVal.closed, AVal.isPure]) (acalls_of_body F.has ?_)
 (conv => whnf); refine recA (fun h0 => ?_) (fun h0 => ?_)
 ·simp [eC_length] at h0
  conv => whnf
  exact pubI (by rw [bagB, if_pos (by omega)])
 simp [eC_length] at h0
 have hR : bagB b = bvGo b none := by rw [bagB, if_neg (by omega)]
 conv => whnf
 refine ⟨fun m ρ H1 => ∃ k : Nat, k + m = b.length ∧ bvGo (b.drop k) (prevR b k) = bagB b ∧ (∀ q, prevR b k = some q → q.length ≤ 12) ∧ H1 = [] ∧
  Sv 39 [(0, .list ex 2 (eC b)), (9, .list ex 2 (eC b)), (10, .int .i64 b.length), (11, .int .i64 k)] ρ, b.length, [], ?_, ?_⟩
 ·exact ⟨0, by omega, hR.symm, fun q h => (by cases h), rfl, Sv.intro rfl ⟨rfl, rfl, intEq (by rw [eC_length]), rfl, trivial⟩⟩
 rintro m ρ H1 ⟨k, hk, hr, hq, rfl, d, rfl⟩
 (conv => whnf); refine recA (fun hlt => ?_) (fun hlt => ?_)
 ·simp at hlt
  obtain ⟨x, hx, hd, _⟩ := get_drop hlt
  rw [hd, bvGo] at hr
  have ew := wrapI ((k : Int) + 1) (by omega) (by omega)
  conv => whnf
  refine And.intro (by omega) ?_
  (conv => whnf); refine recO (eC_at hx) ?_
  conv => whnf
  refine ACalls.use (formed_spec F.z03 x _) ?_
  (conv => whnf); refine recA (fun h => ?_) (fun h => ?_)
  ·replace h : (!(fitB x == 0)) = true := h
   simp at h
   conv => whnf
   exact pubI (by rw [← hr, if_pos h])
  replace h : (!(fitB x == 0)) = false := h
  simp at h
  obtain ⟨g1, g2, g3, g4⟩ := fitB_zero x h
  rw [if_neg (by simp [h])] at hr
  (conv => whnf); refine recA (fun hz => ?_) (fun hz => ?_)
  ·replace hz : (x.cnt == 0) = true := hz
   simp at hz
   conv => whnf
   exact pubI (by rw [← hr, if_pos hz])
  replace hz : (x.cnt == 0) = false := hz
  simp at hz
  rw [if_neg hz] at hr
  (conv => whnf); refine recA (fun hp => ?_) (fun hp => ?_)
  ·replace hp : decide ((k : Int) > 0) = true := hp
   simp at hp
   obtain ⟨j, rfl⟩ : ∃ j, k = j + 1 := ⟨k - 1, by omega⟩
   obtain ⟨y, hy, _, _⟩ := get_drop (l := b) (k := j) (by omega)
   have ej := wrapI (((j + 1 : Nat) : Int) - 1) (by omega) (by omega)
   have hy2 : (eC b)[(IntKind.i64.wrap (((j + 1 : Nat) : Int) - 1)).toNat]? = some (entC y) := by
    rw [ej, show ((((j + 1 : Nat) : Int) - 1).toNat) = j by omega]; exact eC_at hy
   rw [prevR_succ hy] at hq hr
   have hql := hq _ rfl
   (conv => whnf); refine And.intro (by rw [ej]; omega) ?_
   (conv => whnf); refine recO hy2 ?_
   conv => whnf
   refine ⟨_, value_CompareRows_spec F.z22 false false y.row x.row (by omega) _, ?_⟩
   (conv => whnf); refine recA (fun hc => ?_) (fun hc => ?_)
   ·replace hc : decide (rowsCmp y.row x.row ≥ 0) = true := hc
    conv => whnf
    exact pubI (by rw [← hr, if_pos (show notB (some y.row) x.row = true from hc)])
   ·replace hc : decide (rowsCmp y.row x.row ≥ 0) = false := hc
    conv => whnf
    rw [if_neg (by rw [show notB (some y.row) x.row = false from hc]; simp)] at hr
    refine ⟨m - 1, by omega, Gp.none rfl ?_ fun ρ1 h => ⟨j + 1 + 1, by omega, ?_, ?_, rfl, h⟩⟩
    ·exact ⟨.closed _ rfl, .closed _ rfl, .closed _ rfl, pub_int ew, trivial⟩
    ·rw [prevR_succ hx]; exact hr
    ·rw [prevR_succ hx]; intro q hq2; cases hq2; exact g1
  ·replace hp : decide ((k : Int) > 0) = false := hp
   simp at hp
   subst hp
   conv => whnf
   rw [if_neg (by simp [prevR, notB])] at hr
   refine ⟨m - 1, by omega, Gp.none rfl ?_ fun ρ1 h => ⟨0 + 1, by omega, ?_, ?_, rfl, h⟩⟩
   ·exact ⟨.closed _ rfl, .closed _ rfl, .closed _ rfl, pub_int ew, trivial⟩
   ·rw [prevR_succ hx]; exact hr
   ·rw [prevR_succ hx]; intro q hq2; cases hq2; exact g1
 ·simp at hlt
  conv => whnf
  rw [List.drop_eq_nil_of_le hlt] at hr
  exact pubI hr
end Go.AW
namespace Go.AW
variable [Draws]
theorem ACalls.weakR {P : Program} {f : FuncId} {args : List AVal} {H : List AObj} {Q Q' : AVal → List AObj → Prop} (h : ACalls P f args H Q) (hq : ∀ r H', Q r H' → ∃ r', Wk r r' ∧ Q' r' H') : ACalls P f args H Q' := by
 intro C τ w vs hw hl hr
 have h := h C τ w vs hw hl hr
 unfold CallsX at h ⊢
 split at h
 ·exact Calls.mono h fun e w' ⟨v, r, C', τ', H', h1, h2, h3, h4⟩ => by
   obtain ⟨r', hk, hq'⟩ := hq _ _ h2
   exact ⟨v, r', C', τ', H', h1, hq', h3.weak hk, h4⟩
 ·obtain ⟨v, r, C', τ', H', h1, h2, h3, h4⟩ := h
  obtain ⟨r', hk, hq'⟩ := hq _ _ h2
  exact ⟨v, r', C', τ', H', h1, hq', h3.weak hk, h4⟩
 ·exact h
attribute [local irreducible] ACalls
set_option maxRecDepth 20000 in
theorem CloneV_spec {P : Program} (F : F_z1e P) (ex : Bool) (cs : List V) (hl : cs.length ≤ 1000000) (H : List AObj) :
  ACalls P F.id [.list ex 3 (vC cs)] H (fun r H' => r = .list false 3 (vC cs) ∧ H' = H) := by
 have h0 : ACalls P F.id [.list ex 3 (vC cs)] [] (fun r H1 => ∃ r', Pub H1 0 [] r r' ∧ ((r' = .nil ∧ cs = []) ∨ r' = .list false 3 (vC cs))) := by
  refine acalls_of_body F.has ?_
  conv => whnf
  refine And.intro (fun h => ?_) ?_
  ·conv => whnf
   exact ⟨.nil, .closed _ rfl, .inl ⟨rfl, by simpa [vC] using h⟩⟩
  ·conv => whnf
   refine And.intro ⟨roomMul (by simp [vC_length]; omega) (by omega), roomB_le (by simp [vC_length]; omega), .inr rfl⟩ ?_
   conv => whnf
   have key : List.replicate 0 [AVal.int .i64 0, .int .i64 0, .str (bs [])] ++ vC cs = vC cs := by simp
   refine ⟨_, pubF (es := vC cs) ?_ ?_ ?_ (pureEs_vC _), .inr rfl⟩
   ·rw [← key]; rfl
   ·exact congrArg List.length key
   ·exact congrArg List.length key
 refine ACalls.weakR (ACalls.lift0 (by simp [AVal.closed, AVal.isPure]) h0) ?_
 rintro r H' ⟨h, rfl⟩
 rcases h with ⟨rfl, rfl⟩ | rfl
 ·exact ⟨_, .nil false 3, rfl, rfl⟩
 ·exact ⟨_, .refl _, rfl, rfl⟩
def smallB (n : Int) : Bool := decide (-65536 ≤ n) && decide (n ≤ 65536)
set_option maxRecDepth 20000 in
theorem done_spec {P : Program} (F : F_z02 P) (O : List Ent) :
  ACalls P F.id [.sl 0 O.length 0 O.length] [.arr 2 (eC O)]
   (fun r H' => H' = [.arr 2 (eC O)] ∧ ((4096 < O.length ∧ r = .tuple [.nil, .int .i64 2]) ∨ (O.length ≤ 4096 ∧ r = .tuple [.sl 0 O.length 0 O.length, .int .i64 0]))) := by
 refine acalls_of_body F.has ?_
 (conv => whnf); refine recT (by rw [eC_length]; exact Nat.beq_refl _) ?_
 (conv => whnf); refine recA (fun h => ?_) (fun h => ?_)
 ·simp at h
  conv => whnf
  exact ⟨rfl, .inl ⟨by omega, rfl⟩⟩
 ·simp at h
  conv => whnf
  exact ⟨rfl, .inr ⟨by omega, rfl⟩⟩
def mrg : List Ent → List Ent → List Ent
 | [], b => b
 | x :: a, [] => x :: a
 | x :: a, y :: b => if rowsCmp x.row y.row < 0 then x :: mrg a (y :: b) else if 0 < rowsCmp x.row y.row then y :: mrg (x :: a) b else ⟨x.row, x.cnt + y.cnt⟩ :: mrg a b
termination_by a b => a.length + b.length
theorem mrg_nil (b : List Ent) : mrg [] b = b := by rw [mrg]
theorem mrg_nil2 (a : List Ent) : mrg a [] = a := by
 cases a with
 | nil => rw [mrg]
 | cons x a => rw [mrg]
theorem mrg_cons (x y : Ent) (a b : List Ent) : mrg (x :: a) (y :: b) = if rowsCmp x.row y.row < 0 then x :: mrg a (y :: b) else if 0 < rowsCmp x.row y.row then y :: mrg (x :: a) b else ⟨x.row, x.cnt + y.cnt⟩ :: mrg a b := by rw [mrg]
def nzB (e : Ent) : Bool := !(e.cnt == 0)
def resR (l : List Ent) : AVal :=
 if (l.all fun e => smallB e.cnt) = true ∧ (l.filter nzB).length ≤ 4096 then .tuple [.list false 2 (eC (l.filter nzB)), .int .i64 0] else .tuple [.nil, .int .i64 2]
def EntOk (e : Ent) : Prop := e.row.length ≤ 12 ∧ -65536 ≤ e.cnt ∧ e.cnt ≤ 65536
theorem resR_bad (l : List Ent) (h : (l.all fun e => smallB e.cnt) = false) : resR l = .tuple [.nil, .int .i64 2] := by
 rw [resR, if_neg (by simp [h])]
theorem mrgA {a b a1 : List Ent} {x : Ent} (ha : a = x :: a1) (h : b = [] ∨ ∃ y b1, b = y :: b1 ∧ rowsCmp x.row y.row < 0) : mrg a b = x :: mrg a1 b := by
 subst ha
 rcases h with rfl | ⟨y, b1, rfl, h⟩
 ·rw [mrg_nil2, mrg_nil2]
 ·rw [mrg_cons, if_pos h]
theorem mrgB {a b b1 : List Ent} {y : Ent} (hb : b = y :: b1) (h : a = [] ∨ ∃ x a1, a = x :: a1 ∧ 0 < rowsCmp x.row y.row) : mrg a b = y :: mrg a b1 := by
 subst hb
 rcases h with rfl | ⟨x, a1, rfl, h⟩
 ·rw [mrg_nil, mrg_nil]
 ·rw [mrg_cons, if_neg (by omega), if_pos h]
theorem mrgC {a b a1 b1 : List Ent} {x y : Ent} (ha : a = x :: a1) (hb : b = y :: b1) (h : rowsCmp x.row y.row = 0) : mrg a b = ⟨x.row, x.cnt + y.cnt⟩ :: mrg a1 b1 := by
 subst ha hb
 rw [mrg_cons, if_neg (by omega), if_neg (by omega)]
theorem tailE (es : List Ent) : List.drop (1 : Int).toNat (List.take (eC es).length (eC es)) = eC (es.drop 1) := by
 rw [List.take_length]; simp [eC]
theorem pubL {H1 : List AObj} {n : Nat} {ids : List Nat} {f : Bool} {sz : Nat} {X Y : List (List AVal)} (h : X = Y) : Pub H1 n ids (.list f sz X) (.list f sz Y) := by subst h; exact .closed _ rfl
theorem mrg_length : ∀ (a b : List Ent), (mrg a b).length ≤ a.length + b.length
 | [], b => by rw [mrg_nil]; omega
 | x :: a, [] => by rw [mrg_nil2]; omega
 | x :: a, y :: b => by
  rw [mrg_cons]
  have h1 := mrg_length a (y :: b)
  have h2 := mrg_length (x :: a) b
  have h3 := mrg_length a b
  split
  ·simp at h1 ⊢; omega
  split
  ·simp at h2 ⊢; omega
  ·simp; omega
termination_by a b => a.length + b.length
theorem obPush (O : List Ent) (row : List V) (c : Int) (n : Nat) (H : List AObj) (h1 : H[1]? = some (.arr 3 (vC row))) (hn : n = row.length) :
  ObP H [0] (.arr 2 (eC O ++ [[.sl 1 n 0 n, .int .i64 c]])) (.arr 2 (eC (O ++ [⟨row, c⟩]))) := by
 have hp : Pub H 0 [0] (.sl 1 n 0 n) (.list false 3 (vC row)) := by
  have h := Pub.frz (n := 0) (ids := [0]) 1 (vC row).length 0 (vC row).length 3 (vC row) h1 rfl (pureEs_vC _) (by simp)
  rw [List.drop_zero, List.take_length, vC_length, ← hn] at h
  exact h
 have hcell : ∀ (e : Ent) (j : Nat) (d d1 : AVal), (entC e)[j]? = some d → (entC e)[j]? = some d1 → Pub H 0 [0] d d1 ∧ d1.isCell = true := by
  intro e j d d1 h2 h3
  rcases j with _ | _ | j
  ·cases h2; cases h3; exact ⟨.closed _ rfl, rfl⟩
  ·cases h2; cases h3; exact ⟨.closed _ rfl, rfl⟩
  ·simp [entC] at h2
 have hi : ∀ (i : Nat) (e e1 : List AVal), (eC O ++ [[.sl 1 n 0 n, .int .i64 c]])[i]? = some e → (eC (O ++ [⟨row, c⟩]))[i]? = some e1 →
   (∃ x : Ent, e = entC x ∧ e1 = entC x) ∨ (e = [.sl 1 n 0 n, .int .i64 c] ∧ e1 = entC ⟨row, c⟩) := by
  intro i e e1 h2 h3
  rw [eC_append] at h3
  by_cases hlt : i < (eC O).length
  ·rw [List.getElem?_append_left hlt] at h2 h3
   rw [eC, List.getElem?_map] at h2 h3
   rcases hO : O[i]? with _ | x
   ·rw [hO] at h2; cases h2
   ·rw [hO] at h2 h3
    cases h2; cases h3
    exact .inl ⟨x, rfl, rfl⟩
  ·rw [List.getElem?_append_right (by omega)] at h2 h3
   rcases hk : i - (eC O).length with _ | k
   ·rw [hk] at h2 h3
    simp at h2; simp [eC] at h3
    exact .inr ⟨h2.symm, h3.symm⟩
   ·rw [hk] at h2; simp at h2
 refine .map 2 _ _ (by simp [eC]) (fun i e e1 h2 h3 => ?_) (fun i j e e1 d d1 h2 h3 h4 h5 => ?_)
 ·rcases hi i e e1 h2 h3 with ⟨x, rfl, rfl⟩ | ⟨rfl, rfl⟩ <;> rfl
 ·rcases hi i e e1 h2 h3 with ⟨x, rfl, rfl⟩ | ⟨rfl, rfl⟩
  ·exact hcell x j d d1 h4 h5
  ·rcases j with _ | _ | j
   ·cases h4; cases h5; exact ⟨hp, rfl⟩
   ·cases h4; cases h5; exact ⟨.closed _ rfl, rfl⟩
   ·simp at h4
theorem filter_le_of_prefix (pre l : List Ent) (h : ∃ t, l = pre ++ t) : (pre.filter nzB).length ≤ (l.filter nzB).length := by
 obtain ⟨t, rfl⟩ := h
 rw [List.filter_append, List.length_append]; omega
set_option maxRecDepth 20000 in
theorem ref6_result_spec {P : Program} (F : F_z3n P) (ex : Bool) (l : List Ent) (hl : l.length ≤ 100000) (hr : ∀ e ∈ l, e.row.length ≤ 1000) (H : List AObj) :
  ACalls P F.id [.list ex 2 (eC l)] H (fun r H' => r = resR l ∧ H' = H) := by
 refine ACalls.pure (by simp [AVal.closed, AVal.isPure]) (acalls_of_body F.has ?_)
 conv => whnf
 refine ⟨fun m ρ H => ∃ k : Nat, k + m = l.length ∧ ((l.take k).all fun e => smallB e.cnt) = true ∧ ((l.take k).filter nzB).length ≤ 4096 ∧ H = [.arr 2 (eC ((l.take k).filter nzB))] ∧
   Sv 46 [(0, .list ex 2 (eC l)), (4, .sl 0 ((l.take k).filter nzB).length 0 ((l.take k).filter nzB).length), (5, .int .i64 k)] ρ, l.length, [(4, 2)], ?_, ?_⟩
 ·exact ⟨0, by omega, rfl, by simp, by rfl, Sv.intro rfl ⟨rfl, rfl, rfl, trivial⟩⟩
 rintro m ρ H ⟨k, hk, hP, hO, rfl, d, rfl⟩
 (conv => whnf); refine recA (fun hlt => ?_) (fun hlt => ?_)
 ·simp [eC_length] at hlt
  obtain ⟨x, hx, hxd, hxm⟩ := get_drop hlt
  have ew := wrapI ((k : Int) + 1) (by omega) (by omega)
  have hxr := hr x hxm
  have hT : l.take (k + 1) = l.take k ++ [x] := by rw [List.take_add_one, hx]; rfl
  have hl2 : l = l.take k ++ x :: l.drop (k + 1) := by rw [← hxd, List.take_append_drop]
  conv => whnf
  refine And.intro (by omega) ?_
  (conv => whnf); refine recO (eC_at hx) ?_
  (conv => whnf); refine recA (fun hz => ?_) (fun hz => ?_)
  ·replace hz : (x.cnt == 0) = true := hz
   simp at hz
   have hF : (l.take (k + 1)).filter nzB = (l.take k).filter nzB := by rw [hT, List.filter_append]; simp [nzB, hz]
   conv => whnf
   refine ⟨m - 1, by omega, Gp.keep rfl ?_ fun ρ1 h => ⟨k + 1, by omega, ?_, ?_, ?_, h⟩⟩
   ·exact ⟨rfl, by rw [hF]; rfl, intEq ew, trivial⟩
   ·rw [hT, List.all_append, hP]; simp [smallB, hz]
   ·rw [hF]; exact hO
   ·rw [hF]
  replace hz : (x.cnt == 0) = false := hz
  simp at hz
  conv => whnf
  refine And.intro (by omega) ?_
  (conv => whnf); refine recO (eC_at hx) ?_
  conv => whnf
  refine ACalls.use (small_spec F.z3o _ _) ?_
  (conv => whnf); refine recA (fun hs => ?_) (fun hs => ?_)
  ·replace hs : (!(smallB x.cnt)) = true := hs
   simp at hs
   conv => whnf
   rw [resR_bad l (by rw [hl2]; simp [hs])]
   exact pub2 (.closed _ rfl) (.closed _ rfl)
  replace hs : (!(smallB x.cnt)) = false := hs
  simp at hs
  have hF : (l.take (k + 1)).filter nzB = (l.take k).filter nzB ++ [x] := by rw [hT, List.filter_append]; simp [nzB, hz]
  (conv => whnf); refine recT (by rw [eC_length]; exact Nat.beq_refl _) ?_
  (conv => whnf); refine recA (fun hq => ?_) (fun hq => ?_)
  ·replace hq : ((((l.take k).filter nzB).length : Int) == 4096) = true := hq
   simp at hq
   conv => whnf
   have h3 := filter_le_of_prefix (l.take (k + 1)) l ⟨l.drop (k + 1), (List.take_append_drop _ _).symm⟩
   rw [hF, List.length_append] at h3
   rw [resR, if_neg (by simp at h3; omega)]
   exact pub2 (.closed _ rfl) (.closed _ rfl)
  ·replace hq : ((((l.take k).filter nzB).length : Int) == 4096) = false := hq
   simp at hq
   conv => whnf
   refine And.intro (by omega) ?_
   (conv => whnf); refine recO (eC_at hx) ?_
   (conv => whnf); refine And.intro ⟨roomMul (by rw [vC_length]; omega) (by omega), roomB_le (by rw [vC_length]; omega)⟩ ?_
   (conv => whnf); refine And.intro (by omega) ?_
   (conv => whnf); refine recO (eC_at hx) ?_
   (conv => whnf); refine recT (by rw [eC_length]; exact Nat.beq_refl _) ?_
   (conv => whnf); refine And.intro ⟨roomMul (by simp; omega) (by omega), roomB_le (by simp; omega), rfl, by rw [eC_length]⟩ ?_
   conv => whnf
   refine And.intro (by (conv => whnf); try rfl) ?_
   conv => whnf
   refine And.intro (by (conv => whnf); refine And.intro (by omega) ?_; (conv => whnf); refine recO (eC_at hx) ?_; (conv => whnf); try rfl) ?_
   conv => whnf
   have hFl : (eC ((l.take k).filter nzB) ++ [[AVal.sl 1 (vC x.row).length 0 (vC x.row).length, .int .i64 x.cnt]]).length = ((l.take (k + 1)).filter nzB).length := by
    rw [hF]; simp [eC_length]
   refine ⟨m - 1, by omega, Gp.some (H1 := [.arr 2 (eC ((l.take k).filter nzB ++ [x]))]) [0] (by simp) ?_ rfl ?_ fun ρ1 h => ⟨k + 1, by omega, ?_, ?_, ?_, h⟩⟩
   ·exact ⟨⟨_, rfl, obPush ((l.take k).filter nzB) x.row x.cnt (vC x.row).length _ rfl (vC_length _)⟩, trivial⟩
   ·exact ⟨.closed _ rfl, pubSl (k := 0) rfl rfl hFl hFl, pub_int ew, trivial⟩
   ·rw [hT, List.all_append, hP]; simp [hs]
   ·rw [hF, List.length_append]; simp; omega
   ·rw [hF]
 ·simp [eC_length] at hlt
  have hT : l.take k = l := List.take_of_length_le hlt
  conv => whnf
  rw [hT] at hP hO ⊢
  rw [resR, if_pos ⟨hP, hO⟩]
  exact pub2 (pubF rfl (eC_length _).symm (eC_length _).symm (pureEs_eC _)) (.closed _ rfl)
theorem resR_cases (l : List Ent) : resR l = .tuple [.nil, .int .i64 2] ∨ resR l = .tuple [.list false 2 (eC (l.filter nzB)), .int .i64 0] := by
 unfold resR
 split
 ·exact .inr rfl
 ·exact .inl rfl
structure Grp where
 n : Int
 vals : List Ent
def oneB (e : Ent) : Bool := match e.row with
 | [v] => !(v.kind == 0)
 | _ => false
def rowsB (n : Int) : Bool := decide (-268435456 ≤ n) && decide (n ≤ 268435456)
def grpB (g : Grp) : Int := if rowsB g.n = false then 1 else if bagB g.vals ≠ 0 then bagB g.vals else if g.vals.all oneB then 0 else 8
def sumE (a b : List Ent) : Int :=
 if bagB a ≠ 0 then bagB a else if bagB b ≠ 0 then bagB b else if ((mrg a b).all fun e => smallB e.cnt) = true ∧ ((mrg a b).filter nzB).length ≤ 4096 then 0 else 2
def sumL (a b : List Ent) : List Ent := (mrg a b).filter nzB
def mrgE (a b : Grp) : Int := if rowsB (a.n + b.n) = false then 2 else sumE a.vals b.vals
def mrgG (a b : Grp) : Grp := if mrgE a b = 0 then ⟨a.n + b.n, sumL a.vals b.vals⟩ else ⟨0, []⟩
def oneG (v : V) (c : Int) : Grp := ⟨c, if v.kind ≠ 0 ∧ c ≠ 0 then [⟨[v], c⟩] else []⟩
def preE (g : Grp) (v : V) (c : Int) : Int := if grpB g ≠ 0 then grpB g else if validB v = false then 8 else if smallB c = false then 1 else 0
def addGE (g : Grp) (v : V) (c : Int) : Int := if preE g v c ≠ 0 then preE g v c else mrgE g (oneG v c)
def addGG (g : Grp) (v : V) (c : Int) : Grp := if preE g v c ≠ 0 then ⟨0, []⟩ else mrgG g (oneG v c)
def numV (n : Int) : V := if n < -1073741824 ∨ 1073741824 < n then zV else ⟨2, n, bs []⟩
def num0 (e : Ent) : Int := (e.row.getD 0 zV).num
def totGo : List Ent → Int → Int → Int × Int
 | [], s, c => (s, c)
 | e :: es, s, c => totGo es (w64 (s + w64 (num0 e * e.cnt))) (w64 (c + e.cnt))
def posB (e : Ent) : Bool := decide (e.cnt > 0)
def notInt (e : Ent) : Bool := !((e.row.getD 0 zV).kind == 2)
set_option maxRecDepth 20000 in
theorem CloneE_raw {P : Program} (F : F_z1d P) (ex : Bool) (l : List Ent) (hl : l.length ≤ 1000000) :
  ACalls P F.id [.list ex 2 (eC l)] [] (fun r H' => (r = .nil ∧ l = [] ∧ H' = []) ∨ (r = .sl 0 l.length 0 l.length ∧ H' = [.arr 2 (eC l)])) := by
 refine acalls_of_body F.has ?_
 conv => whnf
 refine And.intro (fun h => ?_) ?_
 ·conv => whnf
  exact .inl ⟨rfl, by simpa [eC] using h, rfl⟩
 ·conv => whnf
  refine And.intro ⟨roomMul (by simp [eC_length]; omega) (by omega), roomB_le (by simp [eC_length]; omega), .inr rfl⟩ ?_
  conv => whnf
  refine .inr ⟨slEq ?_ ?_, rfl⟩
  ·simp [eC_length]
  ·simp [eC_length]
theorem Gp.two {n : Nat} {live : List (Nat × AVal)} {ρ : List AVal} {H : List AObj} {I : List AVal → List AObj → Prop} (a b : Nat) (hab : a ≠ b) (s1 s2 : Nat) (e1 e2 : List (List AVal)) (h1 : H[a]? = .some (.arr s1 e1)) (h2 : H[b]? = .some (.arr s2 e2))
  (p1 : pureEs e1 = true) (p2 : pureEs e2 = true) (hl : ρ.length = n) (h : SvPub H [a, b] ρ live) (hI : ∀ ρ1, Sv n live ρ1 → I ρ1 [.arr s1 e1, .arr s2 e2]) : Gp [] ρ H I :=
 Gp.some (H1 := [.arr s1 e1, .arr s2 e2]) [a, b] (by simp [hab]) ⟨⟨_, h1, .same _ _ p1⟩, ⟨_, h2, .same _ _ p2⟩, trivial⟩ hl h hI
def row0 (e : Ent) : V := e.row.getD 0 zV
def presV (l : List Ent) : List V := (l.filter posB).map row0
def floorV (s c : Int) : Int := if s.tmod c < 0 then w64 (w64 (s.tdiv c) - 1) else w64 (s.tdiv c)
def resE (f : Int) (g : Grp) : Int := if f < 1 ∨ 7 < f then 1 else if grpB g ≠ 0 then grpB g else if (f = 3 ∨ f = 7) ∧ g.vals.any notInt = true then 7 else 0
def resV0 (f : Int) (g : Grp) : V :=
 if f = 1 then numV g.n else if f = 2 then numV (totGo g.vals 0 0).2 else if f = 6 then numV (presV g.vals).length
 else if f = 4 then (presV g.vals).head?.getD zV else if f = 5 then (presV g.vals).getLast?.getD zV
 else if f = 3 then (if g.vals = [] then zV else numV (totGo g.vals 0 0).1)
 else if 0 < (totGo g.vals 0 0).2 then numV (floorV (totGo g.vals 0 0).1 (totGo g.vals 0 0).2) else zV
def resV (f : Int) (g : Grp) : V := if resE f g ≠ 0 then zV else resV0 f g
theorem Floor_spec {P : Program} (F : F_z35 P) (a b : Int) (hb : b ≠ 0) (H : List AObj) :
  ACalls P F.id [.int .i64 a, .int .i64 b] H (fun r H' => r = .int .i64 (floorV a b) ∧ H' = H) := by
 refine ACalls.pure rfl (acalls_of_body F.has ?_)
 (conv => whnf); refine And.intro (hb) ?_
 (conv => whnf); refine And.intro (hb) ?_
 (conv => whnf); refine recA (fun h => ?_) (fun h => ?_)
 ·simp at h
  conv => whnf
  exact pubI (by rw [floorV, if_pos h]; rfl)
 ·simp at h
  conv => whnf
  exact pubI (by rw [floorV, if_neg (by omega)]; rfl)
end Go.AW
namespace Go.AW
variable [Draws]
theorem rowsCmp_vals : ∀ (a b : List V), rowsCmp a b = -1 ∨ rowsCmp a b = 0 ∨ rowsCmp a b = 1
 | [], [] => .inr (.inl rfl)
 | [], _ :: _ => .inl rfl
 | _ :: _, [] => .inr (.inr rfl)
 | x :: xs, y :: ys => by
  rw [rowsCmp]
  split
  ·exact rowsCmp_vals xs ys
  ·exact isCmp_val.vals x y
theorem rowsCmp_anti : ∀ (a b : List V), rowsCmp b a = - rowsCmp a b
 | [], [] => rfl
 | [], _ :: _ => rfl
 | _ :: _, [] => rfl
 | x :: xs, y :: ys => by
  rw [rowsCmp, rowsCmp, isCmp_val.anti x y]
  by_cases h : valCmp x y = 0
  ·rw [if_pos h, if_pos (by omega), rowsCmp_anti xs ys]
  ·rw [if_neg h, if_neg (by omega)]
theorem rowsCmp_trans : ∀ (a b d : List V), rowsCmp a b < 0 → rowsCmp b d < 0 → rowsCmp a d < 0
 | [], _, [], _, h2 => by
  rename_i b _
  cases b with
  | nil => exact h2
  | cons y ys => rw [rowsCmp] at h2; omega
 | [], _, _ :: _, _, _ => by rw [rowsCmp]; omega
 | x :: xs, [], _, h1, _ => by rw [rowsCmp] at h1; omega
 | x :: xs, y :: ys, [], _, h2 => by rw [rowsCmp] at h2; omega
 | x :: xs, y :: ys, z :: zs, h1, h2 => by
  rw [rowsCmp] at h1 h2 ⊢
  by_cases e1 : valCmp x y = 0
  ·rw [if_pos e1] at h1
   have hxy := (isCmp_val.zero x y).1 e1
   subst hxy
   by_cases e2 : valCmp x z = 0
   ·rw [if_pos e2] at h2 ⊢; exact rowsCmp_trans xs ys zs h1 h2
   ·rw [if_neg e2] at h2 ⊢; exact h2
  ·rw [if_neg e1] at h1
   by_cases e2 : valCmp y z = 0
   ·have hyz := (isCmp_val.zero y z).1 e2
    subst hyz
    rw [if_neg e1]; exact h1
   ·rw [if_neg e2] at h2
    have := isCmp_val.trans x y z h1 h2
    rw [if_neg (by omega)]; exact this
def cntL : List Ent → List V → Int
 | [], _ => 0
 | e :: l, r => (if rowsCmp e.row r = 0 then e.cnt else 0) + cntL l r
def Srt (l : List Ent) : Prop := l.Pairwise fun x y => rowsCmp x.row y.row < 0
theorem cntL_zero : ∀ (l : List Ent) (r : List V), (∀ e ∈ l, rowsCmp e.row r ≠ 0) → cntL l r = 0
 | [], _, _ => rfl
 | e :: l, r, h => by rw [cntL, if_neg (h e (List.mem_cons_self ..)), cntL_zero l r fun e he => h e (List.mem_cons_of_mem _ he)]; rfl
theorem cntL_above {l : List Ent} {r : List V} (h : ∀ e ∈ l, rowsCmp r e.row < 0) : cntL l r = 0 :=
 cntL_zero l r fun e he hz => by have := h e he; rw [rowsCmp_anti] at this; omega
theorem cntL_head {x : Ent} {l : List Ent} (h : Srt (x :: l)) : cntL (x :: l) x.row = x.cnt := by
 rw [cntL, if_pos ((rowsCmp_zero _ _).2 rfl), cntL_above (List.pairwise_cons.1 h).1]; omega
theorem cntL_append : ∀ (a b : List Ent) (r : List V), cntL (a ++ b) r = cntL a r + cntL b r
 | [], b, r => by simp [cntL]
 | e :: a, b, r => by rw [List.cons_append, cntL, cntL, cntL_append a b r]; omega
theorem bag_ext : ∀ (a b : List Ent), Srt a → Srt b → (∀ e ∈ a, e.cnt ≠ 0) → (∀ e ∈ b, e.cnt ≠ 0) → (∀ r, cntL a r = cntL b r) → a = b
 | [], [], _, _, _, _, _ => rfl
 | [], y :: b, _, hb, _, nb, h => by
  have := h y.row
  rw [cntL_head hb] at this
  exact absurd this.symm (nb y (List.mem_cons_self ..))
 | x :: a, [], ha, _, na, _, h => by
  have := h x.row
  rw [cntL_head ha] at this
  exact absurd this (na x (List.mem_cons_self ..))
 | x :: a, y :: b, ha, hb, na, nb, h => by
  have ax := (List.pairwise_cons.1 ha).1
  have bx := (List.pairwise_cons.1 hb).1
  rcases rowsCmp_vals x.row y.row with hc | hc | hc
  ·have h1 := h x.row
   rw [cntL_head ha, cntL_above (l := y :: b) (fun e he => by
    rcases List.mem_cons.1 he with rfl | he
    ·omega
    ·exact rowsCmp_trans _ _ _ (by omega) (bx e he))] at h1
   exact absurd h1 (na x (List.mem_cons_self ..))
  ·have hr := (rowsCmp_zero _ _).1 hc
   have hcnt : x.cnt = y.cnt := by
    have h1 := h x.row
    rw [cntL_head ha] at h1
    rw [h1, hr, cntL_head hb]
   have hxy : x = y := by cases x; cases y; simp only at hr hcnt; subst hr hcnt; rfl
   subst hxy
   have := bag_ext a b (List.pairwise_cons.1 ha).2 (List.pairwise_cons.1 hb).2 (fun e he => na e (List.mem_cons_of_mem _ he)) (fun e he => nb e (List.mem_cons_of_mem _ he))
    (fun r => by have h1 := h r; rw [cntL, cntL] at h1; omega)
   rw [this]
  ·have hc' : rowsCmp y.row x.row < 0 := by rw [rowsCmp_anti]; omega
   have h1 := h y.row
   rw [cntL_head hb, cntL_above (l := x :: a) (fun e he => by
    rcases List.mem_cons.1 he with rfl | he
    ·omega
    ·exact rowsCmp_trans _ _ _ hc' (ax e he))] at h1
   exact absurd h1.symm (nb y (List.mem_cons_self ..))
theorem cntL_mrg : ∀ (a b : List Ent) (r : List V), cntL (mrg a b) r = cntL a r + cntL b r
 | [], b, r => by rw [mrg_nil, cntL]; omega
 | x :: a, [], r => by rw [mrg_nil2, cntL]; simp [cntL]
 | x :: a, y :: b, r => by
  rw [mrg_cons]
  split
  ·have e1 : cntL (x :: a) r = (if rowsCmp x.row r = 0 then x.cnt else 0) + cntL a r := rfl
   rw [cntL, cntL_mrg a (y :: b) r, e1]; omega
  split
  ·have e1 : cntL (y :: b) r = (if rowsCmp y.row r = 0 then y.cnt else 0) + cntL b r := rfl
   rw [cntL, cntL_mrg (x :: a) b r, e1]; omega
  ·have hr : x.row = y.row := (rowsCmp_zero _ _).1 (by have := rowsCmp_vals x.row y.row; omega)
   rw [cntL, cntL_mrg a b r, cntL, cntL]
   simp only [hr]
   split <;> omega
termination_by a b => a.length + b.length
theorem mem_mrg : ∀ (a b : List Ent) (e : Ent), e ∈ mrg a b → (∃ x ∈ a, x.row = e.row) ∨ ∃ y ∈ b, y.row = e.row
 | [], b, e, h => by rw [mrg_nil] at h; exact .inr ⟨e, h, rfl⟩
 | x :: a, [], e, h => by rw [mrg_nil2] at h; exact .inl ⟨e, h, rfl⟩
 | x :: a, y :: b, e, h => by
  rw [mrg_cons] at h
  have la : ∀ {e : Ent}, (∃ x ∈ a, x.row = e.row) → ∃ z ∈ x :: a, z.row = e.row := fun ⟨z, h1, h2⟩ => ⟨z, List.mem_cons_of_mem _ h1, h2⟩
  have lb : ∀ {e : Ent}, (∃ x ∈ b, x.row = e.row) → ∃ z ∈ y :: b, z.row = e.row := fun ⟨z, h1, h2⟩ => ⟨z, List.mem_cons_of_mem _ h1, h2⟩
  split at h
  ·rcases List.mem_cons.1 h with rfl | h
   ·exact .inl ⟨e, List.mem_cons_self .., rfl⟩
   ·exact (mem_mrg a (y :: b) e h).imp la id
  split at h
  ·rcases List.mem_cons.1 h with rfl | h
   ·exact .inr ⟨e, List.mem_cons_self .., rfl⟩
   ·exact (mem_mrg (x :: a) b e h).imp id lb
  ·rcases List.mem_cons.1 h with rfl | h
   ·exact .inl ⟨x, List.mem_cons_self .., rfl⟩
   ·exact (mem_mrg a b e h).imp la lb
termination_by a b => a.length + b.length
theorem srt_mrg : ∀ (a b : List Ent), Srt a → Srt b → Srt (mrg a b)
 | [], b, _, hb => by rw [mrg_nil]; exact hb
 | x :: a, [], ha, _ => by rw [mrg_nil2]; exact ha
 | x :: a, y :: b, ha, hb => by
  have ax := (List.pairwise_cons.1 ha).1
  have bx := (List.pairwise_cons.1 hb).1
  have ha' := (List.pairwise_cons.1 ha).2
  have hb' := (List.pairwise_cons.1 hb).2
  rw [mrg_cons]
  split
  ·rename_i hc
   refine List.pairwise_cons.2 ⟨fun e he => ?_, srt_mrg a (y :: b) ha' hb⟩
   rcases mem_mrg a (y :: b) e he with ⟨z, hz, hzr⟩ | ⟨z, hz, hzr⟩
   ·rw [← hzr]; exact ax z hz
   ·rw [← hzr]
    rcases List.mem_cons.1 hz with rfl | hz
    ·exact hc
    ·exact rowsCmp_trans _ _ _ hc (bx z hz)
  split
  ·rename_i hc0 hc
   have hc' : rowsCmp y.row x.row < 0 := by rw [rowsCmp_anti]; omega
   refine List.pairwise_cons.2 ⟨fun e he => ?_, srt_mrg (x :: a) b ha hb'⟩
   rcases mem_mrg (x :: a) b e he with ⟨z, hz, hzr⟩ | ⟨z, hz, hzr⟩
   ·rw [← hzr]
    rcases List.mem_cons.1 hz with rfl | hz
    ·exact hc'
    ·exact rowsCmp_trans _ _ _ hc' (ax z hz)
   ·rw [← hzr]; exact bx z hz
  ·have hr : x.row = y.row := (rowsCmp_zero _ _).1 (by have := rowsCmp_vals x.row y.row; omega)
   refine List.pairwise_cons.2 ⟨fun e he => ?_, srt_mrg a b ha' hb'⟩
   rcases mem_mrg a b e he with ⟨z, hz, hzr⟩ | ⟨z, hz, hzr⟩
   ·rw [← hzr]; exact ax z hz
   ·rw [← hzr]; show rowsCmp x.row z.row < 0; rw [hr]; exact bx z hz
termination_by a b => a.length + b.length
theorem fitB_iff (e : Ent) : fitB e = 0 ↔ e.row.length ≤ 12 ∧ smallB e.cnt = true ∧ e.row.all validB = true := by
 simp only [smallB, Bool.and_eq_true, decide_eq_true_eq]
 unfold fitB
 constructor
 ·intro h
  split at h
  ·cases h
  ·split at h
   ·rename_i h1 h2; exact ⟨by omega, ⟨by omega, by omega⟩, h2⟩
   ·cases h
 ·rintro ⟨h1, ⟨h2, h3⟩, h4⟩
  rw [if_neg (by omega), if_pos h4]
theorem bvGo_iff : ∀ (l : List Ent) (p : Option (List V)), bvGo l p = 0 ↔ (∀ e ∈ l, fitB e = 0 ∧ e.cnt ≠ 0) ∧ Srt l ∧ ∀ q, p = some q → ∀ e ∈ l, rowsCmp q e.row < 0
 | [], p => ⟨fun _ => ⟨fun e h => (by simp at h), List.Pairwise.nil, fun q _ e h => by simp at h⟩, fun _ => rfl⟩
 | x :: l, p => by
  rw [bvGo]
  have nb : notB p x.row = true ↔ ∃ q, p = some q ∧ ¬ rowsCmp q x.row < 0 := by
   cases p with
   | none => simp [notB]
   | some q => simp [notB]
  constructor
  ·intro h
   by_cases h1 : fitB x = 0
   ·rw [if_neg (by simp [h1])] at h
    by_cases h2 : x.cnt = 0
    ·rw [if_pos h2] at h; cases h
    ·rw [if_neg h2] at h
     by_cases h3 : notB p x.row = true
     ·rw [if_pos h3] at h; cases h
     ·rw [if_neg h3] at h
      obtain ⟨g1, g2, g3⟩ := (bvGo_iff l (some x.row)).1 h
      have hp : ∀ q, p = some q → rowsCmp q x.row < 0 := fun q hq => Classical.byContradiction fun hn => h3 (nb.2 ⟨q, hq, hn⟩)
      refine ⟨fun e he => ?_, List.pairwise_cons.2 ⟨g3 _ rfl, g2⟩, fun q hq e he => ?_⟩
      ·rcases List.mem_cons.1 he with rfl | he
       ·exact ⟨h1, h2⟩
       ·exact g1 e he
      ·rcases List.mem_cons.1 he with rfl | he
       ·exact hp q hq
       ·exact rowsCmp_trans _ _ _ (hp q hq) (g3 _ rfl e he)
   ·rw [if_pos h1] at h; exact absurd h h1
  ·rintro ⟨h1, h2, h3⟩
   have hx := h1 x (List.mem_cons_self ..)
   rw [if_neg (by simp [hx.1]), if_neg hx.2, if_neg (fun h => by
    obtain ⟨q, hq, hn⟩ := nb.1 h
    exact hn (h3 q hq x (List.mem_cons_self ..)))]
   exact (bvGo_iff l (some x.row)).2 ⟨fun e he => h1 e (List.mem_cons_of_mem _ he), (List.pairwise_cons.1 h2).2, fun q hq e he => by cases hq; exact (List.pairwise_cons.1 h2).1 e he⟩
theorem bagB_iff (l : List Ent) : bagB l = 0 ↔ l.length ≤ 4096 ∧ (∀ e ∈ l, fitB e = 0 ∧ e.cnt ≠ 0) ∧ Srt l := by
 rw [bagB]
 constructor
 ·intro h
  split at h
  ·cases h
  ·have := (bvGo_iff l none).1 h
   exact ⟨by omega, this.1, this.2.1⟩
 ·rintro ⟨h1, h2, h3⟩
  rw [if_neg (by omega)]
  exact (bvGo_iff l none).2 ⟨h2, h3, fun q hq => by cases hq⟩
end Go.AW
