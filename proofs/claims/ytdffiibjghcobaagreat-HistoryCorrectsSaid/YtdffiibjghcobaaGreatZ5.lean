/-
  An abstract machine over the model, the code of functions on it, and their contracts: what the claim needs.
  No condition: definitions, plain laws, contracts over any program that has this code.
-/
import Derived.Test.YtdffiibjghcobaaGreatZ4
set_option linter.all false
namespace Go.AW
def c_z1z : AFunc := ⟨15,[.cell true 5 6],(.seq (.region [ iD 6 (.alloc [(.bool false),(.int .i64 0),.nil,(.int .i64 0),(.int .i64 0)])]) (.seq (.region [ iD 7 (.move (.t 2)),iD 8 (.move (.t 1)),iD 9 (.build [(.int .i64 0),(.int .i64 0),(.str (bs []))] [(0,1,(.c (.int .i64 2))),(1,1,(.c (.int .i64 1)))]),iD 10 (.move (.t 0)),iD 11 (.build [(.int .i64 0),(.int .i64 0),(.str (bs []))] [(0,1,(.c (.int .i64 4))),(1,1,(.t 10))]),iD 12 (.buildSlice 3 2 [(.int .i64 0),(.int .i64 0),(.str (bs []))] [(0,(.t 9)),(1,(.t 11))]),iD 13 (.build [(.bool false),(.int .i64 0),.nil] [(0,1,(.t 7)),(1,1,(.t 8)),(2,1,(.t 12))]),iD 14 (.build [(.bool false),(.int .i64 0),.nil,(.int .i64 0),(.int .i64 0)] [(0,3,(.t 13))]),iN (.store 5 (.t 6) (.t 14))]) .ret))⟩

structure F_z1z (P : Program) where
 id : FuncId
 has : Has P id [] c_z1z

def c_z0i (f_z0w : FuncId) : AFunc := ⟨9,[.tmp 3],(.seq (.region [ iD 3 (.move (.c (.bool false)))]) (.seq (.region [ iD 4 (.fieldAddr 1 (.t 1)),iD 5 (.load false 1 (.t 4)),iD 6 (.move (.t 0)),iD 7 (.call f_z0w [(.t 5),(.t 6)]),iD 8 (.bin .lss (.t 7) (.c (.int .i64 0))),iD 3 (.move (.t 8))]) .ret))⟩

structure F_z0i (P : Program) where
 id : FuncId
 z0w : F_z0w P
 has : Has P id [] (c_z0i z0w.id)

def c_z19 : AFunc := ⟨19,[.tmp 4],(.seq (.region [ iD 4 (.move (.c (.int .i64 0)))]) (.seq (.seq (.region [ iD 6 (.move (.t 0)),iD 7 (.len (.t 6)),iD 8 (.move (.c (.int .i64 0)))]) (.block 0 (.loop (.seq (.region [ iD 9 (.bin .lss (.t 8) (.t 7))]) (.seq (.cond (.t 9) .skip (.exit 0)) (.seq (.block 1 (.seq (.region [ iD 10 (.move (.t 8)),iD 5 (.move (.t 10))]) (.seq (.region [ iD 11 (.move (.t 1)),iD 12 (.move (.t 0)),iD 13 (.move (.t 5)),iD 14 (.indexAddr 1 (.t 12) (.t 13)),iD 15 (.load false 1 (.t 14)),iD 16 (.callv (.t 11) [(.t 15)])]) (.cond (.t 16) (.seq (.region [ iD 17 (.move (.t 5)),iD 4 (.move (.t 17))]) .ret) .skip)))) (.region [ iD 18 (.bin .add (.t 8) (.c (.int .i64 1))),iD 8 (.move (.t 18))]))))))) (.seq (.region [ iD 4 (.move (.c (.int .i64 (-1))))]) .ret)))⟩

structure F_z19 (P : Program) where
 id : FuncId
 has : Has P id [] c_z19

def c_z16 (f_z19 : FuncId) : AFunc := ⟨9,[.tmp 4],(.seq (.region [ iD 4 (.move (.c (.bool false)))]) (.seq (.region [ iD 5 (.move (.t 0)),iD 6 (.move (.t 1)),iD 7 (.call f_z19 [(.t 5),(.t 6)]),iD 8 (.bin .geq (.t 7) (.c (.int .i64 0))),iD 4 (.move (.t 8))]) .ret))⟩

structure F_z16 (P : Program) where
 id : FuncId
 z19 : F_z19 P
 has : Has P id [] (c_z16 z19.id)

def c_z0h (f_z10 : FuncId) (f_z0w : FuncId) (f_z0i : FuncId) (f_z16 : FuncId) (f_z11 : FuncId) : AFunc := ⟨64,[.tmp 2,.tmp 3],(.seq (.region [ iD 1 (.box (.t 0)),iD 2 (.move (.c .nil)),iD 3 (.move (.c (.int .i64 0)))]) (.seq (.seq (.region [ iD 6 (.fieldAddr 1 (.t 1)),iD 7 (.load false 1 (.t 6)),iD 8 (.call f_z10 [(.t 7)]),iD 4 (.move (.t 8))]) (.seq (.region [ iD 9 (.move (.t 4)),iD 10 (.bin .neq (.t 9) (.c (.int .i64 0)))]) (.cond (.t 10) (.seq (.region [ iD 11 (.move (.t 4)),iD 2 (.move (.c .nil)),iD 3 (.move (.t 11))]) .ret) .skip))) (.seq (.region [ iD 12 (.fieldAddr 1 (.t 1)),iD 13 (.load false 1 (.t 12)),iD 14 (.fieldAddr 3 (.t 1)),iD 15 (.load false 1 (.t 14)),iD 16 (.call f_z0w [(.t 13),(.t 15)]),iD 5 (.move (.t 16))]) (.seq (.seq (.region [ iD 17 (.move (.t 5)),iD 18 (.bin .lss (.t 17) (.c (.int .i64 0))),iD 19 (.move (.t 18)),⟨(some 20),.fieldAddr 2 (.t 1),some (some 19,false)⟩,⟨(some 21),.load false 1 (.t 20),some (some 19,false)⟩,⟨(some 22),.makeFunc f_z0i [(.t 1)],some (some 19,false)⟩,⟨(some 23),.call f_z16 [(.t 21),(.t 22)],some (some 19,false)⟩,iD 24 (.pick (.t 19) (.c (.bool true)) (.t 23))]) (.cond (.t 24) (.seq (.region [ iD 2 (.move (.c .nil)),iD 3 (.move (.c (.int .i64 5)))]) .ret) .skip)) (.seq (.block 0 (.seq (.region [ iD 26 (.fieldAddr 1 (.t 1)),iD 27 (.load false 1 (.t 26)),iD 28 (.move (.t 5)),iD 29 (.indexAddr 3 (.t 27) (.t 28)),iD 30 (.fieldAddr 1 (.t 29)),iD 31 (.load false 1 (.t 30)),iD 32 (.bin .neq (.t 31) (.c (.int .i64 4))),iD 33 (.move (.t 32)),⟨(some 34),.fieldAddr 1 (.t 1),some (some 33,false)⟩,⟨(some 35),.load false 1 (.t 34),some (some 33,false)⟩,⟨(some 36),.move (.t 5),some (some 33,false)⟩,⟨(some 37),.indexAddr 3 (.t 35) (.t 36),some (some 33,false)⟩,⟨(some 38),.fieldAddr 2 (.t 37),some (some 33,false)⟩,⟨(some 39),.load false 1 (.t 38),some (some 33,false)⟩,iD 40 (.pick (.t 33) (.c (.bool true)) (.t 39)),iD 25 (.move (.t 40))]) (.cond (.t 25) (.seq (.region [ iD 2 (.move (.c .nil)),iD 3 (.move (.c (.int .i64 7)))]) .ret) (.seq (.region [ iD 42 (.fieldAddr 1 (.t 1)),iD 43 (.load false 1 (.t 42)),iD 44 (.len (.t 43)),iD 45 (.bin .gtr (.t 44) (.c (.int .i64 10))),iD 41 (.move (.t 45))]) (.cond (.t 41) (.seq (.region [ iD 2 (.move (.c .nil)),iD 3 (.move (.c (.int .i64 2)))]) .ret) (.seq (.region [ iD 47 (.fieldAddr 1 (.t 1)),iD 48 (.load false 1 (.t 47)),iD 49 (.call f_z0w [(.t 48),(.c (.str (bs [118,97,108,105,100,95,102,114,111,109])))]),iD 50 (.bin .geq (.t 49) (.c (.int .i64 0))),iD 51 (.move (.t 50)),⟨(some 52),.fieldAddr 1 (.t 1),some (some 51,false)⟩,⟨(some 53),.load false 1 (.t 52),some (some 51,false)⟩,⟨(some 54),.call f_z0w [(.t 53),(.c (.str (bs [118,97,108,105,100,95,116,111])))],some (some 51,false)⟩,⟨(some 55),.bin .geq (.t 54) (.c (.int .i64 0)),some (some 51,false)⟩,iD 56 (.pick (.t 51) (.c (.bool true)) (.t 55)),iD 46 (.move (.t 56))]) (.cond (.t 46) (.seq (.region [ iD 2 (.move (.c .nil)),iD 3 (.move (.c (.int .i64 6)))]) .ret) .skip))))))) (.seq (.region [ iD 57 (.fieldAddr 1 (.t 1)),iD 58 (.load false 1 (.t 57)),iD 59 (.call f_z11 [(.t 58)]),iD 60 (.build [(.str (bs [])),(.int .i64 0),(.bool false)] [(0,1,(.c (.str (bs [118,97,108,105,100,95,102,114,111,109])))),(1,1,(.c (.int .i64 4)))]),iD 61 (.build [(.str (bs [])),(.int .i64 0),(.bool false)] [(0,1,(.c (.str (bs [118,97,108,105,100,95,116,111])))),(1,1,(.c (.int .i64 4))),(2,1,(.c (.bool true)))]),iD 62 (.buildSlice 3 2 [(.str (bs [])),(.int .i64 0),(.bool false)] [(0,(.t 60)),(1,(.t 61))]),iD 63 (.append 3 32 [(.str (bs [])),(.int .i64 0),(.bool false)] (.t 59) (.t 62)),iD 2 (.move (.t 63)),iD 3 (.move (.c (.int .i64 0)))]) .ret))))))⟩

structure F_z0h (P : Program) where
 id : FuncId
 z10 : F_z10 P
 z0w : F_z0w P
 z0i : F_z0i P
 z16 : F_z16 P
 z11 : F_z11 P
 has : Has P id [] (c_z0h z10.id z0w.id z0i.id z16.id z11.id)

def c_z3y (f_z17 : FuncId) (f_z0v : FuncId) : AFunc := ⟨56,[.tmp 4],(.seq (.region [ iD 2 (.box (.t 0)),iD 4 (.move (.c (.int .i64 0)))]) (.seq (.seq (.region [ iD 8 (.move (.t 1)),iD 9 (.len (.t 8)),iD 10 (.fieldAddr 1 (.t 2)),iD 11 (.load false 1 (.t 10)),iD 12 (.len (.t 11)),iD 13 (.bin .neq (.t 9) (.t 12))]) (.cond (.t 13) (.seq (.region [ iD 4 (.move (.c (.int .i64 8)))]) .ret) .skip)) (.seq (.seq (.region [ iD 14 (.fieldAddr 1 (.t 2)),iD 15 (.load false 1 (.t 14)),iD 16 (.len (.t 15)),iD 17 (.move (.c (.int .i64 0)))]) (.block 0 (.loop (.seq (.region [ iD 18 (.bin .lss (.t 17) (.t 16))]) (.seq (.cond (.t 18) .skip (.exit 0)) (.seq (.block 1 (.seq (.region [ iD 19 (.move (.t 17)),iD 20 (.indexAddr 3 (.t 15) (.t 17)),iD 21 (.load true 3 (.t 20)),iD 6 (.alloc [(.str (bs [])),(.int .i64 0),(.bool false)]),iD 5 (.move (.t 19)),iN (.store 3 (.t 6) (.t 21))]) (.seq (.seq (.region [ iD 22 (.fieldAddr 0 (.t 6)),iD 23 (.load false 1 (.t 22)),iD 24 (.fieldAddr 3 (.t 2)),iD 25 (.load false 1 (.t 24)),iD 26 (.bin .eql (.t 23) (.t 25)),iD 27 (.move (.t 26)),⟨(some 28),.fieldAddr 2 (.t 2),some (some 27,false)⟩,⟨(some 29),.load false 1 (.t 28),some (some 27,false)⟩,⟨(some 30),.fieldAddr 0 (.t 6),some (some 27,false)⟩,⟨(some 31),.load false 1 (.t 30),some (some 27,false)⟩,⟨(some 32),.call f_z17 [(.t 29),(.t 31)],some (some 27,false)⟩,iD 33 (.pick (.t 27) (.c (.bool true)) (.t 32))]) (.cond (.t 33) (.seq (.seq (.draw [ jD 34 (.fieldAddr 1 (.t 2)),jD 35 (.load false 1 (.t 34)),jD 36 (.move (.t 5)),jD 37 (.move (.t 5)),jD 38 (.bin .add (.t 37) (.c (.int .i64 1))),jD 39 (.slice 3 (.t 35) (some (.t 36)) (some (.t 38))),jD 40 (.move (.t 1)),jD 41 (.move (.t 5)),jD 42 (.move (.t 5)),jD 43 (.bin .add (.t 42) (.c (.int .i64 1))),jD 44 (.slice 3 (.t 40) (some (.t 41)) (some (.t 43))),jD 45 (.call f_z0v [(.t 39),(.t 44)]),jD 7 (.move (.t 45))]) (.seq (.region [ iD 46 (.move (.t 7)),iD 47 (.bin .neq (.t 46) (.c (.int .i64 0)))]) (.cond (.t 47) (.seq (.region [ iD 48 (.move (.t 7)),iD 4 (.move (.t 48))]) .ret) .skip))) (.exit 1)) .skip)) (.seq (.region [ iD 49 (.move (.t 1)),iD 50 (.move (.t 5)),iD 51 (.indexAddr 3 (.t 49) (.t 50)),iD 52 (.load true 3 (.t 51)),iD 53 (.build [(.int .i64 0),(.int .i64 0),(.str (bs []))] []),iD 54 (.eqs true [1,1,2] (.t 52) (.t 53))]) (.cond (.t 54) (.seq (.region [ iD 4 (.move (.c (.int .i64 8)))]) .ret) .skip))))) (.region [ iD 55 (.bin .add (.t 17) (.c (.int .i64 1))),iD 17 (.move (.t 55))]))))))) (.seq (.region [ iD 4 (.move (.c (.int .i64 0)))]) .ret))))⟩

structure F_z3y (P : Program) where
 id : FuncId
 z17 : F_z17 P
 z0v : F_z0v P
 has : Has P id [] (c_z3y z17.id z0v.id)

def c_z3w (f_z3y : FuncId) (f_z0v : FuncId) : AFunc := ⟨26,[.tmp 4],(.seq (.region [ iD 2 (.box (.t 0)),iD 3 (.box (.t 1)),iD 4 (.move (.c (.int .i64 0)))]) (.seq (.block 0 (.seq (.region [ iD 6 (.fieldAddr 1 (.t 3)),iD 7 (.load false 1 (.t 6)),iD 8 (.bin .lss (.t 7) (.c (.int .i64 0))),iD 9 (.move (.t 8)),⟨(some 10),.fieldAddr 1 (.t 3),some (some 9,false)⟩,⟨(some 11),.load false 1 (.t 10),some (some 9,false)⟩,⟨(some 12),.bin .gtr (.t 11) (.c (.int .i64 1073741824)),some (some 9,false)⟩,iD 13 (.pick (.t 9) (.c (.bool true)) (.t 12)),iD 5 (.move (.t 13))]) (.cond (.t 5) (.seq (.region [ iD 4 (.move (.c (.int .i64 1)))]) .ret) (.seq (.region [ iD 15 (.fieldAddr 0 (.t 3)),iD 16 (.load false 1 (.t 15)),iD 14 (.move (.t 16))]) (.cond (.t 14) (.seq (.region [ iD 17 (.load true 7 (.t 2)),iD 18 (.fieldAddr 2 (.t 3)),iD 19 (.load false 1 (.t 18)),iD 20 (.call f_z3y [(.t 17),(.t 19)]),iD 4 (.move (.t 20))]) .ret) .skip))))) (.seq (.region [ iD 21 (.fieldAddr 1 (.t 2)),iD 22 (.load false 1 (.t 21)),iD 23 (.fieldAddr 2 (.t 3)),iD 24 (.load false 1 (.t 23)),iD 25 (.call f_z0v [(.t 22),(.t 24)]),iD 4 (.move (.t 25))]) .ret)))⟩

structure F_z3w (P : Program) where
 id : FuncId
 z3y : F_z3y P
 z0v : F_z0v P
 has : Has P id [] (c_z3w z3y.id z0v.id)

def c_z14 : AFunc := ⟨8,[.tmp 2],(.seq (.region [ iD 2 (.move (.c .nil))]) (.seq (.seq (.region [ iD 3 (.move (.t 0)),iD 4 (.isNil false (.t 3))]) (.cond (.t 4) (.seq (.region [ iD 2 (.move (.c .nil))]) .ret) .skip)) (.seq (.region [ iD 5 (.buildSlice 5 0 [(.bool false),(.int .i64 0),.nil,(.int .i64 0),(.int .i64 0)] []),iD 6 (.move (.t 0)),iD 7 (.append 5 56 [(.bool false),(.int .i64 0),.nil,(.int .i64 0),(.int .i64 0)] (.t 5) (.t 6)),iD 2 (.move (.t 7))]) .ret)))⟩

structure F_z14 (P : Program) where
 id : FuncId
 has : Has P id [] c_z14

def c_z0o (f_z0w : FuncId) : AFunc := ⟨29,[.tmp 4],(.seq (.region [ iD 2 (.box (.t 0)),iD 3 (.box (.t 1)),iD 4 (.move (.c .nil))]) (.seq (.region [ iD 5 (.move (.c .nil))]) (.seq (.seq (.region [ iD 8 (.fieldAddr 2 (.t 2)),iD 9 (.load false 1 (.t 8)),iD 10 (.len (.t 9)),iD 11 (.move (.c (.int .i64 0)))]) (.block 0 (.loop (.seq (.region [ iD 12 (.bin .lss (.t 11) (.t 10))]) (.seq (.cond (.t 12) .skip (.exit 0)) (.seq (.block 1 (.seq (.region [ iD 13 (.indexAddr 1 (.t 9) (.t 11)),iD 14 (.load false 1 (.t 13)),iD 7 (.move (.t 14))]) (.draw [ jD 15 (.move (.t 5)),jD 16 (.fieldAddr 0 (.t 3)),jD 17 (.fieldAddr 2 (.t 16)),jD 18 (.load false 1 (.t 17)),jD 19 (.fieldAddr 1 (.t 2)),jD 20 (.load false 1 (.t 19)),jD 21 (.move (.t 7)),jD 22 (.call f_z0w [(.t 20),(.t 21)]),jD 23 (.indexAddr 3 (.t 18) (.t 22)),jD 24 (.load true 3 (.t 23)),jD 25 (.buildSlice 3 1 [(.int .i64 0),(.int .i64 0),(.str (bs []))] [(0,(.t 24))]),jD 26 (.append 3 32 [(.int .i64 0),(.int .i64 0),(.str (bs []))] (.t 15) (.t 25)),jD 5 (.move (.t 26))]))) (.region [ iD 27 (.bin .add (.t 11) (.c (.int .i64 1))),iD 11 (.move (.t 27))]))))))) (.seq (.region [ iD 28 (.move (.t 5)),iD 4 (.move (.t 28))]) .ret))))⟩

structure F_z0o (P : Program) where
 id : FuncId
 z0w : F_z0w P
 has : Has P id [] (c_z0o z0w.id)

def c_z3x (f_z0w : FuncId) (f_z3w : FuncId) : AFunc := ⟨34,[.tmp 4],(.seq (.region [ iD 2 (.box (.t 0)),iD 3 (.box (.t 1)),iD 4 (.move (.c (.int .i64 0)))]) (.seq (.region [ iD 6 (.fieldAddr 1 (.t 2)),iD 7 (.load false 1 (.t 6)),iD 8 (.fieldAddr 3 (.t 2)),iD 9 (.load false 1 (.t 8)),iD 10 (.call f_z0w [(.t 7),(.t 9)]),iD 5 (.move (.t 10))]) (.seq (.seq (.region [ iD 11 (.move (.t 5)),iD 12 (.bin .lss (.t 11) (.c (.int .i64 0))),iD 13 (.move (.t 12)),⟨(some 14),.load true 7 (.t 2),some (some 13,false)⟩,⟨(some 15),.load true 3 (.t 3),some (some 13,false)⟩,⟨(some 16),.call f_z3w [(.t 14),(.t 15)],some (some 13,false)⟩,⟨(some 17),.bin .neq (.t 16) (.c (.int .i64 0)),some (some 13,false)⟩,iD 18 (.pick (.t 13) (.c (.bool true)) (.t 17)),iD 19 (.move (.t 18)),⟨(some 20),.fieldAddr 2 (.t 3),some (some 19,false)⟩,⟨(some 21),.load false 1 (.t 20),some (some 19,false)⟩,⟨(some 22),.move (.t 5),some (some 19,false)⟩,⟨(some 23),.indexAddr 3 (.t 21) (.t 22),some (some 19,false)⟩,⟨(some 24),.fieldAddr 0 (.t 23),some (some 19,false)⟩,⟨(some 25),.load false 1 (.t 24),some (some 19,false)⟩,⟨(some 26),.bin .neq (.t 25) (.c (.int .i64 4)),some (some 19,false)⟩,iD 27 (.pick (.t 19) (.c (.bool true)) (.t 26))]) (.cond (.t 27) (.seq (.region [ iD 4 (.move (.c (.int .i64 (-1))))]) .ret) .skip)) (.seq (.region [ iD 28 (.fieldAddr 2 (.t 3)),iD 29 (.load false 1 (.t 28)),iD 30 (.move (.t 5)),iD 31 (.indexAddr 3 (.t 29) (.t 30)),iD 32 (.fieldAddr 1 (.t 31)),iD 33 (.load false 1 (.t 32)),iD 4 (.move (.t 33))]) .ret))))⟩

structure F_z3x (P : Program) where
 id : FuncId
 z0w : F_z0w P
 z3w : F_z3w P
 has : Has P id [] (c_z3x z0w.id z3w.id)

def c_z0r (f_z0o : FuncId) (f_z1p : FuncId) (f_z3x : FuncId) (f_z0a : FuncId) (f_z0c : FuncId) : AFunc := ⟨41,[.tmp 5],(.seq (.region [ iD 3 (.box (.t 0)),iD 4 (.box (.t 1)),iD 5 (.move (.c (.int .i64 0)))]) (.seq (.draw [ jD 6 (.load true 7 (.t 2)),jD 7 (.load true 5 (.t 3)),jD 8 (.call f_z0o [(.t 6),(.t 7)]),jD 9 (.load true 7 (.t 2)),jD 10 (.load true 5 (.t 4)),jD 11 (.call f_z0o [(.t 9),(.t 10)]),jD 12 (.call f_z1p [(.t 8),(.t 11)]),jD 13 (.load true 7 (.t 2)),jD 14 (.fieldAddr 0 (.t 3)),jD 15 (.load true 3 (.t 14)),jD 16 (.call f_z3x [(.t 13),(.t 15)]),jD 17 (.load true 7 (.t 2)),jD 18 (.fieldAddr 0 (.t 4)),jD 19 (.load true 3 (.t 18)),jD 20 (.call f_z3x [(.t 17),(.t 19)]),jD 21 (.call f_z0a [(.t 16),(.t 20)]),jD 22 (.fieldAddr 0 (.t 3)),jD 23 (.fieldAddr 1 (.t 22)),jD 24 (.load false 1 (.t 23)),jD 25 (.fieldAddr 0 (.t 4)),jD 26 (.fieldAddr 1 (.t 25)),jD 27 (.load false 1 (.t 26)),jD 28 (.call f_z0a [(.t 24),(.t 27)]),jD 29 (.fieldAddr 3 (.t 3)),jD 30 (.load false 1 (.t 29)),jD 31 (.fieldAddr 3 (.t 4)),jD 32 (.load false 1 (.t 31)),jD 33 (.call f_z0a [(.t 30),(.t 32)]),jD 34 (.fieldAddr 4 (.t 3)),jD 35 (.load false 1 (.t 34)),jD 36 (.fieldAddr 4 (.t 4)),jD 37 (.load false 1 (.t 36)),jD 38 (.call f_z0a [(.t 35),(.t 37)]),jD 39 (.buildSlice 1 5 [(.int .i64 0)] [(0,(.t 12)),(1,(.t 21)),(2,(.t 28)),(3,(.t 33)),(4,(.t 38))]),jD 40 (.call f_z0c [(.t 39)]),jD 5 (.move (.t 40))]) .ret))⟩

structure F_z0r (P : Program) where
 id : FuncId
 z0o : F_z0o P
 z1p : F_z1p P
 z3x : F_z3x P
 z0a : F_z0a P
 z0c : F_z0c P
 has : Has P id [] (c_z0r z0o.id z1p.id z3x.id z0a.id z0c.id)

def c_z1e : AFunc := ⟨53,[],(.seq (.region [ iD 10 (.move (.t 1)),iD 11 (.bin .add (.t 10) (.c (.int .i64 1))),iD 8 (.move (.t 11))]) (.block 0 (.loop (.seq (.seq (.region [ iD 12 (.move (.t 8)),iD 13 (.move (.t 2)),iD 14 (.bin .lss (.t 12) (.t 13))]) (.cond (.t 14) .skip (.exit 0))) (.seq (.block 1 (.seq (.region [ iD 17 (.move (.t 8)),iD 9 (.move (.t 17))]) (.block 2 (.loop (.seq (.seq (.draw [ jD 18 (.move (.t 9)),jD 19 (.move (.t 1)),jD 20 (.bin .gtr (.t 18) (.t 19)),jD 21 (.move (.t 20)),(⟨(some 22),.move (.t 3),some (some 21,true)⟩,[]),(⟨(some 23),.move (.t 0),some (some 21,true)⟩,[]),(⟨(some 24),.move (.t 9),some (some 21,true)⟩,[]),(⟨(some 25),.indexAddr 5 (.t 23) (.t 24),some (some 21,true)⟩,[]),(⟨(some 26),.load true 5 (.t 25),some (some 21,true)⟩,[]),(⟨(some 27),.move (.t 0),some (some 21,true)⟩,[]),(⟨(some 28),.move (.t 9),some (some 21,true)⟩,[]),(⟨(some 29),.bin .sub (.t 28) (.c (.int .i64 1)),some (some 21,true)⟩,[]),(⟨(some 30),.indexAddr 5 (.t 27) (.t 29),some (some 21,true)⟩,[]),(⟨(some 31),.load true 5 (.t 30),some (some 21,true)⟩,[]),(⟨(some 32),.callv (.t 22) [(.t 26),(.t 31)],some (some 21,true)⟩,[]),(⟨(some 33),.bin .lss (.t 32) (.c (.int .i64 0)),some (some 21,true)⟩,[]),jD 34 (.pick (.t 21) (.t 33) (.c (.bool false)))]) (.cond (.t 34) .skip (.exit 2))) (.seq (.block 3 (.draw [ jD 37 (.move (.t 0)),jD 38 (.move (.t 9)),jD 39 (.move (.t 0)),jD 40 (.move (.t 9)),jD 41 (.bin .sub (.t 40) (.c (.int .i64 1))),jD 42 (.move (.t 0)),jD 43 (.move (.t 9)),jD 44 (.bin .sub (.t 43) (.c (.int .i64 1))),jD 45 (.indexAddr 5 (.t 42) (.t 44)),jD 46 (.load true 5 (.t 45)),jD 47 (.move (.t 0)),jD 48 (.move (.t 9)),jD 49 (.indexAddr 5 (.t 47) (.t 48)),jD 50 (.load true 5 (.t 49)),jD 51 (.indexAddr 5 (.t 37) (.t 38)),(iN (.store 5 (.t 51) (.t 46)),[]),jD 52 (.indexAddr 5 (.t 39) (.t 41)),(iN (.store 5 (.t 52) (.t 50)),[])])) (.region [ iD 35 (.move (.t 9)),iD 36 (.bin .sub (.t 35) (.c (.int .i64 1))),iD 9 (.move (.t 36))]))))))) (.region [ iD 15 (.move (.t 8)),iD 16 (.bin .add (.t 15) (.c (.int .i64 1))),iD 8 (.move (.t 16))]))))))⟩

structure F_z1e (P : Program) where
 id : FuncId
 has : Has P id [] c_z1e

def c_z1i : AFunc := ⟨38,[],(.seq (.region [ iD 10 (.move (.c (.int .i64 0)))]) (.block 0 (.loop (.seq (.seq (.region [ iD 11 (.move (.t 10)),iD 12 (.move (.t 3)),iD 13 (.bin .lss (.t 11) (.t 12))]) (.cond (.t 13) .skip (.exit 0))) (.seq (.block 1 (.draw [ jD 16 (.move (.t 0)),jD 17 (.move (.t 1)),jD 18 (.move (.t 10)),jD 19 (.bin .add (.t 17) (.t 18)),jD 20 (.move (.t 0)),jD 21 (.move (.t 2)),jD 22 (.move (.t 10)),jD 23 (.bin .add (.t 21) (.t 22)),jD 24 (.move (.t 0)),jD 25 (.move (.t 2)),jD 26 (.move (.t 10)),jD 27 (.bin .add (.t 25) (.t 26)),jD 28 (.indexAddr 5 (.t 24) (.t 27)),jD 29 (.load true 5 (.t 28)),jD 30 (.move (.t 0)),jD 31 (.move (.t 1)),jD 32 (.move (.t 10)),jD 33 (.bin .add (.t 31) (.t 32)),jD 34 (.indexAddr 5 (.t 30) (.t 33)),jD 35 (.load true 5 (.t 34)),jD 36 (.indexAddr 5 (.t 16) (.t 19)),(iN (.store 5 (.t 36) (.t 29)),[]),jD 37 (.indexAddr 5 (.t 20) (.t 23)),(iN (.store 5 (.t 37) (.t 35)),[])])) (.region [ iD 14 (.move (.t 10)),iD 15 (.bin .add (.t 14) (.c (.int .i64 1))),iD 10 (.move (.t 15))]))))))⟩

structure F_z1i (P : Program) where
 id : FuncId
 has : Has P id [] c_z1i

def c_z1g (f_z1i : FuncId) : AFunc := ⟨58,[],(.seq (.region [ iD 12 (.move (.t 2)),iD 13 (.move (.t 1)),iD 14 (.bin .sub (.t 12) (.t 13)),iD 10 (.move (.t 14))]) (.seq (.region [ iD 15 (.move (.t 3)),iD 16 (.move (.t 2)),iD 17 (.bin .sub (.t 15) (.t 16)),iD 11 (.move (.t 17))]) (.seq (.block 0 (.loop (.seq (.seq (.region [ iD 18 (.move (.t 10)),iD 19 (.move (.t 11)),iD 20 (.bin .neq (.t 18) (.t 19))]) (.cond (.t 20) .skip (.exit 0))) (.block 1 (.seq (.region [ iD 21 (.move (.t 10)),iD 22 (.move (.t 11)),iD 23 (.bin .gtr (.t 21) (.t 22))]) (.cond (.t 23) (.seq (.region [ iD 24 (.move (.t 0)),iD 25 (.move (.t 2)),iD 26 (.move (.t 10)),iD 27 (.bin .sub (.t 25) (.t 26)),iD 28 (.move (.t 2)),iD 29 (.move (.t 11)),iD 30 (.move (.t 4)),iD 31 (.call f_z1i [(.t 24),(.t 27),(.t 28),(.t 29),(.t 30)])]) (.region [ iD 32 (.move (.t 10)),iD 33 (.move (.t 11)),iD 34 (.bin .sub (.t 32) (.t 33)),iD 10 (.move (.t 34))])) (.seq (.region [ iD 35 (.move (.t 0)),iD 36 (.move (.t 2)),iD 37 (.move (.t 10)),iD 38 (.bin .sub (.t 36) (.t 37)),iD 39 (.move (.t 2)),iD 40 (.move (.t 11)),iD 41 (.bin .add (.t 39) (.t 40)),iD 42 (.move (.t 10)),iD 43 (.bin .sub (.t 41) (.t 42)),iD 44 (.move (.t 10)),iD 45 (.move (.t 4)),iD 46 (.call f_z1i [(.t 35),(.t 38),(.t 43),(.t 44),(.t 45)])]) (.region [ iD 47 (.move (.t 11)),iD 48 (.move (.t 10)),iD 49 (.bin .sub (.t 47) (.t 48)),iD 11 (.move (.t 49))])))))))) (.region [ iD 50 (.move (.t 0)),iD 51 (.move (.t 2)),iD 52 (.move (.t 10)),iD 53 (.bin .sub (.t 51) (.t 52)),iD 54 (.move (.t 2)),iD 55 (.move (.t 10)),iD 56 (.move (.t 4)),iD 57 (.call f_z1i [(.t 50),(.t 53),(.t 54),(.t 55),(.t 56)])]))))⟩

structure F_z1g (P : Program) where
 id : FuncId
 z1i : F_z1i P
 has : Has P id [] (c_z1g z1i.id)

def c_z1j (f_z1g : FuncId) (f_z1j : FuncId) : AFunc := ⟨220,[],(.seq (.seq (.region [ iD 25 (.move (.t 2)),iD 26 (.move (.t 1)),iD 27 (.bin .sub (.t 25) (.t 26)),iD 28 (.bin .eql (.t 27) (.c (.int .i64 1)))]) (.cond (.t 28) (.seq (.region [ iD 29 (.move (.t 2)),iD 10 (.move (.t 29))]) (.seq (.region [ iD 30 (.move (.t 3)),iD 11 (.move (.t 30))]) (.seq (.block 0 (.loop (.seq (.seq (.region [ iD 31 (.move (.t 10)),iD 32 (.move (.t 11)),iD 33 (.bin .lss (.t 31) (.t 32))]) (.cond (.t 33) .skip (.exit 0))) (.block 1 (.seq (.region [ iD 34 (.move (.t 10)),iD 35 (.move (.t 11)),iD 36 (.bin .add (.t 34) (.t 35)),iD 37 (.conv .u64 (.t 36)),iD 38 (.bin .shr (.t 37) (.c (.int .u64 1))),iD 39 (.conv .i64 (.t 38)),iD 12 (.move (.t 39))]) (.seq (.draw [ jD 40 (.move (.t 4)),jD 41 (.move (.t 0)),jD 42 (.move (.t 12)),jD 43 (.indexAddr 5 (.t 41) (.t 42)),jD 44 (.load true 5 (.t 43)),jD 45 (.move (.t 0)),jD 46 (.move (.t 1)),jD 47 (.indexAddr 5 (.t 45) (.t 46)),jD 48 (.load true 5 (.t 47)),jD 49 (.callv (.t 40) [(.t 44),(.t 48)]),jD 50 (.bin .lss (.t 49) (.c (.int .i64 0)))]) (.cond (.t 50) (.region [ iD 51 (.move (.t 12)),iD 52 (.bin .add (.t 51) (.c (.int .i64 1))),iD 10 (.move (.t 52))]) (.region [ iD 53 (.move (.t 12)),iD 11 (.move (.t 53))])))))))) (.seq (.seq (.region [ iD 54 (.move (.t 1)),iD 13 (.move (.t 54))]) (.block 2 (.loop (.seq (.seq (.region [ iD 55 (.move (.t 13)),iD 56 (.move (.t 10)),iD 57 (.bin .sub (.t 56) (.c (.int .i64 1))),iD 58 (.bin .lss (.t 55) (.t 57))]) (.cond (.t 58) .skip (.exit 2))) (.seq (.block 3 (.draw [ jD 61 (.move (.t 0)),jD 62 (.move (.t 13)),jD 63 (.move (.t 0)),jD 64 (.move (.t 13)),jD 65 (.bin .add (.t 64) (.c (.int .i64 1))),jD 66 (.move (.t 0)),jD 67 (.move (.t 13)),jD 68 (.bin .add (.t 67) (.c (.int .i64 1))),jD 69 (.indexAddr 5 (.t 66) (.t 68)),jD 70 (.load true 5 (.t 69)),jD 71 (.move (.t 0)),jD 72 (.move (.t 13)),jD 73 (.indexAddr 5 (.t 71) (.t 72)),jD 74 (.load true 5 (.t 73)),jD 75 (.indexAddr 5 (.t 61) (.t 62)),(iN (.store 5 (.t 75) (.t 70)),[]),jD 76 (.indexAddr 5 (.t 63) (.t 65)),(iN (.store 5 (.t 76) (.t 74)),[])])) (.region [ iD 59 (.move (.t 13)),iD 60 (.bin .add (.t 59) (.c (.int .i64 1))),iD 13 (.move (.t 60))])))))) .ret)))) .skip)) (.seq (.seq (.region [ iD 77 (.move (.t 3)),iD 78 (.move (.t 2)),iD 79 (.bin .sub (.t 77) (.t 78)),iD 80 (.bin .eql (.t 79) (.c (.int .i64 1)))]) (.cond (.t 80) (.seq (.region [ iD 81 (.move (.t 1)),iD 14 (.move (.t 81))]) (.seq (.region [ iD 82 (.move (.t 2)),iD 15 (.move (.t 82))]) (.seq (.block 4 (.loop (.seq (.seq (.region [ iD 83 (.move (.t 14)),iD 84 (.move (.t 15)),iD 85 (.bin .lss (.t 83) (.t 84))]) (.cond (.t 85) .skip (.exit 4))) (.block 5 (.seq (.region [ iD 86 (.move (.t 14)),iD 87 (.move (.t 15)),iD 88 (.bin .add (.t 86) (.t 87)),iD 89 (.conv .u64 (.t 88)),iD 90 (.bin .shr (.t 89) (.c (.int .u64 1))),iD 91 (.conv .i64 (.t 90)),iD 16 (.move (.t 91))]) (.seq (.draw [ jD 92 (.move (.t 4)),jD 93 (.move (.t 0)),jD 94 (.move (.t 2)),jD 95 (.indexAddr 5 (.t 93) (.t 94)),jD 96 (.load true 5 (.t 95)),jD 97 (.move (.t 0)),jD 98 (.move (.t 16)),jD 99 (.indexAddr 5 (.t 97) (.t 98)),jD 100 (.load true 5 (.t 99)),jD 101 (.callv (.t 92) [(.t 96),(.t 100)]),jD 102 (.bin .lss (.t 101) (.c (.int .i64 0))),jD 103 (.un .not (.t 102))]) (.cond (.t 103) (.region [ iD 104 (.move (.t 16)),iD 105 (.bin .add (.t 104) (.c (.int .i64 1))),iD 14 (.move (.t 105))]) (.region [ iD 106 (.move (.t 16)),iD 15 (.move (.t 106))])))))))) (.seq (.seq (.region [ iD 107 (.move (.t 2)),iD 17 (.move (.t 107))]) (.block 6 (.loop (.seq (.seq (.region [ iD 108 (.move (.t 17)),iD 109 (.move (.t 14)),iD 110 (.bin .gtr (.t 108) (.t 109))]) (.cond (.t 110) .skip (.exit 6))) (.seq (.block 7 (.draw [ jD 113 (.move (.t 0)),jD 114 (.move (.t 17)),jD 115 (.move (.t 0)),jD 116 (.move (.t 17)),jD 117 (.bin .sub (.t 116) (.c (.int .i64 1))),jD 118 (.move (.t 0)),jD 119 (.move (.t 17)),jD 120 (.bin .sub (.t 119) (.c (.int .i64 1))),jD 121 (.indexAddr 5 (.t 118) (.t 120)),jD 122 (.load true 5 (.t 121)),jD 123 (.move (.t 0)),jD 124 (.move (.t 17)),jD 125 (.indexAddr 5 (.t 123) (.t 124)),jD 126 (.load true 5 (.t 125)),jD 127 (.indexAddr 5 (.t 113) (.t 114)),(iN (.store 5 (.t 127) (.t 122)),[]),jD 128 (.indexAddr 5 (.t 115) (.t 117)),(iN (.store 5 (.t 128) (.t 126)),[])])) (.region [ iD 111 (.move (.t 17)),iD 112 (.bin .sub (.t 111) (.c (.int .i64 1))),iD 17 (.move (.t 112))])))))) .ret)))) .skip)) (.seq (.region [ iD 129 (.move (.t 1)),iD 130 (.move (.t 3)),iD 131 (.bin .add (.t 129) (.t 130)),iD 132 (.conv .u64 (.t 131)),iD 133 (.bin .shr (.t 132) (.c (.int .u64 1))),iD 134 (.conv .i64 (.t 133)),iD 18 (.move (.t 134))]) (.seq (.region [ iD 135 (.move (.t 18)),iD 136 (.move (.t 2)),iD 137 (.bin .add (.t 135) (.t 136)),iD 19 (.move (.t 137))]) (.seq (.region [ iD 20 (.move (.c (.int .i64 0))),iD 21 (.move (.c (.int .i64 0)))]) (.seq (.seq (.region [ iD 138 (.move (.t 2)),iD 139 (.move (.t 18)),iD 140 (.bin .gtr (.t 138) (.t 139))]) (.cond (.t 140) (.seq (.region [ iD 141 (.move (.t 19)),iD 142 (.move (.t 3)),iD 143 (.bin .sub (.t 141) (.t 142)),iD 20 (.move (.t 143))]) (.region [ iD 144 (.move (.t 18)),iD 21 (.move (.t 144))])) (.seq (.region [ iD 145 (.move (.t 1)),iD 20 (.move (.t 145))]) (.region [ iD 146 (.move (.t 2)),iD 21 (.move (.t 146))])))) (.seq (.region [ iD 147 (.move (.t 19)),iD 148 (.bin .sub (.t 147) (.c (.int .i64 1))),iD 22 (.move (.t 148))]) (.seq (.block 8 (.loop (.seq (.seq (.region [ iD 149 (.move (.t 20)),iD 150 (.move (.t 21)),iD 151 (.bin .lss (.t 149) (.t 150))]) (.cond (.t 151) .skip (.exit 8))) (.block 9 (.seq (.region [ iD 152 (.move (.t 20)),iD 153 (.move (.t 21)),iD 154 (.bin .add (.t 152) (.t 153)),iD 155 (.conv .u64 (.t 154)),iD 156 (.bin .shr (.t 155) (.c (.int .u64 1))),iD 157 (.conv .i64 (.t 156)),iD 23 (.move (.t 157))]) (.seq (.draw [ jD 158 (.move (.t 4)),jD 159 (.move (.t 0)),jD 160 (.move (.t 22)),jD 161 (.move (.t 23)),jD 162 (.bin .sub (.t 160) (.t 161)),jD 163 (.indexAddr 5 (.t 159) (.t 162)),jD 164 (.load true 5 (.t 163)),jD 165 (.move (.t 0)),jD 166 (.move (.t 23)),jD 167 (.indexAddr 5 (.t 165) (.t 166)),jD 168 (.load true 5 (.t 167)),jD 169 (.callv (.t 158) [(.t 164),(.t 168)]),jD 170 (.bin .lss (.t 169) (.c (.int .i64 0))),jD 171 (.un .not (.t 170))]) (.cond (.t 171) (.region [ iD 172 (.move (.t 23)),iD 173 (.bin .add (.t 172) (.c (.int .i64 1))),iD 20 (.move (.t 173))]) (.region [ iD 174 (.move (.t 23)),iD 21 (.move (.t 174))])))))))) (.seq (.region [ iD 175 (.move (.t 19)),iD 176 (.move (.t 20)),iD 177 (.bin .sub (.t 175) (.t 176)),iD 24 (.move (.t 177))]) (.seq (.seq (.region [ iD 178 (.move (.t 20)),iD 179 (.move (.t 2)),iD 180 (.bin .lss (.t 178) (.t 179)),iD 181 (.move (.t 180)),⟨(some 182),.move (.t 2),some (some 181,true)⟩,⟨(some 183),.move (.t 24),some (some 181,true)⟩,⟨(some 184),.bin .lss (.t 182) (.t 183),some (some 181,true)⟩,iD 185 (.pick (.t 181) (.t 184) (.c (.bool false)))]) (.cond (.t 185) (.region [ iD 186 (.move (.t 0)),iD 187 (.move (.t 20)),iD 188 (.move (.t 2)),iD 189 (.move (.t 24)),iD 190 (.move (.t 4)),iD 191 (.call f_z1g [(.t 186),(.t 187),(.t 188),(.t 189),(.t 190)])]) .skip)) (.seq (.seq (.region [ iD 192 (.move (.t 1)),iD 193 (.move (.t 20)),iD 194 (.bin .lss (.t 192) (.t 193)),iD 195 (.move (.t 194)),⟨(some 196),.move (.t 20),some (some 195,true)⟩,⟨(some 197),.move (.t 18),some (some 195,true)⟩,⟨(some 198),.bin .lss (.t 196) (.t 197),some (some 195,true)⟩,iD 199 (.pick (.t 195) (.t 198) (.c (.bool false)))]) (.cond (.t 199) (.region [ iD 200 (.move (.t 0)),iD 201 (.move (.t 1)),iD 202 (.move (.t 20)),iD 203 (.move (.t 18)),iD 204 (.move (.t 4)),iD 205 (.call f_z1j [(.t 200),(.t 201),(.t 202),(.t 203),(.t 204)])]) .skip)) (.seq (.region [ iD 206 (.move (.t 18)),iD 207 (.move (.t 24)),iD 208 (.bin .lss (.t 206) (.t 207)),iD 209 (.move (.t 208)),⟨(some 210),.move (.t 24),some (some 209,true)⟩,⟨(some 211),.move (.t 3),some (some 209,true)⟩,⟨(some 212),.bin .lss (.t 210) (.t 211),some (some 209,true)⟩,iD 213 (.pick (.t 209) (.t 212) (.c (.bool false)))]) (.cond (.t 213) (.region [ iD 214 (.move (.t 0)),iD 215 (.move (.t 18)),iD 216 (.move (.t 24)),iD 217 (.move (.t 3)),iD 218 (.move (.t 4)),iD 219 (.call f_z1j [(.t 214),(.t 215),(.t 216),(.t 217),(.t 218)])]) .skip)))))))))))))⟩

structure F_z1j (P : Program) where
 id : FuncId
 z1g : F_z1g P
 has : Has P id [] (c_z1j z1g.id id)

def c_z1h (f_z1e : FuncId) (f_z1j : FuncId) : AFunc := ⟨63,[],(.seq (.region [ iD 6 (.move (.c (.int .i64 20)))]) (.seq (.region [ iD 10 (.move (.t 6)),iD 7 (.move (.c (.int .i64 0))),iD 8 (.move (.t 10))]) (.seq (.block 0 (.loop (.seq (.seq (.region [ iD 11 (.move (.t 8)),iD 12 (.move (.t 1)),iD 13 (.bin .leq (.t 11) (.t 12))]) (.cond (.t 13) .skip (.exit 0))) (.block 1 (.seq (.region [ iD 14 (.move (.t 0)),iD 15 (.move (.t 7)),iD 16 (.move (.t 8)),iD 17 (.move (.t 2)),iD 18 (.call f_z1e [(.t 14),(.t 15),(.t 16),(.t 17)])]) (.seq (.region [ iD 19 (.move (.t 8)),iD 7 (.move (.t 19))]) (.region [ iD 20 (.move (.t 8)),iD 21 (.move (.t 6)),iD 22 (.bin .add (.t 20) (.t 21)),iD 8 (.move (.t 22))]))))))) (.seq (.region [ iD 23 (.move (.t 0)),iD 24 (.move (.t 7)),iD 25 (.move (.t 1)),iD 26 (.move (.t 2)),iD 27 (.call f_z1e [(.t 23),(.t 24),(.t 25),(.t 26)])]) (.block 2 (.loop (.seq (.seq (.region [ iD 28 (.move (.t 6)),iD 29 (.move (.t 1)),iD 30 (.bin .lss (.t 28) (.t 29))]) (.cond (.t 30) .skip (.exit 2))) (.block 3 (.seq (.region [ iD 31 (.move (.t 6)),iD 32 (.bin .mul (.c (.int .i64 2)) (.t 31)),iD 7 (.move (.c (.int .i64 0))),iD 8 (.move (.t 32))]) (.seq (.block 4 (.loop (.seq (.seq (.region [ iD 33 (.move (.t 8)),iD 34 (.move (.t 1)),iD 35 (.bin .leq (.t 33) (.t 34))]) (.cond (.t 35) .skip (.exit 4))) (.block 5 (.seq (.region [ iD 36 (.move (.t 0)),iD 37 (.move (.t 7)),iD 38 (.move (.t 7)),iD 39 (.move (.t 6)),iD 40 (.bin .add (.t 38) (.t 39)),iD 41 (.move (.t 8)),iD 42 (.move (.t 2)),iD 43 (.call f_z1j [(.t 36),(.t 37),(.t 40),(.t 41),(.t 42)])]) (.seq (.region [ iD 44 (.move (.t 8)),iD 7 (.move (.t 44))]) (.region [ iD 45 (.move (.t 8)),iD 46 (.move (.t 6)),iD 47 (.bin .mul (.c (.int .i64 2)) (.t 46)),iD 48 (.bin .add (.t 45) (.t 47)),iD 8 (.move (.t 48))]))))))) (.seq (.seq (.region [ iD 49 (.move (.t 7)),iD 50 (.move (.t 6)),iD 51 (.bin .add (.t 49) (.t 50)),iD 9 (.move (.t 51))]) (.seq (.region [ iD 52 (.move (.t 9)),iD 53 (.move (.t 1)),iD 54 (.bin .lss (.t 52) (.t 53))]) (.cond (.t 54) (.region [ iD 55 (.move (.t 0)),iD 56 (.move (.t 7)),iD 57 (.move (.t 9)),iD 58 (.move (.t 1)),iD 59 (.move (.t 2)),iD 60 (.call f_z1j [(.t 55),(.t 56),(.t 57),(.t 58),(.t 59)])]) .skip))) (.region [ iD 61 (.move (.t 6)),iD 62 (.bin .mul (.t 61) (.c (.int .i64 2))),iD 6 (.move (.t 62))]))))))))))))⟩

structure F_z1h (P : Program) where
 id : FuncId
 z1e : F_z1e P
 z1j : F_z1j P
 has : Has P id [] (c_z1h z1e.id z1j.id)

def c_z1c (f_z1h : FuncId) : AFunc := ⟨9,[],(.region [ iD 4 (.move (.t 0)),iD 5 (.move (.t 0)),iD 6 (.len (.t 5)),iD 7 (.move (.t 1)),iD 8 (.call f_z1h [(.t 4),(.t 6),(.t 7)])])⟩

structure F_z1c (P : Program) where
 id : FuncId
 z1h : F_z1h P
 has : Has P id [] (c_z1c z1h.id)

def c_z0q (f_z14 : FuncId) (f_z0r : FuncId) (f_z1c : FuncId) : AFunc := ⟨12,[.tmp 4],(.seq (.region [ iD 2 (.box (.t 0)),iD 4 (.move (.c .nil))]) (.seq (.seq (.region [ iD 6 (.move (.t 1)),iD 7 (.call f_z14 [(.t 6)]),iD 5 (.move (.t 7))]) .ghost) (.seq (.region [ iD 8 (.move (.t 5)),iD 9 (.makeFunc f_z0r [(.t 2)]),iD 10 (.call f_z1c [(.t 8),(.t 9)])]) (.seq (.region [ iD 11 (.move (.t 5)),iD 4 (.move (.t 11))]) .ret))))⟩

structure F_z0q (P : Program) where
 id : FuncId
 z14 : F_z14 P
 z0r : F_z0r P
 z1c : F_z1c P
 has : Has P id [100005] (c_z0q z14.id z0r.id z1c.id)

def c_z0s (f_z0o : FuncId) (f_z1p : FuncId) (f_z3x : FuncId) : AFunc := ⟨51,[.tmp 4],(.seq (.region [ iD 2 (.box (.t 0)),iD 4 (.move (.c .nil))]) (.seq (.region [ iD 5 (.move (.c .nil))]) (.seq (.seq (.region [ iD 9 (.move (.t 1)),iD 10 (.len (.t 9)),iD 11 (.move (.c (.int .i64 0)))]) (.block 0 (.loop (.seq (.region [ iD 12 (.bin .lss (.t 11) (.t 10))]) (.seq (.cond (.t 12) .skip (.exit 0)) (.seq (.block 1 (.seq (.region [ iD 13 (.move (.t 11)),iD 14 (.indexAddr 5 (.t 9) (.t 11)),iD 15 (.load true 5 (.t 14)),iD 7 (.alloc [(.bool false),(.int .i64 0),.nil,(.int .i64 0),(.int .i64 0)]),iD 6 (.move (.t 13)),iN (.store 5 (.t 7) (.t 15))]) (.seq (.seq (.region [ iD 16 (.move (.t 6)),iD 17 (.bin .add (.t 16) (.c (.int .i64 1))),iD 18 (.move (.t 1)),iD 19 (.len (.t 18)),iD 20 (.bin .lss (.t 17) (.t 19))]) (.cond (.t 20) (.seq (.region [ iD 21 (.move (.t 1)),iD 22 (.move (.t 6)),iD 23 (.bin .add (.t 22) (.c (.int .i64 1))),iD 24 (.indexAddr 5 (.t 21) (.t 23)),iD 25 (.load true 5 (.t 24)),iD 8 (.alloc [(.bool false),(.int .i64 0),.nil,(.int .i64 0),(.int .i64 0)]),iN (.store 5 (.t 8) (.t 25))]) (.seq (.draw [ jD 26 (.load true 7 (.t 2)),jD 27 (.load true 5 (.t 7)),jD 28 (.call f_z0o [(.t 26),(.t 27)]),jD 29 (.load true 7 (.t 2)),jD 30 (.load true 5 (.t 8)),jD 31 (.call f_z0o [(.t 29),(.t 30)]),jD 32 (.call f_z1p [(.t 28),(.t 31)]),jD 33 (.bin .eql (.t 32) (.c (.int .i64 0))),jD 34 (.move (.t 33)),(⟨(some 35),.load true 7 (.t 2),some (some 34,true)⟩,[]),(⟨(some 36),.fieldAddr 0 (.t 7),some (some 34,true)⟩,[]),(⟨(some 37),.load true 3 (.t 36),some (some 34,true)⟩,[]),(⟨(some 38),.call f_z3x [(.t 35),(.t 37)],some (some 34,true)⟩,[]),(⟨(some 39),.load true 7 (.t 2),some (some 34,true)⟩,[]),(⟨(some 40),.fieldAddr 0 (.t 8),some (some 34,true)⟩,[]),(⟨(some 41),.load true 3 (.t 40),some (some 34,true)⟩,[]),(⟨(some 42),.call f_z3x [(.t 39),(.t 41)],some (some 34,true)⟩,[]),(⟨(some 43),.bin .eql (.t 38) (.t 42),some (some 34,true)⟩,[]),jD 44 (.pick (.t 34) (.t 43) (.c (.bool false)))]) (.cond (.t 44) (.exit 1) .skip))) .skip)) (.region [ iD 45 (.move (.t 5)),iD 46 (.load true 5 (.t 7)),iD 47 (.buildSlice 5 1 [(.bool false),(.int .i64 0),.nil,(.int .i64 0),(.int .i64 0)] [(0,(.t 46))]),iD 48 (.append 5 56 [(.bool false),(.int .i64 0),.nil,(.int .i64 0),(.int .i64 0)] (.t 45) (.t 47)),iD 5 (.move (.t 48))])))) (.region [ iD 49 (.bin .add (.t 11) (.c (.int .i64 1))),iD 11 (.move (.t 49))]))))))) (.seq (.region [ iD 50 (.move (.t 5)),iD 4 (.move (.t 50))]) .ret))))⟩

structure F_z0s (P : Program) where
 id : FuncId
 z0o : F_z0o P
 z1p : F_z1p P
 z3x : F_z3x P
 has : Has P id [] (c_z0s z0o.id z1p.id z3x.id)

def c_z0m (f_z1p : FuncId) : AFunc := ⟨10,[.tmp 4],(.seq (.region [ iD 2 (.box (.t 0)),iD 3 (.box (.t 1)),iD 4 (.move (.c (.int .i64 0)))]) (.seq (.region [ iD 5 (.fieldAddr 0 (.t 2)),iD 6 (.load false 1 (.t 5)),iD 7 (.fieldAddr 0 (.t 3)),iD 8 (.load false 1 (.t 7)),iD 9 (.call f_z1p [(.t 6),(.t 8)]),iD 4 (.move (.t 9))]) .ret))⟩

structure F_z0m (P : Program) where
 id : FuncId
 z1p : F_z1p P
 has : Has P id [] (c_z0m z1p.id)

def c_z0l (f_z0h : FuncId) (f_z3w : FuncId) (f_z0q : FuncId) (f_z0s : FuncId) (f_z0o : FuncId) (f_z1p : FuncId) (f_z3x : FuncId) (f_z13 : FuncId) (f_z1b : FuncId) (f_z0m : FuncId) : AFunc := ⟨106,[.tmp 4,.tmp 5],(.seq (.region [ iD 2 (.box (.t 0)),iD 4 (.move (.c .nil)),iD 5 (.move (.c (.int .i64 0)))]) (.seq (.seq (.region [ iD 18 (.load true 7 (.t 2)),iD 19 (.call f_z0h [(.t 18)]),iD 17 (.move (.t 19)),iD 20 (.extract (.t 17) 0),iD 21 (.extract (.t 17) 1),iD 6 (.move (.t 20)),iD 7 (.move (.t 21))]) (.seq (.region [ iD 22 (.move (.t 7)),iD 23 (.bin .neq (.t 22) (.c (.int .i64 0)))]) (.cond (.t 23) (.seq (.region [ iD 24 (.move (.t 7)),iD 4 (.move (.c .nil)),iD 5 (.move (.t 24))]) .ret) .skip))) (.seq (.seq (.region [ iD 25 (.move (.t 1)),iD 26 (.len (.t 25)),iD 27 (.move (.c (.int .i64 0)))]) (.block 0 (.loop (.seq (.region [ iD 28 (.bin .lss (.t 27) (.t 26))]) (.seq (.cond (.t 28) .skip (.exit 0)) (.seq (.block 1 (.seq (.region [ iD 29 (.indexAddr 5 (.t 25) (.t 27)),iD 30 (.load true 5 (.t 29)),iD 9 (.alloc [(.bool false),(.int .i64 0),.nil,(.int .i64 0),(.int .i64 0)]),iN (.store 5 (.t 9) (.t 30))]) (.seq (.region [ iD 31 (.load true 7 (.t 2)),iD 32 (.fieldAddr 0 (.t 9)),iD 33 (.load true 3 (.t 32)),iD 34 (.call f_z3w [(.t 31),(.t 33)]),iD 10 (.move (.t 34))]) (.seq (.region [ iD 35 (.move (.t 10)),iD 36 (.bin .neq (.t 35) (.c (.int .i64 0)))]) (.cond (.t 36) (.seq (.region [ iD 37 (.move (.t 10)),iD 4 (.move (.c .nil)),iD 5 (.move (.t 37))]) .ret) .skip))))) (.region [ iD 38 (.bin .add (.t 27) (.c (.int .i64 1))),iD 27 (.move (.t 38))]))))))) (.seq (.draw [ jD 39 (.load true 7 (.t 2)),jD 40 (.load true 7 (.t 2)),jD 41 (.move (.t 1)),jD 42 (.call f_z0q [(.t 40),(.t 41)]),jD 43 (.call f_z0s [(.t 39),(.t 42)]),jD 11 (.move (.t 43))]) (.seq (.region [ iD 12 (.move (.c .nil))]) (.seq (.seq (.region [ iD 44 (.move (.t 11)),iD 45 (.len (.t 44)),iD 46 (.move (.c (.int .i64 0)))]) (.block 2 (.loop (.seq (.region [ iD 47 (.bin .lss (.t 46) (.t 45))]) (.seq (.cond (.t 47) .skip (.exit 2)) (.seq (.block 3 (.seq (.region [ iD 48 (.move (.t 46)),iD 49 (.indexAddr 5 (.t 44) (.t 46)),iD 50 (.load true 5 (.t 49)),iD 14 (.alloc [(.bool false),(.int .i64 0),.nil,(.int .i64 0),(.int .i64 0)]),iD 13 (.move (.t 48)),iN (.store 5 (.t 14) (.t 50))]) (.seq (.seq (.region [ iD 51 (.fieldAddr 0 (.t 14)),iD 52 (.fieldAddr 0 (.t 51)),iD 53 (.load false 1 (.t 52))]) (.cond (.t 53) (.exit 3) .skip)) (.seq (.region [ iD 15 (.alloc [(.int .i64 0),(.int .i64 0),(.str (bs []))])]) (.seq (.seq (.draw [ jD 54 (.move (.t 13)),jD 55 (.bin .add (.t 54) (.c (.int .i64 1))),jD 56 (.move (.t 11)),jD 57 (.len (.t 56)),jD 58 (.bin .lss (.t 55) (.t 57)),jD 59 (.move (.t 58)),(⟨(some 60),.load true 7 (.t 2),some (some 59,true)⟩,[]),(⟨(some 61),.load true 5 (.t 14),some (some 59,true)⟩,[]),(⟨(some 62),.call f_z0o [(.t 60),(.t 61)],some (some 59,true)⟩,[]),(⟨(some 63),.load true 7 (.t 2),some (some 59,true)⟩,[]),(⟨(some 64),.move (.t 11),some (some 59,true)⟩,[]),(⟨(some 65),.move (.t 13),some (some 59,true)⟩,[]),(⟨(some 66),.bin .add (.t 65) (.c (.int .i64 1)),some (some 59,true)⟩,[]),(⟨(some 67),.indexAddr 5 (.t 64) (.t 66),some (some 59,true)⟩,[]),(⟨(some 68),.load true 5 (.t 67),some (some 59,true)⟩,[]),(⟨(some 69),.call f_z0o [(.t 63),(.t 68)],some (some 59,true)⟩,[]),(⟨(some 70),.call f_z1p [(.t 62),(.t 69)],some (some 59,true)⟩,[]),(⟨(some 71),.bin .eql (.t 70) (.c (.int .i64 0)),some (some 59,true)⟩,[]),jD 72 (.pick (.t 59) (.t 71) (.c (.bool false)))]) (.cond (.t 72) (.draw [ jD 73 (.load true 7 (.t 2)),jD 74 (.move (.t 11)),jD 75 (.move (.t 13)),jD 76 (.bin .add (.t 75) (.c (.int .i64 1))),jD 77 (.indexAddr 5 (.t 74) (.t 76)),jD 78 (.fieldAddr 0 (.t 77)),jD 79 (.load true 3 (.t 78)),jD 80 (.call f_z3x [(.t 73),(.t 79)]),jD 81 (.build [(.int .i64 0),(.int .i64 0),(.str (bs []))] [(0,1,(.c (.int .i64 4))),(1,1,(.t 80))]),(iN (.store 3 (.t 15) (.t 81)),[])]) .skip)) (.seq (.draw [ jD 82 (.fieldAddr 0 (.t 14)),jD 83 (.fieldAddr 2 (.t 82)),jD 84 (.load false 1 (.t 83)),jD 85 (.callE f_z13 [(.t 84)]),(iD 86 (.load true 7 (.t 2)),[13]),jD 87 (.fieldAddr 0 (.t 14)),(iD 88 (.load true 3 (.t 87)),[13]),jD 89 (.call f_z3x [(.t 86),(.t 88)]),jD 90 (.build [(.int .i64 0),(.int .i64 0),(.str (bs []))] [(0,1,(.c (.int .i64 4))),(1,1,(.t 89))]),(iD 91 (.load true 3 (.t 15)),[13]),jD 92 (.buildSlice 3 2 [(.int .i64 0),(.int .i64 0),(.str (bs []))] [(0,(.t 90)),(1,(.t 91))]),jD 93 (.append 3 32 [(.int .i64 0),(.int .i64 0),(.str (bs []))] (.t 85) (.t 92)),jD 16 (.move (.t 93))]) (.region [ iD 94 (.move (.t 12)),iD 95 (.move (.t 16)),iD 96 (.build [.nil,(.int .i64 0)] [(0,1,(.t 95)),(1,1,(.c (.int .i64 1)))]),iD 97 (.buildSliceO 2 1 [.nil,(.int .i64 0)] [(0,(.t 96))]),iD 98 (.append 2 32 [.nil,(.int .i64 0)] (.t 94) (.t 97)),iD 12 (.move (.t 98))]))))))) (.region [ iD 99 (.bin .add (.t 46) (.c (.int .i64 1))),iD 46 (.move (.t 99))]))))))) (.seq (.seq (.region [ iD 100 (.move (.t 12)),iD 101 (.len (.t 100)),iD 102 (.bin .gtr (.t 101) (.c (.int .i64 4096)))]) (.cond (.t 102) (.seq (.region [ iD 4 (.move (.c .nil)),iD 5 (.move (.c (.int .i64 2)))]) .ret) .skip)) (.seq (.region [ iD 103 (.move (.t 12)),iD 104 (.call f_z1b [(.t 103),(.c (.fn f_z0m []))])]) (.seq (.region [ iD 105 (.move (.t 12)),iD 4 (.move (.t 105)),iD 5 (.move (.c (.int .i64 0)))]) .ret)))))))))⟩

structure F_z0l (P : Program) where
 id : FuncId
 z0h : F_z0h P
 z3w : F_z3w P
 z0q : F_z0q P
 z0s : F_z0s P
 z0o : F_z0o P
 z1p : F_z1p P
 z3x : F_z3x P
 z13 : F_z13 P
 z1b : F_z1b P
 z0m : RawF
 has : Has P id [85, 97] (c_z0l z0h.id z3w.id z0q.id z0s.id z0o.id z1p.id z3x.id z13.id z1b.id z0m.id)

def c_z0n (f_z0h : FuncId) (f_z01 : FuncId) (f_z0v : FuncId) : AFunc := ⟨39,[.tmp 4,.tmp 5],(.seq (.region [ iD 2 (.box (.t 0)),iD 4 (.move (.c (.int .i64 0))),iD 5 (.move (.c (.int .i64 0)))]) (.seq (.region [ iD 10 (.load true 7 (.t 2)),iD 11 (.call f_z0h [(.t 10)]),iD 9 (.move (.t 11)),iD 12 (.extract (.t 9) 0),iD 13 (.extract (.t 9) 1),iD 6 (.move (.t 12)),iD 7 (.move (.t 13))]) (.seq (.seq (.region [ iD 14 (.move (.t 7)),iD 15 (.bin .eql (.t 14) (.c (.int .i64 0)))]) (.cond (.t 15) (.region [ iD 16 (.move (.t 1)),iD 17 (.call f_z01 [(.t 16)]),iD 7 (.move (.t 17))]) .skip)) (.seq (.seq (.region [ iD 8 (.move (.c (.int .i64 0)))]) (.block 0 (.loop (.seq (.seq (.region [ iD 18 (.move (.t 8)),iD 19 (.move (.t 1)),iD 20 (.len (.t 19)),iD 21 (.bin .lss (.t 18) (.t 20)),iD 22 (.move (.t 21)),⟨(some 23),.move (.t 7),some (some 22,true)⟩,⟨(some 24),.bin .eql (.t 23) (.c (.int .i64 0)),some (some 22,true)⟩,iD 25 (.pick (.t 22) (.t 24) (.c (.bool false)))]) (.cond (.t 25) .skip (.exit 0))) (.seq (.block 1 (.region [ iD 28 (.move (.t 6)),iD 29 (.move (.t 1)),iD 30 (.move (.t 8)),iD 31 (.indexAddr 2 (.t 29) (.t 30)),iD 32 (.fieldAddr 0 (.t 31)),iD 33 (.load false 1 (.t 32)),iD 34 (.call f_z0v [(.t 28),(.t 33)]),iD 7 (.move (.t 34))])) (.region [ iD 26 (.move (.t 8)),iD 27 (.bin .add (.t 26) (.c (.int .i64 1))),iD 8 (.move (.t 27))])))))) (.seq (.region [ iD 35 (.move (.t 6)),iD 36 (.len (.t 35)),iD 37 (.bin .sub (.t 36) (.c (.int .i64 2))),iD 38 (.move (.t 7)),iD 4 (.move (.t 37)),iD 5 (.move (.t 38))]) .ret)))))⟩

structure F_z0n (P : Program) where
 id : FuncId
 z0h : F_z0h P
 z01 : F_z01 P
 z0v : F_z0v P
 has : Has P id [] (c_z0n z0h.id z01.id z0v.id)

def c_z0g : AFunc := ⟨21,[.tmp 5],(.seq (.region [ iD 3 (.box (.t 0)),iD 4 (.box (.t 1)),iD 5 (.move (.c (.bool false)))]) (.seq (.region [ iD 6 (.fieldAddr 1 (.t 3)),iD 7 (.load false 1 (.t 6)),iD 8 (.load false 1 (.t 2)),iD 9 (.bin .leq (.t 7) (.t 8)),iD 10 (.move (.t 9)),⟨(some 11),.fieldAddr 0 (.t 4),some (some 10,true)⟩,⟨(some 12),.load false 1 (.t 11),some (some 10,true)⟩,⟨(some 13),.bin .eql (.t 12) (.c (.int .i64 0)),some (some 10,true)⟩,⟨(some 14),.move (.t 13),some (some 10,true)⟩,⟨(some 15),.fieldAddr 1 (.t 4),some (some 14,false)⟩,⟨(some 16),.load false 1 (.t 15),some (some 14,false)⟩,⟨(some 17),.load false 1 (.t 2),some (some 14,false)⟩,⟨(some 18),.bin .gtr (.t 16) (.t 17),some (some 14,false)⟩,⟨(some 19),.pick (.t 14) (.c (.bool true)) (.t 18),some (some 10,true)⟩,iD 20 (.pick (.t 10) (.t 19) (.c (.bool false))),iD 5 (.move (.t 20))]) .ret))⟩

structure F_z0g (P : Program) where
 id : FuncId
 has : Has P id [] c_z0g

def c_z0p (f_z00 : FuncId) : AFunc := ⟨45,[.tmp 6,.tmp 7],(.seq (.region [ iD 6 (.move (.c .nil)),iD 7 (.move (.c (.int .i64 0)))]) (.seq (.region [ iD 8 (.move (.c .nil))]) (.seq (.seq (.region [ iD 11 (.move (.t 0)),iD 12 (.len (.t 11)),iD 13 (.move (.c (.int .i64 0)))]) (.seq (.block 0 (.loop (.seq (.region [ iD 14 (.bin .lss (.t 13) (.t 12))]) (.seq (.cond (.t 14) .skip (.exit 0)) (.seq (.block 1 (.seq (.region [ iD 15 (.indexAddr 2 (.t 11) (.t 13)),iD 16 (.load true 2 (.t 15)),iD 10 (.alloc [.nil,(.int .i64 0)]),iN (.store 2 (.t 10) (.t 16))]) (.seq (.draw [ jD 17 (.move (.t 2)),jD 18 (.fieldAddr 0 (.t 10)),jD 19 (.load false 1 (.t 18)),jD 20 (.move (.t 1)),jD 21 (.indexAddr 3 (.t 19) (.t 20)),jD 22 (.load true 3 (.t 21)),jD 23 (.fieldAddr 0 (.t 10)),jD 24 (.load false 1 (.t 23)),jD 25 (.move (.t 1)),jD 26 (.bin .add (.t 25) (.c (.int .i64 1))),jD 27 (.indexAddr 3 (.t 24) (.t 26)),jD 28 (.load true 3 (.t 27)),jD 29 (.callv (.t 17) [(.t 22),(.t 28)])]) (.cond (.t 29) (.draw [ jD 30 (.move (.t 8)),jD 31 (.fieldAddr 0 (.t 10)),jD 32 (.load false 1 (.t 31)),jD 33 (.move (.t 1)),jD 34 (.slice 3 (.t 32) none (some (.t 33))),jD 35 (.fieldAddr 1 (.t 10)),jD 36 (.load false 1 (.t 35)),jD 37 (.build [.nil,(.int .i64 0)] [(0,1,(.t 34)),(1,1,(.t 36))]),jD 38 (.buildSlice 2 1 [.nil,(.int .i64 0)] [(0,(.t 37))]),jD 39 (.append 2 32 [.nil,(.int .i64 0)] (.t 30) (.t 38)),jD 8 (.move (.t 39))]) .skip)))) (.region [ iD 40 (.bin .add (.t 13) (.c (.int .i64 1))),iD 13 (.move (.t 40))])))))) .ghost)) (.seq (.region [ iD 41 (.move (.t 8)),iD 42 (.call f_z00 [(.t 41)]),iD 43 (.extract (.t 42) 0),iD 44 (.extract (.t 42) 1),iD 6 (.move (.t 43)),iD 7 (.move (.t 44))]) .ret))))⟩

structure F_z0p (P : Program) where
 id : FuncId
 z00 : F_z00 P
 has : Has P id [200000] (c_z0p z00.id)

def c_z0f (f_z0n : FuncId) (f_z0g : FuncId) (f_z0p : FuncId) : AFunc := ⟨31,[.tmp 6,.tmp 7],(.seq (.seq (.region [ iD 3 (.box (.t 0)),iD 5 (.box (.t 2)),iD 6 (.move (.c .nil)),iD 7 (.move (.c (.int .i64 0)))]) .ghost) (.seq (.region [ iD 11 (.load true 7 (.t 3)),iD 12 (.move (.t 1)),iD 13 (.call f_z0n [(.t 11),(.t 12)]),iD 10 (.move (.t 13)),iD 14 (.extract (.t 10) 0),iD 15 (.extract (.t 10) 1),iD 8 (.move (.t 14)),iD 9 (.move (.t 15))]) (.seq (.seq (.region [ iD 16 (.move (.t 9)),iD 17 (.bin .neq (.t 16) (.c (.int .i64 0)))]) (.cond (.t 17) (.seq (.region [ iD 18 (.move (.t 9)),iD 6 (.move (.c .nil)),iD 7 (.move (.t 18))]) .ret) .skip)) (.seq (.seq (.region [ iD 19 (.load false 1 (.t 5)),iD 20 (.bin .lss (.t 19) (.c (.int .i64 0))),iD 21 (.move (.t 20)),⟨(some 22),.load false 1 (.t 5),some (some 21,false)⟩,⟨(some 23),.bin .gtr (.t 22) (.c (.int .i64 575999999)),some (some 21,false)⟩,iD 24 (.pick (.t 21) (.c (.bool true)) (.t 23))]) (.cond (.t 24) (.seq (.region [ iD 6 (.move (.c .nil)),iD 7 (.move (.c (.int .i64 1)))]) .ret) .skip)) (.seq (.region [ iD 25 (.move (.t 1)),iD 26 (.move (.t 8)),iD 27 (.makeFunc f_z0g [(.t 5)]),iD 28 (.call f_z0p [(.t 25),(.t 26),(.t 27)]),iD 29 (.extract (.t 28) 0),iD 30 (.extract (.t 28) 1),iD 6 (.move (.t 29)),iD 7 (.move (.t 30))]) .ret)))))⟩

structure F_z0f (P : Program) where
 id : FuncId
 z0n : F_z0n P
 z0g : F_z0g P
 z0p : F_z0p P
 has : Has P id [100005] (c_z0f z0n.id z0g.id z0p.id)

def c_z0k : AFunc := ⟨8,[.tmp 4],(.seq (.region [ iD 2 (.box (.t 0)),iD 3 (.box (.t 1)),iD 4 (.move (.c (.bool false)))]) (.seq (.region [ iD 5 (.fieldAddr 0 (.t 3)),iD 6 (.load false 1 (.t 5)),iD 7 (.bin .eql (.t 6) (.c (.int .i64 0))),iD 4 (.move (.t 7))]) .ret))⟩

structure F_z0k (P : Program) where
 id : FuncId
 has : Has P id [] c_z0k

def c_z0j (f_z0n : FuncId) (f_z0p : FuncId) (f_z0k : FuncId) : AFunc := ⟨22,[.tmp 4,.tmp 5],(.seq (.region [ iD 2 (.box (.t 0)),iD 4 (.move (.c .nil)),iD 5 (.move (.c (.int .i64 0)))]) (.seq (.region [ iD 9 (.load true 7 (.t 2)),iD 10 (.move (.t 1)),iD 11 (.call f_z0n [(.t 9),(.t 10)]),iD 8 (.move (.t 11)),iD 12 (.extract (.t 8) 0),iD 13 (.extract (.t 8) 1),iD 6 (.move (.t 12)),iD 7 (.move (.t 13))]) (.seq (.seq (.region [ iD 14 (.move (.t 7)),iD 15 (.bin .neq (.t 14) (.c (.int .i64 0)))]) (.cond (.t 15) (.seq (.region [ iD 16 (.move (.t 7)),iD 4 (.move (.c .nil)),iD 5 (.move (.t 16))]) .ret) .skip)) (.seq (.region [ iD 17 (.move (.t 1)),iD 18 (.move (.t 6)),iD 19 (.call f_z0p [(.t 17),(.t 18),(.c (.fn f_z0k []))]),iD 20 (.extract (.t 19) 0),iD 21 (.extract (.t 19) 1),iD 4 (.move (.t 20)),iD 5 (.move (.t 21))]) .ret))))⟩

structure F_z0j (P : Program) where
 id : FuncId
 z0n : F_z0n P
 z0p : F_z0p P
 z0k : F_z0k P
 has : Has P id [] (c_z0j z0n.id z0p.id z0k.id)

def c_z1u (f_z1z : FuncId) (f_z0l : FuncId) (f_z0f : FuncId) (f_z0j : FuncId) : AFunc := ⟨90,[.tmp 0],(.seq (.region [ iD 0 (.move (.c (.bool false)))]) (.seq (.region [ iD 8 (.build [(.str (bs [])),(.int .i64 0),(.bool false)] [(0,1,(.c (.str (bs [105,100])))),(1,1,(.c (.int .i64 2)))]),iD 9 (.build [(.str (bs [])),(.int .i64 0),(.bool false)] [(0,1,(.c (.str (bs [97,116])))),(1,1,(.c (.int .i64 4)))]),iD 10 (.buildSlice 3 2 [(.str (bs [])),(.int .i64 0),(.bool false)] [(0,(.t 8)),(1,(.t 9))]),iD 11 (.buildSlice 1 1 [(.str (bs []))] [(0,(.c (.str (bs [105,100]))))]),iD 12 (.build [(.str (bs [])),.nil,.nil,(.str (bs [])),(.str (bs [])),(.int .i64 0),(.int .i64 0)] [(1,1,(.t 10)),(2,1,(.t 11)),(3,1,(.c (.str (bs [97,116]))))]),iD 1 (.alloc [(.str (bs [])),.nil,.nil,(.str (bs [])),(.str (bs [])),(.int .i64 0),(.int .i64 0)]),iN (.store 7 (.t 1) (.t 12))]) (.seq (.draw [ jD 14 (.load true 7 (.t 1)),jD 15 (.call f_z1z [(.c (.int .i64 30)),(.c (.int .i64 1)),(.c (.bool true))]),jD 16 (.call f_z1z [(.c (.int .i64 20)),(.c (.int .i64 2)),(.c (.bool false))]),jD 17 (.call f_z1z [(.c (.int .i64 10)),(.c (.int .i64 3)),(.c (.bool false))]),jD 18 (.call f_z1z [(.c (.int .i64 20)),(.c (.int .i64 1)),(.c (.bool false))]),jD 19 (.buildSlice 5 4 [(.bool false),(.int .i64 0),.nil,(.int .i64 0),(.int .i64 0)] [(0,(.t 15)),(1,(.t 16)),(2,(.t 17)),(3,(.t 18))]),jD 20 (.call f_z0l [(.t 14),(.t 19)]),jD 13 (.move (.t 20)),jD 21 (.extract (.t 13) 0),jD 22 (.extract (.t 13) 1),jD 2 (.move (.t 21)),jD 3 (.move (.t 22))]) (.seq (.region [ iD 24 (.load true 7 (.t 1)),iD 25 (.move (.t 2)),iD 26 (.call f_z0f [(.t 24),(.t 25),(.c (.int .i64 19))]),iD 23 (.move (.t 26)),iD 27 (.extract (.t 23) 0),iD 28 (.extract (.t 23) 1),iD 4 (.move (.t 27)),iD 5 (.move (.t 28))]) (.seq (.region [ iD 30 (.load true 7 (.t 1)),iD 31 (.move (.t 2)),iD 32 (.call f_z0j [(.t 30),(.t 31)]),iD 29 (.move (.t 32)),iD 33 (.extract (.t 29) 0),iD 34 (.extract (.t 29) 1),iD 6 (.move (.t 33)),iD 7 (.move (.t 34))]) (.seq (.region [ iD 35 (.move (.t 3)),iD 36 (.bin .eql (.t 35) (.c (.int .i64 0))),iD 37 (.move (.t 36)),⟨(some 38),.move (.t 2),some (some 37,true)⟩,⟨(some 39),.len (.t 38),some (some 37,true)⟩,⟨(some 40),.bin .eql (.t 39) (.c (.int .i64 2)),some (some 37,true)⟩,iD 41 (.pick (.t 37) (.t 40) (.c (.bool false))),iD 42 (.move (.t 41)),⟨(some 43),.move (.t 2),some (some 42,true)⟩,⟨(some 44),.indexAddr 2 (.t 43) (.c (.int .i64 0)),some (some 42,true)⟩,⟨(some 45),.fieldAddr 0 (.t 44),some (some 42,true)⟩,⟨(some 46),.load false 1 (.t 45),some (some 42,true)⟩,⟨(some 47),.indexAddr 3 (.t 46) (.c (.int .i64 2)),some (some 42,true)⟩,⟨(some 48),.fieldAddr 1 (.t 47),some (some 42,true)⟩,⟨(some 49),.load false 1 (.t 48),some (some 42,true)⟩,⟨(some 50),.bin .eql (.t 49) (.c (.int .i64 10)),some (some 42,true)⟩,iD 51 (.pick (.t 42) (.t 50) (.c (.bool false))),iD 52 (.move (.t 51)),⟨(some 53),.move (.t 2),some (some 52,true)⟩,⟨(some 54),.indexAddr 2 (.t 53) (.c (.int .i64 0)),some (some 52,true)⟩,⟨(some 55),.fieldAddr 0 (.t 54),some (some 52,true)⟩,⟨(some 56),.load false 1 (.t 55),some (some 52,true)⟩,⟨(some 57),.indexAddr 3 (.t 56) (.c (.int .i64 3)),some (some 52,true)⟩,⟨(some 58),.fieldAddr 1 (.t 57),some (some 52,true)⟩,⟨(some 59),.load false 1 (.t 58),some (some 52,true)⟩,⟨(some 60),.bin .eql (.t 59) (.c (.int .i64 20)),some (some 52,true)⟩,iD 61 (.pick (.t 52) (.t 60) (.c (.bool false))),iD 62 (.move (.t 61)),⟨(some 63),.move (.t 2),some (some 62,true)⟩,⟨(some 64),.indexAddr 2 (.t 63) (.c (.int .i64 1)),some (some 62,true)⟩,⟨(some 65),.fieldAddr 0 (.t 64),some (some 62,true)⟩,⟨(some 66),.load false 1 (.t 65),some (some 62,true)⟩,⟨(some 67),.indexAddr 3 (.t 66) (.c (.int .i64 3)),some (some 62,true)⟩,⟨(some 68),.fieldAddr 1 (.t 67),some (some 62,true)⟩,⟨(some 69),.load false 1 (.t 68),some (some 62,true)⟩,⟨(some 70),.bin .eql (.t 69) (.c (.int .i64 30)),some (some 62,true)⟩,iD 71 (.pick (.t 62) (.t 70) (.c (.bool false))),iD 72 (.move (.t 71)),⟨(some 73),.move (.t 5),some (some 72,true)⟩,⟨(some 74),.bin .eql (.t 73) (.c (.int .i64 0)),some (some 72,true)⟩,iD 75 (.pick (.t 72) (.t 74) (.c (.bool false))),iD 76 (.move (.t 75)),⟨(some 77),.move (.t 4),some (some 76,true)⟩,⟨(some 78),.len (.t 77),some (some 76,true)⟩,⟨(some 79),.bin .eql (.t 78) (.c (.int .i64 1)),some (some 76,true)⟩,iD 80 (.pick (.t 76) (.t 79) (.c (.bool false))),iD 81 (.move (.t 80)),⟨(some 82),.move (.t 7),some (some 81,true)⟩,⟨(some 83),.bin .eql (.t 82) (.c (.int .i64 0)),some (some 81,true)⟩,iD 84 (.pick (.t 81) (.t 83) (.c (.bool false))),iD 85 (.move (.t 84)),⟨(some 86),.move (.t 6),some (some 85,true)⟩,⟨(some 87),.len (.t 86),some (some 85,true)⟩,⟨(some 88),.bin .eql (.t 87) (.c (.int .i64 0)),some (some 85,true)⟩,iD 89 (.pick (.t 85) (.t 88) (.c (.bool false))),iD 0 (.move (.t 89))]) .ret))))))⟩

structure F_z1u (P : Program) where
 id : FuncId
 z1z : F_z1z P
 z0l : F_z0l P
 z0f : F_z0f P
 z0j : F_z0j P
 has : Has P id [] (c_z1u z1z.id z0l.id z0f.id z0j.id)

def c_z1y (f_z3u : FuncId) : AFunc := ⟨13,[.cell true 6 2],(.seq (.region [ iD 2 (.alloc [.nil,.nil,.nil,.nil,.nil,.nil])]) (.seq (.region [ iD 4 (.move (.t 0)),iD 5 (.call f_z3u [(.t 4)]),iD 3 (.alloc [(.str (bs [])),.nil,.nil,(.str (bs [])),(.str (bs [])),(.int .i64 0),(.int .i64 0)]),iN (.store 7 (.t 3) (.t 5))]) (.seq (.region [ iD 6 (.fieldAddr 4 (.t 3)),iD 7 (.load false 1 (.t 6)),iD 8 (.build [(.str (bs [])),(.int .i64 0),.nil] [(0,1,(.t 7))]),iD 9 (.buildSlice 3 1 [(.str (bs [])),(.int .i64 0),.nil] [(0,(.t 8))]),iD 10 (.load true 7 (.t 3)),iD 11 (.buildSlice 7 1 [(.str (bs [])),.nil,.nil,(.str (bs [])),(.str (bs [])),(.int .i64 0),(.int .i64 0)] [(0,(.t 10))]),iD 12 (.build [.nil,.nil,.nil,.nil,.nil,.nil] [(0,1,(.t 9)),(1,1,(.t 11))]),iN (.store 6 (.t 2) (.t 12))]) .ret)))⟩

structure F_z1y (P : Program) where
 id : FuncId
 z3u : F_z3u P
 has : Has P id [] (c_z1y z3u.id)

def c_z29 : AFunc := ⟨28,[.cell true 7 4,.tmp 5],(.seq (.region [ iD 2 (.box (.t 0)),iD 4 (.alloc [(.str (bs [])),.nil,.nil,(.str (bs [])),(.str (bs [])),(.int .i64 0),(.int .i64 0)]),iD 5 (.move (.c (.bool false)))]) (.seq (.seq (.region [ iD 6 (.move (.c (.int .i64 0)))]) (.block 0 (.loop (.seq (.seq (.region [ iD 7 (.move (.t 6)),iD 8 (.fieldAddr 1 (.t 2)),iD 9 (.load false 1 (.t 8)),iD 10 (.len (.t 9)),iD 11 (.bin .lss (.t 7) (.t 10))]) (.cond (.t 11) .skip (.exit 0))) (.seq (.block 1 (.seq (.region [ iD 14 (.fieldAddr 1 (.t 2)),iD 15 (.load false 1 (.t 14)),iD 16 (.move (.t 6)),iD 17 (.indexAddr 7 (.t 15) (.t 16)),iD 18 (.fieldAddr 0 (.t 17)),iD 19 (.load false 1 (.t 18)),iD 20 (.move (.t 1)),iD 21 (.bin .eql (.t 19) (.t 20))]) (.cond (.t 21) (.seq (.region [ iD 22 (.fieldAddr 1 (.t 2)),iD 23 (.load false 1 (.t 22)),iD 24 (.move (.t 6)),iD 25 (.indexAddr 7 (.t 23) (.t 24)),iD 26 (.load true 7 (.t 25)),iN (.store 7 (.t 4) (.t 26)),iD 5 (.move (.c (.bool true)))]) .ret) .skip))) (.region [ iD 12 (.move (.t 6)),iD 13 (.bin .add (.t 12) (.c (.int .i64 1))),iD 6 (.move (.t 13))])))))) (.seq (.region [ iD 27 (.build [(.str (bs [])),.nil,.nil,(.str (bs [])),(.str (bs [])),(.int .i64 0),(.int .i64 0)] []),iN (.store 7 (.t 4) (.t 27)),iD 5 (.move (.c (.bool false)))]) .ret)))⟩

structure F_z29 (P : Program) where
 id : FuncId
 has : Has P id [] c_z29

def c_z2x (f_z29 : FuncId) : AFunc := ⟨43,[.cell true 7 4,.cell true 3 5,.tmp 6],(.seq (.region [ iD 2 (.box (.t 0)),iD 4 (.alloc [(.str (bs [])),.nil,.nil,(.str (bs [])),(.str (bs [])),(.int .i64 0),(.int .i64 0)]),iD 5 (.alloc [(.str (bs [])),(.int .i64 0),.nil]),iD 6 (.move (.c (.bool false)))]) (.seq (.region [ iD 11 (.load true 6 (.t 2)),iD 12 (.move (.t 1)),iD 13 (.call f_z29 [(.t 11),(.t 12)]),iD 10 (.move (.t 13)),iD 14 (.extract (.t 10) 0),iD 15 (.extract (.t 10) 1),iD 7 (.alloc [(.str (bs [])),.nil,.nil,(.str (bs [])),(.str (bs [])),(.int .i64 0),(.int .i64 0)]),iN (.store 7 (.t 7) (.t 14)),iD 8 (.move (.t 15))]) (.seq (.seq (.region [ iD 9 (.move (.c (.int .i64 0)))]) (.block 0 (.loop (.seq (.seq (.region [ iD 16 (.move (.t 9)),iD 17 (.fieldAddr 0 (.t 2)),iD 18 (.load false 1 (.t 17)),iD 19 (.len (.t 18)),iD 20 (.bin .lss (.t 16) (.t 19)),iD 21 (.move (.t 20)),⟨(some 22),.move (.t 8),some (some 21,true)⟩,iD 23 (.pick (.t 21) (.t 22) (.c (.bool false)))]) (.cond (.t 23) .skip (.exit 0))) (.seq (.block 1 (.seq (.draw [ jD 26 (.fieldAddr 0 (.t 2)),jD 27 (.load false 1 (.t 26)),jD 28 (.move (.t 9)),jD 29 (.indexAddr 3 (.t 27) (.t 28)),jD 30 (.fieldAddr 0 (.t 29)),jD 31 (.load false 1 (.t 30)),jD 32 (.fieldAddr 4 (.t 7)),jD 33 (.load false 1 (.t 32)),jD 34 (.bin .eql (.t 31) (.t 33))]) (.cond (.t 34) (.seq (.draw [ jD 35 (.load true 7 (.t 7)),jD 36 (.fieldAddr 0 (.t 2)),(iD 37 (.load false 1 (.t 36)),[2]),jD 38 (.move (.t 9)),(iD 39 (.indexAddr 3 (.t 37) (.t 38)),[2]),(iD 40 (.load true 3 (.t 39)),[2]),(iN (.store 7 (.t 4) (.t 35)),[]),(iN (.store 3 (.t 5) (.t 40)),[]),jD 6 (.move (.c (.bool true)))]) .ret) .skip))) (.region [ iD 24 (.move (.t 9)),iD 25 (.bin .add (.t 24) (.c (.int .i64 1))),iD 9 (.move (.t 25))])))))) (.seq (.region [ iD 41 (.build [(.str (bs [])),.nil,.nil,(.str (bs [])),(.str (bs [])),(.int .i64 0),(.int .i64 0)] []),iD 42 (.build [(.str (bs [])),(.int .i64 0),.nil] []),iN (.store 7 (.t 4) (.t 41)),iN (.store 3 (.t 5) (.t 42)),iD 6 (.move (.c (.bool false)))]) .ret))))⟩

structure F_z2x (P : Program) where
 id : FuncId
 z29 : F_z29 P
 has : Has P id [] (c_z2x z29.id)

def c_z2b : AFunc := ⟨37,[.cell true 3 2],(.seq (.region [ iD 1 (.box (.t 0)),iD 2 (.alloc [(.str (bs [])),(.str (bs [])),.nil])]) (.seq (.region [ iD 6 (.fieldAddr 0 (.t 1)),iD 7 (.load false 1 (.t 6)),iD 8 (.fieldAddr 1 (.t 1)),iD 9 (.load false 1 (.t 8)),iD 10 (.build [(.str (bs [])),(.str (bs [])),.nil] [(0,1,(.t 7)),(1,1,(.t 9))]),iD 3 (.alloc [(.str (bs [])),(.str (bs [])),.nil]),iN (.store 3 (.t 3) (.t 10))]) (.seq (.seq (.region [ iD 4 (.move (.c (.int .i64 0)))]) (.block 0 (.loop (.seq (.seq (.region [ iD 11 (.move (.t 4)),iD 12 (.fieldAddr 2 (.t 1)),iD 13 (.load false 1 (.t 12)),iD 14 (.len (.t 13)),iD 15 (.bin .lss (.t 11) (.t 14))]) (.cond (.t 15) .skip (.exit 0))) (.seq (.block 1 (.seq (.region [ iD 18 (.fieldAddr 2 (.t 1)),iD 19 (.load false 1 (.t 18)),iD 20 (.move (.t 4)),iD 21 (.indexAddr 3 (.t 19) (.t 20)),iD 22 (.load true 3 (.t 21)),iD 5 (.alloc [(.bool false),(.int .i64 0),.nil]),iN (.store 3 (.t 5) (.t 22))]) (.draw [ jD 23 (.fieldAddr 2 (.t 3)),(iD 24 (.load false 1 (.t 23)),[5,3]),jD 25 (.fieldAddr 0 (.t 5)),(iD 26 (.load false 1 (.t 25)),[5]),jD 27 (.fieldAddr 1 (.t 5)),(iD 28 (.load false 1 (.t 27)),[5]),jD 29 (.fieldAddr 2 (.t 5)),jD 30 (.load false 1 (.t 29)),jD 31 (.append 3 32 [(.int .i64 0),(.int .i64 0),(.str (bs []))] (.c .nil) (.t 30)),jD 32 (.build [(.bool false),(.int .i64 0),.nil] [(0,1,(.t 26)),(1,1,(.t 28)),(2,1,(.t 31))]),jD 33 (.buildSliceO 3 1 [(.bool false),(.int .i64 0),.nil] [(0,(.t 32))]),jD 34 (.append 3 40 [(.bool false),(.int .i64 0),.nil] (.t 24) (.t 33)),jD 35 (.fieldAddr 2 (.t 3)),(iN (.store 1 (.t 35) (.t 34)),[])]))) (.region [ iD 16 (.move (.t 4)),iD 17 (.bin .add (.t 16) (.c (.int .i64 1))),iD 4 (.move (.t 17))])))))) (.seq (.region [ iD 36 (.load true 3 (.t 3)),iN (.store 3 (.t 2) (.t 36))]) .ret))))⟩

structure F_z2b (P : Program) where
 id : FuncId
 has : Has P id [33] c_z2b

def c_z2v (f_z2b : FuncId) : AFunc := ⟨10,[.cell true 4 2],(.seq (.region [ iD 1 (.box (.t 0)),iD 2 (.alloc [(.str (bs [])),(.str (bs [])),.nil,.nil])]) (.seq (.draw [ jD 3 (.fieldAddr 0 (.t 1)),jD 4 (.load true 3 (.t 3)),jD 5 (.call f_z2b [(.t 4)]),jD 6 (.fieldAddr 3 (.t 1)),jD 7 (.load false 1 (.t 6)),jD 8 (.append 1 8 [(.int .i64 0)] (.c .nil) (.t 7)),jD 9 (.build [(.str (bs [])),(.str (bs [])),.nil,.nil] [(0,3,(.t 5)),(3,1,(.t 8))]),(iN (.store 4 (.t 2) (.t 9)),[])]) .ret))⟩

structure F_z2v (P : Program) where
 id : FuncId
 z2b : F_z2b P
 has : Has P id [] (c_z2v z2b.id)

def c_z2p (f_z2v : FuncId) : AFunc := ⟨24,[.cell true 1 2],(.seq (.region [ iD 1 (.box (.t 0)),iD 2 (.alloc [.nil])]) (.seq (.region [ iD 3 (.alloc [.nil])]) (.seq (.seq (.region [ iD 4 (.move (.c (.int .i64 0)))]) (.block 0 (.loop (.seq (.seq (.region [ iD 5 (.move (.t 4)),iD 6 (.fieldAddr 0 (.t 1)),iD 7 (.load false 1 (.t 6)),iD 8 (.len (.t 7)),iD 9 (.bin .lss (.t 5) (.t 8))]) (.cond (.t 9) .skip (.exit 0))) (.seq (.block 1 (.draw [ jD 12 (.fieldAddr 0 (.t 3)),(iD 13 (.load false 1 (.t 12)),[4,3]),jD 14 (.fieldAddr 0 (.t 1)),jD 15 (.load false 1 (.t 14)),jD 16 (.move (.t 4)),jD 17 (.indexAddr 4 (.t 15) (.t 16)),jD 18 (.load true 4 (.t 17)),jD 19 (.callE f_z2v [(.t 18)]),jD 20 (.buildSliceO 4 1 [(.str (bs [])),(.str (bs [])),.nil,.nil] [(0,(.t 19))]),jD 21 (.append 4 80 [(.str (bs [])),(.str (bs [])),.nil,.nil] (.t 13) (.t 20)),jD 22 (.fieldAddr 0 (.t 3)),(iN (.store 1 (.t 22) (.t 21)),[])])) (.region [ iD 10 (.move (.t 4)),iD 11 (.bin .add (.t 10) (.c (.int .i64 1))),iD 4 (.move (.t 11))])))))) (.seq (.region [ iD 23 (.load true 1 (.t 3)),iN (.store 1 (.t 2) (.t 23))]) .ret))))⟩

structure F_z2p (P : Program) where
 id : FuncId
 z2v : F_z2v P
 has : Has P id [19, 20] (c_z2p z2v.id)

def c_z2m : AFunc := ⟨18,[.tmp 4],(.seq (.region [ iD 4 (.move (.c (.bool false)))]) (.seq (.seq (.region [ iD 5 (.move (.c (.int .i64 0)))]) (.block 0 (.loop (.seq (.seq (.region [ iD 6 (.move (.t 5)),iD 7 (.move (.t 0)),iD 8 (.len (.t 7)),iD 9 (.bin .lss (.t 6) (.t 8))]) (.cond (.t 9) .skip (.exit 0))) (.seq (.block 1 (.seq (.region [ iD 12 (.move (.t 0)),iD 13 (.move (.t 5)),iD 14 (.indexAddr 1 (.t 12) (.t 13)),iD 15 (.load false 1 (.t 14)),iD 16 (.move (.t 1)),iD 17 (.bin .eql (.t 15) (.t 16))]) (.cond (.t 17) (.seq (.region [ iD 4 (.move (.c (.bool true)))]) .ret) .skip))) (.region [ iD 10 (.move (.t 5)),iD 11 (.bin .add (.t 10) (.c (.int .i64 1))),iD 5 (.move (.t 11))])))))) (.seq (.region [ iD 4 (.move (.c (.bool false)))]) .ret)))⟩

structure F_z2m (P : Program) where
 id : FuncId
 has : Has P id [] c_z2m

def c_z2h (f_z38 : FuncId) (f_z2m : FuncId) : AFunc := ⟨80,[.tmp 4],(.seq (.region [ iD 2 (.box (.t 0)),iD 3 (.box (.t 1)),iD 4 (.move (.c (.int .i64 0)))]) (.seq (.seq (.region [ iD 7 (.fieldAddr 1 (.t 3)),iD 8 (.load false 1 (.t 7)),iD 9 (.bin .lss (.t 8) (.c (.int .i64 0))),iD 10 (.move (.t 9)),⟨(some 11),.fieldAddr 1 (.t 3),some (some 10,false)⟩,⟨(some 12),.load false 1 (.t 11),some (some 10,false)⟩,⟨(some 13),.bin .gtr (.t 12) (.c (.int .i64 1073741824)),some (some 10,false)⟩,iD 14 (.pick (.t 10) (.c (.bool true)) (.t 13))]) (.cond (.t 14) (.seq (.region [ iD 4 (.move (.c (.int .i64 1)))]) .ret) .skip)) (.seq (.seq (.region [ iD 15 (.fieldAddr 0 (.t 3)),iD 16 (.load false 1 (.t 15)),iD 17 (.un .not (.t 16))]) (.cond (.t 17) (.seq (.region [ iD 18 (.fieldAddr 1 (.t 2)),iD 19 (.load false 1 (.t 18)),iD 20 (.fieldAddr 2 (.t 3)),iD 21 (.load false 1 (.t 20)),iD 22 (.call f_z38 [(.t 19),(.t 21)]),iD 4 (.move (.t 22))]) .ret) .skip)) (.seq (.seq (.region [ iD 23 (.fieldAddr 2 (.t 3)),iD 24 (.load false 1 (.t 23)),iD 25 (.len (.t 24)),iD 26 (.fieldAddr 1 (.t 2)),iD 27 (.load false 1 (.t 26)),iD 28 (.len (.t 27)),iD 29 (.bin .neq (.t 25) (.t 28))]) (.cond (.t 29) (.seq (.region [ iD 4 (.move (.c (.int .i64 8)))]) .ret) .skip)) (.seq (.seq (.region [ iD 5 (.move (.c (.int .i64 0)))]) (.block 0 (.loop (.seq (.seq (.region [ iD 30 (.move (.t 5)),iD 31 (.fieldAddr 1 (.t 2)),iD 32 (.load false 1 (.t 31)),iD 33 (.len (.t 32)),iD 34 (.bin .lss (.t 30) (.t 33))]) (.cond (.t 34) .skip (.exit 0))) (.seq (.block 1 (.seq (.seq (.draw [ jD 37 (.fieldAddr 2 (.t 2)),jD 38 (.load false 1 (.t 37)),jD 39 (.fieldAddr 1 (.t 2)),jD 40 (.load false 1 (.t 39)),jD 41 (.move (.t 5)),jD 42 (.indexAddr 3 (.t 40) (.t 41)),jD 43 (.fieldAddr 0 (.t 42)),jD 44 (.load false 1 (.t 43)),jD 45 (.call f_z2m [(.t 38),(.t 44)]),jD 46 (.move (.t 45)),(⟨(some 47),.fieldAddr 1 (.t 2),some (some 46,false)⟩,[]),(⟨(some 48),.load false 1 (.t 47),some (some 46,false)⟩,[]),(⟨(some 49),.move (.t 5),some (some 46,false)⟩,[]),(⟨(some 50),.indexAddr 3 (.t 48) (.t 49),some (some 46,false)⟩,[]),(⟨(some 51),.fieldAddr 0 (.t 50),some (some 46,false)⟩,[]),(⟨(some 52),.load false 1 (.t 51),some (some 46,false)⟩,[]),(⟨(some 53),.fieldAddr 3 (.t 2),some (some 46,false)⟩,[]),(⟨(some 54),.load false 1 (.t 53),some (some 46,false)⟩,[]),(⟨(some 55),.bin .eql (.t 52) (.t 54),some (some 46,false)⟩,[]),jD 56 (.pick (.t 46) (.c (.bool true)) (.t 55))]) (.cond (.t 56) (.seq (.seq (.draw [ jD 57 (.fieldAddr 1 (.t 2)),jD 58 (.load false 1 (.t 57)),jD 59 (.move (.t 5)),jD 60 (.move (.t 5)),jD 61 (.bin .add (.t 60) (.c (.int .i64 1))),jD 62 (.slice 3 (.t 58) (some (.t 59)) (some (.t 61))),jD 63 (.fieldAddr 2 (.t 3)),jD 64 (.load false 1 (.t 63)),jD 65 (.move (.t 5)),jD 66 (.move (.t 5)),jD 67 (.bin .add (.t 66) (.c (.int .i64 1))),jD 68 (.slice 3 (.t 64) (some (.t 65)) (some (.t 67))),jD 69 (.call f_z38 [(.t 62),(.t 68)]),jD 6 (.move (.t 69))]) (.seq (.region [ iD 70 (.move (.t 6)),iD 71 (.bin .neq (.t 70) (.c (.int .i64 0)))]) (.cond (.t 71) (.seq (.region [ iD 72 (.move (.t 6)),iD 4 (.move (.t 72))]) .ret) .skip))) (.exit 1)) .skip)) (.seq (.region [ iD 73 (.fieldAddr 2 (.t 3)),iD 74 (.load false 1 (.t 73)),iD 75 (.move (.t 5)),iD 76 (.indexAddr 3 (.t 74) (.t 75)),iD 77 (.load true 3 (.t 76)),iD 78 (.build [(.int .i64 0),(.int .i64 0),(.str (bs []))] []),iD 79 (.eqs true [1,1,2] (.t 77) (.t 78))]) (.cond (.t 79) (.seq (.region [ iD 4 (.move (.c (.int .i64 8)))]) .ret) .skip)))) (.region [ iD 35 (.move (.t 5)),iD 36 (.bin .add (.t 35) (.c (.int .i64 1))),iD 5 (.move (.t 36))])))))) (.seq (.region [ iD 4 (.move (.c (.int .i64 0)))]) .ret))))))⟩

structure F_z2h (P : Program) where
 id : FuncId
 z38 : F_z38 P
 z2m : F_z2m P
 has : Has P id [] (c_z2h z38.id z2m.id)

def c_z2w (f_z2h : FuncId) : AFunc := ⟨80,[.tmp 4],(.seq (.region [ iD 2 (.box (.t 0)),iD 3 (.box (.t 1)),iD 4 (.move (.c .nil))]) (.seq (.region [ iD 5 (.move (.c .nil))]) (.seq (.seq (.region [ iD 6 (.move (.c (.int .i64 0)))]) (.block 0 (.loop (.seq (.seq (.region [ iD 10 (.move (.t 6)),iD 11 (.fieldAddr 0 (.t 2)),iD 12 (.load false 1 (.t 11)),iD 13 (.len (.t 12)),iD 14 (.bin .lss (.t 10) (.t 13))]) (.cond (.t 14) .skip (.exit 0))) (.seq (.block 1 (.seq (.region [ iD 17 (.fieldAddr 0 (.t 2)),iD 18 (.load false 1 (.t 17)),iD 19 (.move (.t 6)),iD 20 (.indexAddr 4 (.t 18) (.t 19)),iD 21 (.load true 4 (.t 20)),iD 7 (.alloc [(.str (bs [])),(.str (bs [])),.nil,.nil]),iN (.store 4 (.t 7) (.t 21))]) (.seq (.region [ iD 8 (.move (.c (.int .i64 0)))]) (.block 2 (.loop (.seq (.seq (.region [ iD 22 (.move (.t 8)),iD 23 (.fieldAddr 0 (.t 7)),iD 24 (.fieldAddr 2 (.t 23)),iD 25 (.load false 1 (.t 24)),iD 26 (.len (.t 25)),iD 27 (.bin .lss (.t 22) (.t 26)),iD 28 (.move (.t 27)),⟨(some 29),.fieldAddr 0 (.t 7),some (some 28,true)⟩,⟨(some 30),.fieldAddr 1 (.t 29),some (some 28,true)⟩,⟨(some 31),.load false 1 (.t 30),some (some 28,true)⟩,⟨(some 32),.fieldAddr 0 (.t 3),some (some 28,true)⟩,⟨(some 33),.load false 1 (.t 32),some (some 28,true)⟩,⟨(some 34),.bin .eql (.t 31) (.t 33),some (some 28,true)⟩,iD 35 (.pick (.t 28) (.t 34) (.c (.bool false)))]) (.cond (.t 35) .skip (.exit 2))) (.seq (.block 3 (.seq (.draw [ jD 38 (.move (.t 8)),jD 39 (.fieldAddr 3 (.t 7)),jD 40 (.load false 1 (.t 39)),jD 41 (.len (.t 40)),jD 42 (.bin .lss (.t 38) (.t 41)),jD 43 (.move (.t 42)),(⟨(some 44),.fieldAddr 3 (.t 7),some (some 43,true)⟩,[]),(⟨(some 45),.load false 1 (.t 44),some (some 43,true)⟩,[]),(⟨(some 46),.move (.t 8),some (some 43,true)⟩,[]),(⟨(some 47),.indexAddr 1 (.t 45) (.t 46),some (some 43,true)⟩,[]),(⟨(some 48),.load false 1 (.t 47),some (some 43,true)⟩,[]),(⟨(some 49),.bin .eql (.t 48) (.c (.int .i64 0)),some (some 43,true)⟩,[]),jD 50 (.pick (.t 43) (.t 49) (.c (.bool false))),jD 51 (.move (.t 50)),(⟨(some 52),.load true 7 (.t 3),some (some 51,true)⟩,[]),(⟨(some 53),.fieldAddr 0 (.t 7),some (some 51,true)⟩,[]),(⟨(some 54),.fieldAddr 2 (.t 53),some (some 51,true)⟩,[]),(⟨(some 55),.load false 1 (.t 54),some (some 51,true)⟩,[]),(⟨(some 56),.move (.t 8),some (some 51,true)⟩,[]),(⟨(some 57),.indexAddr 3 (.t 55) (.t 56),some (some 51,true)⟩,[]),(⟨(some 58),.load true 3 (.t 57),some (some 51,true)⟩,[]),(⟨(some 59),.call f_z2h [(.t 52),(.t 58)],some (some 51,true)⟩,[]),(⟨(some 60),.bin .eql (.t 59) (.c (.int .i64 0)),some (some 51,true)⟩,[]),jD 61 (.pick (.t 51) (.t 60) (.c (.bool false)))]) (.cond (.t 61) (.seq (.region [ iD 62 (.fieldAddr 0 (.t 7)),iD 63 (.fieldAddr 2 (.t 62)),iD 64 (.load false 1 (.t 63)),iD 65 (.move (.t 8)),iD 66 (.indexAddr 3 (.t 64) (.t 65)),iD 67 (.load true 3 (.t 66)),iD 9 (.alloc [(.bool false),(.int .i64 0),.nil]),iN (.store 3 (.t 9) (.t 67))]) (.seq (.seq (.region [ iD 68 (.fieldAddr 2 (.t 9)),iD 69 (.load false 1 (.t 68)),iD 70 (.append 3 32 [(.int .i64 0),(.int .i64 0),(.str (bs []))] (.c .nil) (.t 69)),iD 71 (.fieldAddr 2 (.t 9)),iN (.store 1 (.t 71) (.t 70))]) .ghost) (.region [ iD 72 (.move (.t 5)),iD 73 (.load true 3 (.t 9)),iD 74 (.move (.t 6)),iD 75 (.move (.t 8)),iD 76 (.build [(.bool false),(.int .i64 0),.nil,(.int .i64 0),(.int .i64 0)] [(0,3,(.t 73)),(3,1,(.t 74)),(4,1,(.t 75))]),iD 77 (.buildSlice 5 1 [(.bool false),(.int .i64 0),.nil,(.int .i64 0),(.int .i64 0)] [(0,(.t 76))]),iD 78 (.append 5 56 [(.bool false),(.int .i64 0),.nil,(.int .i64 0),(.int .i64 0)] (.t 72) (.t 77)),iD 5 (.move (.t 78))]))) .skip))) (.region [ iD 36 (.move (.t 8)),iD 37 (.bin .add (.t 36) (.c (.int .i64 1))),iD 8 (.move (.t 37))])))))))) (.region [ iD 15 (.move (.t 6)),iD 16 (.bin .add (.t 15) (.c (.int .i64 1))),iD 6 (.move (.t 16))])))))) (.seq (.region [ iD 79 (.move (.t 5)),iD 4 (.move (.t 79))]) .ret))))⟩

structure F_z2w (P : Program) where
 id : FuncId
 z2h : F_z2h P
 has : Has P id [100070] (c_z2w z2h.id)

def c_z2l (f_z39 : FuncId) (f_z2h : FuncId) : AFunc := ⟨34,[.tmp 4],(.seq (.region [ iD 2 (.box (.t 0)),iD 3 (.box (.t 1)),iD 4 (.move (.c (.int .i64 0)))]) (.seq (.region [ iD 6 (.fieldAddr 1 (.t 2)),iD 7 (.load false 1 (.t 6)),iD 8 (.fieldAddr 3 (.t 2)),iD 9 (.load false 1 (.t 8)),iD 10 (.call f_z39 [(.t 7),(.t 9)]),iD 5 (.move (.t 10))]) (.seq (.seq (.region [ iD 11 (.load true 7 (.t 2)),iD 12 (.load true 3 (.t 3)),iD 13 (.call f_z2h [(.t 11),(.t 12)]),iD 14 (.bin .neq (.t 13) (.c (.int .i64 0))),iD 15 (.move (.t 14)),⟨(some 16),.move (.t 5),some (some 15,false)⟩,⟨(some 17),.bin .lss (.t 16) (.c (.int .i64 0)),some (some 15,false)⟩,iD 18 (.pick (.t 15) (.c (.bool true)) (.t 17)),iD 19 (.move (.t 18)),⟨(some 20),.fieldAddr 2 (.t 3),some (some 19,false)⟩,⟨(some 21),.load false 1 (.t 20),some (some 19,false)⟩,⟨(some 22),.move (.t 5),some (some 19,false)⟩,⟨(some 23),.indexAddr 3 (.t 21) (.t 22),some (some 19,false)⟩,⟨(some 24),.fieldAddr 0 (.t 23),some (some 19,false)⟩,⟨(some 25),.load false 1 (.t 24),some (some 19,false)⟩,⟨(some 26),.bin .neq (.t 25) (.c (.int .i64 4)),some (some 19,false)⟩,iD 27 (.pick (.t 19) (.c (.bool true)) (.t 26))]) (.cond (.t 27) (.seq (.region [ iD 4 (.move (.c (.int .i64 (-1))))]) .ret) .skip)) (.seq (.region [ iD 28 (.fieldAddr 2 (.t 3)),iD 29 (.load false 1 (.t 28)),iD 30 (.move (.t 5)),iD 31 (.indexAddr 3 (.t 29) (.t 30)),iD 32 (.fieldAddr 1 (.t 31)),iD 33 (.load false 1 (.t 32)),iD 4 (.move (.t 33))]) .ret))))⟩

structure F_z2l (P : Program) where
 id : FuncId
 z39 : F_z39 P
 z2h : F_z2h P
 has : Has P id [] (c_z2l z39.id z2h.id)

def c_z2r (f_z2w : FuncId) (f_z2l : FuncId) : AFunc := ⟨24,[.tmp 4],(.seq (.region [ iD 2 (.box (.t 0)),iD 3 (.box (.t 1)),iD 4 (.move (.c (.int .i64 0)))]) (.seq (.region [ iD 5 (.move (.c (.int .i64 (-1))))]) (.seq (.seq (.region [ iD 8 (.load true 1 (.t 2)),iD 9 (.load true 7 (.t 3)),iD 10 (.call f_z2w [(.t 8),(.t 9)]),iD 11 (.len (.t 10)),iD 12 (.move (.c (.int .i64 0)))]) (.block 0 (.loop (.seq (.region [ iD 13 (.bin .lss (.t 12) (.t 11))]) (.seq (.cond (.t 13) .skip (.exit 0)) (.seq (.block 1 (.seq (.region [ iD 14 (.indexAddr 5 (.t 10) (.t 12)),iD 15 (.load true 5 (.t 14)),iD 7 (.alloc [(.bool false),(.int .i64 0),.nil,(.int .i64 0),(.int .i64 0)]),iN (.store 5 (.t 7) (.t 15))]) (.region [ iD 16 (.move (.t 5)),iD 17 (.load true 7 (.t 3)),iD 18 (.fieldAddr 0 (.t 7)),iD 19 (.load true 3 (.t 18)),iD 20 (.call f_z2l [(.t 17),(.t 19)]),iD 21 (.mx (.t 16) (.t 20)),iD 5 (.move (.t 21))]))) (.region [ iD 22 (.bin .add (.t 12) (.c (.int .i64 1))),iD 12 (.move (.t 22))]))))))) (.seq (.region [ iD 23 (.move (.t 5)),iD 4 (.move (.t 23))]) .ret))))⟩

structure F_z2r (P : Program) where
 id : FuncId
 z2w : F_z2w P
 z2l : F_z2l P
 has : Has P id [] (c_z2r z2w.id z2l.id)

def c_z2j : AFunc := ⟨22,[.tmp 4],(.seq (.region [ iD 2 (.box (.t 0)),iD 4 (.move (.c (.int .i64 0)))]) (.seq (.seq (.region [ iD 5 (.move (.t 1)),iD 6 (.bin .lss (.t 5) (.c (.int .i64 0))),iD 7 (.move (.t 6)),⟨(some 8),.fieldAddr 5 (.t 2),some (some 7,false)⟩,⟨(some 9),.load false 1 (.t 8),some (some 7,false)⟩,⟨(some 10),.bin .lss (.t 9) (.c (.int .i64 0)),some (some 7,false)⟩,iD 11 (.pick (.t 7) (.c (.bool true)) (.t 10)),iD 12 (.move (.t 11)),⟨(some 13),.fieldAddr 5 (.t 2),some (some 12,false)⟩,⟨(some 14),.load false 1 (.t 13),some (some 12,false)⟩,⟨(some 15),.bin .gtr (.t 14) (.c (.int .i64 575999999)),some (some 12,false)⟩,iD 16 (.pick (.t 12) (.c (.bool true)) (.t 15))]) (.cond (.t 16) (.seq (.region [ iD 4 (.move (.c (.int .i64 (-1))))]) .ret) .skip)) (.seq (.region [ iD 17 (.move (.t 1)),iD 18 (.fieldAddr 5 (.t 2)),iD 19 (.load false 1 (.t 18)),iD 20 (.bin .sub (.t 17) (.t 19)),iD 21 (.mx (.c (.int .i64 (-1))) (.t 20)),iD 4 (.move (.t 21))]) .ret)))⟩

structure F_z2j (P : Program) where
 id : FuncId
 has : Has P id [] c_z2j

def c_z37 : AFunc := ⟨9,[.tmp 2],(.seq (.region [ iD 2 (.move (.c (.bool false)))]) (.seq (.region [ iD 3 (.move (.t 0)),iD 4 (.bin .geq (.t 3) (.c (.int .i64 (-840)))),iD 5 (.move (.t 4)),⟨(some 6),.move (.t 0),some (some 5,true)⟩,⟨(some 7),.bin .leq (.t 6) (.c (.int .i64 840)),some (some 5,true)⟩,iD 8 (.pick (.t 5) (.t 7) (.c (.bool false))),iD 2 (.move (.t 8))]) .ret))⟩

structure F_z37 (P : Program) where
 id : FuncId
 has : Has P id [] c_z37

def c_z31 (f_z37 : FuncId) : AFunc := ⟨53,[.tmp 2],(.seq (.region [ iD 1 (.box (.t 0)),iD 2 (.move (.c (.int .i64 0)))]) (.seq (.seq (.region [ iD 5 (.fieldAddr 2 (.t 1)),iD 6 (.load false 1 (.t 5)),iD 7 (.len (.t 6)),iD 8 (.bin .gtr (.t 7) (.c (.int .i64 64)))]) (.cond (.t 8) (.seq (.region [ iD 2 (.move (.c (.int .i64 2)))]) .ret) .skip)) (.seq (.seq (.region [ iD 9 (.fieldAddr 1 (.t 1)),iD 10 (.load false 1 (.t 9)),iD 11 (.call f_z37 [(.t 10)]),iD 12 (.un .not (.t 11))]) (.cond (.t 12) (.seq (.region [ iD 2 (.move (.c (.int .i64 1)))]) .ret) .skip)) (.seq (.seq (.region [ iD 3 (.move (.c (.int .i64 0)))]) (.block 0 (.loop (.seq (.seq (.region [ iD 13 (.move (.t 3)),iD 14 (.fieldAddr 2 (.t 1)),iD 15 (.load false 1 (.t 14)),iD 16 (.len (.t 15)),iD 17 (.bin .lss (.t 13) (.t 16))]) (.cond (.t 17) .skip (.exit 0))) (.seq (.block 1 (.seq (.region [ iD 20 (.fieldAddr 2 (.t 1)),iD 21 (.load false 1 (.t 20)),iD 22 (.move (.t 3)),iD 23 (.indexAddr 2 (.t 21) (.t 22)),iD 24 (.load true 2 (.t 23)),iD 4 (.alloc [(.int .i64 0),(.int .i64 0)]),iN (.store 2 (.t 4) (.t 24))]) (.seq (.seq (.region [ iD 25 (.fieldAddr 0 (.t 4)),iD 26 (.load false 1 (.t 25)),iD 27 (.bin .lss (.t 26) (.c (.int .i64 1))),iD 28 (.move (.t 27)),⟨(some 29),.fieldAddr 0 (.t 4),some (some 28,false)⟩,⟨(some 30),.load false 1 (.t 29),some (some 28,false)⟩,⟨(some 31),.bin .gtr (.t 30) (.c (.int .i64 575999999)),some (some 28,false)⟩,iD 32 (.pick (.t 28) (.c (.bool true)) (.t 31)),iD 33 (.move (.t 32)),⟨(some 34),.fieldAddr 1 (.t 4),some (some 33,false)⟩,⟨(some 35),.load false 1 (.t 34),some (some 33,false)⟩,⟨(some 36),.call f_z37 [(.t 35)],some (some 33,false)⟩,⟨(some 37),.un .not (.t 36),some (some 33,false)⟩,iD 38 (.pick (.t 33) (.c (.bool true)) (.t 37))]) (.cond (.t 38) (.seq (.region [ iD 2 (.move (.c (.int .i64 1)))]) .ret) .skip)) (.seq (.draw [ jD 39 (.move (.t 3)),jD 40 (.bin .gtr (.t 39) (.c (.int .i64 0))),jD 41 (.move (.t 40)),(⟨(some 42),.fieldAddr 0 (.t 4),some (some 41,true)⟩,[]),(⟨(some 43),.load false 1 (.t 42),some (some 41,true)⟩,[]),(⟨(some 44),.fieldAddr 2 (.t 1),some (some 41,true)⟩,[]),(⟨(some 45),.load false 1 (.t 44),some (some 41,true)⟩,[]),(⟨(some 46),.move (.t 3),some (some 41,true)⟩,[]),(⟨(some 47),.bin .sub (.t 46) (.c (.int .i64 1)),some (some 41,true)⟩,[]),(⟨(some 48),.indexAddr 2 (.t 45) (.t 47),some (some 41,true)⟩,[]),(⟨(some 49),.fieldAddr 0 (.t 48),some (some 41,true)⟩,[]),(⟨(some 50),.load false 1 (.t 49),some (some 41,true)⟩,[]),(⟨(some 51),.bin .leq (.t 43) (.t 50),some (some 41,true)⟩,[]),jD 52 (.pick (.t 41) (.t 51) (.c (.bool false)))]) (.cond (.t 52) (.seq (.region [ iD 2 (.move (.c (.int .i64 14)))]) .ret) .skip))))) (.region [ iD 18 (.move (.t 3)),iD 19 (.bin .add (.t 18) (.c (.int .i64 1))),iD 3 (.move (.t 19))])))))) (.seq (.region [ iD 2 (.move (.c (.int .i64 0)))]) .ret)))))⟩

structure F_z31 (P : Program) where
 id : FuncId
 z37 : F_z37 P
 has : Has P id [] (c_z31 z37.id)

def c_z32 (f_z31 : FuncId) : AFunc := ⟨17,[.tmp 4],(.seq (.region [ iD 2 (.box (.t 0)),iD 4 (.move (.c (.int .i64 0)))]) (.seq (.seq (.region [ iD 6 (.load true 3 (.t 2)),iD 7 (.call f_z31 [(.t 6)]),iD 5 (.move (.t 7))]) (.seq (.region [ iD 8 (.move (.t 5)),iD 9 (.bin .neq (.t 8) (.c (.int .i64 0)))]) (.cond (.t 9) (.seq (.region [ iD 10 (.move (.t 5)),iD 4 (.move (.t 10))]) .ret) .skip))) (.seq (.seq (.region [ iD 11 (.move (.t 1)),iD 12 (.bin .lss (.t 11) (.c (.int .i64 0))),iD 13 (.move (.t 12)),⟨(some 14),.move (.t 1),some (some 13,false)⟩,⟨(some 15),.bin .gtr (.t 14) (.c (.int .i64 575999999)),some (some 13,false)⟩,iD 16 (.pick (.t 13) (.c (.bool true)) (.t 15))]) (.cond (.t 16) (.seq (.region [ iD 4 (.move (.c (.int .i64 1)))]) .ret) .skip)) (.seq (.region [ iD 4 (.move (.c (.int .i64 0)))]) .ret))))⟩

structure F_z32 (P : Program) where
 id : FuncId
 z31 : F_z31 P
 has : Has P id [] (c_z32 z31.id)

def c_z35 : AFunc := ⟨31,[.tmp 4],(.seq (.region [ iD 2 (.box (.t 0)),iD 4 (.move (.c (.int .i64 0)))]) (.seq (.region [ iD 7 (.fieldAddr 1 (.t 2)),iD 8 (.load false 1 (.t 7)),iD 5 (.move (.t 8))]) (.seq (.seq (.region [ iD 6 (.move (.c (.int .i64 0)))]) (.block 0 (.loop (.seq (.seq (.region [ iD 9 (.move (.t 6)),iD 10 (.fieldAddr 2 (.t 2)),iD 11 (.load false 1 (.t 10)),iD 12 (.len (.t 11)),iD 13 (.bin .lss (.t 9) (.t 12))]) (.cond (.t 13) .skip (.exit 0))) (.seq (.block 1 (.seq (.region [ iD 16 (.fieldAddr 2 (.t 2)),iD 17 (.load false 1 (.t 16)),iD 18 (.move (.t 6)),iD 19 (.indexAddr 2 (.t 17) (.t 18)),iD 20 (.fieldAddr 0 (.t 19)),iD 21 (.load false 1 (.t 20)),iD 22 (.move (.t 1)),iD 23 (.bin .leq (.t 21) (.t 22))]) (.cond (.t 23) (.region [ iD 24 (.fieldAddr 2 (.t 2)),iD 25 (.load false 1 (.t 24)),iD 26 (.move (.t 6)),iD 27 (.indexAddr 2 (.t 25) (.t 26)),iD 28 (.fieldAddr 1 (.t 27)),iD 29 (.load false 1 (.t 28)),iD 5 (.move (.t 29))]) .skip))) (.region [ iD 14 (.move (.t 6)),iD 15 (.bin .add (.t 14) (.c (.int .i64 1))),iD 6 (.move (.t 15))])))))) (.seq (.region [ iD 30 (.move (.t 5)),iD 4 (.move (.t 30))]) .ret))))⟩

structure F_z35 (P : Program) where
 id : FuncId
 has : Has P id [] c_z35

def c_z34 (f_z35 : FuncId) (f_z2y : FuncId) : AFunc := ⟨11,[.tmp 4],(.seq (.region [ iD 2 (.box (.t 0)),iD 4 (.move (.c (.int .i64 0)))]) (.seq (.region [ iD 5 (.move (.t 1)),iD 6 (.load true 3 (.t 2)),iD 7 (.move (.t 1)),iD 8 (.call f_z35 [(.t 6),(.t 7)]),iD 9 (.bin .add (.t 5) (.t 8)),iD 10 (.call f_z2y [(.t 9),(.c (.int .i64 1440))]),iD 4 (.move (.t 10))]) .ret))⟩

structure F_z34 (P : Program) where
 id : FuncId
 z35 : F_z35 P
 z2y : F_z2y P
 has : Has P id [] (c_z34 z35.id z2y.id)

def c_z33 (f_z34 : FuncId) : AFunc := ⟨38,[.tmp 4],(.seq (.region [ iD 2 (.box (.t 0)),iD 4 (.move (.c (.int .i64 0)))]) (.seq (.region [ iD 7 (.load true 3 (.t 2)),iD 8 (.move (.t 1)),iD 9 (.call f_z34 [(.t 7),(.t 8)]),iD 10 (.mx (.c (.int .i64 0)) (.t 9)),iD 5 (.move (.t 10))]) (.seq (.seq (.region [ iD 6 (.move (.c (.int .i64 0)))]) (.block 0 (.loop (.seq (.seq (.region [ iD 11 (.move (.t 6)),iD 12 (.fieldAddr 2 (.t 2)),iD 13 (.load false 1 (.t 12)),iD 14 (.len (.t 13)),iD 15 (.bin .lss (.t 11) (.t 14))]) (.cond (.t 15) .skip (.exit 0))) (.seq (.block 1 (.seq (.region [ iD 18 (.fieldAddr 2 (.t 2)),iD 19 (.load false 1 (.t 18)),iD 20 (.move (.t 6)),iD 21 (.indexAddr 2 (.t 19) (.t 20)),iD 22 (.fieldAddr 0 (.t 21)),iD 23 (.load false 1 (.t 22)),iD 24 (.move (.t 1)),iD 25 (.bin .leq (.t 23) (.t 24))]) (.cond (.t 25) (.draw [ jD 26 (.move (.t 5)),jD 27 (.load true 3 (.t 2)),jD 28 (.fieldAddr 2 (.t 2)),jD 29 (.load false 1 (.t 28)),jD 30 (.move (.t 6)),jD 31 (.indexAddr 2 (.t 29) (.t 30)),jD 32 (.fieldAddr 0 (.t 31)),jD 33 (.load false 1 (.t 32)),jD 34 (.bin .sub (.t 33) (.c (.int .i64 1))),jD 35 (.call f_z34 [(.t 27),(.t 34)]),jD 36 (.mx (.t 26) (.t 35)),jD 5 (.move (.t 36))]) .skip))) (.region [ iD 16 (.move (.t 6)),iD 17 (.bin .add (.t 16) (.c (.int .i64 1))),iD 6 (.move (.t 17))])))))) (.seq (.region [ iD 37 (.move (.t 5)),iD 4 (.move (.t 37))]) .ret))))⟩

structure F_z33 (P : Program) where
 id : FuncId
 z34 : F_z34 P
 has : Has P id [] (c_z33 z34.id)

def c_z2z (f_z32 : FuncId) (f_z33 : FuncId) : AFunc := ⟨16,[.tmp 4,.tmp 5],(.seq (.region [ iD 2 (.box (.t 0)),iD 4 (.move (.c (.int .i64 0))),iD 5 (.move (.c (.int .i64 0)))]) (.seq (.seq (.region [ iD 7 (.load true 3 (.t 2)),iD 8 (.move (.t 1)),iD 9 (.call f_z32 [(.t 7),(.t 8)]),iD 6 (.move (.t 9))]) (.seq (.region [ iD 10 (.move (.t 6)),iD 11 (.bin .neq (.t 10) (.c (.int .i64 0)))]) (.cond (.t 11) (.seq (.region [ iD 12 (.move (.t 6)),iD 4 (.move (.c (.int .i64 0))),iD 5 (.move (.t 12))]) .ret) .skip))) (.seq (.region [ iD 13 (.load true 3 (.t 2)),iD 14 (.move (.t 1)),iD 15 (.call f_z33 [(.t 13),(.t 14)]),iD 4 (.move (.t 15)),iD 5 (.move (.c (.int .i64 0)))]) .ret)))⟩

structure F_z2z (P : Program) where
 id : FuncId
 z32 : F_z32 P
 z33 : F_z33 P
 has : Has P id [] (c_z2z z32.id z33.id)

def c_z36 (f_z33 : FuncId) : AFunc := ⟨24,[.tmp 4],(.seq (.region [ iD 2 (.box (.t 0)),iD 4 (.move (.c (.int .i64 0)))]) (.seq (.region [ iD 5 (.move (.c (.int .i64 0))),iD 6 (.move (.c (.int .i64 576000000)))]) (.seq (.block 0 (.loop (.seq (.seq (.region [ iD 8 (.move (.t 5)),iD 9 (.move (.t 6)),iD 10 (.bin .lss (.t 8) (.t 9))]) (.cond (.t 10) .skip (.exit 0))) (.block 1 (.seq (.region [ iD 11 (.move (.t 5)),iD 12 (.move (.t 6)),iD 13 (.bin .add (.t 11) (.t 12)),iD 14 (.bin .quo (.t 13) (.c (.int .i64 2))),iD 7 (.move (.t 14))]) (.seq (.region [ iD 15 (.load true 3 (.t 2)),iD 16 (.move (.t 7)),iD 17 (.call f_z33 [(.t 15),(.t 16)]),iD 18 (.move (.t 1)),iD 19 (.bin .geq (.t 17) (.t 18))]) (.cond (.t 19) (.region [ iD 20 (.move (.t 7)),iD 6 (.move (.t 20))]) (.region [ iD 21 (.move (.t 7)),iD 22 (.bin .add (.t 21) (.c (.int .i64 1))),iD 5 (.move (.t 22))])))))))) (.seq (.region [ iD 23 (.move (.t 5)),iD 4 (.move (.t 23))]) .ret))))⟩

structure F_z36 (P : Program) where
 id : FuncId
 z33 : F_z33 P
 has : Has P id [] (c_z36 z33.id)

def c_z30 (f_z31 : FuncId) (f_z36 : FuncId) : AFunc := ⟨26,[.tmp 4,.tmp 5,.tmp 6],(.seq (.region [ iD 2 (.box (.t 0)),iD 4 (.move (.c (.int .i64 0))),iD 5 (.move (.c (.int .i64 0))),iD 6 (.move (.c (.int .i64 0)))]) (.seq (.seq (.region [ iD 8 (.load true 3 (.t 2)),iD 9 (.call f_z31 [(.t 8)]),iD 7 (.move (.t 9))]) (.seq (.region [ iD 10 (.move (.t 7)),iD 11 (.bin .neq (.t 10) (.c (.int .i64 0)))]) (.cond (.t 11) (.seq (.region [ iD 12 (.move (.t 7)),iD 4 (.move (.c (.int .i64 0))),iD 5 (.move (.c (.int .i64 0))),iD 6 (.move (.t 12))]) .ret) .skip))) (.seq (.seq (.region [ iD 13 (.move (.t 1)),iD 14 (.bin .lss (.t 13) (.c (.int .i64 0))),iD 15 (.move (.t 14)),⟨(some 16),.move (.t 1),some (some 15,false)⟩,⟨(some 17),.bin .gtr (.t 16) (.c (.int .i64 400000)),some (some 15,false)⟩,iD 18 (.pick (.t 15) (.c (.bool true)) (.t 17))]) (.cond (.t 18) (.seq (.region [ iD 4 (.move (.c (.int .i64 0))),iD 5 (.move (.c (.int .i64 0))),iD 6 (.move (.c (.int .i64 1)))]) .ret) .skip)) (.seq (.draw [ jD 19 (.load true 3 (.t 2)),jD 20 (.move (.t 1)),jD 21 (.call f_z36 [(.t 19),(.t 20)]),jD 22 (.load true 3 (.t 2)),jD 23 (.move (.t 1)),jD 24 (.bin .add (.t 23) (.c (.int .i64 1))),jD 25 (.call f_z36 [(.t 22),(.t 24)]),jD 4 (.move (.t 21)),jD 5 (.move (.t 25)),jD 6 (.move (.c (.int .i64 0)))]) .ret))))⟩

structure F_z30 (P : Program) where
 id : FuncId
 z31 : F_z31 P
 z36 : F_z36 P
 has : Has P id [] (c_z30 z31.id z36.id)

def c_z2k (f_z31 : FuncId) (f_z30 : FuncId) : AFunc := ⟨49,[.tmp 8,.tmp 9],(.seq (.region [ iD 4 (.box (.t 0)),iD 5 (.box (.t 1)),iD 8 (.move (.c (.int .i64 0))),iD 9 (.move (.c (.int .i64 0)))]) (.seq (.seq (.region [ iD 14 (.move (.t 2)),iD 15 (.bin .lss (.t 14) (.c (.int .i64 (-1)))),iD 16 (.move (.t 15)),⟨(some 17),.move (.t 2),some (some 16,false)⟩,⟨(some 18),.bin .gtr (.t 17) (.c (.int .i64 575999999)),some (some 16,false)⟩,iD 19 (.pick (.t 16) (.c (.bool true)) (.t 18))]) (.cond (.t 19) (.seq (.region [ iD 8 (.move (.c (.int .i64 0))),iD 9 (.move (.c (.int .i64 1)))]) .ret) .skip)) (.seq (.seq (.region [ iD 20 (.load true 3 (.t 5)),iD 21 (.call f_z31 [(.t 20)]),iD 10 (.move (.t 21))]) (.seq (.region [ iD 22 (.move (.t 10)),iD 23 (.bin .neq (.t 22) (.c (.int .i64 0)))]) (.cond (.t 23) (.seq (.region [ iD 24 (.move (.t 10)),iD 8 (.move (.c (.int .i64 0))),iD 9 (.move (.t 24))]) .ret) .skip))) (.seq (.seq (.region [ iD 25 (.move (.t 3)),iD 26 (.bin .lss (.t 25) (.c (.int .i64 (-1)))),iD 27 (.move (.t 26)),⟨(some 28),.move (.t 3),some (some 27,false)⟩,⟨(some 29),.bin .gtr (.t 28) (.c (.int .i64 400000)),some (some 27,false)⟩,iD 30 (.pick (.t 27) (.c (.bool true)) (.t 29))]) (.cond (.t 30) (.seq (.region [ iD 8 (.move (.c (.int .i64 0))),iD 9 (.move (.c (.int .i64 1)))]) .ret) .skip)) (.seq (.seq (.region [ iD 31 (.move (.t 3)),iD 32 (.bin .eql (.t 31) (.c (.int .i64 (-1))))]) (.cond (.t 32) (.seq (.region [ iD 8 (.move (.c (.int .i64 0))),iD 9 (.move (.c (.int .i64 0)))]) .ret) .skip)) (.seq (.region [ iD 34 (.load true 3 (.t 5)),iD 35 (.move (.t 3)),iD 36 (.call f_z30 [(.t 34),(.t 35)]),iD 33 (.move (.t 36)),iD 37 (.extract (.t 33) 0),iD 38 (.extract (.t 33) 1),iD 39 (.extract (.t 33) 2),iD 11 (.move (.t 37)),iD 12 (.move (.t 38)),iD 13 (.move (.t 39))]) (.seq (.seq (.region [ iD 40 (.move (.t 12)),iD 41 (.move (.t 2)),iD 42 (.bin .gtr (.t 40) (.t 41))]) (.cond (.t 42) (.seq (.region [ iD 8 (.move (.c (.int .i64 0))),iD 9 (.move (.c (.int .i64 0)))]) .ret) .skip)) (.seq (.seq (.region [ iD 43 (.move (.t 2)),iD 44 (.move (.t 12)),iD 45 (.bin .sub (.t 43) (.t 44)),iD 46 (.fieldAddr 6 (.t 4)),iD 47 (.load false 1 (.t 46)),iD 48 (.bin .geq (.t 45) (.t 47))]) (.cond (.t 48) (.seq (.region [ iD 8 (.move (.c (.int .i64 2))),iD 9 (.move (.c (.int .i64 0)))]) .ret) .skip)) (.seq (.region [ iD 8 (.move (.c (.int .i64 1))),iD 9 (.move (.c (.int .i64 0)))]) .ret)))))))))⟩

structure F_z2k (P : Program) where
 id : FuncId
 z31 : F_z31 P
 z30 : F_z30 P
 has : Has P id [] (c_z2k z31.id z30.id)

def c_z2i (f_z31 : FuncId) (f_z2h : FuncId) (f_z2l : FuncId) (f_z2z : FuncId) (f_z2k : FuncId) : AFunc := ⟨54,[.tmp 8],(.seq (.region [ iD 4 (.box (.t 0)),iD 5 (.box (.t 1)),iD 7 (.box (.t 3)),iD 8 (.move (.c (.int .i64 0)))]) (.seq (.seq (.region [ iD 16 (.move (.t 2)),iD 17 (.bin .lss (.t 16) (.c (.int .i64 (-1)))),iD 18 (.move (.t 17)),⟨(some 19),.move (.t 2),some (some 18,false)⟩,⟨(some 20),.bin .gtr (.t 19) (.c (.int .i64 575999999)),some (some 18,false)⟩,iD 21 (.pick (.t 18) (.c (.bool true)) (.t 20))]) (.cond (.t 21) (.seq (.region [ iD 8 (.move (.c (.int .i64 1)))]) .ret) .skip)) (.seq (.seq (.region [ iD 22 (.load true 3 (.t 5)),iD 23 (.call f_z31 [(.t 22)]),iD 9 (.move (.t 23))]) (.seq (.region [ iD 24 (.move (.t 9)),iD 25 (.bin .neq (.t 24) (.c (.int .i64 0)))]) (.cond (.t 25) (.seq (.region [ iD 26 (.move (.t 9)),iD 8 (.move (.t 26))]) .ret) .skip))) (.seq (.seq (.region [ iD 27 (.load true 7 (.t 4)),iD 28 (.load true 3 (.t 7)),iD 29 (.call f_z2h [(.t 27),(.t 28)]),iD 10 (.move (.t 29))]) (.seq (.region [ iD 30 (.move (.t 10)),iD 31 (.bin .neq (.t 30) (.c (.int .i64 0)))]) (.cond (.t 31) (.seq (.region [ iD 32 (.move (.t 10)),iD 8 (.move (.t 32))]) .ret) .skip))) (.seq (.region [ iD 33 (.load true 7 (.t 4)),iD 34 (.load true 3 (.t 7)),iD 35 (.call f_z2l [(.t 33),(.t 34)]),iD 11 (.move (.t 35))]) (.seq (.seq (.region [ iD 36 (.move (.t 11)),iD 37 (.bin .lss (.t 36) (.c (.int .i64 0)))]) (.cond (.t 37) (.seq (.region [ iD 8 (.move (.c (.int .i64 0)))]) .ret) .skip)) (.seq (.region [ iD 39 (.load true 3 (.t 5)),iD 40 (.move (.t 11)),iD 41 (.call f_z2z [(.t 39),(.t 40)]),iD 38 (.move (.t 41)),iD 42 (.extract (.t 38) 0),iD 43 (.extract (.t 38) 1),iD 12 (.move (.t 42)),iD 13 (.move (.t 43))]) (.seq (.seq (.region [ iD 45 (.load true 7 (.t 4)),iD 46 (.load true 3 (.t 5)),iD 47 (.move (.t 2)),iD 48 (.move (.t 12)),iD 49 (.call f_z2k [(.t 45),(.t 46),(.t 47),(.t 48)]),iD 44 (.move (.t 49)),iD 50 (.extract (.t 44) 0),iD 51 (.extract (.t 44) 1),iD 14 (.move (.t 50)),iD 15 (.move (.t 51))]) (.seq (.region [ iD 52 (.move (.t 14)),iD 53 (.bin .eql (.t 52) (.c (.int .i64 2)))]) (.cond (.t 53) (.seq (.region [ iD 8 (.move (.c (.int .i64 15)))]) .ret) .skip))) (.seq (.region [ iD 8 (.move (.c (.int .i64 0)))]) .ret)))))))))⟩

structure F_z2i (P : Program) where
 id : FuncId
 z31 : F_z31 P
 z2h : F_z2h P
 z2l : F_z2l P
 z2z : F_z2z P
 z2k : F_z2k P
 has : Has P id [] (c_z2i z31.id z2h.id z2l.id z2z.id z2k.id)

def c_z2u (f_z2x : FuncId) (f_z2c : FuncId) (f_z2d : FuncId) (f_z2p : FuncId) (f_z2v : FuncId) (f_z2b : FuncId) (f_z2r : FuncId) (f_z2j : FuncId) (f_z2i : FuncId) : AFunc := ⟨129,[.cell true 1 6,.cell true 4 7,.tmp 8,.tmp 9],(.seq (.region [ iD 3 (.box (.t 0)),iD 4 (.box (.t 1)),iD 5 (.box (.t 2)),iD 6 (.alloc [.nil]),iD 7 (.alloc [(.str (bs [])),(.str (bs [])),.nil,.nil]),iD 8 (.move (.c (.bool false))),iD 9 (.move (.c (.int .i64 0)))]) (.seq (.region [ iD 22 (.load true 6 (.t 4)),iD 23 (.fieldAddr 1 (.t 5)),iD 24 (.load false 1 (.t 23)),iD 25 (.call f_z2x [(.t 22),(.t 24)]),iD 21 (.move (.t 25)),iD 26 (.extract (.t 21) 0),iD 27 (.extract (.t 21) 1),iD 28 (.extract (.t 21) 2),iD 10 (.alloc [(.str (bs [])),.nil,.nil,(.str (bs [])),(.str (bs [])),(.int .i64 0),(.int .i64 0)]),iD 11 (.alloc [(.str (bs [])),(.int .i64 0),.nil]),iN (.store 7 (.t 10) (.t 26)),iN (.store 3 (.t 11) (.t 27)),iD 12 (.move (.t 28))]) (.seq (.seq (.region [ iD 29 (.move (.t 12)),iD 30 (.un .not (.t 29))]) (.cond (.t 30) (.seq (.region [ iD 31 (.build [.nil] []),iD 32 (.build [(.str (bs [])),(.str (bs [])),.nil,.nil] []),iN (.store 1 (.t 6) (.t 31)),iN (.store 4 (.t 7) (.t 32)),iD 8 (.move (.c (.bool false))),iD 9 (.move (.c (.int .i64 5)))]) .ret) .skip)) (.seq (.seq (.region [ iD 34 (.load true 3 (.t 5)),iD 35 (.call f_z2c [(.t 34)]),iD 33 (.move (.t 35)),iD 36 (.extract (.t 33) 0),iD 37 (.extract (.t 33) 1),iD 13 (.move (.t 36)),iD 14 (.move (.t 37))]) (.seq (.region [ iD 38 (.move (.t 14)),iD 39 (.bin .neq (.t 38) (.c (.int .i64 0)))]) (.cond (.t 39) (.seq (.region [ iD 40 (.build [.nil] []),iD 41 (.build [(.str (bs [])),(.str (bs [])),.nil,.nil] []),iD 42 (.move (.t 14)),iN (.store 1 (.t 6) (.t 40)),iN (.store 4 (.t 7) (.t 41)),iD 8 (.move (.c (.bool false))),iD 9 (.move (.t 42))]) .ret) .skip))) (.seq (.region [ iD 15 (.move (.c (.int .i64 (-1))))]) (.seq (.seq (.region [ iD 16 (.move (.c (.int .i64 0)))]) (.block 0 (.loop (.seq (.seq (.region [ iD 43 (.move (.t 16)),iD 44 (.fieldAddr 0 (.t 3)),iD 45 (.load false 1 (.t 44)),iD 46 (.len (.t 45)),iD 47 (.bin .lss (.t 43) (.t 46))]) (.cond (.t 47) .skip (.exit 0))) (.seq (.block 1 (.seq (.seq (.draw [ jD 50 (.fieldAddr 0 (.t 3)),jD 51 (.load false 1 (.t 50)),jD 52 (.move (.t 16)),jD 53 (.indexAddr 4 (.t 51) (.t 52)),jD 54 (.fieldAddr 0 (.t 53)),jD 55 (.fieldAddr 0 (.t 54)),jD 56 (.load false 1 (.t 55)),jD 57 (.fieldAddr 0 (.t 5)),jD 58 (.load false 1 (.t 57)),jD 59 (.bin .neq (.t 56) (.t 58))]) (.cond (.t 59) (.exit 1) .skip)) (.seq (.seq (.draw [ jD 60 (.fieldAddr 0 (.t 3)),jD 61 (.load false 1 (.t 60)),jD 62 (.move (.t 16)),jD 63 (.indexAddr 4 (.t 61) (.t 62)),jD 64 (.fieldAddr 0 (.t 63)),jD 65 (.load true 3 (.t 64)),jD 66 (.load true 3 (.t 5)),jD 67 (.call f_z2d [(.t 65),(.t 66)]),jD 68 (.un .not (.t 67))]) (.cond (.t 68) (.seq (.region [ iD 69 (.build [.nil] []),iD 70 (.build [(.str (bs [])),(.str (bs [])),.nil,.nil] []),iN (.store 1 (.t 6) (.t 69)),iN (.store 4 (.t 7) (.t 70)),iD 8 (.move (.c (.bool false))),iD 9 (.move (.c (.int .i64 6)))]) .ret) .skip)) (.seq (.region [ iD 71 (.move (.t 15)),iD 72 (.bin .lss (.t 71) (.c (.int .i64 0)))]) (.cond (.t 72) (.region [ iD 73 (.move (.t 16)),iD 15 (.move (.t 73))]) .skip))))) (.region [ iD 48 (.move (.t 16)),iD 49 (.bin .add (.t 48) (.c (.int .i64 1))),iD 16 (.move (.t 49))])))))) (.seq (.region [ iD 74 (.load true 1 (.t 3)),iD 75 (.call f_z2p [(.t 74)]),iD 17 (.alloc [.nil]),iN (.store 1 (.t 17) (.t 75))]) (.seq (.seq (.region [ iD 76 (.move (.t 15)),iD 77 (.bin .geq (.t 76) (.c (.int .i64 0)))]) (.cond (.t 77) (.seq (.draw [ jD 78 (.load true 1 (.t 17)),jD 79 (.fieldAddr 0 (.t 3)),jD 80 (.load false 1 (.t 79)),jD 81 (.move (.t 15)),jD 82 (.indexAddr 4 (.t 80) (.t 81)),jD 83 (.load true 4 (.t 82)),jD 84 (.call f_z2v [(.t 83)]),(iN (.store 1 (.t 6) (.t 78)),[]),(iN (.store 4 (.t 7) (.t 84)),[]),jD 8 (.move (.c (.bool false))),jD 9 (.move (.c (.int .i64 0)))]) .ret) .skip)) (.seq (.seq (.region [ iD 85 (.fieldAddr 0 (.t 3)),iD 86 (.load false 1 (.t 85)),iD 87 (.len (.t 86)),iD 88 (.bin .geq (.t 87) (.c (.int .i64 1024)))]) (.cond (.t 88) (.seq (.region [ iD 89 (.build [.nil] []),iD 90 (.build [(.str (bs [])),(.str (bs [])),.nil,.nil] []),iN (.store 1 (.t 6) (.t 89)),iN (.store 4 (.t 7) (.t 90)),iD 8 (.move (.c (.bool false))),iD 9 (.move (.c (.int .i64 2)))]) .ret) .skip)) (.seq (.region [ iD 91 (.load true 3 (.t 5)),iD 92 (.call f_z2b [(.t 91)]),iD 93 (.build [(.str (bs [])),(.str (bs [])),.nil,.nil] [(0,3,(.t 92))]),iD 18 (.alloc [(.str (bs [])),(.str (bs [])),.nil,.nil]),iN (.store 4 (.t 18) (.t 93))]) (.seq (.draw [ jD 94 (.load true 7 (.t 10)),jD 95 (.load true 1 (.t 3)),jD 96 (.load true 7 (.t 10)),jD 97 (.call f_z2r [(.t 95),(.t 96)]),jD 98 (.call f_z2j [(.t 94),(.t 97)]),jD 19 (.move (.t 98))]) (.seq (.seq (.region [ iD 20 (.move (.c (.int .i64 0)))]) (.seq (.block 2 (.loop (.seq (.seq (.region [ iD 99 (.move (.t 20)),iD 100 (.fieldAddr 2 (.t 5)),iD 101 (.load false 1 (.t 100)),iD 102 (.len (.t 101)),iD 103 (.bin .lss (.t 99) (.t 102))]) (.cond (.t 103) .skip (.exit 2))) (.seq (.block 3 (.draw [ jD 106 (.fieldAddr 3 (.t 18)),jD 107 (.load false 1 (.t 106)),jD 108 (.load true 7 (.t 10)),jD 109 (.load true 3 (.t 11)),jD 110 (.move (.t 19)),jD 111 (.fieldAddr 2 (.t 5)),jD 112 (.load false 1 (.t 111)),jD 113 (.move (.t 20)),jD 114 (.indexAddr 3 (.t 112) (.t 113)),jD 115 (.load true 3 (.t 114)),jD 116 (.call f_z2i [(.t 108),(.t 109),(.t 110),(.t 115)]),jD 117 (.buildSlice 1 1 [(.int .i64 0)] [(0,(.t 116))]),jD 118 (.append 1 8 [(.int .i64 0)] (.t 107) (.t 117)),jD 119 (.fieldAddr 3 (.t 18)),(iN (.store 1 (.t 119) (.t 118)),[])])) (.region [ iD 104 (.move (.t 20)),iD 105 (.bin .add (.t 104) (.c (.int .i64 1))),iD 20 (.move (.t 105))]))))) .ghost)) (.seq (.draw [ jD 120 (.fieldAddr 0 (.t 17)),jD 121 (.load false 1 (.t 120)),jD 122 (.load true 4 (.t 18)),jD 123 (.call f_z2v [(.t 122)]),jD 124 (.buildSlice 4 1 [(.str (bs [])),(.str (bs [])),.nil,.nil] [(0,(.t 123))]),jD 125 (.append 4 80 [(.str (bs [])),(.str (bs [])),.nil,.nil] (.t 121) (.t 124)),jD 126 (.fieldAddr 0 (.t 17)),(iN (.store 1 (.t 126) (.t 125)),[])]) (.seq (.draw [ jD 127 (.load true 1 (.t 17)),(iD 128 (.load true 4 (.t 18)),[3]),(iN (.store 1 (.t 6) (.t 127)),[]),(iN (.store 4 (.t 7) (.t 128)),[]),jD 8 (.move (.c (.bool true))),jD 9 (.move (.c (.int .i64 0)))]) .ret))))))))))))))⟩

structure F_z2u (P : Program) where
 id : FuncId
 z2x : F_z2x P
 z2c : F_z2c P
 z2d : F_z2d P
 z2p : F_z2p P
 z2v : F_z2v P
 z2b : F_z2b P
 z2r : F_z2r P
 z2j : F_z2j P
 z2i : F_z2i P
 has : Has P id [200002] (c_z2u z2x.id z2c.id z2d.id z2p.id z2v.id z2b.id z2r.id z2j.id z2i.id)

def c_z2n (f_z2u : FuncId) : AFunc := ⟨25,[.cell true 1 6,.cell true 4 7,.tmp 8],(.seq (.region [ iD 3 (.box (.t 0)),iD 4 (.box (.t 1)),iD 5 (.box (.t 2)),iD 6 (.alloc [.nil]),iD 7 (.alloc [(.str (bs [])),(.str (bs [])),.nil,.nil]),iD 8 (.move (.c (.int .i64 0)))]) (.seq (.region [ iD 14 (.load true 1 (.t 3)),iD 15 (.load true 6 (.t 4)),iD 16 (.load true 3 (.t 5)),iD 17 (.call f_z2u [(.t 14),(.t 15),(.t 16)]),iD 13 (.move (.t 17)),iD 18 (.extract (.t 13) 0),iD 19 (.extract (.t 13) 1),iD 20 (.extract (.t 13) 2),iD 21 (.extract (.t 13) 3),iD 9 (.alloc [.nil]),iD 10 (.alloc [(.str (bs [])),(.str (bs [])),.nil,.nil]),iN (.store 1 (.t 9) (.t 18)),iN (.store 4 (.t 10) (.t 19)),iD 11 (.move (.t 20)),iD 12 (.move (.t 21))]) (.seq (.draw [ jD 22 (.load true 1 (.t 9)),(iD 23 (.load true 4 (.t 10)),[2]),jD 24 (.move (.t 12)),(iN (.store 1 (.t 6) (.t 22)),[]),(iN (.store 4 (.t 7) (.t 23)),[]),jD 8 (.move (.t 24))]) .ret)))⟩

structure F_z2n (P : Program) where
 id : FuncId
 z2u : F_z2u P
 has : Has P id [] (c_z2n z2u.id)

def c_z3l (f_z3q : FuncId) (f_z3m : FuncId) (f_z2n : FuncId) : AFunc := ⟨45,[.cell true 1 10],(.seq (.region [ iD 5 (.box (.t 0)),iD 6 (.box (.t 1)),iD 10 (.alloc [.nil])]) (.seq (.seq (.region [ iD 15 (.fieldAddr 1 (.t 6)),iD 16 (.load false 1 (.t 15)),iD 17 (.len (.t 16)),iD 18 (.bin .eql (.t 17) (.c (.int .i64 0)))]) (.cond (.t 18) (.seq (.region [ iD 19 (.load true 1 (.t 5)),iN (.store 1 (.t 10) (.t 19))]) .ret) .skip)) (.seq (.seq (.draw [ jD 20 (.move (.t 2)),jD 21 (.fieldAddr 1 (.t 6)),(iD 22 (.load false 1 (.t 21)),[7]),jD 23 (.move (.t 3)),jD 24 (.fieldAddr 1 (.t 6)),jD 25 (.load false 1 (.t 24)),jD 26 (.len (.t 25)),jD 27 (.callE f_z3q [(.t 23),(.t 26)]),jD 28 (.indexAddr 7 (.t 22) (.t 27)),jD 29 (.load true 7 (.t 28)),jD 30 (.move (.t 3)),jD 31 (.move (.t 4)),jD 32 (.callE f_z3m [(.t 20),(.t 29),(.t 30),(.t 31)]),jD 11 (.alloc [(.str (bs [])),(.str (bs [])),.nil]),(iN (.store 3 (.t 11) (.t 32)),[])]) .ghost) (.seq (.seq (.region [ iD 34 (.load true 1 (.t 5)),iD 35 (.load true 6 (.t 6)),iD 36 (.load true 3 (.t 11)),iD 37 (.call f_z2n [(.t 34),(.t 35),(.t 36)]),iD 33 (.move (.t 37)),iD 38 (.extract (.t 33) 0),iD 39 (.extract (.t 33) 1),iD 40 (.extract (.t 33) 2),iD 12 (.alloc [.nil]),iD 13 (.alloc [(.str (bs [])),(.str (bs [])),.nil,.nil]),iN (.store 1 (.t 12) (.t 38)),iN (.store 4 (.t 13) (.t 39)),iD 14 (.move (.t 40))]) (.seq (.region [ iD 41 (.move (.t 14)),iD 42 (.bin .eql (.t 41) (.c (.int .i64 0)))]) (.cond (.t 42) (.seq (.region [ iD 43 (.load true 1 (.t 12)),iN (.store 1 (.t 10) (.t 43))]) .ret) .skip))) (.seq (.region [ iD 44 (.load true 1 (.t 5)),iN (.store 1 (.t 10) (.t 44))]) .ret)))))⟩

structure F_z3l (P : Program) where
 id : FuncId
 z3q : F_z3q P
 z3m : F_z3m P
 z2n : F_z2n P
 has : Has P id [27, 32, 100011] (c_z3l z3q.id z3m.id z2n.id)

def c_z3o (f_z3q : FuncId) (f_z3p : FuncId) (f_z3l : FuncId) : AFunc := ⟨34,[.cell true 1 8],(.seq (.region [ iD 4 (.box (.t 0)),iD 8 (.alloc [.nil])]) (.seq (.region [ iD 9 (.alloc [.nil])]) (.seq (.seq (.region [ iD 10 (.move (.c (.int .i64 0)))]) (.block 0 (.loop (.seq (.seq (.region [ iD 11 (.move (.t 10)),iD 12 (.move (.t 2)),iD 13 (.bin .lss (.t 11) (.t 12)),iD 14 (.move (.t 13)),⟨(some 15),.fieldAddr 1 (.t 4),some (some 14,true)⟩,⟨(some 16),.load false 1 (.t 15),some (some 14,true)⟩,⟨(some 17),.len (.t 16),some (some 14,true)⟩,⟨(some 18),.bin .gtr (.t 17) (.c (.int .i64 0)),some (some 14,true)⟩,iD 19 (.pick (.t 14) (.t 18) (.c (.bool false)))]) (.cond (.t 19) .skip (.exit 0))) (.seq (.block 1 (.draw [ (iD 22 (.load true 1 (.t 9)),[7]),(iD 23 (.load true 6 (.t 4)),[7]),jD 24 (.move (.t 10)),jD 25 (.move (.t 1)),jD 26 (.callE f_z3q [(.t 25),(.c (.int .i64 8))]),jD 27 (.bin .quo (.t 26) (.c (.int .i64 7))),jD 28 (.bin .sub (.t 24) (.t 27)),jD 29 (.call f_z3p [(.t 28)]),jD 30 (.move (.t 1)),jD 31 (.move (.t 3)),jD 32 (.callE f_z3l [(.t 22),(.t 23),(.t 29),(.t 30),(.t 31)]),(iN (.store 1 (.t 9) (.t 32)),[])])) (.region [ iD 20 (.move (.t 10)),iD 21 (.bin .add (.t 20) (.c (.int .i64 1))),iD 10 (.move (.t 21))])))))) (.seq (.region [ iD 33 (.load true 1 (.t 9)),iN (.store 1 (.t 8) (.t 33))]) .ret))))⟩

structure F_z3o (P : Program) where
 id : FuncId
 z3q : F_z3q P
 z3p : F_z3p P
 z3l : F_z3l P
 has : Has P id [26, 32] (c_z3o z3q.id z3p.id z3l.id)

def c_z1v (f_z1y : FuncId) (f_z3o : FuncId) : AFunc := ⟨22,[.cell true 7 4,.cell true 1 5,.tmp 6],(.seq (.region [ iD 4 (.alloc [(.str (bs [])),.nil,.nil,(.str (bs [])),(.str (bs [])),(.int .i64 0),(.int .i64 0)]),iD 5 (.alloc [.nil]),iD 6 (.move (.c .junk))]) (.seq (.region [ iD 9 (.move (.t 0)),iD 10 (.call f_z1y [(.t 9)]),iD 7 (.alloc [.nil,.nil,.nil,.nil,.nil,.nil]),iN (.store 6 (.t 7) (.t 10))]) (.seq (.region [ iD 11 (.move (.t 1)),iD 12 (.build [.nil,(.int .i64 0)] [(0,1,(.t 11))]),iD 13 (.box (.t 12)),iD 8 (.move (.t 13))]) (.seq (.draw [ jD 14 (.fieldAddr 1 (.t 7)),(iD 15 (.load false 1 (.t 14)),[4]),(iD 16 (.indexAddr 7 (.t 15) (.c (.int .i64 0))),[4]),(iD 17 (.load true 7 (.t 16)),[4]),jD 18 (.load true 6 (.t 7)),jD 19 (.move (.t 8)),jD 20 (.callE f_z3o [(.t 18),(.t 19),(.c (.int .i64 4)),(.c (.int .i64 6))]),jD 21 (.move (.t 8)),(iN (.store 7 (.t 4) (.t 17)),[]),(iN (.store 1 (.t 5) (.t 20)),[]),jD 6 (.move (.t 21))]) .ret))))⟩

structure F_z1v (P : Program) where
 id : FuncId
 z1y : F_z1y P
 z3o : F_z3o P
 has : Has P id [20] (c_z1v z1y.id z3o.id)

def c_z2q (f_z39 : FuncId) : AFunc := ⟨39,[.tmp 4],(.seq (.region [ iD 2 (.box (.t 0)),iD 4 (.move (.c .nil))]) (.seq (.region [ iD 5 (.move (.c .nil))]) (.seq (.seq (.region [ iD 6 (.move (.c (.int .i64 0)))]) (.block 0 (.loop (.seq (.seq (.region [ iD 8 (.move (.t 6)),iD 9 (.fieldAddr 2 (.t 2)),iD 10 (.load false 1 (.t 9)),iD 11 (.len (.t 10)),iD 12 (.bin .lss (.t 8) (.t 11))]) (.cond (.t 12) .skip (.exit 0))) (.seq (.block 1 (.seq (.draw [ jD 15 (.fieldAddr 1 (.t 2)),jD 16 (.load false 1 (.t 15)),jD 17 (.fieldAddr 2 (.t 2)),jD 18 (.load false 1 (.t 17)),jD 19 (.move (.t 6)),jD 20 (.indexAddr 1 (.t 18) (.t 19)),jD 21 (.load false 1 (.t 20)),jD 22 (.call f_z39 [(.t 16),(.t 21)]),jD 7 (.move (.t 22))]) (.seq (.region [ iD 23 (.move (.t 7)),iD 24 (.bin .geq (.t 23) (.c (.int .i64 0))),iD 25 (.move (.t 24)),⟨(some 26),.move (.t 7),some (some 25,true)⟩,⟨(some 27),.move (.t 1),some (some 25,true)⟩,⟨(some 28),.len (.t 27),some (some 25,true)⟩,⟨(some 29),.bin .lss (.t 26) (.t 28),some (some 25,true)⟩,iD 30 (.pick (.t 25) (.t 29) (.c (.bool false)))]) (.cond (.t 30) (.region [ iD 31 (.move (.t 5)),iD 32 (.move (.t 1)),iD 33 (.move (.t 7)),iD 34 (.indexAddr 3 (.t 32) (.t 33)),iD 35 (.load true 3 (.t 34)),iD 36 (.buildSlice 3 1 [(.int .i64 0),(.int .i64 0),(.str (bs []))] [(0,(.t 35))]),iD 37 (.append 3 32 [(.int .i64 0),(.int .i64 0),(.str (bs []))] (.t 31) (.t 36)),iD 5 (.move (.t 37))]) .skip)))) (.region [ iD 13 (.move (.t 6)),iD 14 (.bin .add (.t 13) (.c (.int .i64 1))),iD 6 (.move (.t 14))])))))) (.seq (.region [ iD 38 (.move (.t 5)),iD 4 (.move (.t 38))]) .ret))))⟩

structure F_z2q (P : Program) where
 id : FuncId
 z39 : F_z39 P
 has : Has P id [] (c_z2q z39.id)

def c_z2o (f_z2q : FuncId) (f_z21 : FuncId) (f_z2l : FuncId) : AFunc := ⟨68,[.tmp 6],(.seq (.region [ iD 3 (.box (.t 0)),iD 4 (.box (.t 1)),iD 5 (.box (.t 2)),iD 6 (.move (.c (.bool false)))]) (.seq (.seq (.draw [ jD 11 (.load true 7 (.t 3)),jD 12 (.fieldAddr 0 (.t 4)),jD 13 (.fieldAddr 2 (.t 12)),jD 14 (.load false 1 (.t 13)),jD 15 (.call f_z2q [(.t 11),(.t 14)]),jD 16 (.load true 7 (.t 3)),jD 17 (.fieldAddr 0 (.t 5)),jD 18 (.fieldAddr 2 (.t 17)),jD 19 (.load false 1 (.t 18)),jD 20 (.call f_z2q [(.t 16),(.t 19)]),jD 21 (.call f_z21 [(.t 15),(.t 20)]),jD 7 (.move (.t 21))]) (.seq (.region [ iD 22 (.move (.t 7)),iD 23 (.bin .neq (.t 22) (.c (.int .i64 0)))]) (.cond (.t 23) (.seq (.region [ iD 24 (.move (.t 7)),iD 25 (.bin .lss (.t 24) (.c (.int .i64 0))),iD 6 (.move (.t 25))]) .ret) .skip))) (.seq (.draw [ (iD 26 (.load true 7 (.t 3)),[1]),jD 27 (.fieldAddr 0 (.t 4)),(iD 28 (.load true 3 (.t 27)),[1]),(iD 29 (.call f_z2l [(.t 26),(.t 28)]),[1]),jD 30 (.fieldAddr 0 (.t 4)),jD 31 (.fieldAddr 1 (.t 30)),(iD 32 (.load false 1 (.t 31)),[1]),jD 33 (.fieldAddr 3 (.t 4)),(iD 34 (.load false 1 (.t 33)),[1]),jD 35 (.fieldAddr 4 (.t 4)),(iD 36 (.load false 1 (.t 35)),[1]),jD 37 (.build [(.int .i64 0),(.int .i64 0),(.int .i64 0),(.int .i64 0)] [(0,1,(.t 29)),(1,1,(.t 32)),(2,1,(.t 34)),(3,1,(.t 36))]),jD 8 (.alloc [(.int .i64 0),(.int .i64 0),(.int .i64 0),(.int .i64 0)]),(iN (.store 4 (.t 8) (.t 37)),[])]) (.seq (.draw [ (iD 38 (.load true 7 (.t 3)),[1]),jD 39 (.fieldAddr 0 (.t 5)),(iD 40 (.load true 3 (.t 39)),[1]),(iD 41 (.call f_z2l [(.t 38),(.t 40)]),[1]),jD 42 (.fieldAddr 0 (.t 5)),jD 43 (.fieldAddr 1 (.t 42)),(iD 44 (.load false 1 (.t 43)),[1]),jD 45 (.fieldAddr 3 (.t 5)),(iD 46 (.load false 1 (.t 45)),[1]),jD 47 (.fieldAddr 4 (.t 5)),(iD 48 (.load false 1 (.t 47)),[1]),jD 49 (.build [(.int .i64 0),(.int .i64 0),(.int .i64 0),(.int .i64 0)] [(0,1,(.t 41)),(1,1,(.t 44)),(2,1,(.t 46)),(3,1,(.t 48))]),jD 9 (.alloc [(.int .i64 0),(.int .i64 0),(.int .i64 0),(.int .i64 0)]),(iN (.store 4 (.t 9) (.t 49)),[])]) (.seq (.seq (.region [ iD 10 (.move (.c (.int .i64 0)))]) (.block 0 (.loop (.seq (.seq (.region [ iD 50 (.move (.t 10)),iD 51 (.bin .lss (.t 50) (.c (.int .i64 4)))]) (.cond (.t 51) .skip (.exit 0))) (.seq (.block 1 (.seq (.draw [ jD 54 (.move (.t 10)),jD 55 (.arrAddr 1 4 (.t 8) (.t 54)),jD 56 (.load false 1 (.t 55)),jD 57 (.move (.t 10)),jD 58 (.arrAddr 1 4 (.t 9) (.t 57)),jD 59 (.load false 1 (.t 58)),jD 60 (.bin .neq (.t 56) (.t 59))]) (.cond (.t 60) (.seq (.draw [ jD 61 (.move (.t 10)),jD 62 (.arrAddr 1 4 (.t 8) (.t 61)),jD 63 (.load false 1 (.t 62)),jD 64 (.move (.t 10)),jD 65 (.arrAddr 1 4 (.t 9) (.t 64)),jD 66 (.load false 1 (.t 65)),jD 67 (.bin .lss (.t 63) (.t 66)),jD 6 (.move (.t 67))]) .ret) .skip))) (.region [ iD 52 (.move (.t 10)),iD 53 (.bin .add (.t 52) (.c (.int .i64 1))),iD 10 (.move (.t 53))])))))) (.seq (.region [ iD 6 (.move (.c (.bool false)))]) .ret))))))⟩

structure F_z2o (P : Program) where
 id : FuncId
 z2q : F_z2q P
 z21 : F_z21 P
 z2l : F_z2l P
 has : Has P id [] (c_z2o z2q.id z21.id z2l.id)

def c_z2s (f_z2o : FuncId) : AFunc := ⟨48,[.tmp 4],(.seq (.region [ iD 2 (.box (.t 0)),iD 4 (.move (.c .nil))]) (.seq (.region [ iD 5 (.move (.c .nil))]) (.seq (.seq (.region [ iD 6 (.move (.c (.int .i64 0)))]) (.block 0 (.loop (.seq (.seq (.region [ iD 8 (.move (.t 6)),iD 9 (.move (.t 1)),iD 10 (.len (.t 9)),iD 11 (.bin .lss (.t 8) (.t 10))]) (.cond (.t 11) .skip (.exit 0))) (.seq (.block 1 (.seq (.region [ iD 14 (.move (.t 5)),iD 15 (.len (.t 14)),iD 7 (.move (.t 15))]) (.seq (.block 2 (.loop (.seq (.seq (.draw [ jD 16 (.move (.t 7)),jD 17 (.bin .gtr (.t 16) (.c (.int .i64 0))),jD 18 (.move (.t 17)),(⟨(some 19),.load true 7 (.t 2),some (some 18,true)⟩,[]),(⟨(some 20),.move (.t 1),some (some 18,true)⟩,[]),(⟨(some 21),.move (.t 6),some (some 18,true)⟩,[]),(⟨(some 22),.indexAddr 5 (.t 20) (.t 21),some (some 18,true)⟩,[]),(⟨(some 23),.load true 5 (.t 22),some (some 18,true)⟩,[]),(⟨(some 24),.move (.t 5),some (some 18,true)⟩,[]),(⟨(some 25),.move (.t 7),some (some 18,true)⟩,[]),(⟨(some 26),.bin .sub (.t 25) (.c (.int .i64 1)),some (some 18,true)⟩,[]),(⟨(some 27),.indexAddr 5 (.t 24) (.t 26),some (some 18,true)⟩,[]),(⟨(some 28),.load true 5 (.t 27),some (some 18,true)⟩,[]),(⟨(some 29),.call f_z2o [(.t 19),(.t 23),(.t 28)],some (some 18,true)⟩,[]),jD 30 (.pick (.t 18) (.t 29) (.c (.bool false)))]) (.cond (.t 30) .skip (.exit 2))) (.block 3 (.region [ iD 31 (.move (.t 7)),iD 32 (.bin .sub (.t 31) (.c (.int .i64 1))),iD 7 (.move (.t 32))]))))) (.draw [ jD 33 (.move (.t 5)),jD 34 (.move (.t 7)),jD 35 (.move (.t 7)),jD 36 (.slice3 5 (.t 33) (.t 34) (.t 35)),jD 37 (.move (.t 1)),jD 38 (.move (.t 6)),jD 39 (.indexAddr 5 (.t 37) (.t 38)),jD 40 (.load true 5 (.t 39)),jD 41 (.buildSlice 5 1 [(.bool false),(.int .i64 0),.nil,(.int .i64 0),(.int .i64 0)] [(0,(.t 40))]),jD 42 (.move (.t 5)),jD 43 (.move (.t 7)),jD 44 (.slice 5 (.t 42) (some (.t 43)) none),jD 45 (.append 5 56 [(.bool false),(.int .i64 0),.nil,(.int .i64 0),(.int .i64 0)] (.t 41) (.t 44)),jD 46 (.append 5 56 [(.bool false),(.int .i64 0),.nil,(.int .i64 0),(.int .i64 0)] (.t 36) (.t 45)),jD 5 (.move (.t 46))])))) (.region [ iD 12 (.move (.t 6)),iD 13 (.bin .add (.t 12) (.c (.int .i64 1))),iD 6 (.move (.t 13))])))))) (.seq (.region [ iD 47 (.move (.t 5)),iD 4 (.move (.t 47))]) .ret))))⟩

structure F_z2s (P : Program) where
 id : FuncId
 z2o : F_z2o P
 has : Has P id [] (c_z2s z2o.id)

def c_z2t (f_z2w : FuncId) (f_z2s : FuncId) : AFunc := ⟨10,[.tmp 4],(.seq (.region [ iD 2 (.box (.t 0)),iD 3 (.box (.t 1)),iD 4 (.move (.c .nil))]) (.seq (.draw [ jD 5 (.load true 7 (.t 3)),jD 6 (.load true 1 (.t 2)),jD 7 (.load true 7 (.t 3)),jD 8 (.call f_z2w [(.t 6),(.t 7)]),jD 9 (.call f_z2s [(.t 5),(.t 8)]),jD 4 (.move (.t 9))]) .ret))⟩

structure F_z2t (P : Program) where
 id : FuncId
 z2w : F_z2w P
 z2s : F_z2s P
 has : Has P id [] (c_z2t z2w.id z2s.id)

def c_z1x : AFunc := ⟨18,[.tmp 4],(.seq (.region [ iD 4 (.move (.c (.bool false)))]) (.seq (.seq (.region [ iD 5 (.move (.c (.int .i64 0)))]) (.block 0 (.loop (.seq (.seq (.region [ iD 6 (.move (.t 5)),iD 7 (.move (.t 0)),iD 8 (.len (.t 7)),iD 9 (.bin .lss (.t 6) (.t 8))]) (.cond (.t 9) .skip (.exit 0))) (.seq (.block 1 (.seq (.region [ iD 12 (.move (.t 0)),iD 13 (.move (.t 5)),iD 14 (.indexAddr 1 (.t 12) (.t 13)),iD 15 (.load false 1 (.t 14)),iD 16 (.move (.t 1)),iD 17 (.bin .eql (.t 15) (.t 16))]) (.cond (.t 17) (.seq (.region [ iD 4 (.move (.c (.bool true)))]) .ret) .skip))) (.region [ iD 10 (.move (.t 5)),iD 11 (.bin .add (.t 10) (.c (.int .i64 1))),iD 5 (.move (.t 11))])))))) (.seq (.region [ iD 4 (.move (.c (.bool false)))]) .ret)))⟩

structure F_z1x (P : Program) where
 id : FuncId
 has : Has P id [] c_z1x

def c_z1w (f_z2q : FuncId) (f_z27 : FuncId) : AFunc := ⟨56,[.tmp 8],(.seq (.region [ iD 4 (.box (.t 0)),iD 8 (.move (.c .nil))]) (.seq (.region [ iD 9 (.move (.c .nil))]) (.seq (.seq (.region [ iD 10 (.move (.c (.int .i64 0)))]) (.block 0 (.loop (.seq (.seq (.region [ iD 12 (.move (.t 10)),iD 13 (.move (.t 1)),iD 14 (.len (.t 13)),iD 15 (.bin .lss (.t 12) (.t 14))]) (.cond (.t 15) .skip (.exit 0))) (.seq (.block 1 (.seq (.region [ iD 18 (.move (.t 1)),iD 19 (.move (.t 10)),iD 20 (.indexAddr 2 (.t 18) (.t 19)),iD 21 (.fieldAddr 0 (.t 20)),iD 22 (.load false 1 (.t 21)),iD 11 (.move (.t 22))]) (.seq (.seq (.region [ iD 23 (.move (.t 11)),iD 24 (.len (.t 23)),iD 25 (.fieldAddr 1 (.t 4)),iD 26 (.load false 1 (.t 25)),iD 27 (.len (.t 26)),iD 28 (.bin .add (.t 27) (.c (.int .i64 2))),iD 29 (.bin .eql (.t 24) (.t 28)),iD 30 (.move (.t 29)),⟨(some 31),.load true 7 (.t 4),some (some 30,true)⟩,⟨(some 32),.move (.t 11),some (some 30,true)⟩,⟨(some 33),.call f_z2q [(.t 31),(.t 32)],some (some 30,true)⟩,⟨(some 34),.move (.t 2),some (some 30,true)⟩,⟨(some 35),.call f_z27 [(.t 33),(.t 34)],some (some 30,true)⟩,iD 36 (.pick (.t 30) (.t 35) (.c (.bool false))),iD 37 (.move (.t 36)),⟨(some 38),.move (.t 11),some (some 37,true)⟩,⟨(some 39),.fieldAddr 1 (.t 4),some (some 37,true)⟩,⟨(some 40),.load false 1 (.t 39),some (some 37,true)⟩,⟨(some 41),.len (.t 40),some (some 37,true)⟩,⟨(some 42),.indexAddr 3 (.t 38) (.t 41),some (some 37,true)⟩,⟨(some 43),.fieldAddr 1 (.t 42),some (some 37,true)⟩,⟨(some 44),.load false 1 (.t 43),some (some 37,true)⟩,⟨(some 45),.move (.t 3),some (some 37,true)⟩,⟨(some 46),.bin .eql (.t 44) (.t 45),some (some 37,true)⟩,iD 47 (.pick (.t 37) (.t 46) (.c (.bool false)))]) (.cond (.t 47) (.exit 1) .skip)) (.region [ iD 48 (.move (.t 9)),iD 49 (.move (.t 1)),iD 50 (.move (.t 10)),iD 51 (.indexAddr 2 (.t 49) (.t 50)),iD 52 (.load true 2 (.t 51)),iD 53 (.buildSlice 2 1 [.nil,(.int .i64 0)] [(0,(.t 52))]),iD 54 (.append 2 32 [.nil,(.int .i64 0)] (.t 48) (.t 53)),iD 9 (.move (.t 54))])))) (.region [ iD 16 (.move (.t 10)),iD 17 (.bin .add (.t 16) (.c (.int .i64 1))),iD 10 (.move (.t 17))])))))) (.seq (.region [ iD 55 (.move (.t 9)),iD 8 (.move (.t 55))]) .ret))))⟩

structure F_z1w (P : Program) where
 id : FuncId
 z2q : F_z2q P
 z27 : F_z27 P
 has : Has P id [] (c_z1w z2q.id z27.id)

def c_z26 (f_z27 : FuncId) : AFunc := ⟨42,[.tmp 4],(.seq (.region [ iD 4 (.move (.c (.bool false)))]) (.seq (.seq (.region [ iD 6 (.move (.t 0)),iD 7 (.len (.t 6)),iD 8 (.move (.t 1)),iD 9 (.len (.t 8)),iD 10 (.bin .neq (.t 7) (.t 9))]) (.cond (.t 10) (.seq (.region [ iD 4 (.move (.c (.bool false)))]) .ret) .skip)) (.seq (.seq (.region [ iD 5 (.move (.c (.int .i64 0)))]) (.block 0 (.loop (.seq (.seq (.region [ iD 11 (.move (.t 5)),iD 12 (.move (.t 0)),iD 13 (.len (.t 12)),iD 14 (.bin .lss (.t 11) (.t 13))]) (.cond (.t 14) .skip (.exit 0))) (.seq (.block 1 (.seq (.draw [ jD 17 (.move (.t 0)),jD 18 (.move (.t 5)),jD 19 (.indexAddr 2 (.t 17) (.t 18)),jD 20 (.fieldAddr 1 (.t 19)),jD 21 (.load false 1 (.t 20)),jD 22 (.move (.t 1)),jD 23 (.move (.t 5)),jD 24 (.indexAddr 2 (.t 22) (.t 23)),jD 25 (.fieldAddr 1 (.t 24)),jD 26 (.load false 1 (.t 25)),jD 27 (.bin .neq (.t 21) (.t 26)),jD 28 (.move (.t 27)),(⟨(some 29),.move (.t 0),some (some 28,false)⟩,[]),(⟨(some 30),.move (.t 5),some (some 28,false)⟩,[]),(⟨(some 31),.indexAddr 2 (.t 29) (.t 30),some (some 28,false)⟩,[]),(⟨(some 32),.fieldAddr 0 (.t 31),some (some 28,false)⟩,[]),(⟨(some 33),.load false 1 (.t 32),some (some 28,false)⟩,[]),(⟨(some 34),.move (.t 1),some (some 28,false)⟩,[]),(⟨(some 35),.move (.t 5),some (some 28,false)⟩,[]),(⟨(some 36),.indexAddr 2 (.t 34) (.t 35),some (some 28,false)⟩,[]),(⟨(some 37),.fieldAddr 0 (.t 36),some (some 28,false)⟩,[]),(⟨(some 38),.load false 1 (.t 37),some (some 28,false)⟩,[]),(⟨(some 39),.call f_z27 [(.t 33),(.t 38)],some (some 28,false)⟩,[]),(⟨(some 40),.un .not (.t 39),some (some 28,false)⟩,[]),jD 41 (.pick (.t 28) (.c (.bool true)) (.t 40))]) (.cond (.t 41) (.seq (.region [ iD 4 (.move (.c (.bool false)))]) .ret) .skip))) (.region [ iD 15 (.move (.t 5)),iD 16 (.bin .add (.t 15) (.c (.int .i64 1))),iD 5 (.move (.t 16))])))))) (.seq (.region [ iD 4 (.move (.c (.bool true)))]) .ret))))⟩

structure F_z26 (P : Program) where
 id : FuncId
 z27 : F_z27 P
 has : Has P id [] (c_z26 z27.id)

def c_z1t (f_z1u : FuncId) (f_z1v : FuncId) (f_z2t : FuncId) (f_z3r : FuncId) (f_z3t : FuncId) (f_z1x : FuncId) (f_z0l : FuncId) (f_z2q : FuncId) (f_z2l : FuncId) (f_z1w : FuncId) (f_z26 : FuncId) : AFunc := ⟨126,[.tmp 6],(.seq (.region [ iD 6 (.move (.c (.bool false)))]) (.seq (.seq (.region [ iD 21 (.move (.t 1)),iD 22 (.len (.t 21)),iD 23 (.bin .gtr (.t 22) (.c (.int .i64 200)))]) (.cond (.t 23) (.seq (.region [ iD 24 (.call f_z1u []),iD 6 (.move (.t 24))]) .ret) .skip)) (.seq (.region [ iD 26 (.move (.t 0)),iD 27 (.move (.t 1)),iD 28 (.call f_z1v [(.t 26),(.t 27)]),iD 25 (.move (.t 28)),iD 29 (.extract (.t 25) 0),iD 30 (.extract (.t 25) 1),iD 31 (.extract (.t 25) 2),iD 7 (.alloc [(.str (bs [])),.nil,.nil,(.str (bs [])),(.str (bs [])),(.int .i64 0),(.int .i64 0)]),iD 8 (.alloc [.nil]),iN (.store 7 (.t 7) (.t 29)),iN (.store 1 (.t 8) (.t 30)),iD 9 (.move (.t 31))]) (.seq (.region [ iD 32 (.load true 1 (.t 8)),iD 33 (.load true 7 (.t 7)),iD 34 (.call f_z2t [(.t 32),(.t 33)]),iD 10 (.move (.t 34))]) (.seq (.seq (.region [ iD 35 (.move (.t 10)),iD 36 (.len (.t 35)),iD 37 (.bin .eql (.t 36) (.c (.int .i64 0)))]) (.cond (.t 37) (.seq (.region [ iD 38 (.call f_z1u []),iD 6 (.move (.t 38))]) .ret) .skip)) (.seq (.region [ iD 39 (.move (.t 10)),iD 40 (.move (.t 2)),iD 41 (.move (.t 10)),iD 42 (.len (.t 41)),iD 43 (.call f_z3r [(.t 40),(.t 42)]),iD 44 (.indexAddr 5 (.t 39) (.t 43)),iD 45 (.load true 5 (.t 44)),iD 11 (.alloc [(.bool false),(.int .i64 0),.nil,(.int .i64 0),(.int .i64 0)]),iN (.store 5 (.t 11) (.t 45))]) (.seq (.region [ iD 46 (.fieldAddr 1 (.t 7)),iD 47 (.load false 1 (.t 46)),iD 48 (.move (.t 9)),iD 49 (.call f_z3t [(.t 47),(.t 48)]),iD 50 (.build [(.bool false),(.int .i64 0),.nil] [(1,1,(.c (.int .i64 1000))),(2,1,(.t 49))]),iD 12 (.alloc [(.bool false),(.int .i64 0),.nil]),iN (.store 3 (.t 12) (.t 50))]) (.seq (.seq (.region [ iD 51 (.fieldAddr 1 (.t 7)),iD 52 (.load false 1 (.t 51)),iD 53 (.len (.t 52)),iD 54 (.move (.c (.int .i64 0)))]) (.seq (.block 0 (.loop (.seq (.region [ iD 55 (.bin .lss (.t 54) (.t 53))]) (.seq (.cond (.t 55) .skip (.exit 0)) (.seq (.block 1 (.seq (.region [ iD 56 (.move (.t 54)),iD 57 (.indexAddr 3 (.t 52) (.t 54)),iD 58 (.load true 3 (.t 57)),iD 14 (.alloc [(.str (bs [])),(.int .i64 0),(.bool false)]),iD 13 (.move (.t 56)),iN (.store 3 (.t 14) (.t 58))]) (.seq (.region [ iD 59 (.fieldAddr 0 (.t 14)),iD 60 (.load false 1 (.t 59)),iD 61 (.fieldAddr 3 (.t 7)),iD 62 (.load false 1 (.t 61)),iD 63 (.bin .eql (.t 60) (.t 62)),iD 64 (.move (.t 63)),⟨(some 65),.fieldAddr 2 (.t 7),some (some 64,false)⟩,⟨(some 66),.load false 1 (.t 65),some (some 64,false)⟩,⟨(some 67),.fieldAddr 0 (.t 14),some (some 64,false)⟩,⟨(some 68),.load false 1 (.t 67),some (some 64,false)⟩,⟨(some 69),.call f_z1x [(.t 66),(.t 68)],some (some 64,false)⟩,iD 70 (.pick (.t 64) (.c (.bool true)) (.t 69))]) (.cond (.t 70) (.draw [ jD 71 (.fieldAddr 2 (.t 12)),jD 72 (.load false 1 (.t 71)),jD 73 (.move (.t 13)),jD 74 (.fieldAddr 0 (.t 11)),jD 75 (.fieldAddr 2 (.t 74)),jD 76 (.load false 1 (.t 75)),jD 77 (.move (.t 13)),jD 78 (.indexAddr 3 (.t 76) (.t 77)),jD 79 (.load true 3 (.t 78)),jD 80 (.indexAddr 3 (.t 72) (.t 73)),(iN (.store 3 (.t 80) (.t 79)),[])]) .skip)))) (.region [ iD 81 (.bin .add (.t 54) (.c (.int .i64 1))),iD 54 (.move (.t 81))])))))) .ghost)) (.seq (.region [ iD 83 (.load true 7 (.t 7)),iD 84 (.move (.t 10)),iD 85 (.call f_z0l [(.t 83),(.t 84)]),iD 82 (.move (.t 85)),iD 86 (.extract (.t 82) 0),iD 87 (.extract (.t 82) 1),iD 15 (.move (.t 86)),iD 16 (.move (.t 87))]) (.seq (.draw [ (iD 89 (.load true 7 (.t 7)),[10,6]),jD 90 (.move (.t 10)),jD 91 (.append 5 56 [(.bool false),(.int .i64 0),.nil,(.int .i64 0),(.int .i64 0)] (.c .nil) (.t 90)),(iD 92 (.load true 3 (.t 12)),[13]),jD 93 (.build [(.bool false),(.int .i64 0),.nil,(.int .i64 0),(.int .i64 0)] [(0,3,(.t 92)),(3,1,(.c (.int .i64 100)))]),jD 94 (.buildSlice 5 1 [(.bool false),(.int .i64 0),.nil,(.int .i64 0),(.int .i64 0)] [(0,(.t 93))]),jD 95 (.append 5 56 [(.bool false),(.int .i64 0),.nil,(.int .i64 0),(.int .i64 0)] (.t 91) (.t 94)),jD 96 (.call f_z0l [(.t 89),(.t 95)]),jD 88 (.move (.t 96)),jD 97 (.extract (.t 88) 0),jD 98 (.extract (.t 88) 1),jD 17 (.move (.t 97)),jD 18 (.move (.t 98))]) (.seq (.seq (.region [ iD 99 (.move (.t 16)),iD 100 (.bin .neq (.t 99) (.c (.int .i64 0))),iD 101 (.move (.t 100)),⟨(some 102),.move (.t 18),some (some 101,false)⟩,⟨(some 103),.bin .neq (.t 102) (.c (.int .i64 0)),some (some 101,false)⟩,iD 104 (.pick (.t 101) (.c (.bool true)) (.t 103))]) (.cond (.t 104) (.seq (.region [ iD 6 (.move (.c (.bool false)))]) .ret) .skip)) (.seq (.draw [ jD 105 (.load true 7 (.t 7)),jD 106 (.fieldAddr 2 (.t 12)),jD 107 (.load false 1 (.t 106)),jD 108 (.call f_z2q [(.t 105),(.t 107)]),jD 109 (.load true 7 (.t 7)),jD 110 (.load true 3 (.t 12)),jD 111 (.call f_z2l [(.t 109),(.t 110)]),jD 19 (.move (.t 108)),jD 20 (.move (.t 111))]) (.seq (.draw [ jD 112 (.load true 7 (.t 7)),jD 113 (.move (.t 15)),jD 114 (.move (.t 19)),jD 115 (.move (.t 20)),jD 116 (.call f_z1w [(.t 112),(.t 113),(.t 114),(.t 115)]),jD 117 (.load true 7 (.t 7)),jD 118 (.move (.t 17)),jD 119 (.move (.t 19)),jD 120 (.move (.t 20)),jD 121 (.call f_z1w [(.t 117),(.t 118),(.t 119),(.t 120)]),jD 122 (.call f_z26 [(.t 116),(.t 121)]),jD 123 (.move (.t 122)),(⟨(some 124),.call f_z1u [],some (some 123,true)⟩,[]),jD 125 (.pick (.t 123) (.t 124) (.c (.bool false))),jD 6 (.move (.t 125))]) .ret)))))))))))))⟩

structure F_z1t (P : Program) where
 id : FuncId
 z1u : F_z1u P
 z1v : F_z1v P
 z2t : F_z2t P
 z3r : F_z3r P
 z3t : F_z3t P
 z1x : F_z1x P
 z0l : F_z0l P
 z2q : F_z2q P
 z2l : F_z2l P
 z1w : F_z1w P
 z26 : F_z26 P
 has : Has P id [200000] (c_z1t z1u.id z1v.id z2t.id z3r.id z3t.id z1x.id z0l.id z2q.id z2l.id z1w.id z26.id)

end Go.AW

namespace Go.AW
universe u
variable {β : Type u}
structure Orders (cmp : β → β → Int) : Prop where
 anti : ∀ x y, cmp x y < 0 → 0 ≤ cmp y x
 trans : ∀ x y z, 0 ≤ cmp y x → 0 ≤ cmp z y → 0 ≤ cmp z x

def AscO (cmp : β → β → Int) (l : List β) : Prop := l.Pairwise fun x y => 0 ≤ cmp y x

variable {cmp : β → β → Int}
theorem asc_app {l m : List β} : AscO cmp (l ++ m) ↔ AscO cmp l ∧ AscO cmp m ∧ ∀ x ∈ l, ∀ y ∈ m, 0 ≤ cmp y x := by
 unfold AscO; rw [List.pairwise_append]

theorem asc_get {l : List β} (h : AscO cmp l) {i j : Nat} {x y : β} (hij : i < j) (hx : l[i]? = some x) (hy : l[j]? = some y) : 0 ≤ cmp y x := by
 obtain ⟨hi, ei⟩ := List.getElem?_eq_some_iff.1 hx
 obtain ⟨hj, ej⟩ := List.getElem?_eq_some_iff.1 hy
 have := List.pairwise_iff_getElem.1 h i j hi hj hij
 rw [ei, ej] at this
 exact this

theorem mem_take_get {l : List β} {n : Nat} {x : β} (h : x ∈ l.take n) : ∃ i, i < n ∧ l[i]? = some x := by
 obtain ⟨i, hi⟩ := List.mem_iff_getElem?.1 h
 rw [List.getElem?_take] at hi
 split at hi
 ·exact ⟨i, by assumption, hi⟩
 ·exact absurd hi (by simp)

theorem mem_drop_get {l : List β} {n : Nat} {x : β} (h : x ∈ l.drop n) : ∃ i, n ≤ i ∧ l[i]? = some x := by
 obtain ⟨i, hi⟩ := List.mem_iff_getElem?.1 h
 rw [List.getElem?_drop] at hi
 exact ⟨n + i, by omega, hi⟩

theorem asc_ins {Y : List β} (hY : AscO cmp Y) {x : β} {i : Nat} (h1 : ∀ k y, k < i → Y[k]? = some y → 0 ≤ cmp x y) (h2 : ∀ k y, i ≤ k → Y[k]? = some y → 0 ≤ cmp y x) :
  AscO cmp (Y.take i ++ x :: Y.drop i) := by
 have hs : AscO cmp (Y.take i ++ Y.drop i) := by rw [List.take_append_drop]; exact hY
 obtain ⟨a, b, c⟩ := asc_app.1 hs
 refine asc_app.2 ⟨a, ?_, ?_⟩
 ·refine List.pairwise_cons.2 ⟨fun y hy => ?_, b⟩
  obtain ⟨k, hk, e⟩ := mem_drop_get hy
  exact h2 k y hk e
 ·intro z hz y hy
  rcases List.mem_cons.1 hy with rfl | hy
  ·obtain ⟨k, hk, e⟩ := mem_take_get hz
   exact h1 k z hk e
  ·exact c z hz y hy

theorem perm_ins {Y : List β} {x : β} (i : Nat) : (Y.take i ++ x :: Y.drop i).Perm (x :: Y) := by
 have := List.perm_middle (a := x) (l₁ := Y.take i) (l₂ := Y.drop i)
 rwa [List.take_append_drop] at this

theorem merge_split (O : Orders cmp) {X Y Z1 Z2 : List β} (hX : AscO cmp X) (hY : AscO cmp Y) {p q : Nat}
  (h1 : p = 0 ∨ Y.length ≤ q ∨ ∃ x y, X[p - 1]? = some x ∧ Y[q]? = some y ∧ 0 ≤ cmp y x)
  (h2 : X.length ≤ p ∨ q = 0 ∨ ∃ x y, X[p]? = some x ∧ Y[q - 1]? = some y ∧ 0 ≤ cmp x y)
  (e1 : Z1.Perm (X.take p ++ Y.take q)) (e2 : Z2.Perm (X.drop p ++ Y.drop q)) (s1 : AscO cmp Z1) (s2 : AscO cmp Z2) :
  AscO cmp (Z1 ++ Z2) ∧ (Z1 ++ Z2).Perm (X ++ Y) := by
 have lel : ∀ {l : List β} (_ : AscO cmp l) {i j : Nat} {x y : β}, i ≤ j → l[i]? = some x → l[j]? = some y → x = y ∨ 0 ≤ cmp y x := by
  intro l hl i j x y hij hx hy
  rcases Nat.lt_or_ge i j with h | h
  ·exact .inr (asc_get hl h hx hy)
  ·have : i = j := by omega
   subst this
   rw [hx] at hy
   exact .inl (Option.some.inj hy)
 have tr : ∀ {x y z : β}, (x = y ∨ 0 ≤ cmp y x) → 0 ≤ cmp z y → 0 ≤ cmp z x := by
  rintro x y z (rfl | h) k
  ·exact k
  ·exact O.trans _ _ _ h k
 have tr2 : ∀ {x y z : β}, 0 ≤ cmp y x → (y = z ∨ 0 ≤ cmp z y) → 0 ≤ cmp z x := by
  rintro x y z k (rfl | h)
  ·exact k
  ·exact O.trans _ _ _ k h
 refine ⟨asc_app.2 ⟨s1, s2, fun x hx y hy => ?_⟩, ?_⟩
 ·have hx := e1.mem_iff.1 hx
  have hy := e2.mem_iff.1 hy
  rcases List.mem_append.1 hx with hx | hx <;> rcases List.mem_append.1 hy with hy | hy <;> obtain ⟨i, hi, ei⟩ := mem_take_get hx <;> obtain ⟨j, hj, ej⟩ := mem_drop_get hy
  ·exact asc_get hX (by omega) ei ej
  ·rcases h1 with h1 | h1 | ⟨x1, y1, a, b, c⟩
   ·omega
   ·have := (List.getElem?_eq_some_iff.1 ej).1
    omega
   ·exact tr2 (tr (lel hX (by omega) ei a) c) (lel hY (by omega) b ej)
  ·rcases h2 with h2 | h2 | ⟨x1, y1, a, b, c⟩
   ·have := (List.getElem?_eq_some_iff.1 ej).1
    omega
   ·omega
   ·exact tr2 (tr (lel hY (by omega) ei b) c) (lel hX (by omega) a ej)
  ·exact asc_get hY (by omega) ei ej
 ·refine (e1.append e2).trans ?_
  have : (X.take p ++ Y.take q ++ (X.drop p ++ Y.drop q)).Perm (X.take p ++ X.drop p ++ (Y.take q ++ Y.drop q)) := by
   rw [List.append_assoc, List.append_assoc]
   refine List.Perm.append_left _ ?_
   rw [← List.append_assoc, ← List.append_assoc]
   exact List.Perm.append_right _ List.perm_append_comm
  rw [List.take_append_drop, List.take_append_drop] at this
  exact this

end Go.AW

namespace Go.AW
variable [Draws]
attribute [local irreducible] ACalls
structure Ver where
 rc : Rec
 file : Int
 place : Int

def verC (v : Ver) : List AVal := [.bool v.rc.del, .int .i64 v.rc.seq, .list false 3 (vC v.rc.row), .int .i64 v.file, .int .i64 v.place]

def vsC (l : List Ver) : List (List AVal) := l.map verC

theorem vsC_length (l : List Ver) : (vsC l).length = l.length := List.length_map ..

theorem vsC_append (l m : List Ver) : vsC (l ++ m) = vsC l ++ vsC m := List.map_append ..

theorem vsC_at {l : List Ver} {k : Nat} {x : Ver} (h : l[k]? = some x) : (vsC l)[k]? = some (verC x) := by rw [vsC, List.getElem?_map, h]; rfl

theorem vsC_set (l : List Ver) (k : Nat) (x : Ver) : setEs (vsC l) k (verC x) = vsC (l.set k x) := by rw [setEs_eq, vsC, vsC, List.map_set]

theorem pureEs_vsC (l : List Ver) : pureEs (vsC l) = true := by
 rw [pureEs, List.all_eq_true]
 intro e he
 obtain ⟨x, _, rfl⟩ := List.mem_map.1 he
 rfl

section
variable {α : Type}
theorem sw_i {P Q S : List α} {x y : α} {D : List α} (hD : D = P ++ x :: (Q ++ y :: S)) {i : Nat} (hi : i = P.length) : D[i]? = some x := by
 subst hD hi; simp

theorem sw_j {P Q S : List α} {x y : α} {D : List α} (hD : D = P ++ x :: (Q ++ y :: S)) {j : Nat} (hj : j = P.length + 1 + Q.length) : D[j]? = some y := by
 subst hD hj
 rw [List.getElem?_append_right (by omega), show P.length + 1 + Q.length - P.length = Q.length + 1 from by omega, List.getElem?_cons_succ, List.getElem?_append_right (Nat.le_refl _), Nat.sub_self]
 rfl

theorem sw_ij {P Q S : List α} {x y : α} {D : List α} (hD : D = P ++ x :: (Q ++ y :: S)) {i j : Nat} (hi : i = P.length) (hj : j = P.length + 1 + Q.length) : (D.set i y).set j x = P ++ y :: (Q ++ x :: S) := by
 subst hD hi hj
 rw [List.set_append_right _ _ (Nat.le_refl _), Nat.sub_self, List.set_cons_zero, List.set_append_right _ _ (by omega), show P.length + 1 + Q.length - P.length = Q.length + 1 from by omega, List.set_cons_succ, List.set_append_right _ _ (Nat.le_refl _), Nat.sub_self]
 rfl

theorem sw_ji {P Q S : List α} {x y : α} {D : List α} (hD : D = P ++ x :: (Q ++ y :: S)) {i j : Nat} (hi : i = P.length) (hj : j = P.length + 1 + Q.length) : (D.set j x).set i y = P ++ y :: (Q ++ x :: S) := by
 rw [List.set_comm _ _ (by omega)]; exact sw_ij hD hi hj

theorem take_snoc {l : List α} {k : Nat} {x : α} (h : l[k]? = some x) : l.take (k + 1) = l.take k ++ [x] := by
 obtain ⟨hk, e⟩ := List.getElem?_eq_some_iff.1 h
 rw [← e, List.take_append_getElem hk]

theorem drop_cons {l : List α} {k : Nat} {x : α} (h : l[k]? = some x) : l.drop k = x :: l.drop (k + 1) := by
 obtain ⟨hk, e⟩ := List.getElem?_eq_some_iff.1 h
 rw [← e, ← List.getElem_cons_drop hk]

end
abbrev vO (l : List Ver) : AObj := .arr 5 (vsC l)

theorem hset {H : List AObj} {i0 : Nat} (hi : i0 < H.length) (o : AObj) : (H.set i0 o)[i0]? = some o := by simp [hi]

theorem hset2 (H : List AObj) (i0 : Nat) (o o' : AObj) : (H.set i0 o).set i0 o' = H.set i0 o' := by simp

theorem setOv {H : List AObj} {n : Nat} {o : AObj} {k : List AObj → Prop} {H' : List AObj} (h : H.set n o = H') (hk : k H') : setO H n o k := by rw [setO_eq, h]; exact hk

end Go.AW

namespace Go.AW
variable [Draws]
attribute [local irreducible] ACalls
def gO (l : List Int) (i : Nat) : AObj := .arr 2 [[.list false 1 (iC l), .int .i64 i]]

def nx (l : List Int) (i : Nat) (n : Int) : Int × Nat := if l.length ≤ i ∨ n < 1 then (0, i) else (l.getD i 0 % n, i + 1)

theorem nx_bnd (l : List Int) (i : Nat) (n : Int) (hn : 1 ≤ n) : 0 ≤ (nx l i n).1 ∧ (nx l i n).1 < n := by
 unfold nx
 split
 ·exact ⟨by simp, by simp; omega⟩
 ·exact ⟨Int.emod_nonneg _ (by omega), Int.emod_lt_of_pos _ (by omega)⟩

theorem nx_le (l : List Int) (i : Nat) (n : Int) (h : i ≤ l.length) : (nx l i n).2 ≤ l.length := by
 unfold nx
 split
 ·exact h
 ·rename_i h1
  show i + 1 ≤ _
  omega

set_option maxRecDepth 20000 in
theorem Next_raw {P : Program} (F : F_z3q P) (l : List Int) (i : Nat) (n : Int) (hi : i ≤ l.length) (hl : l.length ≤ 1000000) (hn : n ≤ 1000000) :
  ACalls P F.id [.ptr 0 1 0 0, .int .i64 n] [gO l i] (fun r H' => r = .int .i64 (nx l i n).1 ∧ H' = [gO l (nx l i n).2]) := by
 refine acalls_of_body F.has ?_
 (conv => whnf); refine recA (fun h1 => ?_) (fun h1 => ?_)
 ·simp [iC_length] at h1
  conv => whnf
  rw [nx, if_pos (.inl h1)]
  exact ⟨rfl, rfl⟩
 simp [iC_length] at h1
 (conv => whnf); refine recA (fun h2 => ?_) (fun h2 => ?_)
 ·simp at h2
  conv => whnf
  rw [nx, if_pos (.inr h2)]
  exact ⟨rfl, rfl⟩
 simp at h2
 have e1 : IntKind.i64.wrap ((i : Int) + 1) = ((i + 1 : Nat) : Int) := by rw [wrapI _ (by omega) (by omega)]; omega
 have e2 : IntKind.i64.wrap (IntKind.i64.wrap ((i : Int) + 1) - 1) = i := by rw [e1, wrapI _ (by omega) (by omega)]; omega
 have e3 : (IntKind.i64.wrap (IntKind.i64.wrap ((i : Int) + 1) - 1)).toNat = i := by rw [e2, Int.toNat_natCast]
 have eg : (iC l)[i]? = some [.int .i64 (l.getD i 0)] := iC_get (by omega)
 (conv => whnf); refine And.intro (by rw [e2]; omega) ?_
 (conv => whnf); refine recO (by rw [e3]; exact eg) ?_
 (conv => whnf); refine ⟨_, Place_spec F.z3r (l.getD i 0) n (by omega) (by omega) _, ?_⟩
 conv => whnf
 rw [nx, if_neg (by omega)]
 refine ⟨rfl, ?_⟩
 show [AObj.arr 2 [[.list false 1 (iC l), .int .i64 (IntKind.i64.wrap ((i : Int) + 1))]]] = _
 rw [e1]; rfl

set_option maxRecDepth 20000 in
theorem wColumns_spec {P : Program} (F : F_z3j P) (H : List AObj) :
  ACalls P F.id [.int .i64 0] H (fun r H' => r = .list true 3 (cC [⟨bs [105, 100], 2, false⟩, ⟨bs [110, 97, 109, 101], 3, true⟩, ⟨bs [97, 116], 4, false⟩]) ∧ H' = H) := by
 refine ACalls.pure rfl (acalls_of_body F.has ?_)
 (conv => whnf); refine ACalls.use (Place_spec F.z3r 0 3 (by decide) (by decide) _) ?_
 conv => whnf
 exact .closed _ rfl

def wnames : List ByteArray := [bs [102, 48], bs [102, 49], bs [102, 50], bs [102, 51], bs [102, 52], bs [102, 53], bs [102, 54], bs [102, 55], bs [102, 56], bs [102, 57], bs [103, 48], bs [103, 49]]

def wname (n : Int) : ByteArray := wnames.getD (n % 12).toNat (bs [])

theorem wName_spec {P : Program} (F : F_z3p P) (n : Int) (H : List AObj) :
  ACalls P F.id [.int .i64 n] H (fun r H' => r = .str (wname n) ∧ H' = H) := by
 refine ACalls.pure rfl (acalls_of_body F.has ?_)
 (conv => whnf); refine ACalls.use (Place_spec F.z3r n 12 (by decide) (by decide) _) ?_
 have h1 := Int.emod_nonneg n (show (12 : Int) ≠ 0 by decide)
 have h2 := Int.emod_lt_of_pos n (show (0 : Int) < 12 by decide)
 (conv => whnf); refine And.intro (h1) ?_
 (conv => whnf); refine recO (sC_at (l := wnames) (x := wname n) (by rw [wname, List.getD_eq_getElem?_getD, List.getElem?_eq_getElem (by show (n % 12).toNat < 12; omega)]; rfl)) ?_
 conv => whnf
 exact .closed _ rfl

def inB (l : List ByteArray) (s : ByteArray) : Bool := l.any fun x => eqS x s

theorem In_spec {P : Program} (F : F_z28 P) (l : List ByteArray) (s : ByteArray) (hl : l.length ≤ 1000000) (H : List AObj) :
  ACalls P F.id [.list false 1 (sC l), .str s] H (fun r H' => r = .bool (inB l s) ∧ H' = H) := by
 refine ACalls.pure rfl (acalls_of_body F.has ?_)
 conv => whnf
 refine ⟨fun m ρ H1 => ∃ k : Nat, k + m = l.length ∧ inB l s = inB (l.drop k) s ∧ H1 = [] ∧ Sv 18 [(0, .list false 1 (sC l)), (1, .str s), (5, .int .i64 k)] ρ, l.length, [], ?_, ?_⟩
 ·exact ⟨0, by omega, rfl, rfl, Sv.intro rfl ⟨rfl, rfl, rfl, trivial⟩⟩
 rintro m ρ H1 ⟨k, hk, hr, rfl, d, rfl⟩
 (conv => whnf); refine recA (fun hlt => ?_) (fun hlt => ?_)
 ·simp [sC_length] at hlt
  have hx : l[k]? = some l[k] := List.getElem?_eq_getElem hlt
  replace hr : inB l s = (eqS l[k] s || inB (l.drop (k + 1)) s) := hr.trans (by rw [List.drop_eq_getElem_cons hlt]; rfl)
  (conv => whnf); refine And.intro (by omega) ?_
  (conv => whnf); refine recO (sC_at hx) ?_
  (conv => whnf); refine recA (fun h1 => ?_) (fun h1 => ?_)
  ·replace h1 : eqS l[k] s = true := h1
   conv => whnf
   rw [hr, h1]
   exact pubB rfl
  ·replace h1 : eqS l[k] s = false := h1
   rw [h1] at hr
   conv => whnf
   refine ⟨m - 1, by omega, Gp.none rfl ?_ fun ρ1 h => ⟨k + 1, by omega, hr, rfl, h⟩⟩
   exact ⟨.closed _ rfl, .closed _ rfl, pub_int (wrapI _ (by omega) (by omega)), trivial⟩
 ·simp [sC_length] at hlt
  rw [List.drop_of_length_le (by omega)] at hr
  conv => whnf
  rw [hr]
  exact pubB rfl

theorem Next_spec {P : Program} (F : F_z3q P) (l : List Int) (i : Nat) (n : Int) (hi : i ≤ l.length) (hl : l.length ≤ 1000000) (hn : n ≤ 1000000) (H : List AObj) (id : Nat) (ho : H[id]? = some (gO l i)) :
  ACalls P F.id [.ptr id 1 0 0, .int .i64 n] H (fun r H' => r = .int .i64 (nx l i n).1 ∧ H' = H.set id (gO l (nx l i n).2)) :=
 (Next_raw F l i n hi hl hn).fr ho rfl rfl (.pt (.cl rfl trivial)) (.closed _ rfl)

def inst0 : List Int := [0, 719, 1380, 1400, 1439, 1440, 1500, 2000, 2879, 2880, 4000, 4320, 5000, 7199, 7200, 9000]

def instK : Nat → List Int
 | 0 => inst0
 | k + 1 => (instK k).set k (IntKind.i64.wrap ((instK k).getD k 0 + 144000))

theorem instK_len : ∀ k, (instK k).length = 16
 | 0 => rfl
 | k + 1 => by rw [instK, List.length_set, instK_len k]

def instL : List Int := [144000, 144719, 145380, 145400, 145439, 145440, 145500, 146000, 146879, 146880, 148000, 148320, 149000, 151199, 151200, 153000]

theorem instK_16 : instK 16 = instL := by decide

theorem setEs_iC (l : List Int) (k : Nat) (v : Int) : setEs (iC l) k [.int .i64 v] = iC (l.set k v) := by rw [setEs_eq]; simp [iC]

set_option maxRecDepth 20000 in
theorem Instants_spec {P : Program} (F : F_z3n P) (H : List AObj) :
  ACalls P F.id [] H (fun r H' => r = .list false 1 (iC instL) ∧ H' = H) := by
 refine ACalls.pure rfl (acalls_of_body F.has ?_)
 conv => whnf
 refine ⟨fun m ρ H1 => ∃ k : Nat, k + m = 16 ∧ H1 = [.arr 1 (iC (instK k))] ∧ Sv 17 [(1, .sl 0 16 0 16), (2, .int .i64 k)] ρ, 16, [], ?_, ?_⟩
 ·exact ⟨0, by omega, rfl, Sv.intro rfl ⟨rfl, rfl, trivial⟩⟩
 rintro m ρ H1 ⟨k, hk, rfl, d, rfl⟩
 have hl := instK_len k
 (conv => whnf); refine recT (by rw [iC_length, hl]; rfl) ?_
 (conv => whnf); refine recA (fun hlt => ?_) (fun hlt => ?_)
 ·simp at hlt
  have eg : (iC (instK k))[k]? = some [.int .i64 ((instK k).getD k 0)] := iC_get (by omega)
  have hb : Nat.beq 16 (iC (instK k)).length = true := by rw [iC_length, hl]; rfl
  have hidx : (iC (instK k))[0 + (k : Int).toNat]? = some [.int .i64 ((instK k).getD k 0)] := by rw [Nat.zero_add, Int.toNat_natCast]; exact eg
  (conv => whnf); refine recT (hb) ?_
  (conv => whnf); refine And.intro (⟨by omega, by omega⟩) ?_
  (conv => whnf); refine recT (hb) ?_
  (conv => whnf); refine recO (hidx) ?_
  (conv => whnf); refine recT (hb) ?_
  (conv => whnf); refine And.intro (⟨by omega, by omega⟩) ?_
  (conv => whnf); refine recT (hb) ?_
  (conv => whnf); refine recO (hidx) ?_
  conv => whnf
  refine ⟨m - 1, by omega, Gp.keep rfl ?_ fun ρ1 h => ⟨k + 1, by omega, ?_, h⟩⟩
  ·exact ⟨rfl, intEq (wrapI _ (by omega) (by omega)), trivial⟩
  ·show [AObj.arr 1 (setEs (iC (instK k)) (0 + (k : Int).toNat) [.int .i64 (IntKind.i64.wrap ((instK k).getD k 0 + 144000))])] = _
   rw [Nat.zero_add, Int.toNat_natCast, setEs_iC, instK]
 ·simp at hlt
  have : k = 16 := by omega
  subst this
  rw [instK_16]
  conv => whnf
  exact pubF rfl rfl rfl (pureEs_iC _)

def wtexts : List ByteArray := [bs [], bs [97], bs [98], bs [105, 116, 39, 115], bs [122, 122]]

def wv1 (k : Int) (l : List Int) (i : Nat) : V × Nat :=
 if k = 1 then (⟨1, (nx l i 2).1, bs []⟩, (nx l i 2).2)
 else if k = 2 then (⟨2, (nx l i 7).1 - 1, bs []⟩, (nx l i 7).2)
 else if k = 3 then (⟨3, 0, wtexts.getD (nx l i 5).1.toNat (bs [])⟩, (nx l i 5).2)
 else (⟨4, instL.getD (nx l i 16).1.toNat 0, bs []⟩, (nx l i 16).2)

def wv (c : Col) (l : List Int) (i : Nat) : V × Nat :=
 if c.nul then (if (nx l i 5).1 = 0 then (zV, (nx l i 5).2) else wv1 c.kind l (nx l i 5).2) else wv1 c.kind l i

set_option maxRecDepth 20000 in
theorem Value_raw {P : Program} (F : F_z3v P) (c : Col) (l : List Int) (i : Nat) (hi : i ≤ l.length) (hl : l.length ≤ 1000000) :
  ACalls P F.id [.agg (colC c), .ptr 0 1 0 0] [gO l i] (fun r H' => r = .agg (valC (wv c l i).1) ∧ H' = [gO l (wv c l i).2]) := by
 refine ACalls.gp (Q0 := fun r H' => r = .agg (valC (wv c l i).1) ∧ ∃ x y, H' = [gO l (wv c l i).2, x, y]) ?_ (by
  rintro r H' ⟨rfl, x, y, rfl⟩
  exact Gp.res [0] (by simp) (keepB_one rfl rfl rfl) (H1 := [gO l (wv c l i).2]) ⟨⟨_, rfl, .same _ _ rfl⟩, trivial⟩ (.closed _ rfl) ⟨_, rfl, rfl, rfl⟩)
 refine acalls_of_body F.has ?_
 obtain ⟨nm, kd, nl⟩ := c
 cases nl with
 | true =>
  (conv => whnf); refine ACalls.mono (Next_spec F.z3q l i 5 hi hl (by decide) _ 0 rfl) ?_
  rintro r H' ⟨rfl, rfl⟩
  have hj := nx_le l i 5 hi
  (conv => whnf); refine recA (fun h0 => ?_) (fun h0 => ?_)
  ·simp at h0
   conv => whnf
   rw [wv, if_pos rfl, if_pos h0]
   exact ⟨rfl, _, _, rfl⟩
  simp at h0
  (conv => whnf); refine recA (fun k1 => ?_) (fun k1 => ?_)
  ·simp at k1
   (conv => whnf); refine ACalls.mono (Next_spec F.z3q l ((nx l i 5).2) 2 (hj) hl (by decide) _ 0 rfl) ?_
   rintro r H' ⟨rfl, rfl⟩
   conv => whnf
   rw [wv, if_pos rfl, if_neg h0]
   rw [wv1, if_pos k1]
   exact ⟨rfl, _, _, rfl⟩
  simp at k1
  (conv => whnf); refine recA (fun k2 => ?_) (fun k2 => ?_)
  ·simp at k2
   (conv => whnf); refine ACalls.mono (Next_spec F.z3q l ((nx l i 5).2) 7 (hj) hl (by decide) _ 0 rfl) ?_
   rintro r H' ⟨rfl, rfl⟩
   have hb := nx_bnd l ((nx l i 5).2) 7 (by decide)
   conv => whnf
   rw [wv, if_pos rfl, if_neg h0]
   rw [wv1, if_neg k1, if_pos k2]
   refine ⟨?_, _, _, rfl⟩
   show AVal.agg [.int .i64 2, .int .i64 (IntKind.i64.wrap ((nx l ((nx l i 5).2) 7).1 - 1)), .str (bs [])] = _
   rw [wrapI _ (by omega) (by omega)]
   rfl
  simp at k2
  (conv => whnf); refine recA (fun k3 => ?_) (fun k3 => ?_)
  ·simp at k3
   (conv => whnf); refine ACalls.mono (Next_spec F.z3q l ((nx l i 5).2) 5 (hj) hl (by decide) _ 0 rfl) ?_
   rintro r H' ⟨rfl, rfl⟩
   have hb := nx_bnd l ((nx l i 5).2) 5 (by decide)
   (conv => whnf); refine And.intro (hb.1) ?_
   (conv => whnf); refine recO (sC_at (l := wtexts) (x := wtexts.getD (nx l ((nx l i 5).2) 5).1.toNat (bs [])) (by rw [List.getD_eq_getElem?_getD, List.getElem?_eq_getElem (by show (nx l ((nx l i 5).2) 5).1.toNat < 5; omega)]; rfl)) ?_
   conv => whnf
   rw [wv, if_pos rfl, if_neg h0]
   rw [wv1, if_neg k1, if_neg k2, if_pos k3]
   exact ⟨rfl, _, _, rfl⟩
  simp at k3
  (conv => whnf); refine ACalls.use (Instants_spec F.z3n _) ?_
  (conv => whnf); refine ACalls.mono (Next_spec F.z3q l ((nx l i 5).2) 16 (hj) hl (by decide) _ 0 rfl) ?_
  rintro r H' ⟨rfl, rfl⟩
  have hb := nx_bnd l ((nx l i 5).2) 16 (by decide)
  (conv => whnf); refine And.intro (hb.1) ?_
  (conv => whnf); refine recO (iC_at (l := instL) (x := instL.getD (nx l ((nx l i 5).2) 16).1.toNat 0) (by rw [List.getD_eq_getElem?_getD, List.getElem?_eq_getElem (by show (nx l ((nx l i 5).2) 16).1.toNat < 16; omega)]; rfl)) ?_
  conv => whnf
  rw [wv, if_pos rfl, if_neg h0]
  rw [wv1, if_neg k1, if_neg k2, if_neg k3]
  exact ⟨rfl, _, _, rfl⟩
 | false =>
  (conv => whnf); refine recA (fun k1 => ?_) (fun k1 => ?_)
  ·simp at k1
   (conv => whnf); refine ACalls.mono (Next_spec F.z3q l (i) 2 (hi) hl (by decide) _ 0 rfl) ?_
   rintro r H' ⟨rfl, rfl⟩
   conv => whnf
   rw [wv, if_neg (by simp)]
   rw [wv1, if_pos k1]
   exact ⟨rfl, _, _, rfl⟩
  simp at k1
  (conv => whnf); refine recA (fun k2 => ?_) (fun k2 => ?_)
  ·simp at k2
   (conv => whnf); refine ACalls.mono (Next_spec F.z3q l (i) 7 (hi) hl (by decide) _ 0 rfl) ?_
   rintro r H' ⟨rfl, rfl⟩
   have hb := nx_bnd l (i) 7 (by decide)
   conv => whnf
   rw [wv, if_neg (by simp)]
   rw [wv1, if_neg k1, if_pos k2]
   refine ⟨?_, _, _, rfl⟩
   show AVal.agg [.int .i64 2, .int .i64 (IntKind.i64.wrap ((nx l (i) 7).1 - 1)), .str (bs [])] = _
   rw [wrapI _ (by omega) (by omega)]
   rfl
  simp at k2
  (conv => whnf); refine recA (fun k3 => ?_) (fun k3 => ?_)
  ·simp at k3
   (conv => whnf); refine ACalls.mono (Next_spec F.z3q l (i) 5 (hi) hl (by decide) _ 0 rfl) ?_
   rintro r H' ⟨rfl, rfl⟩
   have hb := nx_bnd l (i) 5 (by decide)
   (conv => whnf); refine And.intro (hb.1) ?_
   (conv => whnf); refine recO (sC_at (l := wtexts) (x := wtexts.getD (nx l (i) 5).1.toNat (bs [])) (by rw [List.getD_eq_getElem?_getD, List.getElem?_eq_getElem (by show (nx l (i) 5).1.toNat < 5; omega)]; rfl)) ?_
   conv => whnf
   rw [wv, if_neg (by simp)]
   rw [wv1, if_neg k1, if_neg k2, if_pos k3]
   exact ⟨rfl, _, _, rfl⟩
  simp at k3
  (conv => whnf); refine ACalls.use (Instants_spec F.z3n _) ?_
  (conv => whnf); refine ACalls.mono (Next_spec F.z3q l (i) 16 (hi) hl (by decide) _ 0 rfl) ?_
  rintro r H' ⟨rfl, rfl⟩
  have hb := nx_bnd l (i) 16 (by decide)
  (conv => whnf); refine And.intro (hb.1) ?_
  (conv => whnf); refine recO (iC_at (l := instL) (x := instL.getD (nx l (i) 16).1.toNat 0) (by rw [List.getD_eq_getElem?_getD, List.getElem?_eq_getElem (by show (nx l (i) 16).1.toNat < 16; omega)]; rfl)) ?_
  conv => whnf
  rw [wv, if_neg (by simp)]
  rw [wv1, if_neg k1, if_neg k2, if_neg k3]
  exact ⟨rfl, _, _, rfl⟩

end Go.AW

namespace Go.AW
variable [Draws]
attribute [local irreducible] ACalls
theorem wv1_le (k : Int) (l : List Int) (i : Nat) (h : i ≤ l.length) : (wv1 k l i).2 ≤ l.length := by
 unfold wv1
 repeat' split
 all_goals exact nx_le _ _ _ h

theorem wv_le (c : Col) (l : List Int) (i : Nat) (h : i ≤ l.length) : (wv c l i).2 ≤ l.length := by
 unfold wv
 repeat' split
 ·exact nx_le _ _ _ h
 ·exact wv1_le _ _ _ (nx_le _ _ _ h)
 ·exact wv1_le _ _ _ h

theorem wValue_spec {P : Program} (F : F_z3v P) (c : Col) (l : List Int) (i : Nat) (hi : i ≤ l.length) (hl : l.length ≤ 1000000) (H : List AObj) (id : Nat) (ho : H[id]? = some (gO l i)) :
  ACalls P F.id [.agg (colC c), .ptr id 1 0 0] H (fun r H' => r = .agg (valC (wv c l i).1) ∧ H' = H.set id (gO l (wv c l i).2)) :=
 (Value_raw F c l i hi hl).fr ho rfl rfl (.cl rfl (.pt trivial)) (.closed _ rfl)

def wr (l : List Int) : List Col → Nat → List V → List V × Nat
 | [], i, out => (out, i)
 | c :: cs, i, out => wr l cs (wv c l i).2 (out ++ [(wv c l i).1])

theorem wr_len (l : List Int) : ∀ (cs : List Col) (i : Nat) (out : List V), (wr l cs i out).1.length = out.length + cs.length
 | [], _, _ => rfl
 | c :: cs, i, out => by rw [wr, wr_len l cs]; simp; omega

theorem wr_le (l : List Int) : ∀ (cs : List Col) (i : Nat) (out : List V), i ≤ l.length → (wr l cs i out).2 ≤ l.length
 | [], _, _, h => h
 | c :: cs, i, out, h => by rw [wr]; exact wr_le l cs _ _ (wv_le c l i h)

set_option maxRecDepth 20000 in
theorem Row_rawG {P : Program} (F : F_z3t P) (cs : List Col) (hc : cs ≠ []) (hcl : cs.length ≤ 1000) (l : List Int) (i : Nat) (hi : i ≤ l.length) (hl : l.length ≤ 1000000) :
  ACalls P F.id [.list false 3 (cC cs), .ptr 0 1 0 0] [gO l i] (fun r H' => r = .sl 1 cs.length 0 cs.length ∧ H' = [gO l (wr l cs i []).2, .arr 3 (vC (wr l cs i []).1)]) := by
 refine acalls_of_body F.has ?_
 conv => whnf
 refine ⟨fun m ρ H1 => ∃ (k j : Nat) (out : List V), k + m = cs.length ∧ j ≤ l.length ∧ out.length = k ∧ wr l (cs.drop k) j out = wr l cs i [] ∧
  ((k = 0 ∧ H1 = [gO l j] ∧ Sv 23 [(0, .list false 3 (cC cs)), (1, .ptr 0 1 0 0), (5, .nil), (6, .int .i64 0)] ρ) ∨
  (0 < k ∧ H1 = [gO l j, .arr 3 (vC out)] ∧ Sv 23 [(0, .list false 3 (cC cs)), (1, .ptr 0 1 0 0), (5, .sl 1 k 0 k), (6, .int .i64 k)] ρ)), cs.length, [], ?_, ?_⟩
 ·exact ⟨0, i, [], by omega, hi, rfl, rfl, .inl ⟨rfl, rfl, Sv.intro rfl ⟨rfl, rfl, rfl, rfl, trivial⟩⟩⟩
 rintro m ρ H1 ⟨k, j, out, hk, hj, ho, hr, ⟨rfl, rfl, d, rfl⟩ | ⟨hk0, rfl, d, rfl⟩⟩
 ·have hlt0 : 0 < cs.length := List.length_pos_iff.2 hc
  (conv => whnf); refine recT (by rw [cC_length]; simp; omega) ?_
  have hx : cs[0]? = some cs[0] := List.getElem?_eq_getElem hlt0
  have hdr : cs.drop 0 = cs[0] :: cs.drop 1 := List.drop_eq_getElem_cons hlt0
  have ho0 : out = [] := List.eq_nil_of_length_eq_zero (by omega)
  subst ho0
  rw [hdr, wr] at hr
  (conv => whnf); refine And.intro (by omega) ?_
  (conv => whnf); refine recO (cC_at hx) ?_
  (conv => whnf); refine ACalls.mono (wValue_spec F.z3v cs[0] l j hj hl _ 0 rfl) ?_
  rintro r H' ⟨rfl, rfl⟩
  (conv => whnf); refine And.intro (⟨roomMul (by simp) (by omega), roomB_le (by simp)⟩) ?_
  conv => whnf
  refine ⟨m - 1, by omega, Gp.keep (live := [(0, .list false 3 (cC cs)), (1, .ptr 0 1 0 0), (5, .sl 1 1 0 1), (6, .int .i64 (1 : Nat))]) rfl ?_ fun ρ1 h => ⟨1, (wv cs[0] l j).2, [(wv cs[0] l j).1], by omega, wv_le _ _ _ hj, rfl, hr, .inr ⟨by omega, rfl, h⟩⟩⟩
  exact ⟨rfl, rfl, rfl, rfl, trivial⟩
 ·(conv => whnf); refine recA (fun hlt => ?_) (fun hlt => ?_)
  ·simp [cC_length] at hlt
   have hx : cs[k]? = some cs[k] := List.getElem?_eq_getElem hlt
   rw [List.drop_eq_getElem_cons hlt, wr] at hr
   (conv => whnf); refine And.intro (by omega) ?_
   (conv => whnf); refine recO (cC_at hx) ?_
   (conv => whnf); refine ACalls.mono (wValue_spec F.z3v cs[k] l j hj hl _ 0 rfl) ?_
   rintro r H' ⟨rfl, rfl⟩
   (conv => whnf); refine recT (by rw [vC_length, ho]; exact Nat.beq_refl _) ?_
   (conv => whnf); refine And.intro (⟨roomMul (by simp; omega) (by omega), roomB_le (by simp; omega), rfl, by rw [vC_length, ho]⟩) ?_
   conv => whnf
   have hcn : vC out ++ [valC (wv cs[k] l j).1] = vC (out ++ [(wv cs[k] l j).1]) := by rw [vC_append]; rfl
   have hln : (vC out ++ [valC (wv cs[k] l j).1]).length = k + 1 := by rw [hcn, vC_length]; simp [ho]
   refine ⟨m - 1, by omega, Gp.keep (live := [(0, .list false 3 (cC cs)), (1, .ptr 0 1 0 0), (5, .sl 1 (k + 1) 0 (k + 1)), (6, .int .i64 (k + 1 : Nat))]) rfl ?_ fun ρ1 h => ⟨k + 1, (wv cs[k] l j).2, out ++ [(wv cs[k] l j).1], by omega, wv_le _ _ _ hj, by simp [ho], hr, .inr ⟨by omega, by rw [← hcn]; rfl, h⟩⟩⟩
   exact ⟨rfl, rfl, slEq hln hln, intEq (wrapI _ (by omega) (by omega)), trivial⟩
  ·simp [cC_length] at hlt
   have hkl : k = cs.length := by omega
   rw [List.drop_of_length_le (by omega), wr] at hr
   conv => whnf
   subst hkl
   rw [← hr]
   exact ⟨rfl, rfl⟩

end Go.AW

namespace Go.AW
variable [Draws]
attribute [local irreducible] ACalls
theorem wRow_spec {P : Program} (F : F_z3t P) (cs : List Col) (hc : cs ≠ []) (hcl : cs.length ≤ 1000) (l : List Int) (i : Nat) (hi : i ≤ l.length) (hl : l.length ≤ 1000000) (H : List AObj) (id : Nat) (ho : H[id]? = some (gO l i)) :
  ACalls P F.id [.list false 3 (cC cs), .ptr id 1 0 0] H (fun r H' => r = .sl H.length cs.length 0 cs.length ∧ H' = H.set id (gO l (wr l cs i []).2) ++ [.arr 3 (vC (wr l cs i []).1)]) := by
 refine (Row_rawG F cs hc hcl l i hi hl).frG (G := [.arr 3 (vC (wr l cs i []).1)]) ho rfl rfl ?_ (.cl rfl (.pt trivial)) ?_
 ·intro x hx
  rw [List.mem_singleton.1 hx]
  exact pureEs_vC _
 ·exact .sl 1 cs.length 0 cs.length

structure Src where
 cols : List Col
 key : List ByteArray
 late : Int
 reopen : Int

def srcX (b c : Bool) (s : Src) : List AVal := [.str (bs [115, 104, 111, 112, 46, 111, 114, 100, 101, 114, 115]), .list b 3 (cC s.cols), .list c 1 (sC s.key), .str (bs [97, 116]), .str (bs [122]), .int .i64 s.late, .int .i64 s.reopen]

def srcC (s : Src) : List AVal := srcX false false s

def wcols : List Col := [⟨bs [105, 100], 2, false⟩, ⟨bs [110, 97, 109, 101], 3, true⟩, ⟨bs [97, 116], 4, false⟩]

def wpart (n : Int) : Bool := (IntKind.i64.wrap (n.tdiv 16)) % 2 == 1

def wsrc (n : Int) : Src := ⟨if wpart n then wcols ++ [⟨bs [112, 97, 114, 116], 3, false⟩] else wcols, if wpart n then [bs [112, 97, 114, 116], bs [105, 100]] else [bs [105, 100]],
 [0, 60, 1440, 3000].getD (n % 4).toNat 0, [0, 100, 1500, 5000].getD ((IntKind.i64.wrap (n.tdiv 4)) % 4).toNat 0⟩

set_option maxRecDepth 20000 in
theorem Source_raw {P : Program} (F : F_z3u P) (n : Int) (H : List AObj) :
  ACalls P F.id [.int .i64 n] H (fun r H' => r = .agg (srcX (!wpart n) true (wsrc n)) ∧ H' = H) := by
 have b4 : ∀ x : Int, 0 ≤ x % 4 ∧ x % 4 < 4 := fun x => ⟨Int.emod_nonneg _ (by decide), Int.emod_lt_of_pos _ (by decide)⟩
 refine ACalls.pure rfl (acalls_of_body F.has ?_)
 have o1 : (iC [0, 60, 1440, 3000])[(n % 4).toNat]? = some [.int .i64 ([0, 60, 1440, 3000].getD (n % 4).toNat 0)] := iC_at (by have := b4 n; rw [List.getD_eq_getElem?_getD, List.getElem?_eq_getElem (by show (n % 4).toNat < 4; omega)]; rfl)
 have o2 : (iC [0, 100, 1500, 5000])[((IntKind.i64.wrap (n.tdiv 4)) % 4).toNat]? = some [.int .i64 ([0, 100, 1500, 5000].getD ((IntKind.i64.wrap (n.tdiv 4)) % 4).toNat 0)] := iC_at (by have := b4 (IntKind.i64.wrap (n.tdiv 4)); rw [List.getD_eq_getElem?_getD, List.getElem?_eq_getElem (by show ((IntKind.i64.wrap (n.tdiv 4)) % 4).toNat < 4; omega)]; rfl)
 (conv => whnf); refine ⟨_, wColumns_spec F.z3j _, ?_⟩
 (conv => whnf); refine ⟨_, Place_spec F.z3r n 4 (by decide) (by decide) _, ?_⟩
 (conv => whnf); refine And.intro ((b4 n).1) ?_
 (conv => whnf); refine recO (o1) ?_
 (conv => whnf); refine And.intro (by decide) ?_
 (conv => whnf); refine ⟨_, Place_spec F.z3r (IntKind.i64.wrap (n.tdiv 4)) 4 (by decide) (by decide) _, ?_⟩
 (conv => whnf); refine And.intro ((b4 _).1) ?_
 (conv => whnf); refine recO (o2) ?_
 (conv => whnf); refine And.intro (rfl) ?_
 (conv => whnf); refine And.intro (by (conv => whnf); refine And.intro (b4 _).1 ?_; (conv => whnf); refine recO o2 ?_; rfl) ?_
 (conv => whnf); refine And.intro (⟨_, Place_spec F.z3r (IntKind.i64.wrap (n.tdiv 4)) 4 (by decide) (by decide) _, rfl⟩) ?_
 (conv => whnf); refine And.intro (rfl) ?_
 (conv => whnf); refine And.intro (by (conv => whnf); refine And.intro (b4 _).1 ?_; (conv => whnf); refine recO o1 ?_; rfl) ?_
 (conv => whnf); refine And.intro (⟨_, Place_spec F.z3r n 4 (by decide) (by decide) _, rfl⟩) ?_
 (conv => whnf); refine And.intro (⟨_, wColumns_spec F.z3j _, rfl⟩) ?_
 (conv => whnf); refine And.intro (by decide) ?_
 (conv => whnf); refine ACalls.use (Place_spec F.z3r (IntKind.i64.wrap (n.tdiv 16)) 2 (by decide) (by decide) _) ?_
 (conv => whnf); refine recA (fun h1 => ?_) (fun h1 => ?_)
 ·replace h1 : wpart n = true := h1
  (conv => whnf); refine And.intro (by decide) ?_
  conv => whnf
  rw [h1, wsrc, h1]
  refine .agg _ _ rfl fun i v r h2 h3 => ?_
  rcases i with _ | _ | _ | _ | _ | _ | _ | i
  ·cases h2; cases h3; exact .closed _ rfl
  ·cases h2; cases h3
   exact pubFI (by simp) rfl rfl rfl (pureEs_cC _)
  ·cases h2; cases h3; exact .closed _ rfl
  ·cases h2; cases h3; exact .closed _ rfl
  ·cases h2; cases h3; exact .closed _ rfl
  ·cases h2; cases h3; exact .closed _ rfl
  ·cases h2; cases h3; exact .closed _ rfl
  ·simp at h2
 ·replace h1 : wpart n = false := h1
  conv => whnf
  rw [h1, wsrc, h1]
  exact .closed _ rfl

theorem Source_spec {P : Program} (F : F_z3u P) (n : Int) (H : List AObj) :
  ACalls P F.id [.int .i64 n] H (fun r H' => r = .agg (srcC (wsrc n)) ∧ H' = H) :=
 ACalls.weakR (Source_raw F n H) (by
  rintro r H' ⟨rfl, rfl⟩
  refine ⟨.agg (srcC (wsrc n)), .agg _ _ rfl fun i a b h1 h2 => ?_, rfl, rfl⟩
  rcases i with _ | _ | _ | _ | _ | _ | _ | i
  ·cases h1; cases h2; exact .refl _
  ·cases h1; cases h2; exact .list _ _ _ _ (by simp)
  ·cases h1; cases h2; exact .list _ _ _ _ (by simp)
  ·cases h1; cases h2; exact .refl _
  ·cases h1; cases h2; exact .refl _
  ·cases h1; cases h2; exact .refl _
  ·cases h1; cases h2; exact .refl _
  ·simp [srcX] at h1)

end Go.AW

namespace Go.AW
variable [Draws]
attribute [local irreducible] ACalls
def sAt : ByteArray := bs [97, 116]

def keepC (key : List ByteArray) (c : Col) : Bool := inB key c.name || eqS c.name sAt

def delR (key : List ByteArray) : List Col → List V → List V
 | c :: cs, v :: vs => (if keepC key c then v else zV) :: delR key cs vs
 | _, _ => []

theorem delR_len (key : List ByteArray) : ∀ (cs : List Col) (vs : List V), vs.length = cs.length → (delR key cs vs).length = cs.length
 | [], [], _ => rfl
 | [], _ :: _, h => by simp at h
 | _ :: _, [], h => by simp at h
 | c :: cs, v :: vs, h => by rw [delR, List.length_cons, List.length_cons, delR_len key cs vs (by simpa using h)]

def delK (key : List ByteArray) (cs : List Col) (vs : List V) (k : Nat) : List V := delR key (cs.take k) (vs.take k)

theorem delK_succ (key : List ByteArray) : ∀ (cs : List Col) (vs : List V) (k : Nat) (c : Col) (v : V), cs[k]? = some c → vs[k]? = some v → delK key cs vs (k + 1) = delK key cs vs k ++ [if keepC key c then v else zV]
 | [], _, _, _, _, h, _ => by simp at h
 | _ :: _, [], _, _, _, _, h => by simp at h
 | c0 :: cs, v0 :: vs, 0, c, v, h1, h2 => by
  simp at h1 h2; subst h1 h2
  simp [delK, delR]
 | c0 :: cs, v0 :: vs, k + 1, c, v, h1, h2 => by
  have := delK_succ key cs vs k c v (by simpa using h1) (by simpa using h2)
  simp only [delK, List.take_succ_cons, delR] at this ⊢
  rw [this]; rfl

theorem delK_len (key : List ByteArray) (cs : List Col) (vs : List V) (k : Nat) (h : vs.length = cs.length) (hk : k ≤ cs.length) : (delK key cs vs k).length = k := by
 rw [delK, delR_len key _ _ (by simp; omega)]; simp; omega

def delO (s : Src) (r : Rec) (c : AVal) : List AObj := [.arr 7 [srcC s], .arr 3 [recC r], .arr 3 [[.bool false, .int .i64 0, .nil]], .arr 3 [[.bool true, .int .i64 r.seq, c]]]

theorem obR {H : List AObj} {ids : List Nat} {a : Bool} {b : Int} {c c1 : AVal} (h : Pub H 0 ids c c1) (hc : c1.isCell = true) : ObP H ids (.arr 3 [[.bool a, .int .i64 b, c]]) (.arr 3 [[.bool a, .int .i64 b, c1]]) := by
 refine .map 3 _ _ rfl (fun i e e1 h1 h2 => ?_) (fun i j e e1 d d1 h1 h2 h3 h4 => ?_)
 ·rcases i with _ | i
  ·cases h1; cases h2; rfl
  ·simp at h1
 ·rcases i with _ | i
  ·cases h1; cases h2
   rcases j with _ | _ | _ | j
   ·cases h3; cases h4; exact ⟨.closed _ rfl, rfl⟩
   ·cases h3; cases h4; exact ⟨.closed _ rfl, rfl⟩
   ·cases h3; cases h4; exact ⟨h, hc⟩
   ·simp at h3
  ·simp at h1

set_option maxRecDepth 20000 in
theorem Deletion_spec {P : Program} (F : F_z3k P) (s : Src) (r : Rec) (hr : r.row.length = s.cols.length) (hc : s.cols ≠ []) (hl : s.cols.length ≤ 1000) (hk : s.key.length ≤ 1000) (H : List AObj) :
  ACalls P F.id [.agg (srcC s), .agg (recC r)] H (fun x H' => x = .agg (recC ⟨true, r.seq, delR s.key s.cols r.row⟩) ∧ H' = H) := by
 refine ACalls.pure (by simp [AVal.closed, srcC, srcX, recC, AVal.isPure]) (acalls_of_body F.has ?_)
 have ps : pureEs [srcC s] = true := by simp [pureEs, srcC, srcX, AVal.isPure]
 have pr : pureEs [recC r] = true := by simp [pureEs, recC, AVal.isPure]
 conv => whnf
 refine ⟨fun m ρ H1 => ∃ k : Nat, k + m = s.cols.length ∧ ((k = 0 ∧ H1 = delO s r .nil) ∨ (0 < k ∧ H1 = delO s r (.sl 4 k 0 k) ++ [.arr 3 (vC (delK s.key s.cols r.row k))])) ∧
  Sv 51 [(2, .ptr 0 1 0 0), (3, .ptr 1 1 0 0), (4, .ptr 2 1 0 0), (5, .ptr 3 1 0 0), (6, .int .i64 k)] ρ, s.cols.length, [], ?_, ?_⟩
 ·exact ⟨0, by omega, .inl ⟨rfl, rfl⟩, Sv.intro rfl ⟨rfl, rfl, rfl, rfl, rfl, trivial⟩⟩
 rintro m ρ H1 ⟨k, hkm, ⟨rfl, rfl⟩ | ⟨hk0, rfl⟩, d, rfl⟩
 ·have hlt : 0 < s.cols.length := List.length_pos_iff.2 hc
  have hx : s.cols[0]? = some s.cols[0] := List.getElem?_eq_getElem hlt
  have hv : r.row[0]? = some r.row[0] := List.getElem?_eq_getElem (by omega)
  have hd0 := delK_succ s.key s.cols r.row 0 _ _ hx hv
  (conv => whnf); refine recT (by simp [cC_length]; omega) ?_
  (conv => whnf); refine And.intro (by omega) ?_
  (conv => whnf); refine recO (cC_at hx) ?_
  (conv => whnf); refine ⟨_, In_spec F.z28 s.key s.cols[0].name (by omega) _, ?_⟩
  (conv => whnf); refine recA (fun hin => ?_) (fun hin => ?_)
  ·have hkp : keepC s.key s.cols[0] = true := by rw [keepC, hin]; rfl
   have hd1 : delK s.key s.cols r.row 1 = [r.row[0]] := by rw [hd0, hkp]; rfl
   (conv => whnf); refine And.intro (by omega) ?_
   (conv => whnf); refine recO (vC_at hv) ?_
   (conv => whnf); refine And.intro (⟨roomMul (by simp) (by omega), roomB_le (by simp)⟩) ?_
   conv => whnf
   refine ⟨m - 1, by omega, Gp.some (n := 51) (live := [(2, .ptr 0 1 0 0), (3, .ptr 1 1 0 0), (4, .ptr 2 1 0 0), (5, .ptr 3 1 0 0), (6, .int .i64 (1 : Nat))]) (H1 := [.arr 7 [srcC s], .arr 3 [recC r], .arr 3 [[.bool false, .int .i64 0, .nil]], .arr 3 [[.bool true, .int .i64 r.seq, .sl 4 1 0 1]], .arr 3 [valC (r.row[0])]]) [0, 1, 2, 3, 5] (by simp)
    ⟨⟨_, rfl, .same _ _ ps⟩, ⟨_, rfl, .same _ _ pr⟩, ⟨_, rfl, .same _ _ rfl⟩, ⟨_, rfl, obR (.keep 5 _ _ _ 4 rfl) rfl⟩, ⟨_, rfl, .same _ _ rfl⟩, trivial⟩ rfl ?_ fun ρ1 h => ⟨1, by omega, .inr ⟨by omega, ?_⟩, h⟩⟩
   ·exact ⟨.keepP 0 1 0 0 0 rfl, .keepP 1 1 0 0 1 rfl, .keepP 2 1 0 0 2 rfl, .keepP 3 1 0 0 3 rfl, .closed _ rfl, trivial⟩
   ·rw [hd1]; rfl
  ·(conv => whnf); refine And.intro (by omega) ?_
   (conv => whnf); refine recO (cC_at hx) ?_
   (conv => whnf); refine recA (fun heq => ?_) (fun heq => ?_)
   ·have hkp : keepC s.key s.cols[0] = true := by rw [keepC, hin]; exact heq
    have hd1 : delK s.key s.cols r.row 1 = [r.row[0]] := by rw [hd0, hkp]; rfl
    (conv => whnf); refine And.intro (by omega) ?_
    (conv => whnf); refine recO (vC_at hv) ?_
    (conv => whnf); refine And.intro (⟨roomMul (by simp) (by omega), roomB_le (by simp)⟩) ?_
    conv => whnf
    refine ⟨m - 1, by omega, Gp.some (n := 51) (live := [(2, .ptr 0 1 0 0), (3, .ptr 1 1 0 0), (4, .ptr 2 1 0 0), (5, .ptr 3 1 0 0), (6, .int .i64 (1 : Nat))]) (H1 := [.arr 7 [srcC s], .arr 3 [recC r], .arr 3 [[.bool false, .int .i64 0, .nil]], .arr 3 [[.bool true, .int .i64 r.seq, .sl 4 1 0 1]], .arr 3 [valC (r.row[0])]]) [0, 1, 2, 3, 5] (by simp)
     ⟨⟨_, rfl, .same _ _ ps⟩, ⟨_, rfl, .same _ _ pr⟩, ⟨_, rfl, .same _ _ rfl⟩, ⟨_, rfl, obR (.keep 5 _ _ _ 4 rfl) rfl⟩, ⟨_, rfl, .same _ _ rfl⟩, trivial⟩ rfl ?_ fun ρ1 h => ⟨1, by omega, .inr ⟨by omega, ?_⟩, h⟩⟩
    ·exact ⟨.keepP 0 1 0 0 0 rfl, .keepP 1 1 0 0 1 rfl, .keepP 2 1 0 0 2 rfl, .keepP 3 1 0 0 3 rfl, .closed _ rfl, trivial⟩
    ·rw [hd1]; rfl
   ·have hkp : keepC s.key s.cols[0] = false := by rw [keepC, hin]; exact heq
    have hd1 : delK s.key s.cols r.row 1 = [zV] := by rw [hd0, hkp]; rfl
    (conv => whnf); refine And.intro (⟨roomMul (by simp) (by omega), roomB_le (by simp)⟩) ?_
    conv => whnf
    refine ⟨m - 1, by omega, Gp.some (n := 51) (live := [(2, .ptr 0 1 0 0), (3, .ptr 1 1 0 0), (4, .ptr 2 1 0 0), (5, .ptr 3 1 0 0), (6, .int .i64 (1 : Nat))]) (H1 := [.arr 7 [srcC s], .arr 3 [recC r], .arr 3 [[.bool false, .int .i64 0, .nil]], .arr 3 [[.bool true, .int .i64 r.seq, .sl 4 1 0 1]], .arr 3 [valC (zV)]]) [0, 1, 2, 3, 5] (by simp)
     ⟨⟨_, rfl, .same _ _ ps⟩, ⟨_, rfl, .same _ _ pr⟩, ⟨_, rfl, .same _ _ rfl⟩, ⟨_, rfl, obR (.keep 5 _ _ _ 4 rfl) rfl⟩, ⟨_, rfl, .same _ _ rfl⟩, trivial⟩ rfl ?_ fun ρ1 h => ⟨1, by omega, .inr ⟨by omega, ?_⟩, h⟩⟩
    ·exact ⟨.keepP 0 1 0 0 0 rfl, .keepP 1 1 0 0 1 rfl, .keepP 2 1 0 0 2 rfl, .keepP 3 1 0 0 3 rfl, .closed _ rfl, trivial⟩
    ·rw [hd1]; rfl
 ·(conv => whnf); refine recA (fun hlt => ?_) (fun hlt => ?_)
  ·simp [cC_length] at hlt
   have hx : s.cols[k]? = some s.cols[k] := List.getElem?_eq_getElem hlt
   have hv : r.row[k]? = some (r.row[k]'(by omega)) := List.getElem?_eq_getElem (by omega)
   have hd0 := delK_succ s.key s.cols r.row k _ _ hx hv
   have hdl := delK_len s.key s.cols r.row k hr (by omega)
   (conv => whnf); refine And.intro (by omega) ?_
   (conv => whnf); refine recO (cC_at hx) ?_
   (conv => whnf); refine ⟨_, In_spec F.z28 s.key s.cols[k].name (by omega) _, ?_⟩
   (conv => whnf); refine recA (fun hin => ?_) (fun hin => ?_)
   ·have hkp : keepC s.key s.cols[k] = true := by rw [keepC, hin]; rfl
    have hd1v : vC (delK s.key s.cols r.row (k + 1)) = vC (delK s.key s.cols r.row k) ++ [valC (r.row[k]'(by omega))] := by rw [hd0, hkp, vC_append]; rfl
    (conv => whnf); refine And.intro (by omega) ?_
    (conv => whnf); refine recO (vC_at hv) ?_
    (conv => whnf); refine recT (by rw [vC_length, hdl]; exact Nat.beq_refl _) ?_
    (conv => whnf); refine And.intro (⟨roomMul (by simp; omega) (by omega), roomB_le (by simp; omega), rfl, by rw [vC_length, hdl]⟩) ?_
    conv => whnf
    have hln : (vC (delK s.key s.cols r.row k) ++ [valC ((r.row[k]'(by omega)))]).length = k + 1 := by simp [vC_length, hdl]
    refine ⟨m - 1, by omega, Gp.some (n := 51) (live := [(2, .ptr 0 1 0 0), (3, .ptr 1 1 0 0), (4, .ptr 2 1 0 0), (5, .ptr 3 1 0 0), (6, .int .i64 (k + 1 : Nat))]) (H1 := [.arr 7 [srcC s], .arr 3 [recC r], .arr 3 [[.bool false, .int .i64 0, .nil]], .arr 3 [[.bool true, .int .i64 r.seq, .sl 4 (vC (delK s.key s.cols r.row k) ++ [valC ((r.row[k]'(by omega)))]).length 0 (vC (delK s.key s.cols r.row k) ++ [valC ((r.row[k]'(by omega)))]).length]], .arr 3 (vC (delK s.key s.cols r.row k) ++ [valC ((r.row[k]'(by omega)))])]) [0, 1, 2, 3, 4] (by simp)
     ⟨⟨_, rfl, .same _ _ ps⟩, ⟨_, rfl, .same _ _ pr⟩, ⟨_, rfl, .same _ _ rfl⟩, ⟨_, rfl, obR (.keep 4 _ _ _ 4 rfl) rfl⟩, ⟨_, rfl, .same _ _ ((congrArg pureEs hd1v.symm).trans (pureEs_vC _))⟩, trivial⟩ rfl ?_ fun ρ1 h => ⟨k + 1, by omega, .inr ⟨by omega, ?_⟩, h⟩⟩
    ·exact ⟨.keepP 0 1 0 0 0 rfl, .keepP 1 1 0 0 1 rfl, .keepP 2 1 0 0 2 rfl, .keepP 3 1 0 0 3 rfl, pub_int (wrapI _ (by omega) (by omega)), trivial⟩
    ·rw [hln, hd1v]; rfl
   ·(conv => whnf); refine And.intro (by omega) ?_
    (conv => whnf); refine recO (cC_at hx) ?_
    (conv => whnf); refine recA (fun heq => ?_) (fun heq => ?_)
    ·have hkp : keepC s.key s.cols[k] = true := by rw [keepC, hin]; exact heq
     have hd1v : vC (delK s.key s.cols r.row (k + 1)) = vC (delK s.key s.cols r.row k) ++ [valC (r.row[k]'(by omega))] := by rw [hd0, hkp, vC_append]; rfl
     (conv => whnf); refine And.intro (by omega) ?_
     (conv => whnf); refine recO (vC_at hv) ?_
     (conv => whnf); refine recT (by rw [vC_length, hdl]; exact Nat.beq_refl _) ?_
     (conv => whnf); refine And.intro (⟨roomMul (by simp; omega) (by omega), roomB_le (by simp; omega), rfl, by rw [vC_length, hdl]⟩) ?_
     conv => whnf
     have hln : (vC (delK s.key s.cols r.row k) ++ [valC ((r.row[k]'(by omega)))]).length = k + 1 := by simp [vC_length, hdl]
     refine ⟨m - 1, by omega, Gp.some (n := 51) (live := [(2, .ptr 0 1 0 0), (3, .ptr 1 1 0 0), (4, .ptr 2 1 0 0), (5, .ptr 3 1 0 0), (6, .int .i64 (k + 1 : Nat))]) (H1 := [.arr 7 [srcC s], .arr 3 [recC r], .arr 3 [[.bool false, .int .i64 0, .nil]], .arr 3 [[.bool true, .int .i64 r.seq, .sl 4 (vC (delK s.key s.cols r.row k) ++ [valC ((r.row[k]'(by omega)))]).length 0 (vC (delK s.key s.cols r.row k) ++ [valC ((r.row[k]'(by omega)))]).length]], .arr 3 (vC (delK s.key s.cols r.row k) ++ [valC ((r.row[k]'(by omega)))])]) [0, 1, 2, 3, 4] (by simp)
      ⟨⟨_, rfl, .same _ _ ps⟩, ⟨_, rfl, .same _ _ pr⟩, ⟨_, rfl, .same _ _ rfl⟩, ⟨_, rfl, obR (.keep 4 _ _ _ 4 rfl) rfl⟩, ⟨_, rfl, .same _ _ ((congrArg pureEs hd1v.symm).trans (pureEs_vC _))⟩, trivial⟩ rfl ?_ fun ρ1 h => ⟨k + 1, by omega, .inr ⟨by omega, ?_⟩, h⟩⟩
     ·exact ⟨.keepP 0 1 0 0 0 rfl, .keepP 1 1 0 0 1 rfl, .keepP 2 1 0 0 2 rfl, .keepP 3 1 0 0 3 rfl, pub_int (wrapI _ (by omega) (by omega)), trivial⟩
     ·rw [hln, hd1v]; rfl
    ·have hkp : keepC s.key s.cols[k] = false := by rw [keepC, hin]; exact heq
     have hd1v : vC (delK s.key s.cols r.row (k + 1)) = vC (delK s.key s.cols r.row k) ++ [valC zV] := by rw [hd0, hkp, vC_append]; rfl
     (conv => whnf); refine recT (by rw [vC_length, hdl]; exact Nat.beq_refl _) ?_
     (conv => whnf); refine And.intro (⟨roomMul (by simp; omega) (by omega), roomB_le (by simp; omega), rfl, by rw [vC_length, hdl]⟩) ?_
     conv => whnf
     have hln : (vC (delK s.key s.cols r.row k) ++ [valC (zV)]).length = k + 1 := by simp [vC_length, hdl]
     refine ⟨m - 1, by omega, Gp.some (n := 51) (live := [(2, .ptr 0 1 0 0), (3, .ptr 1 1 0 0), (4, .ptr 2 1 0 0), (5, .ptr 3 1 0 0), (6, .int .i64 (k + 1 : Nat))]) (H1 := [.arr 7 [srcC s], .arr 3 [recC r], .arr 3 [[.bool false, .int .i64 0, .nil]], .arr 3 [[.bool true, .int .i64 r.seq, .sl 4 (vC (delK s.key s.cols r.row k) ++ [valC (zV)]).length 0 (vC (delK s.key s.cols r.row k) ++ [valC (zV)]).length]], .arr 3 (vC (delK s.key s.cols r.row k) ++ [valC (zV)])]) [0, 1, 2, 3, 4] (by simp)
      ⟨⟨_, rfl, .same _ _ ps⟩, ⟨_, rfl, .same _ _ pr⟩, ⟨_, rfl, .same _ _ rfl⟩, ⟨_, rfl, obR (.keep 4 _ _ _ 4 rfl) rfl⟩, ⟨_, rfl, .same _ _ ((congrArg pureEs hd1v.symm).trans (pureEs_vC _))⟩, trivial⟩ rfl ?_ fun ρ1 h => ⟨k + 1, by omega, .inr ⟨by omega, ?_⟩, h⟩⟩
     ·exact ⟨.keepP 0 1 0 0 0 rfl, .keepP 1 1 0 0 1 rfl, .keepP 2 1 0 0 2 rfl, .keepP 3 1 0 0 3 rfl, pub_int (wrapI _ (by omega) (by omega)), trivial⟩
     ·rw [hln, hd1v]; rfl
  ·simp [cC_length] at hlt
   have hkl : k = s.cols.length := by omega
   have hd2 : delK s.key s.cols r.row k = delR s.key s.cols r.row := by rw [delK, hkl, List.take_length, ← hr, List.take_length]
   have hdl := delK_len s.key s.cols r.row k hr (by omega)
   conv => whnf
   refine .agg _ _ rfl fun i v x h1 h2 => ?_
   rcases i with _ | _ | _ | i
   ·cases h1; cases h2; exact .closed _ rfl
   ·cases h1; cases h2; exact .closed _ rfl
   ·cases h1; cases h2
    rw [← hd2]
    exact pubFI (by simp) rfl (by rw [vC_length, hdl]) (by rw [vC_length, hdl]) (pureEs_vC _)
   ·simp at h1

end Go.AW

