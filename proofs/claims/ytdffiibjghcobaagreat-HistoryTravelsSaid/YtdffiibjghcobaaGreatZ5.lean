/-
  An abstract machine over the model, the code of functions on it, and their contracts: what the claim needs.
  No condition: definitions, plain laws, contracts over any program that has this code.
-/
import Derived.Test.YtdffiibjghcobaaGreatZ4
set_option linter.all false
namespace Go.AW
def c_z0x (f_z19 : FuncId) (f_z22 : FuncId) (f_z44 : FuncId) (f_z0a : FuncId) (f_z0c : FuncId) : AFunc := ⟨46,[.tmp 6],(.seq (.region [ iD 4 (.box (.t 0)),iD 5 (.box (.t 1)),iD 6 (.move (cI 0))]) (.seq (.draw [ jD 7 (.fieldAddr 0 (.t 4)),jD 8 (.fieldAddr 2 (.t 7)),jD 9 (.load false 1 (.t 8)),jD 10 (.load false 1 (.t 2)),jD 11 (.call f_z19 [(.t 9),(.t 10)]),jD 12 (.fieldAddr 0 (.t 5)),jD 13 (.fieldAddr 2 (.t 12)),jD 14 (.load false 1 (.t 13)),jD 15 (.load false 1 (.t 2)),jD 16 (.call f_z19 [(.t 14),(.t 15)]),jD 17 (.call f_z22 [(.t 11),(.t 16)]),jD 18 (.load true 7 (.t 3)),jD 19 (.fieldAddr 0 (.t 4)),jD 20 (.load true 3 (.t 19)),jD 21 (.call f_z44 [(.t 18),(.t 20)]),jD 22 (.load true 7 (.t 3)),jD 23 (.fieldAddr 0 (.t 5)),jD 24 (.load true 3 (.t 23)),jD 25 (.call f_z44 [(.t 22),(.t 24)]),jD 26 (.call f_z0a [(.t 21),(.t 25)]),jD 27 (.fieldAddr 0 (.t 4)),jD 28 (.fieldAddr 1 (.t 27)),jD 29 (.load false 1 (.t 28)),jD 30 (.fieldAddr 0 (.t 5)),jD 31 (.fieldAddr 1 (.t 30)),jD 32 (.load false 1 (.t 31)),jD 33 (.call f_z0a [(.t 29),(.t 32)]),jD 34 (.fieldAddr 3 (.t 4)),jD 35 (.load false 1 (.t 34)),jD 36 (.fieldAddr 3 (.t 5)),jD 37 (.load false 1 (.t 36)),jD 38 (.call f_z0a [(.t 35),(.t 37)]),jD 39 (.fieldAddr 4 (.t 4)),jD 40 (.load false 1 (.t 39)),jD 41 (.fieldAddr 4 (.t 5)),jD 42 (.load false 1 (.t 41)),jD 43 (.call f_z0a [(.t 40),(.t 42)]),jD 44 (.buildSlice 1 5 [(.int .i64 0)] [(0,(.t 17)),(1,(.t 26)),(2,(.t 33)),(3,(.t 38)),(4,(.t 43))]),jD 45 (.call f_z0c [(.t 44)]),jM 6 45]) .ret))⟩
structure F_z0x (P : Program) where
 id : FuncId
 z19 : F_z19 P
 z22 : F_z22 P
 z44 : F_z44 P
 z0a : F_z0a P
 z0c : F_z0c P
 has : Has P id [] (c_z0x z19.id z22.id z44.id z0a.id z0c.id)
def c_z1s (f_z1q : FuncId) (f_slices_heapSortCmpFunc_Version : FuncId) (f_slices_breakPatternsCmpFunc_Version : FuncId) (f_slices_choosePivotCmpFunc_Version : FuncId) (f_slices_reverseRangeCmpFunc_Version : FuncId) (f_slices_partialInsertionSortCmpFunc_Version : FuncId) (f_slices_partitionEqualCmpFunc_Version : FuncId) (f_slices_partitionCmpFunc_Version : FuncId) (f_z1s : FuncId) : AFunc := ⟨148,[],(.seq (.region [ iD 10 (.move (.c (.bool true)))]) (.seq (.region [ iD 11 (.move (.c (.bool true)))]) (.block 0 (.loop (.block 1 (.seq (.region [ iM 21 2,iM 22 1,iD 23 (.bin .sub (.t 21) (.t 22)),iM 12 23]) (.seq (.seq (.region [ iM 24 12,iD 25 (.bin .leq (.t 24) (cI 12))]) (.cond (.t 25) (.seq (.region [ iM 26 0,iM 27 1,iM 28 2,iM 29 4,iD 30 (.call f_z1q [(.t 26),(.t 27),(.t 28),(.t 29)])]) .ret) .skip)) (.seq (.seq (.region [ iM 31 3,iD 32 (.bin .eql (.t 31) (cI 0))]) (.cond (.t 32) (.seq (.region [ iM 33 0,iM 34 1,iM 35 2,iM 36 4,iD 37 (.call f_slices_heapSortCmpFunc_Version [(.t 33),(.t 34),(.t 35),(.t 36)])]) .ret) .skip)) (.seq (.seq (.region [ iM 38 10,iD 39 (.un .not (.t 38))]) (.cond (.t 39) (.seq (.region [ iM 40 0,iM 41 1,iM 42 2,iM 43 4,iD 44 (.call f_slices_breakPatternsCmpFunc_Version [(.t 40),(.t 41),(.t 42),(.t 43)])]) (.region [ iM 45 3,iD 46 (.bin .sub (.t 45) (cI 1)),iM 3 46])) .skip)) (.seq (.region [ iM 48 0,iM 49 1,iM 50 2,iM 51 4,iD 52 (.call f_slices_choosePivotCmpFunc_Version [(.t 48),(.t 49),(.t 50),(.t 51)]),iM 47 52,iD 53 (.extract (.t 47) 0),iD 54 (.extract (.t 47) 1),iM 13 53,iM 14 54]) (.seq (.seq (.region [ iM 55 14,iD 56 (.bin .eql (.t 55) (cI 2))]) (.cond (.t 56) (.seq (.region [ iM 57 0,iM 58 1,iM 59 2,iM 60 4,iD 61 (.call f_slices_reverseRangeCmpFunc_Version [(.t 57),(.t 58),(.t 59),(.t 60)])]) (.seq (.region [ iM 62 2,iD 63 (.bin .sub (.t 62) (cI 1)),iM 64 13,iM 65 1,iD 66 (.bin .sub (.t 64) (.t 65)),iD 67 (.bin .sub (.t 63) (.t 66)),iM 13 67]) (.region [ iD 14 (.move (cI 1))]))) .skip)) (.seq (.seq (.region [ iM 68 10,iM 69 68,⟨(some 70),.move (.t 11),some (some 69,true)⟩,iD 71 (.pick (.t 69) (.t 70) (.c (.bool false))),iM 72 71,⟨(some 73),.move (.t 14),some (some 72,true)⟩,⟨(some 74),.bin .eql (.t 73) (cI 1),some (some 72,true)⟩,iD 75 (.pick (.t 72) (.t 74) (.c (.bool false)))]) (.cond (.t 75) (.seq (.region [ iM 76 0,iM 77 1,iM 78 2,iM 79 4,iD 80 (.call f_slices_partialInsertionSortCmpFunc_Version [(.t 76),(.t 77),(.t 78),(.t 79)])]) (.cond (.t 80) .ret .skip)) .skip)) (.seq (.seq (.draw [ jM 81 1,jD 82 (.bin .gtr (.t 81) (cI 0)),jM 83 82,(⟨(some 84),.move (.t 4),some (some 83,true)⟩,[]),(⟨(some 85),.move (.t 0),some (some 83,true)⟩,[]),(⟨(some 86),.move (.t 1),some (some 83,true)⟩,[]),(⟨(some 87),.bin .sub (.t 86) (cI 1),some (some 83,true)⟩,[]),(⟨(some 88),.indexAddr 5 (.t 85) (.t 87),some (some 83,true)⟩,[]),(⟨(some 89),.load true 5 (.t 88),some (some 83,true)⟩,[]),(⟨(some 90),.move (.t 0),some (some 83,true)⟩,[]),(⟨(some 91),.move (.t 13),some (some 83,true)⟩,[]),(⟨(some 92),.indexAddr 5 (.t 90) (.t 91),some (some 83,true)⟩,[]),(⟨(some 93),.load true 5 (.t 92),some (some 83,true)⟩,[]),(⟨(some 94),.callv (.t 84) [(.t 89),(.t 93)],some (some 83,true)⟩,[]),(⟨(some 95),.bin .lss (.t 94) (cI 0),some (some 83,true)⟩,[]),(⟨(some 96),.un .not (.t 95),some (some 83,true)⟩,[]),jD 97 (.pick (.t 83) (.t 96) (.c (.bool false)))]) (.cond (.t 97) (.seq (.region [ iM 98 0,iM 99 1,iM 100 2,iM 101 13,iM 102 4,iD 103 (.call f_slices_partitionEqualCmpFunc_Version [(.t 98),(.t 99),(.t 100),(.t 101),(.t 102)]),iM 15 103]) (.seq (.region [ iM 104 15,iM 1 104]) (.exit 1))) .skip)) (.seq (.region [ iM 106 0,iM 107 1,iM 108 2,iM 109 13,iM 110 4,iD 111 (.call f_slices_partitionCmpFunc_Version [(.t 106),(.t 107),(.t 108),(.t 109),(.t 110)]),iM 105 111,iD 112 (.extract (.t 105) 0),iD 113 (.extract (.t 105) 1),iM 16 112,iM 17 113]) (.seq (.region [ iM 114 17,iM 11 114]) (.seq (.region [ iM 115 16,iM 116 1,iD 117 (.bin .sub (.t 115) (.t 116)),iM 118 2,iM 119 16,iD 120 (.bin .sub (.t 118) (.t 119)),iM 18 117,iM 19 120]) (.seq (.region [ iM 121 12,iD 122 (.bin .quo (.t 121) (cI 8)),iM 20 122]) (.seq (.region [ iM 123 18,iM 124 19,iD 125 (.bin .lss (.t 123) (.t 124))]) (.cond (.t 125) (.seq (.region [ iM 126 18,iM 127 20,iD 128 (.bin .geq (.t 126) (.t 127)),iM 10 128]) (.seq (.region [ iM 129 0,iM 130 1,iM 131 16,iM 132 3,iM 133 4,iD 134 (.call f_z1s [(.t 129),(.t 130),(.t 131),(.t 132),(.t 133)])]) (.region [ iM 135 16,iD 136 (.bin .add (.t 135) (cI 1)),iM 1 136]))) (.seq (.region [ iM 137 19,iM 138 20,iD 139 (.bin .geq (.t 137) (.t 138)),iM 10 139]) (.seq (.region [ iM 140 0,iM 141 16,iD 142 (.bin .add (.t 141) (cI 1)),iM 143 2,iM 144 3,iM 145 4,iD 146 (.call f_z1s [(.t 140),(.t 142),(.t 143),(.t 144),(.t 145)])]) (.region [ iM 147 16,iM 2 147]))))))))))))))))))))))⟩
structure F_z1s (P : Program) where
 id : FuncId
 z1q : F_z1q P
 slices_heapSortCmpFunc_Version : RawF
 slices_breakPatternsCmpFunc_Version : RawF
 slices_choosePivotCmpFunc_Version : RawF
 slices_reverseRangeCmpFunc_Version : RawF
 slices_partialInsertionSortCmpFunc_Version : RawF
 slices_partitionEqualCmpFunc_Version : RawF
 slices_partitionCmpFunc_Version : RawF
 has : Has P id [] (c_z1s z1q.id slices_heapSortCmpFunc_Version.id slices_breakPatternsCmpFunc_Version.id slices_choosePivotCmpFunc_Version.id slices_reverseRangeCmpFunc_Version.id slices_partialInsertionSortCmpFunc_Version.id slices_partitionEqualCmpFunc_Version.id slices_partitionCmpFunc_Version.id id)
def c_z1n (f_z12 : FuncId) (f_z1s : FuncId) : AFunc := ⟨14,[],(.seq (.region [ iM 5 0,iD 6 (.len (.t 5)),iM 4 6]) (.region [ iM 7 0,iM 8 4,iM 9 4,iD 10 (.conv .u64 (.t 9)),iD 11 (.call f_z12 [(.t 10)]),iM 12 1,iD 13 (.call f_z1s [(.t 7),(cI 0),(.t 8),(.t 11),(.t 12)])]))⟩
structure F_z1n (P : Program) where
 id : FuncId
 z12 : F_z12 P
 z1s : F_z1s P
 has : Has P id [] (c_z1n z12.id z1s.id)
def c_z0v (f_z0w : FuncId) (f_z10 : FuncId) (f_z11 : FuncId) (f_z0x : FuncId) (f_z1n : FuncId) : AFunc := ⟨17,[.tmp 4],(.seq (.region [ iD 2 (.box (.t 0)),iD 3 (.box (.t 1)),iD 4 (.move (.c .nil))]) (.seq (.region [ iD 5 (.alloc [.nil])]) (.seq (.region [ iD 7 (.load true 1 (.t 2)),iD 8 (.load true 7 (.t 3)),iD 9 (.makeFunc f_z0w [(.t 5)]),iD 10 (.call f_z10 [(.t 7),(.t 8),(.t 9)])]) (.seq (.seq (.region [ iD 11 (.load true 7 (.t 3)),iD 12 (.call f_z11 [(.t 11)]),iD 6 (.alloc [.nil]),iN (.store 1 (.t 6) (.t 12))]) .ghost) (.seq (.region [ iD 13 (.load false 1 (.t 5)),iD 14 (.makeFunc f_z0x [(.t 6),(.t 3)]),iD 15 (.call f_z1n [(.t 13),(.t 14)])]) (.seq (.region [ iD 16 (.load false 1 (.t 5)),iM 4 16]) .ret))))))⟩
structure F_z0v (P : Program) where
 id : FuncId
 z0w : F_z0w P
 z10 : F_z10 P
 z11 : F_z11 P
 z0x : RawF
 z1n : F_z1n P
 has : Has P id [100006] (c_z0v z0w.id z10.id z11.id z0x.id z1n.id)
def c_z0u (f_z22 : FuncId) : AFunc := ⟨10,[.tmp 4],(.seq (.region [ iD 2 (.box (.t 0)),iD 3 (.box (.t 1)),iD 4 (.move (cI 0))]) (.seq (.region [ iD 5 (.fieldAddr 0 (.t 2)),iD 6 (.load false 1 (.t 5)),iD 7 (.fieldAddr 0 (.t 3)),iD 8 (.load false 1 (.t 7)),iD 9 (.call f_z22 [(.t 6),(.t 8)]),iM 4 9]) .ret))⟩
structure F_z0u (P : Program) where
 id : FuncId
 z22 : F_z22 P
 has : Has P id [] (c_z0u z22.id)
def c_z0t (f_z0v : FuncId) (f_z11 : FuncId) (f_z19 : FuncId) (f_z22 : FuncId) (f_z1m : FuncId) (f_z0u : FuncId) : AFunc := ⟨68,[.tmp 4,.tmp 5],(.seq (.region [ iD 2 (.box (.t 0)),iD 3 (.box (.t 1)),iD 4 (.move (.c .nil)),iD 5 (.move (cI 0))]) (.seq (.draw [ jD 12 (.load true 1 (.t 2)),jD 13 (.load true 7 (.t 3)),jD 14 (.call f_z0v [(.t 12),(.t 13)]),jD 15 (.load true 7 (.t 3)),jD 16 (.call f_z11 [(.t 15)]),jM 6 14,jM 7 16]) (.seq (.region [ iD 8 (.move (.c .nil))]) (.seq (.seq (.region [ iM 17 6,iD 18 (.len (.t 17)),iD 19 (.move (cI 0))]) (.block 0 (.loop (.seq (.region [ iD 20 (.bin .lss (.t 19) (.t 18))]) (.seq (.cond (.t 20) .skip (.exit 0)) (.seq (.block 1 (.seq (.region [ iM 21 19,iD 22 (.indexAddr 5 (.t 17) (.t 19)),iD 23 (.load true 5 (.t 22)),iD 10 (.alloc [(.bool false),(.int .i64 0),.nil,(.int .i64 0),(.int .i64 0)]),iM 9 21,iN (.store 5 (.t 10) (.t 23))]) (.seq (.draw [ jM 24 9,jD 25 (.bin .add (.t 24) (cI 1)),jM 26 6,jD 27 (.len (.t 26)),jD 28 (.bin .eql (.t 25) (.t 27)),jM 29 28,(⟨(some 30),.fieldAddr 0 (.t 10),some (some 29,false)⟩,[]),(⟨(some 31),.fieldAddr 2 (.t 30),some (some 29,false)⟩,[]),(⟨(some 32),.load false 1 (.t 31),some (some 29,false)⟩,[]),(⟨(some 33),.move (.t 7),some (some 29,false)⟩,[]),(⟨(some 34),.call f_z19 [(.t 32),(.t 33)],some (some 29,false)⟩,[]),(⟨(some 35),.move (.t 6),some (some 29,false)⟩,[]),(⟨(some 36),.move (.t 9),some (some 29,false)⟩,[]),(⟨(some 37),.bin .add (.t 36) (cI 1),some (some 29,false)⟩,[]),(⟨(some 38),.indexAddr 5 (.t 35) (.t 37),some (some 29,false)⟩,[]),(⟨(some 39),.fieldAddr 0 (.t 38),some (some 29,false)⟩,[]),(⟨(some 40),.fieldAddr 2 (.t 39),some (some 29,false)⟩,[]),(⟨(some 41),.load false 1 (.t 40),some (some 29,false)⟩,[]),(⟨(some 42),.move (.t 7),some (some 29,false)⟩,[]),(⟨(some 43),.call f_z19 [(.t 41),(.t 42)],some (some 29,false)⟩,[]),(⟨(some 44),.call f_z22 [(.t 34),(.t 43)],some (some 29,false)⟩,[]),(⟨(some 45),.bin .neq (.t 44) (cI 0),some (some 29,false)⟩,[]),jD 46 (.pick (.t 29) (.c (.bool true)) (.t 45)),jM 11 46]) (.seq (.region [ iM 47 11,iM 48 47,⟨(some 49),.fieldAddr 0 (.t 10),some (some 48,true)⟩,⟨(some 50),.fieldAddr 0 (.t 49),some (some 48,true)⟩,⟨(some 51),.load false 1 (.t 50),some (some 48,true)⟩,⟨(some 52),.un .not (.t 51),some (some 48,true)⟩,iD 53 (.pick (.t 48) (.t 52) (.c (.bool false)))]) (.cond (.t 53) (.region [ iM 54 8,iD 55 (.fieldAddr 0 (.t 10)),iD 56 (.fieldAddr 2 (.t 55)),iD 57 (.load false 1 (.t 56)),iD 58 (.build [.nil,(.int .i64 0)] [(0,1,(.t 57)),(1,1,(cI 1))]),iD 59 (.buildSlice 2 1 [.nil,(.int .i64 0)] [(0,(.t 58))]),iD 60 (.append 2 32 [.nil,(.int .i64 0)] (.t 54) (.t 59)),iM 8 60]) .skip))))) (.region [ iD 61 (.bin .add (.t 19) (cI 1)),iM 19 61]))))))) (.seq (.seq (.region [ iM 62 8,iD 63 (.len (.t 62)),iD 64 (.bin .gtr (.t 63) (cI 4096))]) (.cond (.t 64) (.seq (.region [ iD 4 (.move (.c .nil)),iD 5 (.move (cI 2))]) .ret) .skip)) (.seq (.region [ iM 65 8,iD 66 (.call f_z1m [(.t 65),(.c (.fn f_z0u []))])]) (.seq (.region [ iM 67 8,iM 4 67,iD 5 (.move (cI 0))]) .ret)))))))⟩
structure F_z0t (P : Program) where
 id : FuncId
 z0v : F_z0v P
 z11 : F_z11 P
 z19 : F_z19 P
 z22 : F_z22 P
 z1m : F_z1m P
 z0u : RawF
 has : Has P id [] (c_z0t z0v.id z11.id z19.id z22.id z1m.id z0u.id)
end Go.AW
namespace Go.AW
universe u
variable {β : Type u}
structure Orders (cmp : β → β → Int) : Prop where
 anti : ∀ x y, cmp x y < 0 → 0 ≤ cmp y x
 trans : ∀ x y z, 0 ≤ cmp y x → 0 ≤ cmp z y → 0 ≤ cmp z x
def AscO (cmp : β → β → Int) (l : List β) : Prop := l.Pairwise fun x y => 0 ≤ cmp y x
variable {cmp : β → β → Int}
theorem asc_app {l m : List β} : AscO cmp (l ++ m) ↔ AscO cmp l ∧ AscO cmp m ∧ ∀ x ∈ l, ∀ y ∈ m, 0 ≤ cmp y x := by
 unfold AscO; rw [List.pairwise_append]
theorem asc_get {l : List β} (h : AscO cmp l) {i j : Nat} {x y : β} (hij : i < j) (hx : l[i]? = some x) (hy : l[j]? = some y) : 0 ≤ cmp y x := by
 obtain ⟨hi, ei⟩ := List.getElem?_eq_some_iff.1 hx
 obtain ⟨hj, ej⟩ := List.getElem?_eq_some_iff.1 hy
 have := List.pairwise_iff_getElem.1 h i j hi hj hij
 rw [ei, ej] at this
 exact this
theorem mem_take_get {l : List β} {n : Nat} {x : β} (h : x ∈ l.take n) : ∃ i, i < n ∧ l[i]? = some x := by
 obtain ⟨i, hi⟩ := List.mem_iff_getElem?.1 h
 rw [List.getElem?_take] at hi
 split at hi
 ·exact ⟨i, by assumption, hi⟩
 ·exact absurd hi (by simp)
theorem mem_drop_get {l : List β} {n : Nat} {x : β} (h : x ∈ l.drop n) : ∃ i, n ≤ i ∧ l[i]? = some x := by
 obtain ⟨i, hi⟩ := List.mem_iff_getElem?.1 h
 rw [List.getElem?_drop] at hi
 exact ⟨n + i, by omega, hi⟩
theorem asc_ins {Y : List β} (hY : AscO cmp Y) {x : β} {i : Nat} (h1 : ∀ k y, k < i → Y[k]? = some y → 0 ≤ cmp x y) (h2 : ∀ k y, i ≤ k → Y[k]? = some y → 0 ≤ cmp y x) :
  AscO cmp (Y.take i ++ x :: Y.drop i) := by
 have hs : AscO cmp (Y.take i ++ Y.drop i) := by rw [List.take_append_drop]; exact hY
 obtain ⟨a, b, c⟩ := asc_app.1 hs
 refine asc_app.2 ⟨a, ?_, ?_⟩
 ·refine List.pairwise_cons.2 ⟨fun y hy => ?_, b⟩
  obtain ⟨k, hk, e⟩ := mem_drop_get hy
  exact h2 k y hk e
 ·intro z hz y hy
  rcases List.mem_cons.1 hy with rfl | hy
  ·obtain ⟨k, hk, e⟩ := mem_take_get hz
   exact h1 k z hk e
  ·exact c z hz y hy
theorem perm_ins {Y : List β} {x : β} (i : Nat) : (Y.take i ++ x :: Y.drop i).Perm (x :: Y) := by
 have := List.perm_middle (a := x) (l₁ := Y.take i) (l₂ := Y.drop i)
 rwa [List.take_append_drop] at this
theorem merge_split (O : Orders cmp) {X Y Z1 Z2 : List β} (hX : AscO cmp X) (hY : AscO cmp Y) {p q : Nat}
  (h1 : p = 0 ∨ Y.length ≤ q ∨ ∃ x y, X[p - 1]? = some x ∧ Y[q]? = some y ∧ 0 ≤ cmp y x)
  (h2 : X.length ≤ p ∨ q = 0 ∨ ∃ x y, X[p]? = some x ∧ Y[q - 1]? = some y ∧ 0 ≤ cmp x y)
  (e1 : Z1.Perm (X.take p ++ Y.take q)) (e2 : Z2.Perm (X.drop p ++ Y.drop q)) (s1 : AscO cmp Z1) (s2 : AscO cmp Z2) :
  AscO cmp (Z1 ++ Z2) ∧ (Z1 ++ Z2).Perm (X ++ Y) := by
 have lel : ∀ {l : List β} (_ : AscO cmp l) {i j : Nat} {x y : β}, i ≤ j → l[i]? = some x → l[j]? = some y → x = y ∨ 0 ≤ cmp y x := by
  intro l hl i j x y hij hx hy
  rcases Nat.lt_or_ge i j with h | h
  ·exact .inr (asc_get hl h hx hy)
  ·have : i = j := by omega
   subst this
   rw [hx] at hy
   exact .inl (Option.some.inj hy)
 have tr : ∀ {x y z : β}, (x = y ∨ 0 ≤ cmp y x) → 0 ≤ cmp z y → 0 ≤ cmp z x := by
  rintro x y z (rfl | h) k
  ·exact k
  ·exact O.trans _ _ _ h k
 have tr2 : ∀ {x y z : β}, 0 ≤ cmp y x → (y = z ∨ 0 ≤ cmp z y) → 0 ≤ cmp z x := by
  rintro x y z k (rfl | h)
  ·exact k
  ·exact O.trans _ _ _ k h
 refine ⟨asc_app.2 ⟨s1, s2, fun x hx y hy => ?_⟩, ?_⟩
 ·have hx := e1.mem_iff.1 hx
  have hy := e2.mem_iff.1 hy
  rcases List.mem_append.1 hx with hx | hx <;> rcases List.mem_append.1 hy with hy | hy <;> obtain ⟨i, hi, ei⟩ := mem_take_get hx <;> obtain ⟨j, hj, ej⟩ := mem_drop_get hy
  ·exact asc_get hX (by omega) ei ej
  ·rcases h1 with h1 | h1 | ⟨x1, y1, a, b, c⟩
   ·omega
   ·have := (List.getElem?_eq_some_iff.1 ej).1
    omega
   ·exact tr2 (tr (lel hX (by omega) ei a) c) (lel hY (by omega) b ej)
  ·rcases h2 with h2 | h2 | ⟨x1, y1, a, b, c⟩
   ·have := (List.getElem?_eq_some_iff.1 ej).1
    omega
   ·omega
   ·exact tr2 (tr (lel hY (by omega) ei b) c) (lel hX (by omega) a ej)
  ·exact asc_get hY (by omega) ei ej
 ·refine (e1.append e2).trans ?_
  have : (X.take p ++ Y.take q ++ (X.drop p ++ Y.drop q)).Perm (X.take p ++ X.drop p ++ (Y.take q ++ Y.drop q)) := by
   rw [List.append_assoc, List.append_assoc]
   refine List.Perm.append_left _ ?_
   rw [← List.append_assoc, ← List.append_assoc]
   exact List.Perm.append_right _ List.perm_append_comm
  rw [List.take_append_drop, List.take_append_drop] at this
  exact this
variable [Draws]
attribute [local irreducible] ACalls
structure Ver where
 rc : Rec
 file : Int
 place : Int
def verC (v : Ver) : List AVal := [.bool v.rc.del, .int .i64 v.rc.seq, .list false 3 (vC v.rc.row), .int .i64 v.file, .int .i64 v.place]
def vsC (l : List Ver) : List (List AVal) := l.map verC
theorem vsC_length (l : List Ver) : (vsC l).length = l.length := List.length_map ..
theorem vsC_append (l m : List Ver) : vsC (l ++ m) = vsC l ++ vsC m := List.map_append ..
theorem vsC_at {l : List Ver} {k : Nat} {x : Ver} (h : l[k]? = some x) : (vsC l)[k]? = some (verC x) := by rw [vsC, List.getElem?_map, h]; rfl
theorem vsC_set (l : List Ver) (k : Nat) (x : Ver) : setEs (vsC l) k (verC x) = vsC (l.set k x) := by rw [setEs_eq, vsC, vsC, List.map_set]
theorem pureEs_vsC (l : List Ver) : pureEs (vsC l) = true := by
 rw [pureEs, List.all_eq_true]
 intro e he
 obtain ⟨x, _, rfl⟩ := List.mem_map.1 he
 rfl
section
variable {α : Type}
theorem sw_i {P Q S : List α} {x y : α} {D : List α} (hD : D = P ++ x :: (Q ++ y :: S)) {i : Nat} (hi : i = P.length) : D[i]? = some x := by
 subst hD hi; simp
theorem sw_j {P Q S : List α} {x y : α} {D : List α} (hD : D = P ++ x :: (Q ++ y :: S)) {j : Nat} (hj : j = P.length + 1 + Q.length) : D[j]? = some y := by
 subst hD hj
 rw [List.getElem?_append_right (by omega), show P.length + 1 + Q.length - P.length = Q.length + 1 from by omega, List.getElem?_cons_succ, List.getElem?_append_right (Nat.le_refl _), Nat.sub_self]
 rfl
theorem sw_ij {P Q S : List α} {x y : α} {D : List α} (hD : D = P ++ x :: (Q ++ y :: S)) {i j : Nat} (hi : i = P.length) (hj : j = P.length + 1 + Q.length) : (D.set i y).set j x = P ++ y :: (Q ++ x :: S) := by
 subst hD hi hj
 rw [List.set_append_right _ _ (Nat.le_refl _), Nat.sub_self, List.set_cons_zero, List.set_append_right _ _ (by omega), show P.length + 1 + Q.length - P.length = Q.length + 1 from by omega, List.set_cons_succ, List.set_append_right _ _ (Nat.le_refl _), Nat.sub_self]
 rfl
theorem sw_ji {P Q S : List α} {x y : α} {D : List α} (hD : D = P ++ x :: (Q ++ y :: S)) {i j : Nat} (hi : i = P.length) (hj : j = P.length + 1 + Q.length) : (D.set j x).set i y = P ++ y :: (Q ++ x :: S) := by
 rw [List.set_comm _ _ (by omega)]; exact sw_ij hD hi hj
theorem take_snoc {l : List α} {k : Nat} {x : α} (h : l[k]? = some x) : l.take (k + 1) = l.take k ++ [x] := by
 obtain ⟨hk, e⟩ := List.getElem?_eq_some_iff.1 h
 rw [← e, List.take_append_getElem hk]
theorem drop_cons {l : List α} {k : Nat} {x : α} (h : l[k]? = some x) : l.drop k = x :: l.drop (k + 1) := by
 obtain ⟨hk, e⟩ := List.getElem?_eq_some_iff.1 h
 rw [← e, ← List.getElem_cons_drop hk]
end
abbrev vO (l : List Ver) : AObj := .arr 5 (vsC l)
theorem hset {H : List AObj} {i0 : Nat} (hi : i0 < H.length) (o : AObj) : (H.set i0 o)[i0]? = some o := by simp [hi]
theorem hset2 (H : List AObj) (i0 : Nat) (o o' : AObj) : (H.set i0 o).set i0 o' = H.set i0 o' := by simp
theorem setOv {H : List AObj} {n : Nat} {o : AObj} {k : List AObj → Prop} {H' : List AObj} (h : H.set n o = H') (hk : k H') : setO H n o k := by rw [setO_eq, h]; exact hk
def gO (l : List Int) (i : Nat) : AObj := .arr 2 [[.list false 1 (iC l), .int .i64 i]]
def nx (l : List Int) (i : Nat) (n : Int) : Int × Nat := if l.length ≤ i ∨ n < 1 then (0, i) else (l.getD i 0 % n, i + 1)
theorem nx_bnd (l : List Int) (i : Nat) (n : Int) (hn : 1 ≤ n) : 0 ≤ (nx l i n).1 ∧ (nx l i n).1 < n := by
 unfold nx
 split
 ·exact ⟨by simp, by simp; omega⟩
 ·exact ⟨Int.emod_nonneg _ (by omega), Int.emod_lt_of_pos _ (by omega)⟩
theorem nx_le (l : List Int) (i : Nat) (n : Int) (h : i ≤ l.length) : (nx l i n).2 ≤ l.length := by
 unfold nx
 split
 ·exact h
 ·rename_i h1
  show i + 1 ≤ _
  omega
set_option maxRecDepth 20000 in
theorem Next_raw {P : Program} (F : F_z3x P) (l : List Int) (i : Nat) (n : Int) (hi : i ≤ l.length) (hl : l.length ≤ 1000000) (hn : n ≤ 1000000) :
  ACalls P F.id [.ptr 0 1 0 0, .int .i64 n] [gO l i] (fun r H' => r = .int .i64 (nx l i n).1 ∧ H' = [gO l (nx l i n).2]) := by
 refine acalls_of_body F.has ?_
 (conv => whnf); refine recA (fun h1 => ?_) (fun h1 => ?_)
 ·simp [iC_length] at h1
  conv => whnf
  rw [nx, if_pos (.inl h1)]
  exact ⟨rfl, rfl⟩
 simp [iC_length] at h1
 (conv => whnf); refine recA (fun h2 => ?_) (fun h2 => ?_)
 ·simp at h2
  conv => whnf
  rw [nx, if_pos (.inr h2)]
  exact ⟨rfl, rfl⟩
 simp at h2
 have e1 : IntKind.i64.wrap ((i : Int) + 1) = ((i + 1 : Nat) : Int) := by rw [wrapI _ (by omega) (by omega)]; omega
 have e2 : IntKind.i64.wrap (IntKind.i64.wrap ((i : Int) + 1) - 1) = i := by rw [e1, wrapI _ (by omega) (by omega)]; omega
 have e3 : (IntKind.i64.wrap (IntKind.i64.wrap ((i : Int) + 1) - 1)).toNat = i := by rw [e2, Int.toNat_natCast]
 have eg : (iC l)[i]? = some [.int .i64 (l.getD i 0)] := iC_get (by omega)
 (conv => whnf); refine And.intro (by rw [e2]; omega) ?_
 (conv => whnf); refine recO (by rw [e3]; exact eg) ?_
 (conv => whnf); refine ⟨_, Place_spec F.z3y (l.getD i 0) n (by omega) (by omega) _, ?_⟩
 conv => whnf
 rw [nx, if_neg (by omega)]
 refine ⟨rfl, ?_⟩
 show [AObj.arr 2 [[.list false 1 (iC l), .int .i64 (IntKind.i64.wrap ((i : Int) + 1))]]] = _
 rw [e1]; rfl
set_option maxRecDepth 20000 in
theorem wColumns_spec {P : Program} (F : F_z3q P) (H : List AObj) :
  ACalls P F.id [.int .i64 0] H (fun r H' => r = .list true 3 (cC [⟨bs [105, 100], 2, false⟩, ⟨bs [110, 97, 109, 101], 3, true⟩, ⟨bs [97, 116], 4, false⟩]) ∧ H' = H) := by
 refine ACalls.pure rfl (acalls_of_body F.has ?_)
 (conv => whnf); refine ACalls.use (Place_spec F.z3y 0 3 (by decide) (by decide) _) ?_
 conv => whnf
 exact .closed _ rfl
def wnames : List ByteArray := [bs [102, 48], bs [102, 49], bs [102, 50], bs [102, 51], bs [102, 52], bs [102, 53], bs [102, 54], bs [102, 55], bs [102, 56], bs [102, 57], bs [103, 48], bs [103, 49]]
def wname (n : Int) : ByteArray := wnames.getD (n % 12).toNat (bs [])
theorem wName_spec {P : Program} (F : F_z3w P) (n : Int) (H : List AObj) :
  ACalls P F.id [.int .i64 n] H (fun r H' => r = .str (wname n) ∧ H' = H) := by
 refine ACalls.pure rfl (acalls_of_body F.has ?_)
 (conv => whnf); refine ACalls.use (Place_spec F.z3y n 12 (by decide) (by decide) _) ?_
 have h1 := Int.emod_nonneg n (show (12 : Int) ≠ 0 by decide)
 have h2 := Int.emod_lt_of_pos n (show (0 : Int) < 12 by decide)
 (conv => whnf); refine And.intro (h1) ?_
 (conv => whnf); refine recO (sC_at (l := wnames) (x := wname n) (by rw [wname, List.getD_eq_getElem?_getD, List.getElem?_eq_getElem (by show (n % 12).toNat < 12; omega)]; rfl)) ?_
 conv => whnf
 exact .closed _ rfl
def inB (l : List ByteArray) (s : ByteArray) : Bool := l.any fun x => eqS x s
theorem In_spec {P : Program} (F : F_z2j P) (l : List ByteArray) (s : ByteArray) (hl : l.length ≤ 1000000) (H : List AObj) :
  ACalls P F.id [.list false 1 (sC l), .str s] H (fun r H' => r = .bool (inB l s) ∧ H' = H) := by
 refine ACalls.pure rfl (acalls_of_body F.has ?_)
 conv => whnf
 refine ⟨fun m ρ H1 => ∃ k : Nat, k + m = l.length ∧ inB l s = inB (l.drop k) s ∧ H1 = [] ∧ Sv 18 [(0, .list false 1 (sC l)), (1, .str s), (5, .int .i64 k)] ρ, l.length, [], ?_, ?_⟩
 ·exact ⟨0, by omega, rfl, rfl, Sv.intro rfl ⟨rfl, rfl, rfl, trivial⟩⟩
 rintro m ρ H1 ⟨k, hk, hr, rfl, d, rfl⟩
 (conv => whnf); refine recA (fun hlt => ?_) (fun hlt => ?_)
 ·simp [sC_length] at hlt
  have hx : l[k]? = some l[k] := List.getElem?_eq_getElem hlt
  replace hr : inB l s = (eqS l[k] s || inB (l.drop (k + 1)) s) := hr.trans (by rw [List.drop_eq_getElem_cons hlt]; rfl)
  (conv => whnf); refine And.intro (by omega) ?_
  (conv => whnf); refine recO (sC_at hx) ?_
  (conv => whnf); refine recA (fun h1 => ?_) (fun h1 => ?_)
  ·replace h1 : eqS l[k] s = true := h1
   conv => whnf
   rw [hr, h1]
   exact pubB rfl
  ·replace h1 : eqS l[k] s = false := h1
   rw [h1] at hr
   conv => whnf
   refine ⟨m - 1, by omega, Gp.none rfl ?_ fun ρ1 h => ⟨k + 1, by omega, hr, rfl, h⟩⟩
   exact ⟨.closed _ rfl, .closed _ rfl, pub_int (wrapI _ (by omega) (by omega)), trivial⟩
 ·simp [sC_length] at hlt
  rw [List.drop_of_length_le (by omega)] at hr
  conv => whnf
  rw [hr]
  exact pubB rfl
theorem Next_spec {P : Program} (F : F_z3x P) (l : List Int) (i : Nat) (n : Int) (hi : i ≤ l.length) (hl : l.length ≤ 1000000) (hn : n ≤ 1000000) (H : List AObj) (id : Nat) (ho : H[id]? = some (gO l i)) :
  ACalls P F.id [.ptr id 1 0 0, .int .i64 n] H (fun r H' => r = .int .i64 (nx l i n).1 ∧ H' = H.set id (gO l (nx l i n).2)) :=
 (Next_raw F l i n hi hl hn).fr ho rfl rfl (.pt (.cl rfl trivial)) (.closed _ rfl)
def inst0 : List Int := [0, 719, 1380, 1400, 1439, 1440, 1500, 2000, 2879, 2880, 4000, 4320, 5000, 7199, 7200, 9000]
def instK : Nat → List Int
 | 0 => inst0
 | k + 1 => (instK k).set k (IntKind.i64.wrap ((instK k).getD k 0 + 144000))
theorem instK_len : ∀ k, (instK k).length = 16
 | 0 => rfl
 | k + 1 => by rw [instK, List.length_set, instK_len k]
def instL : List Int := [144000, 144719, 145380, 145400, 145439, 145440, 145500, 146000, 146879, 146880, 148000, 148320, 149000, 151199, 151200, 153000]
theorem instK_16 : instK 16 = instL := by decide
theorem setEs_iC (l : List Int) (k : Nat) (v : Int) : setEs (iC l) k [.int .i64 v] = iC (l.set k v) := by rw [setEs_eq]; simp [iC]
set_option maxRecDepth 20000 in
theorem Instants_spec {P : Program} (F : F_z3u P) (H : List AObj) :
  ACalls P F.id [] H (fun r H' => r = .list false 1 (iC instL) ∧ H' = H) := by
 refine ACalls.pure rfl (acalls_of_body F.has ?_)
 conv => whnf
 refine ⟨fun m ρ H1 => ∃ k : Nat, k + m = 16 ∧ H1 = [.arr 1 (iC (instK k))] ∧ Sv 17 [(1, .sl 0 16 0 16), (2, .int .i64 k)] ρ, 16, [], ?_, ?_⟩
 ·exact ⟨0, by omega, rfl, Sv.intro rfl ⟨rfl, rfl, trivial⟩⟩
 rintro m ρ H1 ⟨k, hk, rfl, d, rfl⟩
 have hl := instK_len k
 (conv => whnf); refine recT (by rw [iC_length, hl]; rfl) ?_
 (conv => whnf); refine recA (fun hlt => ?_) (fun hlt => ?_)
 ·simp at hlt
  have eg : (iC (instK k))[k]? = some [.int .i64 ((instK k).getD k 0)] := iC_get (by omega)
  have hb : Nat.beq 16 (iC (instK k)).length = true := by rw [iC_length, hl]; rfl
  have hidx : (iC (instK k))[0 + (k : Int).toNat]? = some [.int .i64 ((instK k).getD k 0)] := by rw [Nat.zero_add, Int.toNat_natCast]; exact eg
  (conv => whnf); refine recT (hb) ?_
  (conv => whnf); refine And.intro (⟨by omega, by omega⟩) ?_
  (conv => whnf); refine recT (hb) ?_
  (conv => whnf); refine recO (hidx) ?_
  (conv => whnf); refine recT (hb) ?_
  (conv => whnf); refine And.intro (⟨by omega, by omega⟩) ?_
  (conv => whnf); refine recT (hb) ?_
  (conv => whnf); refine recO (hidx) ?_
  conv => whnf
  refine ⟨m - 1, by omega, Gp.keep rfl ?_ fun ρ1 h => ⟨k + 1, by omega, ?_, h⟩⟩
  ·exact ⟨rfl, intEq (wrapI _ (by omega) (by omega)), trivial⟩
  ·show [AObj.arr 1 (setEs (iC (instK k)) (0 + (k : Int).toNat) [.int .i64 (IntKind.i64.wrap ((instK k).getD k 0 + 144000))])] = _
   rw [Nat.zero_add, Int.toNat_natCast, setEs_iC, instK]
 ·simp at hlt
  have : k = 16 := by omega
  subst this
  rw [instK_16]
  conv => whnf
  exact pubF rfl rfl rfl (pureEs_iC _)
def wtexts : List ByteArray := [bs [], bs [97], bs [98], bs [105, 116, 39, 115], bs [122, 122]]
def wv1 (k : Int) (l : List Int) (i : Nat) : V × Nat :=
 if k = 1 then (⟨1, (nx l i 2).1, bs []⟩, (nx l i 2).2)
 else if k = 2 then (⟨2, (nx l i 7).1 - 1, bs []⟩, (nx l i 7).2)
 else if k = 3 then (⟨3, 0, wtexts.getD (nx l i 5).1.toNat (bs [])⟩, (nx l i 5).2)
 else (⟨4, instL.getD (nx l i 16).1.toNat 0, bs []⟩, (nx l i 16).2)
def wv (c : Col) (l : List Int) (i : Nat) : V × Nat :=
 if c.nul then (if (nx l i 5).1 = 0 then (zV, (nx l i 5).2) else wv1 c.kind l (nx l i 5).2) else wv1 c.kind l i
set_option maxRecDepth 20000 in
theorem Value_raw {P : Program} (F : F_z42 P) (c : Col) (l : List Int) (i : Nat) (hi : i ≤ l.length) (hl : l.length ≤ 1000000) :
  ACalls P F.id [.agg (colC c), .ptr 0 1 0 0] [gO l i] (fun r H' => r = .agg (valC (wv c l i).1) ∧ H' = [gO l (wv c l i).2]) := by
 refine ACalls.gp (Q0 := fun r H' => r = .agg (valC (wv c l i).1) ∧ ∃ x y, H' = [gO l (wv c l i).2, x, y]) ?_ (by
  rintro r H' ⟨rfl, x, y, rfl⟩
  exact Gp.res [0] (by simp) (keepB_one rfl rfl rfl) (H1 := [gO l (wv c l i).2]) ⟨⟨_, rfl, .same _ _ rfl⟩, trivial⟩ (.closed _ rfl) ⟨_, rfl, rfl, rfl⟩)
 refine acalls_of_body F.has ?_
 obtain ⟨nm, kd, nl⟩ := c
 cases nl with
 | true =>
  (conv => whnf); refine ACalls.mono (Next_spec F.z3x l i 5 hi hl (by decide) _ 0 rfl) ?_
  rintro r H' ⟨rfl, rfl⟩
  have hj := nx_le l i 5 hi
  (conv => whnf); refine recA (fun h0 => ?_) (fun h0 => ?_)
  ·simp at h0
   conv => whnf
   rw [wv, if_pos rfl, if_pos h0]
   exact ⟨rfl, _, _, rfl⟩
  simp at h0
  (conv => whnf); refine recA (fun k1 => ?_) (fun k1 => ?_)
  ·simp at k1
   (conv => whnf); refine ACalls.mono (Next_spec F.z3x l ((nx l i 5).2) 2 (hj) hl (by decide) _ 0 rfl) ?_
   rintro r H' ⟨rfl, rfl⟩
   conv => whnf
   rw [wv, if_pos rfl, if_neg h0]
   rw [wv1, if_pos k1]
   exact ⟨rfl, _, _, rfl⟩
  simp at k1
  (conv => whnf); refine recA (fun k2 => ?_) (fun k2 => ?_)
  ·simp at k2
   (conv => whnf); refine ACalls.mono (Next_spec F.z3x l ((nx l i 5).2) 7 (hj) hl (by decide) _ 0 rfl) ?_
   rintro r H' ⟨rfl, rfl⟩
   have hb := nx_bnd l ((nx l i 5).2) 7 (by decide)
   conv => whnf
   rw [wv, if_pos rfl, if_neg h0]
   rw [wv1, if_neg k1, if_pos k2]
   refine ⟨?_, _, _, rfl⟩
   show AVal.agg [.int .i64 2, .int .i64 (IntKind.i64.wrap ((nx l ((nx l i 5).2) 7).1 - 1)), .str (bs [])] = _
   rw [wrapI _ (by omega) (by omega)]
   rfl
  simp at k2
  (conv => whnf); refine recA (fun k3 => ?_) (fun k3 => ?_)
  ·simp at k3
   (conv => whnf); refine ACalls.mono (Next_spec F.z3x l ((nx l i 5).2) 5 (hj) hl (by decide) _ 0 rfl) ?_
   rintro r H' ⟨rfl, rfl⟩
   have hb := nx_bnd l ((nx l i 5).2) 5 (by decide)
   (conv => whnf); refine And.intro (hb.1) ?_
   (conv => whnf); refine recO (sC_at (l := wtexts) (x := wtexts.getD (nx l ((nx l i 5).2) 5).1.toNat (bs [])) (by rw [List.getD_eq_getElem?_getD, List.getElem?_eq_getElem (by show (nx l ((nx l i 5).2) 5).1.toNat < 5; omega)]; rfl)) ?_
   conv => whnf
   rw [wv, if_pos rfl, if_neg h0]
   rw [wv1, if_neg k1, if_neg k2, if_pos k3]
   exact ⟨rfl, _, _, rfl⟩
  simp at k3
  (conv => whnf); refine ACalls.use (Instants_spec F.z3u _) ?_
  (conv => whnf); refine ACalls.mono (Next_spec F.z3x l ((nx l i 5).2) 16 (hj) hl (by decide) _ 0 rfl) ?_
  rintro r H' ⟨rfl, rfl⟩
  have hb := nx_bnd l ((nx l i 5).2) 16 (by decide)
  (conv => whnf); refine And.intro (hb.1) ?_
  (conv => whnf); refine recO (iC_at (l := instL) (x := instL.getD (nx l ((nx l i 5).2) 16).1.toNat 0) (by rw [List.getD_eq_getElem?_getD, List.getElem?_eq_getElem (by show (nx l ((nx l i 5).2) 16).1.toNat < 16; omega)]; rfl)) ?_
  conv => whnf
  rw [wv, if_pos rfl, if_neg h0]
  rw [wv1, if_neg k1, if_neg k2, if_neg k3]
  exact ⟨rfl, _, _, rfl⟩
 | false =>
  (conv => whnf); refine recA (fun k1 => ?_) (fun k1 => ?_)
  ·simp at k1
   (conv => whnf); refine ACalls.mono (Next_spec F.z3x l (i) 2 (hi) hl (by decide) _ 0 rfl) ?_
   rintro r H' ⟨rfl, rfl⟩
   conv => whnf
   rw [wv, if_neg (by simp)]
   rw [wv1, if_pos k1]
   exact ⟨rfl, _, _, rfl⟩
  simp at k1
  (conv => whnf); refine recA (fun k2 => ?_) (fun k2 => ?_)
  ·simp at k2
   (conv => whnf); refine ACalls.mono (Next_spec F.z3x l (i) 7 (hi) hl (by decide) _ 0 rfl) ?_
   rintro r H' ⟨rfl, rfl⟩
   have hb := nx_bnd l (i) 7 (by decide)
   conv => whnf
   rw [wv, if_neg (by simp)]
   rw [wv1, if_neg k1, if_pos k2]
   refine ⟨?_, _, _, rfl⟩
   show AVal.agg [.int .i64 2, .int .i64 (IntKind.i64.wrap ((nx l (i) 7).1 - 1)), .str (bs [])] = _
   rw [wrapI _ (by omega) (by omega)]
   rfl
  simp at k2
  (conv => whnf); refine recA (fun k3 => ?_) (fun k3 => ?_)
  ·simp at k3
   (conv => whnf); refine ACalls.mono (Next_spec F.z3x l (i) 5 (hi) hl (by decide) _ 0 rfl) ?_
   rintro r H' ⟨rfl, rfl⟩
   have hb := nx_bnd l (i) 5 (by decide)
   (conv => whnf); refine And.intro (hb.1) ?_
   (conv => whnf); refine recO (sC_at (l := wtexts) (x := wtexts.getD (nx l (i) 5).1.toNat (bs [])) (by rw [List.getD_eq_getElem?_getD, List.getElem?_eq_getElem (by show (nx l (i) 5).1.toNat < 5; omega)]; rfl)) ?_
   conv => whnf
   rw [wv, if_neg (by simp)]
   rw [wv1, if_neg k1, if_neg k2, if_pos k3]
   exact ⟨rfl, _, _, rfl⟩
  simp at k3
  (conv => whnf); refine ACalls.use (Instants_spec F.z3u _) ?_
  (conv => whnf); refine ACalls.mono (Next_spec F.z3x l (i) 16 (hi) hl (by decide) _ 0 rfl) ?_
  rintro r H' ⟨rfl, rfl⟩
  have hb := nx_bnd l (i) 16 (by decide)
  (conv => whnf); refine And.intro (hb.1) ?_
  (conv => whnf); refine recO (iC_at (l := instL) (x := instL.getD (nx l (i) 16).1.toNat 0) (by rw [List.getD_eq_getElem?_getD, List.getElem?_eq_getElem (by show (nx l (i) 16).1.toNat < 16; omega)]; rfl)) ?_
  conv => whnf
  rw [wv, if_neg (by simp)]
  rw [wv1, if_neg k1, if_neg k2, if_neg k3]
  exact ⟨rfl, _, _, rfl⟩
theorem wv1_le (k : Int) (l : List Int) (i : Nat) (h : i ≤ l.length) : (wv1 k l i).2 ≤ l.length := by
 unfold wv1
 repeat' split
 all_goals exact nx_le _ _ _ h
theorem wv_le (c : Col) (l : List Int) (i : Nat) (h : i ≤ l.length) : (wv c l i).2 ≤ l.length := by
 unfold wv
 repeat' split
 ·exact nx_le _ _ _ h
 ·exact wv1_le _ _ _ (nx_le _ _ _ h)
 ·exact wv1_le _ _ _ h
theorem wValue_spec {P : Program} (F : F_z42 P) (c : Col) (l : List Int) (i : Nat) (hi : i ≤ l.length) (hl : l.length ≤ 1000000) (H : List AObj) (id : Nat) (ho : H[id]? = some (gO l i)) :
  ACalls P F.id [.agg (colC c), .ptr id 1 0 0] H (fun r H' => r = .agg (valC (wv c l i).1) ∧ H' = H.set id (gO l (wv c l i).2)) :=
 (Value_raw F c l i hi hl).fr ho rfl rfl (.cl rfl (.pt trivial)) (.closed _ rfl)
def wr (l : List Int) : List Col → Nat → List V → List V × Nat
 | [], i, out => (out, i)
 | c :: cs, i, out => wr l cs (wv c l i).2 (out ++ [(wv c l i).1])
theorem wr_len (l : List Int) : ∀ (cs : List Col) (i : Nat) (out : List V), (wr l cs i out).1.length = out.length + cs.length
 | [], _, _ => rfl
 | c :: cs, i, out => by rw [wr, wr_len l cs]; simp; omega
theorem wr_le (l : List Int) : ∀ (cs : List Col) (i : Nat) (out : List V), i ≤ l.length → (wr l cs i out).2 ≤ l.length
 | [], _, _, h => h
 | c :: cs, i, out, h => by rw [wr]; exact wr_le l cs _ _ (wv_le c l i h)
set_option maxRecDepth 20000 in
theorem Row_rawG {P : Program} (F : F_z40 P) (cs : List Col) (hc : cs ≠ []) (hcl : cs.length ≤ 1000) (l : List Int) (i : Nat) (hi : i ≤ l.length) (hl : l.length ≤ 1000000) :
  ACalls P F.id [.list false 3 (cC cs), .ptr 0 1 0 0] [gO l i] (fun r H' => r = .sl 1 cs.length 0 cs.length ∧ H' = [gO l (wr l cs i []).2, .arr 3 (vC (wr l cs i []).1)]) := by
 refine acalls_of_body F.has ?_
 conv => whnf
 refine ⟨fun m ρ H1 => ∃ (k j : Nat) (out : List V), k + m = cs.length ∧ j ≤ l.length ∧ out.length = k ∧ wr l (cs.drop k) j out = wr l cs i [] ∧
  ((k = 0 ∧ H1 = [gO l j] ∧ Sv 23 [(0, .list false 3 (cC cs)), (1, .ptr 0 1 0 0), (5, .nil), (6, .int .i64 0)] ρ) ∨
  (0 < k ∧ H1 = [gO l j, .arr 3 (vC out)] ∧ Sv 23 [(0, .list false 3 (cC cs)), (1, .ptr 0 1 0 0), (5, .sl 1 k 0 k), (6, .int .i64 k)] ρ)), cs.length, [], ?_, ?_⟩
 ·exact ⟨0, i, [], by omega, hi, rfl, rfl, .inl ⟨rfl, rfl, Sv.intro rfl ⟨rfl, rfl, rfl, rfl, trivial⟩⟩⟩
 rintro m ρ H1 ⟨k, j, out, hk, hj, ho, hr, ⟨rfl, rfl, d, rfl⟩ | ⟨hk0, rfl, d, rfl⟩⟩
 ·have hlt0 : 0 < cs.length := List.length_pos_iff.2 hc
  (conv => whnf); refine recT (by rw [cC_length]; simp; omega) ?_
  have hx : cs[0]? = some cs[0] := List.getElem?_eq_getElem hlt0
  have hdr : cs.drop 0 = cs[0] :: cs.drop 1 := List.drop_eq_getElem_cons hlt0
  have ho0 : out = [] := List.eq_nil_of_length_eq_zero (by omega)
  subst ho0
  rw [hdr, wr] at hr
  (conv => whnf); refine And.intro (by omega) ?_
  (conv => whnf); refine recO (cC_at hx) ?_
  (conv => whnf); refine ACalls.mono (wValue_spec F.z42 cs[0] l j hj hl _ 0 rfl) ?_
  rintro r H' ⟨rfl, rfl⟩
  (conv => whnf); refine And.intro (⟨roomMul (by simp) (by omega), roomB_le (by simp)⟩) ?_
  conv => whnf
  refine ⟨m - 1, by omega, Gp.keep (live := [(0, .list false 3 (cC cs)), (1, .ptr 0 1 0 0), (5, .sl 1 1 0 1), (6, .int .i64 (1 : Nat))]) rfl ?_ fun ρ1 h => ⟨1, (wv cs[0] l j).2, [(wv cs[0] l j).1], by omega, wv_le _ _ _ hj, rfl, hr, .inr ⟨by omega, rfl, h⟩⟩⟩
  exact ⟨rfl, rfl, rfl, rfl, trivial⟩
 ·(conv => whnf); refine recA (fun hlt => ?_) (fun hlt => ?_)
  ·simp [cC_length] at hlt
   have hx : cs[k]? = some cs[k] := List.getElem?_eq_getElem hlt
   rw [List.drop_eq_getElem_cons hlt, wr] at hr
   (conv => whnf); refine And.intro (by omega) ?_
   (conv => whnf); refine recO (cC_at hx) ?_
   (conv => whnf); refine ACalls.mono (wValue_spec F.z42 cs[k] l j hj hl _ 0 rfl) ?_
   rintro r H' ⟨rfl, rfl⟩
   (conv => whnf); refine recT (by rw [vC_length, ho]; exact Nat.beq_refl _) ?_
   (conv => whnf); refine And.intro (⟨roomMul (by simp; omega) (by omega), roomB_le (by simp; omega), rfl, by rw [vC_length, ho]⟩) ?_
   conv => whnf
   have hcn : vC out ++ [valC (wv cs[k] l j).1] = vC (out ++ [(wv cs[k] l j).1]) := by rw [vC_append]; rfl
   have hln : (vC out ++ [valC (wv cs[k] l j).1]).length = k + 1 := by rw [hcn, vC_length]; simp [ho]
   refine ⟨m - 1, by omega, Gp.keep (live := [(0, .list false 3 (cC cs)), (1, .ptr 0 1 0 0), (5, .sl 1 (k + 1) 0 (k + 1)), (6, .int .i64 (k + 1 : Nat))]) rfl ?_ fun ρ1 h => ⟨k + 1, (wv cs[k] l j).2, out ++ [(wv cs[k] l j).1], by omega, wv_le _ _ _ hj, by simp [ho], hr, .inr ⟨by omega, by rw [← hcn]; rfl, h⟩⟩⟩
   exact ⟨rfl, rfl, slEq hln hln, intEq (wrapI _ (by omega) (by omega)), trivial⟩
  ·simp [cC_length] at hlt
   have hkl : k = cs.length := by omega
   rw [List.drop_of_length_le (by omega), wr] at hr
   conv => whnf
   subst hkl
   rw [← hr]
   exact ⟨rfl, rfl⟩
theorem wRow_spec {P : Program} (F : F_z40 P) (cs : List Col) (hc : cs ≠ []) (hcl : cs.length ≤ 1000) (l : List Int) (i : Nat) (hi : i ≤ l.length) (hl : l.length ≤ 1000000) (H : List AObj) (id : Nat) (ho : H[id]? = some (gO l i)) :
  ACalls P F.id [.list false 3 (cC cs), .ptr id 1 0 0] H (fun r H' => r = .sl H.length cs.length 0 cs.length ∧ H' = H.set id (gO l (wr l cs i []).2) ++ [.arr 3 (vC (wr l cs i []).1)]) := by
 refine (Row_rawG F cs hc hcl l i hi hl).frG (G := [.arr 3 (vC (wr l cs i []).1)]) ho rfl rfl ?_ (.cl rfl (.pt trivial)) ?_
 ·intro x hx
  rw [List.mem_singleton.1 hx]
  exact pureEs_vC _
 ·exact .sl 1 cs.length 0 cs.length
structure Src where
 cols : List Col
 key : List ByteArray
 late : Int
 reopen : Int
def srcX (b c : Bool) (s : Src) : List AVal := [.str (bs [115, 104, 111, 112, 46, 111, 114, 100, 101, 114, 115]), .list b 3 (cC s.cols), .list c 1 (sC s.key), .str (bs [97, 116]), .str (bs [122]), .int .i64 s.late, .int .i64 s.reopen]
def srcC (s : Src) : List AVal := srcX false false s
def wcols : List Col := [⟨bs [105, 100], 2, false⟩, ⟨bs [110, 97, 109, 101], 3, true⟩, ⟨bs [97, 116], 4, false⟩]
def wpart (n : Int) : Bool := (IntKind.i64.wrap (n.tdiv 16)) % 2 == 1
def wsrc (n : Int) : Src := ⟨if wpart n then wcols ++ [⟨bs [112, 97, 114, 116], 3, false⟩] else wcols, if wpart n then [bs [112, 97, 114, 116], bs [105, 100]] else [bs [105, 100]],
 [0, 60, 1440, 3000].getD (n % 4).toNat 0, [0, 100, 1500, 5000].getD ((IntKind.i64.wrap (n.tdiv 4)) % 4).toNat 0⟩
set_option maxRecDepth 20000 in
theorem Source_raw {P : Program} (F : F_z41 P) (n : Int) (H : List AObj) :
  ACalls P F.id [.int .i64 n] H (fun r H' => r = .agg (srcX (!wpart n) true (wsrc n)) ∧ H' = H) := by
 have b4 : ∀ x : Int, 0 ≤ x % 4 ∧ x % 4 < 4 := fun x => ⟨Int.emod_nonneg _ (by decide), Int.emod_lt_of_pos _ (by decide)⟩
 refine ACalls.pure rfl (acalls_of_body F.has ?_)
 have o1 : (iC [0, 60, 1440, 3000])[(n % 4).toNat]? = some [.int .i64 ([0, 60, 1440, 3000].getD (n % 4).toNat 0)] := iC_at (by have := b4 n; rw [List.getD_eq_getElem?_getD, List.getElem?_eq_getElem (by show (n % 4).toNat < 4; omega)]; rfl)
 have o2 : (iC [0, 100, 1500, 5000])[((IntKind.i64.wrap (n.tdiv 4)) % 4).toNat]? = some [.int .i64 ([0, 100, 1500, 5000].getD ((IntKind.i64.wrap (n.tdiv 4)) % 4).toNat 0)] := iC_at (by have := b4 (IntKind.i64.wrap (n.tdiv 4)); rw [List.getD_eq_getElem?_getD, List.getElem?_eq_getElem (by show ((IntKind.i64.wrap (n.tdiv 4)) % 4).toNat < 4; omega)]; rfl)
 (conv => whnf); refine ⟨_, wColumns_spec F.z3q _, ?_⟩
 (conv => whnf); refine ⟨_, Place_spec F.z3y n 4 (by decide) (by decide) _, ?_⟩
 (conv => whnf); refine And.intro ((b4 n).1) ?_
 (conv => whnf); refine recO (o1) ?_
 (conv => whnf); refine And.intro (by decide) ?_
 (conv => whnf); refine ⟨_, Place_spec F.z3y (IntKind.i64.wrap (n.tdiv 4)) 4 (by decide) (by decide) _, ?_⟩
 (conv => whnf); refine And.intro ((b4 _).1) ?_
 (conv => whnf); refine recO (o2) ?_
 (conv => whnf); refine And.intro (rfl) ?_
 (conv => whnf); refine And.intro (by (conv => whnf); refine And.intro (b4 _).1 ?_; (conv => whnf); refine recO o2 ?_; rfl) ?_
 (conv => whnf); refine And.intro (⟨_, Place_spec F.z3y (IntKind.i64.wrap (n.tdiv 4)) 4 (by decide) (by decide) _, rfl⟩) ?_
 (conv => whnf); refine And.intro (rfl) ?_
 (conv => whnf); refine And.intro (by (conv => whnf); refine And.intro (b4 _).1 ?_; (conv => whnf); refine recO o1 ?_; rfl) ?_
 (conv => whnf); refine And.intro (⟨_, Place_spec F.z3y n 4 (by decide) (by decide) _, rfl⟩) ?_
 (conv => whnf); refine And.intro (⟨_, wColumns_spec F.z3q _, rfl⟩) ?_
 (conv => whnf); refine And.intro (by decide) ?_
 (conv => whnf); refine ACalls.use (Place_spec F.z3y (IntKind.i64.wrap (n.tdiv 16)) 2 (by decide) (by decide) _) ?_
 (conv => whnf); refine recA (fun h1 => ?_) (fun h1 => ?_)
 ·replace h1 : wpart n = true := h1
  (conv => whnf); refine And.intro (by decide) ?_
  conv => whnf
  rw [h1, wsrc, h1]
  refine .agg _ _ rfl fun i v r h2 h3 => ?_
  rcases i with _ | _ | _ | _ | _ | _ | _ | i
  ·cases h2; cases h3; exact .closed _ rfl
  ·cases h2; cases h3
   exact pubFI (by simp) rfl rfl rfl (pureEs_cC _)
  ·cases h2; cases h3; exact .closed _ rfl
  ·cases h2; cases h3; exact .closed _ rfl
  ·cases h2; cases h3; exact .closed _ rfl
  ·cases h2; cases h3; exact .closed _ rfl
  ·cases h2; cases h3; exact .closed _ rfl
  ·simp at h2
 ·replace h1 : wpart n = false := h1
  conv => whnf
  rw [h1, wsrc, h1]
  exact .closed _ rfl
theorem Source_spec {P : Program} (F : F_z41 P) (n : Int) (H : List AObj) :
  ACalls P F.id [.int .i64 n] H (fun r H' => r = .agg (srcC (wsrc n)) ∧ H' = H) :=
 ACalls.weakR (Source_raw F n H) (by
  rintro r H' ⟨rfl, rfl⟩
  refine ⟨.agg (srcC (wsrc n)), .agg _ _ rfl fun i a b h1 h2 => ?_, rfl, rfl⟩
  rcases i with _ | _ | _ | _ | _ | _ | _ | i
  ·cases h1; cases h2; exact .refl _
  ·cases h1; cases h2; exact .list _ _ _ _ (by simp)
  ·cases h1; cases h2; exact .list _ _ _ _ (by simp)
  ·cases h1; cases h2; exact .refl _
  ·cases h1; cases h2; exact .refl _
  ·cases h1; cases h2; exact .refl _
  ·cases h1; cases h2; exact .refl _
  ·simp [srcX] at h1)
def sAt : ByteArray := bs [97, 116]
def keepC (key : List ByteArray) (c : Col) : Bool := inB key c.name || eqS c.name sAt
def delR (key : List ByteArray) : List Col → List V → List V
 | c :: cs, v :: vs => (if keepC key c then v else zV) :: delR key cs vs
 | _, _ => []
theorem delR_len (key : List ByteArray) : ∀ (cs : List Col) (vs : List V), vs.length = cs.length → (delR key cs vs).length = cs.length
 | [], [], _ => rfl
 | [], _ :: _, h => by simp at h
 | _ :: _, [], h => by simp at h
 | c :: cs, v :: vs, h => by rw [delR, List.length_cons, List.length_cons, delR_len key cs vs (by simpa using h)]
def delK (key : List ByteArray) (cs : List Col) (vs : List V) (k : Nat) : List V := delR key (cs.take k) (vs.take k)
theorem delK_succ (key : List ByteArray) : ∀ (cs : List Col) (vs : List V) (k : Nat) (c : Col) (v : V), cs[k]? = some c → vs[k]? = some v → delK key cs vs (k + 1) = delK key cs vs k ++ [if keepC key c then v else zV]
 | [], _, _, _, _, h, _ => by simp at h
 | _ :: _, [], _, _, _, _, h => by simp at h
 | c0 :: cs, v0 :: vs, 0, c, v, h1, h2 => by
  simp at h1 h2; subst h1 h2
  simp [delK, delR]
 | c0 :: cs, v0 :: vs, k + 1, c, v, h1, h2 => by
  have := delK_succ key cs vs k c v (by simpa using h1) (by simpa using h2)
  simp only [delK, List.take_succ_cons, delR] at this ⊢
  rw [this]; rfl
theorem delK_len (key : List ByteArray) (cs : List Col) (vs : List V) (k : Nat) (h : vs.length = cs.length) (hk : k ≤ cs.length) : (delK key cs vs k).length = k := by
 rw [delK, delR_len key _ _ (by simp; omega)]; simp; omega
def delO (s : Src) (r : Rec) (c : AVal) : List AObj := [.arr 7 [srcC s], .arr 3 [recC r], .arr 3 [[.bool false, .int .i64 0, .nil]], .arr 3 [[.bool true, .int .i64 r.seq, c]]]
theorem obR {H : List AObj} {ids : List Nat} {a : Bool} {b : Int} {c c1 : AVal} (h : Pub H 0 ids c c1) (hc : c1.isCell = true) : ObP H ids (.arr 3 [[.bool a, .int .i64 b, c]]) (.arr 3 [[.bool a, .int .i64 b, c1]]) := by
 refine .map 3 _ _ rfl (fun i e e1 h1 h2 => ?_) (fun i j e e1 d d1 h1 h2 h3 h4 => ?_)
 ·rcases i with _ | i
  ·cases h1; cases h2; rfl
  ·simp at h1
 ·rcases i with _ | i
  ·cases h1; cases h2
   rcases j with _ | _ | _ | j
   ·cases h3; cases h4; exact ⟨.closed _ rfl, rfl⟩
   ·cases h3; cases h4; exact ⟨.closed _ rfl, rfl⟩
   ·cases h3; cases h4; exact ⟨h, hc⟩
   ·simp at h3
  ·simp at h1
set_option maxRecDepth 20000 in
theorem Deletion_spec {P : Program} (F : F_z3r P) (s : Src) (r : Rec) (hr : r.row.length = s.cols.length) (hc : s.cols ≠ []) (hl : s.cols.length ≤ 1000) (hk : s.key.length ≤ 1000) (H : List AObj) :
  ACalls P F.id [.agg (srcC s), .agg (recC r)] H (fun x H' => x = .agg (recC ⟨true, r.seq, delR s.key s.cols r.row⟩) ∧ H' = H) := by
 refine ACalls.pure (by simp [AVal.closed, srcC, srcX, recC, AVal.isPure]) (acalls_of_body F.has ?_)
 have ps : pureEs [srcC s] = true := by simp [pureEs, srcC, srcX, AVal.isPure]
 have pr : pureEs [recC r] = true := by simp [pureEs, recC, AVal.isPure]
 conv => whnf
 refine ⟨fun m ρ H1 => ∃ k : Nat, k + m = s.cols.length ∧ ((k = 0 ∧ H1 = delO s r .nil) ∨ (0 < k ∧ H1 = delO s r (.sl 4 k 0 k) ++ [.arr 3 (vC (delK s.key s.cols r.row k))])) ∧
  Sv 51 [(2, .ptr 0 1 0 0), (3, .ptr 1 1 0 0), (4, .ptr 2 1 0 0), (5, .ptr 3 1 0 0), (6, .int .i64 k)] ρ, s.cols.length, [], ?_, ?_⟩
 ·exact ⟨0, by omega, .inl ⟨rfl, rfl⟩, Sv.intro rfl ⟨rfl, rfl, rfl, rfl, rfl, trivial⟩⟩
 rintro m ρ H1 ⟨k, hkm, ⟨rfl, rfl⟩ | ⟨hk0, rfl⟩, d, rfl⟩
 ·have hlt : 0 < s.cols.length := List.length_pos_iff.2 hc
  have hx : s.cols[0]? = some s.cols[0] := List.getElem?_eq_getElem hlt
  have hv : r.row[0]? = some r.row[0] := List.getElem?_eq_getElem (by omega)
  have hd0 := delK_succ s.key s.cols r.row 0 _ _ hx hv
  (conv => whnf); refine recT (by simp [cC_length]; omega) ?_
  (conv => whnf); refine And.intro (by omega) ?_
  (conv => whnf); refine recO (cC_at hx) ?_
  (conv => whnf); refine ⟨_, In_spec F.z2j s.key s.cols[0].name (by omega) _, ?_⟩
  (conv => whnf); refine recA (fun hin => ?_) (fun hin => ?_)
  ·have hkp : keepC s.key s.cols[0] = true := by rw [keepC, hin]; rfl
   have hd1 : delK s.key s.cols r.row 1 = [r.row[0]] := by rw [hd0, hkp]; rfl
   (conv => whnf); refine And.intro (by omega) ?_
   (conv => whnf); refine recO (vC_at hv) ?_
   (conv => whnf); refine And.intro (⟨roomMul (by simp) (by omega), roomB_le (by simp)⟩) ?_
   conv => whnf
   refine ⟨m - 1, by omega, Gp.some (n := 51) (live := [(2, .ptr 0 1 0 0), (3, .ptr 1 1 0 0), (4, .ptr 2 1 0 0), (5, .ptr 3 1 0 0), (6, .int .i64 (1 : Nat))]) (H1 := [.arr 7 [srcC s], .arr 3 [recC r], .arr 3 [[.bool false, .int .i64 0, .nil]], .arr 3 [[.bool true, .int .i64 r.seq, .sl 4 1 0 1]], .arr 3 [valC (r.row[0])]]) [0, 1, 2, 3, 5] (by simp)
    ⟨⟨_, rfl, .same _ _ ps⟩, ⟨_, rfl, .same _ _ pr⟩, ⟨_, rfl, .same _ _ rfl⟩, ⟨_, rfl, obR (.keep 5 _ _ _ 4 rfl) rfl⟩, ⟨_, rfl, .same _ _ rfl⟩, trivial⟩ rfl ?_ fun ρ1 h => ⟨1, by omega, .inr ⟨by omega, ?_⟩, h⟩⟩
   ·exact ⟨.keepP 0 1 0 0 0 rfl, .keepP 1 1 0 0 1 rfl, .keepP 2 1 0 0 2 rfl, .keepP 3 1 0 0 3 rfl, .closed _ rfl, trivial⟩
   ·rw [hd1]; rfl
  ·(conv => whnf); refine And.intro (by omega) ?_
   (conv => whnf); refine recO (cC_at hx) ?_
   (conv => whnf); refine recA (fun heq => ?_) (fun heq => ?_)
   ·have hkp : keepC s.key s.cols[0] = true := by rw [keepC, hin]; exact heq
    have hd1 : delK s.key s.cols r.row 1 = [r.row[0]] := by rw [hd0, hkp]; rfl
    (conv => whnf); refine And.intro (by omega) ?_
    (conv => whnf); refine recO (vC_at hv) ?_
    (conv => whnf); refine And.intro (⟨roomMul (by simp) (by omega), roomB_le (by simp)⟩) ?_
    conv => whnf
    refine ⟨m - 1, by omega, Gp.some (n := 51) (live := [(2, .ptr 0 1 0 0), (3, .ptr 1 1 0 0), (4, .ptr 2 1 0 0), (5, .ptr 3 1 0 0), (6, .int .i64 (1 : Nat))]) (H1 := [.arr 7 [srcC s], .arr 3 [recC r], .arr 3 [[.bool false, .int .i64 0, .nil]], .arr 3 [[.bool true, .int .i64 r.seq, .sl 4 1 0 1]], .arr 3 [valC (r.row[0])]]) [0, 1, 2, 3, 5] (by simp)
     ⟨⟨_, rfl, .same _ _ ps⟩, ⟨_, rfl, .same _ _ pr⟩, ⟨_, rfl, .same _ _ rfl⟩, ⟨_, rfl, obR (.keep 5 _ _ _ 4 rfl) rfl⟩, ⟨_, rfl, .same _ _ rfl⟩, trivial⟩ rfl ?_ fun ρ1 h => ⟨1, by omega, .inr ⟨by omega, ?_⟩, h⟩⟩
    ·exact ⟨.keepP 0 1 0 0 0 rfl, .keepP 1 1 0 0 1 rfl, .keepP 2 1 0 0 2 rfl, .keepP 3 1 0 0 3 rfl, .closed _ rfl, trivial⟩
    ·rw [hd1]; rfl
   ·have hkp : keepC s.key s.cols[0] = false := by rw [keepC, hin]; exact heq
    have hd1 : delK s.key s.cols r.row 1 = [zV] := by rw [hd0, hkp]; rfl
    (conv => whnf); refine And.intro (⟨roomMul (by simp) (by omega), roomB_le (by simp)⟩) ?_
    conv => whnf
    refine ⟨m - 1, by omega, Gp.some (n := 51) (live := [(2, .ptr 0 1 0 0), (3, .ptr 1 1 0 0), (4, .ptr 2 1 0 0), (5, .ptr 3 1 0 0), (6, .int .i64 (1 : Nat))]) (H1 := [.arr 7 [srcC s], .arr 3 [recC r], .arr 3 [[.bool false, .int .i64 0, .nil]], .arr 3 [[.bool true, .int .i64 r.seq, .sl 4 1 0 1]], .arr 3 [valC (zV)]]) [0, 1, 2, 3, 5] (by simp)
     ⟨⟨_, rfl, .same _ _ ps⟩, ⟨_, rfl, .same _ _ pr⟩, ⟨_, rfl, .same _ _ rfl⟩, ⟨_, rfl, obR (.keep 5 _ _ _ 4 rfl) rfl⟩, ⟨_, rfl, .same _ _ rfl⟩, trivial⟩ rfl ?_ fun ρ1 h => ⟨1, by omega, .inr ⟨by omega, ?_⟩, h⟩⟩
    ·exact ⟨.keepP 0 1 0 0 0 rfl, .keepP 1 1 0 0 1 rfl, .keepP 2 1 0 0 2 rfl, .keepP 3 1 0 0 3 rfl, .closed _ rfl, trivial⟩
    ·rw [hd1]; rfl
 ·(conv => whnf); refine recA (fun hlt => ?_) (fun hlt => ?_)
  ·simp [cC_length] at hlt
   have hx : s.cols[k]? = some s.cols[k] := List.getElem?_eq_getElem hlt
   have hv : r.row[k]? = some (r.row[k]'(by omega)) := List.getElem?_eq_getElem (by omega)
   have hd0 := delK_succ s.key s.cols r.row k _ _ hx hv
   have hdl := delK_len s.key s.cols r.row k hr (by omega)
   (conv => whnf); refine And.intro (by omega) ?_
   (conv => whnf); refine recO (cC_at hx) ?_
   (conv => whnf); refine ⟨_, In_spec F.z2j s.key s.cols[k].name (by omega) _, ?_⟩
   (conv => whnf); refine recA (fun hin => ?_) (fun hin => ?_)
   ·have hkp : keepC s.key s.cols[k] = true := by rw [keepC, hin]; rfl
    have hd1v : vC (delK s.key s.cols r.row (k + 1)) = vC (delK s.key s.cols r.row k) ++ [valC (r.row[k]'(by omega))] := by rw [hd0, hkp, vC_append]; rfl
    (conv => whnf); refine And.intro (by omega) ?_
    (conv => whnf); refine recO (vC_at hv) ?_
    (conv => whnf); refine recT (by rw [vC_length, hdl]; exact Nat.beq_refl _) ?_
    (conv => whnf); refine And.intro (⟨roomMul (by simp; omega) (by omega), roomB_le (by simp; omega), rfl, by rw [vC_length, hdl]⟩) ?_
    conv => whnf
    have hln : (vC (delK s.key s.cols r.row k) ++ [valC ((r.row[k]'(by omega)))]).length = k + 1 := by simp [vC_length, hdl]
    refine ⟨m - 1, by omega, Gp.some (n := 51) (live := [(2, .ptr 0 1 0 0), (3, .ptr 1 1 0 0), (4, .ptr 2 1 0 0), (5, .ptr 3 1 0 0), (6, .int .i64 (k + 1 : Nat))]) (H1 := [.arr 7 [srcC s], .arr 3 [recC r], .arr 3 [[.bool false, .int .i64 0, .nil]], .arr 3 [[.bool true, .int .i64 r.seq, .sl 4 (vC (delK s.key s.cols r.row k) ++ [valC ((r.row[k]'(by omega)))]).length 0 (vC (delK s.key s.cols r.row k) ++ [valC ((r.row[k]'(by omega)))]).length]], .arr 3 (vC (delK s.key s.cols r.row k) ++ [valC ((r.row[k]'(by omega)))])]) [0, 1, 2, 3, 4] (by simp)
     ⟨⟨_, rfl, .same _ _ ps⟩, ⟨_, rfl, .same _ _ pr⟩, ⟨_, rfl, .same _ _ rfl⟩, ⟨_, rfl, obR (.keep 4 _ _ _ 4 rfl) rfl⟩, ⟨_, rfl, .same _ _ ((congrArg pureEs hd1v.symm).trans (pureEs_vC _))⟩, trivial⟩ rfl ?_ fun ρ1 h => ⟨k + 1, by omega, .inr ⟨by omega, ?_⟩, h⟩⟩
    ·exact ⟨.keepP 0 1 0 0 0 rfl, .keepP 1 1 0 0 1 rfl, .keepP 2 1 0 0 2 rfl, .keepP 3 1 0 0 3 rfl, pub_int (wrapI _ (by omega) (by omega)), trivial⟩
    ·rw [hln, hd1v]; rfl
   ·(conv => whnf); refine And.intro (by omega) ?_
    (conv => whnf); refine recO (cC_at hx) ?_
    (conv => whnf); refine recA (fun heq => ?_) (fun heq => ?_)
    ·have hkp : keepC s.key s.cols[k] = true := by rw [keepC, hin]; exact heq
     have hd1v : vC (delK s.key s.cols r.row (k + 1)) = vC (delK s.key s.cols r.row k) ++ [valC (r.row[k]'(by omega))] := by rw [hd0, hkp, vC_append]; rfl
     (conv => whnf); refine And.intro (by omega) ?_
     (conv => whnf); refine recO (vC_at hv) ?_
     (conv => whnf); refine recT (by rw [vC_length, hdl]; exact Nat.beq_refl _) ?_
     (conv => whnf); refine And.intro (⟨roomMul (by simp; omega) (by omega), roomB_le (by simp; omega), rfl, by rw [vC_length, hdl]⟩) ?_
     conv => whnf
     have hln : (vC (delK s.key s.cols r.row k) ++ [valC ((r.row[k]'(by omega)))]).length = k + 1 := by simp [vC_length, hdl]
     refine ⟨m - 1, by omega, Gp.some (n := 51) (live := [(2, .ptr 0 1 0 0), (3, .ptr 1 1 0 0), (4, .ptr 2 1 0 0), (5, .ptr 3 1 0 0), (6, .int .i64 (k + 1 : Nat))]) (H1 := [.arr 7 [srcC s], .arr 3 [recC r], .arr 3 [[.bool false, .int .i64 0, .nil]], .arr 3 [[.bool true, .int .i64 r.seq, .sl 4 (vC (delK s.key s.cols r.row k) ++ [valC ((r.row[k]'(by omega)))]).length 0 (vC (delK s.key s.cols r.row k) ++ [valC ((r.row[k]'(by omega)))]).length]], .arr 3 (vC (delK s.key s.cols r.row k) ++ [valC ((r.row[k]'(by omega)))])]) [0, 1, 2, 3, 4] (by simp)
      ⟨⟨_, rfl, .same _ _ ps⟩, ⟨_, rfl, .same _ _ pr⟩, ⟨_, rfl, .same _ _ rfl⟩, ⟨_, rfl, obR (.keep 4 _ _ _ 4 rfl) rfl⟩, ⟨_, rfl, .same _ _ ((congrArg pureEs hd1v.symm).trans (pureEs_vC _))⟩, trivial⟩ rfl ?_ fun ρ1 h => ⟨k + 1, by omega, .inr ⟨by omega, ?_⟩, h⟩⟩
     ·exact ⟨.keepP 0 1 0 0 0 rfl, .keepP 1 1 0 0 1 rfl, .keepP 2 1 0 0 2 rfl, .keepP 3 1 0 0 3 rfl, pub_int (wrapI _ (by omega) (by omega)), trivial⟩
     ·rw [hln, hd1v]; rfl
    ·have hkp : keepC s.key s.cols[k] = false := by rw [keepC, hin]; exact heq
     have hd1v : vC (delK s.key s.cols r.row (k + 1)) = vC (delK s.key s.cols r.row k) ++ [valC zV] := by rw [hd0, hkp, vC_append]; rfl
     (conv => whnf); refine recT (by rw [vC_length, hdl]; exact Nat.beq_refl _) ?_
     (conv => whnf); refine And.intro (⟨roomMul (by simp; omega) (by omega), roomB_le (by simp; omega), rfl, by rw [vC_length, hdl]⟩) ?_
     conv => whnf
     have hln : (vC (delK s.key s.cols r.row k) ++ [valC (zV)]).length = k + 1 := by simp [vC_length, hdl]
     refine ⟨m - 1, by omega, Gp.some (n := 51) (live := [(2, .ptr 0 1 0 0), (3, .ptr 1 1 0 0), (4, .ptr 2 1 0 0), (5, .ptr 3 1 0 0), (6, .int .i64 (k + 1 : Nat))]) (H1 := [.arr 7 [srcC s], .arr 3 [recC r], .arr 3 [[.bool false, .int .i64 0, .nil]], .arr 3 [[.bool true, .int .i64 r.seq, .sl 4 (vC (delK s.key s.cols r.row k) ++ [valC (zV)]).length 0 (vC (delK s.key s.cols r.row k) ++ [valC (zV)]).length]], .arr 3 (vC (delK s.key s.cols r.row k) ++ [valC (zV)])]) [0, 1, 2, 3, 4] (by simp)
      ⟨⟨_, rfl, .same _ _ ps⟩, ⟨_, rfl, .same _ _ pr⟩, ⟨_, rfl, .same _ _ rfl⟩, ⟨_, rfl, obR (.keep 4 _ _ _ 4 rfl) rfl⟩, ⟨_, rfl, .same _ _ ((congrArg pureEs hd1v.symm).trans (pureEs_vC _))⟩, trivial⟩ rfl ?_ fun ρ1 h => ⟨k + 1, by omega, .inr ⟨by omega, ?_⟩, h⟩⟩
     ·exact ⟨.keepP 0 1 0 0 0 rfl, .keepP 1 1 0 0 1 rfl, .keepP 2 1 0 0 2 rfl, .keepP 3 1 0 0 3 rfl, pub_int (wrapI _ (by omega) (by omega)), trivial⟩
     ·rw [hln, hd1v]; rfl
  ·simp [cC_length] at hlt
   have hkl : k = s.cols.length := by omega
   have hd2 : delK s.key s.cols r.row k = delR s.key s.cols r.row := by rw [delK, hkl, List.take_length, ← hr, List.take_length]
   have hdl := delK_len s.key s.cols r.row k hr (by omega)
   conv => whnf
   refine .agg _ _ rfl fun i v x h1 h2 => ?_
   rcases i with _ | _ | _ | i
   ·cases h1; cases h2; exact .closed _ rfl
   ·cases h1; cases h2; exact .closed _ rfl
   ·cases h1; cases h2
    rw [← hd2]
    exact pubFI (by simp) rfl (by rw [vC_length, hdl]) (by rw [vC_length, hdl]) (pureEs_vC _)
   ·simp at h1
def wk (s : Src) (l : List Int) (i : Nat) : Int × Nat := nx l (wr l s.cols (nx l i 4).2 []).2 24
def wrow (s : Src) (l : List Int) (i : Nat) : List V := (wr l s.cols (nx l i 4).2 []).1
def wrec (s : Src) (l : List Int) (i : Nat) : Rec × Nat :=
 if (wk s l i).1 < 5 then (⟨true, (nx l i 4).1, delR s.key s.cols (wrow s l i)⟩, (wk s l i).2)
 else if (wk s l i).1 = 5 then (⟨true, (nx l i 4).1, wrow s l i⟩, (wk s l i).2)
 else if (wk s l i).1 = 6 then (⟨false, (nx l i 4).1, (wrow s l i).take (s.cols.length - 1)⟩, (wk s l i).2)
 else if (wk s l i).1 = 7 then (⟨false, (nx l i 4).1, (wrow s l i).set (nx l (wk s l i).2 s.cols.length).1.toNat ⟨1, 1, bs []⟩⟩, (nx l (wk s l i).2 s.cols.length).2)
 else if (wk s l i).1 = 8 then (⟨false, -1, wrow s l i⟩, (wk s l i).2)
 else (⟨false, (nx l i 4).1, wrow s l i⟩, (wk s l i).2)
theorem wrow_len (s : Src) (l : List Int) (i : Nat) : (wrow s l i).length = s.cols.length := by rw [wrow, wr_len]; simp
theorem wk_le (s : Src) (l : List Int) (i : Nat) (h : i ≤ l.length) : (wk s l i).2 ≤ l.length := nx_le _ _ _ (wr_le _ _ _ _ (nx_le _ _ _ h))
theorem wrec_le (s : Src) (l : List Int) (i : Nat) (h : i ≤ l.length) : (wrec s l i).2 ≤ l.length := by
 have := wk_le s l i h
 unfold wrec
 repeat' split
 all_goals first
  | exact this
  | exact nx_le _ _ _ this
def RecRaw (s : Src) (l : List Int) (i : Nat) (r : AVal) (H' : List AObj) : Prop :=
 ∃ c, r = .agg [.bool (wrec s l i).1.del, .int .i64 (wrec s l i).1.seq, c] ∧
  ((c = .list false 3 (vC (wrec s l i).1.row) ∧ ∃ t, H' = gO l (wrec s l i).2 :: t) ∨
  ∃ m R x y z, c = .sl 3 (vC R).length 0 m ∧ ((vC R).drop 0).take m = vC (wrec s l i).1.row ∧ H' = [gO l (wrec s l i).2, x, y, .arr 3 (vC R), z])
set_option maxRecDepth 20000 in
theorem Record_raw {P : Program} (F : F_z3z P) (s : Src) (hc : s.cols ≠ []) (hcl : s.cols.length ≤ 1000) (hk : s.key.length ≤ 1000) (l : List Int) (i : Nat) (hi : i ≤ l.length) (hl : l.length ≤ 1000000) :
  ACalls P F.id [.agg (srcC s), .ptr 0 1 0 0] [gO l i] (RecRaw s l i) := by
 have nk0 := fun H id ho => Next_spec F.z3x l (wr l s.cols (nx l i 4).2 []).2 24 (wr_le _ _ _ _ (nx_le _ _ _ hi)) hl (by decide) H id ho
 have hkb := nx_bnd l (wr l s.cols (nx l i 4).2 []).2 24 (by decide)
 have hrl : (wrow s l i).length = s.cols.length := wrow_len s l i
 have hvl : (vC (wrow s l i)).length = s.cols.length := by rw [vC_length, hrl]
 have ps : pureEs [srcC s] = true := by simp [pureEs, srcC, srcX, AVal.isPure]
 have hcp : 0 < s.cols.length := List.length_pos_iff.2 hc
 have htk : ((vC (wrow s l i)).drop 0).take s.cols.length = vC (wrow s l i) := by rw [List.drop_zero, ← hvl, List.take_length]
 have hcs : (wk s l i).1 = 0 ∨ (wk s l i).1 = 1 ∨ (wk s l i).1 = 2 ∨ (wk s l i).1 = 3 ∨ (wk s l i).1 = 4 ∨ (wk s l i).1 = 5 ∨ (wk s l i).1 = 6 ∨ (wk s l i).1 = 7 ∨ (wk s l i).1 = 8 ∨ 9 ≤ (wk s l i).1 := by
  change 0 ≤ (wk s l i).1 ∧ _ at hkb
  omega
 rcases hcs with hz | hz | hz | hz | hz | hz | hz | hz | hz | hz
 ·have nk := nk0
  rw [show (nx l (wr l s.cols (nx l i 4).2 []).2 24).1 = 0 from hz] at nk
  refine acalls_of_body F.has ?_
  (conv => whnf); refine ⟨_, _, Next_spec F.z3x l i 4 hi hl (by decide) _ 0 rfl, ?_⟩
  (conv => whnf); refine ⟨_, _, wRow_spec F.z40 s.cols hc hcl l (nx l i 4).2 (nx_le _ _ _ hi) hl _ 0 rfl, ?_⟩
  (conv => whnf); refine And.intro (rfl) ?_
  (conv => whnf); refine ACalls.mono (nk _ 0 rfl) ?_
  rintro r H' ⟨rfl, rfl⟩
  conv => whnf
  refine ⟨Gp.keepL (n := 52) (live := [(1, .ptr 0 1 0 0), (2, .ptr 1 1 0 0), (4, .ptr 2 1 0 0), (5, .ptr 3 1 0 0), (14, .int .i64 (0))]) (H1 := [gO l (wk s l i).2, .arr 7 [srcC s], .arr 3 [[.bool false, .int .i64 0, .nil]], .arr 3 [recC ⟨false, (nx l i 4).1, wrow s l i⟩]]) [0, 1, 2, 4] (by simp) (keepB_one rfl rfl rfl)
   ⟨⟨_, rfl, .same _ _ rfl⟩, ⟨_, rfl, .same _ _ ps⟩, ⟨_, rfl, .same _ _ rfl⟩, ⟨_, rfl, obR (pubFI (by simp) rfl hvl.symm hvl.symm (pureEs_vC _)) rfl⟩, trivial⟩ rfl ⟨.keepP 0 1 0 0 0 rfl, .keepP 1 1 0 0 1 rfl, .keepP 2 1 0 0 2 rfl, .keepP 4 1 0 0 3 rfl, .closed _ rfl, trivial⟩ ?_⟩
  rintro ρ1 ⟨d, rfl⟩
  (conv => whnf); refine ACalls.use (Deletion_spec F.z3r s ⟨false, (nx l i 4).1, wrow s l i⟩ hrl hc hcl hk _) ?_
  conv => whnf
  have e : wrec s l i = (⟨true, (nx l i 4).1, delR s.key s.cols (wrow s l i)⟩, (wk s l i).2) := by rw [wrec, if_pos (by rw [hz]; decide)]
  show RecRaw s l i _ _
  unfold RecRaw
  rw [e]
  exact ⟨_, rfl, .inl ⟨rfl, _, rfl⟩⟩
 ·have nk := nk0
  rw [show (nx l (wr l s.cols (nx l i 4).2 []).2 24).1 = 1 from hz] at nk
  refine acalls_of_body F.has ?_
  (conv => whnf); refine ⟨_, _, Next_spec F.z3x l i 4 hi hl (by decide) _ 0 rfl, ?_⟩
  (conv => whnf); refine ⟨_, _, wRow_spec F.z40 s.cols hc hcl l (nx l i 4).2 (nx_le _ _ _ hi) hl _ 0 rfl, ?_⟩
  (conv => whnf); refine And.intro (rfl) ?_
  (conv => whnf); refine ACalls.mono (nk _ 0 rfl) ?_
  rintro r H' ⟨rfl, rfl⟩
  conv => whnf
  refine ⟨Gp.keepL (n := 52) (live := [(1, .ptr 0 1 0 0), (2, .ptr 1 1 0 0), (4, .ptr 2 1 0 0), (5, .ptr 3 1 0 0), (14, .int .i64 (1))]) (H1 := [gO l (wk s l i).2, .arr 7 [srcC s], .arr 3 [[.bool false, .int .i64 0, .nil]], .arr 3 [recC ⟨false, (nx l i 4).1, wrow s l i⟩]]) [0, 1, 2, 4] (by simp) (keepB_one rfl rfl rfl)
   ⟨⟨_, rfl, .same _ _ rfl⟩, ⟨_, rfl, .same _ _ ps⟩, ⟨_, rfl, .same _ _ rfl⟩, ⟨_, rfl, obR (pubFI (by simp) rfl hvl.symm hvl.symm (pureEs_vC _)) rfl⟩, trivial⟩ rfl ⟨.keepP 0 1 0 0 0 rfl, .keepP 1 1 0 0 1 rfl, .keepP 2 1 0 0 2 rfl, .keepP 4 1 0 0 3 rfl, .closed _ rfl, trivial⟩ ?_⟩
  rintro ρ1 ⟨d, rfl⟩
  (conv => whnf); refine ACalls.use (Deletion_spec F.z3r s ⟨false, (nx l i 4).1, wrow s l i⟩ hrl hc hcl hk _) ?_
  conv => whnf
  have e : wrec s l i = (⟨true, (nx l i 4).1, delR s.key s.cols (wrow s l i)⟩, (wk s l i).2) := by rw [wrec, if_pos (by rw [hz]; decide)]
  show RecRaw s l i _ _
  unfold RecRaw
  rw [e]
  exact ⟨_, rfl, .inl ⟨rfl, _, rfl⟩⟩
 ·have nk := nk0
  rw [show (nx l (wr l s.cols (nx l i 4).2 []).2 24).1 = 2 from hz] at nk
  refine acalls_of_body F.has ?_
  (conv => whnf); refine ⟨_, _, Next_spec F.z3x l i 4 hi hl (by decide) _ 0 rfl, ?_⟩
  (conv => whnf); refine ⟨_, _, wRow_spec F.z40 s.cols hc hcl l (nx l i 4).2 (nx_le _ _ _ hi) hl _ 0 rfl, ?_⟩
  (conv => whnf); refine And.intro (rfl) ?_
  (conv => whnf); refine ACalls.mono (nk _ 0 rfl) ?_
  rintro r H' ⟨rfl, rfl⟩
  conv => whnf
  refine ⟨Gp.keepL (n := 52) (live := [(1, .ptr 0 1 0 0), (2, .ptr 1 1 0 0), (4, .ptr 2 1 0 0), (5, .ptr 3 1 0 0), (14, .int .i64 (2))]) (H1 := [gO l (wk s l i).2, .arr 7 [srcC s], .arr 3 [[.bool false, .int .i64 0, .nil]], .arr 3 [recC ⟨false, (nx l i 4).1, wrow s l i⟩]]) [0, 1, 2, 4] (by simp) (keepB_one rfl rfl rfl)
   ⟨⟨_, rfl, .same _ _ rfl⟩, ⟨_, rfl, .same _ _ ps⟩, ⟨_, rfl, .same _ _ rfl⟩, ⟨_, rfl, obR (pubFI (by simp) rfl hvl.symm hvl.symm (pureEs_vC _)) rfl⟩, trivial⟩ rfl ⟨.keepP 0 1 0 0 0 rfl, .keepP 1 1 0 0 1 rfl, .keepP 2 1 0 0 2 rfl, .keepP 4 1 0 0 3 rfl, .closed _ rfl, trivial⟩ ?_⟩
  rintro ρ1 ⟨d, rfl⟩
  (conv => whnf); refine ACalls.use (Deletion_spec F.z3r s ⟨false, (nx l i 4).1, wrow s l i⟩ hrl hc hcl hk _) ?_
  conv => whnf
  have e : wrec s l i = (⟨true, (nx l i 4).1, delR s.key s.cols (wrow s l i)⟩, (wk s l i).2) := by rw [wrec, if_pos (by rw [hz]; decide)]
  show RecRaw s l i _ _
  unfold RecRaw
  rw [e]
  exact ⟨_, rfl, .inl ⟨rfl, _, rfl⟩⟩
 ·have nk := nk0
  rw [show (nx l (wr l s.cols (nx l i 4).2 []).2 24).1 = 3 from hz] at nk
  refine acalls_of_body F.has ?_
  (conv => whnf); refine ⟨_, _, Next_spec F.z3x l i 4 hi hl (by decide) _ 0 rfl, ?_⟩
  (conv => whnf); refine ⟨_, _, wRow_spec F.z40 s.cols hc hcl l (nx l i 4).2 (nx_le _ _ _ hi) hl _ 0 rfl, ?_⟩
  (conv => whnf); refine And.intro (rfl) ?_
  (conv => whnf); refine ACalls.mono (nk _ 0 rfl) ?_
  rintro r H' ⟨rfl, rfl⟩
  conv => whnf
  refine ⟨Gp.keepL (n := 52) (live := [(1, .ptr 0 1 0 0), (2, .ptr 1 1 0 0), (4, .ptr 2 1 0 0), (5, .ptr 3 1 0 0), (14, .int .i64 (3))]) (H1 := [gO l (wk s l i).2, .arr 7 [srcC s], .arr 3 [[.bool false, .int .i64 0, .nil]], .arr 3 [recC ⟨false, (nx l i 4).1, wrow s l i⟩]]) [0, 1, 2, 4] (by simp) (keepB_one rfl rfl rfl)
   ⟨⟨_, rfl, .same _ _ rfl⟩, ⟨_, rfl, .same _ _ ps⟩, ⟨_, rfl, .same _ _ rfl⟩, ⟨_, rfl, obR (pubFI (by simp) rfl hvl.symm hvl.symm (pureEs_vC _)) rfl⟩, trivial⟩ rfl ⟨.keepP 0 1 0 0 0 rfl, .keepP 1 1 0 0 1 rfl, .keepP 2 1 0 0 2 rfl, .keepP 4 1 0 0 3 rfl, .closed _ rfl, trivial⟩ ?_⟩
  rintro ρ1 ⟨d, rfl⟩
  (conv => whnf); refine ACalls.use (Deletion_spec F.z3r s ⟨false, (nx l i 4).1, wrow s l i⟩ hrl hc hcl hk _) ?_
  conv => whnf
  have e : wrec s l i = (⟨true, (nx l i 4).1, delR s.key s.cols (wrow s l i)⟩, (wk s l i).2) := by rw [wrec, if_pos (by rw [hz]; decide)]
  show RecRaw s l i _ _
  unfold RecRaw
  rw [e]
  exact ⟨_, rfl, .inl ⟨rfl, _, rfl⟩⟩
 ·have nk := nk0
  rw [show (nx l (wr l s.cols (nx l i 4).2 []).2 24).1 = 4 from hz] at nk
  refine acalls_of_body F.has ?_
  (conv => whnf); refine ⟨_, _, Next_spec F.z3x l i 4 hi hl (by decide) _ 0 rfl, ?_⟩
  (conv => whnf); refine ⟨_, _, wRow_spec F.z40 s.cols hc hcl l (nx l i 4).2 (nx_le _ _ _ hi) hl _ 0 rfl, ?_⟩
  (conv => whnf); refine And.intro (rfl) ?_
  (conv => whnf); refine ACalls.mono (nk _ 0 rfl) ?_
  rintro r H' ⟨rfl, rfl⟩
  conv => whnf
  refine ⟨Gp.keepL (n := 52) (live := [(1, .ptr 0 1 0 0), (2, .ptr 1 1 0 0), (4, .ptr 2 1 0 0), (5, .ptr 3 1 0 0), (14, .int .i64 (4))]) (H1 := [gO l (wk s l i).2, .arr 7 [srcC s], .arr 3 [[.bool false, .int .i64 0, .nil]], .arr 3 [recC ⟨false, (nx l i 4).1, wrow s l i⟩]]) [0, 1, 2, 4] (by simp) (keepB_one rfl rfl rfl)
   ⟨⟨_, rfl, .same _ _ rfl⟩, ⟨_, rfl, .same _ _ ps⟩, ⟨_, rfl, .same _ _ rfl⟩, ⟨_, rfl, obR (pubFI (by simp) rfl hvl.symm hvl.symm (pureEs_vC _)) rfl⟩, trivial⟩ rfl ⟨.keepP 0 1 0 0 0 rfl, .keepP 1 1 0 0 1 rfl, .keepP 2 1 0 0 2 rfl, .keepP 4 1 0 0 3 rfl, .closed _ rfl, trivial⟩ ?_⟩
  rintro ρ1 ⟨d, rfl⟩
  (conv => whnf); refine ACalls.use (Deletion_spec F.z3r s ⟨false, (nx l i 4).1, wrow s l i⟩ hrl hc hcl hk _) ?_
  conv => whnf
  have e : wrec s l i = (⟨true, (nx l i 4).1, delR s.key s.cols (wrow s l i)⟩, (wk s l i).2) := by rw [wrec, if_pos (by rw [hz]; decide)]
  show RecRaw s l i _ _
  unfold RecRaw
  rw [e]
  exact ⟨_, rfl, .inl ⟨rfl, _, rfl⟩⟩
 ·have nk := nk0
  rw [show (nx l (wr l s.cols (nx l i 4).2 []).2 24).1 = 5 from hz] at nk
  refine acalls_of_body F.has ?_
  (conv => whnf); refine ⟨_, _, Next_spec F.z3x l i 4 hi hl (by decide) _ 0 rfl, ?_⟩
  (conv => whnf); refine ⟨_, _, wRow_spec F.z40 s.cols hc hcl l (nx l i 4).2 (nx_le _ _ _ hi) hl _ 0 rfl, ?_⟩
  (conv => whnf); refine And.intro (rfl) ?_
  (conv => whnf); refine ACalls.mono (nk _ 0 rfl) ?_
  rintro r H' ⟨rfl, rfl⟩
  conv => whnf
  refine ⟨Gp.keep (n := 52) (live := [(1, .ptr 0 1 0 0), (2, .ptr 1 1 0 0), (4, .ptr 2 1 0 0), (5, .ptr 4 1 0 0), (14, .int .i64 (5))]) rfl ⟨rfl, rfl, rfl, rfl, rfl, trivial⟩ ?_⟩
  rintro ρ1 ⟨d, rfl⟩
  conv => whnf
  have e : wrec s l i = (⟨true, (nx l i 4).1, wrow s l i⟩, (wk s l i).2) := by rw [wrec, if_neg (by rw [hz]; decide), if_pos hz]
  show RecRaw s l i _ _
  unfold RecRaw
  rw [e]
  exact ⟨_, rfl, .inr ⟨s.cols.length, wrow s l i, _, _, _, by rw [hvl]; rfl, htk, rfl⟩⟩
 ·have nk := nk0
  rw [show (nx l (wr l s.cols (nx l i 4).2 []).2 24).1 = 6 from hz] at nk
  refine acalls_of_body F.has ?_
  (conv => whnf); refine ⟨_, _, Next_spec F.z3x l i 4 hi hl (by decide) _ 0 rfl, ?_⟩
  (conv => whnf); refine ⟨_, _, wRow_spec F.z40 s.cols hc hcl l (nx l i 4).2 (nx_le _ _ _ hi) hl _ 0 rfl, ?_⟩
  (conv => whnf); refine And.intro (rfl) ?_
  (conv => whnf); refine ACalls.mono (nk _ 0 rfl) ?_
  rintro r H' ⟨rfl, rfl⟩
  conv => whnf
  refine ⟨Gp.keep (n := 52) (live := [(1, .ptr 0 1 0 0), (2, .ptr 1 1 0 0), (4, .ptr 2 1 0 0), (5, .ptr 4 1 0 0), (14, .int .i64 (6))]) rfl ⟨rfl, rfl, rfl, rfl, rfl, trivial⟩ ?_⟩
  rintro ρ1 ⟨d, rfl⟩
  have ew : IntKind.i64.wrap ((s.cols.length : Int) - 1) = ((s.cols.length - 1 : Nat) : Int) := by rw [wrapI _ (by omega) (by omega)]; omega
  have hb : Nat.beq s.cols.length (vC (wrow s l i)).length = true := by rw [hvl]; exact Nat.beq_refl _
  (conv => whnf); refine recT (hb) ?_
  (conv => whnf); refine recT (hb) ?_
  (conv => whnf); refine And.intro (by rw [ew]; omega) ?_
  conv => whnf
  have e : wrec s l i = (⟨false, (nx l i 4).1, (wrow s l i).take (s.cols.length - 1)⟩, (wk s l i).2) := by rw [wrec, if_neg (by rw [hz]; decide), if_neg (by rw [hz]; decide), if_pos hz]
  show RecRaw s l i _ _
  unfold RecRaw
  rw [e]
  refine ⟨_, rfl, .inr ⟨s.cols.length - 1, wrow s l i, _, _, _, ?_, ?_, rfl⟩⟩
  ·show AVal.sl 3 s.cols.length 0 ((IntKind.i64.wrap ((s.cols.length : Int) - 1)).toNat - 0) = _
   rw [ew, hvl, Int.toNat_natCast]; rfl
  ·rw [List.drop_zero]; simp [vC, List.map_take]
 ·have nk := nk0
  rw [show (nx l (wr l s.cols (nx l i 4).2 []).2 24).1 = 7 from hz] at nk
  refine acalls_of_body F.has ?_
  (conv => whnf); refine ⟨_, _, Next_spec F.z3x l i 4 hi hl (by decide) _ 0 rfl, ?_⟩
  (conv => whnf); refine ⟨_, _, wRow_spec F.z40 s.cols hc hcl l (nx l i 4).2 (nx_le _ _ _ hi) hl _ 0 rfl, ?_⟩
  (conv => whnf); refine And.intro (rfl) ?_
  (conv => whnf); refine ACalls.mono (nk _ 0 rfl) ?_
  rintro r H' ⟨rfl, rfl⟩
  conv => whnf
  refine ⟨Gp.keep (n := 52) (live := [(1, .ptr 0 1 0 0), (2, .ptr 1 1 0 0), (4, .ptr 2 1 0 0), (5, .ptr 4 1 0 0), (14, .int .i64 (7))]) rfl ⟨rfl, rfl, rfl, rfl, rfl, trivial⟩ ?_⟩
  rintro ρ1 ⟨d, rfl⟩
  have hb : Nat.beq s.cols.length (vC (wrow s l i)).length = true := by rw [hvl]; exact Nat.beq_refl _
  have hn7 := nx_bnd l (wk s l i).2 s.cols.length (by omega)
  (conv => whnf); refine recT (hb) ?_
  (conv => whnf); refine ⟨_, _, Next_spec F.z3x l (wk s l i).2 s.cols.length (wk_le s l i hi) hl (by omega) _ 0 rfl, ?_⟩
  (conv => whnf); refine recT (hb) ?_
  (conv => whnf); refine And.intro (hn7) ?_
  (conv => whnf); refine recT (hb) ?_
  (conv => whnf); refine recO (vC_at (l := wrow s l i) (k := 0 + (nx l (wk s l i).2 s.cols.length).1.toNat) (List.getElem?_eq_getElem (by omega))) ?_
  (conv => whnf); refine And.intro (rfl) ?_
  conv => whnf
  have e : wrec s l i = (⟨false, (nx l i 4).1, (wrow s l i).set (nx l (wk s l i).2 s.cols.length).1.toNat ⟨1, 1, bs []⟩⟩, (nx l (wk s l i).2 s.cols.length).2) := by rw [wrec, if_neg (by rw [hz]; decide), if_neg (by rw [hz]; decide), if_neg (by rw [hz]; decide), if_pos hz]
  show RecRaw s l i _ _
  unfold RecRaw
  rw [e]
  have ht : ∀ X : List (List AVal), X.length = s.cols.length → (X.drop 0).take s.cols.length = X := fun X h => by rw [List.drop_zero, ← h, List.take_length]
  have hsl : (vC ((wrow s l i).set (nx l (wk s l i).2 s.cols.length).1.toNat ⟨1, 1, bs []⟩)).length = s.cols.length := by rw [vC_length, List.length_set, hrl]
  have hset : setEs (vC (wrow s l i)) (0 + (nx l (wk s l i).2 s.cols.length).1.toNat) (valC ⟨1, 1, bs []⟩) = vC ((wrow s l i).set (nx l (wk s l i).2 s.cols.length).1.toNat ⟨1, 1, bs []⟩) := by rw [Nat.zero_add, setEs_vC]
  exact ⟨_, rfl, .inr ⟨s.cols.length, (wrow s l i).set (nx l (wk s l i).2 s.cols.length).1.toNat ⟨1, 1, bs []⟩, _, _, _, by rw [hsl]; rfl, ht _ hsl, (congrArg (fun X => [gO l (nx l (wk s l i).2 s.cols.length).2, _, _, AObj.arr 3 X, _]) hset)⟩⟩
 ·have nk := nk0
  rw [show (nx l (wr l s.cols (nx l i 4).2 []).2 24).1 = 8 from hz] at nk
  refine acalls_of_body F.has ?_
  (conv => whnf); refine ⟨_, _, Next_spec F.z3x l i 4 hi hl (by decide) _ 0 rfl, ?_⟩
  (conv => whnf); refine ⟨_, _, wRow_spec F.z40 s.cols hc hcl l (nx l i 4).2 (nx_le _ _ _ hi) hl _ 0 rfl, ?_⟩
  (conv => whnf); refine And.intro (rfl) ?_
  (conv => whnf); refine ACalls.mono (nk _ 0 rfl) ?_
  rintro r H' ⟨rfl, rfl⟩
  conv => whnf
  refine ⟨Gp.keep (n := 52) (live := [(1, .ptr 0 1 0 0), (2, .ptr 1 1 0 0), (4, .ptr 2 1 0 0), (5, .ptr 4 1 0 0), (14, .int .i64 (8))]) rfl ⟨rfl, rfl, rfl, rfl, rfl, trivial⟩ ?_⟩
  rintro ρ1 ⟨d, rfl⟩
  conv => whnf
  have e : wrec s l i = (⟨false, -1, wrow s l i⟩, (wk s l i).2) := by rw [wrec, if_neg (by rw [hz]; decide), if_neg (by rw [hz]; decide), if_neg (by rw [hz]; decide), if_neg (by rw [hz]; decide), if_pos hz]
  show RecRaw s l i _ _
  unfold RecRaw
  rw [e]
  exact ⟨_, rfl, .inr ⟨s.cols.length, wrow s l i, _, _, _, by rw [hvl]; rfl, htk, rfl⟩⟩
 ·have nk := nk0
  rw [show (nx l (wr l s.cols (nx l i 4).2 []).2 24).1 = (wk s l i).1 from rfl] at nk
  refine acalls_of_body F.has ?_
  (conv => whnf); refine ⟨_, _, Next_spec F.z3x l i 4 hi hl (by decide) _ 0 rfl, ?_⟩
  (conv => whnf); refine ⟨_, _, wRow_spec F.z40 s.cols hc hcl l (nx l i 4).2 (nx_le _ _ _ hi) hl _ 0 rfl, ?_⟩
  (conv => whnf); refine And.intro (rfl) ?_
  (conv => whnf); refine ACalls.mono (nk _ 0 rfl) ?_
  rintro r H' ⟨rfl, rfl⟩
  conv => whnf
  refine ⟨Gp.keep (n := 52) (live := [(1, .ptr 0 1 0 0), (2, .ptr 1 1 0 0), (4, .ptr 2 1 0 0), (5, .ptr 4 1 0 0), (14, .int .i64 ((wk s l i).1))]) rfl ⟨rfl, rfl, rfl, rfl, rfl, trivial⟩ ?_⟩
  rintro ρ1 ⟨d, rfl⟩
  have hne : ∀ z : Int, z < 9 → ((wk s l i).1 == z) = false := fun z hz => by simp; omega
  (conv => whnf); refine recF (hne 0 (by decide)) ?_
  (conv => whnf); refine recF (hne 1 (by decide)) ?_
  (conv => whnf); refine recF (hne 2 (by decide)) ?_
  (conv => whnf); refine recF (hne 3 (by decide)) ?_
  (conv => whnf); refine recF (hne 4 (by decide)) ?_
  (conv => whnf); refine recF (hne 5 (by decide)) ?_
  (conv => whnf); refine recF (hne 6 (by decide)) ?_
  (conv => whnf); refine recF (hne 7 (by decide)) ?_
  (conv => whnf); refine recF (hne 8 (by decide)) ?_
  conv => whnf
  have e : wrec s l i = (⟨false, (nx l i 4).1, wrow s l i⟩, (wk s l i).2) := by rw [wrec, if_neg (by omega), if_neg (by omega), if_neg (by omega), if_neg (by omega), if_neg (by omega)]
  show RecRaw s l i _ _
  unfold RecRaw
  rw [e]
  exact ⟨_, rfl, .inr ⟨s.cols.length, wrow s l i, _, _, _, by rw [hvl]; rfl, htk, rfl⟩⟩
theorem Record_spec0 {P : Program} (F : F_z3z P) (s : Src) (hc : s.cols ≠ []) (hcl : s.cols.length ≤ 1000) (hk : s.key.length ≤ 1000) (l : List Int) (i : Nat) (hi : i ≤ l.length) (hl : l.length ≤ 1000000) :
  ACalls P F.id [.agg (srcC s), .ptr 0 1 0 0] [gO l i] (fun r H' => r = .agg (recC (wrec s l i).1) ∧ H' = [gO l (wrec s l i).2]) := by
 refine (Record_raw F s hc hcl hk l i hi hl).gp ?_
 rintro r H' ⟨c, rfl, ⟨rfl, t, rfl⟩ | ⟨m, R, x, y, z, rfl, hR, rfl⟩⟩
 ·exact Gp.res [0] (by simp) (keepB_hd rfl) (H1 := [gO l (wrec s l i).2]) ⟨⟨_, rfl, .same _ _ rfl⟩, trivial⟩ (.closed _ (by simp [AVal.closed, AVal.isPure])) ⟨_, rfl, rfl, rfl⟩
 ·refine Gp.res [0] (by simp) (keepB_one rfl rfl rfl) (H1 := [gO l (wrec s l i).2]) (r' := .agg (recC (wrec s l i).1)) ⟨⟨_, rfl, .same _ _ rfl⟩, trivial⟩ ?_ ⟨_, rfl, rfl, rfl⟩
  refine .agg _ _ rfl fun i v r h1 h2 => ?_
  rcases i with _ | _ | _ | i
  ·cases h1; cases h2; exact .closed _ rfl
  ·cases h1; cases h2; exact .closed _ rfl
  ·cases h1; cases h2
   have := Pub.frz (H1 := [gO l (wrec s l i).2, x, y, .arr 3 (vC R), z]) (n := 0) (ids := [0]) 3 (vC R).length 0 m 3 (vC R) rfl rfl (pureEs_vC _) (by simp)
   rwa [hR] at this
  ·simp at h1
theorem Record_spec {P : Program} (F : F_z3z P) (s : Src) (hc : s.cols ≠ []) (hcl : s.cols.length ≤ 1000) (hk : s.key.length ≤ 1000) (l : List Int) (i : Nat) (hi : i ≤ l.length) (hl : l.length ≤ 1000000) (H : List AObj) (id : Nat) (ho : H[id]? = some (gO l i)) :
  ACalls P F.id [.agg (srcC s), .ptr id 1 0 0] H (fun r H' => r = .agg (recC (wrec s l i).1) ∧ H' = H.set id (gO l (wrec s l i).2)) :=
 (Record_spec0 F s hc hcl hk l i hi hl).fr ho rfl rfl (.cl (by simp [AVal.closed, srcC, srcX, AVal.isPure]) (.pt trivial)) (.closed _ (by simp [AVal.closed, recC, AVal.isPure]))
def wf (s : Src) (l : List Int) : Nat → Nat → List Rec → List Rec × Nat
 | 0, i, L => (L, i)
 | k + 1, i, L => wf s l k (wrec s l i).2 (L ++ [(wrec s l i).1])
theorem wf_len (s : Src) (l : List Int) : ∀ (k i : Nat) (L : List Rec), (wf s l k i L).1.length = L.length + k
 | 0, _, _ => rfl
 | k + 1, i, L => by rw [wf, wf_len s l k]; simp; omega
theorem wf_le (s : Src) (l : List Int) : ∀ (k i : Nat) (L : List Rec), i ≤ l.length → (wf s l k i L).2 ≤ l.length
 | 0, _, _, h => h
 | k + 1, i, L, h => by rw [wf]; exact wf_le s l k _ _ (wrec_le s l i h)
def sName : ByteArray := bs [115, 104, 111, 112, 46, 111, 114, 100, 101, 114, 115]
def fileH (s : Src) (id : ByteArray) (l : List Int) (L : List Rec) (j : Nat) (H : List AObj) : Prop :=
 (L = [] ∧ H = [gO l j, .arr 7 [srcC s], .arr 3 [[.str (bs []), .str (bs []), .nil]], .arr 3 [[.str id, .str sName, .nil]]]) ∨
 (L ≠ [] ∧ H = [gO l j, .arr 7 [srcC s], .arr 3 [[.str (bs []), .str (bs []), .nil]], .arr 3 [[.str id, .str sName, .sl 4 L.length 0 L.length]], .arr 3 (rC L)])
structure Sou where
 name : ByteArray
 cols : List Col
 key : List ByteArray
 att : ByteArray
 zone : ByteArray
 late : Int
 reopen : Int
def souC (s : Sou) : List AVal := [.str s.name, .list false 3 (cC s.cols), .list false 1 (sC s.key), .str s.att, .str s.zone, .int .i64 s.late, .int .i64 s.reopen]
def Sou.ok (s : Sou) : Prop := s.cols.length ≤ 1000 ∧ s.key.length ≤ 1000
def kcolB (s : Sou) (c : Col) : Bool := eqS c.name s.att || inB s.key c.name
def isZ (v : V) : Bool := v.kind == 0 && (v.num == 0 && (v.str.data.toList == (bs []).data.toList && true))
def delGo (s : Sou) : List Col → List V → Int
 | c :: cs, v :: rs => if kcolB s c then (if chkRow [c] [v] ≠ 0 then chkRow [c] [v] else delGo s cs rs) else if isZ v then delGo s cs rs else 8
 | _, _ => 0
def delV (s : Sou) (row : List V) : Int := if row.length = s.cols.length then delGo s s.cols row else 8
def fitsV (s : Sou) (r : Rec) : Int := if r.seq < 0 ∨ 1073741824 < r.seq then 1 else if r.del then delV s r.row else chkRow s.cols r.row
def timeV (s : Sou) (r : Rec) : Int :=
 if colIdx s.cols s.att < 0 ∨ fitsV s r ≠ 0 ∨ (r.row.getD (colIdx s.cols s.att).toNat zV).kind ≠ 4 then -1 else (r.row.getD (colIdx s.cols s.att).toNat zV).num
theorem any_inB (l : List ByteArray) (t : ByteArray) : l.any (eqS t) = inB l t := by
 unfold inB
 congr 1
 funext x
 unfold eqS
 rw [Bool.eq_iff_iff]; exact ⟨fun h => by rw [beq_iff_eq] at h ⊢; exact h.symm, fun h => by rw [beq_iff_eq] at h ⊢; exact h.symm⟩
theorem fits_len {s : Sou} {r : Rec} (h : fitsV s r = 0) : r.row.length = s.cols.length := by
 unfold fitsV at h
 split at h
 ·simp at h
 ·split at h
  ·unfold delV at h
   split at h
   ·assumption
   ·simp at h
  ·unfold chkRow at h
   split at h
   ·assumption
   ·simp at h
theorem idxOf_lt {α : Type} (p : α → Bool) : ∀ (l : List α) (i : Int), 0 ≤ i → idxOf p l i < i + l.length
 | [], i, h => by simp [idxOf]; omega
 | c :: cs, i, h => by
  rw [idxOf]
  split
  ·simp; omega
  ·have := idxOf_lt p cs (i + 1) (by omega)
   simp; omega
theorem colIdx_lt (cs : List Col) (n : ByteArray) (h : 0 ≤ colIdx cs n) : (colIdx cs n).toNat < cs.length := by
 have := idxOf_lt (named n) cs 0 (Int.le_refl _)
 unfold colIdx at h ⊢
 omega
theorem tk1 {α : Type} {l : List α} {k : Nat} {x : α} (h : l[k]? = some x) : (l.take (k + 1)).drop k = [x] := by
 have hk := (List.getElem?_eq_some_iff.1 h).1
 rw [List.drop_take, drop_cons h]; simp
set_option maxHeartbeats 1000000 in
set_option maxRecDepth 20000 in
theorem deletion_spec {P : Program} (F : F_z45 P) (s : Sou) (hs : s.ok) (row : List V) (hl : row.length ≤ 1000000) (H : List AObj) :
  ACalls P F.id [.agg (souC s), .list false 3 (vC row)] H (fun r H' => r = .int .i64 (delV s row) ∧ H' = H) := by
 obtain ⟨hc1, hk1⟩ := hs
 refine ACalls.pure (by simp [AVal.closed, AVal.isPure, souC]) (acalls_of_body F.has ?_)
 (conv => whnf); refine recA (fun h0 => ?_) (fun h0 => ?_)
 ·simp [vC_length, cC_length] at h0
  conv => whnf
  exact pubI (by rw [delV, if_neg (by omega)])
 simp [vC_length, cC_length] at h0
 have hR : delV s row = delGo s s.cols row := by rw [delV, if_pos (by omega)]
 conv => whnf
 refine ⟨fun m ρ H1 => ∃ k : Nat, k + m = s.cols.length ∧ delGo s (s.cols.drop k) (row.drop k) = delV s row ∧ H1 = [.arr 7 [souC s]] ∧ Sv 56 [(1, .list false 3 (vC row)), (2, .ptr 0 1 0 0), (15, .list false 3 (cC s.cols)), (16, .int .i64 s.cols.length), (17, .int .i64 k)] ρ, s.cols.length, [], ?_, ?_⟩
 ·exact ⟨0, by omega, hR.symm, rfl, Sv.intro rfl ⟨rfl, rfl, rfl, intEq (by rw [cC_length]), rfl, trivial⟩⟩
 rintro m ρ H1 ⟨k, hk, hr, rfl, d, rfl⟩
 (conv => whnf); refine recA (fun hlt => ?_) (fun hlt => ?_)
 ·simp at hlt
  have hc : s.cols[k]? = some s.cols[k] := List.getElem?_eq_getElem (by omega)
  have hv : row[k]? = some row[k] := List.getElem?_eq_getElem (by omega)
  generalize s.cols[k] = cx at hc
  generalize row[k] = vx at hv
  rw [drop_cons hc, drop_cons hv, delGo] at hr
  have ek : IntKind.i64.wrap ((k : Int) + 1) = ((k + 1 : Nat) : Int) := by rw [wrapI _ (by omega) (by omega)]; omega
  have t1 : ((cC s.cols).take (IntKind.i64.wrap ((k : Int) + 1)).toNat).drop (k : Int).toNat = cC [cx] := by
   rw [ek, Int.toNat_natCast, Int.toNat_natCast]; exact tk1 (cC_at hc)
  have t2 : ((vC row).take (IntKind.i64.wrap ((k : Int) + 1)).toNat).drop (k : Int).toNat = vC [vx] := by
   rw [ek, Int.toNat_natCast, Int.toNat_natCast]; exact tk1 (vC_at hv)
  have bnd1 : 0 ≤ (k : Int) ∧ (k : Int) ≤ IntKind.i64.wrap ((k : Int) + 1) ∧ IntKind.i64.wrap ((k : Int) + 1) ≤ (cC s.cols).length := by rw [ek, cC_length]; omega
  have bnd2 : 0 ≤ (k : Int) ∧ (k : Int) ≤ IntKind.i64.wrap ((k : Int) + 1) ∧ IntKind.i64.wrap ((k : Int) + 1) ≤ (vC row).length := by rw [ek, vC_length]; omega
  (conv => whnf); refine And.intro (by omega) ?_
  (conv => whnf); refine recO (cC_at hc) ?_
  (conv => whnf); refine recA (fun ha => ?_) (fun ha => ?_)
  ·replace ha : eqS cx.name s.att = true := ha
   rw [if_pos (by rw [kcolB, ha]; rfl)] at hr
   (conv => whnf); refine And.intro (bnd1) ?_
   (conv => whnf); refine And.intro (bnd2) ?_
   (conv => whnf)
   rw [t1, t2]
   (conv => whnf); refine ⟨_, schema_CheckRow_spec F.z14 _ _ [cx] [vx] (by simp) _, ?_⟩
   repeat ((conv => whnf); refine And.intro rfl ?_)
   (conv => whnf); refine recA (fun hn => ?_) (fun hn => ?_)
   ·replace hn : (!(chkRow [cx] [vx] == 0)) = true := hn
    rw [if_pos (by simpa using hn)] at hr
    conv => whnf
    exact pubI hr
   ·replace hn : (!(chkRow [cx] [vx] == 0)) = false := hn
    rw [if_neg (by simpa using hn)] at hr
    conv => whnf
    refine ⟨m - 1, by omega, Gp.first 1 [.arr 7 [souC s]] rfl rfl (by simp [pureO, pureEs, souC, AVal.isPure]) rfl ?_ fun ρ1 h => ⟨k + 1, by omega, hr, rfl, h⟩⟩
    exact ⟨.closed _ rfl, .keepP 0 1 0 0 0 rfl, .closed _ rfl, .closed _ rfl, pub_int ek, trivial⟩
  ·replace ha : eqS cx.name s.att = false := ha
   (conv => whnf); refine ACalls.use (Contains_spec F.z1i false s.key (by omega) cx.name _) ?_
   (conv => whnf); refine recA (fun hb => ?_) (fun hb => ?_)
   ·rw [any_inB] at hb
    rw [if_pos (by rw [kcolB, hb, Bool.or_true])] at hr
    (conv => whnf); refine And.intro (bnd1) ?_
    (conv => whnf); refine And.intro (bnd2) ?_
    (conv => whnf)
    rw [t1, t2]
    (conv => whnf); refine ⟨_, schema_CheckRow_spec F.z14 _ _ [cx] [vx] (by simp) _, ?_⟩
    repeat ((conv => whnf); refine And.intro rfl ?_)
    (conv => whnf); refine recA (fun hn => ?_) (fun hn => ?_)
    ·replace hn : (!(chkRow [cx] [vx] == 0)) = true := hn
     rw [if_pos (by simpa using hn)] at hr
     conv => whnf
     exact pubI hr
    ·replace hn : (!(chkRow [cx] [vx] == 0)) = false := hn
     rw [if_neg (by simpa using hn)] at hr
     conv => whnf
     refine ⟨m - 1, by omega, Gp.first 1 [.arr 7 [souC s]] rfl rfl (by simp [pureO, pureEs, souC, AVal.isPure]) rfl ?_ fun ρ1 h => ⟨k + 1, by omega, hr, rfl, h⟩⟩
     exact ⟨.closed _ rfl, .keepP 0 1 0 0 0 rfl, .closed _ rfl, .closed _ rfl, pub_int ek, trivial⟩
   ·rw [any_inB] at hb
    rw [if_neg (by rw [kcolB, ha, hb]; simp)] at hr
    (conv => whnf); refine And.intro (by omega) ?_
    (conv => whnf); refine recO (vC_at hv) ?_
    (conv => whnf); refine recA (fun hz => ?_) (fun hz => ?_)
    ·replace hz : (!isZ vx) = true := hz
     rw [if_neg (by simpa using hz)] at hr
     conv => whnf
     exact pubI hr
    ·replace hz : (!isZ vx) = false := hz
     rw [if_pos (by simpa using hz)] at hr
     conv => whnf
     refine ⟨m - 1, by omega, Gp.first 1 [.arr 7 [souC s]] rfl rfl (by simp [pureO, pureEs, souC, AVal.isPure]) rfl ?_ fun ρ1 h => ⟨k + 1, by omega, hr, rfl, h⟩⟩
     exact ⟨.closed _ rfl, .keepP 0 1 0 0 0 rfl, .closed _ rfl, .closed _ rfl, pub_int ek, trivial⟩
 ·simp at hlt
  rw [List.drop_of_length_le (show s.cols.length ≤ k by omega)] at hr
  conv => whnf
  exact pubI (hr.symm ▸ (by cases row.drop k <;> rfl))
theorem souC_closed (s : Sou) : (AVal.agg (souC s)).closed = true := by simp [AVal.closed, AVal.isPure, souC]
theorem recC_closed (r : Rec) : (AVal.agg (recC r)).closed = true := by simp [AVal.closed, AVal.isPure, recC]
theorem verC_closed (v : Ver) : (AVal.agg (verC v)).closed = true := by simp [AVal.closed, AVal.isPure, verC]
set_option maxRecDepth 20000 in
theorem wFits_spec {P : Program} (F : F_z43 P) (s : Sou) (hs : s.ok) (r : Rec) (hl : r.row.length ≤ 1000000) (H : List AObj) :
  ACalls P F.id [.agg (souC s), .agg (recC r)] H (fun q H' => q = .int .i64 (fitsV s r) ∧ H' = H) := by
 refine ACalls.pure (by simp [souC_closed, recC_closed]) (acalls_of_body F.has ?_)
 (conv => whnf); refine recA (fun h0 => ?_) (fun h0 => ?_)
 ·simp at h0
  conv => whnf
  exact pubI (by rw [fitsV, if_pos (.inl h0)])
 (conv => whnf); refine recA (fun h1 => ?_) (fun h1 => ?_)
 ·simp at h1
  conv => whnf
  exact pubI (by rw [fitsV, if_pos (.inr h1)])
 have hR : fitsV s r = if r.del then delV s r.row else chkRow s.cols r.row := by
  simp at h0 h1
  rw [fitsV, if_neg (by omega)]
 (conv => whnf); refine recA (fun hd => ?_) (fun hd => ?_)
 ·rw [hR, if_pos (show r.del = true from hd)]
  (conv => whnf); refine ACalls.use (deletion_spec F.z45 s hs r.row hl _) ?_
  conv => whnf
  exact pubI rfl
 ·rw [hR, if_neg (by rw [show r.del = false from hd]; simp)]
  (conv => whnf); refine ACalls.use (schema_CheckRow_spec F.z14 _ _ s.cols r.row hl _) ?_
  conv => whnf
  exact pubI rfl
set_option maxRecDepth 20000 in
theorem wTime_spec {P : Program} (F : F_z44 P) (s : Sou) (hs : s.ok) (r : Rec) (hl : r.row.length ≤ 1000000) (H : List AObj) :
  ACalls P F.id [.agg (souC s), .agg (recC r)] H (fun q H' => q = .int .i64 (timeV s r) ∧ H' = H) := by
 refine ACalls.pure (by simp [souC_closed, recC_closed]) (acalls_of_body F.has ?_)
 (conv => whnf); refine ACalls.use (schema_Index_spec F.z15 false s.cols (by have := hs.1; omega) s.att _) ?_
 (conv => whnf); refine recA (fun h0 => ?_) (fun h0 => ?_)
 ·simp at h0
  conv => whnf
  exact pubI (by rw [timeV, if_pos (.inl h0)])
 simp at h0
 (conv => whnf); refine ACalls.use (wFits_spec F.z43 s hs r hl _) ?_
 (conv => whnf); refine recA (fun h1 => ?_) (fun h1 => ?_)
 ·replace h1 : (!(fitsV s r == 0)) = true := h1
  conv => whnf
  exact pubI (by rw [timeV, if_pos (.inr (.inl (by simpa using h1)))])
 replace h1 : (!(fitsV s r == 0)) = false := h1
 have hf : fitsV s r = 0 := by simpa using h1
 have hlen := fits_len hf
 have hlt := colIdx_lt s.cols s.att h0
 have hv : r.row[(colIdx s.cols s.att).toNat]? = some (r.row.getD (colIdx s.cols s.att).toNat zV) := by
  rw [List.getD_eq_getElem?_getD, List.getElem?_eq_getElem (by omega)]; rfl
 (conv => whnf); refine And.intro (h0) ?_
 (conv => whnf); refine recO (vC_at hv) ?_
 (conv => whnf); refine recA (fun h2 => ?_) (fun h2 => ?_)
 ·replace h2 : (!((r.row.getD (colIdx s.cols s.att).toNat zV).kind == 4)) = true := h2
  conv => whnf
  exact pubI (by rw [timeV, if_pos (.inr (.inr (by simpa using h2)))])
 ·replace h2 : (!((r.row.getD (colIdx s.cols s.att).toNat zV).kind == 4)) = false := h2
  (conv => whnf); refine And.intro (h0) ?_
  (conv => whnf); refine recO (vC_at hv) ?_
  conv => whnf
  exact pubI (by rw [Bool.not_eq_false', beq_iff_eq] at h2; rw [timeV, if_neg (by omega)])
set_option maxRecDepth 20000 in
theorem in25_spec {P : Program} (F : F_z2x P) (l : List ByteArray) (s : ByteArray) (hl : l.length ≤ 1000000) (H : List AObj) :
  ACalls P F.id [.list false 1 (sC l), .str s] H (fun r H' => r = .bool (inB l s) ∧ H' = H) := by
 refine ACalls.pure rfl (acalls_of_body F.has ?_)
 conv => whnf
 refine ⟨fun m ρ H1 => ∃ k : Nat, k + m = l.length ∧ inB l s = inB (l.drop k) s ∧ H1 = [] ∧ Sv 18 [(0, .list false 1 (sC l)), (1, .str s), (5, .int .i64 k)] ρ, l.length, [], ?_, ?_⟩
 ·exact ⟨0, by omega, rfl, rfl, Sv.intro rfl ⟨rfl, rfl, rfl, trivial⟩⟩
 rintro m ρ H1 ⟨k, hk, hr, rfl, d, rfl⟩
 (conv => whnf); refine recA (fun hlt => ?_) (fun hlt => ?_)
 ·simp [sC_length] at hlt
  have hx : l[k]? = some l[k] := List.getElem?_eq_getElem hlt
  replace hr : inB l s = (eqS l[k] s || inB (l.drop (k + 1)) s) := hr.trans (by rw [List.drop_eq_getElem_cons hlt]; rfl)
  (conv => whnf); refine And.intro (by omega) ?_
  (conv => whnf); refine recO (sC_at hx) ?_
  (conv => whnf); refine recA (fun h1 => ?_) (fun h1 => ?_)
  ·replace h1 : eqS l[k] s = true := h1
   conv => whnf
   rw [hr, h1]
   exact pubB rfl
  ·replace h1 : eqS l[k] s = false := h1
   rw [h1] at hr
   conv => whnf
   refine ⟨m - 1, by omega, Gp.none rfl ?_ fun ρ1 h => ⟨k + 1, by omega, hr, rfl, h⟩⟩
   exact ⟨.closed _ rfl, .closed _ rfl, pub_int (wrapI _ (by omega) (by omega)), trivial⟩
 ·simp [sC_length] at hlt
  rw [List.drop_of_length_le (by omega)] at hr
  conv => whnf
  rw [hr]
  exact pubB rfl
set_option maxHeartbeats 1000000 in
set_option maxRecDepth 20000 in
theorem fits25_spec {P : Program} (F : F_z2s P) (s : Sou) (hs : s.ok) (r : Rec) (hl : r.row.length ≤ 1000000) (H : List AObj) :
  ACalls P F.id [.agg (souC s), .agg (recC r)] H (fun q H' => q = .int .i64 (fitsV s r) ∧ H' = H) := by
 obtain ⟨hc1, hk1⟩ := hs
 refine ACalls.pure (by simp [souC_closed, recC_closed]) (acalls_of_body F.has ?_)
 (conv => whnf); refine recA (fun h0 => ?_) (fun h0 => ?_)
 ·simp at h0
  conv => whnf
  exact pubI (by rw [fitsV, if_pos (.inl h0)])
 (conv => whnf); refine recA (fun h1 => ?_) (fun h1 => ?_)
 ·simp at h1
  conv => whnf
  exact pubI (by rw [fitsV, if_pos (.inr h1)])
 have hR : fitsV s r = if r.del then delV s r.row else chkRow s.cols r.row := by
  simp at h0 h1
  rw [fitsV, if_neg (by omega)]
 (conv => whnf); refine recA (fun hd => ?_) (fun hd => ?_)
 ·replace hd : (!r.del) = true := hd
  rw [hR, if_neg (by simpa using hd)]
  (conv => whnf); refine ACalls.use (ref5_CheckRow_spec F.z3f _ _ s.cols r.row hl _) ?_
  conv => whnf
  exact pubI rfl
 replace hd : (!r.del) = false := hd
 rw [hR, if_pos (by simpa using hd)]
 (conv => whnf); refine recA (fun h2 => ?_) (fun h2 => ?_)
 ·simp [vC_length, cC_length] at h2
  conv => whnf
  exact pubI (by rw [delV, if_neg (by omega)])
 simp [vC_length, cC_length] at h2
 have hR2 : delV s r.row = delGo s s.cols r.row := by rw [delV, if_pos (by omega)]
 conv => whnf
 refine ⟨fun m ρ H1 => ∃ k : Nat, k + m = s.cols.length ∧ delGo s (s.cols.drop k) (r.row.drop k) = delV s r.row ∧ H1 = [.arr 7 [souC s], .arr 3 [recC r]] ∧ Sv 80 [(2, .ptr 0 1 0 0), (3, .ptr 1 1 0 0), (5, .int .i64 k)] ρ, s.cols.length, [], ?_, ?_⟩
 ·exact ⟨0, by omega, hR2.symm, rfl, Sv.intro rfl ⟨rfl, rfl, rfl, trivial⟩⟩
 rintro m ρ H1 ⟨k, hk, hr, rfl, d, rfl⟩
 (conv => whnf); refine recA (fun hlt => ?_) (fun hlt => ?_)
 ·simp [cC_length] at hlt
  have hc : s.cols[k]? = some s.cols[k] := List.getElem?_eq_getElem (by omega)
  have hv : r.row[k]? = some r.row[k] := List.getElem?_eq_getElem (by omega)
  generalize s.cols[k] = cx at hc
  generalize r.row[k] = vx at hv
  rw [drop_cons hc, drop_cons hv, delGo] at hr
  have ek : IntKind.i64.wrap ((k : Int) + 1) = ((k + 1 : Nat) : Int) := by rw [wrapI _ (by omega) (by omega)]; omega
  have t1 : ((cC s.cols).take (IntKind.i64.wrap ((k : Int) + 1)).toNat).drop (k : Int).toNat = cC [cx] := by
   rw [ek, Int.toNat_natCast, Int.toNat_natCast]; exact tk1 (cC_at hc)
  have t2 : ((vC r.row).take (IntKind.i64.wrap ((k : Int) + 1)).toNat).drop (k : Int).toNat = vC [vx] := by
   rw [ek, Int.toNat_natCast, Int.toNat_natCast]; exact tk1 (vC_at hv)
  have bnd1 : 0 ≤ (k : Int) ∧ (k : Int) ≤ IntKind.i64.wrap ((k : Int) + 1) ∧ IntKind.i64.wrap ((k : Int) + 1) ≤ (cC s.cols).length := by rw [ek, cC_length]; omega
  have bnd2 : 0 ≤ (k : Int) ∧ (k : Int) ≤ IntKind.i64.wrap ((k : Int) + 1) ∧ IntKind.i64.wrap ((k : Int) + 1) ≤ (vC r.row).length := by rw [ek, vC_length]; omega
  (conv => whnf); refine And.intro (by omega) ?_
  (conv => whnf); refine recO (cC_at hc) ?_
  (conv => whnf); refine ⟨_, in25_spec F.z2x s.key cx.name (by omega) _, ?_⟩
  (conv => whnf); refine recA (fun hb => ?_) (fun hb => ?_)
  ·rw [if_pos (by rw [kcolB, hb, Bool.or_true])] at hr
   (conv => whnf); refine And.intro (bnd1) ?_
   (conv => whnf); refine And.intro (bnd2) ?_
   (conv => whnf)
   rw [t1, t2]
   (conv => whnf); refine ⟨_, ref5_CheckRow_spec F.z3f _ _ [cx] [vx] (by simp) _, ?_⟩
   repeat ((conv => whnf); refine And.intro rfl ?_)
   (conv => whnf); refine recA (fun hn => ?_) (fun hn => ?_)
   ·replace hn : (!(chkRow [cx] [vx] == 0)) = true := hn
    rw [if_pos (by simpa using hn)] at hr
    conv => whnf
    exact pubI hr
   ·replace hn : (!(chkRow [cx] [vx] == 0)) = false := hn
    rw [if_neg (by simpa using hn)] at hr
    conv => whnf
    refine ⟨m - 1, by omega, Gp.first 2 [.arr 7 [souC s], .arr 3 [recC r]] rfl rfl (by simp [pureO, pureEs, souC, recC, AVal.isPure]) rfl ?_ fun ρ1 h => ⟨k + 1, by omega, hr, rfl, h⟩⟩
    exact ⟨.keepP 0 1 0 0 0 rfl, .keepP 1 1 0 0 1 rfl, pub_int ek, trivial⟩
  ·(conv => whnf); refine And.intro (by omega) ?_
   (conv => whnf); refine recO (cC_at hc) ?_
   (conv => whnf); refine recA (fun ha => ?_) (fun ha => ?_)
   ·replace ha : eqS cx.name s.att = true := ha
    rw [if_pos (by rw [kcolB, ha]; rfl)] at hr
    (conv => whnf); refine And.intro (bnd1) ?_
    (conv => whnf); refine And.intro (bnd2) ?_
    (conv => whnf)
    rw [t1, t2]
    (conv => whnf); refine ⟨_, ref5_CheckRow_spec F.z3f _ _ [cx] [vx] (by simp) _, ?_⟩
    repeat ((conv => whnf); refine And.intro rfl ?_)
    (conv => whnf); refine recA (fun hn => ?_) (fun hn => ?_)
    ·replace hn : (!(chkRow [cx] [vx] == 0)) = true := hn
     rw [if_pos (by simpa using hn)] at hr
     conv => whnf
     exact pubI hr
    ·replace hn : (!(chkRow [cx] [vx] == 0)) = false := hn
     rw [if_neg (by simpa using hn)] at hr
     conv => whnf
     refine ⟨m - 1, by omega, Gp.first 2 [.arr 7 [souC s], .arr 3 [recC r]] rfl rfl (by simp [pureO, pureEs, souC, recC, AVal.isPure]) rfl ?_ fun ρ1 h => ⟨k + 1, by omega, hr, rfl, h⟩⟩
     exact ⟨.keepP 0 1 0 0 0 rfl, .keepP 1 1 0 0 1 rfl, pub_int ek, trivial⟩
   ·replace ha : eqS cx.name s.att = false := ha
    rw [if_neg (by rw [kcolB, ha, hb]; simp)] at hr
    (conv => whnf); refine And.intro (by omega) ?_
    (conv => whnf); refine recO (vC_at hv) ?_
    (conv => whnf); refine recA (fun hz => ?_) (fun hz => ?_)
    ·replace hz : (!isZ vx) = true := hz
     rw [if_neg (by simpa using hz)] at hr
     conv => whnf
     exact pubI hr
    ·replace hz : (!isZ vx) = false := hz
     rw [if_pos (by simpa using hz)] at hr
     conv => whnf
     refine ⟨m - 1, by omega, Gp.first 2 [.arr 7 [souC s], .arr 3 [recC r]] rfl rfl (by simp [pureO, pureEs, souC, recC, AVal.isPure]) rfl ?_ fun ρ1 h => ⟨k + 1, by omega, hr, rfl, h⟩⟩
     exact ⟨.keepP 0 1 0 0 0 rfl, .keepP 1 1 0 0 1 rfl, pub_int ek, trivial⟩
 ·simp [cC_length] at hlt
  rw [List.drop_of_length_le (show s.cols.length ≤ k by omega)] at hr
  conv => whnf
  exact pubI (hr.symm ▸ (by cases r.row.drop k <;> rfl))
set_option maxRecDepth 20000 in
theorem time25_spec {P : Program} (F : F_z2w P) (s : Sou) (hs : s.ok) (r : Rec) (hl : r.row.length ≤ 1000000) (H : List AObj) :
  ACalls P F.id [.agg (souC s), .agg (recC r)] H (fun q H' => q = .int .i64 (timeV s r) ∧ H' = H) := by
 refine ACalls.pure (by simp [souC_closed, recC_closed]) (acalls_of_body F.has ?_)
 (conv => whnf); refine ACalls.use (ref5_Index_spec F.z3g false s.cols (by have := hs.1; omega) s.att _) ?_
 (conv => whnf); refine ACalls.use (fits25_spec F.z2s s hs r hl _) ?_
 (conv => whnf); refine recA (fun h1 => ?_) (fun h1 => ?_)
 ·replace h1 : (!(fitsV s r == 0)) = true := h1
  conv => whnf
  exact pubI (by rw [timeV, if_pos (.inr (.inl (by simpa using h1)))])
 replace h1 : (!(fitsV s r == 0)) = false := h1
 have hf : fitsV s r = 0 := by simpa using h1
 (conv => whnf); refine recA (fun h0 => ?_) (fun h0 => ?_)
 ·simp at h0
  conv => whnf
  exact pubI (by rw [timeV, if_pos (.inl h0)])
 simp at h0
 have hlen := fits_len hf
 have hlt := colIdx_lt s.cols s.att h0
 have hv : r.row[(colIdx s.cols s.att).toNat]? = some (r.row.getD (colIdx s.cols s.att).toNat zV) := by
  rw [List.getD_eq_getElem?_getD, List.getElem?_eq_getElem (by omega)]; rfl
 (conv => whnf); refine And.intro (h0) ?_
 (conv => whnf); refine recO (vC_at hv) ?_
 (conv => whnf); refine recA (fun h2 => ?_) (fun h2 => ?_)
 ·replace h2 : (!((r.row.getD (colIdx s.cols s.att).toNat zV).kind == 4)) = true := h2
  conv => whnf
  exact pubI (by rw [timeV, if_pos (.inr (.inr (by simpa using h2)))])
 ·replace h2 : (!((r.row.getD (colIdx s.cols s.att).toNat zV).kind == 4)) = false := h2
  (conv => whnf); refine And.intro (h0) ?_
  (conv => whnf); refine recO (vC_at hv) ?_
  conv => whnf
  exact pubI (by rw [Bool.not_eq_false', beq_iff_eq] at h2; rw [timeV, if_neg (by omega)])
def zonC : List AVal := [.str (bs [122]), .int .i64 0, .nil]
theorem zonC_closed : (AVal.agg zonC).closed = true := rfl
theorem within_spec {P : Program} (F : F_z3e P) (H : List AObj) :
  ACalls P F.id [.int .i64 0] H (fun r H' => r = .bool true ∧ H' = H) := by
 refine ACalls.pure rfl (acalls_of_body F.has ?_)
 conv => whnf
 exact pubB (by decide)
theorem zval_spec {P : Program} (F : F_z38 P) (H : List AObj) :
  ACalls P F.id [.agg zonC] H (fun r H' => r = .int .i64 0 ∧ H' = H) := by
 refine ACalls.pure rfl (acalls_of_body F.has ?_)
 (conv => whnf); refine ACalls.use (within_spec F.z3e _) ?_
 conv => whnf
 refine ⟨fun m ρ H1 => H1 = [.arr 3 [zonC]] ∧ Sv 53 [(1, .ptr 0 1 0 0), (3, .int .i64 0)] ρ, 0, [], ?_, ?_⟩
 ·exact ⟨rfl, Sv.intro rfl ⟨rfl, rfl, trivial⟩⟩
 rintro m ρ H1 ⟨rfl, d, rfl⟩
 conv => whnf
 exact pubI rfl
theorem zcheck_spec {P : Program} (F : F_z39 P) (t : Int) (h0 : 0 ≤ t) (h1 : t ≤ 575999999) (H : List AObj) :
  ACalls P F.id [.agg zonC, .int .i64 t] H (fun r H' => r = .int .i64 0 ∧ H' = H) := by
 refine ACalls.pure rfl (acalls_of_body F.has ?_)
 (conv => whnf); refine ACalls.use (zval_spec F.z38 _) ?_
 (conv => whnf); refine recF (by simp; omega) ?_
 (conv => whnf); refine recF (by simp; omega) ?_
 conv => whnf
 exact pubI rfl
theorem zoff_spec {P : Program} (F : F_z3c P) (t : Int) (H : List AObj) :
  ACalls P F.id [.agg zonC, .int .i64 t] H (fun r H' => r = .int .i64 0 ∧ H' = H) := by
 refine ACalls.pure rfl (acalls_of_body F.has ?_)
 conv => whnf
 refine ⟨fun m ρ H1 => H1 = [.arr 3 [zonC]] ∧ Sv 31 [(1, .int .i64 t), (2, .ptr 0 1 0 0), (5, .int .i64 0), (6, .int .i64 0)] ρ, 0, [], ?_, ?_⟩
 ·exact ⟨rfl, Sv.intro rfl ⟨rfl, rfl, rfl, rfl, trivial⟩⟩
 rintro m ρ H1 ⟨rfl, d, rfl⟩
 conv => whnf
 exact pubI rfl
theorem floorV_pos (t : Int) (h0 : 0 ≤ t) (h1 : t ≤ 575999999) : floorV t 1440 = t / 1440 := by
 have e1 : t.tdiv 1440 = t / 1440 := Int.tdiv_eq_ediv_of_nonneg h0
 have e2 := Int.tmod_nonneg 1440 h0
 rw [floorV, if_neg (by omega), e1]
 exact wrapI _ (by omega) (by omega)
theorem zloc_spec {P : Program} (F : F_z3b P) (t : Int) (h0 : 0 ≤ t) (h1 : t ≤ 575999999) (H : List AObj) :
  ACalls P F.id [.agg zonC, .int .i64 t] H (fun r H' => r = .int .i64 (t / 1440) ∧ H' = H) := by
 refine ACalls.pure rfl (acalls_of_body F.has ?_)
 (conv => whnf); refine ACalls.use (zoff_spec F.z3c t _) ?_
 have e : IntKind.i64.wrap (t + 0) = t := by rw [wrapI _ (by omega) (by omega)]; omega
 conv => whnf
 rw [e]
 (conv => whnf); refine ACalls.use (Floor_spec F.z35 t 1440 (by decide) _) ?_
 conv => whnf
 exact pubI (by rw [floorV_pos t h0 h1])
theorem zday_spec {P : Program} (F : F_z3a P) (t : Int) (h0 : 0 ≤ t) (h1 : t ≤ 575999999) (H : List AObj) :
  ACalls P F.id [.agg zonC, .int .i64 t] H (fun r H' => r = .int .i64 (t / 1440) ∧ H' = H) := by
 refine ACalls.pure rfl (acalls_of_body F.has ?_)
 (conv => whnf); refine ACalls.use (zloc_spec F.z3b t h0 h1 _) ?_
 conv => whnf
 refine ⟨fun m ρ H1 => H1 = [.arr 3 [zonC]] ∧ Sv 38 [(1, .int .i64 t), (2, .ptr 0 1 0 0), (5, .int .i64 (t / 1440)), (6, .int .i64 0)] ρ, 0, [], ?_, ?_⟩
 ·exact ⟨rfl, Sv.intro rfl ⟨rfl, rfl, intEq (by omega), rfl, trivial⟩⟩
 rintro m ρ H1 ⟨rfl, d, rfl⟩
 conv => whnf
 exact pubI rfl
theorem zDay_spec {P : Program} (F : F_z36 P) (t : Int) (h0 : 0 ≤ t) (h1 : t ≤ 575999999) (H : List AObj) :
  ACalls P F.id [.agg zonC, .int .i64 t] H (fun r H' => r = .tuple [.int .i64 (t / 1440), .int .i64 0] ∧ H' = H) := by
 refine ACalls.pure rfl (acalls_of_body F.has ?_)
 (conv => whnf); refine ACalls.use (zcheck_spec F.z39 t h0 h1 _) ?_
 (conv => whnf); refine ACalls.use (zday_spec F.z3a t h0 h1 _) ?_
 conv => whnf
 exact pub2 (.closed _ rfl) (.closed _ rfl)
def startV (d : Int) : Int := min (max 0 (d * 1440)) 576000000
set_option maxRecDepth 20000 in
theorem zstart_spec {P : Program} (F : F_z3d P) (d : Int) (H : List AObj) :
  ACalls P F.id [.agg zonC, .int .i64 d] H (fun r H' => r = .int .i64 (startV d) ∧ H' = H) := by
 refine ACalls.pure rfl (acalls_of_body F.has ?_)
 conv => whnf
 refine ⟨fun m ρ H1 => ∃ a b : Int, 0 ≤ a ∧ a ≤ startV d ∧ startV d ≤ b ∧ b ≤ 576000000 ∧ m = (b - a).toNat ∧ H1 = [.arr 3 [zonC]] ∧ Sv 24 [(1, .int .i64 d), (2, .ptr 0 1 0 0), (5, .int .i64 a), (6, .int .i64 b)] ρ, 576000000, [], ?_, ?_⟩
 ·exact ⟨0, 576000000, by omega, by unfold startV; omega, by unfold startV; omega, by omega, by decide, rfl, Sv.intro rfl ⟨rfl, rfl, rfl, rfl, trivial⟩⟩
 rintro m ρ H1 ⟨a, b, ha, ha2, hb, hb2, rfl, rfl, e, rfl⟩
 (conv => whnf); refine recA (fun hlt => ?_) (fun hlt => ?_)
 ·simp at hlt
  have eq : IntKind.i64.wrap ((IntKind.i64.wrap (a + b)).tdiv 2) = (a + b) / 2 := by rw [wrapI (a + b) (by omega) (by omega), Int.tdiv_eq_ediv_of_nonneg (by omega), wrapI _ (by omega) (by omega)]
  (conv => whnf); refine And.intro (by decide) ?_
  (conv => whnf); refine ACalls.use (zday_spec F.z3a (IntKind.i64.wrap ((IntKind.i64.wrap (a + b)).tdiv 2)) (by rw [eq]; omega) (by rw [eq]; omega) _) ?_
  (conv => whnf); refine recA (fun hge => ?_) (fun hge => ?_)
  ·simp at hge
   rw [eq] at hge
   conv => whnf
   refine ⟨((a + b) / 2 - a).toNat, by omega, Gp.first 1 [.arr 3 [zonC]] rfl rfl rfl rfl ?_ fun ρ1 h => ⟨a, (a + b) / 2, ha, ha2, ?_, by omega, rfl, rfl, h⟩⟩
   ·exact ⟨.closed _ rfl, .keepP 0 1 0 0 0 rfl, .closed _ rfl, pub_int eq, trivial⟩
   ·unfold startV; omega
  ·simp at hge
   rw [eq] at hge
   conv => whnf
   refine ⟨(b - ((a + b) / 2 + 1)).toNat, by omega, Gp.first 1 [.arr 3 [zonC]] rfl rfl rfl rfl ?_ fun ρ1 h => ⟨(a + b) / 2 + 1, b, by omega, ?_, hb, hb2, rfl, rfl, h⟩⟩
   ·exact ⟨.closed _ rfl, .keepP 0 1 0 0 0 rfl, pub_int (by rw [eq, wrapI _ (by omega) (by omega)]), .closed _ rfl, trivial⟩
   ·unfold startV; omega
 ·simp at hlt
  conv => whnf
  exact pubI (by omega)
theorem zcheck_out {P : Program} (F : F_z39 P) (t : Int) (h0 : t < 0 ∨ 575999999 < t) (H : List AObj) :
  ACalls P F.id [.agg zonC, .int .i64 t] H (fun r H' => r = .int .i64 1 ∧ H' = H) := by
 refine ACalls.pure rfl (acalls_of_body F.has ?_)
 (conv => whnf); refine ACalls.use (zval_spec F.z38 _) ?_
 (conv => whnf); refine recA (fun h1 => ?_) (fun h1 => ?_)
 ·conv => whnf
  exact pubI rfl
 ·simp at h1
  (conv => whnf); refine recT (by simp; omega) ?_
  conv => whnf
  exact pubI rfl
def dayP (t : Int) : Int := if t < 0 ∨ 575999999 < t then 0 else t / 1440
def dayE (t : Int) : Int := if t < 0 ∨ 575999999 < t then 1 else 0
theorem zDayA_spec {P : Program} (F : F_z36 P) (t : Int) (H : List AObj) :
  ACalls P F.id [.agg zonC, .int .i64 t] H (fun r H' => r = .tuple [.int .i64 (dayP t), .int .i64 (dayE t)] ∧ H' = H) := by
 by_cases h : t < 0 ∨ 575999999 < t
 ·refine ACalls.pure rfl (acalls_of_body F.has ?_)
  (conv => whnf); refine ACalls.use (zcheck_out F.z39 t h _) ?_
  conv => whnf
  rw [dayP, dayE, if_pos h, if_pos h]
  exact pub2 (.closed _ rfl) (.closed _ rfl)
 ·rw [dayP, dayE, if_neg h, if_neg h]
  exact zDay_spec F t (by omega) (by omega) H
theorem zSpan_spec {P : Program} (F : F_z37 P) (d : Int) (h0 : 0 ≤ d) (h1 : d ≤ 400000) (H : List AObj) :
  ACalls P F.id [.agg zonC, .int .i64 d] H (fun r H' => r = .tuple [.int .i64 (startV d), .int .i64 (startV (d + 1)), .int .i64 0] ∧ H' = H) := by
 refine ACalls.pure rfl (acalls_of_body F.has ?_)
 (conv => whnf); refine ACalls.use (zval_spec F.z38 _) ?_
 (conv => whnf); refine recF (by simp; omega) ?_
 (conv => whnf); refine recF (by simp; omega) ?_
 have e : IntKind.i64.wrap (d + 1) = d + 1 := wrapI _ (by omega) (by omega)
 (conv => whnf); refine ⟨_, zstart_spec F.z3d d _, ?_⟩
 (conv => whnf); refine ⟨_, zstart_spec F.z3d (IntKind.i64.wrap (d + 1)) _, ?_⟩
 repeat ((conv => whnf); refine And.intro rfl ?_)
 conv => whnf
 rw [e]
 exact pub3 (.closed _ rfl) (.closed _ rfl) (.closed _ rfl)
def markV (late latest : Int) : Int := if latest < 0 ∨ late < 0 ∨ 575999999 < late then -1 else max (-1) (IntKind.i64.wrap (latest - late))
theorem mark_spec {P : Program} (F : F_z2u P) (s : Sou) (t : Int) (H : List AObj) :
  ACalls P F.id [.agg (souC s), .int .i64 t] H (fun r H' => r = .int .i64 (markV s.late t) ∧ H' = H) := by
 refine ACalls.pure (by simp [souC, AVal.closed, AVal.isPure]) (acalls_of_body F.has ?_)
 (conv => whnf); refine recA (fun h1 => ?_) (fun h1 => ?_)
 ·simp at h1
  conv => whnf
  exact pubI (by rw [markV, if_pos (by omega)])
 (conv => whnf); refine recA (fun h2 => ?_) (fun h2 => ?_)
 ·simp at h2
  conv => whnf
  exact pubI (by rw [markV, if_pos (by omega)])
 (conv => whnf); refine recA (fun h3 => ?_) (fun h3 => ?_)
 ·simp at h3
  conv => whnf
  exact pubI (by rw [markV, if_pos (by omega)])
 simp at h1 h2 h3
 conv => whnf
 exact pubI (by rw [show markV s.late t = max (-1) (IntKind.i64.wrap (t - s.late)) from if_neg (by omega)]; omega)
def phP (reopen mark day : Int) : Int × Int :=
 if mark < -1 ∨ 575999999 < mark ∨ day < -1 ∨ 400000 < day then (0, 1) else if day = -1 ∨ mark < startV (day + 1) then (0, 0)
 else if reopen ≤ IntKind.i64.wrap (mark - startV (day + 1)) then (2, 0) else (1, 0)
set_option maxRecDepth 20000 in
theorem phase_spec {P : Program} (F : F_z2v P) (s : Sou) (mark day : Int) (H : List AObj) :
  ACalls P F.id [.agg (souC s), .agg zonC, .int .i64 mark, .int .i64 day] H (fun r H' => r = .tuple [.int .i64 (phP s.reopen mark day).1, .int .i64 (phP s.reopen mark day).2] ∧ H' = H) := by
 refine ACalls.pure (by simp [souC, zonC, AVal.closed, AVal.isPure]) (acalls_of_body F.has ?_)
 (conv => whnf); refine recA (fun h1 => ?_) (fun h1 => ?_)
 ·simp at h1
  conv => whnf
  rw [phP, if_pos (by omega)]
  exact pub2 (.closed _ rfl) (.closed _ rfl)
 (conv => whnf); refine recA (fun h2 => ?_) (fun h2 => ?_)
 ·simp at h2
  conv => whnf
  rw [phP, if_pos (by omega)]
  exact pub2 (.closed _ rfl) (.closed _ rfl)
 (conv => whnf); refine ACalls.use (zval_spec F.z38 _) ?_
 (conv => whnf); refine recA (fun h3 => ?_) (fun h3 => ?_)
 ·simp at h3
  conv => whnf
  rw [phP, if_pos (by omega)]
  exact pub2 (.closed _ rfl) (.closed _ rfl)
 (conv => whnf); refine recA (fun h4 => ?_) (fun h4 => ?_)
 ·simp at h4
  conv => whnf
  rw [phP, if_pos (by omega)]
  exact pub2 (.closed _ rfl) (.closed _ rfl)
 simp at h1 h2 h3 h4
 (conv => whnf); refine recA (fun h5 => ?_) (fun h5 => ?_)
 ·simp at h5
  conv => whnf
  rw [phP, if_neg (by omega), if_pos (by omega)]
  exact pub2 (.closed _ rfl) (.closed _ rfl)
 simp at h5
 (conv => whnf); refine ACalls.use (zSpan_spec F.z37 day (by omega) (by omega) _) ?_
 (conv => whnf); refine recA (fun h6 => ?_) (fun h6 => ?_)
 ·simp at h6
  conv => whnf
  rw [phP, if_neg (by omega), if_pos (by omega)]
  exact pub2 (.closed _ rfl) (.closed _ rfl)
 simp at h6
 (conv => whnf); refine recA (fun h7 => ?_) (fun h7 => ?_)
 ·simp at h7
  conv => whnf
  rw [phP, if_neg (by omega), if_neg (by omega), if_pos (by omega)]
  exact pub2 (.closed _ rfl) (.closed _ rfl)
 simp at h7
 conv => whnf
 rw [phP, if_neg (by omega), if_neg (by omega), if_neg (by omega)]
 exact pub2 (.closed _ rfl) (.closed _ rfl)
def judgeV (s : Sou) (mark : Int) (r : Rec) : Int :=
 if mark < -1 ∨ 575999999 < mark then 1 else if fitsV s r ≠ 0 then fitsV s r else if timeV s r < 0 then 0
 else if (phP s.reopen mark (dayP (timeV s r))).1 = 2 then 15 else 0
set_option maxRecDepth 20000 in
theorem judge_spec {P : Program} (F : F_z2t P) (s : Sou) (hs : s.ok) (mark : Int) (r : Rec) (hl : r.row.length ≤ 1000000) (H : List AObj) :
  ACalls P F.id [.agg (souC s), .agg zonC, .int .i64 mark, .agg (recC r)] H (fun q H' => q = .int .i64 (judgeV s mark r) ∧ H' = H) := by
 refine ACalls.pure (by simp [souC, zonC, recC, AVal.closed, AVal.isPure]) (acalls_of_body F.has ?_)
 (conv => whnf); refine recA (fun h1 => ?_) (fun h1 => ?_)
 ·simp at h1
  conv => whnf
  exact pubI (by rw [judgeV, if_pos (by omega)])
 (conv => whnf); refine recA (fun h2 => ?_) (fun h2 => ?_)
 ·simp at h2
  conv => whnf
  exact pubI (by rw [judgeV, if_pos (by omega)])
 simp at h1 h2
 (conv => whnf); refine ACalls.use (zval_spec F.z38 _) ?_
 (conv => whnf); refine ACalls.use (fits25_spec F.z2s s hs r hl _) ?_
 (conv => whnf); refine recA (fun h3 => ?_) (fun h3 => ?_)
 ·replace h3 : (!(fitsV s r == 0)) = true := h3
  conv => whnf
  exact pubI (by rw [judgeV, if_neg (by omega), if_pos (by simpa using h3)])
 replace h3 : (!(fitsV s r == 0)) = false := h3
 have h3' : ¬ fitsV s r ≠ 0 := by simpa using h3
 (conv => whnf); refine ACalls.use (time25_spec F.z2w s hs r hl _) ?_
 (conv => whnf); refine recA (fun h4 => ?_) (fun h4 => ?_)
 ·simp at h4
  conv => whnf
  exact pubI (by rw [judgeV, if_neg (by omega), if_neg h3', if_pos h4])
 simp at h4
 (conv => whnf); refine ACalls.use (zDayA_spec F.z36 (timeV s r) _) ?_
 (conv => whnf); refine ACalls.use (phase_spec F.z2v s mark (dayP (timeV s r)) _) ?_
 (conv => whnf); refine recA (fun h5 => ?_) (fun h5 => ?_)
 ·simp at h5
  conv => whnf
  exact pubI (by rw [judgeV, if_neg (by omega), if_neg h3', if_neg (by omega), if_pos h5])
 simp at h5
 conv => whnf
 exact pubI (by rw [judgeV, if_neg (by omega), if_neg h3', if_neg (by omega), if_neg h5])
theorem AVal.closed_of_isPure {v : AVal} (h : v.isPure = true) : v.closed = true := by cases v <;> first | rfl | exact h | (simp [AVal.isPure] at h)
theorem obSnoc {H : List AObj} {ids : List Nat} (sz : Nat) (es es1 : List (List AVal)) (c c1 : List AVal) (he : es1 = es ++ [c1]) (hp : pureEs es = true) (hc : c1.length = c.length)
  (h : ∀ (j : Nat) (d d1 : AVal), c[j]? = some d → c1[j]? = some d1 → Pub H 0 ids d d1 ∧ d1.isCell = true) : ObP H ids (.arr sz (es ++ [c])) (.arr sz es1) := by
 subst he
 refine .map sz _ _ (by simp) (fun i e e1 h1 h2 => ?_) (fun i j e e1 d d1 h1 h2 h3 h4 => ?_)
 ·by_cases hi : i < es.length
  ·rw [List.getElem?_append_left hi] at h1 h2
   rw [h1] at h2; cases h2; rfl
  ·rw [List.getElem?_append_right (by omega)] at h1 h2
   rcases hk : i - es.length with _ | q
   ·rw [hk] at h1 h2
    cases h1; cases h2; exact hc
   ·rw [hk] at h1; simp at h1
 ·by_cases hi : i < es.length
  ·rw [List.getElem?_append_left hi] at h1 h2
   rw [h1] at h2; cases h2
   rw [h3] at h4; cases h4
   have := pureEs_get hp h1 h3
   exact ⟨.closed _ (AVal.closed_of_isPure this), AVal.isCell_of_isPure this⟩
  ·rw [List.getElem?_append_right (by omega)] at h1 h2
   rcases hk : i - es.length with _ | q
   ·rw [hk] at h1 h2
    cases h1; cases h2
    exact h j d d1 h3 h4
   ·rw [hk] at h1; simp at h1
theorem pubRow {H : List AObj} {ids : List Nat} {id n : Nat} {row : List V} (hid : id ∉ ids) (h1 : H[id]? = some (.arr 3 (vC row))) (hn : n = row.length) : Pub H 0 ids (.sl id n 0 n) (.list false 3 (vC row)) := by
 have h := Pub.frz (n := 0) (ids := ids) id (vC row).length 0 (vC row).length 3 (vC row) h1 rfl (pureEs_vC _) hid
 rw [List.drop_zero, List.take_length, vC_length, ← hn] at h
 exact h
theorem obSnocR {H : List AObj} {ids : List Nat} {id n : Nat} {K : List Rec} {r : Rec} (hid : id ∉ ids) (h1 : H[id]? = some (.arr 3 (vC r.row))) (hn : n = r.row.length) :
  ObP H ids (.arr 3 (rC K ++ [[.bool r.del, .int .i64 r.seq, .sl id n 0 n]])) (.arr 3 (rC (K ++ [r]))) := by
 refine obSnoc 3 _ _ _ (recC r) (rC_append ..) (pureEs_rC _) rfl fun j d d1 h2 h3 => ?_
 rcases j with _ | _ | _ | j
 ·cases h2; cases h3; exact ⟨.closed _ rfl, rfl⟩
 ·cases h2; cases h3; exact ⟨.closed _ rfl, rfl⟩
 ·cases h2; cases h3; exact ⟨pubRow hid h1 hn, rfl⟩
 ·simp at h2
abbrev fzO : AObj := .arr 3 [[.str (bs []), .str (bs []), .nil]]
def cfH (f : Fil) (K : List Rec) (H : List AObj) : Prop :=
 (K = [] ∧ H = [.arr 3 [fV f], fzO, .arr 3 [[.str f.id, .str f.src, .nil]]]) ∨
 (K ≠ [] ∧ H = [.arr 3 [fV f], fzO, .arr 3 [[.str f.id, .str f.src, .sl 3 K.length 0 K.length]], .arr 3 (rC K)])
set_option maxRecDepth 20000 in
theorem CopyFile_raw {P : Program} (F : F_z2m P) (f : Fil) (hl : f.recs.length ≤ 1000) (hr : ∀ r ∈ f.recs, r.row.length ≤ 1000) (H : List AObj) :
  ACalls P F.id [.agg (fV f)] H (fun r H' => (r = .agg (fV f) ∨ f.recs = [] ∧ r = .agg [.str f.id, .str f.src, .nil]) ∧ H' = H) := by
 refine ACalls.lift0 (by simp [fV, AVal.closed, AVal.isPure]) (acalls_of_body F.has ?_)
 conv => whnf
 refine ⟨fun m ρ H1 => ∃ (k : Nat), k + m = f.recs.length ∧ cfH f (f.recs.take k) H1 ∧ Sv 37 [(1, .ptr 0 1 0 0), (2, .ptr 1 1 0 0), (3, .ptr 2 1 0 0), (4, .int .i64 k)] ρ, f.recs.length, [], ?_, ?_⟩
 ·exact ⟨0, by omega, .inl ⟨rfl, rfl⟩, Sv.intro rfl ⟨rfl, rfl, rfl, rfl, trivial⟩⟩
 rintro m ρ H1 ⟨k, hk, hc, d, rfl⟩
 have psf : pureEs [fV f] = true := by simp [pureEs, fV, AVal.isPure]
 rcases hc with ⟨h0, rfl⟩ | ⟨hne, rfl⟩
 ·(conv => whnf); refine recA (fun hlt => ?_) (fun hlt => ?_)
  ·simp [rC_length] at hlt
   have hx : f.recs[k]? = some f.recs[k] := List.getElem?_eq_getElem hlt
   have hrl := hr _ (List.getElem_mem hlt)
   generalize f.recs[k] = r at hx hrl
   have hT : f.recs.take (k + 1) = f.recs.take k ++ [r] := take_snoc hx
   (conv => whnf); refine And.intro (by omega) ?_
   (conv => whnf); refine recO (rC_at hx) ?_
   (conv => whnf); refine And.intro (⟨roomMul (by simp [vC_length]; omega) (by omega), roomB_le (by simp [vC_length]; omega)⟩) ?_
   (conv => whnf); refine And.intro (⟨roomMul (by simp) (by omega), roomB_le (by simp)⟩) ?_
   repeat ((conv => whnf); refine And.intro rfl ?_)
   conv => whnf
   rw [h0, List.nil_append] at hT
   refine ⟨m - 1, by omega, Gp.some (H1 := [.arr 3 [fV f], fzO, .arr 3 [[.str f.id, .str f.src, .sl 3 1 0 1]], .arr 3 (rC [r])]) [0, 1, 2, 6] (by simp) ⟨⟨_, rfl, .same _ _ psf⟩, ⟨_, rfl, .same _ _ rfl⟩, ⟨_, rfl, ?_⟩, ⟨_, rfl, ?_⟩, trivial⟩ rfl ?_ fun ρ1 h => ⟨k + 1, by omega, .inr ⟨by rw [hT]; simp, by rw [hT]; rfl⟩, h⟩⟩
   ·exact ob3 (pubSl (k := 3) rfl rfl rfl rfl) rfl
   ·exact obSnocR (K := []) (id := 4) (by simp) rfl (vC_length _)
   ·exact ⟨.keepP 0 1 0 0 0 rfl, .keepP 1 1 0 0 1 rfl, .keepP 2 1 0 0 2 rfl, pub_int (wrapI _ (by omega) (by omega)), trivial⟩
  ·simp [rC_length] at hlt
   have hn : f.recs = [] := by rw [← h0, List.take_of_length_le (by omega)]
   conv => whnf
   exact ⟨_, .closed _ rfl, .inr ⟨hn, rfl⟩⟩
 ·have hkl : (f.recs.take k).length = k := by rw [List.length_take]; omega
  (conv => whnf); refine recA (fun hlt => ?_) (fun hlt => ?_)
  ·simp [rC_length] at hlt
   have hx : f.recs[k]? = some f.recs[k] := List.getElem?_eq_getElem hlt
   have hrl := hr _ (List.getElem_mem hlt)
   generalize f.recs[k] = r at hx hrl
   have hT : f.recs.take (k + 1) = f.recs.take k ++ [r] := take_snoc hx
   generalize f.recs.take k = K at hT hkl hne
   (conv => whnf); refine And.intro (by omega) ?_
   (conv => whnf); refine recO (rC_at hx) ?_
   (conv => whnf); refine And.intro (⟨roomMul (by simp [vC_length]; omega) (by omega), roomB_le (by simp [vC_length]; omega)⟩) ?_
   (conv => whnf); refine recT (by rw [rC_length]; exact Nat.beq_refl _) ?_
   (conv => whnf); refine And.intro (⟨roomMul (by simp; omega) (by omega), roomB_le (by simp; omega), rfl, by rw [rC_length]⟩) ?_
   repeat ((conv => whnf); refine And.intro rfl ?_)
   conv => whnf
   have hL : (rC K ++ [[AVal.bool r.del, AVal.int .i64 r.seq, .sl 5 (vC r.row).length 0 (vC r.row).length]]).length = (K ++ [r]).length := by rw [List.length_append, rC_length, List.length_append]; rfl
   refine ⟨m - 1, by omega, Gp.some (H1 := [.arr 3 [fV f], fzO, .arr 3 [[.str f.id, .str f.src, .sl 3 (K ++ [r]).length 0 (K ++ [r]).length]], .arr 3 (rC (K ++ [r]))]) [0, 1, 2, 3] (by simp) ⟨⟨_, rfl, .same _ _ psf⟩, ⟨_, rfl, .same _ _ rfl⟩, ⟨_, rfl, ?_⟩, ⟨_, rfl, ?_⟩, trivial⟩ rfl ?_ fun ρ1 h => ⟨k + 1, by omega, .inr ⟨by rw [hT]; simp, by rw [hT]⟩, h⟩⟩
   ·exact ob3 (pubSl (k := 3) rfl rfl hL hL) rfl
   ·exact obSnocR (K := K) (id := 5) (by simp) rfl (vC_length _)
   ·exact ⟨.keepP 0 1 0 0 0 rfl, .keepP 1 1 0 0 1 rfl, .keepP 2 1 0 0 2 rfl, pub_int (wrapI _ (by omega) (by omega)), trivial⟩
  ·simp [rC_length] at hlt
   have hn : f.recs.take k = f.recs := List.take_of_length_le (by omega)
   rw [hn]
   conv => whnf
   refine ⟨.agg (fV f), .agg _ _ rfl fun i v r h1 h2 => ?_, .inl rfl⟩
   rcases i with _ | _ | _ | i
   ·cases h1; cases h2; exact .closed _ rfl
   ·cases h1; cases h2; exact .closed _ rfl
   ·cases h1; cases h2
    exact pubFI (by simp) rfl (rC_length _).symm (rC_length _).symm (pureEs_rC _)
   ·simp at h1
theorem CopyFile_spec {P : Program} (F : F_z2m P) (f : Fil) (hl : f.recs.length ≤ 1000) (hr : ∀ r ∈ f.recs, r.row.length ≤ 1000) (H : List AObj) :
  ACalls P F.id [.agg (fV f)] H (fun r H' => r = .agg (fV f) ∧ H' = H) :=
 ACalls.weakR (CopyFile_raw F f hl hr H) (by
  rintro r H' ⟨rfl | ⟨hn, rfl⟩, rfl⟩
  ·exact ⟨_, .refl _, rfl, rfl⟩
  ·refine ⟨.agg (fV f), .agg _ _ rfl fun i a b h1 h2 => ?_, rfl, rfl⟩
   rcases i with _ | _ | _ | i
   ·cases h1; cases h2; exact .refl _
   ·cases h1; cases h2; exact .refl _
   ·cases h1; cases h2; rw [hn]; exact .nil _ _
   ·simp at h1)
structure Del where
 f : Fil
 jd : List Int
def delC (d : Del) : List AVal := [.str d.f.id, .str d.f.src, .list false 3 (rC d.f.recs), .list false 1 (iC d.jd)]
def dsC (l : List Del) : List (List AVal) := l.map delC
def ledC (l : List Del) : List AVal := [.list false 4 (dsC l)]
theorem dsC_length (l : List Del) : (dsC l).length = l.length := List.length_map ..
theorem dsC_append (a b : List Del) : dsC (a ++ b) = dsC a ++ dsC b := List.map_append ..
theorem dsC_at {l : List Del} {k : Nat} {x : Del} (h : l[k]? = some x) : (dsC l)[k]? = some (delC x) := by rw [dsC, List.getElem?_map, h]; rfl
theorem pureEs_dsC (l : List Del) : pureEs (dsC l) = true := by
 rw [pureEs, List.all_eq_true]
 intro e he
 obtain ⟨x, _, rfl⟩ := List.mem_map.1 he
 rfl
def Del.ok (d : Del) : Prop := d.f.recs.length ≤ 1000 ∧ (∀ r ∈ d.f.recs, r.row.length ≤ 1000) ∧ d.jd.length ≤ 1000
set_option maxRecDepth 20000 in
theorem copyDelivery_spec {P : Program} (F : F_z32 P) (x : Del) (hx : x.ok) (H : List AObj) :
  ACalls P F.id [.agg (delC x)] H (fun r H' => r = .agg (delC x) ∧ H' = H) := by
 obtain ⟨h1, h2, h3⟩ := hx
 refine ACalls.pure (by simp [delC, AVal.closed, AVal.isPure]) (acalls_of_body F.has ?_)
 (conv => whnf); refine ⟨_, CopyFile_spec F.z2m x.f h1 h2 _, ?_⟩
 (conv => whnf); refine And.intro (⟨roomMul (by simp [iC_length]; omega) (by omega), roomB_le (by simp [iC_length]; omega)⟩) ?_
 repeat ((conv => whnf); refine And.intro rfl ?_)
 conv => whnf
 refine .agg _ _ rfl fun i v r h1 h2 => ?_
 rcases i with _ | _ | _ | _ | i
 ·cases h1; cases h2; exact .closed _ rfl
 ·cases h1; cases h2; exact .closed _ rfl
 ·cases h1; cases h2; exact .closed _ rfl
 ·cases h1; cases h2
  exact pubFI (by simp) rfl rfl rfl (pureEs_iC _)
 ·simp at h1
def clH (l : List Del) (K : List Del) (H : List AObj) : Prop :=
 (K = [] ∧ H = [.arr 1 [ledC l], .arr 1 [[.nil]], .arr 1 [[.nil]]]) ∨
 (K ≠ [] ∧ H = [.arr 1 [ledC l], .arr 1 [[.nil]], .arr 1 [[.sl 3 K.length 0 K.length]], .arr 4 (dsC K)])
theorem ob11 {H : List AObj} {ids : List Nat} {c c1 : AVal} (h : Pub H 0 ids c c1) (hc : c1.isCell = true) : ObP H ids (.arr 1 [[c]]) (.arr 1 [[c1]]) := by
 refine obSnoc 1 [] [[c1]] [c] [c1] rfl rfl rfl fun j d d1 h1 h2 => ?_
 rcases j with _ | j
 ·cases h1; cases h2; exact ⟨h, hc⟩
 ·simp at h1
set_option maxRecDepth 20000 in
theorem CopyLedger_body {P : Program} (F : F_z2z P) (l : List Del) (hl : l.length ≤ 1000) (hok : ∀ x ∈ l, x.ok) :
  ACalls P F.id [.agg (ledC l)] [] (fun r H1 => (l = [] ∧ r = .agg [.nil]) ∨ (l ≠ [] ∧ r = .agg [.sl 3 l.length 0 l.length] ∧ ∃ x y z, H1 = [x, y, z, .arr 4 (dsC l)])) := by
 refine acalls_of_body F.has ?_
 conv => whnf
 refine ⟨fun m ρ H1 => ∃ (k : Nat), k + m = l.length ∧ clH l (l.take k) H1 ∧ Sv 24 [(1, .ptr 0 1 0 0), (2, .ptr 1 1 0 0), (3, .ptr 2 1 0 0), (4, .int .i64 k)] ρ, l.length, [], ?_, ?_⟩
 ·exact ⟨0, by omega, .inl ⟨rfl, rfl⟩, Sv.intro rfl ⟨rfl, rfl, rfl, rfl, trivial⟩⟩
 rintro m ρ H1 ⟨k, hk, hc, d, rfl⟩
 have psf : pureEs [ledC l] = true := rfl
 rcases hc with ⟨h0, rfl⟩ | ⟨hne, rfl⟩
 ·(conv => whnf); refine recA (fun hlt => ?_) (fun hlt => ?_)
  ·simp [dsC_length] at hlt
   have hx : l[k]? = some l[k] := List.getElem?_eq_getElem hlt
   have hrl := hok _ (List.getElem_mem hlt)
   generalize l[k] = x at hx hrl
   have hT : l.take (k + 1) = l.take k ++ [x] := take_snoc hx
   (conv => whnf); refine And.intro (by omega) ?_
   (conv => whnf); refine recO (dsC_at hx) ?_
   (conv => whnf); refine ⟨_, _, copyDelivery_spec F.z32 x hrl _, ?_⟩
   (conv => whnf); refine And.intro (⟨roomMul (by simp) (by omega), roomB_le (by simp)⟩) ?_
   repeat ((conv => whnf); refine And.intro rfl ?_)
   conv => whnf
   rw [h0, List.nil_append] at hT
   refine ⟨m - 1, by omega, Gp.some (H1 := [.arr 1 [ledC l], .arr 1 [[.nil]], .arr 1 [[.sl 3 1 0 1]], .arr 4 (dsC [x])]) [0, 1, 2, 4] (by simp) ⟨⟨_, rfl, .same _ _ psf⟩, ⟨_, rfl, .same _ _ rfl⟩, ⟨_, rfl, ?_⟩, ⟨_, rfl, .same _ _ (pureEs_dsC [x])⟩, trivial⟩ rfl ?_ fun ρ1 h => ⟨k + 1, by omega, .inr ⟨by rw [hT]; simp, by rw [hT]; rfl⟩, h⟩⟩
   ·exact ob11 (pubSl (k := 3) rfl rfl rfl rfl) rfl
   ·exact ⟨.keepP 0 1 0 0 0 rfl, .keepP 1 1 0 0 1 rfl, .keepP 2 1 0 0 2 rfl, pub_int (wrapI _ (by omega) (by omega)), trivial⟩
  ·simp [dsC_length] at hlt
   have hn : l = [] := by rw [← h0, List.take_of_length_le (by omega)]
   conv => whnf
   exact .inl ⟨hn, rfl⟩
 ·have hkl : (l.take k).length = k := by rw [List.length_take]; omega
  (conv => whnf); refine recA (fun hlt => ?_) (fun hlt => ?_)
  ·simp [dsC_length] at hlt
   have hx : l[k]? = some l[k] := List.getElem?_eq_getElem hlt
   have hrl := hok _ (List.getElem_mem hlt)
   generalize l[k] = x at hx hrl
   have hT : l.take (k + 1) = l.take k ++ [x] := take_snoc hx
   generalize l.take k = K at hT hkl hne
   (conv => whnf); refine And.intro (by omega) ?_
   (conv => whnf); refine recO (dsC_at hx) ?_
   (conv => whnf); refine ⟨_, _, copyDelivery_spec F.z32 x hrl _, ?_⟩
   (conv => whnf); refine recT (by rw [dsC_length]; exact Nat.beq_refl _) ?_
   (conv => whnf); refine And.intro (⟨roomMul (by simp; omega) (by omega), roomB_le (by simp; omega), rfl, by rw [dsC_length]⟩) ?_
   repeat ((conv => whnf); refine And.intro rfl ?_)
   conv => whnf
   have hcn : dsC K ++ [delC x] = dsC (K ++ [x]) := by rw [dsC_append]; rfl
   have hL : (dsC K ++ [delC x]).length = (K ++ [x]).length := by rw [hcn, dsC_length]
   refine ⟨m - 1, by omega, Gp.some (H1 := [.arr 1 [ledC l], .arr 1 [[.nil]], .arr 1 [[.sl 3 (K ++ [x]).length 0 (K ++ [x]).length]], .arr 4 (dsC K ++ [delC x])]) [0, 1, 2, 3] (by simp) ⟨⟨_, rfl, .same _ _ psf⟩, ⟨_, rfl, .same _ _ rfl⟩, ⟨_, rfl, ?_⟩, ⟨_, rfl, .same _ _ (hcn ▸ pureEs_dsC _)⟩, trivial⟩ rfl ?_ fun ρ1 h => ⟨k + 1, by omega, .inr ⟨by rw [hT]; simp, by rw [hT, hcn]⟩, h⟩⟩
   ·exact ob11 (pubSl (k := 3) rfl rfl hL hL) rfl
   ·exact ⟨.keepP 0 1 0 0 0 rfl, .keepP 1 1 0 0 1 rfl, .keepP 2 1 0 0 2 rfl, pub_int (wrapI _ (by omega) (by omega)), trivial⟩
  ·simp [dsC_length] at hlt
   have hn : l.take k = l := List.take_of_length_le (by omega)
   rw [hn] at hne ⊢
   conv => whnf
   exact .inr ⟨hne, rfl, _, _, _, rfl⟩
theorem CopyLedger_own {P : Program} (F : F_z2z P) (l : List Del) (hl : l.length ≤ 1000) (hok : ∀ x ∈ l, x.ok) (H : List AObj) :
  ACalls P F.id [.agg (ledC l)] H (fun r H' => (l = [] ∧ r = .agg [.nil] ∧ H' = H) ∨ (l ≠ [] ∧ r = .agg [.sl H.length l.length 0 l.length] ∧ H' = H ++ [.arr 4 (dsC l)])) := by
 refine ACalls.lift (by simp [ledC, AVal.closed, AVal.isPure]) (CopyLedger_body F l hl hok) ?_
 rintro r H1 (⟨hn, rfl⟩ | ⟨hn, rfl, x, y, z, rfl⟩)
 ·exact ⟨[], .agg [.nil], [], .closed _ rfl, List.nodup_nil, rfl, fun k id h => by simp at h, .inl ⟨hn, rfl, by simp⟩⟩
 ·refine ⟨[3], .agg [.sl H.length l.length 0 l.length], [.arr 4 (dsC l)], .agg _ _ rfl fun i v r h1 h2 => ?_, by simp, rfl, fun k id hk => ?_, .inr ⟨hn, rfl, rfl⟩⟩
  ·rcases i with _ | i
   ·cases h1; cases h2
    exact pubSl (k := 0) rfl (Nat.add_zero _).symm rfl rfl
   ·simp at h1
  ·cases k with
   | zero => simp at hk; subst hk; exact ⟨rfl, 4, _, rfl, pureEs_dsC _⟩
   | succ k => simp at hk
set_option maxRecDepth 20000 in
theorem copyDelivery_nil {P : Program} (F : F_z32 P) (f : Fil) (h1 : f.recs.length ≤ 1000) (h2 : ∀ r ∈ f.recs, r.row.length ≤ 1000) (H : List AObj) :
  ACalls P F.id [.agg [.str f.id, .str f.src, .list false 3 (rC f.recs), .nil]] H (fun r H' => r = .agg (delC ⟨f, []⟩) ∧ H' = H) := by
 refine ACalls.pure (by simp [AVal.closed, AVal.isPure]) (acalls_of_body F.has ?_)
 (conv => whnf); refine ⟨_, CopyFile_spec F.z2m f h1 h2 _, ?_⟩
 (conv => whnf); refine And.intro (⟨roomMul (by simp) (by omega), roomB_le (by simp)⟩) ?_
 repeat ((conv => whnf); refine And.intro rfl ?_)
 conv => whnf
 refine .agg _ _ rfl fun i v r h1 h2 => ?_
 rcases i with _ | _ | _ | _ | i
 ·cases h1; cases h2; exact .closed _ rfl
 ·cases h1; cases h2; exact .closed _ rfl
 ·cases h1; cases h2; exact .closed _ rfl
 ·cases h1; cases h2
  exact pubFI (by simp) rfl rfl rfl (pureEs_iC [])
 ·simp at h1
def defC (s : Sou) : List AVal := [.list false 3 [zonC], .list false 7 [souC s], .nil, .nil, .nil, .nil]
theorem SourceOf_spec {P : Program} (F : F_z2k P) (s : Sou) (H : List AObj) :
  ACalls P F.id [.agg (defC s), .str s.name] H (fun r H' => r = .tuple [.agg (souC s), .bool true] ∧ H' = H) := by
 refine ACalls.pure rfl (acalls_of_body F.has ?_)
 conv => whnf
 refine ⟨fun m ρ H1 => H1 = [.arr 6 [defC s], .arr 7 [[.str (bs []), .nil, .nil, .str (bs []), .str (bs []), .int .i64 0, .int .i64 0]]] ∧ Sv 28 [(1, .str s.name), (2, .ptr 0 1 0 0), (4, .ptr 1 1 0 0), (6, .int .i64 0)] ρ, 0, [], ?_, ?_⟩
 ·exact ⟨rfl, Sv.intro rfl ⟨rfl, rfl, rfl, rfl, trivial⟩⟩
 rintro m ρ H1 ⟨rfl, d, rfl⟩
 (conv => whnf); refine And.intro (by decide) ?_
 (conv => whnf); refine recT (by simp) ?_
 (conv => whnf); refine And.intro (by decide) ?_
 conv => whnf
 exact pub2 (.closed _ (souC_closed s)) (.closed _ rfl)
set_option maxRecDepth 20000 in
theorem zoneOf_spec {P : Program} (F : F_z34 P) (s : Sou) (hz : s.zone = bs [122]) (H : List AObj) :
  ACalls P F.id [.agg (defC s), .str s.name] H (fun r H' => r = .tuple [.agg (souC s), .agg zonC, .bool true] ∧ H' = H) := by
 refine ACalls.pure rfl (acalls_of_body F.has ?_)
 (conv => whnf); refine ACalls.use (SourceOf_spec F.z2k s _) ?_
 conv => whnf
 refine ⟨fun m ρ H1 => H1 = [.arr 6 [defC s], .arr 7 [[.str (bs []), .nil, .nil, .str (bs []), .str (bs []), .int .i64 0, .int .i64 0]], .arr 3 [[.str (bs []), .int .i64 0, .nil]], .arr 7 [souC s]] ∧ Sv 43 [(2, .ptr 0 1 0 0), (4, .ptr 1 1 0 0), (5, .ptr 2 1 0 0), (7, .ptr 3 1 0 0), (8, .bool true), (9, .int .i64 0)] ρ, 0, [], ?_, ?_⟩
 ·exact ⟨rfl, Sv.intro rfl ⟨rfl, rfl, rfl, rfl, rfl, rfl, trivial⟩⟩
 rintro m ρ H1 ⟨rfl, d, rfl⟩
 (conv => whnf); refine And.intro (by decide) ?_
 (conv => whnf); refine recT (by rw [hz]; simp) ?_
 (conv => whnf); refine And.intro (by decide) ?_
 repeat ((conv => whnf); refine And.intro rfl ?_)
 (conv => whnf); refine And.intro (by (conv => whnf); exact ⟨by decide, rfl⟩) ?_
 repeat ((conv => whnf); refine And.intro rfl ?_)
 conv => whnf
 exact pub3 (.closed _ (souC_closed s)) (.closed _ zonC_closed) (.closed (.bool true) rfl)
set_option maxRecDepth 20000 in
theorem Clone_raw {P : Program} (F : F_z1c P) (ex : Bool) (cs : List Col) (hl : cs.length ≤ 1000000) :
  ACalls P F.id [.list ex 3 (cC cs)] [] (fun r H' => (r = .nil ∧ cs = [] ∧ H' = []) ∨ (r = .sl 0 cs.length 0 cs.length ∧ H' = [.arr 3 (cC cs)])) := by
 refine acalls_of_body F.has ?_
 conv => whnf
 refine And.intro (fun h => ?_) ?_
 ·conv => whnf
  exact .inl ⟨rfl, by simpa [cC] using h, rfl⟩
 ·conv => whnf
  refine And.intro ⟨roomMul (by simp [cC_length]; omega) (by omega), roomB_le (by simp [cC_length]; omega), .inr rfl⟩ ?_
  conv => whnf
  refine .inr ⟨slEq ?_ ?_, rfl⟩
  ·simp [cC_length]
  ·simp [cC_length]
def vldGo (full : List Col) : List Col → Int → Int
 | [], _ => 0
 | c :: cs, i => if nameB c.name = false then 4 else if c.kind < 1 ∨ 4 < c.kind then 7 else if colIdx full c.name < i then 6 else vldGo full cs (i + 1)
def vldC (cs : List Col) : Int := if cs.length < 1 ∨ 12 < cs.length then 2 else vldGo cs cs 0
set_option maxRecDepth 20000 in
theorem schema_Validate_spec {P : Program} (F : F_z1a P) (e1 : Bool) (cs : List Col) (hl : cs.length ≤ 1000000) (H : List AObj) :
  ACalls P F.id [.list e1 3 (cC cs)] H (fun r H' => r = .int .i64 (vldC cs) ∧ H' = H) := by
 refine ACalls.pure (by simp [AVal.closed, AVal.isPure]) (acalls_of_body F.has ?_)
 (conv => whnf); refine recA (fun h0 => ?_) (fun h0 => ?_)
 ·simp [cC_length] at h0
  conv => whnf
  exact pubI (by rw [vldC, if_pos (by omega)])
 simp [cC_length] at h0
 (conv => whnf); refine recA (fun h1 => ?_) (fun h1 => ?_)
 ·simp [cC_length] at h1
  conv => whnf
  exact pubI (by rw [vldC, if_pos (by omega)])
 simp [cC_length] at h1
 have h2 : 0 < cs.length := by omega
 have hR : vldC cs = vldGo cs cs 0 := by rw [vldC, if_neg (by omega)]
 conv => whnf
 refine ⟨fun m ρ H1 => ∃ k : Nat, k + m = cs.length ∧ vldGo cs (cs.drop k) k = vldC cs ∧ H1 = [] ∧
  Sv 42 [(0, .list e1 3 (cC cs)), (13, .list e1 3 (cC cs)), (14, .int .i64 cs.length), (15, .int .i64 k)] ρ, cs.length, [], ?_, ?_⟩
 ·exact ⟨0, by omega, hR.symm, rfl, Sv.intro rfl ⟨rfl, rfl, intEq (by rw [cC_length]), rfl, trivial⟩⟩
 rintro m ρ H1 ⟨k, hk, hr, rfl, d, rfl⟩
 (conv => whnf); refine recA (fun hlt => ?_) (fun hlt => ?_)
 ·simp at hlt
  obtain ⟨c, hc, hdc, _⟩ := get_drop (show k < cs.length by omega)
  rw [hdc, vldGo] at hr
  repeat' ((conv => whnf); first | refine And.intro (by omega) ?_ | refine recO (cC_at hc) ?_ | refine ACalls.use (schema_IsName_spec F.z17 c.name _) ?_ | refine ACalls.use (schema_Index_spec F.z15 e1 cs hl c.name _) ?_ | refine recA (fun h => ?_) (fun h => ?_))
  all_goals (conv => whnf)
  all_goals first
   | refine ⟨m - 1, by omega, Gp.none rfl ?_ fun ρ1 h => ⟨k + 1, by omega, ?_, rfl, h⟩⟩
   | refine pubI ?_
  all_goals first
   | exact ⟨.closed _ rfl, .closed _ rfl, .closed _ rfl, pub_int (wrapI ((k : Int) + 1) (by omega) (by omega)), trivial⟩
   | skip
  all_goals first
   | (rw [← hr]; simp_all; done)
   | (rw [← hr, if_neg (by simp_all), if_neg (by simp_all <;> omega), if_neg (by simp_all <;> omega)]; rfl)
 ·simp at hlt
  conv => whnf
  rw [List.drop_eq_nil_of_le (show cs.length ≤ k by omega)] at hr
  exact pubI hr
theorem wname_size (n : Int) : (wname n).size ≤ 2 := by
 have h1 := Int.emod_nonneg n (show (12 : Int) ≠ 0 by decide)
 have h2 := Int.emod_lt_of_pos n (show (0 : Int) < 12 by decide)
 have : ∀ k, k < 12 → (wnames.getD k (bs [])).size ≤ 2 := by decide
 exact this _ (by omega)
noncomputable def eqD {α : Type} (a b : α) : Bool := @decide (a = b) (Classical.propDecidable _)
theorem eqD_true {α : Type} {a b : α} (h : a = b) : eqD a b = true := by simp [eqD, h]
theorem eqD_false {α : Type} {a b : α} (h : a ≠ b) : eqD a b = false := by simp [eqD, h]
theorem strEq_iff {s t : ByteArray} : (s.data.toList == t.data.toList) = true ↔ s = t := by
 rw [beq_iff_eq]
 constructor
 ·intro h
  cases s; cases t
  simp only at h
  rw [Array.toList_inj] at h
  rw [h]
 ·rintro rfl; rfl
theorem vEq_iff {x y : V} : (x.kind == y.kind && (x.num == y.num && (x.str.data.toList == y.str.data.toList && true))) = true ↔ x = y := by
 rw [Bool.and_eq_true, Bool.and_eq_true, Bool.and_true, strEq_iff, beq_iff_eq, beq_iff_eq]
 constructor
 ·rintro ⟨h1, h2, h3⟩
  cases x; cases y
  simp only at h1 h2 h3
  rw [h1, h2, h3]
 ·rintro rfl; exact ⟨rfl, rfl, rfl⟩
theorem take_more {α : Type} {a b : List α} {k : Nat} {x y : α} (ht : a.take k = b.take k) (hx : a[k]? = some x) (hy : b[k]? = some y) (h : x = y) : a.take (k + 1) = b.take (k + 1) := by
 rw [List.take_add_one, List.take_add_one, hx, hy, ht, h]
theorem get_ne {α : Type} {a b : List α} {k : Nat} {x y : α} (hx : a[k]? = some x) (hy : b[k]? = some y) (h : x ≠ y) : a ≠ b := fun e => by
 rw [e, hy] at hx
 cases hx
 exact h rfl
set_option maxRecDepth 20000 in
theorem ref22_SameRow_spec {P : Program} (F : F_z2i P) (e1 e2 : Bool) (a b : List V) (ha : a.length ≤ 1000000) (H : List AObj) :
  ACalls P F.id [.list e1 3 (vC a), .list e2 3 (vC b)] H (fun r H' => r = .bool (eqD a b) ∧ H' = H) := by
 refine ACalls.pure (by simp [AVal.closed, AVal.isPure]) (acalls_of_body F.has ?_)
 (conv => whnf); refine recA (fun hn => ?_) (fun hn => ?_)
 ·simp [vC_length] at hn
  conv => whnf
  exact pubB (eqD_false (fun e => hn (by rw [e]))).symm
 simp [vC_length] at hn
 conv => whnf
 refine ⟨fun m ρ H => ∃ k : Nat, k + m = a.length ∧ a.take k = b.take k ∧ H = [] ∧ Sv 26 [(0, .list e1 3 (vC a)), (1, .list e2 3 (vC b)), (5, .int .i64 k)] ρ, a.length, [], ?_, ?_⟩
 ·exact ⟨0, by omega, rfl, rfl, Sv.intro rfl ⟨rfl, rfl, rfl, trivial⟩⟩
 rintro m ρ H ⟨k, hk, ht, rfl, d, rfl⟩
 (conv => whnf); refine recA (fun hlt => ?_) (fun hlt => ?_)
 ·simp [vC_length] at hlt
  have hx : a[k]? = some a[k] := List.getElem?_eq_getElem hlt
  have hy : b[k]? = some (b[k]'(by omega)) := List.getElem?_eq_getElem (by omega)
  (conv => whnf); refine And.intro (by omega) ?_
  (conv => whnf); refine recO (vC_at hx) ?_
  (conv => whnf); refine And.intro (by omega) ?_
  (conv => whnf); refine recO (vC_at hy) ?_
  (conv => whnf); refine recA (fun hne => ?_) (fun hne => ?_)
  ·have hv : a[k] ≠ b[k]'(by omega) := fun e => by rw [vEq_iff.2 e] at hne; cases hne
   conv => whnf
   exact pubB (eqD_false (get_ne hx hy hv)).symm
  ·have hv : a[k] = b[k]'(by omega) := vEq_iff.1 (by rw [Bool.not_eq_false'] at hne; exact hne)
   conv => whnf
   refine ⟨m - 1, by omega, Gp.keep rfl ?_ fun ρ1 h => ⟨k + 1, by omega, take_more ht hx hy hv, rfl, h⟩⟩
   exact ⟨rfl, rfl, intEq (wrapI ((k : Int) + 1) (by omega) (by omega)), trivial⟩
 ·simp [vC_length] at hlt
  have : a = b := by
   rw [List.take_of_length_le (by omega), List.take_of_length_le (by omega)] at ht
   exact ht
  conv => whnf
  exact pubB (eqD_true this).symm
theorem SameRecord_spec {P : Program} (F : F_z2p P) (r s : Rec) (ha : r.row.length ≤ 1000000) (H : List AObj) :
  ACalls P F.id [.agg (recC r), .agg (recC s)] H (fun q H' => q = .bool (eqD r s) ∧ H' = H) := by
 refine ACalls.pure (by simp [AVal.closed, recC, AVal.isPure]) (acalls_of_body F.has ?_)
 (conv => whnf); refine recA (fun h1 => ?_) (fun h1 => ?_)
 ·replace h1 : (r.del == s.del) = true := h1
  (conv => whnf); refine recA (fun h2 => ?_) (fun h2 => ?_)
  ·replace h2 : (r.seq == s.seq) = true := h2
   (conv => whnf); refine ACalls.use (ref22_SameRow_spec F.z2i false false r.row s.row ha _) ?_
   conv => whnf
   refine pubB ?_
   by_cases hr : r.row = s.row
   ·rw [eqD_true hr, eqD_true]
    rw [beq_iff_eq] at h1 h2
    cases r; cases s
    simp only at h1 h2 hr
    rw [h1, h2, hr]
   ·rw [eqD_false hr, eqD_false (fun e => hr (by rw [e]))]
  ·replace h2 : (r.seq == s.seq) = false := h2
   conv => whnf
   exact pubB (eqD_false (fun e => by rw [e, beq_self_eq_true] at h2; cases h2)).symm
 ·replace h1 : (r.del == s.del) = false := h1
  conv => whnf
  exact pubB (eqD_false (fun e => by rw [e, beq_self_eq_true] at h1; cases h1)).symm
set_option maxRecDepth 20000 in
theorem SameFile_spec {P : Program} (F : F_z2o P) (f g : Fil) (ha : f.recs.length ≤ 1000000) (hr : ∀ r ∈ f.recs, r.row.length ≤ 1000000) (H : List AObj) :
  ACalls P F.id [.agg (fV f), .agg (fV g)] H (fun q H' => q = .bool (eqD f g) ∧ H' = H) := by
 refine ACalls.pure (by simp [AVal.closed, fV, AVal.isPure]) (acalls_of_body F.has ?_)
 (conv => whnf); refine recA (fun h1 => ?_) (fun h1 => ?_)
 ·replace h1 : (!(f.id.data.toList == g.id.data.toList)) = true := h1
  conv => whnf
  exact pubB (eqD_false (fun e => by rw [e, beq_self_eq_true] at h1; cases h1)).symm
 replace h1 : (!(f.id.data.toList == g.id.data.toList)) = false := h1
 rw [Bool.not_eq_false', strEq_iff] at h1
 (conv => whnf); refine recA (fun h2 => ?_) (fun h2 => ?_)
 ·replace h2 : (!(f.src.data.toList == g.src.data.toList)) = true := h2
  conv => whnf
  exact pubB (eqD_false (fun e => by rw [e, beq_self_eq_true] at h2; cases h2)).symm
 replace h2 : (!(f.src.data.toList == g.src.data.toList)) = false := h2
 rw [Bool.not_eq_false', strEq_iff] at h2
 (conv => whnf); refine recA (fun h3 => ?_) (fun h3 => ?_)
 ·simp [rC_length] at h3
  conv => whnf
  exact pubB (eqD_false (fun e => h3 (by rw [e]))).symm
 simp [rC_length] at h3
 conv => whnf
 refine ⟨fun m ρ H => ∃ k : Nat, k + m = f.recs.length ∧ f.recs.take k = g.recs.take k ∧ H = [.arr 3 [fV f], .arr 3 [fV g]] ∧ Sv 46 [(2, .ptr 0 1 0 0), (3, .ptr 1 1 0 0), (5, .int .i64 k)] ρ, f.recs.length, [], ?_, ?_⟩
 ·exact ⟨0, by omega, rfl, rfl, Sv.intro rfl ⟨rfl, rfl, rfl, trivial⟩⟩
 rintro m ρ H ⟨k, hk, ht, rfl, d, rfl⟩
 (conv => whnf); refine recA (fun hlt => ?_) (fun hlt => ?_)
 ·simp [rC_length] at hlt
  have hx : f.recs[k]? = some f.recs[k] := List.getElem?_eq_getElem hlt
  have hy : g.recs[k]? = some (g.recs[k]'(by omega)) := List.getElem?_eq_getElem (by omega)
  (conv => whnf); refine And.intro (by omega) ?_
  (conv => whnf); refine recO (rC_at hx) ?_
  (conv => whnf); refine And.intro (by omega) ?_
  (conv => whnf); refine recO (rC_at hy) ?_
  (conv => whnf); refine ⟨_, SameRecord_spec F.z2p f.recs[k] (g.recs[k]'(by omega)) (hr _ (List.getElem_mem hlt)) _, ?_⟩
  (conv => whnf); refine recA (fun hne => ?_) (fun hne => ?_)
  ·replace hne : (!(eqD f.recs[k] (g.recs[k]'(by omega)))) = true := hne
   have hv : f.recs[k] ≠ g.recs[k]'(by omega) := fun e => by rw [eqD_true e] at hne; cases hne
   conv => whnf
   exact pubB (eqD_false (fun e => get_ne hx hy hv (by rw [e]))).symm
  ·replace hne : (!(eqD f.recs[k] (g.recs[k]'(by omega)))) = false := hne
   have hv : f.recs[k] = g.recs[k]'(by omega) := Classical.byContradiction fun hn => by rw [eqD_false hn] at hne; cases hne
   conv => whnf
   refine ⟨m - 1, by omega, Gp.keep rfl ?_ fun ρ1 h => ⟨k + 1, by omega, take_more ht hx hy hv, rfl, h⟩⟩
   exact ⟨rfl, rfl, intEq (wrapI ((k : Int) + 1) (by omega) (by omega)), trivial⟩
 ·simp [rC_length] at hlt
  have : f.recs = g.recs := by
   rw [List.take_of_length_le (by omega), List.take_of_length_le (by omega)] at ht
   exact ht
  conv => whnf
  refine pubB (eqD_true ?_).symm
  cases f; cases g
  simp only at h1 h2 this
  rw [h1, h2, this]
def tO (x y z : List Int) : AObj := .arr 1 [[.list false 1 (bC x)], [.list false 1 (bC y)], [.list false 1 (bC z)]]
set_option maxRecDepth 20000 in
theorem ins0_spec {P : Program} (F : F_z1p P) (X : AVal) (g : FuncId) (H : List AObj) :
  ACalls P F.id [X, .int .i64 0, .int .i64 0, .fn g []] H (fun r H' => r = .tuple [] ∧ H' = H) := by
 refine acalls_of_body F.has ?_
 conv => whnf
 refine ⟨fun m ρ H1 => H1 = H ∧ Sv 53 [(1, .int .i64 0), (2, .int .i64 0), (8, .int .i64 1)] ρ, 0, [], ?_, ?_⟩
 ·exact ⟨rfl, Sv.intro rfl ⟨rfl, rfl, rfl, trivial⟩⟩
 rintro m ρ H1 ⟨rfl, d, rfl⟩
 conv => whnf
 exact ⟨rfl, rfl⟩
set_option maxRecDepth 20000 in
theorem Len64_0 {P : Program} (F : F_z13 P) (H : List AObj) :
  ACalls P F.id [.int .u64 0] H (fun r H' => r = .int .i64 0 ∧ H' = H) := by
 refine ACalls.pure rfl (acalls_of_body F.has ?_)
 (conv => whnf); refine And.intro (by decide) ?_
 conv => whnf
 exact .closed _ rfl
theorem Len_0 {P : Program} (F : F_z12 P) (H : List AObj) :
  ACalls P F.id [.int .u64 0] H (fun r H' => r = .int .i64 0 ∧ H' = H) := by
 refine ACalls.pure rfl (acalls_of_body F.has ?_)
 (conv => whnf); refine ACalls.use (Len64_0 F.z13 _) ?_
 conv => whnf
 exact .closed _ rfl
set_option maxRecDepth 20000 in
theorem pdq0_spec {P : Program} (F : F_z1r P) (X : AVal) (g : FuncId) (H : List AObj) :
  ACalls P F.id [X, .int .i64 0, .int .i64 0, .int .i64 0, .fn g []] H (fun r H' => r = .tuple [] ∧ H' = H) := by
 refine acalls_of_body F.has ?_
 conv => whnf
 refine ⟨fun m ρ H1 => H1 = H ∧ Sv 148 [(0, X), (1, .int .i64 0), (2, .int .i64 0), (3, .int .i64 0), (4, .fn g []), (10, .bool true), (11, .bool true)] ρ, 0, [], ?_, ?_⟩
 ·exact ⟨rfl, Sv.intro rfl ⟨rfl, rfl, rfl, rfl, rfl, rfl, rfl, trivial⟩⟩
 rintro m ρ H1 ⟨rfl, d, rfl⟩
 (conv => whnf); refine ACalls.use (ins0_spec F.z1p X g _) ?_
 conv => whnf
 exact ⟨rfl, rfl⟩
theorem sort0_spec {P : Program} (F : F_z1m P) (id : Nat) (g : FuncId) (H : List AObj) (ho : H[id]? = some (.arr 2 [])) :
  ACalls P F.id [.sl id 0 0 0, .fn g []] H (fun r H' => r = .tuple [] ∧ H' = H) := by
 refine acalls_of_body F.has ?_
 (conv => whnf); refine recO (ho) ?_
 (conv => whnf); refine ACalls.use (Len_0 F.z12 _) ?_
 (conv => whnf); refine ACalls.use (pdq0_spec F.z1r (.sl id 0 0 0) g _) ?_
 conv => whnf
 exact ⟨rfl, rfl⟩
theorem sort0n_spec {P : Program} (F : F_z1m P) (g : FuncId) (H : List AObj) :
  ACalls P F.id [.nil, .fn g []] H (fun r H' => r = .tuple [] ∧ H' = H) := by
 refine acalls_of_body F.has ?_
 (conv => whnf); refine ACalls.use (Len_0 F.z12 _) ?_
 (conv => whnf); refine ACalls.use (pdq0_spec F.z1r .nil g _) ?_
 conv => whnf
 exact ⟨rfl, rfl⟩
end Go.AW
namespace Go.AW
variable [Draws]
def grpA (c : Ent) : List Ent → List Ent
 | [] => [c]
 | e :: l => if rowsCmp c.row e.row = 0 then grpA ⟨c.row, c.cnt + e.cnt⟩ l else c :: grpA e l
def grpL : List Ent → List Ent
 | [] => []
 | e :: l => grpA e l
def Asc (l : List Ent) : Prop := l.Pairwise fun x y => rowsCmp x.row y.row ≤ 0
theorem cntL_grpA : ∀ (l : List Ent) (c : Ent) (r : List V), cntL (grpA c l) r = cntL (c :: l) r
 | [], c, r => rfl
 | e :: l, c, r => by
  rw [grpA]
  split
  ·rename_i h
   have hr : c.row = e.row := (rowsCmp_zero _ _).1 h
   rw [cntL_grpA l, cntL, cntL, cntL]
   simp only [hr]
   split <;> omega
  ·rw [cntL, cntL_grpA l e r, cntL]; rfl
theorem cntL_grpL (l : List Ent) (r : List V) : cntL (grpL l) r = cntL l r := by
 cases l with
 | nil => rfl
 | cons e l => exact cntL_grpA l e r
theorem grpA_ge : ∀ (l : List Ent) (c : Ent) (x : List V), rowsCmp x c.row < 0 → (∀ e ∈ l, rowsCmp x e.row < 0) → ∀ e ∈ grpA c l, rowsCmp x e.row < 0
 | [], c, x, h, _, e, he => by rw [grpA] at he; rw [List.mem_singleton.1 he]; exact h
 | f :: l, c, x, h, hl, e, he => by
  rw [grpA] at he
  split at he
  ·exact grpA_ge l ⟨c.row, c.cnt + f.cnt⟩ x h (fun e he => hl e (List.mem_cons_of_mem _ he)) e he
  ·rcases List.mem_cons.1 he with rfl | he
   ·exact h
   ·exact grpA_ge l f x (hl f (List.mem_cons_self ..)) (fun e he => hl e (List.mem_cons_of_mem _ he)) e he
theorem asc_tail {c e : Ent} {l : List Ent} (h : Asc (c :: e :: l)) : Asc (c :: l) :=
 List.pairwise_cons.2 ⟨fun x hx => (List.pairwise_cons.1 h).1 x (List.mem_cons_of_mem _ hx), (List.pairwise_cons.1 (List.pairwise_cons.1 h).2).2⟩
theorem srt_grpA : ∀ (l : List Ent) (c : Ent), Asc (c :: l) → Srt (grpA c l)
 | [], c, _ => by rw [grpA]; exact List.pairwise_singleton _ _
 | e :: l, c, h => by
  rw [grpA]
  split
  ·refine srt_grpA l ⟨c.row, c.cnt + e.cnt⟩ ?_
   have := asc_tail h
   exact List.pairwise_cons.2 ⟨fun x hx => (List.pairwise_cons.1 this).1 x hx, (List.pairwise_cons.1 this).2⟩
  ·rename_i hne
   have h1 := (List.pairwise_cons.1 h).1
   have h2 := (List.pairwise_cons.1 h).2
   have hce : rowsCmp c.row e.row < 0 := by have := h1 e (List.mem_cons_self ..); omega
   refine List.pairwise_cons.2 ⟨grpA_ge l e c.row hce fun x hx => ?_, srt_grpA l e h2⟩
   have h3 := (List.pairwise_cons.1 h2).1 x hx
   have h4 := h1 x (List.mem_cons_of_mem _ hx)
   have h5 := rowsCmp_vals c.row x.row
   by_cases hz : rowsCmp c.row x.row = 0
   ·have hr := (rowsCmp_zero _ _).1 hz
    rw [← hr, rowsCmp_anti] at h3
    omega
   ·omega
theorem cntF_nz : ∀ (l : List Ent) (r : List V), cntL (l.filter nzB) r = cntL l r
 | [], _ => rfl
 | e :: l, r => by
  rw [List.filter_cons]
  split
  ·rw [cntL, cntL, cntF_nz l r]
  ·rename_i h
   have hz : e.cnt = 0 := by simpa [nzB] using h
   rw [cntF_nz l r, cntL, hz]
   split <;> omega
theorem small_nz (l : List Ent) : (l.all fun e => smallB e.cnt) = ((l.filter nzB).all fun e => smallB e.cnt) := by
 rw [Bool.eq_iff_iff, List.all_eq_true, List.all_eq_true]
 constructor
 ·exact fun h e he => h e (List.mem_filter.1 he).1
 ·intro h e he
  by_cases hz : e.cnt = 0
  ·rw [hz]; decide
  ·exact h e (List.mem_filter.2 ⟨he, by simpa [nzB] using hz⟩)
theorem resR_ext {a b : List Ent} (ha : Srt a) (hb : Srt b) (h : ∀ r, cntL a r = cntL b r) : resR a = resR b := by
 have e : a.filter nzB = b.filter nzB := bag_ext _ _ (ha.filter _) (hb.filter _) (fun e he => by have := (List.mem_filter.1 he).2; simpa [nzB] using this) (fun e he => by have := (List.mem_filter.1 he).2; simpa [nzB] using this) fun r => by rw [cntF_nz, cntF_nz, h r]
 rw [resR, resR, small_nz a, small_nz b, e]
attribute [local irreducible] ACalls
def srtM : Nat → List Ent → List Ent
 | 0, l => l
 | n + 1, l => if l.length < 2 then l else mrg (srtM n (l.take (l.length / 2))) (srtM n (l.drop (l.length / 2)))
theorem cntL_srtM : ∀ (n : Nat) (l : List Ent) (r : List V), cntL (srtM n l) r = cntL l r
 | 0, _, _ => rfl
 | n + 1, l, r => by
  rw [srtM]
  split
  ·rfl
  ·rw [cntL_mrg, cntL_srtM n, cntL_srtM n, ← cntL_append, List.take_append_drop]
theorem srt_short {l : List Ent} (h : l.length < 2) : Srt l := by
 match l, h with
 | [], _ => exact List.Pairwise.nil
 | [x], _ => exact List.pairwise_singleton _ _
theorem srt_srtM : ∀ (n : Nat) (l : List Ent), l.length ≤ n + 1 → Srt (srtM n l)
 | 0, l, h => by rw [srtM]; exact srt_short (by omega)
 | n + 1, l, h => by
  rw [srtM]
  split
  ·exact srt_short (by assumption)
  ·exact srt_mrg _ _ (srt_srtM n _ (by rw [List.length_take]; omega)) (srt_srtM n _ (by rw [List.length_drop]; omega))
def EntB (B : Int) (e : Ent) : Prop := e.row.length ≤ 12 ∧ -B ≤ e.cnt ∧ e.cnt ≤ B
set_option maxRecDepth 20000 in
theorem ref6_mergeB_raw {P : Program} (F : F_z3m P) {B : Int} (hB0 : B ≤ 4000000000000) (e1 e2 : Bool) (a b : List Ent) (ha : a.length ≤ 100000) (hb : b.length ≤ 100000) (hA : ∀ e ∈ a, EntB B e) (hB : ∀ e ∈ b, EntB B e) :
  ACalls P F.id [.list e1 2 (eC a), .list e2 2 (eC b)] [] (fun r H' => r = .sl 0 (mrg a b).length 0 (mrg a b).length ∧ H' = [.arr 2 (eC (mrg a b))]) := by
 refine acalls_of_body F.has ?_
 conv => whnf
 refine ⟨fun m ρ H => ∃ (a' b' pre : List Ent) (f1 f2 : Bool), m = a'.length + b'.length ∧ mrg a b = pre ++ mrg a' b' ∧
   pre.length + a'.length + b'.length ≤ a.length + b.length ∧ (∀ e ∈ a', EntB B e) ∧ (∀ e ∈ b', EntB B e) ∧ H = [.arr 2 (eC pre)] ∧
   Sv 74 [(0, .list f1 2 (eC a')), (1, .list f2 2 (eC b')), (5, .sl 0 pre.length 0 pre.length)] ρ, a.length + b.length, [(5, 2)], ?_, ?_⟩
 ·exact ⟨a, b, [], e1, e2, rfl, rfl, by simp, hA, hB, by rfl, Sv.intro rfl ⟨rfl, rfl, rfl, trivial⟩⟩
 rintro m ρ H ⟨a', b', pre, f1, f2, hm, hM, hlen, hA', hB', rfl, d, rfl⟩
 (conv => whnf); refine recA (fun hz => ?_) (fun hz => ?_)
 ·replace hz : decide (((eC a').length : Int) > 0) = true := hz
  rw [eC_length] at hz
  have hzl : a'.length ≠ 0 := by simp at hz; omega
  obtain ⟨x, hx, hxd, hxm⟩ := get_drop (l := a') (k := 0) (by omega)
  obtain ⟨kx1, kx2, kx3⟩ := hA' x hxm
  rw [List.drop_zero] at hxd
  (conv => whnf); refine recF (by rw [eC_length]; simpa using hzl) ?_
  (conv => whnf); refine recA (fun hw => ?_) (fun hw => ?_)
  ·replace hw : decide (((eC b').length : Int) > 0) = true := hw
   rw [eC_length] at hw
   have hwl : b'.length ≠ 0 := by simp at hw; omega
   obtain ⟨y, hy, hyd, hym⟩ := get_drop (l := b') (k := 0) (by omega)
   obtain ⟨ky1, ky2, ky3⟩ := hB' y hym
   rw [List.drop_zero] at hyd
   (conv => whnf); refine And.intro (by decide) ?_
   (conv => whnf); refine recO (eC_at hx) ?_
   (conv => whnf); refine And.intro (by decide) ?_
   (conv => whnf); refine recO (eC_at hy) ?_
   conv => whnf
   refine ⟨_, ref1_CompareRows_spec F.z2c false false x.row y.row (by omega) _, ?_⟩
   (conv => whnf); refine recA (fun hc => ?_) (fun hc => ?_)
   ·replace hc : decide (rowsCmp x.row y.row < 0) = true := hc
    simp at hc
    (conv => whnf); refine And.intro (by decide) ?_
    (conv => whnf); refine recO (eC_at hx) ?_
    have hN : mrg a b = (pre ++ [⟨x.row, x.cnt⟩]) ++ mrg (a'.drop 1) (b') := by
     rw [hM, mrgA hxd (.inr ⟨_, _, hyd, hc⟩), List.append_assoc]; rfl
    have hlN : pre.length + 1 + (a'.drop 1).length + (b').length ≤ a.length + b.length := by simp [List.length_drop]; omega
    have hmN : (a'.drop 1).length + (b').length < m := by simp [List.length_drop]; omega
    have hAN : ∀ e ∈ (a'.drop 1), EntB B e := fun e h => hA' e (by first | exact h | exact List.mem_of_mem_drop h)
    have hBN : ∀ e ∈ (b'), EntB B e := fun e h => hB' e (by first | exact h | exact List.mem_of_mem_drop h)
    have hFl : (eC pre ++ [entC ⟨x.row, x.cnt⟩]).length = (pre ++ [(⟨x.row, x.cnt⟩ : Ent)]).length := by simp [eC_length]
    (conv => whnf); refine recT (by rw [eC_length]; exact Nat.beq_refl _) ?_
    (conv => whnf); refine And.intro ⟨roomMul (by simp; omega) (by omega), roomB_le (by simp; omega), rfl, by rw [eC_length]⟩ ?_
    (conv => whnf); refine And.intro ⟨by omega, by rw [eC_length]; omega⟩ ?_
    (conv => whnf); refine And.intro (by (conv => whnf); exact ⟨⟨by omega, by rw [eC_length]; omega⟩, rfl⟩) ?_
    conv => whnf
    refine ⟨(a'.drop 1).length + (b').length, hmN, Gp.one 0 2 (eC (pre ++ [⟨x.row, x.cnt⟩])) (by rw [eC_append]; rfl) (pureEs_eC _) rfl ?_ fun ρ1 h => ⟨a'.drop 1, b', pre ++ [⟨x.row, x.cnt⟩], (f1 && (none : Option AOpd).isNone), f2, rfl, hN, by simpa using hlN, hAN, hBN, rfl, h⟩⟩
    exact ⟨pubL (tailE a'), .closed _ rfl, pubSl (k := 0) rfl rfl hFl hFl, trivial⟩
   ·replace hc : decide (rowsCmp x.row y.row < 0) = false := hc
    simp at hc
    (conv => whnf); refine recA (fun hg => ?_) (fun hg => ?_)
    ·replace hg : decide (rowsCmp x.row y.row > 0) = true := hg
     simp at hg
     (conv => whnf); refine And.intro (by decide) ?_
     (conv => whnf); refine recO (eC_at hy) ?_
     have hN : mrg a b = (pre ++ [⟨y.row, y.cnt⟩]) ++ mrg (a') (b'.drop 1) := by
      rw [hM, mrgB hyd (.inr ⟨_, _, hxd, hg⟩), List.append_assoc]; rfl
     have hlN : pre.length + 1 + (a').length + (b'.drop 1).length ≤ a.length + b.length := by simp [List.length_drop]; omega
     have hmN : (a').length + (b'.drop 1).length < m := by simp [List.length_drop]; omega
     have hAN : ∀ e ∈ (a'), EntB B e := fun e h => hA' e (by first | exact h | exact List.mem_of_mem_drop h)
     have hBN : ∀ e ∈ (b'.drop 1), EntB B e := fun e h => hB' e (by first | exact h | exact List.mem_of_mem_drop h)
     have hFl : (eC pre ++ [entC ⟨y.row, y.cnt⟩]).length = (pre ++ [(⟨y.row, y.cnt⟩ : Ent)]).length := by simp [eC_length]
     (conv => whnf); refine recT (by rw [eC_length]; exact Nat.beq_refl _) ?_
     (conv => whnf); refine And.intro ⟨roomMul (by simp; omega) (by omega), roomB_le (by simp; omega), rfl, by rw [eC_length]⟩ ?_
     (conv => whnf); refine And.intro ⟨by omega, by rw [eC_length]; omega⟩ ?_
     (conv => whnf); refine And.intro (by (conv => whnf); exact ⟨⟨by omega, by rw [eC_length]; omega⟩, rfl⟩) ?_
     conv => whnf
     refine ⟨(a').length + (b'.drop 1).length, hmN, Gp.one 0 2 (eC (pre ++ [⟨y.row, y.cnt⟩])) (by rw [eC_append]; rfl) (pureEs_eC _) rfl ?_ fun ρ1 h => ⟨a', b'.drop 1, pre ++ [⟨y.row, y.cnt⟩], f1, (f2 && (none : Option AOpd).isNone), rfl, hN, by simpa using hlN, hAN, hBN, rfl, h⟩⟩
     exact ⟨.closed _ rfl, pubL (tailE b'), pubSl (k := 0) rfl rfl hFl hFl, trivial⟩
    ·replace hg : decide (rowsCmp x.row y.row > 0) = false := hg
     simp at hg
     (conv => whnf); refine And.intro (by decide) ?_
     (conv => whnf); refine recO (eC_at hx) ?_
     (conv => whnf); refine And.intro (by decide) ?_
     (conv => whnf); refine recO (eC_at hx) ?_
     (conv => whnf); refine And.intro (by decide) ?_
     (conv => whnf); refine recO (eC_at hy) ?_
     have em2 : IntKind.i64.wrap (x.cnt + y.cnt) = x.cnt + y.cnt := wrapI _ (by omega) (by omega)
     have hN : mrg a b = (pre ++ [⟨x.row, IntKind.i64.wrap (x.cnt + y.cnt)⟩]) ++ mrg (a'.drop 1) (b'.drop 1) := by
      rw [hM, em2, mrgC hxd hyd (by omega), List.append_assoc]; rfl
     have hlN : pre.length + 1 + (a'.drop 1).length + (b'.drop 1).length ≤ a.length + b.length := by simp [List.length_drop]; omega
     have hmN : (a'.drop 1).length + (b'.drop 1).length < m := by simp [List.length_drop]; omega
     have hAN : ∀ e ∈ (a'.drop 1), EntB B e := fun e h => hA' e (by first | exact h | exact List.mem_of_mem_drop h)
     have hBN : ∀ e ∈ (b'.drop 1), EntB B e := fun e h => hB' e (by first | exact h | exact List.mem_of_mem_drop h)
     have hFl : (eC pre ++ [entC ⟨x.row, IntKind.i64.wrap (x.cnt + y.cnt)⟩]).length = (pre ++ [(⟨x.row, IntKind.i64.wrap (x.cnt + y.cnt)⟩ : Ent)]).length := by simp [eC_length]
     (conv => whnf); refine recT (by rw [eC_length]; exact Nat.beq_refl _) ?_
     (conv => whnf); refine And.intro ⟨roomMul (by simp; omega) (by omega), roomB_le (by simp; omega), rfl, by rw [eC_length]⟩ ?_
     (conv => whnf); refine And.intro ⟨by omega, by rw [eC_length]; omega⟩ ?_
     (conv => whnf); refine And.intro ⟨by omega, by rw [eC_length]; omega⟩ ?_
     conv => whnf
     refine ⟨(a'.drop 1).length + (b'.drop 1).length, hmN, Gp.one 0 2 (eC (pre ++ [⟨x.row, IntKind.i64.wrap (x.cnt + y.cnt)⟩])) (by rw [eC_append]; rfl) (pureEs_eC _) rfl ?_ fun ρ1 h => ⟨a'.drop 1, b'.drop 1, pre ++ [⟨x.row, IntKind.i64.wrap (x.cnt + y.cnt)⟩], (f1 && (none : Option AOpd).isNone), (f2 && (none : Option AOpd).isNone), rfl, hN, by simpa using hlN, hAN, hBN, rfl, h⟩⟩
     exact ⟨pubL (tailE a'), pubL (tailE b'), pubSl (k := 0) rfl rfl hFl hFl, trivial⟩
  ·replace hw : decide (((eC b').length : Int) > 0) = false := hw
   rw [eC_length] at hw
   have hwn : b' = [] := by simp at hw; exact hw
   have hwl : b'.length = 0 := by rw [hwn]; rfl
   (conv => whnf); refine And.intro (by decide) ?_
   (conv => whnf); refine recO (eC_at hx) ?_
   have hN : mrg a b = (pre ++ [⟨x.row, x.cnt⟩]) ++ mrg (a'.drop 1) (b') := by
    rw [hM, mrgA hxd (.inl hwn), List.append_assoc]; rfl
   have hlN : pre.length + 1 + (a'.drop 1).length + (b').length ≤ a.length + b.length := by simp [List.length_drop]; omega
   have hmN : (a'.drop 1).length + (b').length < m := by simp [List.length_drop]; omega
   have hAN : ∀ e ∈ (a'.drop 1), EntB B e := fun e h => hA' e (by first | exact h | exact List.mem_of_mem_drop h)
   have hBN : ∀ e ∈ (b'), EntB B e := fun e h => hB' e (by first | exact h | exact List.mem_of_mem_drop h)
   have hFl : (eC pre ++ [entC ⟨x.row, x.cnt⟩]).length = (pre ++ [(⟨x.row, x.cnt⟩ : Ent)]).length := by simp [eC_length]
   (conv => whnf); refine recT (by rw [eC_length]; exact Nat.beq_refl _) ?_
   (conv => whnf); refine And.intro ⟨roomMul (by simp; omega) (by omega), roomB_le (by simp; omega), rfl, by rw [eC_length]⟩ ?_
   (conv => whnf); refine And.intro ⟨by omega, by rw [eC_length]; omega⟩ ?_
   (conv => whnf); refine And.intro (by (conv => whnf); exact ⟨⟨by omega, by rw [eC_length]; omega⟩, rfl⟩) ?_
   conv => whnf
   refine ⟨(a'.drop 1).length + (b').length, hmN, Gp.one 0 2 (eC (pre ++ [⟨x.row, x.cnt⟩])) (by rw [eC_append]; rfl) (pureEs_eC _) rfl ?_ fun ρ1 h => ⟨a'.drop 1, b', pre ++ [⟨x.row, x.cnt⟩], (f1 && (none : Option AOpd).isNone), f2, rfl, hN, by simpa using hlN, hAN, hBN, rfl, h⟩⟩
   exact ⟨pubL (tailE a'), .closed _ rfl, pubSl (k := 0) rfl rfl hFl hFl, trivial⟩
 ·replace hz : decide (((eC a').length : Int) > 0) = false := hz
  rw [eC_length] at hz
  have hzn : a' = [] := by simp at hz; exact hz
  have hzl : a'.length = 0 := by rw [hzn]; rfl
  (conv => whnf); refine recA (fun hw => ?_) (fun hw => ?_)
  ·replace hw : decide (((eC b').length : Int) > 0) = true := hw
   rw [eC_length] at hw
   have hwl : b'.length ≠ 0 := by simp at hw; omega
   obtain ⟨y, hy, hyd, hym⟩ := get_drop (l := b') (k := 0) (by omega)
   obtain ⟨ky1, ky2, ky3⟩ := hB' y hym
   rw [List.drop_zero] at hyd
   (conv => whnf); refine recT (by rw [eC_length]; simpa using hzl) ?_
   (conv => whnf); refine And.intro (by decide) ?_
   (conv => whnf); refine recO (eC_at hy) ?_
   have hN : mrg a b = (pre ++ [⟨y.row, y.cnt⟩]) ++ mrg (a') (b'.drop 1) := by
    rw [hM, mrgB hyd (.inl hzn), List.append_assoc]; rfl
   have hlN : pre.length + 1 + (a').length + (b'.drop 1).length ≤ a.length + b.length := by simp [List.length_drop]; omega
   have hmN : (a').length + (b'.drop 1).length < m := by simp [List.length_drop]; omega
   have hAN : ∀ e ∈ (a'), EntB B e := fun e h => hA' e (by first | exact h | exact List.mem_of_mem_drop h)
   have hBN : ∀ e ∈ (b'.drop 1), EntB B e := fun e h => hB' e (by first | exact h | exact List.mem_of_mem_drop h)
   have hFl : (eC pre ++ [entC ⟨y.row, y.cnt⟩]).length = (pre ++ [(⟨y.row, y.cnt⟩ : Ent)]).length := by simp [eC_length]
   (conv => whnf); refine recT (by rw [eC_length]; exact Nat.beq_refl _) ?_
   (conv => whnf); refine And.intro ⟨roomMul (by simp; omega) (by omega), roomB_le (by simp; omega), rfl, by rw [eC_length]⟩ ?_
   (conv => whnf); refine And.intro ⟨by omega, by rw [eC_length]; omega⟩ ?_
   (conv => whnf); refine And.intro (by (conv => whnf); exact ⟨⟨by omega, by rw [eC_length]; omega⟩, rfl⟩) ?_
   conv => whnf
   refine ⟨(a').length + (b'.drop 1).length, hmN, Gp.one 0 2 (eC (pre ++ [⟨y.row, y.cnt⟩])) (by rw [eC_append]; rfl) (pureEs_eC _) rfl ?_ fun ρ1 h => ⟨a', b'.drop 1, pre ++ [⟨y.row, y.cnt⟩], f1, (f2 && (none : Option AOpd).isNone), rfl, hN, by simpa using hlN, hAN, hBN, rfl, h⟩⟩
   exact ⟨.closed _ rfl, pubL (tailE b'), pubSl (k := 0) rfl rfl hFl hFl, trivial⟩
  ·replace hw : decide (((eC b').length : Int) > 0) = false := hw
   rw [eC_length] at hw
   have hwn : b' = [] := by simp at hw; exact hw
   have hMM : mrg a b = pre := by rw [hM, hzn, hwn, mrg_nil]; simp
   conv => whnf
   rw [hMM]
   exact ⟨rfl, rfl⟩
theorem ref6_mergeB_spec {P : Program} (F : F_z3m P) {B : Int} (hB0 : B ≤ 4000000000000) (e1 e2 : Bool) (a b : List Ent) (ha : a.length ≤ 100000) (hb : b.length ≤ 100000) (hA : ∀ e ∈ a, EntB B e) (hB : ∀ e ∈ b, EntB B e) (H : List AObj) :
  ACalls P F.id [.list e1 2 (eC a), .list e2 2 (eC b)] H (fun r H' => r = .list false 2 (eC (mrg a b)) ∧ H' = H) :=
 ACalls.frz1 (by simp [AVal.closed, AVal.isPure]) (ref6_mergeB_raw F hB0 e1 e2 a b ha hb hA hB) (eC_length _).symm (pureEs_eC _)
end Go.AW
