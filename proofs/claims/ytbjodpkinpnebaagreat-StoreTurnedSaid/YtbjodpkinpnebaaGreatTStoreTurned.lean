/-
  The law StoreTurned holds for every input.
  No condition.
-/
import Derived.Test.YtbjodpkinpnebaaGreatRows
import Derived.Test.YtbjodpkinpnebaaGreatY10




import Derived.KernelRfl
import Derived.ProofKit
import Derived.WalkKit
namespace Go.Proofs.YtbjodpkinpnebaaGreat.storeTurned
open Go.AW Go.ChangeShapes Go.WideShapes Go.ChangeAt Go.RowKit
set_option linter.unusedVariables false
set_option maxRecDepth 100000

instance theDraws : dK := ⟨False⟩
theorem nodraw : ¬ dK.up := fun h => h
theorem own : ownKnob Tryz.prog.godebug = none := by kernel_rfl
theorem laidOut : laidOutB Tryz.prog = true := by kernel_rfl

def renM : Go.Shelf.Ren := ⟨fun | 6 => 114 | 8 => 162 | 9 => 161 | 19 => 213 | 20 => 214 | 21 => 204 | 22 => 205 | 23 => 206 | 24 => 207 | 25 => 208 | 26 => 209 | 27 => 210 | 28 => 211 | 29 => 212 | 36 => 250 | 31 => 251 | 32 => 252 | 37 => 253 | 38 => 254 | 39 => 255 | 41 => 287 | n => n, fun | 27 => 56 | 29 => 9 | 3 => 3 | 32 => 225 | 26 => 56 | 0 => 0 | 44 => 95 | 46 => 190 | 4 => 4 | 36 => 281 | 35 => 280 | 41 => 286 | 5 => 5 | 9 => 9 | 53 => 328 | 57 => 332 | 63 => 352 | 64 => 353 | n => n, fun | n => n⟩
theorem layM : Go.Proofs.SlLaysM.n6 Tryz.prog renM where
  mixed := by kernel_rfl
  f6 := ⟨ "slices.Sort[[]string,string]", by decide, Tryz.func114.trans (congrArg some (by kernel_rfl))⟩
  f8 := Tryz.func162.trans (congrArg some (by kernel_rfl))
  f9 := ⟨ "slices.pdqsortOrdered[string]", by decide, Tryz.func161.trans (congrArg some (by kernel_rfl))⟩
  f19 := Tryz.func213.trans (congrArg some (by kernel_rfl))
  f20 := Tryz.func214.trans (congrArg some (by kernel_rfl))
  f21 := ⟨ "slices.insertionSortOrdered[string]", by decide, Tryz.func204.trans (congrArg some (by kernel_rfl))⟩
  f22 := ⟨ "slices.heapSortOrdered[string]", by decide, Tryz.func205.trans (congrArg some (by kernel_rfl))⟩
  f23 := ⟨ "slices.breakPatternsOrdered[string]", by decide, Tryz.func206.trans (congrArg some (by kernel_rfl))⟩
  f24 := ⟨ "slices.choosePivotOrdered[string]", by decide, Tryz.func207.trans (congrArg some (by kernel_rfl))⟩
  f25 := ⟨ "slices.reverseRangeOrdered[string]", by decide, Tryz.func208.trans (congrArg some (by kernel_rfl))⟩
  f26 := ⟨ "slices.partialInsertionSortOrdered[string]", by decide, Tryz.func209.trans (congrArg some (by kernel_rfl))⟩
  f27 := ⟨ "cmp.Less[string]", by decide, Tryz.func210.trans (congrArg some (by kernel_rfl))⟩
  f28 := ⟨ "slices.partitionEqualOrdered[string]", by decide, Tryz.func211.trans (congrArg some (by kernel_rfl))⟩
  f29 := ⟨ "slices.partitionOrdered[string]", by decide, Tryz.func212.trans (congrArg some (by kernel_rfl))⟩
  f31 := Tryz.func251.trans (congrArg some (by kernel_rfl))
  f32 := Tryz.func252.trans (congrArg some (by kernel_rfl))
  f36 := ⟨ "slices.siftDownOrdered[string]", by decide, Tryz.func250.trans (congrArg some (by kernel_rfl))⟩
  f37 := ⟨ "slices.medianAdjacentOrdered[string]", by decide, Tryz.func253.trans (congrArg some (by kernel_rfl))⟩
  f38 := ⟨ "slices.medianOrdered[string]", by decide, Tryz.func254.trans (congrArg some (by kernel_rfl))⟩
  f39 := ⟨ "cmp.isNaN[string]", by decide, Tryz.func255.trans (congrArg some (by kernel_rfl))⟩
  f41 := ⟨ "slices.order2Ordered[string]", by decide, Tryz.func287.trans (congrArg some (by kernel_rfl))⟩
  t0 := Tryz.underlying0
  a0 := Tryz.isAgg0
  z0 := Tryz.sizeOf0
  v0 := Tryz.zeroValue0
  t3 := Tryz.underlying3
  a3 := Tryz.isAgg3
  z3 := Tryz.sizeOf3
  v3 := Tryz.zeroValue3
  t4 := Tryz.underlying4
  a4 := Tryz.isAgg4
  z4 := Tryz.sizeOf4
  v4 := Tryz.zeroValue4
  t5 := Tryz.underlying5
  a5 := Tryz.isAgg5
  z5 := Tryz.sizeOf5
  v5 := Tryz.zeroValue5
  t9 := Tryz.underlying9
  a9 := Tryz.isAgg9
  z9 := Tryz.sizeOf9
  v9 := Tryz.zeroValue9
  t26 := Tryz.underlying56
  a26 := Tryz.isAgg56
  z26 := Tryz.sizeOf56
  v26 := Tryz.zeroValue56
  t27 := Tryz.underlying56
  a27 := Tryz.isAgg56
  z27 := Tryz.sizeOf56
  v27 := Tryz.zeroValue56
  t29 := Tryz.underlying9
  a29 := Tryz.isAgg9
  z29 := Tryz.sizeOf9
  v29 := Tryz.zeroValue9
  t32 := Tryz.underlying225
  a32 := Tryz.isAgg225
  z32 := Tryz.sizeOf225
  v32 := Tryz.zeroValue225
  t35 := Tryz.underlying280
  a35 := Tryz.isAgg280
  z35 := Tryz.sizeOf280
  v35 := Tryz.zeroValue280
  t36 := Tryz.underlying281
  a36 := Tryz.isAgg281
  z36 := Tryz.sizeOf281
  v36 := Tryz.zeroValue281
  t41 := Tryz.underlying286
  a41 := Tryz.isAgg286
  z41 := Tryz.sizeOf286
  v41 := Tryz.zeroValue286
  t44 := Tryz.underlying95
  a44 := Tryz.isAgg95
  z44 := Tryz.sizeOf95
  v44 := Tryz.zeroValue95
  t46 := Tryz.underlying190
  a46 := Tryz.isAgg190
  z46 := Tryz.sizeOf190
  v46 := Tryz.zeroValue190
  t53 := Tryz.underlying328
  a53 := Tryz.isAgg328
  z53 := Tryz.sizeOf328
  v53 := Tryz.zeroValue328
  t57 := Tryz.underlying332
  a57 := Tryz.isAgg332
  z57 := Tryz.sizeOf332
  v57 := Tryz.zeroValue332
  t63 := Tryz.underlying352
  a63 := Tryz.isAgg352
  z63 := Tryz.sizeOf352
  v63 := Tryz.zeroValue352
  t64 := Tryz.underlying353
  a64 := Tryz.isAgg353
  z64 := Tryz.sizeOf353
  v64 := Tryz.zeroValue353
def renS : Go.Shelf.Ren := ⟨fun | 6 => 64 | 8 => 113 | 9 => 114 | 11 => 160 | 13 => 162 | 12 => 161 | 23 => 213 | 24 => 214 | 14 => 204 | 15 => 205 | 16 => 206 | 17 => 207 | 18 => 208 | 19 => 209 | 20 => 210 | 21 => 211 | 22 => 212 | 25 => 250 | 26 => 251 | 27 => 252 | 28 => 253 | 29 => 254 | 30 => 255 | 31 => 287 | n => n, fun | 26 => 9 | 28 => 126 | 24 => 56 | 0 => 0 | 3 => 3 | 37 => 225 | 48 => 95 | 50 => 190 | 4 => 4 | 40 => 281 | 39 => 280 | 45 => 286 | 5 => 5 | 9 => 9 | 51 => 328 | 55 => 332 | 57 => 352 | 58 => 353 | 33 => 103 | n => n, fun | n => n⟩
theorem layS : Go.Proofs.SlLaysZ.n6 Tryz.prog renS where
  mixed := by kernel_rfl
  f6 := ⟨ "slices.Sorted[string]", by decide, Tryz.func64.trans (congrArg some (by kernel_rfl))⟩
  f8 := ⟨ "slices.Collect[string]", by decide, Tryz.func113.trans (congrArg some (by kernel_rfl))⟩
  f11 := ⟨ "slices.AppendSeq[[]string,string]", by decide, Tryz.func160.trans (congrArg some (by kernel_rfl))⟩
  t0 := Tryz.underlying0
  a0 := Tryz.isAgg0
  z0 := Tryz.sizeOf0
  v0 := Tryz.zeroValue0
  t24 := Tryz.underlying56
  a24 := Tryz.isAgg56
  z24 := Tryz.sizeOf56
  v24 := Tryz.zeroValue56
  t26 := Tryz.underlying9
  a26 := Tryz.isAgg9
  z26 := Tryz.sizeOf9
  v26 := Tryz.zeroValue9
  t28 := Tryz.underlying126
  a28 := Tryz.isAgg126
  z28 := Tryz.sizeOf126
  v28 := Tryz.zeroValue126
  i26 := by kernel_rfl
def renKC : Go.Shelf.Ren := ⟨fun | 10 => 115 | n => n, fun | 33 => 103 | 23 => 128 | 0 => 0 | 4 => 4 | 26 => 9 | 3 => 130 | n => n, fun | n => n⟩
theorem layKC : Go.Proofs.SlLaysZ.n10 Tryz.prog renKC where
  mixed := by kernel_rfl
  f10 := ⟨ "maps.Keys[map[string]warehouse/store.change,string,warehouse/store.change]$1", by decide, Tryz.func115.trans (congrArg some (by kernel_rfl))⟩
  t0 := Tryz.underlying0
  a0 := Tryz.isAgg0
  z0 := Tryz.sizeOf0
  v0 := Tryz.zeroValue0
  t4 := Tryz.underlying4
  a4 := Tryz.isAgg4
  z4 := Tryz.sizeOf4
  v4 := Tryz.zeroValue4
  t23 := Tryz.underlying128
  a23 := Tryz.isAgg128
  z23 := Tryz.sizeOf128
  v23 := Tryz.zeroValue128
  t26 := Tryz.underlying9
  a26 := Tryz.isAgg9
  z26 := Tryz.sizeOf9
  v26 := Tryz.zeroValue9
  t33 := Tryz.underlying103
  a33 := Tryz.isAgg103
  z33 := Tryz.sizeOf103
  v33 := Tryz.zeroValue103
theorem skC : oO Tryz.prog 64 115 := K5 nodraw layKC layS layM rfl (enters_of Tryz.func114 (by kernel_rfl) rfl) (enters_of Tryz.func115 (by kernel_rfl) rfl) (enters_of Tryz.func64 (by kernel_rfl) rfl)
def renKB : Go.Shelf.Ren := ⟨fun | 10 => 157 | n => n, fun | 33 => 103 | 23 => 108 | 0 => 0 | 4 => 4 | 26 => 9 | 3 => 22 | n => n, fun | n => n⟩
theorem layKB : Go.Proofs.SlLaysZ.n10 Tryz.prog renKB where
  mixed := by kernel_rfl
  f10 := ⟨ "maps.Keys[map[string][]byte,string,[]byte]$1", by decide, Tryz.func157.trans (congrArg some (by kernel_rfl))⟩
  t0 := Tryz.underlying0
  a0 := Tryz.isAgg0
  z0 := Tryz.sizeOf0
  v0 := Tryz.zeroValue0
  t4 := Tryz.underlying4
  a4 := Tryz.isAgg4
  z4 := Tryz.sizeOf4
  v4 := Tryz.zeroValue4
  t23 := Tryz.underlying108
  a23 := Tryz.isAgg108
  z23 := Tryz.sizeOf108
  v23 := Tryz.zeroValue108
  t26 := Tryz.underlying9
  a26 := Tryz.isAgg9
  z26 := Tryz.sizeOf9
  v26 := Tryz.zeroValue9
  t33 := Tryz.underlying103
  a33 := Tryz.isAgg103
  z33 := Tryz.sizeOf103
  v33 := Tryz.zeroValue103
theorem skB : oO Tryz.prog 64 157 := K5 nodraw layKB layS layM rfl (enters_of Tryz.func114 (by kernel_rfl) rfl) (enters_of Tryz.func157 (by kernel_rfl) rfl) (enters_of Tryz.func64 (by kernel_rfl) rfl)
theorem toP {f : FuncId} {vs : List a6} {H : List aB} {Q : a6 → List aB → Prop} (h : a7 pr f vs H Q) : a7 Tryz.prog f vs H Q := by rw [prE0] at h; exact h
theorem hsP {i : FuncId} {ob : List Nat} {c : tS} (h : QG pr i ob c) : QG Tryz.prog i ob c := by rw [prE0] at h; exact h
theorem skCP : oO pr 64 115 := by rw [prE0]; exact skC
theorem skBP : oO pr 64 157 := by rw [prE0]; exact skB
theorem jrP : HN pr 52 := by rw [prE0]; exact Tryz.jread nodraw

theorem lifted (os : Os) (started : os.Started) (H : Type) (enc : TypeId × Value → H) :
    ReturnsInHanded {} Tryz.checked os 7 .any (Rows.storeTurnedSpec.pre6 enc Tryz.prog Tryz.f7 Rows.storeTurnedRow.domain false) (Rows.storeTurnedSpec.post enc Tryz.prog Tryz.f7 false true false false) := by
  refine DH (C := Tryz.checked) (n := 7) (tb := 4) (shs := [(false, [.slice [.int .i64]]), (false, [.slice [.int .i64]]), (false, [.int .i64]), (false, [.int .i64]), (false, [.int .u8])]) own started (by kernel_rfl) Tryz.func7
    (ChangeSpec.witness6 (enc := enc) (C := Tryz.checked) false ⟨#[], #[.slice none 0 0, .slice none 0 0, .int .i64 0, .int .i64 0, .int .u8 0], []⟩ 8 (by kernel_rfl) (by kernel_rfl) (by kernel_rfl) (by kernel_rfl))
    laidOut (by kernel_rfl) (fun ds hd => ?_) rfl (by kernel_rfl) Tryz.underlying4 (by kernel_rfl) (hsP k7.has) ?_
  · have hd : ds.length = 5 := hd.trans (by kernel_rfl)
    obtain ⟨d0, d1, d2, d3, d4, rfl⟩ : ∃ d0 d1 d2 d3 d4, ds = [d0, d1, d2, d3, d4] := by
      match ds, hd with
      | [d0, d1, d2, d3, d4], _ => exact ⟨d0, d1, d2, d3, d4, rfl⟩
    rfl
  · intro xs h
    obtain ⟨y0, xs, rfl, p0, h⟩ := lL h
    obtain ⟨y1, xs, rfl, p1, h⟩ := lL h
    obtain ⟨y2, xs, rfl, p2, h⟩ := lL h
    obtain ⟨y3, xs, rfl, p3, h⟩ := lL h
    obtain ⟨y4, xs, rfl, p4, h⟩ := lL h
    cases L6 h
    obtain ⟨x0, rfl, h0a, h0b⟩ := AT p0
    obtain ⟨x1, rfl, h1a, h1b⟩ := AT p1
    obtain ⟨x2, rfl, h2a⟩ := wY p2
    obtain ⟨x3, rfl, h3a⟩ := wY p3
    obtain ⟨x4, rfl, h4a⟩ := wY p4
    exact toP (law_StoreTurned skCP skBP jrP x0 x1 x2 x3 x4)
theorem andT {a b : Bool} (h1 : a = true) (h2 : b = true) : (a && b) = true := by rw [h1, h2]; rfl
theorem jf0 : (Rows.storeTurnedRow.inPlace == Tryz.prog.inPlace 7) = true := by kernel_rfl
theorem jf1 : (Rows.storeTurnedRow.unfollowed == Tryz.prog.unfollowed 7) = true := by kernel_rfl
theorem jf2 : (Rows.storeTurnedRow.recurses == Tryz.prog.recurses 7) = true := by kernel_rfl
theorem jf3 : (Rows.storeTurnedRow.named == Tryz.prog.varsNamed 7) = true := by kernel_rfl
theorem closedP : joinedFacts Tryz.prog 7 Tryz.f7 Rows.storeTurnedSpec Rows.storeTurnedRow = true := by
  unfold joinedFacts
  exact andT (andT (andT (andT (andT (andT (andT (andT (andT (andT (andT (andT (andT (andT (andT (andT (andT (andT (andT (andT (andT (andT (andT (andT (andT (andT (andT (andT (andT (andT (andT (by kernel_rfl) laidOut) (by kernel_rfl)) (by kernel_rfl)) (by kernel_rfl)) (by kernel_rfl)) (by kernel_rfl)) (by kernel_rfl)) (by kernel_rfl)) jf0) jf1) jf2) jf3) (by kernel_rfl)) (by kernel_rfl)) (by kernel_rfl)) (by kernel_rfl)) (by kernel_rfl)) (by kernel_rfl)) (by kernel_rfl)) (by kernel_rfl)) (by kernel_rfl)) (by kernel_rfl)) (by kernel_rfl)) (by kernel_rfl)) (by kernel_rfl)) (by kernel_rfl)) (by kernel_rfl)) (by kernel_rfl)) (by kernel_rfl)) (by kernel_rfl)) (by kernel_rfl)

theorem over : Rows.storeTurnedRow.holds Tryz.pinned (OpenSpec.ofChange Rows.storeTurnedSpec) :=
  OpenClaim.holds_of_wide 7 Tryz.f7 rfl rfl rfl rfl rfl rfl rfl ⟨rfl, rfl, rfl, rfl, rfl⟩ rfl rfl rfl rfl rfl (by kernel_rfl) Tryz.func7 closedP
    (of_decide_eq_true (by kernel_rfl)) (by unfold Func.isWrapper; first | (rw [if_pos (by decide +kernel)]; kernel_rfl) | (rw [if_neg (by decide +kernel)]; exact ⟨rfl, rfl⟩))
    (fun os started H enc _ => lifted os started H enc)

theorem proved : Rows.StoreTurnedSaid := over
#print axioms proved
end Go.Proofs.YtbjodpkinpnebaaGreat.storeTurned
