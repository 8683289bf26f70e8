/-
  The laws of chapter 1: values.
  No condition: contracts over any program that has this code.
-/
import Derived.Test.YtikifhfpiahnoaaWhDec
import Derived.KernelRfl
namespace Go.AW
attribute [local irreducible] ACalls

theorem encR_known : encR [⟨1, 1, bs []⟩, ⟨3, 0, bs [97, 98]⟩] = .tuple [.list false 1 (bC [2, 1, 1, 3, 2, 97, 98]), .int .i64 0] := by kernel_rfl
theorem bytesOf_known : bytesOf (bC [2, 1, 1, 3, 2, 97, 98]) = some (bs [2, 1, 1, 3, 2, 97, 98]).data.toList := by kernel_rfl
theorem valCmp_known : valCmp ⟨0, 0, bs []⟩ ⟨1, 1, bs []⟩ = -1 := by kernel_rfl
theorem validB_known : validB ⟨3, 0, bs [97, 98]⟩ = true := by kernel_rfl
theorem truth_known : truth ⟨1, 1, bs []⟩ = 1 := by kernel_rfl

set_option maxRecDepth 20000 in
theorem known_spec {P : Program} (F : F_warehouselaw1_known P) (H : List AObj) : ACalls P F.id [] H (fun r H' => r = .bool true ∧ H' = H) := by
  refine ACalls.pure rfl (acalls_of_body F.has ?_)
  conv => whnf
  refine ACalls.use (encode_list F.value_Encode true [⟨1, 1, bs []⟩, ⟨3, 0, bs [97, 98]⟩] _) ?_
  rw [encR_known]
  conv => whnf
  refine ⟨_, bytesOf_known, ?_⟩
  conv => whnf
  refine And.intro (by decide) ?_
  conv => whnf
  refine ACalls.use (value_Compare_spec F.value_Compare ⟨0, 0, bs []⟩ ⟨1, 1, bs []⟩ _) ?_
  rw [valCmp_known]
  conv => whnf
  refine And.intro (by decide) ?_
  conv => whnf
  refine ACalls.use (value_Valid_spec F.value_Valid ⟨3, 0, bs [97, 98]⟩ _) ?_
  rw [validB_known]
  conv => whnf
  refine And.intro (by decide) ?_
  conv => whnf
  refine ACalls.use (value_Truth_spec F.value_Truth ⟨1, 1, bs []⟩ _) ?_
  rw [truth_known]
  conv => whnf
  exact .closed _ rfl

set_option maxRecDepth 20000 in
theorem law_ValueTruths {P : Program} (F : F_warehouselaw1_ValueTruths P) (v : V) (n : Int) :
    ACalls P F.id [.agg (valC v), .int .i64 n] [] (fun r _ => r = .bool true) := by
  refine acalls_of_body F.has ?_
  conv => whnf
  refine ⟨_, value_Truth_spec F.value_Truth v _, ?_⟩
  conv => whnf
  refine ⟨_, ref1_Truth_spec F.warehouseref1_Truth v _, ?_⟩
  conv => whnf
  refine recT (by simp) ?_
  conv => whnf
  refine ⟨_, value_Truth_spec F.value_Truth ⟨1, n, bs []⟩ _, ?_⟩
  conv => whnf
  refine ⟨_, ref1_Truth_spec F.warehouseref1_Truth ⟨1, n, bs []⟩ _, ?_⟩
  conv => whnf
  refine recT (by simp) ?_
  conv => whnf
  refine ⟨_, known_spec F.warehouselaw1_known _, ?_⟩
  conv => whnf

set_option maxRecDepth 20000 in
theorem law_ValueValidates {P : Program} (F : F_warehouselaw1_ValueValidates P) (v : V) (n : Int) :
    ACalls P F.id [.agg (valC v), .int .i64 n] [] (fun r _ => r = .bool true) := by
  refine acalls_of_body F.has ?_
  conv => whnf
  refine ACalls.use (Any_spec F.warehousebase_Any n _) ?_
  conv => whnf
  refine And.intro (by decide) ?_
  conv => whnf
  refine ⟨_, value_Valid_spec F.value_Valid v _, ?_⟩
  conv => whnf
  refine ⟨_, ref1_Valid_spec F.warehouseref1_Valid v _, ?_⟩
  conv => whnf
  refine recT (by simp) ?_
  conv => whnf
  refine ⟨_, value_Valid_spec F.value_Valid ⟨(anyV n).kind, w64 ((anyV n).num + and64 (shrI n 20) 1), (anyV n).str⟩ _, ?_⟩
  conv => whnf
  refine ⟨_, ref1_Valid_spec F.warehouseref1_Valid ⟨(anyV n).kind, w64 ((anyV n).num + and64 (shrI n 20) 1), (anyV n).str⟩ _, ?_⟩
  conv => whnf
  refine recT (by simp) ?_
  conv => whnf
  refine ⟨_, known_spec F.warehouselaw1_known _, ?_⟩
  conv => whnf

/-! ### The order of values is total -/

theorem bl_irrefl : ∀ (a : List UInt8), Op.bytesLess a a = false
  | [] => rfl
  | x :: a => by simp [Op.bytesLess, bl_irrefl a]
theorem bl_tri : ∀ (a b : List UInt8), Op.bytesLess a b = true ∨ a = b ∨ Op.bytesLess b a = true
  | [], [] => .inr (.inl rfl)
  | [], _ :: _ => .inl rfl
  | _ :: _, [] => .inr (.inr rfl)
  | x :: a, y :: b => by
    simp only [Op.bytesLess, Bool.or_eq_true, decide_eq_true_eq, Bool.and_eq_true, beq_iff_eq, List.cons.injEq]
    rcases (show x < y ∨ x = y ∨ y < x from by rcases Nat.lt_trichotomy x.toNat y.toNat with h | h | h; exact .inl h; exact .inr (.inl (UInt8.toNat_inj.1 h)); exact .inr (.inr h)) with h | h | h
    · exact .inl (.inl h)
    · subst h
      rcases bl_tri a b with h | h | h
      · exact .inl (.inr ⟨rfl, h⟩)
      · exact .inr (.inl ⟨rfl, h⟩)
      · exact .inr (.inr (.inr ⟨rfl, h⟩))
    · exact .inr (.inr (.inl h))
theorem bl_trans : ∀ (a b c : List UInt8), Op.bytesLess a b = true → Op.bytesLess b c = true → Op.bytesLess a c = true
  | _, [], _, h, _ => by cases ‹List UInt8› <;> simp [Op.bytesLess] at h
  | _, _ :: _, [], _, h => by simp [Op.bytesLess] at h
  | [], _ :: _, _ :: _, _, _ => rfl
  | x :: a, y :: b, z :: c, h1, h2 => by
    simp only [Op.bytesLess, Bool.or_eq_true, decide_eq_true_eq, Bool.and_eq_true, beq_iff_eq] at *
    rcases h1 with h1 | ⟨rfl, h1⟩
    · rcases h2 with h2 | ⟨rfl, h2⟩
      · exact .inl (UInt8.lt_trans h1 h2)
      · exact .inl h1
    · rcases h2 with h2 | ⟨rfl, h2⟩
      · exact .inl h2
      · exact .inr ⟨rfl, bl_trans a b c h1 h2⟩

/-- A comparison: the sign of a total order. -/
structure IsCmp {α : Type} (c : α → α → Int) : Prop where
  vals : ∀ a b, c a b = -1 ∨ c a b = 0 ∨ c a b = 1
  anti : ∀ a b, c b a = - c a b
  zero : ∀ a b, c a b = 0 ↔ a = b
  trans : ∀ a b d, c a b < 0 → c b d < 0 → c a d < 0

theorem IsCmp.ltle {α : Type} {c : α → α → Int} (h : IsCmp c) {a b d : α} (h1 : c a b < 0) (h2 : c b d ≤ 0) : c a d < 0 := by
  by_cases e : c b d = 0
  · rw [← (h.zero b d).1 e]; exact h1
  · exact h.trans a b d h1 (by omega)
theorem IsCmp.le {α : Type} {c : α → α → Int} (h : IsCmp c) {a b d : α} (h1 : c a b ≤ 0) (h2 : c b d ≤ 0) : c a d ≤ 0 := by
  by_cases e : c a b = 0
  · rw [(h.zero a b).1 e]; exact h2
  · have := h.ltle (a := a) (by omega) h2; omega

theorem isCmp_int : IsCmp cmpI := by
  refine ⟨fun a b => ?_, fun a b => ?_, fun a b => ?_, fun a b d => ?_⟩ <;> unfold cmpI <;> (repeat' split) <;> omega

theorem isCmp_str : IsCmp cmpS := by
  have asym : ∀ a b, Op.bytesLess a b = true → Op.bytesLess b a = true → False := fun a b h1 h2 => by
    have := bl_trans a b a h1 h2
    rw [bl_irrefl] at this; cases this
  refine ⟨fun a b => ?_, fun a b => ?_, fun a b => ?_, fun a b d => ?_⟩
  · unfold cmpS; split
    · simp
    · split <;> simp
  · unfold cmpS
    rcases bl_tri a b with h | h | h
    · have hb : Op.bytesLess b a = false := by cases hb : Op.bytesLess b a with | false => rfl | true => exact (asym a b h hb).elim
      have hne : ¬ b = a := by rintro rfl; rw [bl_irrefl] at h; cases h
      simp [h, hb, hne]
    · subst h; simp [bl_irrefl]
    · have hb : Op.bytesLess a b = false := by cases hb : Op.bytesLess a b with | false => rfl | true => exact (asym a b hb h).elim
      have hne : ¬ a = b := by rintro rfl; rw [bl_irrefl] at h; cases h
      simp [h, hb, hne]
  · unfold cmpS
    split
    · rename_i h
      refine ⟨fun h => by omega, ?_⟩
      rintro rfl
      rw [bl_irrefl] at h; cases h
    · split <;> simp [*]
  · unfold cmpS
    intro h1 h2
    have e1 : Op.bytesLess a b = true := by
      revert h1
      split
      · intro _; assumption
      · split <;> intro h <;> omega
    have e2 : Op.bytesLess b d = true := by
      revert h2
      split
      · intro _; assumption
      · split <;> intro h <;> omega
    rw [if_pos (bl_trans a b d e1 e2)]; omega

theorem isCmp_val : IsCmp valCmp := by
  have I := isCmp_int
  have S := isCmp_str
  refine ⟨fun a b => ?_, fun a b => ?_, fun a b => ?_, fun a b d => ?_⟩
  · have := I.vals a.kind b.kind; have := I.vals a.num b.num; have := S.vals a.str.data.toList b.str.data.toList
    simp only [valCmp, orI]; (repeat' split) <;> omega
  · have := I.anti a.kind b.kind; have := I.anti a.num b.num; have := S.anti a.str.data.toList b.str.data.toList
    simp only [valCmp, orI]; (repeat' split) <;> omega
  · have h1 := I.zero a.kind b.kind; have h2 := I.zero a.num b.num; have h3 := S.zero a.str.data.toList b.str.data.toList
    constructor
    · intro h
      simp only [valCmp, orI] at h
      have e1 : cmpI a.kind b.kind = 0 := by revert h; (repeat' split) <;> omega
      have e2 : cmpI a.num b.num = 0 := by revert h; (repeat' split) <;> omega
      have e3 : cmpS a.str.data.toList b.str.data.toList = 0 := by revert h; (repeat' split) <;> omega
      obtain ⟨ak, an, ⟨⟨as⟩⟩⟩ := a
      obtain ⟨bk, bn, ⟨⟨bl⟩⟩⟩ := b
      have q1 := h1.1 e1; have q2 := h2.1 e2; have q3 := h3.1 e3
      simp only at q1 q2 q3
      subst q1 q2 q3; rfl
    · rintro rfl
      simp only [valCmp, orI]
      rw [if_pos (h1.2 rfl), if_pos (h2.2 rfl), if_pos (h3.2 rfl)]
  · intro h1 h2
    have a1 := I.trans a.kind b.kind d.kind; have a2 := I.trans a.num b.num d.num; have a3 := S.trans a.str.data.toList b.str.data.toList d.str.data.toList
    have v1 := I.vals a.kind b.kind; have v2 := I.vals b.kind d.kind; have v3 := I.vals a.num b.num; have v4 := I.vals b.num d.num
    have z1 := I.zero a.kind b.kind; have z2 := I.zero b.kind d.kind; have z3 := I.zero a.num b.num; have z4 := I.zero b.num d.num
    have z5 := I.zero a.kind d.kind; have z6 := I.zero a.num d.num
    simp only [valCmp, orI] at *
    by_cases k1 : a.kind = b.kind <;> by_cases k2 : b.kind = d.kind <;> by_cases n1 : a.num = b.num <;> by_cases n2 : b.num = d.num <;> simp_all <;> (repeat' split) <;> omega

theorem eqB_iff {a b : V} : ((a.kind == b.kind) && ((a.num == b.num) && ((a.str.data.toList == b.str.data.toList) && true))) = (valCmp a b == 0) := by
  have h := isCmp_val.zero a b
  rw [Bool.eq_iff_iff]
  simp only [Bool.and_eq_true, beq_iff_eq, and_true]
  rw [h]
  obtain ⟨ak, an, ⟨⟨as⟩⟩⟩ := a
  obtain ⟨bk, bn, ⟨⟨bl⟩⟩⟩ := b
  constructor
  · rintro ⟨h1, h2, h3⟩
    simp only at h1 h2 h3
    subst h1 h2 h3; rfl
  · intro h; cases h; exact ⟨rfl, rfl, rfl⟩

set_option maxRecDepth 20000 in
theorem law_ValueCompares {P : Program} (F : F_warehouselaw1_ValueCompares P) (a b c : V) :
    ACalls P F.id [.agg (valC a), .agg (valC b), .agg (valC c)] [] (fun r _ => r = .bool true) := by
  refine acalls_of_body F.has ?_
  have vab := isCmp_val.vals a b
  have anti := isCmp_val.anti a b
  have e0 : IntKind.i64.wrap (0 - valCmp a b) = - valCmp a b := by rw [wrapI _ (by omega) (by omega)]; omega
  conv => whnf
  refine ⟨_, value_Compare_spec F.value_Compare a b _, ?_⟩
  conv => whnf
  refine ⟨_, value_Compare_spec F.value_Compare b c _, ?_⟩
  conv => whnf
  refine ⟨_, value_Compare_spec F.value_Compare a c _, ?_⟩
  conv => whnf
  refine ACalls.use (ref1_Compare_spec F.warehouseref1_Compare a b _) ?_
  (conv => whnf); refine recF (by simp) ?_
  conv => whnf
  refine ACalls.use (ref1_Compare_spec F.warehouseref1_Compare b c _) ?_
  (conv => whnf); refine recF (by simp) ?_
  conv => whnf
  refine ACalls.use (value_Compare_spec F.value_Compare b a _) ?_
  (conv => whnf); refine recF (by rw [e0, anti]; simp) ?_
  (conv => whnf); refine recF (by rw [eqB_iff]; simp) ?_
  have f1 : ¬ 0 < valCmp a b → ¬ 0 < valCmp b c → valCmp a c ≤ 0 := fun h1 h2 => isCmp_val.le (b := b) (by omega) (by omega)
  have f2 : valCmp a b < 0 → ¬ 0 < valCmp b c → valCmp a c < 0 := fun h1 h2 => isCmp_val.ltle (b := b) h1 (by omega)
  repeat' ((conv => whnf); first | refine recA (fun h => ?_) (fun h => ?_) | refine ACalls.use (known_spec F.warehouselaw1_known _) ?_ | refine ⟨_, known_spec F.warehouselaw1_known _, ?_⟩ | fail)
  all_goals try (conv => whnf)
  all_goals (simp at *; omega)
end Go.AW
