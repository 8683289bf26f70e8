/-
  The law ValueValidates holds for every input.
  No condition.
-/
import Derived.Test.YtikifhfpiahnoaaRows
import Derived.Test.YtikifhfpiahnoaaWhLaw1
import Derived.KernelRfl
import Derived.ProofKit
import Derived.WalkKit
namespace Go.Proofs.Ytikifhfpiahnoaa.valueValidates
open Go.AW Go.ChangeShapes Go.WideShapes Go.ChangeAt Go.RowKit
set_option linter.unusedVariables false
set_option maxRecDepth 100000

theorem own : ownKnob Try.prog.godebug = none := by kernel_rfl
theorem laidOut : laidOutB Try.prog = true := by kernel_rfl

noncomputable def i_warehousebase_Moment : F_warehousebase_Moment Try.prog := ⟨80, ⟨Try.f80, Try.f80.body.getD .skip, Try.func80, by kernel_rfl, by kernel_rfl, by kernel_rfl, by kernel_rfl, by kernel_rfl⟩⟩
noncomputable def i_warehousebase_Value : F_warehousebase_Value Try.prog := ⟨59, i_warehousebase_Moment, ⟨Try.f59, Try.f59.body.getD .skip, Try.func59, by kernel_rfl, by kernel_rfl, by kernel_rfl, by kernel_rfl, by kernel_rfl⟩⟩
noncomputable def i_warehousebase_Any : F_warehousebase_Any Try.prog := ⟨17, i_warehousebase_Value, ⟨Try.f17, Try.f17.body.getD .skip, Try.func17, by kernel_rfl, by kernel_rfl, by kernel_rfl, by kernel_rfl, by kernel_rfl⟩⟩
noncomputable def i_value_Valid : F_value_Valid Try.prog := ⟨18, ⟨Try.f18, Try.f18.body.getD .skip, Try.func18, by kernel_rfl, by kernel_rfl, by kernel_rfl, by kernel_rfl, by kernel_rfl⟩⟩
noncomputable def i_warehouseref1_Valid : F_warehouseref1_Valid Try.prog := ⟨19, ⟨Try.f19, Try.f19.body.getD .skip, Try.func19, by kernel_rfl, by kernel_rfl, by kernel_rfl, by kernel_rfl, by kernel_rfl⟩⟩
noncomputable def i_value_word : F_value_word Try.prog := ⟨64, ⟨Try.f64, Try.f64.body.getD .skip, Try.func64, by kernel_rfl, by kernel_rfl, by kernel_rfl, by kernel_rfl, by kernel_rfl⟩⟩
noncomputable def i_value_Encode : F_value_Encode Try.prog := ⟨25, i_value_Valid, i_value_word, ⟨Try.f25, Try.f25.body.getD .skip, Try.func25, by kernel_rfl, by kernel_rfl, by kernel_rfl, by kernel_rfl, by kernel_rfl⟩⟩
noncomputable def i_cmp_isNaN_int : F_cmp_isNaN_int Try.prog := ⟨81, ⟨Try.f81, Try.f81.body.getD .skip, Try.func81, by kernel_rfl, by kernel_rfl, by kernel_rfl, by kernel_rfl, by kernel_rfl⟩⟩
noncomputable def i_cmp_Compare_int : F_cmp_Compare_int Try.prog := ⟨61, i_cmp_isNaN_int, ⟨Try.f61, Try.f61.body.getD .skip, Try.func61, by kernel_rfl, by kernel_rfl, by kernel_rfl, by kernel_rfl, by kernel_rfl⟩⟩
noncomputable def i_cmp_isNaN_string : F_cmp_isNaN_string Try.prog := ⟨82, ⟨Try.f82, Try.f82.body.getD .skip, Try.func82, by kernel_rfl, by kernel_rfl, by kernel_rfl, by kernel_rfl, by kernel_rfl⟩⟩
noncomputable def i_cmp_Compare_string : F_cmp_Compare_string Try.prog := ⟨62, i_cmp_isNaN_string, ⟨Try.f62, Try.f62.body.getD .skip, Try.func62, by kernel_rfl, by kernel_rfl, by kernel_rfl, by kernel_rfl, by kernel_rfl⟩⟩
noncomputable def i_cmp_Or_int : F_cmp_Or_int Try.prog := ⟨60, ⟨Try.f60, Try.f60.body.getD .skip, Try.func60, by kernel_rfl, by kernel_rfl, by kernel_rfl, by kernel_rfl, by kernel_rfl⟩⟩
noncomputable def i_value_Compare : F_value_Compare Try.prog := ⟨21, i_cmp_Compare_int, i_cmp_Compare_string, i_cmp_Or_int, ⟨Try.f21, Try.f21.body.getD .skip, Try.func21, by kernel_rfl, by kernel_rfl, by kernel_rfl, by kernel_rfl, by kernel_rfl⟩⟩
noncomputable def i_value_Truth : F_value_Truth Try.prog := ⟨23, i_value_Valid, ⟨Try.f23, Try.f23.body.getD .skip, Try.func23, by kernel_rfl, by kernel_rfl, by kernel_rfl, by kernel_rfl, by kernel_rfl⟩⟩
noncomputable def i_warehouselaw1_known : F_warehouselaw1_known Try.prog := ⟨20, i_value_Encode, i_value_Compare, i_value_Valid, i_value_Truth, ⟨Try.f20, Try.f20.body.getD .skip, Try.func20, by kernel_rfl, by kernel_rfl, by kernel_rfl, by kernel_rfl, by kernel_rfl⟩⟩
noncomputable def i_warehouselaw1_ValueValidates : F_warehouselaw1_ValueValidates Try.prog := ⟨3, i_warehousebase_Any, i_value_Valid, i_warehouseref1_Valid, i_warehouselaw1_known, ⟨Try.f3, Try.f3.body.getD .skip, Try.func3, by kernel_rfl, by kernel_rfl, by kernel_rfl, by kernel_rfl, by kernel_rfl⟩⟩

theorem lifted (os : Os) (started : os.Started) (H : Type) (enc : TypeId × Value → H) :
    ReturnsInHanded {} Try.checked os 3 .any (Rows.valueValidatesSpec.pre6 enc Try.prog Try.f3 Rows.valueValidatesRow.domain false) (Rows.valueValidatesSpec.post enc Try.prog Try.f3 false true false false) := by
  refine lifted_of_law (C := Try.checked) (n := 7) (tb := 4) (shs := [(true, [.int .i64, .int .i64, .str]), (false, [.int .i64])]) own started (by kernel_rfl) Try.func3
    (ChangeSpec.witness6 (enc := enc) (C := Try.checked) false ⟨#[], #[.agg #[.int .i64 0, .int .i64 0, .string ⟨#[]⟩], .int .i64 0], []⟩ 8 (by kernel_rfl) (by kernel_rfl) (by kernel_rfl) (by kernel_rfl))
    laidOut (by kernel_rfl) (fun ds hd => ?_) rfl (by kernel_rfl) Try.underlying4 (by kernel_rfl) i_warehouselaw1_ValueValidates.has ?_
  · have hd : ds.length = 2 := hd.trans (by kernel_rfl)
    obtain ⟨d0, d1, rfl⟩ : ∃ d0 d1, ds = [d0, d1] := by
      match ds, hd with
      | [d0, d1], _ => exact ⟨d0, d1, rfl⟩
    rfl
  · intro xs h
    obtain ⟨y0, xs, rfl, p0, h⟩ := argsOk_cons h
    obtain ⟨y1, xs, rfl, p1, h⟩ := argsOk_cons h
    cases argsOk_nil h
    obtain ⟨x0, rfl, h0a⟩ := argOk_V p0
    obtain ⟨x1, rfl, h1a⟩ := argOk_int p1
    first
      | exact law_ValueValidates i_warehouselaw1_ValueValidates x0 x1
      | exact law_ValueValidates i_warehouselaw1_ValueValidates x0 x1 h0a h1a

theorem over : Rows.valueValidatesRow.holds Try.pinned (OpenSpec.ofChange Rows.valueValidatesSpec) :=
  OpenClaim.holds_of_wide 3 Try.f3 rfl rfl rfl rfl rfl rfl rfl ⟨rfl, rfl, rfl, rfl, rfl⟩ rfl rfl rfl rfl rfl (by kernel_rfl) Try.func3 (by kernel_rfl)
    (of_decide_eq_true (by kernel_rfl)) (by unfold Func.isWrapper; first | (rw [if_pos (by decide +kernel)]; kernel_rfl) | (rw [if_neg (by decide +kernel)]; exact ⟨rfl, rfl⟩))
    (fun os started H enc _ => lifted os started H enc)

theorem proved : Rows.ValueValidatesSaid := over
#print axioms proved
end Go.Proofs.Ytikifhfpiahnoaa.valueValidates
