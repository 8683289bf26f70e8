/-
  The law ValueOrders holds for every input.
  No condition.
-/
import Derived.Test.YtikifhfpiahnoaaRows
import Derived.Test.YtikifhfpiahnoaaWhLaw1e
import Derived.KernelRfl
import Derived.ProofKit
import Derived.WalkKit
namespace Go.Proofs.Ytikifhfpiahnoaa.valueOrders
open Go.AW Go.ChangeShapes Go.WideShapes Go.ChangeAt Go.RowKit
set_option linter.unusedVariables false
set_option maxRecDepth 100000

theorem own : ownKnob Try.prog.godebug = none := by kernel_rfl
theorem laidOut : laidOutB Try.prog = true := by kernel_rfl

noncomputable def i_value_Valid : F_value_Valid Try.prog := ⟨18, ⟨Try.f18, Try.f18.body.getD .skip, Try.func18, by kernel_rfl, by kernel_rfl, by kernel_rfl, by kernel_rfl, by kernel_rfl⟩⟩
noncomputable def i_value_word : F_value_word Try.prog := ⟨64, ⟨Try.f64, Try.f64.body.getD .skip, Try.func64, by kernel_rfl, by kernel_rfl, by kernel_rfl, by kernel_rfl, by kernel_rfl⟩⟩
noncomputable def i_value_Encode : F_value_Encode Try.prog := ⟨25, i_value_Valid, i_value_word, ⟨Try.f25, Try.f25.body.getD .skip, Try.func25, by kernel_rfl, by kernel_rfl, by kernel_rfl, by kernel_rfl, by kernel_rfl⟩⟩
noncomputable def i_cmp_isNaN_int : F_cmp_isNaN_int Try.prog := ⟨81, ⟨Try.f81, Try.f81.body.getD .skip, Try.func81, by kernel_rfl, by kernel_rfl, by kernel_rfl, by kernel_rfl, by kernel_rfl⟩⟩
noncomputable def i_cmp_Compare_int : F_cmp_Compare_int Try.prog := ⟨61, i_cmp_isNaN_int, ⟨Try.f61, Try.f61.body.getD .skip, Try.func61, by kernel_rfl, by kernel_rfl, by kernel_rfl, by kernel_rfl, by kernel_rfl⟩⟩
noncomputable def i_cmp_isNaN_string : F_cmp_isNaN_string Try.prog := ⟨82, ⟨Try.f82, Try.f82.body.getD .skip, Try.func82, by kernel_rfl, by kernel_rfl, by kernel_rfl, by kernel_rfl, by kernel_rfl⟩⟩
noncomputable def i_cmp_Compare_string : F_cmp_Compare_string Try.prog := ⟨62, i_cmp_isNaN_string, ⟨Try.f62, Try.f62.body.getD .skip, Try.func62, by kernel_rfl, by kernel_rfl, by kernel_rfl, by kernel_rfl, by kernel_rfl⟩⟩
noncomputable def i_cmp_Or_int : F_cmp_Or_int Try.prog := ⟨60, ⟨Try.f60, Try.f60.body.getD .skip, Try.func60, by kernel_rfl, by kernel_rfl, by kernel_rfl, by kernel_rfl, by kernel_rfl⟩⟩
noncomputable def i_value_Compare : F_value_Compare Try.prog := ⟨21, i_cmp_Compare_int, i_cmp_Compare_string, i_cmp_Or_int, ⟨Try.f21, Try.f21.body.getD .skip, Try.func21, by kernel_rfl, by kernel_rfl, by kernel_rfl, by kernel_rfl, by kernel_rfl⟩⟩
noncomputable def i_value_Truth : F_value_Truth Try.prog := ⟨23, i_value_Valid, ⟨Try.f23, Try.f23.body.getD .skip, Try.func23, by kernel_rfl, by kernel_rfl, by kernel_rfl, by kernel_rfl, by kernel_rfl⟩⟩
noncomputable def i_warehouselaw1_known : F_warehouselaw1_known Try.prog := ⟨20, i_value_Encode, i_value_Compare, i_value_Valid, i_value_Truth, ⟨Try.f20, Try.f20.body.getD .skip, Try.func20, by kernel_rfl, by kernel_rfl, by kernel_rfl, by kernel_rfl, by kernel_rfl⟩⟩
noncomputable def i_warehousebase_At : F_warehousebase_At Try.prog := ⟨28, ⟨Try.f28, Try.f28.body.getD .skip, Try.func28, by kernel_rfl, by kernel_rfl, by kernel_rfl, by kernel_rfl, by kernel_rfl⟩⟩
noncomputable def i_warehousebase_Moment : F_warehousebase_Moment Try.prog := ⟨80, ⟨Try.f80, Try.f80.body.getD .skip, Try.func80, by kernel_rfl, by kernel_rfl, by kernel_rfl, by kernel_rfl, by kernel_rfl⟩⟩
noncomputable def i_warehousebase_Value : F_warehousebase_Value Try.prog := ⟨59, i_warehousebase_Moment, ⟨Try.f59, Try.f59.body.getD .skip, Try.func59, by kernel_rfl, by kernel_rfl, by kernel_rfl, by kernel_rfl, by kernel_rfl⟩⟩
noncomputable def i_warehousebase_Any : F_warehousebase_Any Try.prog := ⟨17, i_warehousebase_Value, ⟨Try.f17, Try.f17.body.getD .skip, Try.func17, by kernel_rfl, by kernel_rfl, by kernel_rfl, by kernel_rfl, by kernel_rfl⟩⟩
noncomputable def i_slices_CompareFunc_LValue_Value : F_slices_CompareFunc_LValue_Value Try.prog := ⟨66, ⟨Try.f66, Try.f66.body.getD .skip, Try.func66, by kernel_rfl, by kernel_rfl, by kernel_rfl, by kernel_rfl, by kernel_rfl⟩⟩
noncomputable def i_value_CompareRows : F_value_CompareRows Try.prog := ⟨29, i_slices_CompareFunc_LValue_Value, i_value_Compare, ⟨Try.f29, Try.f29.body.getD .skip, Try.func29, by kernel_rfl, by kernel_rfl, by kernel_rfl, by kernel_rfl, by kernel_rfl⟩⟩
noncomputable def i_warehouseref1_numbers : F_warehouseref1_numbers Try.prog := ⟨63, ⟨Try.f63, Try.f63.body.getD .skip, Try.func63, by kernel_rfl, by kernel_rfl, by kernel_rfl, by kernel_rfl, by kernel_rfl⟩⟩
noncomputable def i_warehouseref1_Compare : F_warehouseref1_Compare Try.prog := ⟨22, i_warehouseref1_numbers, ⟨Try.f22, Try.f22.body.getD .skip, Try.func22, by kernel_rfl, by kernel_rfl, by kernel_rfl, by kernel_rfl, by kernel_rfl⟩⟩
noncomputable def i_warehouseref1_CompareRows : F_warehouseref1_CompareRows Try.prog := ⟨30, i_warehouseref1_Compare, i_warehouseref1_numbers, ⟨Try.f30, Try.f30.body.getD .skip, Try.func30, by kernel_rfl, by kernel_rfl, by kernel_rfl, by kernel_rfl, by kernel_rfl⟩⟩
noncomputable def i_warehouselaw1_ValueOrders : F_warehouselaw1_ValueOrders Try.prog := ⟨7, i_warehouselaw1_known, i_warehousebase_At, i_warehousebase_Any, i_value_CompareRows, i_warehouseref1_CompareRows, ⟨Try.f7, Try.f7.body.getD .skip, Try.func7, by kernel_rfl, by kernel_rfl, by kernel_rfl, by kernel_rfl, by kernel_rfl⟩⟩

theorem lifted (os : Os) (started : os.Started) (H : Type) (enc : TypeId × Value → H) :
    ReturnsInHanded {} Try.checked os 7 .any (Rows.valueOrdersSpec.pre6 enc Try.prog Try.f7 Rows.valueOrdersRow.domain false) (Rows.valueOrdersSpec.post enc Try.prog Try.f7 false true false false) := by
  refine lifted_of_law (C := Try.checked) (n := 7) (tb := 4) (shs := [(false, [.slice [.int .i64, .int .i64, .str]]), (false, [.slice [.int .i64, .int .i64, .str]]), (false, [.slice [.int .i64]]), (false, [.int .i64])]) own started (by kernel_rfl) Try.func7
    (ChangeSpec.witness6 (enc := enc) (C := Try.checked) false ⟨#[], #[.slice none 0 0, .slice none 0 0, .slice none 0 0, .int .i64 0], []⟩ 8 (by kernel_rfl) (by kernel_rfl) (by kernel_rfl) (by kernel_rfl))
    laidOut (by kernel_rfl) (fun ds hd => ?_) rfl (by kernel_rfl) Try.underlying4 (by kernel_rfl) i_warehouselaw1_ValueOrders.has ?_
  · have hd : ds.length = 4 := hd.trans (by kernel_rfl)
    obtain ⟨d0, d1, d2, d3, rfl⟩ : ∃ d0 d1 d2 d3, ds = [d0, d1, d2, d3] := by
      match ds, hd with
      | [d0, d1, d2, d3], _ => exact ⟨d0, d1, d2, d3, rfl⟩
    rfl
  · intro xs h
    obtain ⟨y0, xs, rfl, p0, h⟩ := argsOk_cons h
    obtain ⟨y1, xs, rfl, p1, h⟩ := argsOk_cons h
    obtain ⟨y2, xs, rfl, p2, h⟩ := argsOk_cons h
    obtain ⟨y3, xs, rfl, p3, h⟩ := argsOk_cons h
    cases argsOk_nil h
    obtain ⟨x0, rfl, h0a, h0b⟩ := argOk_row p0
    obtain ⟨x1, rfl, h1a, h1b⟩ := argOk_row p1
    obtain ⟨x2, rfl, h2a, h2b⟩ := argOk_ints p2
    obtain ⟨x3, rfl, h3a⟩ := argOk_int p3
    first
      | exact law_ValueOrders i_warehouselaw1_ValueOrders x0 x1 x2 x3
      | exact law_ValueOrders i_warehouselaw1_ValueOrders x0 x1 x2 x3 h0a h0b h1a h1b h2a h2b h3a

theorem over : Rows.valueOrdersRow.holds Try.pinned (OpenSpec.ofChange Rows.valueOrdersSpec) :=
  OpenClaim.holds_of_wide 7 Try.f7 rfl rfl rfl rfl rfl rfl rfl ⟨rfl, rfl, rfl, rfl, rfl⟩ rfl rfl rfl rfl rfl (by kernel_rfl) Try.func7 (by kernel_rfl)
    (of_decide_eq_true (by kernel_rfl)) (by unfold Func.isWrapper; first | (rw [if_pos (by decide +kernel)]; kernel_rfl) | (rw [if_neg (by decide +kernel)]; exact ⟨rfl, rfl⟩))
    (fun os started H enc _ => lifted os started H enc)

theorem proved : Rows.ValueOrdersSaid := over
#print axioms proved
end Go.Proofs.Ytikifhfpiahnoaa.valueOrders
