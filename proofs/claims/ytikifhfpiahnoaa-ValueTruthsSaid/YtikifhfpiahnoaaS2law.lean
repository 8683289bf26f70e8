/-
  The law ValueTruths holds for every input.
  No condition.
-/
import Derived.Test.YtikifhfpiahnoaaRows
import Derived.Test.YtikifhfpiahnoaaAwLaw
import Derived.Test.YtikifhfpiahnoaaWhLaw1
import Derived.KernelRfl
import Derived.ProofKit
import Derived.WalkKit
namespace Go.Proofs.Ytikifhfpiahnoaa
open Go.AW Go.ChangeShapes Go.WideShapes Go.ChangeAt Go.RowKit
set_option linter.unusedVariables false
theorem own : ownKnob Try.prog.godebug = none := by kernel_rfl
theorem laidOut : laidOutB Try.prog = true := by kernel_rfl
set_option maxRecDepth 100000
theorem h_truths : Has Try.prog 5 [] (c_warehouselaw1_ValueTruths 23 24 20) := ⟨Try.f5, Try.f5.body.getD .skip, Try.func5, by kernel_rfl, by kernel_rfl, by kernel_rfl, by kernel_rfl, by kernel_rfl⟩
noncomputable def fns : ValFns Try.prog where
  enc := 25
  valid := 18
  word := 64
  cmp := 21
  ci := 61
  cs := 62
  cor := 60
  ni := 81
  ns := 82
  truth := 23
  rvalid := 19
  rcmp := 22
  rnum := 63
  rtruth := 24
  known := 20
  henc := ⟨Try.f25, Try.f25.body.getD .skip, Try.func25, by kernel_rfl, by kernel_rfl, by kernel_rfl, by kernel_rfl, by kernel_rfl⟩
  hvalid := ⟨Try.f18, Try.f18.body.getD .skip, Try.func18, by kernel_rfl, by kernel_rfl, by kernel_rfl, by kernel_rfl, by kernel_rfl⟩
  hword := ⟨Try.f64, Try.f64.body.getD .skip, Try.func64, by kernel_rfl, by kernel_rfl, by kernel_rfl, by kernel_rfl, by kernel_rfl⟩
  hcmp := ⟨Try.f21, Try.f21.body.getD .skip, Try.func21, by kernel_rfl, by kernel_rfl, by kernel_rfl, by kernel_rfl, by kernel_rfl⟩
  hci := ⟨Try.f61, Try.f61.body.getD .skip, Try.func61, by kernel_rfl, by kernel_rfl, by kernel_rfl, by kernel_rfl, by kernel_rfl⟩
  hcs := ⟨Try.f62, Try.f62.body.getD .skip, Try.func62, by kernel_rfl, by kernel_rfl, by kernel_rfl, by kernel_rfl, by kernel_rfl⟩
  hcor := ⟨Try.f60, Try.f60.body.getD .skip, Try.func60, by kernel_rfl, by kernel_rfl, by kernel_rfl, by kernel_rfl, by kernel_rfl⟩
  hni := ⟨Try.f81, Try.f81.body.getD .skip, Try.func81, by kernel_rfl, by kernel_rfl, by kernel_rfl, by kernel_rfl, by kernel_rfl⟩
  hns := ⟨Try.f82, Try.f82.body.getD .skip, Try.func82, by kernel_rfl, by kernel_rfl, by kernel_rfl, by kernel_rfl, by kernel_rfl⟩
  htruth := ⟨Try.f23, Try.f23.body.getD .skip, Try.func23, by kernel_rfl, by kernel_rfl, by kernel_rfl, by kernel_rfl, by kernel_rfl⟩
  hrvalid := ⟨Try.f19, Try.f19.body.getD .skip, Try.func19, by kernel_rfl, by kernel_rfl, by kernel_rfl, by kernel_rfl, by kernel_rfl⟩
  hrcmp := ⟨Try.f22, Try.f22.body.getD .skip, Try.func22, by kernel_rfl, by kernel_rfl, by kernel_rfl, by kernel_rfl, by kernel_rfl⟩
  hrnum := ⟨Try.f63, Try.f63.body.getD .skip, Try.func63, by kernel_rfl, by kernel_rfl, by kernel_rfl, by kernel_rfl, by kernel_rfl⟩
  hrtruth := ⟨Try.f24, Try.f24.body.getD .skip, Try.func24, by kernel_rfl, by kernel_rfl, by kernel_rfl, by kernel_rfl, by kernel_rfl⟩
  hknown := ⟨Try.f20, Try.f20.body.getD .skip, Try.func20, by kernel_rfl, by kernel_rfl, by kernel_rfl, by kernel_rfl, by kernel_rfl⟩

theorem lifted (os : Os) (started : os.Started) (H : Type) (enc : TypeId × Value → H) :
    ReturnsInHanded {} Try.checked os 5 .any (Rows.valueTruthsSpec.pre6 enc Try.prog Try.f5 Rows.valueTruthsRow.domain false) (Rows.valueTruthsSpec.post enc Try.prog Try.f5 false true false false) := by
  refine lifted_of_law (C := Try.checked) (n := 5) (tb := 4) (shs := [(true, [.int .i64, .int .i64, .str]), (false, [.int .i64])]) own started (by kernel_rfl) Try.func5
    (ChangeSpec.witness6 (enc := enc) (C := Try.checked) false ⟨#[], #[.agg #[.int .i64 0, .int .i64 0, .string ⟨#[]⟩], .int .i64 0], []⟩ 8 (by kernel_rfl) (by kernel_rfl) (by kernel_rfl) (by kernel_rfl))
    laidOut (by kernel_rfl) (fun ds hd => ?_) rfl (by kernel_rfl) Try.underlying4 (by kernel_rfl) h_truths ?_
  · have hd : ds.length = 2 := hd.trans (by kernel_rfl)
    obtain ⟨a, b, rfl⟩ : ∃ a b, ds = [a, b] := by
      match ds, hd with
      | [a, b], _ => exact ⟨a, b, rfl⟩
    rfl
  · intro xs h
    obtain ⟨a, xs, rfl, h0, h⟩ := argsOk_cons h
    obtain ⟨b, xs, rfl, h1, h⟩ := argsOk_cons h
    cases argsOk_nil h
    obtain ⟨v, rfl, _⟩ := argOk_V h0
    obtain ⟨n, rfl, _⟩ := argOk_int h1
    exact law_ValueTruths fns h_truths v n

theorem over : Rows.valueTruthsRow.holds Try.pinned (OpenSpec.ofChange Rows.valueTruthsSpec) :=
  OpenClaim.holds_of_wide 5 Try.f5 rfl rfl rfl rfl rfl rfl rfl ⟨rfl, rfl, rfl, rfl, rfl⟩ rfl rfl rfl rfl rfl (by kernel_rfl) Try.func5 (by kernel_rfl)
    (of_decide_eq_true (by kernel_rfl)) (by unfold Func.isWrapper; first | (rw [if_pos (by decide +kernel)]; kernel_rfl) | (rw [if_neg (by decide +kernel)]; exact ⟨rfl, rfl⟩))
    (fun os started H enc _ => lifted os started H enc)

theorem proved : Rows.ValueTruthsSaid := over
#print axioms proved
end Go.Proofs.Ytikifhfpiahnoaa
