/-
  Values: order, truth, the examples of chapter 1.
  No condition: contracts over any program that has this code.
-/
import Derived.Test.YtikifhfpiahnoaaWhEnc
import Derived.Test.YtikifhfpiahnoaaAwLaw
import Derived.KernelRfl
namespace Go.AW
attribute [local irreducible] ACalls

theorem numbers_spec {P : Program} {f : FuncId} (hf : Has P f [] c_warehouseref1_numbers) (a b : Int) (H : List AObj) :
    ACalls P f [.int .i64 a, .int .i64 b] H (fun r H' => r = .int .i64 (cmpI a b) ∧ H' = H) := by
  refine ACalls.pure rfl (acalls_of_body hf ?_)
  repeat' ((conv => whnf); refine recA (fun _ => ?_) (fun _ => ?_))
  all_goals (conv => whnf)
  all_goals refine pubI ?_
  all_goals (simp_all [cmpI]; try omega)

set_option maxRecDepth 20000 in
theorem value_Compare_spec {P : Program} {f g1 g2 g3 g4 g5 : FuncId} (hf : Has P f [] (c_value_Compare g1 g2 g3)) (h1 : Has P g1 [] (c_cmp_Compare_int g4)) (h2 : Has P g2 [] (c_cmp_Compare_string g5)) (h3 : Has P g3 [] c_cmp_Or_int)
    (h4 : Has P g4 [] c_cmp_isNaN_int) (h5 : Has P g5 [] c_cmp_isNaN_string) (a b : V) (H : List AObj) :
    ACalls P f [.agg (valC a), .agg (valC b)] H (fun r H' => r = .int .i64 (valCmp a b) ∧ H' = H) := by
  refine ACalls.pure rfl (acalls_of_body hf ?_)
  conv => whnf
  refine ⟨_, cmpCompare_int_spec h1 h4 a.kind b.kind _, ?_⟩
  conv => whnf
  refine ⟨_, cmpCompare_int_spec h1 h4 a.num b.num _, ?_⟩
  conv => whnf
  refine ⟨_, cmpCompare_string_spec h2 h5 a.str b.str _, ?_⟩
  conv => whnf
  refine ⟨_, cmpOr_spec h3 [_, _, _] (by simp) _, ?_⟩
  conv => whnf
  exact pubI rfl

theorem cmpS_eq (a b : List UInt8) : cmpS a b = if Op.bytesLess a b then -1 else if a = b then 0 else 1 := rfl

set_option maxRecDepth 20000 in
theorem ref1_Compare_spec {P : Program} {f g : FuncId} (hf : Has P f [] (c_warehouseref1_Compare g)) (hg : Has P g [] c_warehouseref1_numbers) (a b : V) (H : List AObj) :
    ACalls P f [.agg (valC a), .agg (valC b)] H (fun r H' => r = .int .i64 (valCmp a b) ∧ H' = H) := by
  refine ACalls.pure rfl (acalls_of_body hf ?_)
  repeat' ((conv => whnf); first | refine recA (fun _ => ?_) (fun _ => ?_) | refine ACalls.use (numbers_spec hg _ _ _) ?_)
  all_goals (conv => whnf)
  all_goals refine pubI ?_
  all_goals simp_all [valCmp, orI, cmpS]

def truth (v : V) : Int := if v.kind = 1 ∧ validB v = true then v.num else -1

set_option maxRecDepth 20000 in
theorem value_Truth_spec {P : Program} {f g : FuncId} (hf : Has P f [] (c_value_Truth g)) (hg : Has P g [] c_value_Valid) (v : V) (H : List AObj) :
    ACalls P f [.agg (valC v)] H (fun r H' => r = .int .i64 (truth v) ∧ H' = H) := by
  refine ACalls.pure rfl (acalls_of_body hf ?_)
  repeat' ((conv => whnf); first | refine recA (fun _ => ?_) (fun _ => ?_) | refine ACalls.use (value_Valid_spec hg v _) ?_)
  all_goals (conv => whnf)
  all_goals refine pubI ?_
  all_goals simp_all [truth]

set_option maxRecDepth 20000 in
theorem ref1_Truth_spec {P : Program} {f : FuncId} (hf : Has P f [] c_warehouseref1_Truth) (v : V) (H : List AObj) :
    ACalls P f [.agg (valC v)] H (fun r H' => r = .int .i64 (truth v) ∧ H' = H) := by
  refine ACalls.pure rfl (acalls_of_body hf ?_)
  repeat' ((conv => whnf); first | refine recA (fun _ => ?_) (fun _ => ?_))
  all_goals (conv => whnf)
  all_goals refine pubI ?_
  all_goals simp_all [truth, validB, bs_nil]

structure ValFns (P : Program) where
  (enc valid word cmp ci cs cor ni ns truth rvalid rcmp rnum rtruth known : FuncId)
  henc : Has P enc [13] (c_value_Encode valid word)
  hvalid : Has P valid [] c_value_Valid
  hword : Has P word [] c_value_word
  hcmp : Has P cmp [] (c_value_Compare ci cs cor)
  hci : Has P ci [] (c_cmp_Compare_int ni)
  hcs : Has P cs [] (c_cmp_Compare_string ns)
  hcor : Has P cor [] c_cmp_Or_int
  hni : Has P ni [] c_cmp_isNaN_int
  hns : Has P ns [] c_cmp_isNaN_string
  htruth : Has P truth [] (c_value_Truth valid)
  hrvalid : Has P rvalid [] c_warehouseref1_Valid
  hrcmp : Has P rcmp [] (c_warehouseref1_Compare rnum)
  hrnum : Has P rnum [] c_warehouseref1_numbers
  hrtruth : Has P rtruth [] c_warehouseref1_Truth
  hknown : Has P known [] (c_warehouselaw1_known enc cmp valid truth)

theorem encR_known : encR [⟨1, 1, bs []⟩, ⟨3, 0, bs [97, 98]⟩] = .tuple [.list false 1 (bC [2, 1, 1, 3, 2, 97, 98]), .int .i64 0] := by kernel_rfl
theorem bytesOf_known : bytesOf (bC [2, 1, 1, 3, 2, 97, 98]) = some (bs [2, 1, 1, 3, 2, 97, 98]).data.toList := by kernel_rfl
theorem valCmp_known : valCmp ⟨0, 0, bs []⟩ ⟨1, 1, bs []⟩ = -1 := by kernel_rfl
theorem validB_known : validB ⟨3, 0, bs [97, 98]⟩ = true := by kernel_rfl
theorem truth_known : truth ⟨1, 1, bs []⟩ = 1 := by kernel_rfl

set_option maxRecDepth 20000 in
theorem known_spec {P : Program} (F : ValFns P) (H : List AObj) : ACalls P F.known [] H (fun r H' => r = .bool true ∧ H' = H) := by
  refine ACalls.pure rfl (acalls_of_body F.hknown ?_)
  conv => whnf
  refine ACalls.use (encode_list F.henc F.hvalid F.hword true [⟨1, 1, bs []⟩, ⟨3, 0, bs [97, 98]⟩] _) ?_
  rw [encR_known]
  conv => whnf
  refine ⟨_, bytesOf_known, ?_⟩
  conv => whnf
  refine And.intro (by decide) ?_
  conv => whnf
  refine ACalls.use (value_Compare_spec F.hcmp F.hci F.hcs F.hcor F.hni F.hns ⟨0, 0, bs []⟩ ⟨1, 1, bs []⟩ _) ?_
  rw [valCmp_known]
  conv => whnf
  refine And.intro (by decide) ?_
  conv => whnf
  refine ACalls.use (value_Valid_spec F.hvalid ⟨3, 0, bs [97, 98]⟩ _) ?_
  rw [validB_known]
  conv => whnf
  refine And.intro (by decide) ?_
  conv => whnf
  refine ACalls.use (value_Truth_spec F.htruth F.hvalid ⟨1, 1, bs []⟩ _) ?_
  rw [truth_known]
  conv => whnf
  exact .closed _ rfl

set_option maxRecDepth 20000 in
theorem law_ValueTruths {P : Program} (F : ValFns P) {f : FuncId} (hf : Has P f [] (c_warehouselaw1_ValueTruths F.truth F.rtruth F.known)) (v : V) (n : Int) :
    ACalls P f [.agg (valC v), .int .i64 n] [] (fun r _ => r = .bool true) := by
  refine acalls_of_body hf ?_
  conv => whnf
  refine ⟨_, value_Truth_spec F.htruth F.hvalid v _, ?_⟩
  conv => whnf
  refine ⟨_, ref1_Truth_spec F.hrtruth v _, ?_⟩
  conv => whnf
  refine recT (by simp) ?_
  conv => whnf
  refine ⟨_, value_Truth_spec F.htruth F.hvalid ⟨1, n, bs []⟩ _, ?_⟩
  conv => whnf
  refine ⟨_, ref1_Truth_spec F.hrtruth ⟨1, n, bs []⟩ _, ?_⟩
  conv => whnf
  refine recT (by simp) ?_
  conv => whnf
  refine ⟨_, known_spec F _, ?_⟩
  conv => whnf
/-- A value that came in. -/
theorem cellsOk_V {e : List AVal} (h : CellsOk [.int .i64, .int .i64, .str] e) : ∃ v : V, e = valC v ∧ (Lit.int .i64 v.kind).wf = true ∧ (Lit.int .i64 v.num).wf = true ∧ v.str.size ≤ maxLen := by
  match e, h with
  | [a, b, c], h =>
    obtain ⟨h1, h2, h3, _⟩ := h
    cases h1; cases h2; cases h3
    exact ⟨⟨_, _, _⟩, rfl, by assumption, by assumption, by assumption⟩
theorem argOk_V {a : AVal} (h : ArgOk (true, [.int .i64, .int .i64, .str]) a) : ∃ v : V, a = .agg (valC v) ∧ (Lit.int .i64 v.kind).wf = true ∧ (Lit.int .i64 v.num).wf = true ∧ v.str.size ≤ maxLen := by
  obtain ⟨as, rfl, hc⟩ := argOk_agg h
  obtain ⟨v, rfl, hv⟩ := cellsOk_V hc
  exact ⟨v, rfl, hv⟩
end Go.AW
