/-
  An abstract machine over the model, the code of functions on it, and their contracts: what the claim needs.
  No condition: definitions, plain laws, contracts over any program that has this code.
-/
import Derived.Test.YtmomepfdfmjceaaZ4
set_option linter.all false
namespace Go.AW
attribute [local irreducible] ACalls
def lightB (g : Grp) : Bool := decide (g.vals.length ≤ 50) && g.vals.all fun e => decide (e.row.length ≤ 20)

set_option maxRecDepth 20000 in
theorem light_spec {P : Program} (F : F_warehouselaw17_light P) (g : Grp) (H : List AObj) :
    ACalls P F.id [.agg (gV g)] H (fun r H' => r = .bool (lightB g) ∧ H' = H) := by
  refine ACalls.pure (by simp [AVal.closed, gV, AVal.isPure]) (acalls_of_body F.has ?_)
  (conv => whnf); refine recA (fun h => ?_) (fun h => ?_)
  · simp [eC_length] at h
    conv => whnf
    exact pubB (by rw [lightB, decide_eq_false (by omega)]; rfl)
  simp [eC_length] at h
  have hR : lightB g = g.vals.all fun e => decide (e.row.length ≤ 20) := by rw [lightB, decide_eq_true (by omega), Bool.true_and]
  conv => whnf
  refine ⟨fun m ρ H1 => ∃ k : Nat, k + m = g.vals.length ∧ ((g.vals.drop k).all fun e => decide (e.row.length ≤ 20)) = lightB g ∧ H1 = [.arr 2 [gV g]] ∧
    Sv 23 [(1, .ptr 0 1 0 0), (3, .int .i64 k)] ρ, g.vals.length, [], ?_, ?_⟩
  · exact ⟨0, by omega, hR.symm, rfl, Sv.intro rfl ⟨rfl, rfl, trivial⟩⟩
  rintro m ρ H1 ⟨k, hk, hr, rfl, d, rfl⟩
  (conv => whnf); refine recA (fun hlt => ?_) (fun hlt => ?_)
  · simp [eC_length] at hlt
    obtain ⟨x, hx, hd, _⟩ := get_drop hlt
    rw [hd, List.all_cons] at hr
    conv => whnf
    refine And.intro (by omega) ?_
    (conv => whnf); refine recO (eC_at hx) ?_
    (conv => whnf); refine recA (fun hq => ?_) (fun hq => ?_)
    · simp [vC_length] at hq
      conv => whnf
      exact pubB (by rw [← hr, decide_eq_false (by omega)]; rfl)
    · simp [vC_length] at hq
      conv => whnf
      refine ⟨m - 1, by omega, Gp.keep rfl ?_ fun ρ1 h => ⟨k + 1, by omega, ?_, rfl, h⟩⟩
      · exact ⟨rfl, intEq (wrapI ((k : Int) + 1) (by omega) (by omega)), trivial⟩
      · rw [← hr, decide_eq_true (by omega), Bool.true_and]
  · simp [eC_length] at hlt
    conv => whnf
    rw [List.drop_eq_nil_of_le hlt] at hr
    exact pubB hr

theorem number_spec {P : Program} (F : F_warehouselaw17_number P) (n : Int) (H : List AObj) :
    ACalls P F.id [.int .i64 n] H (fun r H' => r = .agg (valC ⟨2, n, bs []⟩) ∧ H' = H) := by
  refine ACalls.pure rfl (acalls_of_body F.has ?_)
  conv => whnf
  exact .closed _ rfl

def numV (n : Int) : V := if n < -1073741824 ∨ 1073741824 < n then zV else ⟨2, n, bs []⟩

theorem integer_spec {P : Program} (F : F_aggregate_integer P) (n : Int) (H : List AObj) :
    ACalls P F.id [.int .i64 n] H (fun r H' => r = .agg (valC (numV n)) ∧ H' = H) := by
  refine ACalls.pure rfl (acalls_of_body F.has ?_)
  (conv => whnf); refine recA (fun h => ?_) (fun h => ?_)
  · simp at h
    conv => whnf
    rw [numV, if_pos (by omega)]
    exact .closed _ rfl
  simp at h
  (conv => whnf); refine recA (fun h2 => ?_) (fun h2 => ?_)
  · simp at h2
    conv => whnf
    rw [numV, if_pos (by omega)]
    exact .closed _ rfl
  · simp at h2
    conv => whnf
    rw [numV, if_neg (by omega)]
    exact .closed _ rfl

def num0 (e : Ent) : Int := (e.row.getD 0 zV).num

def totGo : List Ent → Int → Int → Int × Int
  | [], s, c => (s, c)
  | e :: es, s, c => totGo es (w64 (s + w64 (num0 e * e.cnt))) (w64 (c + e.cnt))

def totR (l : List Ent) : AVal := .tuple [.int .i64 (totGo l 0 0).1, .int .i64 (totGo l 0 0).2]

set_option maxRecDepth 20000 in
theorem totals_spec {P : Program} (F : F_aggregate_totals P) (l : List Ent) (hl : l.length ≤ 100000) (h1 : ∀ e ∈ l, e.row.length = 1) (H : List AObj) :
    ACalls P F.id [.list false 2 (eC l)] H (fun r H' => r = totR l ∧ H' = H) := by
  refine ACalls.pure (by simp [AVal.closed, AVal.isPure]) (acalls_of_body F.has ?_)
  conv => whnf
  refine ⟨fun m ρ H1 => ∃ (k : Nat) (s c : Int), k + m = l.length ∧ totGo (l.drop k) s c = totGo l 0 0 ∧ H1 = [] ∧
    Sv 29 [(2, .int .i64 s), (3, .int .i64 c), (6, .list false 2 (eC l)), (7, .int .i64 l.length), (8, .int .i64 k)] ρ, l.length, [], ?_, ?_⟩
  · exact ⟨0, 0, 0, by omega, rfl, rfl, Sv.intro rfl ⟨rfl, rfl, rfl, intEq (by rw [eC_length]), rfl, trivial⟩⟩
  rintro m ρ H1 ⟨k, s, c, hk, hr, rfl, d, rfl⟩
  (conv => whnf); refine recA (fun hlt => ?_) (fun hlt => ?_)
  · simp at hlt
    obtain ⟨x, hx, hd, hxm⟩ := get_drop hlt
    rw [hd, totGo] at hr
    have hxl := h1 x hxm
    obtain ⟨v, hv, _, _⟩ := get_drop (l := x.row) (k := 0) (by omega)
    have hn : num0 x = v.num := by rw [num0, List.getD_eq_getElem?_getD, hv]; rfl
    conv => whnf
    refine And.intro (by omega) ?_
    (conv => whnf); refine recO (eC_at hx) ?_
    (conv => whnf); refine And.intro (by decide) ?_
    (conv => whnf); refine recO (vC_at hv) ?_
    conv => whnf
    refine ⟨m - 1, by omega, Gp.none rfl ?_ fun ρ1 h => ⟨k + 1, w64 (s + w64 (v.num * x.cnt)), w64 (c + x.cnt), by omega, by rw [← hr, hn], rfl, h⟩⟩
    exact ⟨.closed _ rfl, .closed _ rfl, .closed _ rfl, .closed _ rfl, pub_int (wrapI ((k : Int) + 1) (by omega) (by omega)), trivial⟩
  · simp at hlt
    rw [List.drop_eq_nil_of_le hlt, totGo] at hr
    conv => whnf
    rw [totR, ← hr]
    exact pub2 (.closed _ rfl) (.closed _ rfl)

end Go.AW

namespace Go.AW
attribute [local irreducible] ACalls
theorem ref17_number_spec {P : Program} (F : F_warehouseref17_number P) (n : Int) (H : List AObj) :
    ACalls P F.id [.int .i64 n] H (fun r H' => r = .agg (valC (numV n)) ∧ H' = H) := by
  refine ACalls.pure rfl (acalls_of_body F.has ?_)
  (conv => whnf); refine recA (fun h => ?_) (fun h => ?_)
  · simp at h
    conv => whnf
    rw [numV, if_pos (by omega)]
    exact .closed _ rfl
  simp at h
  (conv => whnf); refine recA (fun h2 => ?_) (fun h2 => ?_)
  · simp at h2
    conv => whnf
    rw [numV, if_pos (by omega)]
    exact .closed _ rfl
  · simp at h2
    conv => whnf
    rw [numV, if_neg (by omega)]
    exact .closed _ rfl

set_option maxRecDepth 20000 in
theorem ref17_total_spec {P : Program} (F : F_warehouseref17_total P) (g : Grp) (l : List Ent) (hg : g.vals = l) (hl : l.length ≤ 100000) (h1 : ∀ e ∈ l, e.row.length = 1) (H : List AObj) :
    ACalls P F.id [.agg (gV g)] H (fun r H' => r = totR l ∧ H' = H) := by
  subst hg
  refine ACalls.pure (by simp [AVal.closed, gV, AVal.isPure]) (acalls_of_body F.has ?_)
  conv => whnf
  refine ⟨fun m ρ H1 => ∃ (k : Nat) (s c : Int), k + m = g.vals.length ∧ totGo (g.vals.drop k) s c = totGo g.vals 0 0 ∧ H1 = [.arr 2 [gV g]] ∧
    Sv 40 [(1, .ptr 0 1 0 0), (2, .int .i64 s), (3, .int .i64 c), (4, .int .i64 k)] ρ, g.vals.length, [], ?_, ?_⟩
  · exact ⟨0, 0, 0, by omega, rfl, rfl, Sv.intro rfl ⟨rfl, rfl, rfl, rfl, trivial⟩⟩
  rintro m ρ H1 ⟨k, s, c, hk, hr, rfl, d, rfl⟩
  (conv => whnf); refine recA (fun hlt => ?_) (fun hlt => ?_)
  · simp [eC_length] at hlt
    obtain ⟨x, hx, hd, hxm⟩ := get_drop hlt
    rw [hd, totGo] at hr
    have hxl := h1 x hxm
    obtain ⟨v, hv, _, _⟩ := get_drop (l := x.row) (k := 0) (by omega)
    have hn : num0 x = v.num := by rw [num0, List.getD_eq_getElem?_getD, hv]; rfl
    conv => whnf
    refine And.intro (by omega) ?_
    (conv => whnf); refine recO (eC_at hx) ?_
    (conv => whnf); refine And.intro (by decide) ?_
    (conv => whnf); refine recO (vC_at hv) ?_
    (conv => whnf); refine And.intro (by omega) ?_
    (conv => whnf); refine recO (eC_at hx) ?_
    (conv => whnf); refine And.intro (by omega) ?_
    (conv => whnf); refine recO (eC_at hx) ?_
    conv => whnf
    refine ⟨m - 1, by omega, Gp.keep rfl ?_ fun ρ1 h => ⟨k + 1, w64 (s + w64 (v.num * x.cnt)), w64 (c + x.cnt), by omega, by rw [← hr, hn], rfl, h⟩⟩
    exact ⟨rfl, rfl, rfl, intEq (wrapI ((k : Int) + 1) (by omega) (by omega)), trivial⟩
  · simp [eC_length] at hlt
    rw [List.drop_eq_nil_of_le hlt, totGo] at hr
    conv => whnf
    rw [totR, ← hr]
    exact pub2 (.closed _ rfl) (.closed _ rfl)

end Go.AW

namespace Go.AW
attribute [local irreducible] ACalls
def prmE (a b : Grp) : Int := if grpB a ≠ 0 then grpB a else grpB b

def merE (a b : Grp) : Int := if prmE a b ≠ 0 then prmE a b else mrgE a b

def merG (a b : Grp) : Grp := if prmE a b ≠ 0 then ⟨0, []⟩ else mrgG a b

def merRaw (a b : Grp) : AVal := if prmE a b ≠ 0 then .tuple [.agg [.int .i64 0, .nil], .int .i64 (prmE a b)] else .tuple [.agg (gV (mrgG a b)), .int .i64 (mrgE a b)]

theorem merRaw_weak (a b : Grp) : WkD (merRaw a b) (.tuple [.agg (gV (merG a b)), .int .i64 (merE a b)]) := by
  unfold merRaw merG merE
  split
  · exact .tuples (.cons (.aggs (.cons (.refl _) (.cons (.nil false 2) .nil))) (.cons (.refl _) .nil))
  · exact .refl _

set_option maxRecDepth 20000 in
theorem agg_Merge_spec {P : Program} (F : F_aggregate_Merge P) (a b : Grp) (H : List AObj) :
    ACalls P F.id [.agg (gV a), .agg (gV b)] H (fun r H' => r = .tuple [.agg (gV (merG a b)), .int .i64 (merE a b)] ∧ H' = H) := by
  refine ACalls.weakRD (Q := fun r H' => r = merRaw a b ∧ H' = H) ?_ (by rintro r H' ⟨rfl, rfl⟩; exact ⟨_, merRaw_weak a b, rfl, rfl⟩)
  refine ACalls.pure (by simp [AVal.closed, gV, AVal.isPure]) (acalls_of_body F.has ?_)
  have bad : ∀ e, prmE a b = e → e ≠ 0 → merRaw a b = .tuple [.agg [.int .i64 0, .nil], .int .i64 e] := fun e h1 h2 => by rw [merRaw, if_pos (by rw [h1]; exact h2), h1]
  conv => whnf
  refine ACalls.use (agg_Validate_spec F.aggregate_Validate a _) ?_
  (conv => whnf); refine recA (fun h => ?_) (fun h => ?_)
  · replace h : (!(grpB a == 0)) = true := h
    simp at h
    conv => whnf
    rw [bad (grpB a) (by rw [prmE, if_pos h]) h]
    exact pub2 (.closed _ rfl) (.closed _ rfl)
  replace h : (!(grpB a == 0)) = false := h
  simp at h
  conv => whnf
  refine ACalls.use (agg_Validate_spec F.aggregate_Validate b _) ?_
  (conv => whnf); refine recA (fun h2 => ?_) (fun h2 => ?_)
  · replace h2 : (!(grpB b == 0)) = true := h2
    simp at h2
    conv => whnf
    rw [bad (grpB b) (by rw [prmE, if_neg (by simp [h])]) h2]
    exact pub2 (.closed _ rfl) (.closed _ rfl)
  replace h2 : (!(grpB b == 0)) = false := h2
  simp at h2
  have hR : merRaw a b = .tuple [.agg (gV (mrgG a b)), .int .i64 (mrgE a b)] := by rw [merRaw, if_neg (by rw [prmE, if_neg (by simp [h])]; simp [h2])]
  conv => whnf
  refine ACalls.use (agg_merge_spec F.aggregate_merge a b (grpB_ok h).1 (grpB_ok h2).1 _) ?_
  conv => whnf
  rw [hR]
  exact pub2 (.closed _ rfl) (.closed _ rfl)

set_option maxRecDepth 20000 in
theorem ref17_Merge_spec {P : Program} (F : F_warehouseref17_Merge P) (a b : Grp) (H : List AObj) :
    ACalls P F.id [.agg (gV a), .agg (gV b)] H (fun r H' => r = .tuple [.agg (gV (merG a b)), .int .i64 (merE a b)] ∧ H' = H) := by
  refine ACalls.weakRD (Q := fun r H' => r = merRaw a b ∧ H' = H) ?_ (by rintro r H' ⟨rfl, rfl⟩; exact ⟨_, merRaw_weak a b, rfl, rfl⟩)
  refine ACalls.pure (by simp [AVal.closed, gV, AVal.isPure]) (acalls_of_body F.has ?_)
  have bad : ∀ e, prmE a b = e → e ≠ 0 → merRaw a b = .tuple [.agg [.int .i64 0, .nil], .int .i64 e] := fun e h1 h2 => by rw [merRaw, if_pos (by rw [h1]; exact h2), h1]
  conv => whnf
  refine ACalls.use (ref17_Validate_spec F.warehouseref17_Validate a _) ?_
  (conv => whnf); refine recA (fun h => ?_) (fun h => ?_)
  · replace h : (!(grpB a == 0)) = true := h
    simp at h
    conv => whnf
    rw [bad (grpB a) (by rw [prmE, if_pos h]) h]
    exact pub2 (.closed _ rfl) (.closed _ rfl)
  replace h : (!(grpB a == 0)) = false := h
  simp at h
  conv => whnf
  refine ACalls.use (ref17_Validate_spec F.warehouseref17_Validate b _) ?_
  (conv => whnf); refine recA (fun h2 => ?_) (fun h2 => ?_)
  · replace h2 : (!(grpB b == 0)) = true := h2
    simp at h2
    conv => whnf
    rw [bad (grpB b) (by rw [prmE, if_neg (by simp [h])]) h2]
    exact pub2 (.closed _ rfl) (.closed _ rfl)
  replace h2 : (!(grpB b == 0)) = false := h2
  simp at h2
  have hR : merRaw a b = .tuple [.agg (gV (mrgG a b)), .int .i64 (mrgE a b)] := by rw [merRaw, if_neg (by rw [prmE, if_neg (by simp [h])]; simp [h2])]
  conv => whnf
  refine ACalls.use (ref17_plus_spec F.warehouseref17_plus false a b (grpB_ok h).1 (grpB_ok h2).1 _) ?_
  conv => whnf
  rw [hR]
  exact pub2 (.closed _ rfl) (.closed _ rfl)

end Go.AW

namespace Go.AW
attribute [local irreducible] ACalls
set_option maxRecDepth 20000 in
theorem IndexFuncE_spec {P : Program} (F : F_slices_IndexFunc_LEntry_Entry P) (g : FuncId) (caps : List AVal) (p : Ent → Bool) (H : List AObj) (cs : List Ent) (hg : ∀ c ∈ cs, ACalls P g ([.agg (entC c)] ++ caps) H (fun r H' => r = .bool (p c) ∧ H' = H))
    (ex : Bool) (hl : cs.length ≤ 1000000) :
    ACalls P F.id [.list ex 2 (eC cs), .fn g caps] H (fun r H' => r = .int .i64 (idxOf p cs 0) ∧ H' = H) := by
  refine acalls_of_body F.has ?_
  conv => whnf
  refine ⟨fun m ρ H1 => ∃ k : Nat, k + m = cs.length ∧ idxOf p (cs.drop k) k = idxOf p cs 0 ∧ H1 = H ∧
    Sv 19 [(0, .list ex 2 (eC cs)), (1, .fn g caps), (7, .int .i64 cs.length), (8, .int .i64 k)] ρ, cs.length, [], ?_, ?_⟩
  · exact ⟨0, by omega, rfl, rfl, Sv.intro rfl ⟨rfl, rfl, intEq (by rw [eC_length]), rfl, trivial⟩⟩
  rintro m ρ H1 ⟨k, hk, hr, rfl, d, rfl⟩
  (conv => whnf); refine recA (fun hlt => ?_) (fun hlt => ?_)
  · simp at hlt
    obtain ⟨c, hc, hd, hmem⟩ := get_drop hlt
    rw [hd] at hr
    conv => whnf
    refine And.intro (by omega) ?_
    (conv => whnf); refine recO (eC_at hc) ?_
    conv => whnf
    refine ACalls.use (hg c hmem) ?_
    (conv => whnf); refine recA (fun h => ?_) (fun hf => ?_)
    · conv => whnf
      refine ⟨intEq ?_, rfl⟩
      rw [← hr, idxOf, if_pos h]
    · conv => whnf
      refine ⟨m - 1, by omega, Gp.keep rfl ?_ fun ρ1 h => ⟨k + 1, by omega, ?_, rfl, h⟩⟩
      · exact ⟨rfl, rfl, rfl, intEq (wrapI ((k : Int) + 1) (by omega) (by omega)), trivial⟩
      · rw [← hr, idxOf, if_neg (by rw [hf]; simp)]; rfl
  · simp at hlt
    conv => whnf
    rw [List.drop_eq_nil_of_le hlt] at hr
    exact ⟨intEq hr, rfl⟩

def posB (e : Ent) : Bool := decide (e.cnt > 0)

theorem positive_spec {P : Program} (F : F_aggregate_positive P) (e : Ent) (H : List AObj) :
    ACalls P F.id [.agg (entC e)] H (fun r H' => r = .bool (posB e) ∧ H' = H) := by
  refine ACalls.pure (by simp [AVal.closed, entC, AVal.isPure]) (acalls_of_body F.has ?_)
  conv => whnf
  exact .closed _ rfl

def notInt (e : Ent) : Bool := !((e.row.getD 0 zV).kind == 2)

set_option maxRecDepth 20000 in
theorem Result_1_spec {P : Program} (F : F_aggregate_Result_1 P) (e : Ent) (h1 : e.row.length = 1) (H : List AObj) :
    ACalls P F.id [.agg (entC e)] H (fun r H' => r = .bool (notInt e) ∧ H' = H) := by
  obtain ⟨v, hv, _, _⟩ := get_drop (l := e.row) (k := 0) (by omega)
  have hn : notInt e = !(v.kind == 2) := by rw [notInt, List.getD_eq_getElem?_getD, hv]; rfl
  refine ACalls.pure (by simp [AVal.closed, entC, AVal.isPure]) (acalls_of_body F.has ?_)
  conv => whnf
  refine And.intro (by decide) ?_
  (conv => whnf); refine recO (vC_at hv) ?_
  conv => whnf
  exact pubB hn.symm

theorem ContainsNotInt_spec {P : Program} (F : F_slices_ContainsFunc_LEntry_Entry P) (G : F_aggregate_Result_1 P) (ex : Bool) (l : List Ent) (hl : l.length ≤ 1000000) (h1 : ∀ e ∈ l, e.row.length = 1) (H : List AObj) :
    ACalls P F.id [.list ex 2 (eC l), .fn G.id []] H (fun r H' => r = .bool (l.any notInt) ∧ H' = H) := by
  refine ACalls.pure (by simp [AVal.closed, AVal.isPure]) (acalls_of_body F.has ?_)
  conv => whnf
  refine ACalls.use (IndexFuncE_spec F.slices_IndexFunc_LEntry_Entry G.id [] notInt _ l (fun c hc => Result_1_spec G c (h1 c hc) _) ex hl) ?_
  conv => whnf
  refine pubB ?_
  have h := idxOf_any notInt l 0 (by omega)
  rw [Bool.eq_iff_iff, ← h]; simp

end Go.AW

namespace Go.AW
attribute [local irreducible] ACalls
set_option maxRecDepth 20000 in
theorem CloneE_raw {P : Program} (F : F_slices_Clone_LEntry_Entry P) (ex : Bool) (l : List Ent) (hl : l.length ≤ 1000000) :
    ACalls P F.id [.list ex 2 (eC l)] [] (fun r H' => (r = .nil ∧ l = [] ∧ H' = []) ∨ (r = .sl 0 l.length 0 l.length ∧ H' = [.arr 2 (eC l)])) := by
  refine acalls_of_body F.has ?_
  conv => whnf
  refine And.intro (fun h => ?_) ?_
  · conv => whnf
    exact .inl ⟨rfl, by simpa [eC] using h, rfl⟩
  · conv => whnf
    refine And.intro ⟨roomMul (by simp [eC_length]; omega) (by omega), roomB_le (by simp [eC_length]; omega), .inr rfl⟩ ?_
    conv => whnf
    refine .inr ⟨slEq ?_ ?_, rfl⟩
    · simp [eC_length]
    · simp [eC_length]

end Go.AW

namespace Go.AW
def revK (l : List Ent) (k : Nat) : List Ent := (List.range l.length).map fun i => if i < k ∨ l.length ≤ i + k then l.getD (l.length - 1 - i) ⟨[], 0⟩ else l.getD i ⟨[], 0⟩

theorem revK_length (l : List Ent) (k : Nat) : (revK l k).length = l.length := by simp [revK]

theorem revK_get (l : List Ent) (k i : Nat) (hi : i < l.length) : (revK l k)[i]? = some (if i < k ∨ l.length ≤ i + k then l.getD (l.length - 1 - i) ⟨[], 0⟩ else l.getD i ⟨[], 0⟩) := by
  simp [revK, hi]

theorem revK_set (l : List Ent) (k : Nat) (h : k + 1 < l.length - k) : ((revK l k).set k (l.getD (l.length - 1 - k) ⟨[], 0⟩)).set (l.length - 1 - k) (l.getD k ⟨[], 0⟩) = revK l (k + 1) := by
  refine List.ext_getElem? fun i => ?_
  by_cases hi : i < l.length
  · rw [revK_get l (k + 1) i hi, List.getElem?_set, List.getElem?_set]
    simp only [List.length_set, revK_length]
    by_cases h1 : l.length - 1 - k = i
    · rw [if_pos h1, if_pos (by omega), if_pos (by omega)]
      rw [show l.length - 1 - i = k by omega]
    · rw [if_neg h1]
      by_cases h2 : k = i
      · rw [if_pos h2, if_pos (by omega), if_pos (by omega), h2]
      · rw [if_neg h2, revK_get l k i hi]
        by_cases h3 : i < k ∨ l.length ≤ i + k
        · rw [if_pos h3, if_pos (by omega)]
        · rw [if_neg h3, if_neg (by omega)]
  · rw [List.getElem?_eq_none (by simp [revK_length]; omega), List.getElem?_eq_none (by rw [revK_length]; omega)]

theorem setEs_eC (l : List Ent) (k : Nat) (v : Ent) : setEs (eC l) k (entC v) = eC (l.set k v) := by rw [setEs_eq]; simp [eC]

attribute [local irreducible] ACalls
end Go.AW

namespace Go.AW
attribute [local irreducible] ACalls
theorem Gp.two {n : Nat} {live : List (Nat × AVal)} {ρ : List AVal} {H : List AObj} {I : List AVal → List AObj → Prop} (a b : Nat) (hab : a ≠ b) (s1 s2 : Nat) (e1 e2 : List (List AVal)) (h1 : H[a]? = .some (.arr s1 e1)) (h2 : H[b]? = .some (.arr s2 e2))
    (p1 : pureEs e1 = true) (p2 : pureEs e2 = true) (hl : ρ.length = n) (h : SvPub H [a, b] ρ live) (hI : ∀ ρ1, Sv n live ρ1 → I ρ1 [.arr s1 e1, .arr s2 e2]) : Gp 0 ρ H I :=
  Gp.some (H1 := [.arr s1 e1, .arr s2 e2]) [a, b] (by simp [hab]) ⟨⟨_, h1, .same _ _ p1⟩, ⟨_, h2, .same _ _ p2⟩, trivial⟩ hl h hI

def row0 (e : Ent) : V := e.row.getD 0 zV

def presV (l : List Ent) : List V := (l.filter posB).map row0

def floorV (s c : Int) : Int := if s.tmod c < 0 then w64 (w64 (s.tdiv c) - 1) else w64 (s.tdiv c)

def resE (f : Int) (g : Grp) : Int := if f < 1 ∨ 7 < f then 1 else if grpB g ≠ 0 then grpB g else if (f = 3 ∨ f = 7) ∧ g.vals.any notInt = true then 7 else 0

def resV0 (f : Int) (g : Grp) : V :=
  if f = 1 then numV g.n else if f = 2 then numV (totGo g.vals 0 0).2 else if f = 6 then numV (presV g.vals).length
  else if f = 4 then (presV g.vals).head?.getD zV else if f = 5 then (presV g.vals).getLast?.getD zV
  else if f = 3 then (if g.vals = [] then zV else numV (totGo g.vals 0 0).1)
  else if 0 < (totGo g.vals 0 0).2 then numV (floorV (totGo g.vals 0 0).1 (totGo g.vals 0 0).2) else zV

def resV (f : Int) (g : Grp) : V := if resE f g ≠ 0 then zV else resV0 f g

theorem presV_cons (e : Ent) (l : List Ent) : presV (e :: l) = if posB e then row0 e :: presV l else presV l := by
  unfold presV; rw [List.filter_cons]; split <;> rfl

theorem presV_reverse (l : List Ent) : presV l.reverse = (presV l).reverse := by simp [presV]

theorem idx_pres : ∀ (l : List Ent) (k : Int), (idxOf posB l k = -1 ∧ presV l = []) ∨ ∃ (j : Nat) (e : Ent), idxOf posB l k = k + j ∧ l[j]? = some e ∧ (presV l).head? = some (row0 e)
  | [], k => .inl ⟨rfl, rfl⟩
  | e :: l, k => by
    rw [presV_cons, idxOf]
    by_cases h : posB e = true
    · rw [if_pos h, if_pos h]
      exact .inr ⟨0, e, by omega, rfl, rfl⟩
    · rw [if_neg h, if_neg h]
      rcases idx_pres l (k + 1) with ⟨h1, h2⟩ | ⟨j, x, h1, h2, h3⟩
      · exact .inl ⟨h1, h2⟩
      · exact .inr ⟨j + 1, x, by rw [h1]; omega, h2, h3⟩

theorem revK_reverse (l : List Ent) (k : Nat) (h : l.length ≤ k + k + 1) : revK l k = l.reverse := by
  refine List.ext_getElem? fun i => ?_
  by_cases hi : i < l.length
  · rw [revK_get l k i hi, List.getElem?_reverse hi]
    have e : ∀ j, j < l.length → some (l.getD j ⟨[], 0⟩) = l[j]? := fun j hj => by rw [List.getD_eq_getElem?_getD, List.getElem?_eq_getElem hj]; rfl
    split
    · exact e _ (by omega)
    · rw [e i hi]; congr 1; omega
  · rw [List.getElem?_eq_none (by rw [revK_length]; omega), List.getElem?_eq_none (by rw [List.length_reverse]; omega)]

theorem grp_len {g : Grp} (h : grpB g = 0) : g.vals.length ≤ 4096 ∧ ∀ e ∈ g.vals, e.row.length = 1 := by
  obtain ⟨_, _, hb, hall⟩ := grpB_ok h
  refine ⟨(bagB_ok hb).1, fun e he => Classical.byContradiction fun hn => ?_⟩
  have := List.all_eq_true.1 hall e he
  rw [oneB_len hn] at this; cases this

theorem CloneE_lift {P : Program} (F : F_slices_Clone_LEntry_Entry P) (ex : Bool) (l : List Ent) (hl : l.length ≤ 1000000) (H : List AObj) :
    ACalls P F.id [.list ex 2 (eC l)] H (fun r H' => (r = .nil ∧ l = [] ∧ H' = H) ∨ (r = .sl H.length l.length 0 l.length ∧ H' = H ++ [.arr 2 (eC l)])) := by
  refine (CloneE_raw F ex l hl).lift (by simp [AVal.closed, AVal.isPure]) ?_
  rintro r H1 (⟨rfl, h1, rfl⟩ | ⟨rfl, rfl⟩)
  · exact ⟨[], _, [], .closed _ rfl, List.nodup_nil, rfl, fun k id h => by simp at h, .inl ⟨rfl, h1, by simp⟩⟩
  · refine ⟨[0], _, [.arr 2 (eC l)], .keep 0 _ _ _ 0 rfl, by simp, rfl, fun k id h => ?_, .inr ⟨rfl, rfl⟩⟩
    rcases k with _ | k
    · cases h; exact ⟨rfl, 2, _, rfl, pureEs_eC l⟩
    · simp at h

theorem IndexPos_own {P : Program} (F : F_slices_IndexFunc_LEntry_Entry P) (G : F_aggregate_positive P) (l : List Ent) (hl : l.length ≤ 1000000) (H : List AObj) (id : Nat) (ho : H[id]? = some (.arr 2 (eC l))) :
    ACalls P F.id [.sl id l.length 0 l.length, .fn G.id []] H (fun r H' => r = .int .i64 (idxOf posB l 0) ∧ H' = H) := by
  have h1 := IndexFuncE_spec F G.id [] posB [] l (fun c _ => positive_spec G c _) false hl
  refine ACalls.bor rfl (h1.mono fun r H' h => h.1) (Lents.cons ?_ (Lents.cons (.same _ rfl) Lents.nil))
  have := Lent.sl (H := H) id l.length 0 l.length 2 (eC l) ho (by rw [eC_length]) (pureEs_eC l)
  have e : ((eC l).drop 0).take l.length = eC l := by rw [List.drop_zero, List.take_of_length_le (by rw [eC_length]; exact Nat.le_refl _)]
  rwa [e] at this

set_option maxRecDepth 20000 in
theorem Reverse_at2 {P : Program} (F : F_slices_Reverse_LEntry_Entry P) (a b : AObj) (l : List Ent) (hl : l.length ≤ 100000) :
    ACalls P F.id [.sl 2 l.length 0 l.length] [a, b, .arr 2 (eC l)] (fun r H' => r = .tuple [] ∧ H' = [a, b, .arr 2 (eC l.reverse)]) := by
  refine ACalls.mono (Q := fun r H' => r = .tuple [] ∧ ∃ k, H' = [a, b, .arr 2 (eC (revK l k))] ∧ l.length ≤ k + k + 1) ?_ (by rintro r H' ⟨rfl, k, rfl, hk⟩; rw [revK_reverse l k hk]; exact ⟨rfl, rfl⟩)
  refine acalls_of_body F.has ?_
  have e0 : IntKind.i64.wrap ((l.length : Int) - 1) = (l.length : Int) - 1 := wrapI _ (by omega) (by omega)
  (conv => whnf); refine recT (by rw [eC_length]; exact Nat.beq_refl _) ?_
  conv => whnf
  refine ⟨fun m ρ H => ∃ k : Nat, m = l.length - 2 * k ∧ 2 * k ≤ l.length + 1 ∧ H = [a, b, .arr 2 (eC (revK l k))] ∧
    Sv 28 [(0, .sl 2 l.length 0 l.length), (2, .int .i64 k), (3, .int .i64 ((l.length : Int) - 1 - k))] ρ, l.length, [], ?_, ?_⟩
  · refine ⟨0, by omega, by omega, ?_, Sv.intro rfl ⟨rfl, rfl, intEq (by rw [e0]; omega), trivial⟩⟩
    have : revK l 0 = l := by
      refine List.ext_getElem? fun i => ?_
      by_cases hi : i < l.length
      · rw [revK_get l 0 i hi, if_neg (by omega), List.getD_eq_getElem?_getD, List.getElem?_eq_getElem hi]; rfl
      · rw [List.getElem?_eq_none (by rw [revK_length]; omega), List.getElem?_eq_none (by omega)]
    rw [this]
  rintro m ρ H ⟨k, hm, hk, rfl, d, rfl⟩
  have hlen : (eC (revK l k)).length = l.length := by rw [eC_length, revK_length]
  (conv => whnf); refine recA (fun hlt => ?_) (fun hlt => ?_)
  · replace hlt : decide ((k : Int) < (l.length : Int) - 1 - k) = true := hlt
    simp at hlt
    have hjn : (((l.length : Int) - 1 - k)).toNat = l.length - 1 - k := by omega
    have gi := revK_get l k k (by omega)
    rw [if_neg (by omega)] at gi
    have gj := revK_get l k (l.length - 1 - k) (by omega)
    rw [if_neg (by omega)] at gj
    have hi0 : (eC (revK l k))[0 + (k : Int).toNat]? = some (entC (l.getD k ⟨[], 0⟩)) := by rw [Nat.zero_add, Int.toNat_natCast]; exact eC_at gi
    have hj0 : (eC (revK l k))[0 + ((l.length : Int) - 1 - k).toNat]? = some (entC (l.getD (l.length - 1 - k) ⟨[], 0⟩)) := by rw [Nat.zero_add, hjn]; exact eC_at gj
    (conv => whnf); refine recT (by rw [hlen]; exact Nat.beq_refl _) ?_
    (conv => whnf); refine And.intro ⟨by omega, by omega⟩ ?_
    (conv => whnf); refine recT (by rw [hlen]; exact Nat.beq_refl _) ?_
    (conv => whnf); refine recO hj0 ?_
    (conv => whnf); refine recT (by rw [hlen]; exact Nat.beq_refl _) ?_
    (conv => whnf); refine And.intro ⟨by omega, by omega⟩ ?_
    (conv => whnf); refine recT (by rw [hlen]; exact Nat.beq_refl _) ?_
    (conv => whnf); refine recO hi0 ?_
    (conv => whnf); refine recT (by rw [hlen]; exact Nat.beq_refl _) ?_
    (conv => whnf); refine And.intro ⟨by omega, by omega⟩ ?_
    (conv => whnf); refine recT (by rw [hlen]; exact Nat.beq_refl _) ?_
    (conv => whnf); refine recO hi0 ?_
    have hs1 : ∀ e : List AVal, (setEs (eC (revK l k)) (0 + (k : Int).toNat) e).length = l.length := fun e => by rw [setEs_eq, List.length_set, hlen]
    have hj1 : ∀ e : List AVal, (setEs (eC (revK l k)) (0 + (k : Int).toNat) e)[0 + ((l.length : Int) - 1 - k).toNat]? = some (entC (l.getD (l.length - 1 - k) ⟨[], 0⟩)) := fun e => by
      rw [setEs_eq, List.getElem?_set_ne (by omega), hj0]
    (conv => whnf); refine recT (by rw [hs1]; exact Nat.beq_refl _) ?_
    (conv => whnf); refine And.intro ⟨by omega, by omega⟩ ?_
    (conv => whnf); refine recT (by rw [hs1]; exact Nat.beq_refl _) ?_
    (conv => whnf); refine recO (hj1 _) ?_
    conv => whnf
    have e1 := wrapI ((k : Int) + 1) (by omega) (by omega)
    have e2 := wrapI ((l.length : Int) - 1 - k - 1) (by omega) (by omega)
    refine ⟨l.length - 2 * (k + 1), by omega, Gp.keep rfl ?_ fun ρ1 h => ⟨k + 1, rfl, by omega, ?_, h⟩⟩
    · exact ⟨rfl, intEq e1, intEq (by rw [e2]; omega), trivial⟩
    · rw [← revK_set l k (by omega), ← setEs_eC, ← setEs_eC]
      show [a, b, AObj.arr 2 (setEs (setEs (eC (revK l k)) (0 + (k : Int).toNat) (entC (l.getD (l.length - 1 - k) ⟨[], 0⟩))) (0 + ((l.length : Int) - 1 - k).toNat) (entC (l.getD k ⟨[], 0⟩)))] = _
      rw [Nat.zero_add, Nat.zero_add, Int.toNat_natCast, hjn]
  · replace hlt : decide ((k : Int) < (l.length : Int) - 1 - k) = false := hlt
    simp at hlt
    conv => whnf
    exact ⟨rfl, k, rfl, by omega⟩

theorem Reverse_nil {P : Program} (F : F_slices_Reverse_LEntry_Entry P) (H : List AObj) :
    ACalls P F.id [.nil] H (fun r H' => r = .tuple [] ∧ H' = H) := by
  refine acalls_of_body F.has ?_
  conv => whnf
  refine ⟨fun m ρ H1 => H1 = H ∧ Sv 28 [(0, .nil), (2, .int .i64 0), (3, .int .i64 (-1))] ρ, 0, [], ⟨rfl, Sv.intro rfl ⟨rfl, rfl, rfl, trivial⟩⟩, ?_⟩
  rintro m ρ H1 ⟨rfl, d, rfl⟩
  conv => whnf
  exact ⟨rfl, rfl⟩

set_option maxRecDepth 20000 in
theorem agg_Result_spec {P : Program} (F : F_aggregate_Result P) (f : Int) (g : Grp) (H : List AObj) :
    ACalls P F.id [.int .i64 f, .agg (gV g)] H (fun r H' => r = .tuple [.agg (valC (resV f g)), .int .i64 (resE f g)] ∧ H' = H) := by
  refine ACalls.lift0 (R := fun r => r = .tuple [.agg (valC (resV f g)), .int .i64 (resE f g)]) (by simp [AVal.closed, gV, AVal.isPure]) ?_
  refine ACalls.mono (Q := fun r H1 => r = .tuple [.agg (valC (resV f g)), .int .i64 (resE f g)]) ?_ (fun r H1 h => ⟨_, by rw [h]; exact pub2 (.closed _ rfl) (.closed _ rfl), rfl⟩)
  refine acalls_of_body F.has ?_
  have finE : ∀ (e : Int), resE f g = e → e ≠ 0 → AVal.tuple [.agg (valC zV), .int .i64 e] = .tuple [.agg (valC (resV f g)), .int .i64 (resE f g)] := by
    intro e h1 h2; rw [resV, if_pos (by rw [h1]; exact h2), h1]
  have fin0 : ∀ (v : V), resE f g = 0 → resV0 f g = v → AVal.tuple [.agg (valC v), .int .i64 0] = .tuple [.agg (valC (resV f g)), .int .i64 (resE f g)] := by
    intro v h1 h2; rw [resV, if_neg (by rw [h1]; simp), h1, h2]
  (conv => whnf); refine recA (fun h => ?_) (fun h => ?_)
  · simp at h
    conv => whnf
    exact finE 1 (by rw [resE, if_pos (by omega)]) (by decide)
  simp at h
  (conv => whnf); refine recA (fun h' => ?_) (fun h' => ?_)
  · simp at h'
    conv => whnf
    exact finE 1 (by rw [resE, if_pos (by omega)]) (by decide)
  simp at h'
  (conv => whnf); refine ACalls.use (agg_Validate_spec F.aggregate_Validate g _) ?_
  (conv => whnf); refine recA (fun hv => ?_) (fun hv => ?_)
  · replace hv : (!(grpB g == 0)) = true := hv
    simp at hv
    conv => whnf
    exact finE (grpB g) (by rw [resE, if_neg (by omega), if_pos hv]) hv
  replace hv : (!(grpB g == 0)) = false := hv
  simp at hv
  obtain ⟨hl, h1⟩ := grp_len hv
  have hE : resE f g = if (f = 3 ∨ f = 7) ∧ g.vals.any notInt = true then 7 else 0 := by rw [resE, if_neg (by omega), if_neg (by simp [hv])]
  have hE0 : ¬ (f = 3 ∨ f = 7) → resE f g = 0 := fun hf => by rw [hE, if_neg (fun h => hf h.1)]
  (conv => whnf); refine ACalls.use (totals_spec F.aggregate_totals g.vals (by omega) h1 _) ?_
  (conv => whnf); refine recA (fun f1 => ?_) (fun f1 => ?_)
  · simp at f1
    subst f1
    (conv => whnf); refine ACalls.use (integer_spec F.aggregate_integer g.n _) ?_
    conv => whnf
    exact fin0 (numV g.n) (hE0 (by omega)) rfl
  simp at f1
  (conv => whnf); refine recA (fun f2 => ?_) (fun f2 => ?_)
  · simp at f2
    subst f2
    (conv => whnf); refine ACalls.use (integer_spec F.aggregate_integer _ _) ?_
    conv => whnf
    exact fin0 _ (hE0 (by omega)) rfl
  simp at f2
  (conv => whnf); refine recA (fun f6 => ?_) (fun f6 => ?_)
  · simp at f6
    subst f6
    conv => whnf
    refine ⟨fun m ρ H1 => ∃ k n : Nat, k + m = g.vals.length ∧ n + (presV (g.vals.drop k)).length = (presV g.vals).length ∧ n ≤ k ∧ H1 = [.arr 2 [gV g], .arr 3 [valC zV]] ∧
      Sv 113 [(4, .ptr 1 1 0 0), (10, .int .i64 n), (47, .list false 2 (eC g.vals)), (48, .int .i64 g.vals.length), (49, .int .i64 k)] ρ, g.vals.length, [], ?_, ?_⟩
    · exact ⟨0, 0, by omega, by simp, by omega, rfl, Sv.intro rfl ⟨rfl, rfl, rfl, intEq (by rw [eC_length]), rfl, trivial⟩⟩
    rintro m ρ H1 ⟨k, n, hk, hr, hn, rfl, d, rfl⟩
    (conv => whnf); refine recA (fun hlt => ?_) (fun hlt => ?_)
    · simp at hlt
      obtain ⟨x, hx, hd, _⟩ := get_drop hlt
      rw [hd, presV_cons] at hr
      (conv => whnf); refine And.intro (by omega) ?_
      (conv => whnf); refine recO (eC_at hx) ?_
      (conv => whnf); refine ACalls.use (positive_spec F.aggregate_positive x _) ?_
      (conv => whnf); refine recA (fun hp => ?_) (fun hp => ?_)
      · conv => whnf
        rw [if_pos hp, List.length_cons] at hr
        refine ⟨m - 1, by omega, Gp.two 0 1 (by decide) 2 3 [gV g] [valC zV] rfl rfl (by simp [pureEs, gV, AVal.isPure]) rfl rfl ?_ fun ρ1 h => ⟨k + 1, n + 1, by omega, by omega, by omega, rfl, h⟩⟩
        exact ⟨.keepP 1 1 0 0 1 rfl, pub_int (wrapI ((n : Int) + 1) (by omega) (by omega)), .closed _ rfl, .closed _ rfl, pub_int (wrapI ((k : Int) + 1) (by omega) (by omega)), trivial⟩
      · conv => whnf
        rw [if_neg (by rw [hp]; simp)] at hr
        refine ⟨m - 1, by omega, Gp.two 0 1 (by decide) 2 3 [gV g] [valC zV] rfl rfl (by simp [pureEs, gV, AVal.isPure]) rfl rfl ?_ fun ρ1 h => ⟨k + 1, n, by omega, by omega, by omega, rfl, h⟩⟩
        exact ⟨.keepP 1 1 0 0 1 rfl, .closed _ rfl, .closed _ rfl, .closed _ rfl, pub_int (wrapI ((k : Int) + 1) (by omega) (by omega)), trivial⟩
    · simp at hlt
      rw [List.drop_eq_nil_of_le hlt] at hr
      (conv => whnf); refine ACalls.use (integer_spec F.aggregate_integer _ _) ?_
      conv => whnf
      exact fin0 _ (hE0 (by omega)) (by have : n = (presV g.vals).length := hr; rw [this]; rfl)
  simp at f6
  have vals1 : ∀ {e : Ent}, e ∈ g.vals → e.row[0]? = some (row0 e) := fun {e} he => by
    have := h1 e he
    rw [row0, List.getD_eq_getElem?_getD, List.getElem?_eq_getElem (by omega)]; rfl
  (conv => whnf); refine recA (fun f4 => ?_) (fun f4 => ?_)
  · simp at f4
    subst f4
    (conv => whnf); refine ACalls.mono (CloneE_lift F.slices_Clone_LEntry_Entry false g.vals (by omega) _) ?_
    rintro r H' (⟨rfl, he, rfl⟩ | ⟨rfl, rfl⟩)
    · have hx := IndexFuncE_spec F.slices_IndexFunc_LEntry_Entry F.aggregate_positive.id [] posB [.arr 2 [gV g], .arr 3 [valC zV]] [] (fun c _ => positive_spec F.aggregate_positive c _) false (by simp)
      conv => whnf
      refine ACalls.use (hx.weak (Wks.cons (.nil false 2) (Wks.cons (.refl _) Wks.nil))) ?_
      conv => whnf
      exact fin0 zV (hE0 (by omega)) (by rw [resV0, he]; rfl)
    · rcases idx_pres g.vals 0 with ⟨hi, hp⟩ | ⟨j, e, hi, hj, hh⟩
      · have hx := fun H ho => IndexPos_own F.slices_IndexFunc_LEntry_Entry F.aggregate_positive g.vals (by omega) H 2 ho
        rw [hi] at hx
        (conv => whnf); refine ACalls.use (hx _ rfl) ?_
        conv => whnf
        exact fin0 zV (hE0 (by omega)) (by simp [resV0, hp])
      · have hx := fun H ho => IndexPos_own F.slices_IndexFunc_LEntry_Entry F.aggregate_positive g.vals (by omega) H 2 ho
        rw [hi, Int.zero_add] at hx
        have hjl := (List.getElem?_eq_some_iff.1 hj).1
        have hjn : (eC g.vals)[0 + (j : Int).toNat]? = some (entC e) := by rw [Nat.zero_add, Int.toNat_natCast]; exact eC_at hj
        (conv => whnf); refine ACalls.use (hx _ rfl) ?_
        (conv => whnf); refine recT (by rw [eC_length]; exact Nat.beq_refl _) ?_
        (conv => whnf); refine And.intro (⟨by omega, by omega⟩) ?_
        (conv => whnf); refine recT (by rw [eC_length]; exact Nat.beq_refl _) ?_
        (conv => whnf); refine recO (hjn) ?_
        (conv => whnf); refine And.intro (by decide) ?_
        (conv => whnf); refine recO (vC_at (vals1 (List.mem_of_getElem? hj))) ?_
        conv => whnf
        exact fin0 (row0 e) (hE0 (by omega)) (by simp [resV0, hh])
  simp at f4
  (conv => whnf); refine recA (fun f5 => ?_) (fun f5 => ?_)
  · simp at f5
    subst f5
    (conv => whnf); refine ACalls.mono (CloneE_lift F.slices_Clone_LEntry_Entry false g.vals (by omega) _) ?_
    rintro r H' (⟨rfl, he, rfl⟩ | ⟨rfl, rfl⟩)
    · (conv => whnf); refine ACalls.mono (Reverse_nil F.slices_Reverse_LEntry_Entry _) ?_
      rintro r H' ⟨rfl, rfl⟩
      have hx := IndexFuncE_spec F.slices_IndexFunc_LEntry_Entry F.aggregate_positive.id [] posB [.arr 2 [gV g], .arr 3 [valC zV]] [] (fun c _ => positive_spec F.aggregate_positive c _) false (by simp)
      conv => whnf
      refine ACalls.use (hx.weak (Wks.cons (.nil false 2) (Wks.cons (.refl _) Wks.nil))) ?_
      conv => whnf
      exact fin0 zV (hE0 (by omega)) (by rw [resV0, he]; rfl)
    · (conv => whnf); refine ACalls.mono (Reverse_at2 F.slices_Reverse_LEntry_Entry _ _ g.vals (by omega)) ?_
      rintro r H' ⟨rfl, rfl⟩
      have ep : (presV g.vals).getLast? = (presV g.vals.reverse).head? := by rw [presV_reverse, List.head?_reverse]
      have hx := fun H ho => IndexPos_own F.slices_IndexFunc_LEntry_Entry F.aggregate_positive g.vals.reverse (by simp; omega) H 2 ho
      rw [List.length_reverse] at hx
      rcases idx_pres g.vals.reverse 0 with ⟨hi, hp⟩ | ⟨j, e, hi, hj, hh⟩
      · rw [hi] at hx
        (conv => whnf); refine ACalls.use (hx _ rfl) ?_
        conv => whnf
        exact fin0 zV (hE0 (by omega)) (by simp [resV0, ep, hp])
      · rw [hi, Int.zero_add] at hx
        have hjl := (List.getElem?_eq_some_iff.1 hj).1
        rw [List.length_reverse] at hjl
        have hjn : (eC g.vals.reverse)[0 + (j : Int).toNat]? = some (entC e) := by rw [Nat.zero_add, Int.toNat_natCast]; exact eC_at hj
        (conv => whnf); refine ACalls.use (hx _ rfl) ?_
        (conv => whnf); refine recT (by rw [eC_length, List.length_reverse]; exact Nat.beq_refl _) ?_
        (conv => whnf); refine And.intro (⟨by omega, by omega⟩) ?_
        (conv => whnf); refine recT (by rw [eC_length, List.length_reverse]; exact Nat.beq_refl _) ?_
        (conv => whnf); refine recO (hjn) ?_
        (conv => whnf); refine And.intro (by decide) ?_
        (conv => whnf); refine recO (vC_at (vals1 (List.mem_reverse.1 (List.mem_of_getElem? hj)))) ?_
        conv => whnf
        exact fin0 (row0 e) (hE0 (by omega)) (by simp [resV0, ep, hh])
  simp at f5
  (conv => whnf); refine ACalls.use (ContainsNotInt_spec F.slices_ContainsFunc_LEntry_Entry F.aggregate_Result_1 false g.vals (by omega) h1 _) ?_
  (conv => whnf); refine recA (fun hq => ?_) (fun hq => ?_)
  · conv => whnf
    exact finE 7 (by rw [hE, if_pos ⟨by omega, hq⟩]) (by decide)
  have hEz : resE f g = 0 := by rw [hE, if_neg (by rw [hq]; simp)]
  (conv => whnf); refine recA (fun f3 => ?_) (fun f3 => ?_)
  · simp at f3
    subst f3
    (conv => whnf); refine recA (fun hn => ?_) (fun hn => ?_)
    · simp at hn
      (conv => whnf); refine ACalls.use (integer_spec F.aggregate_integer _ _) ?_
      conv => whnf
      refine fin0 _ hEz ?_
      have : g.vals ≠ [] := by intro h; rw [h] at hn; simp [eC] at hn
      simp [resV0, this]
    · simp at hn
      conv => whnf
      refine fin0 zV hEz ?_
      have : g.vals = [] := by simpa [eC] using hn
      simp [resV0, this]
  simp at f3
  have f7 : f = 7 := by omega
  subst f7
  (conv => whnf); refine recA (fun hc => ?_) (fun hc => ?_)
  · simp at hc
    (conv => whnf); refine And.intro (by omega) ?_
    (conv => whnf); refine And.intro (by omega) ?_
    (conv => whnf); refine recA (fun hm => ?_) (fun hm => ?_)
    · simp at hm
      (conv => whnf); refine ACalls.use (integer_spec F.aggregate_integer _ _) ?_
      conv => whnf
      refine fin0 _ hEz ?_
      rw [(show resV0 7 g = (if 0 < (totGo g.vals 0 0).2 then numV (floorV (totGo g.vals 0 0).1 (totGo g.vals 0 0).2) else zV) from rfl), if_pos hc, floorV, if_pos hm]; rfl
    · simp at hm
      (conv => whnf); refine ACalls.use (integer_spec F.aggregate_integer _ _) ?_
      conv => whnf
      refine fin0 _ hEz ?_
      rw [(show resV0 7 g = (if 0 < (totGo g.vals 0 0).2 then numV (floorV (totGo g.vals 0 0).1 (totGo g.vals 0 0).2) else zV) from rfl), if_pos hc, floorV, if_neg (by omega)]; rfl
  · simp at hc
    conv => whnf
    refine fin0 zV hEz ?_
    rw [(show resV0 7 g = (if 0 < (totGo g.vals 0 0).2 then numV (floorV (totGo g.vals 0 0).1 (totGo g.vals 0 0).2) else zV) from rfl), if_neg (by omega)]

end Go.AW

namespace Go.AW
attribute [local irreducible] ACalls
theorem Floor_spec {P : Program} (F : F_warehouseref2_Floor P) (a b : Int) (hb : b ≠ 0) (H : List AObj) :
    ACalls P F.id [.int .i64 a, .int .i64 b] H (fun r H' => r = .int .i64 (floorV a b) ∧ H' = H) := by
  refine ACalls.pure rfl (acalls_of_body F.has ?_)
  (conv => whnf); refine And.intro (hb) ?_
  (conv => whnf); refine And.intro (hb) ?_
  (conv => whnf); refine recA (fun h => ?_) (fun h => ?_)
  · simp at h
    conv => whnf
    exact pubI (by rw [floorV, if_pos h]; rfl)
  · simp at h
    conv => whnf
    exact pubI (by rw [floorV, if_neg (by omega)]; rfl)

set_option maxRecDepth 20000 in
theorem ref17_Result_spec {P : Program} (F : F_warehouseref17_Result P) (f : Int) (g : Grp) (H : List AObj) :
    ACalls P F.id [.int .i64 f, .agg (gV g)] H (fun r H' => r = .tuple [.agg (valC (resV f g)), .int .i64 (resE f g)] ∧ H' = H) := by
  refine ACalls.lift0 (R := fun r => r = .tuple [.agg (valC (resV f g)), .int .i64 (resE f g)]) (by simp [AVal.closed, gV, AVal.isPure]) ?_
  refine ACalls.mono (Q := fun r H1 => r = .tuple [.agg (valC (resV f g)), .int .i64 (resE f g)]) ?_ (fun r H1 h => ⟨_, by rw [h]; exact pub2 (.closed _ rfl) (.closed _ rfl), rfl⟩)
  refine acalls_of_body F.has ?_
  have finE : ∀ (e : Int), resE f g = e → e ≠ 0 → AVal.tuple [.agg (valC zV), .int .i64 e] = .tuple [.agg (valC (resV f g)), .int .i64 (resE f g)] := by
    intro e h1 h2; rw [resV, if_pos (by rw [h1]; exact h2), h1]
  have fin0 : ∀ (v : V), resE f g = 0 → resV0 f g = v → AVal.tuple [.agg (valC v), .int .i64 0] = .tuple [.agg (valC (resV f g)), .int .i64 (resE f g)] := by
    intro v h1 h2; rw [resV, if_neg (by rw [h1]; simp), h1, h2]
  (conv => whnf); refine recA (fun h => ?_) (fun h => ?_)
  · simp at h
    conv => whnf
    exact finE 1 (by rw [resE, if_pos (by omega)]) (by decide)
  simp at h
  (conv => whnf); refine recA (fun h' => ?_) (fun h' => ?_)
  · simp at h'
    conv => whnf
    exact finE 1 (by rw [resE, if_pos (by omega)]) (by decide)
  simp at h'
  (conv => whnf); refine ACalls.use (ref17_Validate_spec F.warehouseref17_Validate g _) ?_
  (conv => whnf); refine recA (fun hv => ?_) (fun hv => ?_)
  · replace hv : (!(grpB g == 0)) = true := hv
    simp at hv
    conv => whnf
    exact finE (grpB g) (by rw [resE, if_neg (by omega), if_pos hv]) hv
  replace hv : (!(grpB g == 0)) = false := hv
  simp at hv
  obtain ⟨hl, h1⟩ := grp_len hv
  have hE : resE f g = if (f = 3 ∨ f = 7) ∧ g.vals.any notInt = true then 7 else 0 := by rw [resE, if_neg (by omega), if_neg (by simp [hv])]
  have vals1 : ∀ {e : Ent}, e ∈ g.vals → e.row[0]? = some (row0 e) := fun {e} he => by
    have := h1 e he
    rw [row0, List.getD_eq_getElem?_getD, List.getElem?_eq_getElem (by omega)]; rfl
  have hpres : (presV g.vals).length ≤ g.vals.length := by rw [presV, List.length_map]; exact List.length_filter_le _ _
  conv => whnf
  refine ⟨fun m ρ H1 => ∃ (k : Nat) (pre : List V), k + m = g.vals.length ∧ pre ++ presV (g.vals.drop k) = presV g.vals ∧ pre.length ≤ 5000 ∧
    ((f = 3 ∨ f = 7) → (g.vals.drop k).any notInt = g.vals.any notInt) ∧ H1 = [.arr 2 [gV g], .arr 3 [valC zV], .arr 3 (vC pre)] ∧
    Sv 123 [(0, .int .i64 f), (3, .ptr 0 1 0 0), (4, .ptr 1 1 0 0), (7, .sl 2 pre.length 0 pre.length), (8, .int .i64 k)] ρ, g.vals.length, [(7, 3)], ?_, ?_⟩
  · exact ⟨0, [], by omega, rfl, by decide, fun _ => rfl, rfl, Sv.intro rfl ⟨rfl, rfl, rfl, rfl, rfl, trivial⟩⟩
  rintro m ρ H1 ⟨k, pre, hk, hr, hpl, hty, rfl, d, rfl⟩
  (conv => whnf); refine recA (fun hlt => ?_) (fun hlt => ?_)
  · simp [eC_length] at hlt
    obtain ⟨x, hx, hd, hxm⟩ := get_drop hlt
    have hv := vals1 hxm
    rw [hd] at hr
    (conv => whnf); refine recA (fun h3 => ?_) (fun h3 => ?_)
    · simp at h3
      (conv => whnf); refine And.intro (by omega) ?_
      (conv => whnf); refine recO (eC_at hx) ?_
      (conv => whnf); refine And.intro (by decide) ?_
      (conv => whnf); refine recO (vC_at hv) ?_
      (conv => whnf); refine recA (fun hq => ?_) (fun hq => ?_)
      · replace hq : (!((row0 x).kind == 2)) = true := hq
        simp at hq
        have hn : notInt x = true := by rw [notInt]; simpa [row0] using hq
        conv => whnf
        exact finE 7 (by rw [hE, if_pos ⟨by omega, by rw [← hty (by omega), hd, List.any_cons, hn]; rfl⟩]) (by decide)
      replace hq : (!((row0 x).kind == 2)) = false := hq
      simp at hq
      have hn : notInt x = false := by rw [notInt]; simpa [row0] using hq
      have hty' := fun h => by have := hty h; rw [hd, List.any_cons, hn, Bool.false_or] at this; exact this
      (conv => whnf); refine And.intro (by omega) ?_
      (conv => whnf); refine recO (eC_at hx) ?_
      (conv => whnf); refine recA (fun hp => ?_) (fun hp => ?_)
      · simp at hp
        have hpos : posB x = true := by simp [posB]; exact hp
        rw [presV_cons, if_pos hpos] at hr
        (conv => whnf); refine And.intro (by omega) ?_
        (conv => whnf); refine recO (eC_at hx) ?_
        (conv => whnf); refine And.intro (by decide) ?_
        (conv => whnf); refine recO (vC_at hv) ?_
        (conv => whnf); refine recT (by rw [vC_length]; exact Nat.beq_refl _) ?_
        have hl' : pre.length ≤ 5000 := hpl
        (conv => whnf); refine And.intro (⟨roomMul (by simp; omega) (by omega), roomB_le (by simp; omega), rfl, by rw [vC_length]⟩) ?_
        conv => whnf
        refine ⟨m - 1, by omega, Gp.keep rfl ?_ fun ρ1 h => ⟨k + 1, pre ++ [row0 x], by omega, by rw [← hr]; simp, by have := congrArg List.length hr; simp at this; simp; omega, hty', by rw [vC_append]; rfl, h⟩⟩
        exact ⟨rfl, rfl, rfl, slEq (by simp [vC_length]) (by simp [vC_length]), intEq (wrapI ((k : Int) + 1) (by omega) (by omega)), trivial⟩
      · simp at hp
        have hpos : ¬ posB x = true := by simp [posB]; exact hp
        rw [presV_cons, if_neg hpos] at hr
        conv => whnf
        refine ⟨m - 1, by omega, Gp.keep rfl ?_ fun ρ1 h => ⟨k + 1, pre, by omega, hr, hpl, hty', rfl, h⟩⟩
        exact ⟨rfl, rfl, rfl, rfl, intEq (wrapI ((k : Int) + 1) (by omega) (by omega)), trivial⟩
    simp at h3
    (conv => whnf); refine recA (fun h7 => ?_) (fun h7 => ?_)
    · simp at h7
      (conv => whnf); refine And.intro (by omega) ?_
      (conv => whnf); refine recO (eC_at hx) ?_
      (conv => whnf); refine And.intro (by decide) ?_
      (conv => whnf); refine recO (vC_at hv) ?_
      (conv => whnf); refine recA (fun hq => ?_) (fun hq => ?_)
      · replace hq : (!((row0 x).kind == 2)) = true := hq
        simp at hq
        have hn : notInt x = true := by rw [notInt]; simpa [row0] using hq
        conv => whnf
        exact finE 7 (by rw [hE, if_pos ⟨by omega, by rw [← hty (by omega), hd, List.any_cons, hn]; rfl⟩]) (by decide)
      replace hq : (!((row0 x).kind == 2)) = false := hq
      simp at hq
      have hn : notInt x = false := by rw [notInt]; simpa [row0] using hq
      have hty' := fun h => by have := hty h; rw [hd, List.any_cons, hn, Bool.false_or] at this; exact this
      (conv => whnf); refine And.intro (by omega) ?_
      (conv => whnf); refine recO (eC_at hx) ?_
      (conv => whnf); refine recA (fun hp => ?_) (fun hp => ?_)
      · simp at hp
        have hpos : posB x = true := by simp [posB]; exact hp
        rw [presV_cons, if_pos hpos] at hr
        (conv => whnf); refine And.intro (by omega) ?_
        (conv => whnf); refine recO (eC_at hx) ?_
        (conv => whnf); refine And.intro (by decide) ?_
        (conv => whnf); refine recO (vC_at hv) ?_
        (conv => whnf); refine recT (by rw [vC_length]; exact Nat.beq_refl _) ?_
        have hl' : pre.length ≤ 5000 := hpl
        (conv => whnf); refine And.intro (⟨roomMul (by simp; omega) (by omega), roomB_le (by simp; omega), rfl, by rw [vC_length]⟩) ?_
        conv => whnf
        refine ⟨m - 1, by omega, Gp.keep rfl ?_ fun ρ1 h => ⟨k + 1, pre ++ [row0 x], by omega, by rw [← hr]; simp, by have := congrArg List.length hr; simp at this; simp; omega, hty', by rw [vC_append]; rfl, h⟩⟩
        exact ⟨rfl, rfl, rfl, slEq (by simp [vC_length]) (by simp [vC_length]), intEq (wrapI ((k : Int) + 1) (by omega) (by omega)), trivial⟩
      · simp at hp
        have hpos : ¬ posB x = true := by simp [posB]; exact hp
        rw [presV_cons, if_neg hpos] at hr
        conv => whnf
        refine ⟨m - 1, by omega, Gp.keep rfl ?_ fun ρ1 h => ⟨k + 1, pre, by omega, hr, hpl, hty', rfl, h⟩⟩
        exact ⟨rfl, rfl, rfl, rfl, intEq (wrapI ((k : Int) + 1) (by omega) (by omega)), trivial⟩
    simp at h7
    have hty' : (f = 3 ∨ f = 7) → (g.vals.drop (k + 1)).any notInt = g.vals.any notInt := fun h => by omega
    (conv => whnf); refine And.intro (by omega) ?_
    (conv => whnf); refine recO (eC_at hx) ?_
    (conv => whnf); refine recA (fun hp => ?_) (fun hp => ?_)
    · simp at hp
      have hpos : posB x = true := by simp [posB]; exact hp
      rw [presV_cons, if_pos hpos] at hr
      (conv => whnf); refine And.intro (by omega) ?_
      (conv => whnf); refine recO (eC_at hx) ?_
      (conv => whnf); refine And.intro (by decide) ?_
      (conv => whnf); refine recO (vC_at hv) ?_
      (conv => whnf); refine recT (by rw [vC_length]; exact Nat.beq_refl _) ?_
      have hl' : pre.length ≤ 5000 := hpl
      (conv => whnf); refine And.intro (⟨roomMul (by simp; omega) (by omega), roomB_le (by simp; omega), rfl, by rw [vC_length]⟩) ?_
      conv => whnf
      refine ⟨m - 1, by omega, Gp.keep rfl ?_ fun ρ1 h => ⟨k + 1, pre ++ [row0 x], by omega, by rw [← hr]; simp, by have := congrArg List.length hr; simp at this; simp; omega, hty', by rw [vC_append]; rfl, h⟩⟩
      exact ⟨rfl, rfl, rfl, slEq (by simp [vC_length]) (by simp [vC_length]), intEq (wrapI ((k : Int) + 1) (by omega) (by omega)), trivial⟩
    · simp at hp
      have hpos : ¬ posB x = true := by simp [posB]; exact hp
      rw [presV_cons, if_neg hpos] at hr
      conv => whnf
      refine ⟨m - 1, by omega, Gp.keep rfl ?_ fun ρ1 h => ⟨k + 1, pre, by omega, hr, hpl, hty', rfl, h⟩⟩
      exact ⟨rfl, rfl, rfl, rfl, intEq (wrapI ((k : Int) + 1) (by omega) (by omega)), trivial⟩
  simp [eC_length] at hlt
  rw [List.drop_eq_nil_of_le hlt] at hr
  have hr : pre = presV g.vals := by rw [← hr]; simp [presV]
  have hEz : resE f g = 0 := by
    rw [hE]
    by_cases hf : f = 3 ∨ f = 7
    · have := hty hf
      rw [List.drop_eq_nil_of_le hlt] at this
      rw [← this]; simp
    · rw [if_neg (fun h => hf h.1)]
  (conv => whnf); refine ACalls.use (ref17_total_spec F.warehouseref17_total g g.vals rfl (by omega) h1 _) ?_
  (conv => whnf); refine recA (fun f1 => ?_) (fun f1 => ?_)
  · simp at f1
    subst f1
    (conv => whnf); refine ACalls.use (ref17_number_spec F.warehouseref17_number _ _) ?_
    conv => whnf
    exact fin0 (numV g.n) hEz rfl
  simp at f1
  (conv => whnf); refine recA (fun f2 => ?_) (fun f2 => ?_)
  · simp at f2
    subst f2
    (conv => whnf); refine ACalls.use (ref17_number_spec F.warehouseref17_number _ _) ?_
    conv => whnf
    exact fin0 _ hEz rfl
  simp at f2
  (conv => whnf); refine recA (fun f6 => ?_) (fun f6 => ?_)
  · simp at f6
    subst f6
    (conv => whnf); refine recT (by rw [vC_length]; exact Nat.beq_refl _) ?_
    (conv => whnf); refine ACalls.use (ref17_number_spec F.warehouseref17_number _ _) ?_
    conv => whnf
    exact fin0 _ hEz (by rw [hr]; rfl)
  simp at f6
  (conv => whnf); refine recA (fun f3 => ?_) (fun f3 => ?_)
  · simp at f3
    subst f3
    (conv => whnf); refine recA (fun hn => ?_) (fun hn => ?_)
    · simp at hn
      conv => whnf
      refine fin0 zV hEz ?_
      have : g.vals = [] := by simpa [eC] using hn
      simp [resV0, this]
    · simp at hn
      (conv => whnf); refine ACalls.use (ref17_number_spec F.warehouseref17_number _ _) ?_
      conv => whnf
      refine fin0 _ hEz ?_
      have : g.vals ≠ [] := by intro h; rw [h] at hn; simp [eC] at hn
      simp [resV0, this]
  simp at f3
  (conv => whnf); refine recA (fun f7 => ?_) (fun f7 => ?_)
  · simp at f7
    subst f7
    (conv => whnf); refine recA (fun hc => ?_) (fun hc => ?_)
    · simp at hc
      conv => whnf
      refine fin0 zV hEz ?_
      rw [(show resV0 7 g = (if 0 < (totGo g.vals 0 0).2 then numV (floorV (totGo g.vals 0 0).1 (totGo g.vals 0 0).2) else zV) from rfl), if_neg (by omega)]
    · simp at hc
      (conv => whnf); refine ACalls.use (Floor_spec F.warehouseref2_Floor _ _ (by omega) _) ?_
      (conv => whnf); refine ACalls.use (ref17_number_spec F.warehouseref17_number _ _) ?_
      conv => whnf
      refine fin0 _ hEz ?_
      rw [(show resV0 7 g = (if 0 < (totGo g.vals 0 0).2 then numV (floorV (totGo g.vals 0 0).1 (totGo g.vals 0 0).2) else zV) from rfl), if_pos (by omega)]
  simp at f7
  have f45 : f = 4 ∨ f = 5 := by omega
  (conv => whnf); refine recT (by rw [vC_length]; exact Nat.beq_refl _) ?_
  (conv => whnf); refine recA (fun hz => ?_) (fun hz => ?_)
  · simp at hz
    have he : presV g.vals = [] := by rw [← hr]; exact hz
    conv => whnf
    refine fin0 zV hEz ?_
    rcases f45 with rfl | rfl <;> simp [resV0, he]
  simp at hz
  have hne : pre.length ≠ 0 := by simpa using hz
  (conv => whnf); refine recA (fun f4 => ?_) (fun f4 => ?_)
  · simp at f4
    subst f4
    (conv => whnf); refine recT (by rw [vC_length]; exact Nat.beq_refl _) ?_
    obtain ⟨v, hv, _, _⟩ := get_drop (l := pre) (k := 0) (by omega)
    (conv => whnf); refine And.intro (⟨by decide, by omega⟩) ?_
    (conv => whnf); refine recT (by rw [vC_length]; exact Nat.beq_refl _) ?_
    (conv => whnf); refine recO (vC_at hv) ?_
    conv => whnf
    refine fin0 v hEz ?_
    have : (presV g.vals).head? = some v := by rw [← hr, List.head?_eq_getElem?]; exact hv
    simp [resV0, this]
  simp at f4
  have f5 : f = 5 := by omega
  subst f5
  obtain ⟨v, hv, _, _⟩ := get_drop (l := pre) (k := pre.length - 1) (by omega)
  have e1 : IntKind.i64.wrap ((pre.length : Int) - 1) = (pre.length : Int) - 1 := wrapI _ (by omega) (by omega)
  have hv' : (vC pre)[0 + (IntKind.i64.wrap ((pre.length : Int) - 1)).toNat]? = some (valC v) := by
    rw [e1, Nat.zero_add, show ((pre.length : Int) - 1).toNat = pre.length - 1 by omega]; exact vC_at hv
  (conv => whnf); refine recT (by rw [vC_length]; exact Nat.beq_refl _) ?_
  (conv => whnf); refine recT (by rw [vC_length]; exact Nat.beq_refl _) ?_
  (conv => whnf); refine And.intro (by rw [e1]; omega) ?_
  (conv => whnf); refine recT (by rw [vC_length]; exact Nat.beq_refl _) ?_
  (conv => whnf); refine recO (hv') ?_
  conv => whnf
  refine fin0 v hEz ?_
  have : (presV g.vals).getLast? = some v := by rw [← hr, List.getLast?_eq_getElem?]; exact hv
  simp [resV0, this]

end Go.AW

namespace Go.AW
theorem rowsCmp_vals : ∀ (a b : List V), rowsCmp a b = -1 ∨ rowsCmp a b = 0 ∨ rowsCmp a b = 1
  | [], [] => .inr (.inl rfl)
  | [], _ :: _ => .inl rfl
  | _ :: _, [] => .inr (.inr rfl)
  | x :: xs, y :: ys => by
    rw [rowsCmp]
    split
    · exact rowsCmp_vals xs ys
    · exact isCmp_val.vals x y

theorem rowsCmp_anti : ∀ (a b : List V), rowsCmp b a = - rowsCmp a b
  | [], [] => rfl
  | [], _ :: _ => rfl
  | _ :: _, [] => rfl
  | x :: xs, y :: ys => by
    rw [rowsCmp, rowsCmp, isCmp_val.anti x y]
    by_cases h : valCmp x y = 0
    · rw [if_pos h, if_pos (by omega), rowsCmp_anti xs ys]
    · rw [if_neg h, if_neg (by omega)]

theorem rowsCmp_trans : ∀ (a b d : List V), rowsCmp a b < 0 → rowsCmp b d < 0 → rowsCmp a d < 0
  | [], _, [], _, h2 => by
    rename_i b _
    cases b with
    | nil => exact h2
    | cons y ys => rw [rowsCmp] at h2; omega
  | [], _, _ :: _, _, _ => by rw [rowsCmp]; omega
  | x :: xs, [], _, h1, _ => by rw [rowsCmp] at h1; omega
  | x :: xs, y :: ys, [], _, h2 => by rw [rowsCmp] at h2; omega
  | x :: xs, y :: ys, z :: zs, h1, h2 => by
    rw [rowsCmp] at h1 h2 ⊢
    by_cases e1 : valCmp x y = 0
    · rw [if_pos e1] at h1
      have hxy := (isCmp_val.zero x y).1 e1
      subst hxy
      by_cases e2 : valCmp x z = 0
      · rw [if_pos e2] at h2 ⊢; exact rowsCmp_trans xs ys zs h1 h2
      · rw [if_neg e2] at h2 ⊢; exact h2
    · rw [if_neg e1] at h1
      by_cases e2 : valCmp y z = 0
      · have hyz := (isCmp_val.zero y z).1 e2
        subst hyz
        rw [if_neg e1]; exact h1
      · rw [if_neg e2] at h2
        have := isCmp_val.trans x y z h1 h2
        rw [if_neg (by omega)]; exact this

def cntL : List Ent → List V → Int
  | [], _ => 0
  | e :: l, r => (if rowsCmp e.row r = 0 then e.cnt else 0) + cntL l r

def Srt (l : List Ent) : Prop := l.Pairwise fun x y => rowsCmp x.row y.row < 0

theorem cntL_zero : ∀ (l : List Ent) (r : List V), (∀ e ∈ l, rowsCmp e.row r ≠ 0) → cntL l r = 0
  | [], _, _ => rfl
  | e :: l, r, h => by rw [cntL, if_neg (h e (List.mem_cons_self ..)), cntL_zero l r fun e he => h e (List.mem_cons_of_mem _ he)]; rfl

theorem cntL_above {l : List Ent} {r : List V} (h : ∀ e ∈ l, rowsCmp r e.row < 0) : cntL l r = 0 :=
  cntL_zero l r fun e he hz => by have := h e he; rw [rowsCmp_anti] at this; omega

theorem cntL_head {x : Ent} {l : List Ent} (h : Srt (x :: l)) : cntL (x :: l) x.row = x.cnt := by
  rw [cntL, if_pos ((rowsCmp_zero _ _).2 rfl), cntL_above (List.pairwise_cons.1 h).1]; omega

theorem cntL_mem : ∀ {l : List Ent} {e : Ent}, Srt l → e ∈ l → cntL l e.row = e.cnt
  | x :: l, e, hs, he => by
    rcases List.mem_cons.1 he with rfl | he
    · exact cntL_head hs
    · have h1 := (List.pairwise_cons.1 hs).1 e he
      rw [cntL, if_neg (by omega), cntL_mem (List.pairwise_cons.1 hs).2 he]; omega

theorem bag_ext : ∀ (a b : List Ent), Srt a → Srt b → (∀ e ∈ a, e.cnt ≠ 0) → (∀ e ∈ b, e.cnt ≠ 0) → (∀ r, cntL a r = cntL b r) → a = b
  | [], [], _, _, _, _, _ => rfl
  | [], y :: b, _, hb, _, nb, h => by
    have := h y.row
    rw [cntL_head hb] at this
    exact absurd this.symm (nb y (List.mem_cons_self ..))
  | x :: a, [], ha, _, na, _, h => by
    have := h x.row
    rw [cntL_head ha] at this
    exact absurd this (na x (List.mem_cons_self ..))
  | x :: a, y :: b, ha, hb, na, nb, h => by
    have ax := (List.pairwise_cons.1 ha).1
    have bx := (List.pairwise_cons.1 hb).1
    rcases rowsCmp_vals x.row y.row with hc | hc | hc
    · have h1 := h x.row
      rw [cntL_head ha, cntL_above (l := y :: b) (fun e he => by
        rcases List.mem_cons.1 he with rfl | he
        · omega
        · exact rowsCmp_trans _ _ _ (by omega) (bx e he))] at h1
      exact absurd h1 (na x (List.mem_cons_self ..))
    · have hr := (rowsCmp_zero _ _).1 hc
      have hcnt : x.cnt = y.cnt := by
        have h1 := h x.row
        rw [cntL_head ha] at h1
        rw [h1, hr, cntL_head hb]
      have hxy : x = y := by cases x; cases y; simp only at hr hcnt; subst hr hcnt; rfl
      subst hxy
      have := bag_ext a b (List.pairwise_cons.1 ha).2 (List.pairwise_cons.1 hb).2 (fun e he => na e (List.mem_cons_of_mem _ he)) (fun e he => nb e (List.mem_cons_of_mem _ he))
        (fun r => by have h1 := h r; rw [cntL, cntL] at h1; omega)
      rw [this]
    · have hc' : rowsCmp y.row x.row < 0 := by rw [rowsCmp_anti]; omega
      have h1 := h y.row
      rw [cntL_head hb, cntL_above (l := x :: a) (fun e he => by
        rcases List.mem_cons.1 he with rfl | he
        · omega
        · exact rowsCmp_trans _ _ _ hc' (ax e he))] at h1
      exact absurd h1.symm (nb y (List.mem_cons_self ..))

theorem mem_mrg : ∀ (a b : List Ent) (e : Ent), e ∈ mrg a b → (∃ x ∈ a, x.row = e.row) ∨ ∃ y ∈ b, y.row = e.row
  | [], b, e, h => by rw [mrg_nil] at h; exact .inr ⟨e, h, rfl⟩
  | x :: a, [], e, h => by rw [mrg_nil2] at h; exact .inl ⟨e, h, rfl⟩
  | x :: a, y :: b, e, h => by
    rw [mrg_cons] at h
    have la : ∀ {e : Ent}, (∃ x ∈ a, x.row = e.row) → ∃ z ∈ x :: a, z.row = e.row := fun ⟨z, h1, h2⟩ => ⟨z, List.mem_cons_of_mem _ h1, h2⟩
    have lb : ∀ {e : Ent}, (∃ x ∈ b, x.row = e.row) → ∃ z ∈ y :: b, z.row = e.row := fun ⟨z, h1, h2⟩ => ⟨z, List.mem_cons_of_mem _ h1, h2⟩
    split at h
    · rcases List.mem_cons.1 h with rfl | h
      · exact .inl ⟨e, List.mem_cons_self .., rfl⟩
      · exact (mem_mrg a (y :: b) e h).imp la id
    split at h
    · rcases List.mem_cons.1 h with rfl | h
      · exact .inr ⟨e, List.mem_cons_self .., rfl⟩
      · exact (mem_mrg (x :: a) b e h).imp id lb
    · rcases List.mem_cons.1 h with rfl | h
      · exact .inl ⟨x, List.mem_cons_self .., rfl⟩
      · exact (mem_mrg a b e h).imp la lb
termination_by a b => a.length + b.length

theorem srt_mrg : ∀ (a b : List Ent), Srt a → Srt b → Srt (mrg a b)
  | [], b, _, hb => by rw [mrg_nil]; exact hb
  | x :: a, [], ha, _ => by rw [mrg_nil2]; exact ha
  | x :: a, y :: b, ha, hb => by
    have ax := (List.pairwise_cons.1 ha).1
    have bx := (List.pairwise_cons.1 hb).1
    have ha' := (List.pairwise_cons.1 ha).2
    have hb' := (List.pairwise_cons.1 hb).2
    rw [mrg_cons]
    split
    · rename_i hc
      refine List.pairwise_cons.2 ⟨fun e he => ?_, srt_mrg a (y :: b) ha' hb⟩
      rcases mem_mrg a (y :: b) e he with ⟨z, hz, hzr⟩ | ⟨z, hz, hzr⟩
      · rw [← hzr]; exact ax z hz
      · rw [← hzr]
        rcases List.mem_cons.1 hz with rfl | hz
        · exact hc
        · exact rowsCmp_trans _ _ _ hc (bx z hz)
    split
    · rename_i hc0 hc
      have hc' : rowsCmp y.row x.row < 0 := by rw [rowsCmp_anti]; omega
      refine List.pairwise_cons.2 ⟨fun e he => ?_, srt_mrg (x :: a) b ha hb'⟩
      rcases mem_mrg (x :: a) b e he with ⟨z, hz, hzr⟩ | ⟨z, hz, hzr⟩
      · rw [← hzr]
        rcases List.mem_cons.1 hz with rfl | hz
        · exact hc'
        · exact rowsCmp_trans _ _ _ hc' (ax z hz)
      · rw [← hzr]; exact bx z hz
    · have hr : x.row = y.row := (rowsCmp_zero _ _).1 (by have := rowsCmp_vals x.row y.row; omega)
      refine List.pairwise_cons.2 ⟨fun e he => ?_, srt_mrg a b ha' hb'⟩
      rcases mem_mrg a b e he with ⟨z, hz, hzr⟩ | ⟨z, hz, hzr⟩
      · rw [← hzr]; exact ax z hz
      · rw [← hzr]; show rowsCmp x.row z.row < 0; rw [hr]; exact bx z hz
termination_by a b => a.length + b.length

theorem srt_filter {l : List Ent} (p : Ent → Bool) (h : Srt l) : Srt (l.filter p) := List.Pairwise.filter p h

theorem fitB_iff (e : Ent) : fitB e = 0 ↔ e.row.length ≤ 12 ∧ smallB e.cnt = true ∧ e.row.all validB = true := by
  simp only [smallB, Bool.and_eq_true, decide_eq_true_eq]
  unfold fitB
  constructor
  · intro h
    split at h
    · cases h
    · split at h
      · rename_i h1 h2; exact ⟨by omega, ⟨by omega, by omega⟩, h2⟩
      · cases h
  · rintro ⟨h1, ⟨h2, h3⟩, h4⟩
    rw [if_neg (by omega), if_pos h4]

theorem bvGo_iff : ∀ (l : List Ent) (p : Option (List V)), bvGo l p = 0 ↔ (∀ e ∈ l, fitB e = 0 ∧ e.cnt ≠ 0) ∧ Srt l ∧ ∀ q, p = some q → ∀ e ∈ l, rowsCmp q e.row < 0
  | [], p => ⟨fun _ => ⟨fun e h => (by simp at h), List.Pairwise.nil, fun q _ e h => by simp at h⟩, fun _ => rfl⟩
  | x :: l, p => by
    rw [bvGo]
    have nb : notB p x.row = true ↔ ∃ q, p = some q ∧ ¬ rowsCmp q x.row < 0 := by
      cases p with
      | none => simp [notB]
      | some q => simp [notB]
    constructor
    · intro h
      by_cases h1 : fitB x = 0
      · rw [if_neg (by simp [h1])] at h
        by_cases h2 : x.cnt = 0
        · rw [if_pos h2] at h; cases h
        · rw [if_neg h2] at h
          by_cases h3 : notB p x.row = true
          · rw [if_pos h3] at h; cases h
          · rw [if_neg h3] at h
            obtain ⟨g1, g2, g3⟩ := (bvGo_iff l (some x.row)).1 h
            have hp : ∀ q, p = some q → rowsCmp q x.row < 0 := fun q hq => Classical.byContradiction fun hn => h3 (nb.2 ⟨q, hq, hn⟩)
            refine ⟨fun e he => ?_, List.pairwise_cons.2 ⟨g3 _ rfl, g2⟩, fun q hq e he => ?_⟩
            · rcases List.mem_cons.1 he with rfl | he
              · exact ⟨h1, h2⟩
              · exact g1 e he
            · rcases List.mem_cons.1 he with rfl | he
              · exact hp q hq
              · exact rowsCmp_trans _ _ _ (hp q hq) (g3 _ rfl e he)
      · rw [if_pos h1] at h; exact absurd h h1
    · rintro ⟨h1, h2, h3⟩
      have hx := h1 x (List.mem_cons_self ..)
      rw [if_neg (by simp [hx.1]), if_neg hx.2, if_neg (fun h => by
        obtain ⟨q, hq, hn⟩ := nb.1 h
        exact hn (h3 q hq x (List.mem_cons_self ..)))]
      exact (bvGo_iff l (some x.row)).2 ⟨fun e he => h1 e (List.mem_cons_of_mem _ he), (List.pairwise_cons.1 h2).2, fun q hq e he => by cases hq; exact (List.pairwise_cons.1 h2).1 e he⟩

theorem bagB_iff (l : List Ent) : bagB l = 0 ↔ l.length ≤ 4096 ∧ (∀ e ∈ l, fitB e = 0 ∧ e.cnt ≠ 0) ∧ Srt l := by
  rw [bagB]
  constructor
  · intro h
    split at h
    · cases h
    · have := (bvGo_iff l none).1 h
      exact ⟨by omega, this.1, this.2.1⟩
  · rintro ⟨h1, h2, h3⟩
    rw [if_neg (by omega)]
    exact (bvGo_iff l none).2 ⟨h2, h3, fun q hq => by cases hq⟩

theorem bagB_ext {a b : List Ent} (ha : bagB a = 0) (hb : bagB b = 0) (h : ∀ r, cntL a r = cntL b r) : a = b := by
  obtain ⟨_, a2, a3⟩ := (bagB_iff a).1 ha
  obtain ⟨_, b2, b3⟩ := (bagB_iff b).1 hb
  exact bag_ext a b a3 b3 (fun e he => (a2 e he).2) (fun e he => (b2 e he).2) h

theorem resOk {l : List Ent} (hs : Srt l) (hl : (l.filter nzB).length ≤ 4096) (hf : ∀ e ∈ l, e.row.length ≤ 12 ∧ e.row.all validB = true) (hc : ∀ r, smallB (cntL l r) = true) :
    ((l.all fun e => smallB e.cnt) = true ∧ (l.filter nzB).length ≤ 4096) ∧ bagB (l.filter nzB) = 0 := by
  have hsm : ∀ e ∈ l, smallB e.cnt = true := fun e he => by rw [← cntL_mem hs he]; exact hc _
  refine ⟨⟨List.all_eq_true.2 hsm, hl⟩, (bagB_iff _).2 ⟨hl, fun e he => ?_, srt_filter _ hs⟩⟩
  obtain ⟨h1, h2⟩ := List.mem_filter.1 he
  exact ⟨(fitB_iff e).2 ⟨(hf e h1).1, hsm e h1, (hf e h1).2⟩, by simpa [nzB] using h2⟩

theorem fit_row {l : List Ent} (h : bagB l = 0) : ∀ e ∈ l, e.row.length ≤ 12 ∧ e.row.all validB = true := fun e he => by
  have := (fitB_iff e).1 (((bagB_iff l).1 h).2.1 e he).1
  exact ⟨this.1, this.2.2⟩

end Go.AW

namespace Go.AW
attribute [local irreducible] ACalls
def g0 : Grp := ⟨0, []⟩

theorem g0_wk : WkD (.agg [.int .i64 0, .nil]) (.agg (gV g0)) := .aggs (.cons (.refl _) (.cons (.nil false 2) .nil))

theorem iV_wk (c0 : AVal) (g : Grp) (h : c0 = .list false 2 (eC g.vals) ∨ (c0 = .nil ∧ g.vals = [])) : WkD (.agg [.int .i64 g.n, c0]) (.agg (gV g)) := by
  refine .aggs (.cons (.refl _) (.cons ?_ .nil))
  rcases h with rfl | ⟨rfl, h⟩
  · exact .refl _
  · rw [h]; exact .nil false 2

def n5 : V := ⟨2, 5, bs []⟩

theorem n5_valid : validB n5 = true := by kernel_rfl

theorem mrg_one (v : V) (a b : Int) : mrg [⟨[v], a⟩] [⟨[v], b⟩] = [⟨[v], a + b⟩] := by
  have h : rowsCmp [v] [v] = 0 := (rowsCmp_zero _ _).2 rfl
  rw [mrg_cons, if_neg (by show ¬ rowsCmp [v] [v] < 0; omega), if_neg (by show ¬ 0 < rowsCmp [v] [v]; omega), mrg_nil]

theorem srt_one (e : Ent) : Srt [e] := List.pairwise_singleton ..

theorem bagB_one (v : V) (c : Int) (hv : validB v = true) (hc : c ≠ 0) (hs : smallB c = true) : bagB [⟨[v], c⟩] = 0 :=
  (bagB_iff _).2 ⟨by simp, fun e he => by
    rw [List.mem_singleton] at he; subst he
    exact ⟨(fitB_iff _).2 ⟨by simp, hs, by simp [hv]⟩, hc⟩, srt_one _⟩

theorem bagB_nil : bagB [] = 0 := rfl

theorem grpB_intro {g : Grp} (h1 : rowsB g.n = true) (h2 : bagB g.vals = 0) (h3 : g.vals.all oneB = true) : grpB g = 0 := by
  rw [grpB, if_neg (by simp [h1]), if_neg (by simp [h2]), if_pos h3]

theorem k1 : addGE g0 n5 2 = 0 ∧ addGG g0 n5 2 = ⟨2, [⟨[n5], 2⟩]⟩ := by
  have hp : preE g0 n5 2 = 0 := by rw [preE, if_neg (by simp [grpB_intro (g := g0) rfl rfl rfl]), if_neg (by simp [n5_valid]), if_neg (by decide)]
  have ho : oneG n5 2 = ⟨2, [⟨[n5], 2⟩]⟩ := by rw [oneG, if_pos ⟨by decide, by decide⟩]
  have hm : mrgE g0 ⟨2, [⟨[n5], 2⟩]⟩ = 0 := by
    rw [mrgE, if_neg (by decide), sumE, if_neg (by simp [g0, bagB_nil]), if_neg (by simp [bagB_one n5 2 n5_valid (by decide) (by decide)]), if_pos ⟨by simp [g0, mrg_nil, smallB], by simp [g0, mrg_nil, nzB]⟩]
  have e1 : addGE g0 n5 2 = 0 := by rw [addGE, if_neg (by simp [hp]), ho, hm]
  refine ⟨e1, ?_⟩
  rw [addGG, if_neg (by simp [hp]), ho, mrgG, if_pos hm]
  simp [g0, sumL, mrg_nil, nzB]

theorem k2 : addGE ⟨2, [⟨[n5], 2⟩]⟩ n5 (-1) = 0 ∧ addGG ⟨2, [⟨[n5], 2⟩]⟩ n5 (-1) = ⟨1, [⟨[n5], 1⟩]⟩ := by
  have hb := bagB_one n5 2 n5_valid (by decide) (by decide)
  have hp : preE ⟨2, [⟨[n5], 2⟩]⟩ n5 (-1) = 0 := by rw [preE, if_neg (by simp [grpB_intro (g := ⟨2, [⟨[n5], 2⟩]⟩) rfl hb rfl]), if_neg (by simp [n5_valid]), if_neg (by decide)]
  have ho : oneG n5 (-1) = ⟨-1, [⟨[n5], -1⟩]⟩ := by rw [oneG, if_pos ⟨by decide, by decide⟩]
  have hm : mrgE ⟨2, [⟨[n5], 2⟩]⟩ ⟨-1, [⟨[n5], -1⟩]⟩ = 0 := by
    rw [mrgE, if_neg (by decide), sumE, if_neg (by simp [hb]), if_neg (by simp [bagB_one n5 (-1) n5_valid (by decide) (by decide)]), if_pos ⟨by simp [mrg_one, smallB], by simp [mrg_one, nzB]⟩]
  have e1 : addGE ⟨2, [⟨[n5], 2⟩]⟩ n5 (-1) = 0 := by rw [addGE, if_neg (by simp [hp]), ho, hm]
  refine ⟨e1, ?_⟩
  rw [addGG, if_neg (by simp [hp]), ho, mrgG, if_pos hm]
  simp [sumL, mrg_one, nzB]

def gk : Grp := ⟨1, [⟨[n5], 1⟩]⟩

theorem gk_ok : grpB gk = 0 := grpB_intro rfl (bagB_one n5 1 n5_valid (by decide) (by decide)) rfl

theorem k3 : resE 3 gk = 0 ∧ resV 3 gk = n5 ∧ resE 1 gk = 0 ∧ resV 1 gk = ⟨2, 1, bs []⟩ := by
  have h3 : resE 3 gk = 0 := by rw [resE, if_neg (by decide), if_neg (by simp [gk_ok])]; rfl
  have h1 : resE 1 gk = 0 := by rw [resE, if_neg (by decide), if_neg (by simp [gk_ok])]; rfl
  refine ⟨h3, ?_, h1, ?_⟩
  · rw [resV, if_neg (by simp [h3])]; kernel_rfl
  · rw [resV, if_neg (by simp [h1])]; kernel_rfl

theorem k4 : resE 3 g0 = 0 ∧ resV 3 g0 = zV := by
  have h3 : resE 3 g0 = 0 := by rw [resE, if_neg (by decide), if_neg (by simp [grpB_intro (g := g0) rfl rfl rfl])]; rfl
  exact ⟨h3, by rw [resV, if_neg (by simp [h3])]; kernel_rfl⟩

set_option maxRecDepth 20000 in
theorem known17_spec {P : Program} (F : F_warehouselaw17_known P) (H : List AObj) :
    ACalls P F.id [] H (fun r H' => r = .bool true ∧ H' = H) := by
  refine ACalls.pure rfl (acalls_of_body F.has ?_)
  (conv => whnf); refine ACalls.use (number_spec F.warehouselaw17_number 5 _) ?_
  conv => whnf
  refine ACalls.use ((agg_Add_spec F.aggregate_Add g0 n5 2 _).weakD (.cons g0_wk (.cons (.refl _) (.cons (.refl _) .nil)))) ?_
  rw [k1.1, k1.2]
  (conv => whnf); refine ⟨_, number_spec F.warehouselaw17_number 5 _, ?_⟩
  (conv => whnf); refine ⟨_, agg_Add_spec F.aggregate_Add ⟨2, [⟨[n5], 2⟩]⟩ n5 (-1) _, ?_⟩
  rw [k2.1, k2.2]
  conv => whnf
  refine ⟨⟨_, agg_Add_spec F.aggregate_Add ⟨2, [⟨[n5], 2⟩]⟩ n5 (-1) _, by rw [k2.1, k2.2]⟩, ?_⟩
  conv => whnf
  refine ⟨⟨_, number_spec F.warehouselaw17_number 5 _, rfl⟩, ?_⟩
  conv => whnf
  refine ⟨rfl, ?_⟩
  (conv => whnf); refine ACalls.use (agg_Result_spec F.aggregate_Result 3 gk _) ?_
  rw [k3.1, k3.2.1]
  (conv => whnf); refine ACalls.use (agg_Result_spec F.aggregate_Result 1 gk _) ?_
  rw [k3.2.2.1, k3.2.2.2]
  conv => whnf
  refine ACalls.use ((agg_Result_spec F.aggregate_Result 3 g0 _).weakD (.cons (.refl _) (.cons g0_wk .nil))) ?_
  rw [k4.1, k4.2]
  (conv => whnf); refine ⟨_, number_spec F.warehouselaw17_number 5 _, ?_⟩
  (conv => whnf); refine ⟨_, number_spec F.warehouselaw17_number 1 _, ?_⟩
  conv => whnf
  exact .closed _ rfl

structure It where
  v : V
  c : Int

def itC (x : It) : List AVal := [.int .i64 x.v.kind, .int .i64 x.v.num, .str x.v.str, .int .i64 x.c]

def iT (l : List It) : List (List AVal) := l.map itC

theorem iT_length (l : List It) : (iT l).length = l.length := List.length_map ..

theorem iT_append (a b : List It) : iT (a ++ b) = iT a ++ iT b := List.map_append

theorem pureEs_iT (l : List It) : pureEs (iT l) = true := by simp [pureEs, iT, itC, AVal.isPure]

theorem iT_at {l : List It} {k : Nat} {x : It} (h : l[k]? = some x) : (iT l)[k]? = some (itC x) := by rw [iT, List.getElem?_map, h]; rfl

def itV (l : List Int) (kind : Int) (i : Nat) : It := ⟨if (shrI (atV l i) 3).tmod 6 = 0 then zV else valueV kind (shrI (atV l i) 3), atV l i % 8 - 2⟩

def itsV (l : List Int) (n : Nat) (kind : Int) : List It := (List.range n).map (itV l kind)

theorem itsV_length (l : List Int) (n : Nat) (kind : Int) : (itsV l n kind).length = n := by simp [itsV]

theorem itsV_succ (l : List Int) (n : Nat) (kind : Int) : itsV l (n + 1) kind = itsV l n kind ++ [itV l kind n] := by simp [itsV, List.range_succ]

theorem itsV_ok (l : List Int) (n : Nat) (kind : Int) : ∀ x ∈ itsV l n kind, validB x.v = true ∧ -2 ≤ x.c ∧ x.c ≤ 5 := by
  intro x hx
  obtain ⟨i, _, rfl⟩ := List.mem_map.1 hx
  refine ⟨?_, ?_, ?_⟩
  · show validB (if _ then _ else _) = true
    split
    · kernel_rfl
    · exact valueV_valid _ _
  · show -2 ≤ atV l i % 8 - 2; omega
  · show atV l i % 8 - 2 ≤ 5; omega

set_option maxRecDepth 20000 in
theorem items_raw {P : Program} (F : F_warehouselaw17_items P) (ex : Bool) (l : List Int) (n kind : Int) (hn : n ≤ 1000) :
    ACalls P F.id [.list ex 1 (iC l), .int .i64 n, .int .i64 kind] [] (fun r H' => r = .sl 0 n.toNat 0 n.toNat ∧ H' = [.arr 4 (iT (itsV l n.toNat kind))]) := by
  refine acalls_of_body F.has ?_
  conv => whnf
  refine ⟨fun m ρ H => ∃ k : Nat, k + m = n.toNat ∧ H = [.arr 4 (iT (itsV l k kind))] ∧ Sv 38 [(0, .list ex 1 (iC l)), (1, .int .i64 n), (2, .int .i64 kind), (7, .sl 0 k 0 k), (8, .int .i64 k)] ρ, n.toNat, [(7, 4)], ?_, ?_⟩
  · exact ⟨0, by omega, by rfl, Sv.intro rfl ⟨rfl, rfl, rfl, rfl, rfl, trivial⟩⟩
  rintro m ρ H ⟨k, hk, rfl, d, rfl⟩
  have hcnt : w64 (and64 (atV l k) 7 - 2) = atV l k % 8 - 2 := by rw [and_7, w64, wrapI _ (by omega) (by omega)]
  have hkey : iT (itsV l (k + 1) kind) = iT (itsV l k kind) ++ [itC (itV l kind k)] := by rw [itsV_succ, iT_append]; rfl
  have hlen : ∀ e, (iT (itsV l k kind) ++ [e]).length = k + 1 := by simp [iT_length, itsV_length]
  (conv => whnf); refine recA (fun hlt => ?_) (fun hlt => ?_)
  · simp at hlt
    (conv => whnf); refine ACalls.use (At_spec F.warehousebase_At ex l k _) ?_
    (conv => whnf); refine And.intro (by decide) ?_
    (conv => whnf); refine ACalls.use (Value_spec F.warehousebase_Value _ _ _) ?_
    (conv => whnf); refine And.intro (by decide) ?_
    (conv => whnf); refine And.intro (by decide) ?_
    (conv => whnf); refine recA (fun hz => ?_) (fun hz => ?_)
    · replace hz : ((shrI (atV l k) 3).tmod 6 == 0) = true := hz
      simp at hz
      (conv => whnf); refine recT (by simp [iT_length, itsV_length]) ?_
      (conv => whnf); refine And.intro (⟨roomMul (by simp; omega) (by omega), roomB_le (by simp; omega), rfl, by simp [iT_length, itsV_length]⟩) ?_
      conv => whnf
      have hi : itV l kind k = ⟨zV, atV l k % 8 - 2⟩ := (by rw [itV, if_pos hz])
      have he : [AVal.int .i64 (zV).kind, .int .i64 (zV).num, .str (zV).str, .int .i64 (w64 (and64 (atV l k) 7 - 2))] = itC (itV l kind k) := by rw [hi, hcnt]; rfl
      refine ⟨m - 1, by omega, Gp.one 0 4 (iT (itsV l k kind) ++ [[AVal.int .i64 (zV).kind, .int .i64 (zV).num, .str (zV).str, .int .i64 (w64 (and64 (atV l k) 7 - 2))]]) rfl (by rw [he, ← hkey]; exact pureEs_iT _) rfl ?_ fun ρ1 h => ⟨k + 1, by omega, by rw [he, hkey], h⟩⟩
      exact ⟨.closed _ rfl, .closed _ rfl, .closed _ rfl, pubSl (k := 0) rfl rfl (hlen _) (hlen _), pub_int (wrapI ((k : Int) + 1) (by omega) (by omega)), trivial⟩
    · replace hz : ((shrI (atV l k) 3).tmod 6 == 0) = false := hz
      simp at hz
      (conv => whnf); refine recT (by simp [iT_length, itsV_length]) ?_
      (conv => whnf); refine And.intro (⟨roomMul (by simp; omega) (by omega), roomB_le (by simp; omega), rfl, by simp [iT_length, itsV_length]⟩) ?_
      conv => whnf
      have hi : itV l kind k = ⟨(valueV kind (shrI (atV l k) 3)), atV l k % 8 - 2⟩ := (by rw [itV, if_neg hz])
      have he : [AVal.int .i64 ((valueV kind (shrI (atV l k) 3))).kind, .int .i64 ((valueV kind (shrI (atV l k) 3))).num, .str ((valueV kind (shrI (atV l k) 3))).str, .int .i64 (w64 (and64 (atV l k) 7 - 2))] = itC (itV l kind k) := by rw [hi, hcnt]; rfl
      refine ⟨m - 1, by omega, Gp.one 0 4 (iT (itsV l k kind) ++ [[AVal.int .i64 ((valueV kind (shrI (atV l k) 3))).kind, .int .i64 ((valueV kind (shrI (atV l k) 3))).num, .str ((valueV kind (shrI (atV l k) 3))).str, .int .i64 (w64 (and64 (atV l k) 7 - 2))]]) rfl (by rw [he, ← hkey]; exact pureEs_iT _) rfl ?_ fun ρ1 h => ⟨k + 1, by omega, by rw [he, hkey], h⟩⟩
      exact ⟨.closed _ rfl, .closed _ rfl, .closed _ rfl, pubSl (k := 0) rfl rfl (hlen _) (hlen _), pub_int (wrapI ((k : Int) + 1) (by omega) (by omega)), trivial⟩
  · simp at hlt
    have : k = n.toNat := by omega
    subst this
    conv => whnf
    exact ⟨rfl, rfl⟩

end Go.AW

namespace Go.AW
attribute [local irreducible] ACalls
def addAll : Grp → List It → Grp × Bool
  | g, [] => (g, true)
  | g, x :: l => if addGE g x.v x.c ≠ 0 then (g, false) else addAll (addGG g x.v x.c) l

set_option maxRecDepth 20000 in
theorem added_spec {P : Program} (F : F_warehouselaw17_added P) (ex : Bool) (g : Grp) (l : List It) (hl : l.length ≤ 1000000) (H : List AObj) :
    ACalls P F.id [.agg (gV g), .list ex 4 (iT l)] H (fun r H' => r = .tuple [.agg (gV (addAll g l).1), .bool (addAll g l).2] ∧ H' = H) := by
  refine ACalls.pure (by simp [AVal.closed, gV, AVal.isPure]) (acalls_of_body F.has ?_)
  conv => whnf
  refine ⟨fun m ρ H1 => ∃ (k : Nat) (cur : Grp), k + m = l.length ∧ addAll cur (l.drop k) = addAll g l ∧ H1 = [.arr 2 [gV cur], .arr 2 [[.int .i64 0, .nil]]] ∧
    Sv 35 [(1, .list ex 4 (iT l)), (2, .ptr 0 1 0 0), (4, .ptr 1 1 0 0), (6, .int .i64 k)] ρ, l.length, [], ?_, ?_⟩
  · exact ⟨0, g, by omega, rfl, rfl, Sv.intro rfl ⟨rfl, rfl, rfl, rfl, trivial⟩⟩
  rintro m ρ H1 ⟨k, cur, hk, hr, rfl, d, rfl⟩
  (conv => whnf); refine recA (fun hlt => ?_) (fun hlt => ?_)
  · simp [iT_length] at hlt
    obtain ⟨x, hx, hd, _⟩ := get_drop hlt
    rw [hd, addAll] at hr
    (conv => whnf); refine And.intro (by omega) ?_
    (conv => whnf); refine recO (iT_at hx) ?_
    (conv => whnf); refine And.intro (by omega) ?_
    (conv => whnf); refine recO (iT_at hx) ?_
    (conv => whnf); refine ⟨_, agg_Add_spec F.aggregate_Add cur x.v x.c _, ?_⟩
    (conv => whnf); refine And.intro (⟨_, agg_Add_spec F.aggregate_Add cur x.v x.c _, rfl⟩) ?_
    (conv => whnf); refine And.intro (rfl) ?_
    (conv => whnf); refine And.intro (by (conv => whnf); refine And.intro (by omega) ?_; (conv => whnf); refine recO (iT_at hx) ?_; (conv => whnf)) ?_
    (conv => whnf); refine And.intro (rfl) ?_
    (conv => whnf); refine And.intro (by (conv => whnf); refine And.intro (by omega) ?_; (conv => whnf); refine recO (iT_at hx) ?_; (conv => whnf)) ?_
    (conv => whnf); refine And.intro (rfl) ?_
    (conv => whnf); refine recA (fun he => ?_) (fun he => ?_)
    · replace he : (!(addGE cur x.v x.c == 0)) = true := he
      simp at he
      conv => whnf
      rw [if_pos he] at hr
      rw [← hr]
      exact pub2 (.closed _ rfl) (.closed _ rfl)
    · replace he : (!(addGE cur x.v x.c == 0)) = false := he
      simp at he
      rw [if_neg (by simp [he])] at hr
      conv => whnf
      refine ⟨m - 1, by omega, Gp.two 0 1 (by decide) 2 2 [gV (addGG cur x.v x.c)] [[.int .i64 0, .nil]] rfl rfl (by simp [pureEs, gV, AVal.isPure]) rfl rfl ?_ fun ρ1 h => ⟨k + 1, addGG cur x.v x.c, by omega, hr, rfl, h⟩⟩
      exact ⟨.closed _ rfl, .keepP 0 1 0 0 0 rfl, .keepP 1 1 0 0 1 rfl, pub_int (wrapI ((k : Int) + 1) (by omega) (by omega)), trivial⟩
  · simp [iT_length] at hlt
    rw [List.drop_eq_nil_of_le hlt, addAll] at hr
    conv => whnf
    rw [← hr]
    exact pub2 (.closed _ rfl) (.closed _ rfl)

def wsum (φ : List V → Int) : List Ent → Int
  | [] => 0
  | e :: l => e.cnt * φ e.row + wsum φ l

def ind (r : List V) (s : List V) : Int := if rowsCmp s r = 0 then 1 else 0

theorem cntL_wsum : ∀ (l : List Ent) (r : List V), cntL l r = wsum (ind r) l
  | [], _ => rfl
  | e :: l, r => by
    rw [cntL, wsum, cntL_wsum l r, ind]
    split <;> simp

theorem wsum_mrg (φ : List V → Int) : ∀ (a b : List Ent), wsum φ (mrg a b) = wsum φ a + wsum φ b
  | [], b => by rw [mrg_nil, wsum]; omega
  | x :: a, [] => by rw [mrg_nil2]; simp [wsum]
  | x :: a, y :: b => by
    rw [mrg_cons]
    have ex : wsum φ (x :: a) = x.cnt * φ x.row + wsum φ a := rfl
    have ey : wsum φ (y :: b) = y.cnt * φ y.row + wsum φ b := rfl
    split
    · rw [wsum, wsum_mrg φ a (y :: b), ex]; omega
    split
    · rw [wsum, wsum_mrg φ (x :: a) b, ey]; omega
    · have hr : x.row = y.row := (rowsCmp_zero _ _).1 (by have := rowsCmp_vals x.row y.row; omega)
      rw [wsum, wsum_mrg φ a b, ex, ey]
      simp only [hr, Int.add_mul]; omega
termination_by a b => a.length + b.length

theorem wsum_nz (φ : List V → Int) : ∀ (l : List Ent), wsum φ (l.filter nzB) = wsum φ l
  | [] => rfl
  | e :: l => by
    rw [List.filter_cons]
    split
    · rw [wsum, wsum, wsum_nz φ l]
    · rename_i h
      have : e.cnt = 0 := by simpa [nzB] using h
      rw [wsum, wsum_nz φ l, this]; simp

def wt (φ : List V → Int) (x : It) : Int := if x.v.kind ≠ 0 then x.c * φ [x.v] else 0

def tot (f : It → Int) : List It → Int
  | [] => 0
  | x :: l => f x + tot f l

theorem tot_append (f : It → Int) : ∀ (a b : List It), tot f (a ++ b) = tot f a + tot f b
  | [], b => by simp [tot]
  | x :: a, b => by rw [List.cons_append, tot, tot, tot_append f a b]; omega

theorem tot_map (f g : It → Int) (t : It → It) (h : ∀ x, f (t x) = g x) : ∀ (a : List It), tot f (a.map t) = tot g a
  | [] => rfl
  | x :: a => by rw [List.map_cons, tot, tot, tot_map f g t h a, h]

theorem tot_neg (f : It → Int) : ∀ (a : List It), tot (fun x => - f x) a = - tot f a
  | [] => rfl
  | x :: a => by rw [tot, tot, tot_neg f a]; omega

theorem tot_reverse (f : It → Int) : ∀ (a : List It), tot f a.reverse = tot f a
  | [] => rfl
  | x :: a => by rw [List.reverse_cons, tot_append, tot_reverse f a, tot, tot, tot]; omega

theorem tot_set (f : It → Int) : ∀ (l : List It) (i : Nat) (x y : It), l[i]? = some y → tot f (l.set i x) = tot f l - f y + f x
  | [], i, x, y, h => by simp at h
  | z :: l, 0, x, y, h => by
    have : z = y := by simpa using h
    subst this
    rw [List.set_cons_zero, tot, tot]; omega
  | z :: l, i + 1, x, y, h => by
    rw [List.set_cons_succ, tot, tot, tot_set f l i x y (by simpa using h)]; omega

theorem tot_swap (f : It → Int) (l : List It) (i j : Nat) (x y : It) (hi : l[i]? = some x) (hj : l[j]? = some y) : tot f ((l.set i y).set j x) = tot f l := by
  have h2 : (l.set i y)[j]? = some y := by
    by_cases e : i = j
    · subst e; rw [List.getElem?_set_self (List.getElem?_eq_some_iff.1 hi).1]
    · rw [List.getElem?_set_ne e]; exact hj
  rw [tot_set f _ j x y h2, tot_set f l i y x hi]; omega

theorem tot_bound (f : It → Int) (B : Int) (hB : 0 ≤ B) : ∀ (l : List It), (∀ x ∈ l, -B ≤ f x ∧ f x ≤ B) → -(B * l.length) ≤ tot f l ∧ tot f l ≤ B * l.length
  | [], _ => by simp [tot]
  | x :: l, h => by
    have h1 := tot_bound f B hB l fun x hx => h x (List.mem_cons_of_mem _ hx)
    have h2 := h x (List.mem_cons_self ..)
    rw [tot, List.length_cons, Int.natCast_add, Int.mul_add]
    simp only [Int.natCast_one, Int.mul_one]
    omega

structure Rep (G : Grp) (l : List It) : Prop where
  ok : grpB G = 0
  n : G.n = tot It.c l
  cnt : ∀ φ, wsum φ G.vals = tot (wt φ) l
  len : G.vals.length ≤ l.length

theorem Rep.uniq {G G' : Grp} {l l' : List It} (h : Rep G l) (h' : Rep G' l') (h1 : tot It.c l = tot It.c l') (h2 : ∀ φ, tot (wt φ) l = tot (wt φ) l') : G = G' := by
  have e : G.vals = G'.vals := bagB_ext (grpB_ok h.ok).2.2.1 (grpB_ok h'.ok).2.2.1 fun r => by rw [cntL_wsum, cntL_wsum, h.cnt, h'.cnt, h2]
  have en : G.n = G'.n := by rw [h.n, h'.n, h1]
  cases G; cases G'; simp only at e en; subst e en; rfl

def ItOk (x : It) : Prop := validB x.v = true ∧ -5 ≤ x.c ∧ x.c ≤ 5

theorem wt_bound (x : It) (h : ItOk x) (r : List V) : -5 ≤ wt (ind r) x ∧ wt (ind r) x ≤ 5 := by
  obtain ⟨_, h1, h2⟩ := h
  unfold wt ind
  split
  · split <;> omega
  · omega

theorem oneB_row {a b : Ent} (h : a.row = b.row) : oneB a = oneB b := by unfold oneB; rw [h]

theorem Rep.merge {G G' : Grp} {p q : List It} (h : Rep G p) (h' : Rep G' q) (hp : ∀ x ∈ p, ItOk x) (hq : ∀ x ∈ q, ItOk x) (hl : p.length + q.length ≤ 4096) :
    mrgE G G' = 0 ∧ Rep (mrgG G G') (p ++ q) := by
  obtain ⟨_, g1, g2, g3⟩ := grpB_ok h.ok
  obtain ⟨_, k1, k2, k3⟩ := grpB_ok h'.ok
  have hpq : ∀ x ∈ p ++ q, ItOk x := fun x hx => (List.mem_append.1 hx).elim (hp x) (hq x)
  have hn := tot_bound It.c 5 (by omega) (p ++ q) fun x hx => (hpq x hx).2
  rw [tot_append, List.length_append] at hn
  have hc : ∀ r, cntL (mrg G.vals G'.vals) r = tot (wt (ind r)) (p ++ q) := fun r => by rw [cntL_wsum, wsum_mrg, h.cnt, h'.cnt, tot_append]
  have hcs : ∀ r, smallB (cntL (mrg G.vals G'.vals) r) = true := fun r => by
    have := tot_bound (wt (ind r)) 5 (by omega) (p ++ q) fun x hx => wt_bound x (hpq x hx) r
    rw [List.length_append] at this
    rw [hc, smallB]; simp; omega
  have hml := mrg_length G.vals G'.vals
  have hl1 := h.len
  have hl2 := h'.len
  have hfl := List.length_filter_le nzB (mrg G.vals G'.vals)
  have hs := srt_mrg _ _ ((bagB_iff _).1 g2).2.2 ((bagB_iff _).1 k2).2.2
  have hrow : ∀ e ∈ mrg G.vals G'.vals, (e.row.length ≤ 12 ∧ e.row.all validB = true) ∧ oneB e = true := fun e he => by
    rcases mem_mrg _ _ e he with ⟨x, hx, hxr⟩ | ⟨x, hx, hxr⟩
    · exact ⟨hxr ▸ fit_row g2 x hx, oneB_row hxr ▸ List.all_eq_true.1 g3 x hx⟩
    · exact ⟨hxr ▸ fit_row k2 x hx, oneB_row hxr ▸ List.all_eq_true.1 k3 x hx⟩
  obtain ⟨r1, r2⟩ := resOk hs (by omega) (fun e he => (hrow e he).1) hcs
  have hrows : rowsB (G.n + G'.n) = true := by rw [h.n, h'.n, rowsB]; simp; omega
  have hE : mrgE G G' = 0 := by
    rw [mrgE, if_neg (by simp [hrows]), sumE, if_neg (by simp [g2]), if_neg (by simp [k2]), if_pos r1]
  have hG : mrgG G G' = ⟨G.n + G'.n, sumL G.vals G'.vals⟩ := by rw [mrgG, if_pos hE]
  refine ⟨hE, ?_⟩
  rw [hG]
  refine ⟨grpB_intro hrows r2 (List.all_eq_true.2 fun e he => (hrow e (List.mem_filter.1 he).1).2), ?_, fun φ => ?_, ?_⟩
  · rw [tot_append, ← h.n, ← h'.n]
  · show wsum φ ((mrg G.vals G'.vals).filter nzB) = _
    rw [wsum_nz, wsum_mrg, h.cnt, h'.cnt, tot_append]
  · rw [List.length_append]
    show ((mrg G.vals G'.vals).filter nzB).length ≤ _
    omega

theorem Rep.nil : Rep g0 [] := ⟨grpB_intro rfl rfl rfl, rfl, fun _ => rfl, Nat.le_refl _⟩

theorem Rep.one (x : It) (h : ItOk x) : Rep (oneG x.v x.c) [x] := by
  obtain ⟨hv, h1, h2⟩ := h
  have hsm : smallB x.c = true := by simp [smallB]; omega
  have hr : rowsB x.c = true := by simp [rowsB]; omega
  by_cases hx : x.v.kind ≠ 0 ∧ x.c ≠ 0
  · have ho : oneG x.v x.c = ⟨x.c, [⟨[x.v], x.c⟩]⟩ := by rw [oneG, if_pos hx]
    rw [ho]
    refine ⟨grpB_intro hr (bagB_one _ _ hv hx.2 hsm) (by simp [oneB, hx.1]), by simp [tot], fun φ => ?_, by simp⟩
    simp only [tot, wsum, wt]; rw [if_pos hx.1]
  · have ho : oneG x.v x.c = ⟨x.c, []⟩ := by rw [oneG, if_neg hx]
    rw [ho]
    refine ⟨grpB_intro hr rfl rfl, by simp [tot], fun φ => ?_, by simp⟩
    simp only [tot, wsum, wt]
    split
    · rename_i hk
      have : x.c = 0 := Classical.byContradiction fun hn => hx ⟨hk, hn⟩
      rw [this]; simp
    · rfl

theorem Rep.add {G : Grp} {p : List It} {x : It} (h : Rep G p) (hp : ∀ x ∈ p, ItOk x) (hx : ItOk x) (hl : p.length + 1 ≤ 4096) :
    addGE G x.v x.c = 0 ∧ Rep (addGG G x.v x.c) (p ++ [x]) := by
  have hsm : smallB x.c = true := by have := hx.2; simp [smallB]; omega
  have hpre : preE G x.v x.c = 0 := by rw [preE, if_neg (by simp [h.ok]), if_neg (by simp [hx.1]), if_neg (by simp [hsm])]
  have hm := h.merge (Rep.one x hx) hp (fun y hy => by rw [List.mem_singleton] at hy; subst hy; exact hx) (by simpa using hl)
  rw [addGE, addGG, if_neg (by simp [hpre]), if_neg (by simp [hpre])]
  exact hm

theorem addAll_rep : ∀ (l : List It) {G : Grp} {p : List It}, Rep G p → (∀ x ∈ p, ItOk x) → (∀ x ∈ l, ItOk x) → p.length + l.length ≤ 4096 → (addAll G l).2 = true ∧ Rep (addAll G l).1 (p ++ l)
  | [], G, p, h, _, _, _ => ⟨rfl, by rw [List.append_nil]; exact h⟩
  | x :: l, G, p, h, hp, hx, hl => by
    rw [List.length_cons] at hl
    obtain ⟨h1, h2⟩ := h.add hp (hx x (List.mem_cons_self ..)) (by omega)
    rw [addAll, if_neg (by simp [h1])]
    have := addAll_rep l h2 (fun y hy => (List.mem_append.1 hy).elim (hp y) fun h => by rw [List.mem_singleton] at h; subst h; exact hx y (List.mem_cons_self ..))
      (fun y hy => hx y (List.mem_cons_of_mem _ hy)) (by simp; omega)
    rw [List.append_assoc] at this
    exact this

theorem itsV_ItOk (l : List Int) (n : Nat) (kind : Int) : ∀ x ∈ itsV l n kind, ItOk x := fun x hx => by
  obtain ⟨h1, h2, h3⟩ := itsV_ok l n kind x hx
  exact ⟨h1, by omega, h3⟩

theorem grp_small {g : Grp} (h : grpB g = 0) : g.vals.length ≤ 1000000 ∧ ∀ e ∈ g.vals, e.row.length ≤ 1000000 := by
  obtain ⟨h1, h2⟩ := grp_len h
  exact ⟨by omega, fun e he => by rw [h2 e he]; omega⟩

end Go.AW

namespace Go.AW
attribute [local irreducible] ACalls
theorem cellsOk_ent {e : List AVal} (h : CellsOk [.slice [.int .i64, .int .i64, .str], .int .i64] e) : ∃ x : Ent, e = entC x ∧ x.row.length ≤ maxLen ∧ (Lit.int .i64 x.cnt).wf = true := by
  match e, h with
  | [a, b], h =>
    obtain ⟨h1, h2, _⟩ := h
    obtain ⟨es, rfl, hl, h1⟩ := shOk_slice h1
    obtain ⟨m, rfl, hm⟩ := list_image (g := valC) es fun e he => cellsOk_V (h1 e he)
    cases h2
    rename_i n hn
    exact ⟨⟨m, n⟩, rfl, by simpa using hl, hn⟩

theorem argOk_grp {a : AVal} (h : ArgOk (true, [.int .i64, .slice [.slice [.int .i64, .int .i64, .str], .int .i64]]) a) : ∃ g : Grp, a = .agg (gV g) ∧ (Lit.int .i64 g.n).wf = true := by
  obtain ⟨as, rfl, hc⟩ := argOk_agg h
  match as, hc with
  | [a, b], hc =>
    obtain ⟨h1, h2, _⟩ := hc
    obtain ⟨es, rfl, hl, h2⟩ := shOk_slice h2
    obtain ⟨m, rfl, hm⟩ := list_image (g := entC) es fun e he => cellsOk_ent (h2 e he)
    cases h1
    rename_i n hn
    exact ⟨⟨n, m⟩, rfl, hn⟩

def pureO : AObj → Bool
  | .arr _ es => pureEs es
  | .iter _ _ => true

theorem gpO_of {H : List AObj} {ids : List Nat} : ∀ (is : List Nat) (r : List AObj), is.length = r.length → (∀ (k id : Nat) (o : AObj), is[k]? = some id → r[k]? = some o → H[id]? = some o ∧ pureO o = true) → gpO H ids is r
  | [], [], _, _ => trivial
  | [], _ :: _, h, _ => by simp at h
  | _ :: _, [], h, _ => by simp at h
  | id :: is, o :: r, hl, h => by
    obtain ⟨h1, h2⟩ := h 0 id o rfl rfl
    refine ⟨⟨o, h1, ?_⟩, gpO_of is r (by simpa using hl) fun k id o h1 h2 => h (k + 1) id o (by simpa using h1) (by simpa using h2)⟩
    cases o with
    | arr s es => exact .same s es h2
    | iter s p => exact .iter s p

theorem Gp.first {n : Nat} {live : List (Nat × AVal)} {ρ : List AVal} {H : List AObj} {I : List AVal → List AObj → Prop} (k : Nat) (H1 : List AObj) (hk : H.take k = H1) (hn : H1.length = k) (hp : H1.all pureO = true)
    (hl : ρ.length = n) (h : SvPub H (List.range k) ρ live) (hI : ∀ ρ1, Sv n live ρ1 → I ρ1 H1) : Gp 0 ρ H I := by
  refine Gp.some (H1 := H1) (List.range k) List.nodup_range (gpO_of _ _ (by simp [hn]) fun j id o h1 h2 => ?_) hl h hI
  have hj := (List.getElem?_eq_some_iff.1 h2).1
  rw [List.getElem?_range (by omega)] at h1
  cases h1
  refine ⟨?_, List.all_eq_true.1 hp o (List.mem_of_getElem? h2)⟩
  rw [← hk, List.getElem?_take] at h2
  rwa [if_pos (by omega)] at h2

theorem addGG_small (g : Grp) (v : V) (c : Int) : (addGG g v c).vals.length ≤ 1000000 ∧ ∀ e ∈ (addGG g v c).vals, e.row.length ≤ 1000000 := by
  rw [addGG]
  split
  · exact ⟨by simp, fun e he => by simp at he⟩
  · rename_i hp
    rw [mrgG]
    split
    · rename_i hm
      rw [mrgE] at hm
      split at hm
      · cases hm
      · have hb : bagB g.vals = 0 ∧ bagB (oneG v c).vals = 0 := by
          rw [sumE] at hm
          split at hm
          · rename_i h; exact absurd hm h
          · split at hm
            · rename_i h; exact absurd hm h
            · rename_i h1 h2; exact ⟨by simpa using h1, by simpa using h2⟩
        have h1 := mrg_length g.vals (oneG v c).vals
        have h2 := List.length_filter_le nzB (mrg g.vals (oneG v c).vals)
        have h3 := (bagB_ok hb.1).1
        have h4 := (bagB_ok hb.2).1
        refine ⟨?_, fun e he => ?_⟩
        · show ((mrg g.vals (oneG v c).vals).filter nzB).length ≤ 1000000; omega
        · have := mrg_row (n := 1000000) g.vals (oneG v c).vals (fun e he => by have := ((bagB_ok hb.1).2.1 e he).1; omega) (fun e he => by have := ((bagB_ok hb.2).2.1 e he).1; omega)
          exact this e (List.mem_filter.1 he).1
    · exact ⟨by simp, fun e he => by simp at he⟩

theorem items_spec {P : Program} (F : F_warehouselaw17_items P) (ex : Bool) (l : List Int) (n kind : Int) (hn : n ≤ 1000) (H : List AObj) :
    ACalls P F.id [.list ex 1 (iC l), .int .i64 n, .int .i64 kind] H (fun r H' => r = .list false 4 (iT (itsV l n.toNat kind)) ∧ H' = H) :=
  ACalls.frz1 (by simp [AVal.closed, AVal.isPure]) (items_raw F ex l n kind hn) (by rw [iT_length, itsV_length]) (pureEs_iT _)

set_option maxRecDepth 20000 in
theorem law_AggregateAdds {P : Program} (F : F_warehouselaw17_AggregateAdds P) (g : Grp) (v : V) (count : Int) (l : List Int) (n : Int) :
    ACalls P F.id [.agg (gV g), .agg (valC v), .int .i64 count, .list false 1 (iC l), .int .i64 n] [] (fun r _ => r = .bool true) := by
  have e15 := and_15 n
  have fin : ∀ H, ACalls P F.warehouselaw17_known.id [] H (fun r H' => r = .bool true ∧ H' = H) := known17_spec F.warehouselaw17_known
  refine acalls_of_body F.has ?_
  (conv => whnf); refine ACalls.use (light_spec F.warehouselaw17_light g _) ?_
  (conv => whnf); refine recA (fun h0 => ?_) (fun h0 => ?_)
  · (conv => whnf); refine ACalls.use (fin _) ?_
    conv => whnf
  (conv => whnf); refine ACalls.use (agg_Add_spec F.aggregate_Add g v count _) ?_
  (conv => whnf); refine ACalls.use (ref17_Add_spec F.warehouseref17_Add g v count _) ?_
  (conv => whnf); refine ⟨_, ref17_Same_refl F.warehouseref17_Same (addGG g v count) (addGG_small g v count).1 (addGG_small g v count).2 _, ?_⟩
  (conv => whnf); refine recF (by simp) ?_
  (conv => whnf); refine ⟨_, agg_Validate_spec F.aggregate_Validate g _, ?_⟩
  (conv => whnf); refine ⟨_, ref17_Validate_spec F.warehouseref17_Validate g _, ?_⟩
  (conv => whnf); refine recF (by simp) ?_
  (conv => whnf); refine And.intro (by decide) ?_
  (conv => whnf); refine ACalls.use (items_spec F.warehouselaw17_items false l (and64 n 15) _ (by omega) _) ?_
  conv => whnf
  refine ⟨fun m ρ H1 => ∃ (k : Nat) (X : Grp) (c0 : AVal), k + m = (itsV l (and64 n 15).toNat (w64 (1 + and64 (shrI n 4) 3))).length ∧ Rep X ((itsV l (and64 n 15).toNat (w64 (1 + and64 (shrI n 4) 3))).take k) ∧ (c0 = .list false 2 (eC X.vals) ∨ (c0 = .nil ∧ X.vals = [])) ∧
    H1 = [.arr 2 [gV g], .arr 3 [valC v], .arr 2 [gV (addGG g v count)], .arr 2 [gV (addGG g v count)], .arr 2 [[.int .i64 X.n, c0]], .arr 2 [[.int .i64 X.n, c0]]] ∧
    Sv 124 [(15, .ptr 4 1 0 0), (16, .ptr 5 1 0 0), (17, .list false 4 (iT (itsV l (and64 n 15).toNat (w64 (1 + and64 (shrI n 4) 3))))), (18, .int .i64 k)] ρ, (itsV l (and64 n 15).toNat (w64 (1 + and64 (shrI n 4) 3))).length, [], ?_, ?_⟩
  · exact ⟨0, g0, .nil, by omega, Rep.nil, .inr ⟨rfl, rfl⟩, rfl, Sv.intro rfl ⟨rfl, rfl, rfl, rfl, trivial⟩⟩
  rintro m ρ H1 ⟨k, X, c0, hk, hrep, hc0, rfl, d, rfl⟩
  have hlen := itsV_length l (and64 n 15).toNat (w64 (1 + and64 (shrI n 4) 3))
  have hok := itsV_ItOk l (and64 n 15).toNat (w64 (1 + and64 (shrI n 4) 3))
  (conv => whnf); refine recA (fun hlt => ?_) (fun hlt => ?_)
  · simp [iT_length] at hlt
    obtain ⟨x, hx, hd, hxm⟩ := get_drop hlt
    have hx16 : k < 16 := by omega
    obtain ⟨hE, hR⟩ := hrep.add (fun y hy => hok y (List.mem_of_mem_take hy)) (hok x hxm) (by rw [List.length_take]; omega)
    have htk : (itsV l (and64 n 15).toNat (w64 (1 + and64 (shrI n 4) 3))).take (k + 1) = (itsV l (and64 n 15).toNat (w64 (1 + and64 (shrI n 4) 3))).take k ++ [x] := by rw [List.take_add_one, hx]; rfl
    have hA := fun H => (agg_Add_spec F.aggregate_Add X x.v x.c H).weakD (.cons (iV_wk c0 X hc0) (.cons (.refl _) (.cons (.refl _) .nil)))
    have hB := fun H => (ref17_Add_spec F.warehouseref17_Add X x.v x.c H).weakD (.cons (iV_wk c0 X hc0) (.cons (.refl _) (.cons (.refl _) .nil)))
    simp only [hE] at hA hB
    have hsm := addGG_small X x.v x.c
    (conv => whnf); refine And.intro (by omega) ?_
    (conv => whnf); refine recO (iT_at hx) ?_
    (conv => whnf); refine And.intro (by omega) ?_
    (conv => whnf); refine recO (iT_at hx) ?_
    (conv => whnf); refine ⟨_, hA _, ?_⟩
    (conv => whnf); refine And.intro (⟨_, hA _, rfl⟩) ?_
    (conv => whnf); refine And.intro (rfl) ?_
    (conv => whnf); refine And.intro (by (conv => whnf); refine And.intro (by omega) ?_; (conv => whnf); refine recO (iT_at hx) ?_; (conv => whnf)) ?_
    (conv => whnf); refine And.intro (rfl) ?_
    (conv => whnf); refine And.intro (by (conv => whnf); refine And.intro (by omega) ?_; (conv => whnf); refine recO (iT_at hx) ?_; (conv => whnf)) ?_
    (conv => whnf); refine And.intro (rfl) ?_
    (conv => whnf); refine And.intro (by omega) ?_
    (conv => whnf); refine recO (iT_at hx) ?_
    (conv => whnf); refine And.intro (by omega) ?_
    (conv => whnf); refine recO (iT_at hx) ?_
    (conv => whnf); refine ⟨_, hB _, ?_⟩
    (conv => whnf); refine And.intro (⟨_, hB _, rfl⟩) ?_
    (conv => whnf); refine And.intro (rfl) ?_
    (conv => whnf); refine And.intro (by (conv => whnf); refine And.intro (by omega) ?_; (conv => whnf); refine recO (iT_at hx) ?_; (conv => whnf)) ?_
    (conv => whnf); refine And.intro (rfl) ?_
    (conv => whnf); refine And.intro (by (conv => whnf); refine And.intro (by omega) ?_; (conv => whnf); refine recO (iT_at hx) ?_; (conv => whnf)) ?_
    (conv => whnf); refine And.intro (rfl) ?_
    (conv => whnf); refine ACalls.use (ref17_Same_refl F.warehouseref17_Same (addGG X x.v x.c) hsm.1 hsm.2 _) ?_
    (conv => whnf); refine ACalls.use (agg_Validate_spec F.aggregate_Validate (addGG X x.v x.c) _) ?_
    rw [hR.ok]
    (conv => whnf); refine And.intro (rfl) ?_
    conv => whnf
    refine ⟨m - 1, by omega, Gp.first 6 [.arr 2 [gV g], .arr 3 [valC v], .arr 2 [gV (addGG g v count)], .arr 2 [gV (addGG g v count)], .arr 2 [gV (addGG X x.v x.c)], .arr 2 [gV (addGG X x.v x.c)]] rfl rfl (by simp [pureO, pureEs, gV, valC, AVal.isPure]) rfl ?_ fun ρ1 h => ⟨k + 1, addGG X x.v x.c, .list false 2 (eC (addGG X x.v x.c).vals), by omega, by rw [htk]; exact hR, .inl rfl, rfl, h⟩⟩
    exact ⟨.keepP 4 1 0 0 4 rfl, .keepP 5 1 0 0 5 rfl, .closed _ rfl, pub_int (wrapI ((k : Int) + 1) (by omega) (by omega)), trivial⟩
  · (conv => whnf); refine ACalls.use (fin _) ?_
    conv => whnf

end Go.AW

namespace Go.AW
attribute [local irreducible] ACalls
theorem added0_spec {P : Program} (F : F_warehouselaw17_added P) (ex : Bool) (l : List It) (hl : l.length ≤ 4096) (hok : ∀ x ∈ l, ItOk x) (H : List AObj) :
    ACalls P F.id [.agg [.int .i64 0, .nil], .list ex 4 (iT l)] H (fun r H' => r = .tuple [.agg (gV (addAll g0 l).1), .bool true] ∧ H' = H) := by
  have h := (added_spec F ex g0 l (by omega) H).weakD (.cons g0_wk (.cons (.refl _) .nil))
  rw [(addAll_rep l Rep.nil (fun x hx => by simp at hx) hok (by simpa using hl)).1] at h
  exact h

theorem addAll0_rep (l : List It) (hl : l.length ≤ 4096) (hok : ∀ x ∈ l, ItOk x) : Rep (addAll g0 l).1 l :=
  (addAll_rep l Rep.nil (fun x hx => by simp at hx) hok (by simpa using hl)).2

set_option maxRecDepth 20000 in
theorem law_AggregateResults {P : Program} (F : F_warehouselaw17_AggregateResults P) (f : Int) (g : Grp) (l : List Int) (n : Int) :
    ACalls P F.id [.int .i64 f, .agg (gV g), .list false 1 (iC l), .int .i64 n] [] (fun r _ => r = .bool true) := by
  have e15 := and_15 n
  have fin : ∀ H, ACalls P F.warehouselaw17_known.id [] H (fun r H' => r = .bool true ∧ H' = H) := known17_spec F.warehouselaw17_known
  refine acalls_of_body F.has ?_
  (conv => whnf); refine ACalls.use (light_spec F.warehouselaw17_light g _) ?_
  (conv => whnf); refine recA (fun h0 => ?_) (fun h0 => ?_)
  · (conv => whnf); refine ACalls.use (fin _) ?_
    conv => whnf
  (conv => whnf); refine ACalls.use (agg_Result_spec F.aggregate_Result f g _) ?_
  (conv => whnf); refine ACalls.use (ref17_Result_spec F.warehouseref17_Result f g _) ?_
  (conv => whnf); refine recF (by simp) ?_
  (conv => whnf); refine recF (by simp) ?_
  (conv => whnf); refine And.intro (by decide) ?_
  (conv => whnf); refine ACalls.use (items_spec F.warehouselaw17_items false l (and64 n 15) _ (by omega) _) ?_
  conv => whnf
  refine ACalls.use (added0_spec F.warehouselaw17_added false _ (by rw [itsV_length]; omega) (itsV_ItOk _ _ _) _) ?_
  conv => whnf
  refine ⟨fun m ρ H1 => ∃ k : Nat, k + m = 10 ∧ H1 = [.arr 2 [gV g], .arr 3 [valC (resV f g)], .arr 3 [valC (resV f g)], .arr 2 [gV (addAll g0 (itsV l (and64 n 15).toNat (w64 (1 + and64 (shrI n 4) 3)))).1]] ∧
    Sv 85 [(13, .ptr 3 1 0 0), (14, .bool true), (15, .int .i64 k)] ρ, 10, [], ?_, ?_⟩
  · exact ⟨0, by omega, rfl, Sv.intro rfl ⟨rfl, rfl, rfl, trivial⟩⟩
  rintro m ρ H1 ⟨k, hk, rfl, d, rfl⟩
  (conv => whnf); refine recA (fun hlt => ?_) (fun hlt => ?_)
  · simp at hlt
    (conv => whnf); refine ACalls.use (agg_Result_spec F.aggregate_Result k (addAll g0 (itsV l (and64 n 15).toNat (w64 (1 + and64 (shrI n 4) 3)))).1 _) ?_
    (conv => whnf); refine ACalls.use (ref17_Result_spec F.warehouseref17_Result k (addAll g0 (itsV l (and64 n 15).toNat (w64 (1 + and64 (shrI n 4) 3)))).1 _) ?_
    (conv => whnf); refine recF (by simp) ?_
    (conv => whnf); refine recF (by simp) ?_
    conv => whnf
    refine ⟨m - 1, by omega, Gp.first 4 [.arr 2 [gV g], .arr 3 [valC (resV f g)], .arr 3 [valC (resV f g)], .arr 2 [gV (addAll g0 (itsV l (and64 n 15).toNat (w64 (1 + and64 (shrI n 4) 3)))).1]] rfl rfl (by simp [pureO, pureEs, gV, valC, AVal.isPure]) rfl ?_ fun ρ1 h => ⟨k + 1, by omega, rfl, h⟩⟩
    exact ⟨.keepP 3 1 0 0 3 rfl, .closed _ rfl, pub_int (wrapI ((k : Int) + 1) (by omega) (by omega)), trivial⟩
  · (conv => whnf); refine ACalls.use (fin _) ?_
    conv => whnf

end Go.AW

namespace Go.AW
attribute [local irreducible] ACalls
theorem addAll_all_spec {P : Program} (F : F_warehouselaw17_added P) (ex : Bool) (G : Grp) (p l : List It) (hG : Rep G p) (hp : ∀ x ∈ p, ItOk x) (hl : p.length + l.length ≤ 4096) (hok : ∀ x ∈ l, ItOk x) (H : List AObj) :
    ACalls P F.id [.agg (gV G), .list ex 4 (iT l)] H (fun r H' => r = .tuple [.agg (gV (addAll G l).1), .bool true] ∧ H' = H) := by
  have h := added_spec F ex G l (by omega) H
  rw [(addAll_rep l hG hp hok hl).1] at h
  exact h

theorem merG_rep {G G' : Grp} {p q : List It} (h : Rep G p) (h' : Rep G' q) (hp : ∀ x ∈ p, ItOk x) (hq : ∀ x ∈ q, ItOk x) (hl : p.length + q.length ≤ 4096) :
    merE G G' = 0 ∧ Rep (merG G G') (p ++ q) := by
  have hm := h.merge h' hp hq hl
  have hz : prmE G G' = 0 := by rw [prmE, if_neg (by simp [h.ok]), h'.ok]
  rw [merE, merG, if_neg (by simp [hz]), if_neg (by simp [hz])]
  exact hm

theorem sumL_small (a b : List Ent) (ha : bagB a = 0) (hb : bagB b = 0) : (sumL a b).length ≤ 1000000 ∧ ∀ e ∈ sumL a b, e.row.length ≤ 1000000 := by
  have h1 := mrg_length a b
  have h2 := List.length_filter_le nzB (mrg a b)
  have h3 := (bagB_ok ha).1
  have h4 := (bagB_ok hb).1
  refine ⟨?_, fun e he => ?_⟩
  · show ((mrg a b).filter nzB).length ≤ 1000000; omega
  · have := mrg_row (n := 1000000) a b (fun e he => by have := ((bagB_ok ha).2.1 e he).1; omega) (fun e he => by have := ((bagB_ok hb).2.1 e he).1; omega)
    exact this e (List.mem_filter.1 he).1

theorem merG_small (g h : Grp) : (merG g h).vals.length ≤ 1000000 ∧ ∀ e ∈ (merG g h).vals, e.row.length ≤ 1000000 := by
  rw [merG]
  split
  · exact ⟨by simp, fun e he => by simp at he⟩
  · rename_i hz
    rw [prmE] at hz
    split at hz
    · rename_i h1; exact absurd (fun h => h1 h) hz
    · rename_i h1
      rw [mrgG]
      split
      · exact sumL_small _ _ (grpB_ok (Classical.byContradiction h1)).2.2.1 (grpB_ok (Classical.byContradiction hz)).2.2.1
      · exact ⟨by simp, fun e he => by simp at he⟩

set_option maxRecDepth 20000 in
theorem law_AggregateMerges {P : Program} (F : F_warehouselaw17_AggregateMerges P) (g h : Grp) (l m : List Int) (n : Int) :
    ACalls P F.id [.agg (gV g), .agg (gV h), .list false 1 (iC l), .list false 1 (iC m), .int .i64 n] [] (fun r _ => r = .bool true) := by
  have e7 := and_7 n
  have e7' := and_7 (shrI n 3)
  have fin : ∀ H, ACalls P F.warehouselaw17_known.id [] H (fun r H' => r = .bool true ∧ H' = H) := known17_spec F.warehouselaw17_known
  refine acalls_of_body F.has ?_
  (conv => whnf); refine ACalls.use (light_spec F.warehouselaw17_light g _) ?_
  (conv => whnf); refine recA (fun h0 => ?_) (fun h0 => ?_)
  · (conv => whnf); refine ACalls.use (fin _) ?_
    conv => whnf
  (conv => whnf); refine ACalls.use (light_spec F.warehouselaw17_light h _) ?_
  (conv => whnf); refine recA (fun h1 => ?_) (fun h1 => ?_)
  · (conv => whnf); refine ACalls.use (fin _) ?_
    conv => whnf
  (conv => whnf); refine ACalls.use (agg_Merge_spec F.aggregate_Merge g h _) ?_
  (conv => whnf); refine ACalls.use (ref17_Merge_spec F.warehouseref17_Merge g h _) ?_
  (conv => whnf); refine And.intro (by decide) ?_
  (conv => whnf); refine ACalls.use (items_spec F.warehouselaw17_items false l (and64 n 7) (w64 (1 + and64 (shrI n 6) 3)) (by omega) _) ?_
  (conv => whnf); refine And.intro (by decide) ?_
  (conv => whnf); refine And.intro (by decide) ?_
  (conv => whnf); refine ACalls.use (items_spec F.warehouselaw17_items false m (and64 (shrI n 3) 7) (w64 (1 + and64 (shrI n 6) 3)) (by omega) _) ?_
  have hp := itsV_ItOk l (and64 n 7).toNat (w64 (1 + and64 (shrI n 6) 3))
  have hq := itsV_ItOk m (and64 (shrI n 3) 7).toNat (w64 (1 + and64 (shrI n 6) 3))
  have lp := itsV_length l (and64 n 7).toNat (w64 (1 + and64 (shrI n 6) 3))
  have lq := itsV_length m (and64 (shrI n 3) 7).toNat (w64 (1 + and64 (shrI n 6) 3))
  have hx := addAll0_rep _ (by rw [lp]; omega) hp
  have hy := addAll0_rep _ (by rw [lq]; omega) hq
  have hz := merG_rep hx hy hp hq (by rw [lp, lq]; omega)
  have hw := merG_rep hy hx hq hp (by rw [lp, lq]; omega)
  have hb := (addAll_rep _ hx hp hq (by rw [lp, lq]; omega)).2
  have ezw := hz.2.uniq hw.2 (by rw [tot_append, tot_append]; omega) (fun φ => by rw [tot_append, tot_append]; omega)
  have ezb := hz.2.uniq hb rfl (fun φ => rfl)
  (conv => whnf); refine ACalls.use (added0_spec F.warehouselaw17_added false _ (by rw [lp]; omega) hp _) ?_
  (conv => whnf); refine ACalls.use (added0_spec F.warehouselaw17_added false _ (by rw [lq]; omega) hq _) ?_
  (conv => whnf); refine ACalls.use (addAll_all_spec F.warehouselaw17_added false _ _ _ hx hp (by rw [lp, lq]; omega) hq _) ?_
  (conv => whnf); refine ACalls.use (agg_Merge_spec F.aggregate_Merge _ _ _) ?_
  (conv => whnf); refine ACalls.use (agg_Merge_spec F.aggregate_Merge _ _ _) ?_
  rw [hz.1, hw.1, ← ezw, ← ezb]
  (conv => whnf); refine ACalls.use (ref17_Same_refl F.warehouseref17_Same (merG g h) (merG_small g h).1 (merG_small g h).2 _) ?_
  (conv => whnf); refine recT (by simp) ?_
  (conv => whnf); refine ACalls.use (ref17_Same_refl F.warehouseref17_Same _ (merG_small _ _).1 (merG_small _ _).2 _) ?_
  (conv => whnf); refine ACalls.use (ref17_Same_refl F.warehouseref17_Same _ (merG_small _ _).1 (merG_small _ _).2 _) ?_
  (conv => whnf); refine ACalls.use (fin _) ?_
  conv => whnf

end Go.AW

namespace Go.AW
attribute [local irreducible] ACalls
def negIt (x : It) : It := ⟨x.v, -x.c⟩

theorem negIt_ok {x : It} (h : ItOk x) : ItOk (negIt x) := ⟨h.1, by have := h.2; show -5 ≤ -x.c; omega, by have := h.2; show -x.c ≤ 5; omega⟩

theorem tot_negIt_c (l : List It) : tot It.c (l.map negIt) = - tot It.c l := by
  rw [tot_map It.c (fun x => - x.c) negIt (fun x => rfl), tot_neg]

theorem tot_negIt_w (φ : List V → Int) (l : List It) : tot (wt φ) (l.map negIt) = - tot (wt φ) l := by
  rw [tot_map (wt φ) (fun x => - wt φ x) negIt (fun x => ?_), tot_neg]
  unfold wt negIt
  split <;> simp [Int.neg_mul]

theorem Rep.small {G : Grp} {l : List It} (h : Rep G l) : G.vals.length ≤ 1000000 ∧ ∀ e ∈ G.vals, e.row.length ≤ 1000000 := grp_small h.ok

set_option maxRecDepth 20000 in
theorem law_AggregateForgets {P : Program} (F : F_warehouselaw17_AggregateForgets P) (l m : List Int) (n : Int) :
    ACalls P F.id [.list false 1 (iC l), .list false 1 (iC m), .int .i64 n] [] (fun r _ => r = .bool true) := by
  have e7 := and_7 n
  have e7' := and_7 (shrI n 3)
  have fin : ∀ H, ACalls P F.warehouselaw17_known.id [] H (fun r H' => r = .bool true ∧ H' = H) := known17_spec F.warehouselaw17_known
  obtain ⟨p, hpd⟩ : ∃ p, p = itsV l (and64 n 7).toNat (w64 (1 + and64 (shrI n 6) 3)) := ⟨_, rfl⟩
  obtain ⟨q, hqd⟩ : ∃ q, q = itsV m (and64 (shrI n 3) 7).toNat (w64 (1 + and64 (shrI n 6) 3)) := ⟨_, rfl⟩
  have hp : ∀ x ∈ p, ItOk x := hpd ▸ itsV_ItOk _ _ _
  have hq : ∀ x ∈ q, ItOk x := hqd ▸ itsV_ItOk _ _ _
  have lp : p.length < 8 := by rw [hpd, itsV_length]; omega
  have lq : q.length < 8 := by rw [hqd, itsV_length]; omega
  have hI1 := fun H => items_spec F.warehouselaw17_items false l (and64 n 7) (w64 (1 + and64 (shrI n 6) 3)) (by omega) H
  have hI2 := fun H => items_spec F.warehouselaw17_items false m (and64 (shrI n 3) 7) (w64 (1 + and64 (shrI n 6) 3)) (by omega) H
  rw [← hpd] at hI1
  rw [← hqd] at hI2
  obtain ⟨qq, hqq⟩ : ∃ qq, qq = if and64 (shrI n 8) 1 = 1 then q else q.reverse := ⟨_, rfl⟩
  have lqq : qq.length = q.length := by rw [hqq]; split <;> simp
  have hqqok : ∀ x ∈ qq, ItOk x := by rw [hqq]; intro x hx; split at hx; exact hq x hx; exact hq x (List.mem_reverse.1 hx)
  have tqq : ∀ f, tot f qq = tot f q := fun f => by rw [hqq]; split; rfl; exact tot_reverse f q
  have hx := addAll0_rep p (by omega) hp
  have hy := (addAll_rep q hx hp hq (by omega)).2
  refine acalls_of_body F.has ?_
  (conv => whnf); refine And.intro (by decide) ?_
  (conv => whnf); refine ACalls.use (hI1 _) ?_
  (conv => whnf); refine And.intro (by decide) ?_
  (conv => whnf); refine And.intro (by decide) ?_
  (conv => whnf); refine ACalls.use (hI2 _) ?_
  (conv => whnf); refine ACalls.use (added0_spec F.warehouselaw17_added false p (by omega) hp _) ?_
  (conv => whnf); refine ACalls.use (addAll_all_spec F.warehouselaw17_added false _ p q hx hp (by omega) hq _) ?_
  conv => whnf
  refine ⟨fun m' ρ H1 => ∃ (j : Nat) (Y : Grp), j + m' = q.length ∧ Rep Y (p ++ q ++ (qq.take j).map negIt) ∧
    H1 = [.arr 2 [gV (addAll g0 p).1], .arr 2 [gV Y]] ∧
    Sv 94 [(2, .int .i64 n), (8, .list false 4 (iT q)), (9, .ptr 0 1 0 0), (10, .bool true), (11, .ptr 1 1 0 0), (12, .bool true), (13, .int .i64 ((q.length : Int) - 1 - j))] ρ, q.length, [], ?_, ?_⟩
  · refine ⟨0, _, by omega, by simpa using hy, rfl, Sv.intro rfl ⟨rfl, rfl, rfl, rfl, rfl, rfl, intEq ?_, trivial⟩⟩
    have := wrapI ((q.length : Int) - 1) (by omega) (by omega)
    show IntKind.i64.wrap (((iT q).length : Int) - 1) = _
    rw [iT_length]; omega
  rintro m' ρ H1 ⟨j, Y, hj, hY, rfl, d, rfl⟩
  (conv => whnf); refine recA (fun hlt => ?_) (fun hlt => ?_)
  · replace hlt : decide ((q.length : Int) - 1 - j ≥ 0) = true := hlt
    simp at hlt
    obtain ⟨x, hxj, hd, hxm⟩ := get_drop (l := qq) (k := j) (by omega)
    have htk : (qq.take (j + 1)).map negIt = (qq.take j).map negIt ++ [negIt x] := by rw [List.take_add_one, hxj]; simp
    have hall : ∀ y ∈ p ++ q ++ (qq.take j).map negIt, ItOk y := fun y hy => by
      rcases List.mem_append.1 hy with hy | hy
      · exact (List.mem_append.1 hy).elim (hp y) (hq y)
      · obtain ⟨z, hz, rfl⟩ := List.mem_map.1 hy
        exact negIt_ok (hqqok z (List.mem_of_mem_take hz))
    have hone : ∀ y ∈ [negIt x], ItOk y := fun y hy => by rw [List.mem_singleton] at hy; subst hy; exact negIt_ok (hqqok x hxm)
    have hll : (p ++ q ++ (qq.take j).map negIt).length + [negIt x].length ≤ 4096 := by simp; omega
    have hY' : Rep (addAll Y [negIt x]).1 (p ++ q ++ (qq.take (j + 1)).map negIt) := by
      have := (addAll_rep _ hY hall hone hll).2
      rw [htk, ← List.append_assoc]; exact this
    have hw : IntKind.i64.wrap (0 - x.c) = -x.c := by
      have := (hqqok x hxm).2
      rw [wrapI _ (by omega) (by omega)]; omega
    have hcall : ∀ H, ACalls P F.warehouselaw17_added.id [.agg (gV Y), .list true 4 [[.int .i64 x.v.kind, .int .i64 x.v.num, .str x.v.str, .int .i64 (IntKind.i64.wrap (0 - x.c))]]] H (fun r H' => r = .tuple [.agg (gV (addAll Y [negIt x]).1), .bool true] ∧ H' = H) := fun H => by
      rw [hw]; exact addAll_all_spec F.warehouselaw17_added true Y _ [negIt x] hY hall hll hone H
    (conv => whnf); refine And.intro (by decide) ?_
    (conv => whnf); refine recA (fun hb => ?_) (fun hb => ?_)
    · replace hb : (and64 (shrI n 8) 1 == 1) = true := hb
      simp at hb
      have hxq : (iT q)[j]? = some (itC x) := iT_at (by rw [hqq, if_pos hb] at hxj; exact hxj)
      have w1 := wrapI ((q.length : Int) - 1) (by omega) (by omega)
      have w2 := wrapI ((j : Int)) (by omega) (by omega)
      have hEE : IntKind.i64.wrap (IntKind.i64.wrap (((iT q).length : Int) - 1) - ((q.length : Int) - 1 - j)) = (j : Int) := by
        rw [iT_length, w1, show (q.length : Int) - 1 - ((q.length : Int) - 1 - j) = j by omega, w2]
      have hxE : (iT q)[(IntKind.i64.wrap (IntKind.i64.wrap (((iT q).length : Int) - 1) - ((q.length : Int) - 1 - j))).toNat]? = some (itC x) := by rw [hEE]; exact hxq
      (conv => whnf); refine And.intro (by rw [hEE]; omega) ?_
      (conv => whnf); refine recO (hxE) ?_
      (conv => whnf); refine And.intro (by rw [hEE]; omega) ?_
      (conv => whnf); refine recO (hxE) ?_
      (conv => whnf); refine ⟨_, hcall _, ?_⟩
      conv => whnf
      refine ⟨m' - 1, by omega, Gp.keep rfl ?_ fun ρ1 h => ⟨j + 1, (addAll Y [negIt x]).1, by omega, hY', rfl, h⟩⟩
      exact ⟨rfl, rfl, rfl, rfl, rfl, rfl, intEq (by have := wrapI ((q.length : Int) - 1 - j - 1) (by omega) (by omega); show IntKind.i64.wrap ((q.length : Int) - 1 - j - 1) = _; omega), trivial⟩
    · replace hb : (and64 (shrI n 8) 1 == 1) = false := hb
      simp at hb
      have hxq : (iT q)[q.length - 1 - j]? = some (itC x) := iT_at (by rw [hqq, if_neg hb, List.getElem?_reverse (by omega)] at hxj; exact hxj)
      have hEE : ((q.length : Int) - 1 - j) = ((q.length - 1 - j : Nat) : Int) := by omega
      have hxE : (iT q)[((q.length : Int) - 1 - j).toNat]? = some (itC x) := by rw [hEE]; exact hxq
      (conv => whnf); refine And.intro (by rw [hEE]; omega) ?_
      (conv => whnf); refine recO (hxE) ?_
      (conv => whnf); refine And.intro (by rw [hEE]; omega) ?_
      (conv => whnf); refine recO (hxE) ?_
      (conv => whnf); refine ⟨_, hcall _, ?_⟩
      conv => whnf
      refine ⟨m' - 1, by omega, Gp.keep rfl ?_ fun ρ1 h => ⟨j + 1, (addAll Y [negIt x]).1, by omega, hY', rfl, h⟩⟩
      exact ⟨rfl, rfl, rfl, rfl, rfl, rfl, intEq (by have := wrapI ((q.length : Int) - 1 - j - 1) (by omega) (by omega); show IntKind.i64.wrap ((q.length : Int) - 1 - j - 1) = _; omega), trivial⟩
  · replace hlt : decide ((q.length : Int) - 1 - j ≥ 0) = false := hlt
    simp at hlt
    have hjq : j = q.length := by omega
    have hYx : (addAll g0 p).1 = Y := hx.uniq hY (by
      rw [tot_append, tot_append, tot_negIt_c, List.take_of_length_le (by omega), tqq]; omega) (fun φ => by
      rw [tot_append, tot_append, tot_negIt_w, List.take_of_length_le (by omega), tqq]; omega)
    subst hYx
    (conv => whnf); refine ACalls.use (ref17_Same_refl F.warehouseref17_Same _ hx.small.1 hx.small.2 _) ?_
    (conv => whnf); refine ACalls.use (fin _) ?_
    conv => whnf

end Go.AW

namespace Go.AW
attribute [local irreducible] ACalls
theorem setEs_iT (l : List It) (k : Nat) (v : It) : setEs (iT l) k (itC v) = iT (l.set k v) := by rw [setEs_eq]; simp [iT]

theorem setEs_len (es : List (List AVal)) (k : Nat) (e : List AVal) : (setEs es k e).length = es.length := by rw [setEs_eq, List.length_set]

set_option maxRecDepth 20000 in
theorem law_AggregateOrders {P : Program} (F : F_warehouselaw17_AggregateOrders P) (l : List Int) (n a b : Int) :
    ACalls P F.id [.list false 1 (iC l), .int .i64 n, .int .i64 a, .int .i64 b] [] (fun r _ => r = .bool true) := by
  have e7 := and_7 n
  have ea := and_15 a
  have eb := and_15 b
  have fin : ∀ H, ACalls P F.warehouselaw17_known.id [] H (fun r H' => r = .bool true ∧ H' = H) := known17_spec F.warehouselaw17_known
  have w2 := wrapI (2 + and64 n 7) (by omega) (by omega)
  obtain ⟨p, hpd⟩ : ∃ p, p = itsV l (IntKind.i64.wrap (2 + and64 n 7)).toNat (w64 (1 + and64 (shrI n 6) 3)) := ⟨_, rfl⟩
  have hp : ∀ x ∈ p, ItOk x := hpd ▸ itsV_ItOk _ _ _
  have lp : p.length < 10 ∧ 2 ≤ p.length := by rw [hpd, itsV_length, w2]; omega
  have hI1 := fun H => items_spec F.warehouselaw17_items false l (IntKind.i64.wrap (2 + and64 n 7)) (w64 (1 + and64 (shrI n 6) 3)) (by omega) H
  rw [← hpd] at hI1
  have lI := iT_length p
  have hx := addAll0_rep p (by omega) hp
  have hi0 : 0 ≤ (and64 a 15).tmod p.length := Int.tmod_nonneg _ (by omega)
  have hi1 : (and64 a 15).tmod p.length < p.length := Int.tmod_lt_of_pos _ (by omega)
  have hj0 : 0 ≤ (and64 b 15).tmod p.length := Int.tmod_nonneg _ (by omega)
  have hj1 : (and64 b 15).tmod p.length < p.length := Int.tmod_lt_of_pos _ (by omega)
  obtain ⟨i, hi⟩ : ∃ i : Nat, (and64 a 15).tmod p.length = i := ⟨((and64 a 15).tmod p.length).toNat, by omega⟩
  obtain ⟨j, hj⟩ : ∃ j : Nat, (and64 b 15).tmod p.length = j := ⟨((and64 b 15).tmod p.length).toNat, by omega⟩
  obtain ⟨x, hxi, _, hxm⟩ := get_drop (l := p) (k := i) (by omega)
  obtain ⟨y, hyj, _, hym⟩ := get_drop (l := p) (k := j) (by omega)
  have hiI : (and64 a 15).tmod ((iT p).length : Int) = i := by rw [lI]; exact hi
  have hjI : (and64 b 15).tmod ((iT p).length : Int) = j := by rw [lI]; exact hj
  refine acalls_of_body F.has ?_
  (conv => whnf); refine And.intro (by decide) ?_
  (conv => whnf); refine ACalls.use (hI1 _) ?_
  (conv => whnf); refine And.intro (⟨roomMul (by omega) (by omega), roomB_le (by omega)⟩) ?_
  have hbO : (iT p)[0 + ((and64 b 15).tmod ((iT p).length : Int)).toNat]? = some (itC y) := by rw [hjI, Nat.zero_add, Int.toNat_natCast]; exact iT_at hyj
  have haO : (iT p)[0 + ((and64 a 15).tmod ((iT p).length : Int)).toNat]? = some (itC x) := by rw [hiI, Nat.zero_add, Int.toNat_natCast]; exact iT_at hxi
  have bb : 0 ≤ (and64 b 15).tmod ((iT p).length : Int) ∧ (and64 b 15).tmod ((iT p).length : Int) < ((iT p).length : Int) := by rw [hjI]; omega
  have ba : 0 ≤ (and64 a 15).tmod ((iT p).length : Int) ∧ (and64 a 15).tmod ((iT p).length : Int) < ((iT p).length : Int) := by rw [hiI]; omega
  have hs1 : setEs (iT p) (0 + ((and64 a 15).tmod ((iT p).length : Int)).toNat) (itC y) = iT (p.set i y) := by rw [hiI, Nat.zero_add, Int.toNat_natCast, setEs_iT]
  have hbO2 : (setEs (iT p) (0 + ((and64 a 15).tmod ((iT p).length : Int)).toNat) (itC y))[0 + ((and64 b 15).tmod ((iT p).length : Int)).toNat]? = some (itC y) := by
    rw [hs1, hjI, Nat.zero_add, Int.toNat_natCast]
    refine iT_at ?_
    by_cases e : i = j
    · subst e; rw [List.getElem?_set_self (by omega)]
    · rw [List.getElem?_set_ne e]; exact hyj
  have hs2 : setEs (setEs (iT p) (0 + ((and64 a 15).tmod ((iT p).length : Int)).toNat) (itC y)) (0 + ((and64 b 15).tmod ((iT p).length : Int)).toNat) (itC x) = iT ((p.set i y).set j x) := by
    rw [hs1, hjI, Nat.zero_add, Int.toNat_natCast, setEs_iT]
  (conv => whnf); refine recT (by exact Nat.beq_refl _) ?_
  (conv => whnf); refine And.intro (by omega) ?_
  (conv => whnf); refine recT (by exact Nat.beq_refl _) ?_
  (conv => whnf); refine And.intro (by omega) ?_
  (conv => whnf); refine recT (by exact Nat.beq_refl _) ?_
  (conv => whnf); refine And.intro (bb) ?_
  (conv => whnf); refine recT (by exact Nat.beq_refl _) ?_
  (conv => whnf); refine recO (hbO) ?_
  (conv => whnf); refine recT (by exact Nat.beq_refl _) ?_
  (conv => whnf); refine And.intro (ba) ?_
  (conv => whnf); refine recT (by exact Nat.beq_refl _) ?_
  (conv => whnf); refine recO (haO) ?_
  (conv => whnf); refine recT (by exact Nat.beq_refl _) ?_
  (conv => whnf); refine And.intro (ba) ?_
  (conv => whnf); refine recT (by exact Nat.beq_refl _) ?_
  (conv => whnf); refine recO (haO) ?_
  (conv => whnf); refine recT (by rw [setEs_len]; exact Nat.beq_refl _) ?_
  (conv => whnf); refine And.intro (bb) ?_
  (conv => whnf); refine recT (by rw [setEs_len]; exact Nat.beq_refl _) ?_
  (conv => whnf); refine recO (hbO2) ?_
  conv => whnf
  have lq : ((p.set i y).set j x).length = p.length := by simp
  have hq : ∀ z ∈ (p.set i y).set j x, ItOk z := fun z hz => by
    rcases List.mem_or_eq_of_mem_set hz with hz | rfl
    · rcases List.mem_or_eq_of_mem_set hz with hz | rfl
      · exact hp z hz
      · exact hp _ hym
    · exact hp _ hxm
  refine Ghost.none (n := 76) (live := [(9, .list false 4 (iT p)), (10, .list false 4 (iT ((p.set i y).set j x)))]) rfl ⟨.closed _ rfl, ?_, trivial⟩ ?_
  · exact pubF (by show some (AObj.arr 4 (setEs (setEs (iT p) (0 + ((and64 a 15).tmod ((iT p).length : Int)).toNat) (itC y)) (0 + ((and64 b 15).tmod ((iT p).length : Int)).toNat) (itC x))) = _; rw [hs2]) (by rw [iT_length, iT_length, lq]) (by rw [iT_length, iT_length, lq]) (pureEs_iT _)
  rintro ρ1 ⟨d, rfl⟩
  have hy := addAll0_rep _ (by rw [lq]; omega) hq
  have e := hx.uniq hy (tot_swap It.c p i j x y hxi hyj).symm (fun φ => (tot_swap (wt φ) p i j x y hxi hyj).symm)
  (conv => whnf); refine ACalls.use (added0_spec F.warehouselaw17_added false p (by omega) hp _) ?_
  (conv => whnf); refine ACalls.use (added0_spec F.warehouselaw17_added false _ (by rw [lq]; omega) hq _) ?_
  rw [← e]
  (conv => whnf); refine ACalls.use (ref17_Same_refl F.warehouseref17_Same _ hx.small.1 hx.small.2 _) ?_
  (conv => whnf); refine ACalls.use (fin _) ?_
  conv => whnf

end Go.AW

namespace Go.AW
theorem tot_ne {f : It → Int} : ∀ (l : List It), tot f l ≠ 0 → ∃ x ∈ l, f x ≠ 0
  | [], h => absurd rfl h
  | x :: l, h => by
    by_cases hx : f x = 0
    · obtain ⟨y, hy, h1⟩ := tot_ne (f := f) l (by rw [tot, hx] at h; intro h'; omega)
      exact ⟨y, List.mem_cons_of_mem _ hy, h1⟩
    · exact ⟨x, List.mem_cons_self .., hx⟩

theorem tot_le {f g : It → Int} : ∀ (l : List It), (∀ x ∈ l, f x ≤ g x) → tot f l ≤ tot g l
  | [], _ => Int.le_refl _
  | x :: l, h => by
    have h1 := tot_le l fun y hy => h y (List.mem_cons_of_mem _ hy)
    have h2 := h x (List.mem_cons_self ..)
    rw [tot, tot]; omega

theorem tot_zero : ∀ (l : List It), tot (fun _ => 0) l = 0
  | [] => rfl
  | x :: l => by rw [tot, tot_zero l]; rfl

def sumN (l : List Ent) : Int := wsum (fun _ => 1) l

def sumS : List Ent → Int
  | [] => 0
  | e :: l => num0 e * e.cnt + sumS l

theorem sumN_cons (e : Ent) (l : List Ent) : sumN (e :: l) = e.cnt + sumN l := by rw [sumN, wsum, Int.mul_one]; rfl

theorem sumN_len : ∀ (l : List Ent), (∀ e ∈ l, 1 ≤ e.cnt) → (l.length : Int) ≤ sumN l
  | [], _ => Int.le_refl _
  | e :: l, h => by
    have h1 := sumN_len l fun y hy => h y (List.mem_cons_of_mem _ hy)
    have h2 := h e (List.mem_cons_self ..)
    rw [sumN_cons, List.length_cons]; omega

theorem mul_bound {a b B : Int} (h1 : -B ≤ a) (h2 : a ≤ B) (hb : 0 ≤ b) : -(B * b) ≤ a * b ∧ a * b ≤ B * b := by
  have e1 := Int.mul_le_mul_of_nonneg_right h1 hb
  have e2 := Int.mul_le_mul_of_nonneg_right h2 hb
  rw [Int.neg_mul] at e1
  exact ⟨e1, e2⟩

theorem totGo_exact : ∀ (l : List Ent) (s c : Int), (∀ e ∈ l, -2147483648 ≤ num0 e ∧ num0 e ≤ 2147483648 ∧ 1 ≤ e.cnt) → 0 ≤ c → c + sumN l ≤ 100000 → -(2147483648 * c) ≤ s → s ≤ 2147483648 * c →
    totGo l s c = (s + sumS l, c + sumN l)
  | [], s, c, _, _, _, _, _ => by rw [totGo, sumS]; simp [sumN, wsum]
  | e :: l, s, c, h, hc, hn, h1, h2 => by
    obtain ⟨e1, e2, e3⟩ := h e (List.mem_cons_self ..)
    have hl := fun y hy => h y (List.mem_cons_of_mem e hy)
    have hN := sumN_len l fun y hy => (hl y hy).2.2
    rw [sumN_cons] at hn
    obtain ⟨m1, m2⟩ := mul_bound (b := e.cnt) e1 e2 (by omega)
    have w1 : w64 (num0 e * e.cnt) = num0 e * e.cnt := wrapI _ (by omega) (by omega)
    have w2 : w64 (s + num0 e * e.cnt) = s + num0 e * e.cnt := wrapI _ (by omega) (by omega)
    have w3 : w64 (c + e.cnt) = c + e.cnt := wrapI _ (by omega) (by omega)
    rw [totGo, w1, w2, w3, totGo_exact l _ _ hl (by omega) (by omega) (by omega) (by omega), sumN_cons, sumS]
    ext <;> simp <;> omega

theorem sumS_bounds (lo hi : Int) : ∀ (l : List Ent), (∀ e ∈ l, lo ≤ num0 e ∧ num0 e ≤ hi ∧ 1 ≤ e.cnt) → lo * sumN l ≤ sumS l ∧ sumS l ≤ hi * sumN l
  | [], _ => by simp [sumN, wsum, sumS]
  | e :: l, h => by
    obtain ⟨e1, e2, e3⟩ := h e (List.mem_cons_self ..)
    have ih := sumS_bounds lo hi l fun y hy => h y (List.mem_cons_of_mem e hy)
    have m1 := Int.mul_le_mul_of_nonneg_right e1 (by omega : 0 ≤ e.cnt)
    have m2 := Int.mul_le_mul_of_nonneg_right e2 (by omega : 0 ≤ e.cnt)
    rw [sumN_cons, sumS, Int.mul_add, Int.mul_add]
    omega

theorem floorV_exact (S N : Int) (hN : 0 < N) (hN2 : N ≤ 100000) (h1 : -(2147483648 * N) ≤ S) (h2 : S ≤ 2147483648 * N) : N * floorV S N ≤ S ∧ S < N * floorV S N + N := by
  have ed := Int.mul_tdiv_add_tmod S N
  have hr1 := Int.tmod_lt_of_pos S hN
  have hr2 : -N < S.tmod N := Int.lt_tmod_of_pos S hN
  have hq1 : S.tdiv N ≤ 2147483648 := by
    refine Classical.byContradiction fun hn => ?_
    have : N * 2147483649 ≤ N * S.tdiv N := Int.mul_le_mul_of_nonneg_left (by omega) (by omega)
    omega
  have hq2 : -2147483648 ≤ S.tdiv N := by
    refine Classical.byContradiction fun hn => ?_
    have : N * S.tdiv N ≤ N * (-2147483649) := Int.mul_le_mul_of_nonneg_left (by omega) (by omega)
    omega
  have w1 : w64 (S.tdiv N) = S.tdiv N := wrapI _ (by omega) (by omega)
  have w2 : w64 (S.tdiv N - 1) = S.tdiv N - 1 := wrapI _ (by omega) (by omega)
  rw [floorV]
  by_cases h : S.tmod N < 0
  · rw [if_pos h, w1, w2, Int.mul_sub]; omega
  · rw [if_neg h, w1]; omega

theorem between {N m S lo hi : Int} (hN : 0 < N) (h1 : N * m ≤ S) (h2 : S < N * m + N) (h3 : lo * N ≤ S) (h4 : S ≤ hi * N) : lo ≤ m ∧ m ≤ hi := by
  constructor
  · refine Classical.byContradiction fun hn => ?_
    have : N * (m + 1) ≤ N * lo := Int.mul_le_mul_of_nonneg_left (by omega) (by omega)
    rw [Int.mul_add, Int.mul_one, Int.mul_comm N lo] at this
    omega
  · refine Classical.byContradiction fun hn => ?_
    have : N * (hi + 1) ≤ N * m := Int.mul_le_mul_of_nonneg_left (by omega) (by omega)
    rw [Int.mul_add, Int.mul_one, Int.mul_comm N hi] at this
    omega

def BItem (x : It) : Prop := validB x.v = true ∧ 0 ≤ x.c ∧ x.c ≤ 5 ∧ (x.v.kind ≠ 0 → x.v.kind = 2 ∧ -1073741824 ≤ x.v.num ∧ x.v.num ≤ 1073741824)

theorem BItem.ok {x : It} (h : BItem x) : ItOk x := ⟨h.1, by have := h.2.1; omega, h.2.2.1⟩

theorem bounds_ent {G : Grp} {p : List It} (h : Rep G p) (hp : ∀ x ∈ p, BItem x) : ∀ e ∈ G.vals, ∃ v : V, e.row = [v] ∧ v.kind = 2 ∧ -1073741824 ≤ v.num ∧ v.num ≤ 1073741824 ∧ 1 ≤ e.cnt := by
  intro e he
  have hb := (bagB_iff _).1 (grpB_ok h.ok).2.2.1
  have hne := (hb.2.1 e he).2
  have hc : e.cnt = tot (wt (ind e.row)) p := by rw [← h.cnt, ← cntL_wsum, cntL_mem hb.2.2 he]
  obtain ⟨x, hx, hx0⟩ := tot_ne p (by rw [← hc]; exact hne)
  have hk : x.v.kind ≠ 0 := fun hz => hx0 (by rw [wt, if_neg (by simp [hz])])
  have hrow : [x.v] = e.row := by
    refine (rowsCmp_zero _ _).1 (Classical.byContradiction fun hn => hx0 ?_)
    rw [wt, if_pos hk, ind, if_neg hn, Int.mul_zero]
  have hge : 0 ≤ tot (wt (ind e.row)) p := by
    have := tot_le (f := fun _ => 0) (g := wt (ind e.row)) p fun y hy => by
      have := (hp y hy).2.1
      unfold wt ind
      split
      · split <;> omega
      · omega
    rw [tot_zero] at this; exact this
  obtain ⟨k2, k3, k4⟩ := (hp x hx).2.2.2 hk
  exact ⟨x.v, hrow.symm, k2, k3, k4, by omega⟩

theorem num0_one {e : Ent} {v : V} (h : e.row = [v]) : num0 e = v.num ∧ row0 e = v := by rw [num0, row0, h]; exact ⟨rfl, rfl⟩

theorem sumN_le {G : Grp} {p : List It} (h : Rep G p) (hp : ∀ x ∈ p, BItem x) : sumN G.vals ≤ G.n ∧ G.n ≤ 5 * p.length ∧ 0 ≤ G.n := by
  have h1 : sumN G.vals = tot (wt fun _ => 1) p := h.cnt _
  have h2 := tot_le (f := wt fun _ => 1) (g := It.c) p fun y hy => by
    have := (hp y hy).2.1
    unfold wt; split
    · show y.c * 1 ≤ y.c; omega
    · omega
  have h3 := tot_bound It.c 5 (by omega) p fun y hy => (hp y hy).ok.2
  have h4 := tot_le (f := fun _ => 0) (g := It.c) p fun y hy => (hp y hy).2.1
  rw [tot_zero] at h4
  have := h.n
  omega

theorem pres_all {l : List Ent} (h : ∀ e ∈ l, 1 ≤ e.cnt) : presV l = l.map row0 := by
  rw [presV, List.filter_eq_self.2 fun e he => by have := h e he; simp [posB]; omega]

def cntF (l : List Ent) (r : List V) : Int := match l with
  | [] => 0
  | e :: l => if rowsCmp e.row r = 0 then e.cnt else cntF l r

theorem cntF_pos : ∀ (l : List Ent) (r : List V), (∀ e ∈ l, 1 ≤ e.cnt) → (∃ e ∈ l, e.row = r) → 1 ≤ cntF l r
  | [], _, _, ⟨e, he, _⟩ => by simp at he
  | x :: l, r, h, ⟨e, he, hr⟩ => by
    rw [cntF]
    by_cases hx : rowsCmp x.row r = 0
    · rw [if_pos hx]; exact h x (List.mem_cons_self ..)
    · rw [if_neg hx]
      rcases List.mem_cons.1 he with rfl | he
      · exact absurd ((rowsCmp_zero _ _).2 hr) hx
      · exact cntF_pos l r (fun y hy => h y (List.mem_cons_of_mem _ hy)) ⟨e, he, hr⟩

theorem rowsCmp_single (a b : V) : rowsCmp [a] [b] = valCmp a b := by
  rw [rowsCmp]; split
  · rename_i h; rw [h]; rfl
  · rfl

theorem valCmp_num {a b : V} (ha : a.kind = 2) (hb : b.kind = 2) (h : valCmp a b ≤ 0) : a.num ≤ b.num := by
  refine Classical.byContradiction fun hn => ?_
  have h1 : cmpI a.kind b.kind = 0 := by rw [ha, hb]; rfl
  have h2 : cmpI a.num b.num = 1 := by rw [cmpI, if_neg (by omega), if_pos (by omega)]
  rw [valCmp, orI, h1, orI, h2] at h
  simp at h

structure Bnd (G : Grp) (lo hi : V) (m : Int) : Prop where
  low : resV 4 G = lo
  high : resV 5 G = hi
  mean : resV 7 G = ⟨2, m, bs []⟩
  lok : lo.kind = 2
  hik : hi.kind = 2
  lm : lo.num ≤ m
  mh : m ≤ hi.num
  cl : 1 ≤ cntF G.vals [lo]
  ch : 1 ≤ cntF G.vals [hi]
  cmp : valCmp lo hi ≤ 0

theorem resE_zero {G : Grp} (h : grpB G = 0) (hi : G.vals.any notInt = false) (f : Int) (h1 : 1 ≤ f) (h2 : f ≤ 7) : resE f G = 0 := by
  rw [resE, if_neg (by omega), if_neg (by simp [h]), if_neg (by simp [hi])]

theorem resV_zero {G : Grp} (h : grpB G = 0) (hi : G.vals.any notInt = false) (f : Int) (h1 : 1 ≤ f) (h2 : f ≤ 7) : resV f G = resV0 f G := by
  rw [resV, if_neg (by rw [resE_zero h hi f h1 h2]; simp)]

theorem numV_small {n : Int} (h1 : -1073741824 ≤ n) (h2 : n ≤ 1073741824) : numV n = ⟨2, n, bs []⟩ := by rw [numV, if_neg (by omega)]

theorem bounds_all {G : Grp} {p : List It} (h : Rep G p) (hp : ∀ x ∈ p, BItem x) (hl : p.length ≤ 15) :
    G.vals.any notInt = false ∧ resV 2 G = ⟨2, sumN G.vals, bs []⟩ ∧ resV 6 G = ⟨2, (G.vals.length : Int), bs []⟩ ∧ resV 1 G = ⟨2, G.n, bs []⟩ ∧ (G.vals.length : Int) ≤ sumN G.vals ∧ sumN G.vals ≤ G.n ∧
    (sumN G.vals = 0 → resV 4 G = zV ∧ resV 5 G = zV ∧ resV 7 G = zV) ∧ (sumN G.vals ≠ 0 → ∃ lo hi m, Bnd G lo hi m) := by
  have hent := bounds_ent h hp
  have hpos : ∀ e ∈ G.vals, 1 ≤ e.cnt := fun e he => by obtain ⟨_, _, _, _, _, h⟩ := hent e he; exact h
  have hlen := sumN_len _ hpos
  obtain ⟨n1, n2, n3⟩ := sumN_le h hp
  have hni : G.vals.any notInt = false := by
    rw [List.any_eq_false]
    intro e he
    obtain ⟨v, hv, hk, _⟩ := hent e he
    rw [notInt, hv]; simp [hk]
  have htot : totGo G.vals 0 0 = (sumS G.vals, sumN G.vals) := by
    rw [totGo_exact G.vals 0 0 (fun e he => by
      obtain ⟨v, hv, _, h1, h2, h3⟩ := hent e he
      rw [(num0_one hv).1]; omega) (by omega) (by omega) (by omega) (by omega)]
    simp
  have hpres := pres_all hpos
  have r := fun f h1 h2 => resV_zero h.ok hni f h1 h2
  refine ⟨hni, ?_, ?_, ?_, hlen, n1, fun hz => ?_, fun hz => ?_⟩
  · rw [r 2 (by omega) (by omega), show resV0 2 G = numV (totGo G.vals 0 0).2 from rfl, htot, numV_small (by simp only; omega) (by simp only; omega)]
  · rw [r 6 (by omega) (by omega), show resV0 6 G = numV (presV G.vals).length from rfl, hpres, List.length_map, numV_small (by omega) (by omega)]
  · rw [r 1 (by omega) (by omega), show resV0 1 G = numV G.n from rfl, numV_small (by omega) (by omega)]
  · have hnil : G.vals = [] := List.eq_nil_of_length_eq_zero (by omega)
    refine ⟨?_, ?_, ?_⟩
    · rw [r 4 (by omega) (by omega), show resV0 4 G = (presV G.vals).head?.getD zV from rfl, hnil]; rfl
    · rw [r 5 (by omega) (by omega), show resV0 5 G = (presV G.vals).getLast?.getD zV from rfl, hnil]; rfl
    · rw [r 7 (by omega) (by omega), show resV0 7 G = (if 0 < (totGo G.vals 0 0).2 then numV (floorV (totGo G.vals 0 0).1 (totGo G.vals 0 0).2) else zV) from rfl, htot, if_neg (by simp only; omega)]
  · have hN : 0 < sumN G.vals := by omega
    have hne : G.vals ≠ [] := fun he => hz (by rw [he]; rfl)
    have hsrt := ((bagB_iff _).1 (grpB_ok h.ok).2.2.1).2.2
    obtain ⟨a, t, ha⟩ := List.exists_cons_of_ne_nil hne
    obtain ⟨i, z, hzl⟩ : ∃ i z, G.vals = i ++ [z] := ⟨_, _, (List.dropLast_concat_getLast hne).symm⟩
    have am : a ∈ G.vals := by rw [ha]; exact List.mem_cons_self ..
    have zm : z ∈ G.vals := by rw [hzl]; simp
    obtain ⟨av, arow, ak, a1, a2, a3⟩ := hent a am
    obtain ⟨zv, zrow, zk, z1, z2, z3⟩ := hent z zm
    have hlo : ∀ e ∈ G.vals, av.num ≤ num0 e ∧ valCmp av (row0 e) ≤ 0 := fun e he => by
      obtain ⟨v, hv, hk, _⟩ := hent e he
      have hc : valCmp av v ≤ 0 := by
        rw [ha] at he hsrt
        rcases List.mem_cons.1 he with rfl | he
        · rw [arow] at hv; cases hv; rw [(isCmp_val.zero _ _).2 rfl]; omega
        · have := (List.pairwise_cons.1 hsrt).1 e he
          rw [arow, hv, rowsCmp_single] at this; omega
      rw [(num0_one hv).1, (num0_one hv).2]
      exact ⟨valCmp_num ak hk hc, hc⟩
    have hhi : ∀ e ∈ G.vals, num0 e ≤ zv.num := fun e he => by
      obtain ⟨v, hv, hk, _⟩ := hent e he
      rw [(num0_one hv).1]
      refine valCmp_num hk zk ?_
      rw [hzl] at he hsrt
      rcases List.mem_append.1 he with he | he
      · have := (List.pairwise_append.1 hsrt).2.2 e he z (by simp)
        rw [zrow, hv, rowsCmp_single] at this; omega
      · rw [List.mem_singleton] at he; subst he
        rw [zrow] at hv; cases hv; rw [(isCmp_val.zero _ _).2 rfl]; omega
    have hS := sumS_bounds av.num zv.num G.vals fun e he => ⟨(hlo e he).1, hhi e he, hpos e he⟩
    have mB : -(2147483648 * sumN G.vals) ≤ sumS G.vals ∧ sumS G.vals ≤ 2147483648 * sumN G.vals := by
      have x1 := Int.mul_le_mul_of_nonneg_right (show -2147483648 ≤ av.num by omega) (show 0 ≤ sumN G.vals by omega)
      have x2 := Int.mul_le_mul_of_nonneg_right (show zv.num ≤ 2147483648 by omega) (show 0 ≤ sumN G.vals by omega)
      rw [Int.neg_mul] at x1
      omega
    have hf := floorV_exact (sumS G.vals) (sumN G.vals) hN (by omega) mB.1 mB.2
    have hm := between hN hf.1 hf.2 hS.1 hS.2
    refine ⟨av, zv, floorV (sumS G.vals) (sumN G.vals), ⟨?_, ?_, ?_, ak, zk, hm.1, hm.2, cntF_pos _ _ hpos ⟨a, am, arow⟩, cntF_pos _ _ hpos ⟨z, zm, zrow⟩, ?_⟩⟩
    · rw [r 4 (by omega) (by omega), show resV0 4 G = (presV G.vals).head?.getD zV from rfl, hpres, ha]
      exact (num0_one arow).2
    · rw [r 5 (by omega) (by omega), show resV0 5 G = (presV G.vals).getLast?.getD zV from rfl, hpres, hzl]
      simp [(num0_one zrow).2]
    · rw [r 7 (by omega) (by omega), show resV0 7 G = (if 0 < (totGo G.vals 0 0).2 then numV (floorV (totGo G.vals 0 0).1 (totGo G.vals 0 0).2) else zV) from rfl, htot, if_pos hN, numV_small (by simp only; omega) (by simp only; omega)]
    · have := (hlo z zm).2
      rwa [(num0_one zrow).2] at this

end Go.AW

namespace Go.AW
attribute [local irreducible] ACalls
set_option maxRecDepth 20000 in
theorem ref6_Count_spec {P : Program} (F : F_warehouseref6_Count P) (e1 e2 : Bool) (l : List Ent) (r : List V) (hl : l.length ≤ 1000000) (hr : ∀ e ∈ l, e.row.length ≤ 1000000) (H : List AObj) :
    ACalls P F.id [.list e1 2 (eC l), .list e2 3 (vC r)] H (fun q H' => q = .int .i64 (cntF l r) ∧ H' = H) := by
  refine ACalls.pure (by simp [AVal.closed, AVal.isPure]) (acalls_of_body F.has ?_)
  conv => whnf
  refine ⟨fun m ρ H1 => ∃ k : Nat, k + m = l.length ∧ cntF (l.drop k) r = cntF l r ∧ H1 = [] ∧
    Sv 24 [(0, .list e1 2 (eC l)), (1, .list e2 3 (vC r)), (5, .int .i64 k)] ρ, l.length, [], ?_, ?_⟩
  · exact ⟨0, by omega, rfl, rfl, Sv.intro rfl ⟨rfl, rfl, rfl, trivial⟩⟩
  rintro m ρ H1 ⟨k, hk, hq, rfl, d, rfl⟩
  (conv => whnf); refine recA (fun hlt => ?_) (fun hlt => ?_)
  · simp [eC_length] at hlt
    obtain ⟨x, hx, hd, hxm⟩ := get_drop hlt
    rw [hd, cntF] at hq
    (conv => whnf); refine And.intro (by omega) ?_
    (conv => whnf); refine recO (eC_at hx) ?_
    (conv => whnf); refine ACalls.use (ref1_SameRow_spec F.warehouseref1_SameRow false e2 x.row r (hr x hxm) _) ?_
    (conv => whnf); refine recA (fun hs => ?_) (fun hs => ?_)
    · simp at hs
      rw [if_pos hs] at hq
      (conv => whnf); refine And.intro (by omega) ?_
      (conv => whnf); refine recO (eC_at hx) ?_
      conv => whnf
      exact pubI hq
    · simp at hs
      rw [if_neg hs] at hq
      conv => whnf
      refine ⟨m - 1, by omega, Gp.none rfl ?_ fun ρ1 h => ⟨k + 1, by omega, hq, rfl, h⟩⟩
      exact ⟨.closed _ rfl, .closed _ rfl, pub_int (wrapI ((k : Int) + 1) (by omega) (by omega)), trivial⟩
  · simp [eC_length] at hlt
    rw [List.drop_eq_nil_of_le hlt] at hq
    conv => whnf
    exact pubI hq

def clIt (x : It) : It := ⟨x.v, if x.c > 0 then x.c else 0⟩

def clK (l : List It) (k : Nat) : List It := (l.take k).map clIt ++ l.drop k

theorem clK_length (l : List It) (k : Nat) : (clK l k).length = l.length := by simp [clK]; omega

theorem clK_at {l : List It} {k : Nat} {x : It} (h : l[k]? = some x) : (clK l k)[k]? = some x := by
  have hk := (List.getElem?_eq_some_iff.1 h).1
  rw [clK, List.getElem?_append_right (by simp; omega)]
  simp [Nat.min_eq_left (by omega : k ≤ l.length), h]

theorem clK_set {l : List It} {k : Nat} {x : It} (h : l[k]? = some x) : (clK l k).set k (clIt x) = clK l (k + 1) := by
  have hk := (List.getElem?_eq_some_iff.1 h).1
  have hx : l[k] = x := (List.getElem?_eq_some_iff.1 h).2
  rw [clK, clK, List.set_append, if_neg (by simp; omega), List.take_add_one, h, List.drop_eq_getElem_cons hk]
  simp [Nat.min_eq_left (by omega : k ≤ l.length)]; rw [List.drop_eq_getElem_cons hk]; rfl

theorem clK_BItem (l : List Int) (n : Nat) : ∀ x ∈ (itsV l n 2).map clIt, BItem x := by
  intro x hx
  obtain ⟨y, hy, rfl⟩ := List.mem_map.1 hx
  obtain ⟨h1, h2, h3⟩ := itsV_ok l n 2 y hy
  refine ⟨h1, ?_, ?_, fun hk => ?_⟩
  · show 0 ≤ if y.c > 0 then y.c else 0; split <;> omega
  · show (if y.c > 0 then y.c else 0) ≤ 5; split <;> omega
  · obtain ⟨i, _, rfl⟩ := List.mem_map.1 hy
    replace hk : (itV l 2 i).v.kind ≠ 0 := hk
    show (itV l 2 i).v.kind = 2 ∧ -1073741824 ≤ (itV l 2 i).v.num ∧ (itV l 2 i).v.num ≤ 1073741824
    have hv : (itV l 2 i).v = if (shrI (atV l i) 3).tmod 6 = 0 then zV else valueV 2 (shrI (atV l i) 3) := rfl
    rw [hv] at hk ⊢
    by_cases h : (shrI (atV l i) 3).tmod 6 = 0
    · rw [if_pos h] at hk; exact absurd rfl hk
    · rw [if_neg h, valueV, if_neg (by omega), if_pos rfl]
      refine ⟨rfl, ?_⟩
      show -1073741824 ≤ intN _ ∧ intN _ ≤ 1073741824
      unfold intN
      split
      · omega
      · split <;> omega

set_option maxRecDepth 20000 in
theorem law_AggregateBounds {P : Program} (F : F_warehouselaw17_AggregateBounds P) (l : List Int) (n : Int) :
    ACalls P F.id [.list false 1 (iC l), .int .i64 n] [] (fun r _ => r = .bool true) := by
  have e15 := and_15 n
  have fin : ∀ H, ACalls P F.warehouselaw17_known.id [] H (fun r H' => r = .bool true ∧ H' = H) := known17_spec F.warehouselaw17_known
  obtain ⟨p, hpd⟩ : ∃ p, p = itsV l (and64 n 15).toNat 2 := ⟨_, rfl⟩
  have hI := items_raw F.warehouselaw17_items false l (and64 n 15) 2 (by omega)
  rw [← hpd, show (and64 n 15).toNat = p.length by rw [hpd, itsV_length]] at hI
  have lp : p.length ≤ 15 := by rw [hpd, itsV_length]; omega
  have hB : ∀ x ∈ p.map clIt, BItem x := by rw [hpd]; exact clK_BItem l _
  have hG := addAll0_rep (p.map clIt) (by simp; omega) fun x hx => (hB x hx).ok
  obtain ⟨hni, r2, r6, r1, b1, b2, hz, hnz⟩ := bounds_all hG hB (by simpa using lp)
  have lI := fun k => iT_length (clK p k)
  have lc := fun k => clK_length p k
  obtain ⟨G, hGd⟩ : ∃ G, G = (addAll g0 (p.map clIt)).1 := ⟨_, rfl⟩
  rw [← hGd] at hG hni r2 r6 r1 b1 b2 hz hnz
  have hE := resE_zero hG.ok hni
  have hRes := fun f (h1 : 1 ≤ f) (h2 : f ≤ 7) H => (show ACalls P F.aggregate_Result.id [.int .i64 f, .agg (gV G)] H (fun r H' => r = .tuple [.agg (valC (resV f G)), .int .i64 0] ∧ H' = H) by
    have := agg_Result_spec F.aggregate_Result f G H
    rwa [hE f h1 h2] at this)
  refine acalls_of_body F.has ?_
  (conv => whnf); refine ACalls.mono (hI) ?_
  rintro r H' ⟨rfl, rfl⟩
  conv => whnf
  refine ⟨fun m ρ H1 => ∃ k : Nat, k + m = p.length ∧ H1 = [.arr 4 (iT (clK p k))] ∧ Sv 183 [(5, .sl 0 p.length 0 p.length), (6, .int .i64 k)] ρ, p.length, [], ?_, ?_⟩
  · exact ⟨0, by omega, rfl, Sv.intro rfl ⟨rfl, rfl, trivial⟩⟩
  rintro m ρ H1 ⟨k, hk, rfl, d, rfl⟩
  (conv => whnf); refine recT (by rw [lI, lc]; exact Nat.beq_refl _) ?_
  conv => whnf
  by_cases hlt : k < p.length
  · refine ⟨Gp.keep (n := 183) (live := [(5, .sl 0 p.length 0 p.length), (6, .int .i64 k), (28, .bool true)]) rfl ⟨rfl, rfl, ?_, trivial⟩ ?_⟩
    · show AVal.bool (decide ((k : Int) < (p.length : Int))) = .bool true
      rw [decide_eq_true (by omega)]
    rintro ρ1 ⟨d, rfl⟩
    obtain ⟨x, hx, hd, hxm⟩ := get_drop hlt
    have hx' : (iT (clK p k))[0 + (k : Int).toNat]? = some (itC x) := by rw [Nat.zero_add, Int.toNat_natCast]; exact iT_at (clK_at hx)
    (conv => whnf); refine recT (by rw [lI, lc]; exact Nat.beq_refl _) ?_
    (conv => whnf); refine And.intro (⟨by omega, by omega⟩) ?_
    (conv => whnf); refine recT (by rw [lI, lc]; exact Nat.beq_refl _) ?_
    (conv => whnf); refine recO (hx') ?_
    (conv => whnf); refine recT (by rw [lI, lc]; exact Nat.beq_refl _) ?_
    (conv => whnf); refine And.intro (⟨by omega, by omega⟩) ?_
    (conv => whnf); refine recT (by rw [lI, lc]; exact Nat.beq_refl _) ?_
    (conv => whnf); refine recO (hx') ?_
    conv => whnf
    have hs : setEs (iT (clK p k)) (0 + (k : Int).toNat) (itC (clIt x)) = iT (clK p (k + 1)) := by rw [Nat.zero_add, Int.toNat_natCast, setEs_iT, clK_set hx]
    refine ⟨m - 1, by omega, Gp.keep rfl ?_ fun ρ1 h => ⟨k + 1, by omega, by rw [← hs]; rfl, h⟩⟩
    exact ⟨rfl, intEq (wrapI ((k : Int) + 1) (by omega) (by omega)), trivial⟩
  have hkl : k = p.length := by omega
  have hcl : clK p k = p.map clIt := by rw [clK, hkl, List.take_length, List.drop_length, List.append_nil]
  rw [hcl]
  refine Ghost.none (n := 183) (live := [(5, .list false 4 (iT (p.map clIt))), (28, .bool false)]) rfl ⟨?_, ?_, trivial⟩ ?_
  · exact pubF rfl (by rw [iT_length]; simp) (by rw [iT_length]; simp) (pureEs_iT _)
  · refine pubB ?_
    show decide ((k : Int) < (p.length : Int)) = false
    exact decide_eq_false (by omega)
  rintro ρ1 ⟨d, rfl⟩
  have hadd := fun H => added0_spec F.warehouselaw17_added false (p.map clIt) (by simp; omega) (fun x hx => (hB x hx).ok) H
  rw [← hGd] at hadd
  (conv => whnf); refine ACalls.use (hadd _) ?_
  by_cases hN : sumN G.vals = 0
  · obtain ⟨z4, z5, z7⟩ := hz hN
    have hnil : (G.vals.length : Int) = 0 := by omega
    rw [hN] at r2 b2
    rw [hnil] at r6
    have h4 := fun H => hRes 4 (by omega) (by omega) H
    have h5 := fun H => hRes 5 (by omega) (by omega) H
    have h7 := fun H => hRes 7 (by omega) (by omega) H
    have h2 := fun H => hRes 2 (by omega) (by omega) H
    have h6 := fun H => hRes 6 (by omega) (by omega) H
    have h1 := fun H => hRes 1 (by omega) (by omega) H
    rw [z4] at h4
    rw [z5] at h5
    rw [z7] at h7
    rw [r2] at h2
    rw [r6] at h6
    rw [r1] at h1
    (conv => whnf); refine ACalls.use (h4 _) ?_
    (conv => whnf); refine ACalls.use (h5 _) ?_
    (conv => whnf); refine ACalls.use (h7 _) ?_
    (conv => whnf); refine ACalls.use (h2 _) ?_
    (conv => whnf); refine ACalls.use (h6 _) ?_
    (conv => whnf); refine ACalls.use (h1 _) ?_
    (conv => whnf); refine recF (by simp; omega) ?_
    (conv => whnf); refine ACalls.use (fin _) ?_
    conv => whnf
  · obtain ⟨lo, hi, mm, hb⟩ := hnz hN
    have h4 := fun H => hRes 4 (by omega) (by omega) H
    have h5 := fun H => hRes 5 (by omega) (by omega) H
    have h7 := fun H => hRes 7 (by omega) (by omega) H
    have h2 := fun H => hRes 2 (by omega) (by omega) H
    have h6 := fun H => hRes 6 (by omega) (by omega) H
    have h1 := fun H => hRes 1 (by omega) (by omega) H
    rw [hb.low] at h4
    rw [hb.high] at h5
    rw [hb.mean] at h7
    rw [r2] at h2
    rw [r6] at h6
    rw [r1] at h1
    have hsm := hG.small
    (conv => whnf); refine ACalls.use (h4 _) ?_
    (conv => whnf); refine ACalls.use (h5 _) ?_
    (conv => whnf); refine ACalls.use (h7 _) ?_
    (conv => whnf); refine ACalls.use (h2 _) ?_
    (conv => whnf); refine ACalls.use (h6 _) ?_
    (conv => whnf); refine ACalls.use (h1 _) ?_
    (conv => whnf); refine recF (by simp; omega) ?_
    (conv => whnf); refine recF (by simp; omega) ?_
    (conv => whnf); refine recF (by simp [hb.lok, hN]) ?_
    (conv => whnf); refine recF (by simp [hb.hik, hN]) ?_
    (conv => whnf); refine recF (by simp [hN]) ?_
    (conv => whnf); refine recF (by simp [hN]) ?_
    (conv => whnf); refine recT (by simp [hb.lm]) ?_
    (conv => whnf); refine recT (by simp [hb.mh]) ?_
    (conv => whnf); refine ACalls.use (ref6_Count_spec F.warehouseref6_Count false true G.vals [lo] hsm.1 hsm.2 _) ?_
    (conv => whnf); refine recT (by have := hb.cl; simp; omega) ?_
    (conv => whnf); refine ACalls.use (ref6_Count_spec F.warehouseref6_Count false true G.vals [hi] hsm.1 hsm.2 _) ?_
    (conv => whnf); refine recT (by have := hb.ch; simp; omega) ?_
    (conv => whnf); refine ACalls.use (ref1_Compare_spec F.warehouseref1_Compare lo hi _) ?_
    (conv => whnf); refine recT (by have := hb.cmp; simp; omega) ?_
    (conv => whnf); refine ACalls.use (fin _) ?_
    conv => whnf

end Go.AW

