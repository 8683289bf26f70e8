/-
  Columns: finding, rows that fit.
  No condition: contracts over any program that has this code.
-/
import Derived.Test.YtikifhfpiahnoaaWhQual
namespace Go.AW
attribute [local irreducible] ACalls

structure Col where
  name : ByteArray
  kind : Int
  nul : Bool
def colC (c : Col) : List AVal := [.str c.name, .int .i64 c.kind, .bool c.nul]
def cC (cs : List Col) : List (List AVal) := cs.map colC
theorem cC_length (l : List Col) : (cC l).length = l.length := List.length_map ..
theorem cC_append (a b : List Col) : cC (a ++ b) = cC a ++ cC b := List.map_append
theorem pureEs_cC (l : List Col) : pureEs (cC l) = true := by simp [pureEs, cC, colC, AVal.isPure]
theorem cC_at {l : List Col} {k : Nat} {x : Col} (h : l[k]? = some x) : (cC l)[k]? = some (colC x) := by
  rw [cC, List.getElem?_map, h]; rfl

theorem cellsOk_col {e : List AVal} (h : CellsOk [.str, .int .i64, .bool] e) : ∃ c : Col, e = colC c ∧ c.name.size ≤ maxLen ∧ (Lit.int .i64 c.kind).wf = true := by
  match e, h with
  | [a, b, c], h =>
    obtain ⟨h1, h2, h3, _⟩ := h
    cases h1; cases h2; cases h3
    exact ⟨⟨_, _, _⟩, rfl, by assumption, by assumption⟩
theorem argOk_cols {a : AVal} (h : ArgOk (false, [.slice [.str, .int .i64, .bool]]) a) : ∃ cs : List Col, a = .list false 3 (cC cs) ∧ cs.length ≤ maxLen ∧ ∀ c ∈ cs, c.name.size ≤ maxLen ∧ (Lit.int .i64 c.kind).wf = true := by
  obtain ⟨es, rfl, hl, h⟩ := argOk_slice h
  obtain ⟨m, rfl, hm⟩ := list_image (g := colC) es fun e he => cellsOk_col (h e he)
  exact ⟨m, rfl, by simpa using hl, hm⟩
theorem argOk_strs {a : AVal} (h : ArgOk (false, [.slice [.str]]) a) : ∃ l : List ByteArray, a = .list false 1 (l.map fun s => [.str s]) ∧ l.length ≤ maxLen ∧ ∀ s ∈ l, s.size ≤ maxLen := by
  obtain ⟨es, rfl, hl, h⟩ := argOk_slice h
  obtain ⟨m, rfl, hm⟩ := list_image (g := fun s => [AVal.str s]) es fun e he => cellsOk_str (h e he)
  exact ⟨m, rfl, by simpa using hl, hm⟩

/-- The number of the first one, from i on. -/
def idxOf {α : Type} (p : α → Bool) : List α → Int → Int
  | [], _ => -1
  | c :: cs, i => if p c then i else idxOf p cs (i + 1)

def named (name : ByteArray) (c : Col) : Bool := c.name.data.toList == name.data.toList
def colIdx (cs : List Col) (name : ByteArray) : Int := idxOf (named name) cs 0

set_option maxRecDepth 20000 in
theorem IndexFunc_spec {P : Program} (F : F_slices_IndexFunc_LColumn_Column P) (g : FuncId) (caps : List AVal) (p : Col → Bool) (H : List AObj) (hg : ∀ c : Col, ACalls P g ([.agg (colC c)] ++ caps) H (fun r H' => r = .bool (p c) ∧ H' = H))
    (ex : Bool) (cs : List Col) (hl : cs.length ≤ 1000000) :
    ACalls P F.id [.list ex 3 (cC cs), .fn g caps] H (fun r H' => r = .int .i64 (idxOf p cs 0) ∧ H' = H) := by
  refine acalls_of_body F.has ?_
  conv => whnf
  refine ⟨fun m ρ H1 => ∃ k : Nat, k + m = cs.length ∧ idxOf p (cs.drop k) k = idxOf p cs 0 ∧ H1 = H ∧
    Sv 19 [(0, .list ex 3 (cC cs)), (1, .fn g caps), (7, .int .i64 cs.length), (8, .int .i64 k)] ρ, cs.length, [], ?_, ?_⟩
  · exact ⟨0, by omega, rfl, rfl, Sv.intro rfl ⟨rfl, rfl, intEq (by rw [cC_length]), rfl, trivial⟩⟩
  rintro m ρ H1 ⟨k, hk, hr, rfl, d, rfl⟩
  (conv => whnf); refine recA (fun hlt => ?_) (fun hlt => ?_)
  · simp at hlt
    obtain ⟨c, hc, hd, _⟩ := get_drop hlt
    rw [hd] at hr
    conv => whnf
    refine And.intro (by omega) ?_
    (conv => whnf); refine recO (cC_at hc) ?_
    conv => whnf
    refine ACalls.use (hg c) ?_
    (conv => whnf); refine recA (fun h => ?_) (fun hf => ?_)
    · conv => whnf
      refine ⟨intEq ?_, rfl⟩
      rw [← hr, idxOf, if_pos h]
    · conv => whnf
      refine ⟨m - 1, by omega, Gp.keep rfl ?_ fun ρ1 h => ⟨k + 1, by omega, ?_, rfl, h⟩⟩
      · exact ⟨rfl, rfl, rfl, intEq (wrapI ((k : Int) + 1) (by omega) (by omega)), trivial⟩
      · rw [← hr, idxOf, if_neg (by rw [hf]; simp)]; rfl
  · simp at hlt
    conv => whnf
    rw [List.drop_eq_nil_of_le hlt] at hr
    exact ⟨intEq hr, rfl⟩

set_option maxRecDepth 20000 in
theorem Index_1_spec {P : Program} (F : F_schema_Index_1 P) (c : Col) (name : ByteArray) :
    ACalls P F.id ([.agg (colC c)] ++ [.ptr 0 1 0 0]) [.arr 1 [[.str name]]] (fun r H' => r = .bool (named name c) ∧ H' = [.arr 1 [[.str name]]]) := by
  refine ACalls.drop rfl (acalls_of_body F.has ?_)
  conv => whnf
  exact ⟨rfl, _, rfl⟩

set_option maxRecDepth 20000 in
theorem schema_Index_spec {P : Program} (F : F_schema_Index P) (ex : Bool) (cs : List Col) (hl : cs.length ≤ 1000000) (name : ByteArray) (H : List AObj) :
    ACalls P F.id [.list ex 3 (cC cs), .str name] H (fun r H' => r = .int .i64 (colIdx cs name) ∧ H' = H) := by
  refine ACalls.pure (by simp [AVal.closed, AVal.isPure]) (acalls_of_body F.has ?_)
  conv => whnf
  refine ACalls.use (IndexFunc_spec F.slices_IndexFunc_LColumn_Column _ _ (named name) _ (fun c => Index_1_spec F.schema_Index_1 c name) ex cs hl) ?_
  conv => whnf
  exact .closed _ rfl

set_option maxRecDepth 20000 in
theorem ref5_Index_spec {P : Program} (F : F_warehouseref5_Index P) (ex : Bool) (cs : List Col) (hl : cs.length ≤ 1000000) (name : ByteArray) (H : List AObj) :
    ACalls P F.id [.list ex 3 (cC cs), .str name] H (fun r H' => r = .int .i64 (colIdx cs name) ∧ H' = H) := by
  refine ACalls.pure (by simp [AVal.closed, AVal.isPure]) (acalls_of_body F.has ?_)
  conv => whnf
  refine ⟨fun m ρ H1 => ∃ k : Nat, k + m = cs.length ∧ idxOf (named name) (cs.drop k) k = colIdx cs name ∧ H1 = [] ∧
    Sv 20 [(0, .list ex 3 (cC cs)), (1, .str name), (5, .int .i64 k)] ρ, cs.length, [], ?_, ?_⟩
  · exact ⟨0, by omega, rfl, rfl, Sv.intro rfl ⟨rfl, rfl, rfl, trivial⟩⟩
  rintro m ρ H1 ⟨k, hk, hr, rfl, d, rfl⟩
  (conv => whnf); refine recA (fun hlt => ?_) (fun hlt => ?_)
  · simp [cC_length] at hlt
    obtain ⟨c, hc, hd, _⟩ := get_drop hlt
    rw [hd] at hr
    conv => whnf
    refine And.intro (by omega) ?_
    (conv => whnf); refine recO (cC_at hc) ?_
    (conv => whnf); refine recA (fun h => ?_) (fun hf => ?_)
    · conv => whnf
      refine pubI ?_
      rw [← hr, idxOf, if_pos (show named name c = true from h)]
    · conv => whnf
      refine ⟨m - 1, by omega, Gp.keep rfl ?_ fun ρ1 h => ⟨k + 1, by omega, ?_, rfl, h⟩⟩
      · exact ⟨rfl, rfl, intEq (wrapI ((k : Int) + 1) (by omega) (by omega)), trivial⟩
      · rw [← hr, idxOf, if_neg (by rw [show named name c = false from hf]; simp)]; rfl
  · simp [cC_length] at hlt
    conv => whnf
    rw [List.drop_eq_nil_of_le hlt] at hr
    exact pubI hr

/-- Does a value not fit a column? -/
def badB (c : Col) (v : V) : Bool := (v.kind == 0 && !c.nul) || (v.kind != 0 && v.kind != c.kind)
def chkGo : List Col → List V → Int
  | c :: cs, v :: rs => if validB v = false then 8 else if badB c v = true then 7 else chkGo cs rs
  | _, _ => 0
def chkRow (cs : List Col) (rs : List V) : Int := if rs.length = cs.length then chkGo cs rs else 8

set_option maxRecDepth 20000 in
theorem schema_CheckRow_spec {P : Program} (F : F_schema_CheckRow P) (e1 e2 : Bool) (cs : List Col) (rs : List V) (hl : rs.length ≤ 1000000) (H : List AObj) :
    ACalls P F.id [.list e1 3 (cC cs), .list e2 3 (vC rs)] H (fun r H' => r = .int .i64 (chkRow cs rs) ∧ H' = H) := by
  refine ACalls.pure rfl (acalls_of_body F.has ?_)
  (conv => whnf); refine recA (fun h0 => ?_) (fun h0 => ?_)
  · simp [vC_length, cC_length] at h0
    conv => whnf
    exact pubI (by rw [chkRow, if_neg (by omega)])
  simp [vC_length, cC_length] at h0
  have hR : chkRow cs rs = chkGo cs rs := by rw [chkRow, if_pos (by omega)]
  conv => whnf
  refine ⟨fun m ρ H1 => ∃ k : Nat, k + m = rs.length ∧ chkGo (cs.drop k) (rs.drop k) = chkRow cs rs ∧ H1 = [] ∧
    Sv 48 [(0, .list e1 3 (cC cs)), (13, .list e2 3 (vC rs)), (14, .int .i64 rs.length), (15, .int .i64 k)] ρ, rs.length, [], ?_, ?_⟩
  · exact ⟨0, by omega, hR.symm, rfl, Sv.intro rfl ⟨rfl, rfl, intEq (by rw [vC_length]), rfl, trivial⟩⟩
  rintro m ρ H1 ⟨k, hk, hr, rfl, d, rfl⟩
  (conv => whnf); refine recA (fun hlt => ?_) (fun hlt => ?_)
  · simp at hlt
    obtain ⟨v, hv, hdv, _⟩ := get_drop hlt
    obtain ⟨c, hc, hdc, _⟩ := get_drop (show k < cs.length by omega)
    rw [hdv, hdc, chkGo] at hr
    repeat' ((conv => whnf); first | refine And.intro (by omega) ?_ | refine recO (vC_at hv) ?_ | refine recO (cC_at hc) ?_ | refine ACalls.use (value_Valid_spec F.value_Valid v _) ?_ | refine recA (fun h => ?_) (fun h => ?_))
    all_goals (conv => whnf)
    all_goals first
      | refine ⟨m - 1, by omega, Gp.none rfl ?_ fun ρ1 h => ⟨k + 1, by omega, ?_, rfl, h⟩⟩
      | refine pubI ?_
    all_goals first
      | exact ⟨.closed _ rfl, .closed _ rfl, .closed _ rfl, pub_int (wrapI ((k : Int) + 1) (by omega) (by omega)), trivial⟩
      | skip
    all_goals
      rw [← hr]
      simp_all [badB]
  · simp at hlt
    conv => whnf
    rw [List.drop_eq_nil_of_le (show cs.length ≤ k by omega)] at hr
    exact pubI hr

set_option maxRecDepth 20000 in
theorem ref5_CheckRow_spec {P : Program} (F : F_warehouseref5_CheckRow P) (e1 e2 : Bool) (cs : List Col) (rs : List V) (hl : rs.length ≤ 1000000) (H : List AObj) :
    ACalls P F.id [.list e1 3 (cC cs), .list e2 3 (vC rs)] H (fun r H' => r = .int .i64 (chkRow cs rs) ∧ H' = H) := by
  refine ACalls.pure rfl (acalls_of_body F.has ?_)
  (conv => whnf); refine recA (fun h0 => ?_) (fun h0 => ?_)
  · simp [vC_length, cC_length] at h0
    conv => whnf
    exact pubI (by rw [chkRow, if_neg (by omega)])
  simp [vC_length, cC_length] at h0
  have hR : chkRow cs rs = chkGo cs rs := by rw [chkRow, if_pos (by omega)]
  conv => whnf
  refine ⟨fun m ρ H1 => ∃ k : Nat, k + m = rs.length ∧ chkGo (cs.drop k) (rs.drop k) = chkRow cs rs ∧ H1 = [] ∧
    Sv 58 [(0, .list e1 3 (cC cs)), (1, .list e2 3 (vC rs)), (5, .int .i64 k)] ρ, rs.length, [], ?_, ?_⟩
  · exact ⟨0, by omega, hR.symm, rfl, Sv.intro rfl ⟨rfl, rfl, rfl, trivial⟩⟩
  rintro m ρ H1 ⟨k, hk, hr, rfl, d, rfl⟩
  (conv => whnf); refine recA (fun hlt => ?_) (fun hlt => ?_)
  · simp [vC_length] at hlt
    obtain ⟨v, hv, hdv, _⟩ := get_drop hlt
    obtain ⟨c, hc, hdc, _⟩ := get_drop (show k < cs.length by omega)
    rw [hdv, hdc, chkGo] at hr
    repeat' ((conv => whnf); first | refine And.intro (by omega) ?_ | refine recO (vC_at hv) ?_ | refine recO (cC_at hc) ?_ | refine ACalls.use (ref1_Valid_spec F.warehouseref1_Valid v _) ?_ | refine recA (fun h => ?_) (fun h => ?_))
    all_goals (conv => whnf)
    all_goals first
      | refine ⟨m - 1, by omega, Gp.none rfl ?_ fun ρ1 h => ⟨k + 1, by omega, ?_, rfl, h⟩⟩
      | refine pubI ?_
    all_goals first
      | exact ⟨.closed _ rfl, .closed _ rfl, pub_int (wrapI ((k : Int) + 1) (by omega) (by omega)), trivial⟩
      | skip
    all_goals
      rw [← hr]
      simp_all [badB]
  · simp [vC_length] at hlt
    conv => whnf
    rw [List.drop_eq_nil_of_le (show cs.length ≤ k by omega)] at hr
    exact pubI hr
end Go.AW
