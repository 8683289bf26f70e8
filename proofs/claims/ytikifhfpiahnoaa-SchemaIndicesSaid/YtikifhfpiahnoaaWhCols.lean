/-
  Columns and rows that the builders make; the examples of chapter 5.
  No condition: contracts over any program that has this code.
-/
import Derived.Test.YtikifhfpiahnoaaWhCol
import Derived.KernelRfl
namespace Go.AW
attribute [local irreducible] ACalls

theorem atV_bounds (l : List Int) (i : Int) : 0 ≤ atV l i ∧ atV l i ≤ 131070 := by
  unfold atV
  have h1 := and_ffff i
  split
  · omega
  · have hl : 0 < (l.length : Int) := by omega
    have h2 := and_ffff (l.getD ((and64 i 65535).tmod l.length).toNat 0)
    have h3 : 0 ≤ (and64 i 65535).tdiv l.length := Int.tdiv_nonneg (by omega) (by omega)
    have h4 : (and64 i 65535).tdiv l.length ≤ and64 i 65535 := by
      rw [Int.tdiv_eq_ediv_of_nonneg (by omega)]
      exact Int.ediv_le_self _ (by omega)
    rw [wrapI ((and64 i 65535).tdiv l.length) (by omega) (by omega), wrapI _ (by omega) (by omega)]
    omega

def colV (k : Int) : Col :=
  if and64 (shrI k 8) 15 = 0 then ⟨[bs [], bs [65], bs [97, 46, 98], bs [98, 121]].getD (k.tmod 4).toNat (bs []), w64 (k.tmod 7 - 1), (w64 (k.tdiv 36)).tmod 2 == 1⟩
  else ⟨⟨[UInt8.ofNat (IntKind.u8.wrap (w64 (97 + k.tmod 9))).toNat].toArray⟩, w64 (1 + (w64 (k.tdiv 9)).tmod 4), (w64 (k.tdiv 36)).tmod 2 == 1⟩

def colsK (l : List Int) (k : Nat) : List Col := (List.range k).map fun i : Nat => colV (atV l (i : Int))
theorem colsK_length (l : List Int) (k : Nat) : (colsK l k).length = k := by simp [colsK]
theorem colsK_succ (l : List Int) (k : Nat) : colsK l (k + 1) = colsK l k ++ [colV (atV l k)] := by simp [colsK, List.range_succ]

set_option maxRecDepth 20000 in
theorem Columns_spec {P : Program} (F : F_warehousebase_Columns P) (ex : Bool) (l : List Int) (n : Int) (hn : n ≤ 1000) (H : List AObj) :
    ACalls P F.id [.list ex 1 (iC l), .int .i64 n] H (fun r H' => r = .list false 3 (cC (colsK l n.toNat)) ∧ H' = H) := by
  refine ACalls.pure (by simp [AVal.closed, AVal.isPure]) (acalls_of_body F.has ?_)
  conv => whnf
  refine ⟨fun m ρ H => ∃ k : Nat, k + m = n.toNat ∧ H = [.arr 3 (cC (colsK l k))] ∧ Sv 51 [(0, .list ex 1 (iC l)), (1, .int .i64 n), (5, .sl 0 k 0 k), (6, .int .i64 k)] ρ, n.toNat, [(5, 3)], ?_, ?_⟩
  · exact ⟨0, by omega, by rfl, Sv.intro rfl ⟨rfl, rfl, rfl, rfl, trivial⟩⟩
  rintro m ρ H ⟨k, hk, rfl, d, rfl⟩
  (conv => whnf); refine recA (fun hlt => ?_) (fun hlt => ?_)
  · simp at hlt
    have hlen : ∀ c, (cC (colsK l k) ++ [colC c]).length = k + 1 := by simp [cC_length, colsK_length]
    have hkey : cC (colsK l (k + 1)) = cC (colsK l k) ++ [colC (colV (atV l k))] := by rw [colsK_succ, cC_append]; rfl
    have hb := atV_bounds l k
    conv => whnf
    refine ACalls.use (At_spec F.warehousebase_At ex l k _) ?_
    generalize hq : atV l k = q at hkey hb
    (conv => whnf); refine And.intro (by decide) ?_
    (conv => whnf); refine ⟨_, rfl, ?_⟩
    (conv => whnf); refine And.intro (by decide) ?_
    (conv => whnf); refine And.intro (by decide) ?_
    (conv => whnf); refine And.intro (by decide) ?_
    (conv => whnf); refine And.intro (by decide) ?_
    (conv => whnf); refine And.intro (by decide) ?_
    (conv => whnf); refine recA (fun h => ?_) (fun hf => ?_)
    · have hz : and64 (shrI q 8) 15 = 0 := eq_of_beq (show (and64 (shrI q 8) 15 == 0) = true from h)
      have hm : 0 ≤ q.tmod 4 ∧ q.tmod 4 < 4 := ⟨Int.tmod_nonneg _ (by omega), Int.tmod_lt_of_pos _ (by omega)⟩
      (conv => whnf); refine And.intro (by decide) ?_
      (conv => whnf); refine And.intro hm.1 ?_
      conv => whnf
      refine recO (e := [.str (colV q).name]) ?_ ?_
      · have hc : colV q = ⟨[bs [], bs [65], bs [97, 46, 98], bs [98, 121]].getD (q.tmod 4).toNat (bs []), w64 (q.tmod 7 - 1), (w64 (q.tdiv 36)).tmod 2 == 1⟩ := if_pos hz
        rw [hc]
        show ([bs [], bs [65], bs [97, 46, 98], bs [98, 121]].map fun s => [AVal.str s])[(q.tmod 4).toNat]? = _
        rw [List.getElem?_map, List.getElem?_eq_getElem (show (q.tmod 4).toNat < _ by simp; omega)]
        simp only [Option.map_some]
        rw [List.getD_eq_getElem?_getD, List.getElem?_eq_getElem (show (q.tmod 4).toNat < _ by simp; omega)]
        rfl
      (conv => whnf); refine And.intro (by decide) ?_
      (conv => whnf); refine recT (by simp [cC_length, colsK_length]) ?_
      (conv => whnf); refine And.intro ⟨roomMul (by simp; omega) (by omega), roomB_le (by simp; omega), rfl, by simp [cC_length, colsK_length]⟩ ?_
      conv => whnf
      have hc : colV q = ⟨(colV q).name, w64 (q.tmod 7 - 1), (w64 (q.tdiv 36)).tmod 2 == 1⟩ := by
        have : colV q = ⟨[bs [], bs [65], bs [97, 46, 98], bs [98, 121]].getD (q.tmod 4).toNat (bs []), w64 (q.tmod 7 - 1), (w64 (q.tdiv 36)).tmod 2 == 1⟩ := if_pos hz
        conv => lhs; rw [this]
        rw [this]
      refine ⟨m - 1, by omega, Gp.one 0 3 (cC (colsK l (k + 1))) ?_ (pureEs_cC _) rfl ?_ fun ρ1 h => ⟨k + 1, by omega, rfl, h⟩⟩
      · rw [hkey, hc]; rfl
      · exact ⟨.closed _ rfl, .closed _ rfl, pubSl (k := 0) rfl rfl (hlen ⟨(colV q).name, w64 (q.tmod 7 - 1), (w64 (q.tdiv 36)).tmod 2 == 1⟩) (hlen ⟨(colV q).name, w64 (q.tmod 7 - 1), (w64 (q.tdiv 36)).tmod 2 == 1⟩), pub_int (wrapI ((k : Int) + 1) (by omega) (by omega)), trivial⟩
    · have hz : ¬ and64 (shrI q 8) 15 = 0 := fun e => by have h2 : (and64 (shrI q 8) 15 == 0) = false := hf; rw [e] at h2; cases h2
      have hc : colV q = ⟨⟨[UInt8.ofNat (IntKind.u8.wrap (w64 (97 + q.tmod 9))).toNat].toArray⟩, w64 (1 + (w64 (q.tdiv 9)).tmod 4), (w64 (q.tdiv 36)).tmod 2 == 1⟩ := if_neg hz
      (conv => whnf); refine recT (by simp [cC_length, colsK_length]) ?_
      (conv => whnf); refine And.intro ⟨roomMul (by simp; omega) (by omega), roomB_le (by simp; omega), rfl, by simp [cC_length, colsK_length]⟩ ?_
      conv => whnf
      refine ⟨m - 1, by omega, Gp.one 0 3 (cC (colsK l (k + 1))) ?_ (pureEs_cC _) rfl ?_ fun ρ1 h => ⟨k + 1, by omega, rfl, h⟩⟩
      · rw [hkey, hc]; rfl
      · exact ⟨.closed _ rfl, .closed _ rfl, pubSl (k := 0) rfl rfl (hlen ⟨_, _, _⟩) (hlen ⟨_, _, _⟩), pub_int (wrapI ((k : Int) + 1) (by omega) (by omega)), trivial⟩
  · simp at hlt
    have : k = n.toNat := by omega
    subst this
    conv => whnf
    exact pubF rfl (by rw [cC_length, colsK_length]) (by rw [cC_length, colsK_length]) (pureEs_cC _)

/-- A new slice, as a list that never changes again. -/
theorem ACalls.frz1 {P : Program} {f : FuncId} {args : List AVal} {n sz : Nat} {es : List (List AVal)} {H : List AObj} (ha : args.all AVal.closed = true) (h : ACalls P f args [] (fun r H1 => r = .sl 0 n 0 n ∧ H1 = [.arr sz es]))
    (hn : n = es.length) (hp : pureEs es = true) : ACalls P f args H (fun r H' => r = .list false sz es ∧ H' = H) := by
  refine ACalls.pure ha (h.mono ?_)
  rintro r H1 ⟨rfl, rfl⟩
  exact pubF rfl hn hn hp
/-- A new slice, as an object of the caller's. -/
theorem ACalls.own1 {P : Program} {f : FuncId} {args : List AVal} {n sz : Nat} {es : List (List AVal)} {H : List AObj} (ha : args.all AVal.closed = true) (h : ACalls P f args [] (fun r H1 => r = .sl 0 n 0 n ∧ H1 = [.arr sz es]))
    (hp : pureEs es = true) : ACalls P f args H (fun r H' => r = .sl H.length n 0 n ∧ H' = H ++ [.arr sz es]) := by
  refine ACalls.lift ha h ?_
  rintro r H1 ⟨rfl, rfl⟩
  exact ⟨[0], _, [.arr sz es], pubSl (k := 0) rfl (Nat.add_zero _).symm rfl rfl, by simp, rfl, fun k id hk => by
    cases k with
    | zero => simp at hk; subst hk; exact ⟨rfl, sz, _, rfl, hp⟩
    | succ k => simp at hk, rfl, rfl⟩

/-- A row that is being filled: k of its places are as they shall be. -/
def fillUp {α : Type} (W : List α) (z : α) (k : Nat) : List α := W.take k ++ List.replicate (W.length - k) z
theorem fillUp_length {α : Type} (W : List α) (z : α) (k : Nat) (h : k ≤ W.length) : (fillUp W z k).length = W.length := by simp [fillUp]; omega
theorem fillUp_zero {α : Type} (W : List α) (z : α) : fillUp W z 0 = List.replicate W.length z := by simp [fillUp]
theorem fillUp_all {α : Type} (W : List α) (z : α) : fillUp W z W.length = W := by simp [fillUp]
theorem fillUp_set {α : Type} (W : List α) (z : α) (k : Nat) (x : α) (h : W[k]? = some x) : (fillUp W z k).set k x = fillUp W z (k + 1) := by
  have hk := (List.getElem?_eq_some_iff.1 h).1
  unfold fillUp
  obtain ⟨m, hm⟩ : ∃ m, W.length - k = m + 1 := ⟨W.length - k - 1, by omega⟩
  have h1 : (W.take k).length = k := by simp; omega
  rw [hm, List.replicate_succ, List.set_append_right _ _ (by omega), h1, Nat.sub_self, List.set_cons_zero, List.take_add_one, h, show W.length - (k + 1) = m by omega]
  simp
theorem fillUp_get {α : Type} (W : List α) (z : α) (k : Nat) (hk : k < W.length) : (fillUp W z k)[k]? = some z := by
  have h1 : (W.take k).length = k := by simp; omega
  rw [fillUp, List.getElem?_append_right (by omega), h1, Nat.sub_self]
  obtain ⟨m, hm⟩ : ∃ m, W.length - k = m + 1 := ⟨W.length - k - 1, by omega⟩
  rw [hm, List.replicate_succ]; rfl

def zV : V := ⟨0, 0, bs []⟩
def cellV (c : Col) (n : Int) : V := if c.nul = true ∧ n.tmod 4 = 0 then zV else valueV c.kind (w64 (n.tdiv 4))

set_option maxRecDepth 20000 in
theorem Cell_spec {P : Program} (F : F_warehousebase_Cell P) (c : Col) (n : Int) (H : List AObj) :
    ACalls P F.id [.agg (colC c), .int .i64 n] H (fun r H' => r = .agg (valC (cellV c n)) ∧ H' = H) := by
  refine ACalls.pure rfl (acalls_of_body F.has ?_)
  (conv => whnf); refine recA (fun h => ?_) (fun hf => ?_)
  · (conv => whnf); refine And.intro (by decide) ?_
    (conv => whnf); refine recA (fun h2 => ?_) (fun hf2 => ?_)
    · conv => whnf
      exact pubV (v := cellV c n) (by rw [cellV, if_pos ⟨h, by simpa using h2⟩]; rfl) (by rw [cellV, if_pos ⟨h, by simpa using h2⟩]; rfl) (by rw [cellV, if_pos ⟨h, by simpa using h2⟩]; rfl)
    · (conv => whnf); refine And.intro (by decide) ?_
      (conv => whnf); refine ACalls.use (Value_spec F.warehousebase_Value _ _ _) ?_
      conv => whnf
      have : cellV c n = valueV c.kind (w64 (n.tdiv 4)) := by rw [cellV, if_neg (by intro h; simp [h.2] at hf2)]
      rw [this]
      exact pubV rfl rfl rfl
  · (conv => whnf); refine And.intro (by decide) ?_
    (conv => whnf); refine ACalls.use (Value_spec F.warehousebase_Value _ _ _) ?_
    conv => whnf
    have : cellV c n = valueV c.kind (w64 (n.tdiv 4)) := by rw [cellV, if_neg (by rw [hf]; simp)]
    rw [this]
    exact pubV rfl rfl rfl

/-- The row that Row builds. -/
def rowC : List Col → List Int → Int → List V
  | [], _, _ => []
  | c :: cs, l, i => cellV c (atV l i) :: rowC cs l (i + 1)
theorem rowC_length : ∀ (cs : List Col) (l : List Int) (i : Int), (rowC cs l i).length = cs.length
  | [], _, _ => rfl
  | c :: cs, l, i => by simp [rowC, rowC_length cs]
theorem rowC_get : ∀ (cs : List Col) (l : List Int) (i : Int) (k : Nat) (c : Col), cs[k]? = some c → (rowC cs l i)[k]? = some (cellV c (atV l (i + k)))
  | [], _, _, k, c, h => by simp at h
  | c0 :: cs, l, i, 0, c, h => by simp at h; subst h; simp [rowC]
  | c0 :: cs, l, i, k + 1, c, h => by
    have := rowC_get cs l (i + 1) k c (by simpa using h)
    rw [rowC, List.getElem?_cons_succ, this, show i + 1 + (k : Int) = i + ((k + 1 : Nat) : Int) by omega]

theorem setEs_vC (l : List V) (k : Nat) (v : V) : setEs (vC l) k (valC v) = vC (l.set k v) := by rw [setEs_eq]; simp [vC]

set_option maxRecDepth 20000 in
theorem Row_raw {P : Program} (F : F_warehousebase_Row P) (e1 e2 : Bool) (cs : List Col) (l : List Int) (i : Int) (hc : cs.length ≤ 1000) (hi : 0 ≤ i ∧ i ≤ 1000000) :
    ACalls P F.id [.list e1 3 (cC cs), .list e2 1 (iC l), .int .i64 i] [] (fun r H' => r = .sl 0 cs.length 0 cs.length ∧ H' = [.arr 3 (vC (rowC cs l i))]) := by
  refine acalls_of_body F.has ?_
  conv => whnf
  refine And.intro ⟨by omega, by omega, by rw [cC_length]; show (cs.length : Int) * 32 ≤ 1099511627776; omega, by rw [cC_length]; show (cs.length : Int) ≤ 1099511627776; omega⟩ ?_
  conv => whnf
  refine ⟨fun m ρ H => ∃ k : Nat, k + m = cs.length ∧ H = [.arr 3 (vC (fillUp (rowC cs l i) zV k))] ∧ Sv 32 [(0, .list e1 3 (cC cs)), (1, .list e2 1 (iC l)), (2, .int .i64 i), (7, .sl 0 cs.length 0 cs.length), (8, .int .i64 k)] ρ, cs.length, [], ?_, ?_⟩
  · refine ⟨0, by omega, ?_, Sv.intro rfl ⟨rfl, rfl, rfl, slEq ?_ ?_, rfl, trivial⟩⟩
    · rw [fillUp_zero, rowC_length]
      simp [vC, cC_length]; exact .inr rfl
    · simp [cC_length]
    · simp [cC_length]
  rintro m ρ H ⟨k, hk, rfl, d, rfl⟩
  (conv => whnf); refine recA (fun hlt => ?_) (fun hlt => ?_)
  · simp [cC_length] at hlt
    obtain ⟨c, hcc, _, _⟩ := get_drop hlt
    have hw := rowC_get cs l i k c hcc
    have hlen : (vC (fillUp (rowC cs l i) zV k)).length = cs.length := by rw [vC_length, fillUp_length _ _ _ (by rw [rowC_length]; omega), rowC_length]
    conv => whnf
    refine And.intro (by omega) ?_
    (conv => whnf); refine recO (cC_at hcc) ?_
    conv => whnf
    refine ⟨_, At_spec F.warehousebase_At e2 l _ _, ?_⟩
    conv => whnf
    refine ⟨_, Cell_spec F.warehousebase_Cell c _ _, ?_⟩
    (conv => whnf); refine recT (by rw [hlen]; exact Nat.beq_refl _) ?_
    conv => whnf
    refine And.intro ⟨by omega, by omega⟩ ?_
    (conv => whnf); refine recT (by rw [hlen]; exact Nat.beq_refl _) ?_
    conv => whnf
    have hidx : (vC (fillUp (rowC cs l i) zV k))[0 + (k : Int).toNat]? = some (valC zV) := by
      rw [Nat.zero_add, Int.toNat_natCast]
      exact vC_at (fillUp_get _ _ _ (by rw [rowC_length]; omega))
    refine recO hidx ?_
    conv => whnf
    have e1 := wrapI ((k : Int) + 1) (by omega) (by omega)
    have e2 : IntKind.i64.wrap (i + k) = i + k := wrapI _ (by omega) (by omega)
    refine ⟨m - 1, by omega, Gp.keep rfl ?_ fun ρ1 h => ⟨k + 1, by omega, ?_, h⟩⟩
    · exact ⟨rfl, rfl, rfl, rfl, intEq e1, trivial⟩
    · rw [← fillUp_set _ _ _ _ hw, ← setEs_vC]
      show [AObj.arr 3 (setEs (vC (fillUp (rowC cs l i) zV k)) (0 + (k : Int).toNat) (valC (cellV c (atV l (IntKind.i64.wrap (i + k))))))] = _
      rw [e2, Nat.zero_add, Int.toNat_natCast]
  · simp [cC_length] at hlt
    have : k = cs.length := by omega
    subst this
    conv => whnf
    refine ⟨rfl, ?_⟩
    rw [← rowC_length cs l i, fillUp_all]
theorem Row_own {P : Program} (F : F_warehousebase_Row P) (e1 e2 : Bool) (cs : List Col) (l : List Int) (i : Int) (hc : cs.length ≤ 1000) (hi : 0 ≤ i ∧ i ≤ 1000000) (H : List AObj) :
    ACalls P F.id [.list e1 3 (cC cs), .list e2 1 (iC l), .int .i64 i] H (fun r H' => r = .sl H.length cs.length 0 cs.length ∧ H' = H ++ [.arr 3 (vC (rowC cs l i))]) :=
  ACalls.own1 (by simp [AVal.closed, AVal.isPure]) (Row_raw F e1 e2 cs l i hc hi) (pureEs_vC _)

theorem known5_facts : nameB (bs [97, 95, 49]) = true ∧ nameB (bs [49, 97]) = false ∧ qualB (bs [99, 111, 114, 101, 46, 97]) = true ∧ qualB (bs [97, 46, 98, 46, 99]) = false ∧
    chkRow [⟨bs [97], 2, false⟩] [⟨0, 0, bs []⟩] = 7 ∧ chkRow [⟨bs [97], 2, false⟩] [] = 8 ∧ colIdx [⟨bs [97], 2, false⟩] (bs [97]) = 0 ∧ colIdx [⟨bs [97], 2, false⟩] (bs [98]) = -1 := by
  refine ⟨by kernel_rfl, by kernel_rfl, by kernel_rfl, by kernel_rfl, by kernel_rfl, by kernel_rfl, by kernel_rfl, by kernel_rfl⟩

set_option maxRecDepth 20000 in
theorem known5_spec {P : Program} (F : F_warehouselaw5_known P) (H : List AObj) : ACalls P F.id [] H (fun r H' => r = .bool true ∧ H' = H) := by
  obtain ⟨f1, f2, f3, f4, f5, f6, f7, f8⟩ := known5_facts
  refine ACalls.pure rfl (acalls_of_body F.has ?_)
  conv => whnf
  refine ACalls.use (schema_IsName_spec F.schema_IsName _ _) ?_
  rw [f1]
  (conv => whnf); refine ACalls.use (schema_IsName_spec F.schema_IsName _ _) ?_
  rw [f2]
  (conv => whnf); refine ACalls.use (schema_IsQualified_spec F.schema_IsQualified _ (by decide) _) ?_
  rw [f3]
  (conv => whnf); refine ACalls.use (schema_IsQualified_spec F.schema_IsQualified _ (by decide) _) ?_
  rw [f4]
  (conv => whnf); refine ACalls.use (schema_CheckRow_spec F.schema_CheckRow true true [⟨bs [97], 2, false⟩] [⟨0, 0, bs []⟩] (by simp) _) ?_
  rw [f5]
  (conv => whnf); refine ACalls.use ((schema_CheckRow_spec F.schema_CheckRow true false [⟨bs [97], 2, false⟩] [] (by simp) _).weak (.cons (.refl _) (.cons (.nil false 3) .nil))) ?_
  rw [f6]
  (conv => whnf); refine ACalls.use (schema_Index_spec F.schema_Index true [⟨bs [97], 2, false⟩] (by simp) (bs [97]) _) ?_
  rw [f7]
  (conv => whnf); refine ACalls.use (schema_Index_spec F.schema_Index true [⟨bs [97], 2, false⟩] (by simp) (bs [98]) _) ?_
  rw [f8]
  conv => whnf
  exact .closed _ rfl
end Go.AW
