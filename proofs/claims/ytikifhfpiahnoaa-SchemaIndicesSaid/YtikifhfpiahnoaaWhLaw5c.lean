/-
  The laws of chapter 5: picking.
  No condition: contracts over any program that has this code.
-/
import Derived.Test.YtikifhfpiahnoaaWhPick
import Derived.Test.YtikifhfpiahnoaaWhLaw5
namespace Go.AW
attribute [local irreducible] ACalls

theorem pureEs_iC (l : List Int) : pureEs (iC l) = true := by simp [pureEs, iC, AVal.isPure]
theorem iC_append (a b : List Int) : iC (a ++ b) = iC a ++ iC b := List.map_append

/-- Regrouping at a marked place: one object is kept. -/
theorem Ghost.one {n : Nat} {live : List (Nat × AVal)} {ρ : List AVal} {H : List AObj} {I : List AVal → List AObj → Prop} (id : Nat) (sz : Nat) (es : List (List AVal)) (ho : H[id]? = .some (.arr sz es)) (hp : pureEs es = true) (hl : ρ.length = n) (h : SvPub H [id] ρ live) (hI : ∀ ρ1, Sv n live ρ1 → I ρ1 [.arr sz es]) : Ghost 0 ρ H I :=
  ⟨Gp.one id sz es ho hp hl h hI⟩

set_option maxRecDepth 20000 in
theorem ref5_Equal_refl {P : Program} (F : F_warehouseref5_Equal P) (e1 e2 : Bool) (a : List Col) (ha : a.length ≤ 1000000) (H : List AObj) :
    ACalls P F.id [.list e1 3 (cC a), .list e2 3 (cC a)] H (fun r H' => r = .bool true ∧ H' = H) := by
  refine ACalls.pure (by simp [AVal.closed, AVal.isPure]) (acalls_of_body F.has ?_)
  (conv => whnf); refine recF (by simp) ?_
  conv => whnf
  refine ⟨fun m ρ H => ∃ k : Nat, k + m = a.length ∧ H = [] ∧ Sv 26 [(0, .list e1 3 (cC a)), (1, .list e2 3 (cC a)), (5, .int .i64 k)] ρ, a.length, [], ?_, ?_⟩
  · exact ⟨0, by omega, rfl, Sv.intro rfl ⟨rfl, rfl, rfl, trivial⟩⟩
  rintro m ρ H ⟨k, hk, rfl, d, rfl⟩
  (conv => whnf); refine recA (fun hlt => ?_) (fun hlt => ?_)
  · simp [cC_length] at hlt
    obtain ⟨x, hx, _, _⟩ := get_drop hlt
    conv => whnf
    refine And.intro (by omega) ?_
    (conv => whnf); refine recO (cC_at hx) ?_
    (conv => whnf); refine And.intro (by omega) ?_
    (conv => whnf); refine recO (cC_at hx) ?_
    (conv => whnf)
    refine recF (by simp) ?_
    conv => whnf
    refine ⟨m - 1, by omega, Gp.keep rfl ?_ fun ρ1 h => ⟨k + 1, by omega, rfl, h⟩⟩
    exact ⟨rfl, rfl, intEq (wrapI ((k : Int) + 1) (by omega) (by omega)), trivial⟩
  · conv => whnf
    exact .closed _ rfl

def nearL (l : List Int) : List Int := l.map fun i => i.tmod 16
def bothF (near : List Int) (i : Int) : Int := if 0 ≤ i ∧ i < (near.length : Int) then near.getD i.toNat 0 else -1
theorem nearL_take (l : List Int) (k : Nat) (x : Int) (h : l[k]? = some x) : nearL (l.take (k + 1)) = nearL (l.take k) ++ [x.tmod 16] := by
  rw [List.take_add_one, h]; simp [nearL]
theorem mapTake {α β : Type} (f : α → β) (l : List α) (k : Nat) (x : α) (h : l[k]? = some x) : (l.take (k + 1)).map f = (l.take k).map f ++ [f x] := by
  rw [List.take_add_one, h]; simp
theorem pick_twice (r : List V) (near : List Int) : pickL zV (pickL zV r near) near = pickL zV r (near.map (bothF near)) := by
  conv => lhs; rw [pickL]
  conv => rhs; rw [pickL]
  rw [List.map_map]
  refine List.map_congr_left fun i hi => ?_
  show (if 0 ≤ i ∧ i < ((pickL zV r near).length : Int) then (pickL zV r near).getD i.toNat zV else zV) = (if 0 ≤ bothF near i ∧ bothF near i < (r.length : Int) then r.getD (bothF near i).toNat zV else zV)
  rw [pickL_length]
  by_cases h : 0 ≤ i ∧ i < (near.length : Int)
  · obtain ⟨j, hj, _, _⟩ := get_drop (l := near) (k := i.toNat) (by omega)
    have hb : bothF near i = j := by rw [bothF, if_pos h, List.getD_eq_getElem?_getD, hj]; rfl
    rw [if_pos h, hb, List.getD_eq_getElem?_getD]
    conv => lhs; rw [pickL, List.getElem?_map, hj]
    rfl
  · have hb : bothF near i = -1 := by rw [bothF, if_neg h]
    rw [if_neg h, hb, if_neg (by omega)]

set_option maxRecDepth 20000 in
theorem law_SchemaPicks {P : Program} (F : F_warehouselaw5_SchemaPicks P) (row : List V) (c : List Col) (ind l : List Int) :
    ACalls P F.id [.list false 3 (vC row), .list false 3 (cC c), .list false 1 (iC ind), .list false 1 (iC l)] [] (fun r _ => r = .bool true) := by
  have fin : ∀ H, ACalls P F.warehouselaw5_known.id [] H (fun r H' => r = .bool true ∧ H' = H) := known5_spec F.warehouselaw5_known
  refine acalls_of_body F.has ?_
  (conv => whnf); refine recA (fun h0 => ?_) (fun h0 => ?_)
  · conv => whnf
    refine ACalls.use (fin _) ?_
    conv => whnf
  simp [vC_length] at h0
  (conv => whnf); refine recA (fun h1 => ?_) (fun h1 => ?_)
  · conv => whnf
    refine ACalls.use (fin _) ?_
    conv => whnf
  simp [cC_length] at h1
  (conv => whnf); refine recA (fun h2 => ?_) (fun h2 => ?_)
  · conv => whnf
    refine ACalls.use (fin _) ?_
    conv => whnf
  simp [iC_length] at h2
  (conv => whnf); refine recA (fun h3 => ?_) (fun h3 => ?_)
  · conv => whnf
    refine ACalls.use (fin _) ?_
    conv => whnf
  simp [iC_length] at h3
  conv => whnf
  have hlen : ∀ k, k ≤ l.length → (iC (nearL (l.take k))).length = k := fun k hk => by rw [iC_length, nearL, List.length_map, List.length_take]; omega
  refine ⟨fun m ρ H => ∃ k : Nat, k + m = l.length ∧ H = [.arr 1 (iC (nearL (l.take k)))] ∧
    Sv 131 [(0, .list false 3 (vC row)), (1, .list false 3 (cC c)), (2, .list false 1 (iC ind)), (3, .list false 1 (iC l)), (9, .sl 0 k 0 k), (10, .int .i64 k)] ρ, l.length, [(9, 1)], ?_, ?_⟩
  · exact ⟨0, by omega, by rfl, Sv.intro rfl ⟨rfl, rfl, rfl, rfl, rfl, rfl, trivial⟩⟩
  rintro m ρ H ⟨k, hk, rfl, d, rfl⟩
  conv => whnf
  by_cases hlt : k < l.length
  · obtain ⟨x, hx, _, _⟩ := get_drop hlt
    refine Ghost.one (n := 131) (live := [(0, .list false 3 (vC row)), (1, .list false 3 (cC c)), (2, .list false 1 (iC ind)), (3, .list false 1 (iC l)), (9, .sl 0 k 0 k), (10, .int .i64 k), (37, .bool true)]) 0 1 (iC (nearL (l.take k))) rfl (pureEs_iC _) rfl ?_ ?_
    · exact ⟨.closed _ rfl, .closed _ rfl, .closed _ rfl, .closed _ rfl, pubSl (k := 0) rfl rfl rfl rfl, .closed _ rfl, pubB (by simp [iC_length]; omega), trivial⟩
    rintro ρ1 ⟨d, rfl⟩
    conv => whnf
    refine And.intro (by omega) ?_
    (conv => whnf); refine recO (iC_at hx) ?_
    (conv => whnf); refine And.intro (by decide) ?_
    (conv => whnf); refine recT (by rw [hlen k (by omega)]; exact Nat.beq_refl _) ?_
    (conv => whnf); refine And.intro ⟨roomMul (by simp; omega) (by omega), roomB_le (by simp; omega), rfl, by rw [hlen k (by omega)]⟩ ?_
    conv => whnf
    have hl1 : (iC (nearL (l.take k)) ++ [[AVal.int .i64 (x.tmod 16)]]).length = k + 1 := by rw [List.length_append, hlen k (by omega)]; rfl
    refine ⟨m - 1, by omega, Gp.keep rfl ?_ fun ρ1 h => ⟨k + 1, by omega, ?_, h⟩⟩
    · exact ⟨rfl, rfl, rfl, rfl, slEq hl1 hl1, intEq (wrapI ((k : Int) + 1) (by omega) (by omega)), trivial⟩
    · rw [nearL_take l k x hx, iC_append]; rfl
  · have hk2 : k = l.length := by omega
    subst hk2
    rw [List.take_length]
    have hnl : (iC (nearL l)).length = l.length := by rw [iC_length, nearL, List.length_map]
    have hnn : (nearL l).length = l.length := by rw [nearL, List.length_map]
    refine Ghost.none (n := 131) (live := [(0, .list false 3 (vC row)), (1, .list false 3 (cC c)), (2, .list false 1 (iC ind)), (9, .list false 1 (iC (nearL l))), (37, .bool false)]) rfl ?_ ?_
    · exact ⟨.closed _ rfl, .closed _ rfl, .closed _ rfl, pubF rfl hnl.symm hnl.symm (pureEs_iC _), pubB (by simp [iC_length]), trivial⟩
    rintro ρ1 ⟨d, rfl⟩
    conv => whnf
    refine ACalls.use (schema_Pick_spec F.schema_Pick false false row (nearL l) (by omega) (by omega) _) ?_
    (conv => whnf); refine recF (by simp [vC_length, pickL_length, iC_length]) ?_
    conv => whnf
    generalize hN : nearL l = N at *
    have hblen : ∀ k, k ≤ N.length → (iC ((N.take k).map (bothF N))).length = k := fun k hk => by rw [iC_length, List.length_map, List.length_take]; omega
    refine ⟨fun m ρ H => ∃ k : Nat, k + m = N.length ∧ H = [.arr 1 (iC ((N.take k).map (bothF N)))] ∧
      Sv 131 [(0, .list false 3 (vC row)), (1, .list false 3 (cC c)), (2, .list false 1 (iC ind)), (9, .list false 1 (iC N)), (11, .list false 3 (vC (pickL zV row N))), (12, .sl 0 k 0 k), (13, .int .i64 k)] ρ, N.length, [(12, 1)], ?_, ?_⟩
    · exact ⟨0, by omega, by rfl, Sv.intro rfl ⟨rfl, rfl, rfl, rfl, rfl, rfl, rfl, trivial⟩⟩
    rintro m ρ H ⟨k, hk, rfl, d, rfl⟩
    conv => whnf
    by_cases hlt : k < N.length
    · obtain ⟨x, hx, _, _⟩ := get_drop hlt
      refine Ghost.one (n := 131) (live := [(0, .list false 3 (vC row)), (1, .list false 3 (cC c)), (2, .list false 1 (iC ind)), (9, .list false 1 (iC N)), (11, .list false 3 (vC (pickL zV row N))), (12, .sl 0 k 0 k), (13, .int .i64 k), (59, .bool true)]) 0 1 (iC ((N.take k).map (bothF N))) rfl (pureEs_iC _) rfl ?_ ?_
      · exact ⟨.closed _ rfl, .closed _ rfl, .closed _ rfl, .closed _ rfl, .closed _ rfl, pubSl (k := 0) rfl rfl rfl rfl, .closed _ rfl, pubB (by simp [iC_length]; omega), trivial⟩
      rintro ρ1 ⟨d, rfl⟩
      conv => whnf
      have hb2 : ∀ y : Int, bothF N x = y → (iC ((N.take k).map (bothF N)) ++ [[AVal.int .i64 y]]) = iC ((N.take (k + 1)).map (bothF N)) := fun y hy => by
        rw [mapTake _ _ _ _ hx, iC_append, hy]; rfl
      have hl1 : ∀ y : Int, (iC ((N.take k).map (bothF N)) ++ [[AVal.int .i64 y]]).length = k + 1 := fun y => by rw [List.length_append, hblen k (by omega)]; rfl
      have e1 := wrapI ((k : Int) + 1) (by omega) (by omega)
      refine And.intro (by omega) ?_
      (conv => whnf); refine recO (iC_at hx) ?_
      (conv => whnf); refine recA (fun g0 => ?_) (fun g0 => ?_)
      · replace g0 : decide (x ≥ 0) = true := g0
        simp at g0
        (conv => whnf); refine And.intro (by omega) ?_
        (conv => whnf); refine recO (iC_at hx) ?_
        (conv => whnf); refine recA (fun g1 => ?_) (fun g1 => ?_)
        · replace g1 : decide (x < ((iC N).length : Int)) = true := g1
          simp [iC_length] at g1
          obtain ⟨j, hj, _, _⟩ := get_drop (l := N) (k := x.toNat) (by omega)
          have hbj : bothF N x = j := by rw [bothF, if_pos ⟨g0, g1⟩, List.getD_eq_getElem?_getD, hj]; rfl
          (conv => whnf); refine And.intro (by omega) ?_
          (conv => whnf); refine recO (iC_at hx) ?_
          (conv => whnf); refine And.intro (by omega) ?_
          (conv => whnf); refine recO (iC_at hj) ?_
          (conv => whnf); refine recT (by rw [hblen k (by omega)]; exact Nat.beq_refl _) ?_
          (conv => whnf); refine And.intro ⟨roomMul (by simp; omega) (by omega), roomB_le (by simp; omega), rfl, by rw [hblen k (by omega)]⟩ ?_
          conv => whnf
          refine ⟨m - 1, by omega, Gp.keep rfl ?_ fun ρ1 h => ⟨k + 1, by omega, ?_, h⟩⟩
          · exact ⟨rfl, rfl, rfl, rfl, rfl, slEq (hl1 _) (hl1 _), intEq e1, trivial⟩
          · rw [← hb2 _ hbj]; rfl
        · replace g1 : decide (x < ((iC N).length : Int)) = false := g1
          simp [iC_length] at g1
          have hbj : bothF N x = -1 := by rw [bothF, if_neg (by omega)]
          (conv => whnf); refine recT (by rw [hblen k (by omega)]; exact Nat.beq_refl _) ?_
          (conv => whnf); refine And.intro ⟨roomMul (by simp; omega) (by omega), roomB_le (by simp; omega), rfl, by rw [hblen k (by omega)]⟩ ?_
          conv => whnf
          refine ⟨m - 1, by omega, Gp.keep rfl ?_ fun ρ1 h => ⟨k + 1, by omega, ?_, h⟩⟩
          · exact ⟨rfl, rfl, rfl, rfl, rfl, slEq (hl1 _) (hl1 _), intEq e1, trivial⟩
          · rw [← hb2 _ hbj]; rfl
      · replace g0 : decide (x ≥ 0) = false := g0
        simp at g0
        have hbj : bothF N x = -1 := by rw [bothF, if_neg (by omega)]
        (conv => whnf); refine recT (by rw [hblen k (by omega)]; exact Nat.beq_refl _) ?_
        (conv => whnf); refine And.intro ⟨roomMul (by simp; omega) (by omega), roomB_le (by simp; omega), rfl, by rw [hblen k (by omega)]⟩ ?_
        conv => whnf
        refine ⟨m - 1, by omega, Gp.keep rfl ?_ fun ρ1 h => ⟨k + 1, by omega, ?_, h⟩⟩
        · exact ⟨rfl, rfl, rfl, rfl, rfl, slEq (hl1 _) (hl1 _), intEq e1, trivial⟩
        · rw [← hb2 _ hbj]; rfl
    · have hk2 : k = N.length := by omega
      subst hk2
      rw [List.take_length]
      have hnl : (iC (N.map (bothF N))).length = N.length := by rw [iC_length, List.length_map]
      have hml : (N.map (bothF N)).length = N.length := List.length_map ..
      refine Ghost.none (n := 131) (live := [(0, .list false 3 (vC row)), (1, .list false 3 (cC c)), (2, .list false 1 (iC ind)), (9, .list false 1 (iC N)), (11, .list false 3 (vC (pickL zV row N))), (12, .list false 1 (iC (N.map (bothF N)))), (59, .bool false)]) rfl ?_ ?_
      · exact ⟨.closed _ rfl, .closed _ rfl, .closed _ rfl, .closed _ rfl, .closed _ rfl, pubF rfl hnl.symm hnl.symm (pureEs_iC _), pubB (by simp [iC_length]), trivial⟩
      rintro ρ1 ⟨d, rfl⟩
      conv => whnf
      have same : ∀ (r1 : List V) (_ : r1.length ≤ 1000000) (H : List AObj), ACalls P F.warehouseref1_SameRow.id [.list false 3 (vC r1), .list false 3 (vC r1)] H (fun r H' => r = .bool true ∧ H' = H) := fun r1 h1 H =>
        (ref1_SameRow_spec F.warehouseref1_SameRow false false r1 r1 h1 H).mono fun _ _ h => ⟨h.1.trans (by rw [(rowsCmp_zero r1 r1).2 rfl]; rfl), h.2⟩
      have pl : ∀ (r1 : List V) (is : List Int), is.length ≤ 1000000 → (pickL zV r1 is).length ≤ 1000000 := fun r1 is h => by rw [pickL_length]; exact h
      have plc : ∀ (r1 : List Col) (is : List Int), is.length ≤ 1000000 → (pickL zC r1 is).length ≤ 1000000 := fun r1 is h => by rw [pickL_length]; exact h
      refine ACalls.use (schema_Pick_spec F.schema_Pick false false row ind (by omega) (by omega) _) ?_
      (conv => whnf); refine ACalls.use (ref5_Pick_spec F.warehouseref5_Pick false false row ind (by omega) (by omega) _) ?_
      (conv => whnf); refine ACalls.use (same _ (pl _ _ (by omega)) _) ?_
      (conv => whnf); refine ACalls.use (ref5_Pick_spec F.warehouseref5_Pick false false row N (by omega) (by omega) _) ?_
      (conv => whnf); refine ACalls.use (same _ (pl _ _ (by omega)) _) ?_
      (conv => whnf); refine ACalls.use (schema_Pick_spec F.schema_Pick false false (pickL zV row N) N (pl _ _ (by omega)) (by omega) _) ?_
      (conv => whnf); refine ACalls.use (schema_Pick_spec F.schema_Pick false false row (N.map (bothF N)) (by omega) (by omega) _) ?_
      rw [← pick_twice row N]
      (conv => whnf); refine ACalls.use (same _ (pl _ _ (by omega)) _) ?_
      (conv => whnf); refine ACalls.use (schema_Select_spec F.schema_Select false false c N (by omega) (by omega) _) ?_
      (conv => whnf); refine ACalls.use (ref5_Select_spec F.warehouseref5_Select false false c N (by omega) (by omega) _) ?_
      (conv => whnf); refine ACalls.use (ref5_Equal_refl F.warehouseref5_Equal false false _ (plc _ _ (by omega)) _) ?_
      (conv => whnf); refine ACalls.use (schema_Select_spec F.schema_Select false false c ind (by omega) (by omega) _) ?_
      (conv => whnf); refine ACalls.use (ref5_Select_spec F.warehouseref5_Select false false c ind (by omega) (by omega) _) ?_
      (conv => whnf); refine ACalls.use (ref5_Equal_refl F.warehouseref5_Equal false false _ (plc _ _ (by omega)) _) ?_
      (conv => whnf); refine ACalls.use (fin _) ?_
      conv => whnf
end Go.AW
