/-
  The law on the order of rows.
  No condition: contracts over any program that has this code.
-/
import Derived.Test.YtikifhfpiahnoaaWhLaw1c
namespace Go.AW
attribute [local irreducible] ACalls

/-- Objects that are lent whole. -/
theorem lentSl {H : List AObj} {id ep len sz : Nat} {es : List (List AVal)} (ho : H[id]? = some (.arr sz es)) (he : ep = es.length) (hl : len = es.length) (hp : pureEs es = true) : Lent H (.sl id ep 0 len) (.list false sz es) := by
  subst he hl
  have := Lent.sl id es.length 0 es.length sz es ho rfl hp
  rwa [List.drop_zero, List.take_length] at this

theorem rowsCmp_append : ∀ (a : List V) (x : V), rowsCmp a (a ++ [x]) = -1
  | [], x => rfl
  | y :: a, x => by
    rw [List.cons_append, rowsCmp, if_pos ((isCmp_val.zero y y).2 rfl), rowsCmp_append a x]
theorem rowsCmp_append' : ∀ (a : List V) (x : V), rowsCmp (a ++ [x]) a = 1
  | [], x => rfl
  | y :: a, x => by
    rw [List.cons_append, rowsCmp, if_pos ((isCmp_val.zero y y).2 rfl), rowsCmp_append' a x]

set_option maxRecDepth 20000 in
theorem law_ValueOrders {P : Program} (F : F_warehouselaw1_ValueOrders P) (a b : List V) (l : List Int) (n : Int) :
    ACalls P F.id [.list false 3 (vC a), .list false 3 (vC b), .list false 1 (iC l), .int .i64 n] [] (fun r _ => r = .bool true) := by
  have e3 := and_3 n
  refine acalls_of_body F.has ?_
  have fin : ∀ H, ACalls P F.warehouselaw1_known.id [] H (fun r H' => r = .bool true ∧ H' = H) := known_spec F.warehouselaw1_known
  (conv => whnf); refine recA (fun h0 => ?_) (fun h0 => ?_)
  · conv => whnf
    refine ACalls.use (fin _) ?_
    conv => whnf
  simp [vC_length] at h0
  (conv => whnf); refine recA (fun h1 => ?_) (fun h1 => ?_)
  · conv => whnf
    refine ACalls.use (fin _) ?_
    conv => whnf
  simp [vC_length] at h1
  conv => whnf
  refine ⟨fun m ρ H => ∃ (k : Nat) (xs ys : List V), k + m = (and64 n 3).toNat ∧ xs.length = k ∧ ys.length = k ∧ H = [.arr 3 (vC xs), .arr 3 (vC ys)] ∧
    Sv 87 [(0, .list false 3 (vC a)), (1, .list false 3 (vC b)), (2, .list false 1 (iC l)), (3, .int .i64 n), (9, .sl 0 k 0 k), (10, .sl 1 k 0 k), (11, .int .i64 k)] ρ, (and64 n 3).toNat, [(9, 3), (10, 3)], ?_, ?_⟩
  · exact ⟨0, [], [], by omega, rfl, rfl, by rfl, Sv.intro rfl ⟨rfl, rfl, rfl, rfl, rfl, rfl, rfl, trivial⟩⟩
  rintro m ρ H ⟨k, xs, ys, hk, hx, hy, rfl, d, rfl⟩
  (conv => whnf); refine recA (fun hlt => ?_) (fun hlt => ?_)
  · replace hlt : decide ((k : Int) < and64 n 3) = true := hlt
    simp at hlt
    conv => whnf
    refine ACalls.use (At_spec F.warehousebase_At false l k _) ?_
    (conv => whnf); refine And.intro (by decide) ?_
    (conv => whnf); refine ACalls.use (Any_spec F.warehousebase_Any _ _) ?_
    (conv => whnf); refine recT (by simp [vC_length, hx]) ?_
    (conv => whnf); refine And.intro ⟨roomMul (by simp; omega) (by omega), roomB_le (by simp; omega), rfl, by simp [vC_length, hx]⟩ ?_
    (conv => whnf); refine ACalls.use (At_spec F.warehousebase_At false l _ _) ?_
    (conv => whnf); refine And.intro (by decide) ?_
    (conv => whnf); refine ACalls.use (Any_spec F.warehousebase_Any _ _) ?_
    (conv => whnf); refine recT (by simp [vC_length, hy]) ?_
    (conv => whnf); refine And.intro ⟨roomMul (by simp; omega) (by omega), roomB_le (by simp; omega), rfl, by simp [vC_length, hy]⟩ ?_
    conv => whnf
    have hlx : ∀ v, (vC xs ++ [valC v]).length = k + 1 := by simp [vC_length, hx]
    have hly : ∀ v, (vC ys ++ [valC v]).length = k + 1 := by simp [vC_length, hy]
    refine ⟨m - 1, by omega, Gp.keep rfl ?_ fun ρ1 h => ⟨k + 1, xs ++ [anyV ((atV l k).tmod 9)], ys ++ [anyV ((atV l (w64 (k + 3))).tmod 9)], by omega, by simp [hx], by simp [hy], by rw [vC_append, vC_append]; rfl, h⟩⟩
    exact ⟨rfl, rfl, rfl, rfl, slEq (hlx _) (hlx _), slEq (hly _) (hly _), intEq (wrapI ((k : Int) + 1) (by omega) (by omega)), trivial⟩
  · replace hlt : decide ((k : Int) < and64 n 3) = false := hlt
    simp at hlt
    conv => whnf
    refine And.intro ⟨roomMul (by simp [vC_length]; omega) (by omega), roomB_le (by simp [vC_length]; omega)⟩ ?_
    (conv => whnf); refine recT (by simp) ?_
    (conv => whnf); refine And.intro ⟨roomMul (by simp [vC_length]; omega) (by omega), roomB_le (by simp [vC_length]; omega), rfl, rfl⟩ ?_
    conv => whnf
    refine ACalls.use (value_CompareRows_spec F.value_CompareRows false false a b (by omega) _) ?_
    (conv => whnf); refine ACalls.use (ref1_CompareRows_spec F.warehouseref1_CompareRows false false a b (by omega) _) ?_
    (conv => whnf); refine recT (by simp) ?_
    conv => whnf
    have key : vC a ++ [valC ⟨0, 0, bs []⟩] = vC (a ++ [⟨0, 0, bs []⟩]) := by rw [vC_append]; rfl
    refine ACalls.use (ACalls.bor (R := .int .i64 (rowsCmp xs ys)) rfl ((value_CompareRows_spec F.value_CompareRows false false xs ys (by omega) []).mono fun _ _ h => h.1) (.cons (lentSl rfl (by rw [vC_length, hx]) (by rw [vC_length, hx]) (pureEs_vC _)) (.cons (lentSl rfl (by rw [vC_length, hy]) (by rw [vC_length, hy]) (pureEs_vC _)) .nil))) ?_
    (conv => whnf); refine ACalls.use (ACalls.bor (R := .int .i64 (rowsCmp xs ys)) rfl ((ref1_CompareRows_spec F.warehouseref1_CompareRows false false xs ys (by omega) []).mono fun _ _ h => h.1) (.cons (lentSl rfl (by rw [vC_length, hx]) (by rw [vC_length, hx]) (pureEs_vC _)) (.cons (lentSl rfl (by rw [vC_length, hy]) (by rw [vC_length, hy]) (pureEs_vC _)) .nil))) ?_
    (conv => whnf); refine recT (by simp) ?_
    (conv => whnf); refine ACalls.use (ACalls.bor (R := .int .i64 (rowsCmp a (a ++ [⟨0, 0, bs []⟩]))) rfl ((value_CompareRows_spec F.value_CompareRows false false a (a ++ [⟨0, 0, bs []⟩]) (by omega) []).mono fun _ _ h => h.1) (.cons (.same _ (by simp [AVal.closed, AVal.isPure])) (.cons (lentSl (by rw [← key]; rfl) (by rw [← key]; rfl) (by rw [← key]; rfl) (pureEs_vC _)) .nil))) ?_
    rw [rowsCmp_append]
    (conv => whnf); refine ACalls.use (ACalls.bor (R := .int .i64 (rowsCmp (a ++ [⟨0, 0, bs []⟩]) a)) rfl ((value_CompareRows_spec F.value_CompareRows false false (a ++ [⟨0, 0, bs []⟩]) a (by simp; omega) []).mono fun _ _ h => h.1) (.cons (lentSl (by rw [← key]; rfl) (by rw [← key]; rfl) (by rw [← key]; rfl) (pureEs_vC _)) (.cons (.same _ (by simp [AVal.closed, AVal.isPure])) .nil))) ?_
    rw [rowsCmp_append']
    (conv => whnf); refine ACalls.use (value_CompareRows_spec F.value_CompareRows false false a a (by omega) _) ?_
    rw [(rowsCmp_zero a a).2 rfl]
    (conv => whnf); refine ACalls.use (fin _) ?_
    conv => whnf
end Go.AW
