/-
  Values: encoding of rows.
  No condition: contracts over any program that has this code.
-/
import Derived.Test.YtikifhfpiahnoaaWhVal
namespace Go.AW
attribute [local irreducible] ACalls

/-- Bytes as elements. -/
def bC (l : List Int) : List (List AVal) := l.map fun n => [.int .u8 n]
def u8 (n : Int) : Int := IntKind.u8.wrap n

def w4 (n : Int) : List Int := [u8 (n.fdiv (2 ^ 24)), u8 (n.fdiv (2 ^ 16)), u8 (n.fdiv (2 ^ 8)), u8 n]

theorem bC_append (a b : List Int) : bC (a ++ b) = bC a ++ bC b := List.map_append
theorem bC_length (l : List Int) : (bC l).length = l.length := List.length_map ..

theorem roomB_le {n : Nat} (h : n ≤ 1000000000) : n ≤ roomB := Nat.le_trans h (by show _ ≤ 1099511627776; omega)
theorem roomB_le1 {n : Nat} (h : n ≤ 1000000000) : n * 1 ≤ roomB := roomB_le (by omega)

theorem ACalls.retH {P : Program} {f : FuncId} {args : List AVal} {H H1 : List AObj} {R : AVal} {Q : AVal → List AObj → Prop} (h : ACalls P f args H (fun r H' => r = R ∧ H' = H1)) (hq : Q R H1) : ACalls P f args H Q :=
  h.mono fun r H' ⟨h1, h2⟩ => by subst h1 h2; exact hq

set_option maxRecDepth 20000 in
theorem word_spec {P : Program} (F : F_value_word P) (H : List AObj) (id : Nat) (es : List (List AVal)) (n : Int) (ho : H[id]? = some (.arr 1 es)) (hl : es.length ≤ 1000000) :
    ACalls P F.id [.sl id es.length 0 es.length, .int .i64 n] H (fun r H' => r = .sl id (es ++ bC (w4 n)).length 0 (es ++ bC (w4 n)).length ∧ H' = H.set id (.arr 1 (es ++ bC (w4 n)))) := by
  refine acalls_of_body F.has ?_
  repeat' ((conv => whnf); first | refine And.intro (by decide) ?_ | refine recO ho ?_ | refine recT (Nat.beq_refl _) ?_)
  conv => whnf
  refine And.intro ⟨?_, ?_, rfl, rfl⟩ ?_
  · exact roomB_le1 (by simp; omega)
  · exact roomB_le (by simp; omega)
  rw [setO_eq]
  conv => whnf
  exact ⟨rfl, rfl⟩

def bytesI (s : ByteArray) : List Int := s.data.toList.map fun b => (b.toNat : Int)

/-- The encoding of a value. -/
def encV (v : V) : List Int :=
  u8 v.kind :: (if v.kind = 1 then [u8 v.num] else if v.kind = 2 then w4 (IntKind.i64.wrap (v.num + 1073741824)) else if v.kind = 4 then w4 v.num else if v.kind = 3 then u8 v.str.size :: bytesI v.str else [])

def encK (rs : List V) (k : Nat) : List Int := u8 rs.length :: (rs.take k).flatMap encV
def encB (rs : List V) : List Int := u8 rs.length :: rs.flatMap encV

/-- What Encode returns. -/
def encR (rs : List V) : AVal :=
  if 12 < rs.length then .tuple [.nil, .int .i64 2] else if rs.all validB then .tuple [.list false 1 (bC (encB rs)), .int .i64 0] else .tuple [.nil, .int .i64 8]

theorem encV_len (v : V) (h : validB v = true) : (encV v).length ≤ 66 := by
  unfold encV validB at *
  split <;> (try split) <;> (try split) <;> (try split) <;> simp_all [w4, bytesI]

theorem valid_str (v : V) (h : validB v = true) : (byteCells v.str.data.toList).length ≤ 64 := by
  simp only [byteCells, List.length_map]
  unfold validB at h
  split at h <;> (try split at h) <;> (try split at h) <;> (try split at h) <;> (try split at h) <;> simp_all

theorem encK_len (rs : List V) (k : Nat) (h : (rs.take k).all validB = true) : (encK rs k).length ≤ 1 + 66 * k := by
  simp only [encK, List.length_cons]
  have : ∀ l : List V, l.all validB = true → (l.flatMap encV).length ≤ 66 * l.length := by
    intro l hl
    induction l with
    | nil => simp
    | cons v l ih =>
      simp only [List.all_cons, Bool.and_eq_true] at hl
      have := encV_len v hl.1
      have := ih hl.2
      simp only [List.flatMap_cons, List.length_append, List.length_cons]; omega
  have := this _ h
  have h2 : (rs.take k).length ≤ k := List.length_take_le ..
  have h3 : 66 * (rs.take k).length ≤ 66 * k := Nat.mul_le_mul_left _ h2
  omega

theorem pureEs_bC (l : List Int) : pureEs (bC l) = true := by simp [pureEs, bC, AVal.isPure]
theorem pub_int {H1 : List AObj} {n : Nat} {ids : List Nat} {k : IntKind} {a b : Int} (h : a = b) : Pub H1 n ids (.int k a) (.int k b) := by subst h; exact .closed _ rfl
theorem pub2 {H1 : List AObj} {n : Nat} {ids : List Nat} {a b r s : AVal} (h1 : Pub H1 n ids a r) (h2 : Pub H1 n ids b s) : Pub H1 n ids (.tuple [a, b]) (.tuple [r, s]) := by
  refine .tuple _ _ rfl fun i v t h3 h4 => ?_
  rcases i with _ | _ | i
  · cases h3; cases h4; exact h1
  · cases h3; cases h4; exact h2
  · simp at h3
theorem ObP.of_eq {H : List AObj} {ids : List Nat} {esz : Nat} {es es1 : List (List AVal)} (he : es = es1) (h : pureEs es1 = true) : ObP H ids (.arr esz es) (.arr esz es1) := by subst he; exact .same _ _ h
theorem pubF {H1 : List AObj} {n : Nat} {id ep len sz : Nat} {es : List (List AVal)} (ho : H1[id]? = some (.arr sz es)) (he : ep = es.length) (hl : len = es.length) (hp : pureEs es = true) : Pub H1 n [] (.sl id ep 0 len) (.list false sz es) := by
  subst hl he
  have := Pub.frz (n := n) (ids := []) id es.length 0 es.length sz es ho rfl hp (by simp)
  rwa [List.drop_zero, List.take_length] at this

def encS (ex : Bool) (rs : List V) (k : Nat) : List (Nat × AVal) := [(4, .sl 0 (bC (encK rs k)).length 0 (bC (encK rs k)).length), (14, .list ex 3 (rs.map valC)), (15, .int .i64 (rs.map valC).length), (16, .int .i64 k)]

set_option maxRecDepth 20000 in
theorem encode_list {P : Program} (F : F_value_Encode P) (ex : Bool) (rs : List V) (H : List AObj) :
    ACalls P F.id [.list ex 3 (rs.map valC)] H (fun r H' => r = encR rs ∧ H' = H) := by
  refine ACalls.pure rfl (acalls_of_body F.has ?_)
  (conv => whnf); refine recA (fun hlt => ?_) (fun hlt => ?_)
  · conv => whnf
    simp at hlt
    rw [show encR rs = .tuple [.nil, .int .i64 2] from if_pos (by omega)]
    exact pub2 (.closed _ rfl) (.closed _ rfl)
  conv => whnf
  simp at hlt
  refine ⟨fun n ρ H => ∃ k : Nat, k + n = rs.length ∧ (rs.take k).all validB = true ∧ H = [.arr 1 (bC (encK rs k))] ∧
    Sv 67 (encS ex rs k) ρ, rs.length, [], ⟨0, by simp, by simp, ?_, ?_⟩, ?_⟩
  · simp [encK, bC, u8]
  · exact Sv.intro rfl ⟨rfl, rfl, rfl, rfl, trivial⟩
  rintro n ρ H ⟨k, hk, hz, rfl, d, rfl⟩
  conv => whnf
  refine recA (fun hlt2 => ?_) (fun hlt2 => ?_)
  · simp at hlt2
    conv => whnf
    refine ⟨by omega, ?_⟩
    conv => whnf
    refine recO (e := valC rs[k]) ?_ ?_
    · rw [List.getElem?_map, List.getElem?_eq_getElem (by omega)]; rfl
    conv => whnf
    have hb : (bC (encK rs k)).length ≤ 1000 := by rw [bC_length]; exact Nat.le_trans (encK_len rs k hz) (by omega)
    have hsnoc : rs.take (k + 1) = rs.take k ++ [rs[k]] := by rw [List.take_add_one, List.getElem?_eq_getElem (by omega)]; rfl
    have hmem : rs[k] ∈ rs := List.getElem_mem _
    generalize rs[k] = v at hsnoc hmem ⊢
    refine (value_Valid_spec F.value_Valid v _).use ?_
    (conv => whnf); refine recA (fun hv => ?_) (fun hv => ?_)
    · conv => whnf
      have hall : rs.all validB = false := by
        apply Bool.eq_false_iff.2
        intro hall
        rw [List.all_eq_true.1 hall v hmem] at hv
        cases hv
      rw [show encR rs = .tuple [.nil, .int .i64 8] by unfold encR; rw [if_neg (by omega), hall]; rfl]
      exact pub2 (.closed _ rfl) (.closed _ rfl)
    have hz2 : (rs.take (k + 1)).all validB = true := by rw [hsnoc]; simp at hv; simp [hz, hv]
    have hsz : (byteCells v.str.data.toList).length ≤ 64 := valid_str v (by simpa using hv)
    have hkey : bC (encK rs (k + 1)) = bC (encK rs k) ++ bC (encV v) := by rw [← bC_append]; congr 1; simp [encK, hsnoc]
    have e1 := wrapI ((k : Int) + 1) (by omega) (by omega)
    repeat' ((conv => whnf); first
      | refine recT (Nat.beq_refl _) ?_
      | refine And.intro ⟨roomB_le1 (by simp; omega), roomB_le (by simp; omega), rfl, rfl⟩ ?_
      | refine recA (fun _ => ?_) (fun _ => ?_)
      | refine ACalls.retH (word_spec F.value_word _ _ _ _ (by rfl) (by simp; omega)) ?_)
    all_goals (conv => whnf)
    all_goals refine ⟨n - 1, by omega, Gp.one 0 1 (bC (encK rs (k + 1))) ?_ (pureEs_bC _) rfl ?_ fun ρ1 h => ⟨k + 1, by omega, hz2, rfl, h⟩⟩
    all_goals try (refine ⟨pubSl (k := 0) rfl rfl ?_ ?_, .closed _ rfl, .closed _ rfl, pub_int e1, trivial⟩)
    all_goals (rw [hkey]; simp_all [encV, bC, u8, w4, bytesI, byteCells])
  · conv => whnf
    simp at hlt2
    have e : rs.take k = rs := List.take_of_length_le hlt2
    rw [e] at hz
    have e2 : encK rs k = encB rs := by simp [encK, encB, e]
    rw [show encR rs = .tuple [.list false 1 (bC (encB rs)), .int .i64 0] by unfold encR; rw [if_neg (by omega), hz]; rfl, e2]
    have := Pub.frz (H1 := [.arr 1 (bC (encB rs))]) (n := 0) (ids := []) 0 (bC (encB rs)).length 0 (bC (encB rs)).length 1 (bC (encB rs)) rfl rfl (pureEs_bC _) (by simp)
    rw [List.drop_zero, List.take_length] at this
    exact pub2 this (.closed _ rfl)

end Go.AW
