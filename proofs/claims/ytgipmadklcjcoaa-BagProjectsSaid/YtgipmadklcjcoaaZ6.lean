/-
  An abstract machine over the model, the code of functions on it, and their contracts: what the claim needs.
  No condition: definitions, plain laws, contracts over any program that has this code.
-/
import Derived.Test.YtgipmadklcjcoaaZ5
set_option linter.all false
namespace Go.AW
section
variable {P : Program} {C : Nat → Nat} {τ : Nat → Option Loc} {H : List AObj} {w : World}
inductive WkD : AVal → AVal → Prop where
  | refl (a : AVal) : WkD a a
  | nil (x : Bool) (sz : Nat) : WkD .nil (.list x sz [])
  | list (x y : Bool) (sz : Nat) (es fs : List (List AVal)) (h : y = true → x = true) (hl : es.length = fs.length)
      (hl2 : ∀ (i : Nat) (e f : List AVal), es[i]? = some e → fs[i]? = some f → e.length = f.length)
      (hcell : ∀ (i j : Nat) (f : List AVal) (c : AVal), fs[i]? = some f → f[j]? = some c → c.isCell = true)
      (hc : ∀ (i j : Nat) (e f : List AVal) (d c : AVal), es[i]? = some e → fs[i]? = some f → e[j]? = some d → f[j]? = some c → WkD d c) : WkD (.list x sz es) (.list y sz fs)
  | agg (asv bs : List AVal) (hl : asv.length = bs.length) (h : ∀ (i : Nat) (a b : AVal), asv[i]? = some a → bs[i]? = some b → WkD a b) : WkD (.agg asv) (.agg bs)
  | tuple (asv bs : List AVal) (hl : asv.length = bs.length) (h : ∀ (i : Nat) (a b : AVal), asv[i]? = some a → bs[i]? = some b → WkD a b) : WkD (.tuple asv) (.tuple bs)

theorem Rd.weakD {a b : AVal} {v : Value} (h : Rd C w a v) (hw : WkD a b) : Rd C w b v := by
  induction hw generalizing v with
  | refl => exact h
  | nil x sz => cases h; exact .list0 x sz none 0 (fun _ => rfl)
  | list x y sz es fs hxy hl hl2 hcell hc ih =>
    have hsome : ∀ {i : Nat} {f : List AVal}, fs[i]? = some f → ∃ e, es[i]? = some e ∧ e.length = f.length := fun {i f} hf => by
      have hi : i < es.length := by have := (List.getElem?_eq_some_iff.1 hf).1; omega
      exact ⟨es[i], List.getElem?_eq_getElem hi, hl2 i _ _ (List.getElem?_eq_getElem hi) hf⟩
    cases h with
    | list0 _ _ a cap hx =>
      cases fs with
      | nil => exact .list0 y sz a cap fun hy => hx (hxy hy)
      | cons f fs => simp at hl
    | list _ _ _ b off cap vs hx hcap hsz hC hcl hp hrd =>
      rw [hl]
      refine .list y sz fs b off cap vs (fun hy => by rw [← hl]; exact hx (hxy hy)) (by omega) (fun f hf => ?_) (by rw [← hl]; exact hC) (fun i j hi hj => hcl i j (by omega) hj) hcell (fun i j f c hf hcc => ?_)
      · obtain ⟨i, hi, rfl⟩ := List.getElem_of_mem hf
        obtain ⟨e, he, hle⟩ := hsome (List.getElem?_eq_getElem hi)
        rw [← hle]; exact hsz e (List.mem_of_getElem? he)
      · obtain ⟨e, he, hle⟩ := hsome hf
        have hj : j < e.length := by have := (List.getElem?_eq_some_iff.1 hcc).1; omega
        exact ih i j e f e[j] c he hf (List.getElem?_eq_getElem hj) hcc (hrd i j e e[j] he (List.getElem?_eq_getElem hj))
  | agg => cases h
  | tuple => cases h

theorem Rel.weakD {a b : AVal} {v : Value} (h : Rel C w τ H a v) (hw : WkD a b) : Rel C w τ H b v := by
  induction hw generalizing v with
  | refl => exact h
  | nil x sz =>
    cases h with
    | rd h => exact .rd (h.weakD (.nil x sz))
  | list x y sz es fs hxy hl hl2 hcell hc ih =>
    cases h with
    | rd h => exact .rd (h.weakD (.list x y sz es fs hxy hl hl2 hcell hc))
  | agg asv bs hl h2 ih =>
    cases h with
    | rd h => cases h
    | agg _ vs hlv hv =>
      refine .agg bs vs (by omega) fun i c u hc hu => ?_
      have hi : i < asv.length := by have := (List.getElem?_eq_some_iff.1 hc).1; omega
      exact ih i asv[i] c (List.getElem?_eq_getElem hi) hc (hv i asv[i] u (List.getElem?_eq_getElem hi) hu)
  | tuple asv bs hl h2 ih =>
    cases h with
    | rd h => cases h
    | tuple _ vs hlv hv =>
      refine .tuple bs vs (by omega) fun i c u hc hu => ?_
      have hi : i < asv.length := by have := (List.getElem?_eq_some_iff.1 hc).1; omega
      exact ih i asv[i] c (List.getElem?_eq_getElem hi) hc (hv i asv[i] u (List.getElem?_eq_getElem hi) hu)

def WksD (asv bs : List AVal) : Prop := asv.length = bs.length ∧ ∀ (i : Nat) (a b : AVal), asv[i]? = some a → bs[i]? = some b → WkD a b

theorem WksD.nil : WksD [] [] := ⟨rfl, fun i a b h => by simp at h⟩

theorem WksD.cons {a b : AVal} {asv bs : List AVal} (h : WkD a b) (hs : WksD asv bs) : WksD (a :: asv) (b :: bs) := by
  refine ⟨by simp [hs.1], fun i x y hx hy => ?_⟩
  cases i with
  | zero => simp at hx hy; subst hx hy; exact h
  | succ i => exact hs.2 i x y (by simpa using hx) (by simpa using hy)

theorem WkD.tuples {asv bs : List AVal} (h : WksD asv bs) : WkD (.tuple asv) (.tuple bs) := .tuple asv bs h.1 h.2

theorem ACalls.weakD {f : FuncId} {args bs : List AVal} {Q : AVal → List AObj → Prop} (h : ACalls P f bs H Q) (hw : WksD args bs) : ACalls P f args H Q := by
  intro C τ w vs hwf hl hr
  refine h C τ w vs hwf (by rw [← hw.1]; exact hl) fun i b v hb hv => ?_
  have hi : i < args.length := by have := (List.getElem?_eq_some_iff.1 hb).1; have := hw.1; omega
  exact (hr i args[i] v (List.getElem?_eq_getElem hi) hv).weakD (hw.2 i args[i] b (List.getElem?_eq_getElem hi) hb)

theorem ACalls.weakRD {f : FuncId} {args : List AVal} {Q Q' : AVal → List AObj → Prop} (h : ACalls P f args H Q) (hq : ∀ r H', Q r H' → ∃ r', WkD r r' ∧ Q' r' H') : ACalls P f args H Q' := by
  intro C τ w vs hw hl hr
  have h := h C τ w vs hw hl hr
  unfold CallsX at h ⊢
  split at h
  · exact Calls.mono h fun e w' ⟨v, r, C', τ', H', h1, h2, h3, h4⟩ => by
      obtain ⟨r', hk, hq'⟩ := hq _ _ h2
      exact ⟨v, r', C', τ', H', h1, hq', h3.weakD hk, h4⟩
  · obtain ⟨v, r, C', τ', H', h1, h2, h3, h4⟩ := h
    obtain ⟨r', hk, hq'⟩ := hq _ _ h2
    exact ⟨v, r', C', τ', H', h1, hq', h3.weakD hk, h4⟩
  · exact h

end
end Go.AW

namespace Go.AW
attribute [local irreducible] ACalls
def sumE (a b : List Ent) : Int :=
  if bagB a ≠ 0 then bagB a else if bagB b ≠ 0 then bagB b else if ((mrg a b).all fun e => smallB e.cnt) = true ∧ ((mrg a b).filter nzB).length ≤ 4096 then 0 else 2

def sumL (a b : List Ent) : List Ent := (mrg a b).filter nzB

def mrgE (a b : Grp) : Int := if rowsB (a.n + b.n) = false then 2 else sumE a.vals b.vals

def mrgG (a b : Grp) : Grp := if mrgE a b = 0 then ⟨a.n + b.n, sumL a.vals b.vals⟩ else ⟨0, []⟩

def GrpOk (g : Grp) : Prop := -1000000000 ≤ g.n ∧ g.n ≤ 1000000000

end Go.AW

namespace Go.AW
attribute [local irreducible] ACalls
def oneG (v : V) (c : Int) : Grp := ⟨c, if v.kind ≠ 0 ∧ c ≠ 0 then [⟨[v], c⟩] else []⟩

def preE (g : Grp) (v : V) (c : Int) : Int := if grpB g ≠ 0 then grpB g else if validB v = false then 8 else if smallB c = false then 1 else 0

def addGE (g : Grp) (v : V) (c : Int) : Int := if preE g v c ≠ 0 then preE g v c else mrgE g (oneG v c)

def addGG (g : Grp) (v : V) (c : Int) : Grp := if preE g v c ≠ 0 then ⟨0, []⟩ else mrgG g (oneG v c)

theorem grpB_ok {g : Grp} (h : grpB g = 0) : GrpOk g ∧ rowsB g.n = true ∧ bagB g.vals = 0 ∧ g.vals.all oneB = true := by
  unfold grpB at h
  split at h
  · cases h
  rename_i h1
  split at h
  · rename_i h2; exact absurd h h2
  rename_i h2
  split at h
  · rename_i h3
    simp [rowsB] at h1
    exact ⟨⟨by omega, by omega⟩, by simp [rowsB, h1], by simpa using h2, h3⟩
  · cases h

end Go.AW

namespace Go.AW
attribute [local irreducible] ACalls
def numV (n : Int) : V := if n < -1073741824 ∨ 1073741824 < n then zV else ⟨2, n, bs []⟩

def num0 (e : Ent) : Int := (e.row.getD 0 zV).num

def totGo : List Ent → Int → Int → Int × Int
  | [], s, c => (s, c)
  | e :: es, s, c => totGo es (w64 (s + w64 (num0 e * e.cnt))) (w64 (c + e.cnt))

end Go.AW

namespace Go.AW
attribute [local irreducible] ACalls
set_option maxRecDepth 20000 in
theorem IndexFuncE_spec {P : Program} (F : F_slices_IndexFunc_LEntry_Entry P) (g : FuncId) (caps : List AVal) (p : Ent → Bool) (H : List AObj) (cs : List Ent) (hg : ∀ c ∈ cs, ACalls P g ([.agg (entC c)] ++ caps) H (fun r H' => r = .bool (p c) ∧ H' = H))
    (ex : Bool) (hl : cs.length ≤ 1000000) :
    ACalls P F.id [.list ex 2 (eC cs), .fn g caps] H (fun r H' => r = .int .i64 (idxOf p cs 0) ∧ H' = H) := by
  refine acalls_of_body F.has ?_
  conv => whnf
  refine ⟨fun m ρ H1 => ∃ k : Nat, k + m = cs.length ∧ idxOf p (cs.drop k) k = idxOf p cs 0 ∧ H1 = H ∧
    Sv 19 [(0, .list ex 2 (eC cs)), (1, .fn g caps), (7, .int .i64 cs.length), (8, .int .i64 k)] ρ, cs.length, [], ?_, ?_⟩
  · exact ⟨0, by omega, rfl, rfl, Sv.intro rfl ⟨rfl, rfl, intEq (by rw [eC_length]), rfl, trivial⟩⟩
  rintro m ρ H1 ⟨k, hk, hr, rfl, d, rfl⟩
  (conv => whnf); refine recA (fun hlt => ?_) (fun hlt => ?_)
  · simp at hlt
    obtain ⟨c, hc, hd, hmem⟩ := get_drop hlt
    rw [hd] at hr
    conv => whnf
    refine And.intro (by omega) ?_
    (conv => whnf); refine recO (eC_at hc) ?_
    conv => whnf
    refine ACalls.use (hg c hmem) ?_
    (conv => whnf); refine recA (fun h => ?_) (fun hf => ?_)
    · conv => whnf
      refine ⟨intEq ?_, rfl⟩
      rw [← hr, idxOf, if_pos h]
    · conv => whnf
      refine ⟨m - 1, by omega, Gp.keep rfl ?_ fun ρ1 h => ⟨k + 1, by omega, ?_, rfl, h⟩⟩
      · exact ⟨rfl, rfl, rfl, intEq (wrapI ((k : Int) + 1) (by omega) (by omega)), trivial⟩
      · rw [← hr, idxOf, if_neg (by rw [hf]; simp)]; rfl
  · simp at hlt
    conv => whnf
    rw [List.drop_eq_nil_of_le hlt] at hr
    exact ⟨intEq hr, rfl⟩

def posB (e : Ent) : Bool := decide (e.cnt > 0)

def notInt (e : Ent) : Bool := !((e.row.getD 0 zV).kind == 2)

end Go.AW

namespace Go.AW
attribute [local irreducible] ACalls
set_option maxRecDepth 20000 in
theorem CloneE_raw {P : Program} (F : F_slices_Clone_LEntry_Entry P) (ex : Bool) (l : List Ent) (hl : l.length ≤ 1000000) :
    ACalls P F.id [.list ex 2 (eC l)] [] (fun r H' => (r = .nil ∧ l = [] ∧ H' = []) ∨ (r = .sl 0 l.length 0 l.length ∧ H' = [.arr 2 (eC l)])) := by
  refine acalls_of_body F.has ?_
  conv => whnf
  refine And.intro (fun h => ?_) ?_
  · conv => whnf
    exact .inl ⟨rfl, by simpa [eC] using h, rfl⟩
  · conv => whnf
    refine And.intro ⟨roomMul (by simp [eC_length]; omega) (by omega), roomB_le (by simp [eC_length]; omega), .inr rfl⟩ ?_
    conv => whnf
    refine .inr ⟨slEq ?_ ?_, rfl⟩
    · simp [eC_length]
    · simp [eC_length]

end Go.AW

namespace Go.AW
theorem setEs_eC (l : List Ent) (k : Nat) (v : Ent) : setEs (eC l) k (entC v) = eC (l.set k v) := by rw [setEs_eq]; simp [eC]

attribute [local irreducible] ACalls
end Go.AW

namespace Go.AW
attribute [local irreducible] ACalls
theorem Gp.two {n : Nat} {live : List (Nat × AVal)} {ρ : List AVal} {H : List AObj} {I : List AVal → List AObj → Prop} (a b : Nat) (hab : a ≠ b) (s1 s2 : Nat) (e1 e2 : List (List AVal)) (h1 : H[a]? = .some (.arr s1 e1)) (h2 : H[b]? = .some (.arr s2 e2))
    (p1 : pureEs e1 = true) (p2 : pureEs e2 = true) (hl : ρ.length = n) (h : SvPub H [a, b] ρ live) (hI : ∀ ρ1, Sv n live ρ1 → I ρ1 [.arr s1 e1, .arr s2 e2]) : Gp [] ρ H I :=
  Gp.some (H1 := [.arr s1 e1, .arr s2 e2]) [a, b] (by simp [hab]) ⟨⟨_, h1, .same _ _ p1⟩, ⟨_, h2, .same _ _ p2⟩, trivial⟩ hl h hI

def row0 (e : Ent) : V := e.row.getD 0 zV

def presV (l : List Ent) : List V := (l.filter posB).map row0

def floorV (s c : Int) : Int := if s.tmod c < 0 then w64 (w64 (s.tdiv c) - 1) else w64 (s.tdiv c)

def resE (f : Int) (g : Grp) : Int := if f < 1 ∨ 7 < f then 1 else if grpB g ≠ 0 then grpB g else if (f = 3 ∨ f = 7) ∧ g.vals.any notInt = true then 7 else 0

def resV0 (f : Int) (g : Grp) : V :=
  if f = 1 then numV g.n else if f = 2 then numV (totGo g.vals 0 0).2 else if f = 6 then numV (presV g.vals).length
  else if f = 4 then (presV g.vals).head?.getD zV else if f = 5 then (presV g.vals).getLast?.getD zV
  else if f = 3 then (if g.vals = [] then zV else numV (totGo g.vals 0 0).1)
  else if 0 < (totGo g.vals 0 0).2 then numV (floorV (totGo g.vals 0 0).1 (totGo g.vals 0 0).2) else zV

def resV (f : Int) (g : Grp) : V := if resE f g ≠ 0 then zV else resV0 f g

end Go.AW

namespace Go.AW
theorem rowsCmp_vals : ∀ (a b : List V), rowsCmp a b = -1 ∨ rowsCmp a b = 0 ∨ rowsCmp a b = 1
  | [], [] => .inr (.inl rfl)
  | [], _ :: _ => .inl rfl
  | _ :: _, [] => .inr (.inr rfl)
  | x :: xs, y :: ys => by
    rw [rowsCmp]
    split
    · exact rowsCmp_vals xs ys
    · exact isCmp_val.vals x y

theorem rowsCmp_anti : ∀ (a b : List V), rowsCmp b a = - rowsCmp a b
  | [], [] => rfl
  | [], _ :: _ => rfl
  | _ :: _, [] => rfl
  | x :: xs, y :: ys => by
    rw [rowsCmp, rowsCmp, isCmp_val.anti x y]
    by_cases h : valCmp x y = 0
    · rw [if_pos h, if_pos (by omega), rowsCmp_anti xs ys]
    · rw [if_neg h, if_neg (by omega)]

theorem rowsCmp_trans : ∀ (a b d : List V), rowsCmp a b < 0 → rowsCmp b d < 0 → rowsCmp a d < 0
  | [], _, [], _, h2 => by
    rename_i b _
    cases b with
    | nil => exact h2
    | cons y ys => rw [rowsCmp] at h2; omega
  | [], _, _ :: _, _, _ => by rw [rowsCmp]; omega
  | x :: xs, [], _, h1, _ => by rw [rowsCmp] at h1; omega
  | x :: xs, y :: ys, [], _, h2 => by rw [rowsCmp] at h2; omega
  | x :: xs, y :: ys, z :: zs, h1, h2 => by
    rw [rowsCmp] at h1 h2 ⊢
    by_cases e1 : valCmp x y = 0
    · rw [if_pos e1] at h1
      have hxy := (isCmp_val.zero x y).1 e1
      subst hxy
      by_cases e2 : valCmp x z = 0
      · rw [if_pos e2] at h2 ⊢; exact rowsCmp_trans xs ys zs h1 h2
      · rw [if_neg e2] at h2 ⊢; exact h2
    · rw [if_neg e1] at h1
      by_cases e2 : valCmp y z = 0
      · have hyz := (isCmp_val.zero y z).1 e2
        subst hyz
        rw [if_neg e1]; exact h1
      · rw [if_neg e2] at h2
        have := isCmp_val.trans x y z h1 h2
        rw [if_neg (by omega)]; exact this

def cntL : List Ent → List V → Int
  | [], _ => 0
  | e :: l, r => (if rowsCmp e.row r = 0 then e.cnt else 0) + cntL l r

def Srt (l : List Ent) : Prop := l.Pairwise fun x y => rowsCmp x.row y.row < 0

theorem cntL_zero : ∀ (l : List Ent) (r : List V), (∀ e ∈ l, rowsCmp e.row r ≠ 0) → cntL l r = 0
  | [], _, _ => rfl
  | e :: l, r, h => by rw [cntL, if_neg (h e (List.mem_cons_self ..)), cntL_zero l r fun e he => h e (List.mem_cons_of_mem _ he)]; rfl

theorem cntL_above {l : List Ent} {r : List V} (h : ∀ e ∈ l, rowsCmp r e.row < 0) : cntL l r = 0 :=
  cntL_zero l r fun e he hz => by have := h e he; rw [rowsCmp_anti] at this; omega

theorem cntL_head {x : Ent} {l : List Ent} (h : Srt (x :: l)) : cntL (x :: l) x.row = x.cnt := by
  rw [cntL, if_pos ((rowsCmp_zero _ _).2 rfl), cntL_above (List.pairwise_cons.1 h).1]; omega

theorem cntL_append : ∀ (a b : List Ent) (r : List V), cntL (a ++ b) r = cntL a r + cntL b r
  | [], b, r => by simp [cntL]
  | e :: a, b, r => by rw [List.cons_append, cntL, cntL, cntL_append a b r]; omega

theorem cntL_mem : ∀ {l : List Ent} {e : Ent}, Srt l → e ∈ l → cntL l e.row = e.cnt
  | x :: l, e, hs, he => by
    rcases List.mem_cons.1 he with rfl | he
    · exact cntL_head hs
    · have h1 := (List.pairwise_cons.1 hs).1 e he
      rw [cntL, if_neg (by omega), cntL_mem (List.pairwise_cons.1 hs).2 he]; omega

theorem bag_ext : ∀ (a b : List Ent), Srt a → Srt b → (∀ e ∈ a, e.cnt ≠ 0) → (∀ e ∈ b, e.cnt ≠ 0) → (∀ r, cntL a r = cntL b r) → a = b
  | [], [], _, _, _, _, _ => rfl
  | [], y :: b, _, hb, _, nb, h => by
    have := h y.row
    rw [cntL_head hb] at this
    exact absurd this.symm (nb y (List.mem_cons_self ..))
  | x :: a, [], ha, _, na, _, h => by
    have := h x.row
    rw [cntL_head ha] at this
    exact absurd this (na x (List.mem_cons_self ..))
  | x :: a, y :: b, ha, hb, na, nb, h => by
    have ax := (List.pairwise_cons.1 ha).1
    have bx := (List.pairwise_cons.1 hb).1
    rcases rowsCmp_vals x.row y.row with hc | hc | hc
    · have h1 := h x.row
      rw [cntL_head ha, cntL_above (l := y :: b) (fun e he => by
        rcases List.mem_cons.1 he with rfl | he
        · omega
        · exact rowsCmp_trans _ _ _ (by omega) (bx e he))] at h1
      exact absurd h1 (na x (List.mem_cons_self ..))
    · have hr := (rowsCmp_zero _ _).1 hc
      have hcnt : x.cnt = y.cnt := by
        have h1 := h x.row
        rw [cntL_head ha] at h1
        rw [h1, hr, cntL_head hb]
      have hxy : x = y := by cases x; cases y; simp only at hr hcnt; subst hr hcnt; rfl
      subst hxy
      have := bag_ext a b (List.pairwise_cons.1 ha).2 (List.pairwise_cons.1 hb).2 (fun e he => na e (List.mem_cons_of_mem _ he)) (fun e he => nb e (List.mem_cons_of_mem _ he))
        (fun r => by have h1 := h r; rw [cntL, cntL] at h1; omega)
      rw [this]
    · have hc' : rowsCmp y.row x.row < 0 := by rw [rowsCmp_anti]; omega
      have h1 := h y.row
      rw [cntL_head hb, cntL_above (l := x :: a) (fun e he => by
        rcases List.mem_cons.1 he with rfl | he
        · omega
        · exact rowsCmp_trans _ _ _ hc' (ax e he))] at h1
      exact absurd h1.symm (nb y (List.mem_cons_self ..))

theorem cntL_mrg : ∀ (a b : List Ent) (r : List V), cntL (mrg a b) r = cntL a r + cntL b r
  | [], b, r => by rw [mrg_nil, cntL]; omega
  | x :: a, [], r => by rw [mrg_nil2, cntL]; simp [cntL]
  | x :: a, y :: b, r => by
    rw [mrg_cons]
    split
    · have e1 : cntL (x :: a) r = (if rowsCmp x.row r = 0 then x.cnt else 0) + cntL a r := rfl
      rw [cntL, cntL_mrg a (y :: b) r, e1]; omega
    split
    · have e1 : cntL (y :: b) r = (if rowsCmp y.row r = 0 then y.cnt else 0) + cntL b r := rfl
      rw [cntL, cntL_mrg (x :: a) b r, e1]; omega
    · have hr : x.row = y.row := (rowsCmp_zero _ _).1 (by have := rowsCmp_vals x.row y.row; omega)
      rw [cntL, cntL_mrg a b r, cntL, cntL]
      simp only [hr]
      split <;> omega
termination_by a b => a.length + b.length

theorem mem_mrg : ∀ (a b : List Ent) (e : Ent), e ∈ mrg a b → (∃ x ∈ a, x.row = e.row) ∨ ∃ y ∈ b, y.row = e.row
  | [], b, e, h => by rw [mrg_nil] at h; exact .inr ⟨e, h, rfl⟩
  | x :: a, [], e, h => by rw [mrg_nil2] at h; exact .inl ⟨e, h, rfl⟩
  | x :: a, y :: b, e, h => by
    rw [mrg_cons] at h
    have la : ∀ {e : Ent}, (∃ x ∈ a, x.row = e.row) → ∃ z ∈ x :: a, z.row = e.row := fun ⟨z, h1, h2⟩ => ⟨z, List.mem_cons_of_mem _ h1, h2⟩
    have lb : ∀ {e : Ent}, (∃ x ∈ b, x.row = e.row) → ∃ z ∈ y :: b, z.row = e.row := fun ⟨z, h1, h2⟩ => ⟨z, List.mem_cons_of_mem _ h1, h2⟩
    split at h
    · rcases List.mem_cons.1 h with rfl | h
      · exact .inl ⟨e, List.mem_cons_self .., rfl⟩
      · exact (mem_mrg a (y :: b) e h).imp la id
    split at h
    · rcases List.mem_cons.1 h with rfl | h
      · exact .inr ⟨e, List.mem_cons_self .., rfl⟩
      · exact (mem_mrg (x :: a) b e h).imp id lb
    · rcases List.mem_cons.1 h with rfl | h
      · exact .inl ⟨x, List.mem_cons_self .., rfl⟩
      · exact (mem_mrg a b e h).imp la lb
termination_by a b => a.length + b.length

theorem srt_mrg : ∀ (a b : List Ent), Srt a → Srt b → Srt (mrg a b)
  | [], b, _, hb => by rw [mrg_nil]; exact hb
  | x :: a, [], ha, _ => by rw [mrg_nil2]; exact ha
  | x :: a, y :: b, ha, hb => by
    have ax := (List.pairwise_cons.1 ha).1
    have bx := (List.pairwise_cons.1 hb).1
    have ha' := (List.pairwise_cons.1 ha).2
    have hb' := (List.pairwise_cons.1 hb).2
    rw [mrg_cons]
    split
    · rename_i hc
      refine List.pairwise_cons.2 ⟨fun e he => ?_, srt_mrg a (y :: b) ha' hb⟩
      rcases mem_mrg a (y :: b) e he with ⟨z, hz, hzr⟩ | ⟨z, hz, hzr⟩
      · rw [← hzr]; exact ax z hz
      · rw [← hzr]
        rcases List.mem_cons.1 hz with rfl | hz
        · exact hc
        · exact rowsCmp_trans _ _ _ hc (bx z hz)
    split
    · rename_i hc0 hc
      have hc' : rowsCmp y.row x.row < 0 := by rw [rowsCmp_anti]; omega
      refine List.pairwise_cons.2 ⟨fun e he => ?_, srt_mrg (x :: a) b ha hb'⟩
      rcases mem_mrg (x :: a) b e he with ⟨z, hz, hzr⟩ | ⟨z, hz, hzr⟩
      · rw [← hzr]
        rcases List.mem_cons.1 hz with rfl | hz
        · exact hc'
        · exact rowsCmp_trans _ _ _ hc' (ax z hz)
      · rw [← hzr]; exact bx z hz
    · have hr : x.row = y.row := (rowsCmp_zero _ _).1 (by have := rowsCmp_vals x.row y.row; omega)
      refine List.pairwise_cons.2 ⟨fun e he => ?_, srt_mrg a b ha' hb'⟩
      rcases mem_mrg a b e he with ⟨z, hz, hzr⟩ | ⟨z, hz, hzr⟩
      · rw [← hzr]; exact ax z hz
      · rw [← hzr]; show rowsCmp x.row z.row < 0; rw [hr]; exact bx z hz
termination_by a b => a.length + b.length

theorem cntL_nz : ∀ (l : List Ent) (r : List V), cntL (l.filter nzB) r = cntL l r
  | [], _ => rfl
  | e :: l, r => by
    rw [List.filter_cons]
    split
    · rw [cntL, cntL, cntL_nz l r]
    · rename_i h
      have : e.cnt = 0 := by simpa [nzB] using h
      rw [cntL, cntL_nz l r, this]; split <;> omega

theorem srt_filter {l : List Ent} (p : Ent → Bool) (h : Srt l) : Srt (l.filter p) := List.Pairwise.filter p h

theorem fitB_iff (e : Ent) : fitB e = 0 ↔ e.row.length ≤ 12 ∧ smallB e.cnt = true ∧ e.row.all validB = true := by
  simp only [smallB, Bool.and_eq_true, decide_eq_true_eq]
  unfold fitB
  constructor
  · intro h
    split at h
    · cases h
    · split at h
      · rename_i h1 h2; exact ⟨by omega, ⟨by omega, by omega⟩, h2⟩
      · cases h
  · rintro ⟨h1, ⟨h2, h3⟩, h4⟩
    rw [if_neg (by omega), if_pos h4]

theorem bvGo_iff : ∀ (l : List Ent) (p : Option (List V)), bvGo l p = 0 ↔ (∀ e ∈ l, fitB e = 0 ∧ e.cnt ≠ 0) ∧ Srt l ∧ ∀ q, p = some q → ∀ e ∈ l, rowsCmp q e.row < 0
  | [], p => ⟨fun _ => ⟨fun e h => (by simp at h), List.Pairwise.nil, fun q _ e h => by simp at h⟩, fun _ => rfl⟩
  | x :: l, p => by
    rw [bvGo]
    have nb : notB p x.row = true ↔ ∃ q, p = some q ∧ ¬ rowsCmp q x.row < 0 := by
      cases p with
      | none => simp [notB]
      | some q => simp [notB]
    constructor
    · intro h
      by_cases h1 : fitB x = 0
      · rw [if_neg (by simp [h1])] at h
        by_cases h2 : x.cnt = 0
        · rw [if_pos h2] at h; cases h
        · rw [if_neg h2] at h
          by_cases h3 : notB p x.row = true
          · rw [if_pos h3] at h; cases h
          · rw [if_neg h3] at h
            obtain ⟨g1, g2, g3⟩ := (bvGo_iff l (some x.row)).1 h
            have hp : ∀ q, p = some q → rowsCmp q x.row < 0 := fun q hq => Classical.byContradiction fun hn => h3 (nb.2 ⟨q, hq, hn⟩)
            refine ⟨fun e he => ?_, List.pairwise_cons.2 ⟨g3 _ rfl, g2⟩, fun q hq e he => ?_⟩
            · rcases List.mem_cons.1 he with rfl | he
              · exact ⟨h1, h2⟩
              · exact g1 e he
            · rcases List.mem_cons.1 he with rfl | he
              · exact hp q hq
              · exact rowsCmp_trans _ _ _ (hp q hq) (g3 _ rfl e he)
      · rw [if_pos h1] at h; exact absurd h h1
    · rintro ⟨h1, h2, h3⟩
      have hx := h1 x (List.mem_cons_self ..)
      rw [if_neg (by simp [hx.1]), if_neg hx.2, if_neg (fun h => by
        obtain ⟨q, hq, hn⟩ := nb.1 h
        exact hn (h3 q hq x (List.mem_cons_self ..)))]
      exact (bvGo_iff l (some x.row)).2 ⟨fun e he => h1 e (List.mem_cons_of_mem _ he), (List.pairwise_cons.1 h2).2, fun q hq e he => by cases hq; exact (List.pairwise_cons.1 h2).1 e he⟩

theorem bagB_iff (l : List Ent) : bagB l = 0 ↔ l.length ≤ 4096 ∧ (∀ e ∈ l, fitB e = 0 ∧ e.cnt ≠ 0) ∧ Srt l := by
  rw [bagB]
  constructor
  · intro h
    split at h
    · cases h
    · have := (bvGo_iff l none).1 h
      exact ⟨by omega, this.1, this.2.1⟩
  · rintro ⟨h1, h2, h3⟩
    rw [if_neg (by omega)]
    exact (bvGo_iff l none).2 ⟨h2, h3, fun q hq => by cases hq⟩

theorem bagB_ext {a b : List Ent} (ha : bagB a = 0) (hb : bagB b = 0) (h : ∀ r, cntL a r = cntL b r) : a = b := by
  obtain ⟨_, a2, a3⟩ := (bagB_iff a).1 ha
  obtain ⟨_, b2, b3⟩ := (bagB_iff b).1 hb
  exact bag_ext a b a3 b3 (fun e he => (a2 e he).2) (fun e he => (b2 e he).2) h

theorem resOk {l : List Ent} (hs : Srt l) (hl : (l.filter nzB).length ≤ 4096) (hf : ∀ e ∈ l, e.row.length ≤ 12 ∧ e.row.all validB = true) (hc : ∀ r, smallB (cntL l r) = true) :
    ((l.all fun e => smallB e.cnt) = true ∧ (l.filter nzB).length ≤ 4096) ∧ bagB (l.filter nzB) = 0 := by
  have hsm : ∀ e ∈ l, smallB e.cnt = true := fun e he => by rw [← cntL_mem hs he]; exact hc _
  refine ⟨⟨List.all_eq_true.2 hsm, hl⟩, (bagB_iff _).2 ⟨hl, fun e he => ?_, srt_filter _ hs⟩⟩
  obtain ⟨h1, h2⟩ := List.mem_filter.1 he
  exact ⟨(fitB_iff e).2 ⟨(hf e h1).1, hsm e h1, (hf e h1).2⟩, by simpa [nzB] using h2⟩

theorem fit_row {l : List Ent} (h : bagB l = 0) : ∀ e ∈ l, e.row.length ≤ 12 ∧ e.row.all validB = true := fun e he => by
  have := (fitB_iff e).1 (((bagB_iff l).1 h).2.1 e he).1
  exact ⟨this.1, this.2.2⟩

end Go.AW

namespace Go.AW
attribute [local irreducible] ACalls
def g0 : Grp := ⟨0, []⟩

def n5 : V := ⟨2, 5, bs []⟩

theorem n5_valid : validB n5 = true := by kernel_rfl

theorem mrg_one (v : V) (a b : Int) : mrg [⟨[v], a⟩] [⟨[v], b⟩] = [⟨[v], a + b⟩] := by
  have h : rowsCmp [v] [v] = 0 := (rowsCmp_zero _ _).2 rfl
  rw [mrg_cons, if_neg (by show ¬ rowsCmp [v] [v] < 0; omega), if_neg (by show ¬ 0 < rowsCmp [v] [v]; omega), mrg_nil]

theorem srt_one (e : Ent) : Srt [e] := List.pairwise_singleton ..

theorem bagB_one (v : V) (c : Int) (hv : validB v = true) (hc : c ≠ 0) (hs : smallB c = true) : bagB [⟨[v], c⟩] = 0 :=
  (bagB_iff _).2 ⟨by simp, fun e he => by
    rw [List.mem_singleton] at he; subst he
    exact ⟨(fitB_iff _).2 ⟨by simp, hs, by simp [hv]⟩, hc⟩, srt_one _⟩

theorem bagB_nil : bagB [] = 0 := rfl

theorem grpB_intro {g : Grp} (h1 : rowsB g.n = true) (h2 : bagB g.vals = 0) (h3 : g.vals.all oneB = true) : grpB g = 0 := by
  rw [grpB, if_neg (by simp [h1]), if_neg (by simp [h2]), if_pos h3]

theorem k1 : addGE g0 n5 2 = 0 ∧ addGG g0 n5 2 = ⟨2, [⟨[n5], 2⟩]⟩ := by
  have hp : preE g0 n5 2 = 0 := by rw [preE, if_neg (by simp [grpB_intro (g := g0) rfl rfl rfl]), if_neg (by simp [n5_valid]), if_neg (by decide)]
  have ho : oneG n5 2 = ⟨2, [⟨[n5], 2⟩]⟩ := by rw [oneG, if_pos ⟨by decide, by decide⟩]
  have hm : mrgE g0 ⟨2, [⟨[n5], 2⟩]⟩ = 0 := by
    rw [mrgE, if_neg (by decide), sumE, if_neg (by simp [g0, bagB_nil]), if_neg (by simp [bagB_one n5 2 n5_valid (by decide) (by decide)]), if_pos ⟨by simp [g0, mrg_nil, smallB], by simp [g0, mrg_nil, nzB]⟩]
  have e1 : addGE g0 n5 2 = 0 := by rw [addGE, if_neg (by simp [hp]), ho, hm]
  refine ⟨e1, ?_⟩
  rw [addGG, if_neg (by simp [hp]), ho, mrgG, if_pos hm]
  simp [g0, sumL, mrg_nil, nzB]

theorem k2 : addGE ⟨2, [⟨[n5], 2⟩]⟩ n5 (-1) = 0 ∧ addGG ⟨2, [⟨[n5], 2⟩]⟩ n5 (-1) = ⟨1, [⟨[n5], 1⟩]⟩ := by
  have hb := bagB_one n5 2 n5_valid (by decide) (by decide)
  have hp : preE ⟨2, [⟨[n5], 2⟩]⟩ n5 (-1) = 0 := by rw [preE, if_neg (by simp [grpB_intro (g := ⟨2, [⟨[n5], 2⟩]⟩) rfl hb rfl]), if_neg (by simp [n5_valid]), if_neg (by decide)]
  have ho : oneG n5 (-1) = ⟨-1, [⟨[n5], -1⟩]⟩ := by rw [oneG, if_pos ⟨by decide, by decide⟩]
  have hm : mrgE ⟨2, [⟨[n5], 2⟩]⟩ ⟨-1, [⟨[n5], -1⟩]⟩ = 0 := by
    rw [mrgE, if_neg (by decide), sumE, if_neg (by simp [hb]), if_neg (by simp [bagB_one n5 (-1) n5_valid (by decide) (by decide)]), if_pos ⟨by simp [mrg_one, smallB], by simp [mrg_one, nzB]⟩]
  have e1 : addGE ⟨2, [⟨[n5], 2⟩]⟩ n5 (-1) = 0 := by rw [addGE, if_neg (by simp [hp]), ho, hm]
  refine ⟨e1, ?_⟩
  rw [addGG, if_neg (by simp [hp]), ho, mrgG, if_pos hm]
  simp [sumL, mrg_one, nzB]

def gk : Grp := ⟨1, [⟨[n5], 1⟩]⟩

theorem gk_ok : grpB gk = 0 := grpB_intro rfl (bagB_one n5 1 n5_valid (by decide) (by decide)) rfl

theorem k3 : resE 3 gk = 0 ∧ resV 3 gk = n5 ∧ resE 1 gk = 0 ∧ resV 1 gk = ⟨2, 1, bs []⟩ := by
  have h3 : resE 3 gk = 0 := by rw [resE, if_neg (by decide), if_neg (by simp [gk_ok])]; rfl
  have h1 : resE 1 gk = 0 := by rw [resE, if_neg (by decide), if_neg (by simp [gk_ok])]; rfl
  refine ⟨h3, ?_, h1, ?_⟩
  · rw [resV, if_neg (by simp [h3])]; kernel_rfl
  · rw [resV, if_neg (by simp [h1])]; kernel_rfl

structure It where
  v : V
  c : Int

end Go.AW

namespace Go.AW
attribute [local irreducible] ACalls
def wsum (φ : List V → Int) : List Ent → Int
  | [] => 0
  | e :: l => e.cnt * φ e.row + wsum φ l

def ind (r : List V) (s : List V) : Int := if rowsCmp s r = 0 then 1 else 0

theorem cntL_wsum : ∀ (l : List Ent) (r : List V), cntL l r = wsum (ind r) l
  | [], _ => rfl
  | e :: l, r => by
    rw [cntL, wsum, cntL_wsum l r, ind]
    split <;> simp

theorem wsum_mrg (φ : List V → Int) : ∀ (a b : List Ent), wsum φ (mrg a b) = wsum φ a + wsum φ b
  | [], b => by rw [mrg_nil, wsum]; omega
  | x :: a, [] => by rw [mrg_nil2]; simp [wsum]
  | x :: a, y :: b => by
    rw [mrg_cons]
    have ex : wsum φ (x :: a) = x.cnt * φ x.row + wsum φ a := rfl
    have ey : wsum φ (y :: b) = y.cnt * φ y.row + wsum φ b := rfl
    split
    · rw [wsum, wsum_mrg φ a (y :: b), ex]; omega
    split
    · rw [wsum, wsum_mrg φ (x :: a) b, ey]; omega
    · have hr : x.row = y.row := (rowsCmp_zero _ _).1 (by have := rowsCmp_vals x.row y.row; omega)
      rw [wsum, wsum_mrg φ a b, ex, ey]
      simp only [hr, Int.add_mul]; omega
termination_by a b => a.length + b.length

theorem wsum_nz (φ : List V → Int) : ∀ (l : List Ent), wsum φ (l.filter nzB) = wsum φ l
  | [] => rfl
  | e :: l => by
    rw [List.filter_cons]
    split
    · rw [wsum, wsum, wsum_nz φ l]
    · rename_i h
      have : e.cnt = 0 := by simpa [nzB] using h
      rw [wsum, wsum_nz φ l, this]; simp

def wt (φ : List V → Int) (x : It) : Int := if x.v.kind ≠ 0 then x.c * φ [x.v] else 0

def tot (f : It → Int) : List It → Int
  | [] => 0
  | x :: l => f x + tot f l

theorem tot_append (f : It → Int) : ∀ (a b : List It), tot f (a ++ b) = tot f a + tot f b
  | [], b => by simp [tot]
  | x :: a, b => by rw [List.cons_append, tot, tot, tot_append f a b]; omega

theorem tot_bound (f : It → Int) (B : Int) (hB : 0 ≤ B) : ∀ (l : List It), (∀ x ∈ l, -B ≤ f x ∧ f x ≤ B) → -(B * l.length) ≤ tot f l ∧ tot f l ≤ B * l.length
  | [], _ => by simp [tot]
  | x :: l, h => by
    have h1 := tot_bound f B hB l fun x hx => h x (List.mem_cons_of_mem _ hx)
    have h2 := h x (List.mem_cons_self ..)
    rw [tot, List.length_cons, Int.natCast_add, Int.mul_add]
    simp only [Int.natCast_one, Int.mul_one]
    omega

structure Rep (G : Grp) (l : List It) : Prop where
  ok : grpB G = 0
  n : G.n = tot It.c l
  cnt : ∀ φ, wsum φ G.vals = tot (wt φ) l
  len : G.vals.length ≤ l.length

def ItOk (x : It) : Prop := validB x.v = true ∧ -5 ≤ x.c ∧ x.c ≤ 5

theorem wt_bound (x : It) (h : ItOk x) (r : List V) : -5 ≤ wt (ind r) x ∧ wt (ind r) x ≤ 5 := by
  obtain ⟨_, h1, h2⟩ := h
  unfold wt ind
  split
  · split <;> omega
  · omega

theorem oneB_row {a b : Ent} (h : a.row = b.row) : oneB a = oneB b := by unfold oneB; rw [h]

theorem Rep.merge {G G' : Grp} {p q : List It} (h : Rep G p) (h' : Rep G' q) (hp : ∀ x ∈ p, ItOk x) (hq : ∀ x ∈ q, ItOk x) (hl : p.length + q.length ≤ 4096) :
    mrgE G G' = 0 ∧ Rep (mrgG G G') (p ++ q) := by
  obtain ⟨_, g1, g2, g3⟩ := grpB_ok h.ok
  obtain ⟨_, k1, k2, k3⟩ := grpB_ok h'.ok
  have hpq : ∀ x ∈ p ++ q, ItOk x := fun x hx => (List.mem_append.1 hx).elim (hp x) (hq x)
  have hn := tot_bound It.c 5 (by omega) (p ++ q) fun x hx => (hpq x hx).2
  rw [tot_append, List.length_append] at hn
  have hc : ∀ r, cntL (mrg G.vals G'.vals) r = tot (wt (ind r)) (p ++ q) := fun r => by rw [cntL_wsum, wsum_mrg, h.cnt, h'.cnt, tot_append]
  have hcs : ∀ r, smallB (cntL (mrg G.vals G'.vals) r) = true := fun r => by
    have := tot_bound (wt (ind r)) 5 (by omega) (p ++ q) fun x hx => wt_bound x (hpq x hx) r
    rw [List.length_append] at this
    rw [hc, smallB]; simp; omega
  have hml := mrg_length G.vals G'.vals
  have hl1 := h.len
  have hl2 := h'.len
  have hfl := List.length_filter_le nzB (mrg G.vals G'.vals)
  have hs := srt_mrg _ _ ((bagB_iff _).1 g2).2.2 ((bagB_iff _).1 k2).2.2
  have hrow : ∀ e ∈ mrg G.vals G'.vals, (e.row.length ≤ 12 ∧ e.row.all validB = true) ∧ oneB e = true := fun e he => by
    rcases mem_mrg _ _ e he with ⟨x, hx, hxr⟩ | ⟨x, hx, hxr⟩
    · exact ⟨hxr ▸ fit_row g2 x hx, oneB_row hxr ▸ List.all_eq_true.1 g3 x hx⟩
    · exact ⟨hxr ▸ fit_row k2 x hx, oneB_row hxr ▸ List.all_eq_true.1 k3 x hx⟩
  obtain ⟨r1, r2⟩ := resOk hs (by omega) (fun e he => (hrow e he).1) hcs
  have hrows : rowsB (G.n + G'.n) = true := by rw [h.n, h'.n, rowsB]; simp; omega
  have hE : mrgE G G' = 0 := by
    rw [mrgE, if_neg (by simp [hrows]), sumE, if_neg (by simp [g2]), if_neg (by simp [k2]), if_pos r1]
  have hG : mrgG G G' = ⟨G.n + G'.n, sumL G.vals G'.vals⟩ := by rw [mrgG, if_pos hE]
  refine ⟨hE, ?_⟩
  rw [hG]
  refine ⟨grpB_intro hrows r2 (List.all_eq_true.2 fun e he => (hrow e (List.mem_filter.1 he).1).2), ?_, fun φ => ?_, ?_⟩
  · rw [tot_append, ← h.n, ← h'.n]
  · show wsum φ ((mrg G.vals G'.vals).filter nzB) = _
    rw [wsum_nz, wsum_mrg, h.cnt, h'.cnt, tot_append]
  · rw [List.length_append]
    show ((mrg G.vals G'.vals).filter nzB).length ≤ _
    omega

theorem Rep.nil : Rep g0 [] := ⟨grpB_intro rfl rfl rfl, rfl, fun _ => rfl, Nat.le_refl _⟩

theorem Rep.one (x : It) (h : ItOk x) : Rep (oneG x.v x.c) [x] := by
  obtain ⟨hv, h1, h2⟩ := h
  have hsm : smallB x.c = true := by simp [smallB]; omega
  have hr : rowsB x.c = true := by simp [rowsB]; omega
  by_cases hx : x.v.kind ≠ 0 ∧ x.c ≠ 0
  · have ho : oneG x.v x.c = ⟨x.c, [⟨[x.v], x.c⟩]⟩ := by rw [oneG, if_pos hx]
    rw [ho]
    refine ⟨grpB_intro hr (bagB_one _ _ hv hx.2 hsm) (by simp [oneB, hx.1]), by simp [tot], fun φ => ?_, by simp⟩
    simp only [tot, wsum, wt]; rw [if_pos hx.1]
  · have ho : oneG x.v x.c = ⟨x.c, []⟩ := by rw [oneG, if_neg hx]
    rw [ho]
    refine ⟨grpB_intro hr rfl rfl, by simp [tot], fun φ => ?_, by simp⟩
    simp only [tot, wsum, wt]
    split
    · rename_i hk
      have : x.c = 0 := Classical.byContradiction fun hn => hx ⟨hk, hn⟩
      rw [this]; simp
    · rfl

theorem Rep.add {G : Grp} {p : List It} {x : It} (h : Rep G p) (hp : ∀ x ∈ p, ItOk x) (hx : ItOk x) (hl : p.length + 1 ≤ 4096) :
    addGE G x.v x.c = 0 ∧ Rep (addGG G x.v x.c) (p ++ [x]) := by
  have hsm : smallB x.c = true := by have := hx.2; simp [smallB]; omega
  have hpre : preE G x.v x.c = 0 := by rw [preE, if_neg (by simp [h.ok]), if_neg (by simp [hx.1]), if_neg (by simp [hsm])]
  have hm := h.merge (Rep.one x hx) hp (fun y hy => by rw [List.mem_singleton] at hy; subst hy; exact hx) (by simpa using hl)
  rw [addGE, addGG, if_neg (by simp [hpre]), if_neg (by simp [hpre])]
  exact hm

end Go.AW

namespace Go.AW
attribute [local irreducible] ACalls
theorem cellsOk_ent {e : List AVal} (h : CellsOk [.slice [.int .i64, .int .i64, .str], .int .i64] e) : ∃ x : Ent, e = entC x ∧ x.row.length ≤ maxLen ∧ (Lit.int .i64 x.cnt).wf = true := by
  match e, h with
  | [a, b], h =>
    obtain ⟨h1, h2, _⟩ := h
    obtain ⟨es, rfl, hl, h1⟩ := shOk_slice h1
    obtain ⟨m, rfl, hm⟩ := list_image (g := valC) es fun e he => cellsOk_V (h1 e he)
    cases h2
    rename_i n hn
    exact ⟨⟨m, n⟩, rfl, by simpa using hl, hn⟩

theorem argOk_ents {a : AVal} (h : ArgOk (false, [.slice [.slice [.int .i64, .int .i64, .str], .int .i64]]) a) : ∃ l : List Ent, a = .list false 2 (eC l) ∧ l.length ≤ maxLen ∧ ∀ x ∈ l, x.row.length ≤ maxLen ∧ (Lit.int .i64 x.cnt).wf = true := by
  obtain ⟨es, rfl, hl, h⟩ := argOk_slice h
  obtain ⟨m, rfl, hm⟩ := list_image (g := entC) es fun e he => cellsOk_ent (h e he)
  exact ⟨m, rfl, by simpa using hl, hm⟩

end Go.AW

namespace Go.AW
def BItem (x : It) : Prop := validB x.v = true ∧ 0 ≤ x.c ∧ x.c ≤ 5 ∧ (x.v.kind ≠ 0 → x.v.kind = 2 ∧ -1073741824 ≤ x.v.num ∧ x.v.num ≤ 1073741824)

theorem BItem.ok {x : It} (h : BItem x) : ItOk x := ⟨h.1, by have := h.2.1; omega, h.2.2.1⟩

def cntF (l : List Ent) (r : List V) : Int := match l with
  | [] => 0
  | e :: l => if rowsCmp e.row r = 0 then e.cnt else cntF l r

end Go.AW

namespace Go.AW
attribute [local irreducible] ACalls
set_option maxRecDepth 20000 in
theorem ref6_Count_spec {P : Program} (F : F_warehouseref6_Count P) (e1 e2 : Bool) (l : List Ent) (r : List V) (hl : l.length ≤ 1000000) (hr : ∀ e ∈ l, e.row.length ≤ 1000000) (H : List AObj) :
    ACalls P F.id [.list e1 2 (eC l), .list e2 3 (vC r)] H (fun q H' => q = .int .i64 (cntF l r) ∧ H' = H) := by
  refine ACalls.pure (by simp [AVal.closed, AVal.isPure]) (acalls_of_body F.has ?_)
  conv => whnf
  refine ⟨fun m ρ H1 => ∃ k : Nat, k + m = l.length ∧ cntF (l.drop k) r = cntF l r ∧ H1 = [] ∧
    Sv 24 [(0, .list e1 2 (eC l)), (1, .list e2 3 (vC r)), (5, .int .i64 k)] ρ, l.length, [], ?_, ?_⟩
  · exact ⟨0, by omega, rfl, rfl, Sv.intro rfl ⟨rfl, rfl, rfl, trivial⟩⟩
  rintro m ρ H1 ⟨k, hk, hq, rfl, d, rfl⟩
  (conv => whnf); refine recA (fun hlt => ?_) (fun hlt => ?_)
  · simp [eC_length] at hlt
    obtain ⟨x, hx, hd, hxm⟩ := get_drop hlt
    rw [hd, cntF] at hq
    (conv => whnf); refine And.intro (by omega) ?_
    (conv => whnf); refine recO (eC_at hx) ?_
    (conv => whnf); refine ACalls.use (ref1_SameRow_spec F.warehouseref1_SameRow false e2 x.row r (hr x hxm) _) ?_
    (conv => whnf); refine recA (fun hs => ?_) (fun hs => ?_)
    · simp at hs
      rw [if_pos hs] at hq
      (conv => whnf); refine And.intro (by omega) ?_
      (conv => whnf); refine recO (eC_at hx) ?_
      conv => whnf
      exact pubI hq
    · simp at hs
      rw [if_neg hs] at hq
      conv => whnf
      refine ⟨m - 1, by omega, Gp.none rfl ?_ fun ρ1 h => ⟨k + 1, by omega, hq, rfl, h⟩⟩
      exact ⟨.closed _ rfl, .closed _ rfl, pub_int (wrapI ((k : Int) + 1) (by omega) (by omega)), trivial⟩
  · simp [eC_length] at hlt
    rw [List.drop_eq_nil_of_le hlt] at hq
    conv => whnf
    exact pubI hq

end Go.AW

namespace Go.AW
attribute [local irreducible] ACalls
def w2 (n : Int) : List Int := [u8 (n.fdiv (2 ^ 8)), u8 n]

def p4 (n : Int) : List Int := w2 (IntKind.i64.wrap (n.fdiv (2 ^ 16))) ++ [u8 (n.fdiv (2 ^ 8)), u8 n]

end Go.AW

namespace Go.AW
attribute [local irreducible] ACalls
structure Rec where
  del : Bool
  seq : Int
  row : List V

structure Fil where
  id : ByteArray
  src : ByteArray
  recs : List Rec

end Go.AW

namespace Go.AW
section
variable {P : Program} {C C' : Nat → Nat} {τ τ' : Nat → Option Loc} {H H' : List AObj} {w w' : World}
def AObj.clean : AObj → Bool
  | .arr _ es => pureEs es
  | .iter _ _ => true

inductive Ren (σ : Nat → Nat) : AVal → AVal → Prop where
  | closed (v : AVal) (h : v.closed = true) : Ren σ v v
  | sl (id ep off len : Nat) : Ren σ (.sl id ep off len) (.sl (σ id) ep off len)
  | ptr (id ep idx fld : Nat) : Ren σ (.ptr id ep idx fld) (.ptr (σ id) ep idx fld)
  | agg (vs rs : List AVal) (hl : vs.length = rs.length) (h : ∀ (i : Nat) (v r : AVal), vs[i]? = some v → rs[i]? = some r → Ren σ v r) : Ren σ (.agg vs) (.agg rs)
  | tuple (vs rs : List AVal) (hl : vs.length = rs.length) (h : ∀ (i : Nat) (v r : AVal), vs[i]? = some v → rs[i]? = some r → Ren σ v r) : Ren σ (.tuple vs) (.tuple rs)

inductive RenO (σ : Nat → Nat) : AObj → AObj → Prop where
  | same (o : AObj) (h : o.clean = true) : RenO σ o o
  | arr (esz : Nat) (es es1 : List (List AVal)) (hl : es1.length = es.length) (hl2 : ∀ (i : Nat) (e e1 : List AVal), es[i]? = some e → es1[i]? = some e1 → e1.length = e.length)
      (h : ∀ (i j : Nat) (e e1 : List AVal) (d d1 : AVal), es[i]? = some e → es1[i]? = some e1 → e[j]? = some d → e1[j]? = some d1 → Ren σ d d1 ∧ d1.isCell = true) :
      RenO σ (.arr esz es) (.arr esz es1)

theorem RenO.after {σ : Nat → Nat} {o o0 o1 : AObj} {t t' : Option Loc} (h : RenO σ o0 o1) (ha : o.after o0 t t') : o.after o1 t t' := by
  cases h with
  | same => exact ha
  | arr esz es es1 hl _ _ =>
    cases o with
    | iter _ _ => exact ha
    | arr z es0 => exact ⟨ha.1, by rw [hl]; exact ha.2.1, by rw [hl]; exact ha.2.2⟩

theorem RenO.ok {σ : Nat → Nat} {o0 o1 : AObj} (h : RenO σ o0 o1) (ho : o0.ok) : o1.ok := by
  cases h with
  | same => exact ho
  | arr esz es es1 hl hl2 hp =>
    intro e1 he1
    obtain ⟨n, hn⟩ := List.getElem?_of_mem he1
    have hnl := (List.getElem?_eq_some_iff.1 hn).1
    have he : es[n]? = some es[n] := List.getElem?_eq_getElem (by omega)
    obtain ⟨g1, g2⟩ := ho _ (List.mem_of_getElem? he)
    refine ⟨(hl2 n _ _ he hn).trans g1, fun d1 hd1 => ?_⟩
    obtain ⟨j, hj⟩ := List.getElem?_of_mem hd1
    have hjl := (List.getElem?_eq_some_iff.1 hj).1
    have := hl2 n _ _ he hn
    exact (hp n j _ _ _ d1 he hn (List.getElem?_eq_getElem (by omega)) hj).2

def frN (id n : Nat) (k : Nat) : Nat := match k with
  | 0 => id
  | k + 1 => n + k

theorem ACalls.frame1 {f : FuncId} {args0 args : List AVal} {Q0 Q : AVal → List AObj → Prop} {id : Nat} {o : AObj} (ho : H[id]? = some o)
    (hp : o.clean = true)
    (hal : args0.length = args.length) (ha : ∀ (i : Nat) (a b : AVal), args0[i]? = some a → args[i]? = some b → (a = b ∧ a.closed = true) ∨ ∃ ep idx fld, a = .ptr 0 ep idx fld ∧ b = .ptr id ep idx fld)
    (h : ACalls P f args0 [o] Q0)
    (hq : ∀ r H1, Q0 r H1 → ∃ r' o1 o1' G G', H1 = o1 :: G ∧ Ren (frN id H.length) r r' ∧ RenO (frN id H.length) o1 o1' ∧ G.length = G'.length ∧
      (∀ (k : Nat) (x y : AObj), G[k]? = some x → G'[k]? = some y → RenO (frN id H.length) x y) ∧ Q r' (H.set id o1' ++ G')) : ACalls P f args H Q := by
  intro C τ w vs hw hl hr
  have hid := (List.getElem?_eq_some_iff.1 ho).1
  let τ0 : Nat → Option Loc := fun k => if k = 0 then τ id else none
  have one : ∀ {k : Nat} {x : AObj}, [o][k]? = some x → k = 0 ∧ x = o := fun {k x} h => by
    cases k with
    | zero => simp at h; exact ⟨rfl, h.symm⟩
    | succ k => simp at h
  have hw0 : WF C τ0 [o] w := by
    refine ⟨fun k x h => ?_, fun k x h ht => ?_, fun k x l h ht => ?_, fun k l hk ht => ?_, fun i j li lj hi hj _ _ _ => ?_, hw.lt⟩
    · obtain ⟨rfl, rfl⟩ := one h; exact hw.ok id _ ho
    · obtain ⟨rfl, rfl⟩ := one h; exact hw.virt id _ ho ht
    · obtain ⟨rfl, rfl⟩ := one h
      have hob := hw.objs id _ l ho ht
      cases x with
      | iter s p => exact hob
      | arr esz es =>
        obtain ⟨a1, cells, elem, fz, a2, a3, a4, a5⟩ := hob
        refine ⟨a1, cells, elem, fz, a2, a3, a4, fun i j e d hi hd => ?_⟩
        obtain ⟨x, hx1, hx2⟩ := a5 i j e d hi hd
        exact ⟨x, hx1, .rd (hx2.pure (pureEs_get hp hi hd))⟩
    · have hk0 : k = 0 := by simp at hk; omega
      subst hk0; exact hw.comm id l hid ht
    · simp at hi hj; omega
  have hr0 : ∀ (i : Nat) (a : AVal) (v : Value), args0[i]? = some a → vs[i]? = some v → Rel C w τ0 [o] a v := fun i a v h1 h2 => by
    have hi := (List.getElem?_eq_some_iff.1 h1).1
    have hb : args[i]? = some args[i] := List.getElem?_eq_getElem (by omega)
    have hrel := hr i _ v hb h2
    rcases ha i a _ h1 hb with ⟨e, hc⟩ | ⟨ep, idx, fld, rfl, e⟩
    · rw [← e] at hrel
      exact hrel.closed hc (fun _ => Nat.le_refl _) (fun _ _ _ => rfl)
    · rw [e] at hrel
      cases hrel with
      | rd h => cases h
      | ptr _ _ _ _ a esz es ho2 hep h3 =>
        rw [ho] at ho2; cases ho2
        exact .ptr 0 ep idx fld a esz es rfl hep h3
  have hc := h C τ0 w vs hw0 (by omega) hr0
  have fin : ∀ (e : Ending) (w' : World), (∃ v r C' τ' H', e = .returned v ∧ Q0 r H' ∧ Rel C' w' τ' H' r v ∧ St w (PrCall τ0 [o] w) C' τ' H' w' ∧ Step C τ0 [o] w C' τ' H' w') →
      ∃ v r C' τ' H', e = .returned v ∧ Q r H' ∧ Rel C' w' τ' H' r v ∧ St w (PrCall τ H w) C' τ' H' w' ∧ Step C τ H w C' τ' H' w' := by
    rintro e w' ⟨v, r, C1, τ1, H1, he, hq0, hrel, hst, hstep⟩
    obtain ⟨r', o1, o1', G, G', rfl, hrr, hro, hgl, hG, hQ⟩ := hq r H1 hq0
    
    have hoth : ∀ j l, j < H.length → j ≠ id → τ j = some l → PrCall τ0 [o] w l.b := fun j l hj hne ht =>
      ⟨hw.locLt hj ht, by
        rintro ⟨k, l', hk, ht', hb⟩
        have hk0 : k = 0 := by simp at hk; omega
        subst hk0
        exact hne (hw.inj j id l l' hj hid ht ht' hb.symm)⟩
    have hheap : ∀ j l, j < H.length → j ≠ id → τ j = some l → w'.heap[l.b]? = w.heap[l.b]? := fun j l hj hne ht => hst.fr.prot _ (hoth j l hj hne ht)
    let τ2 : Nat → Option Loc := fun i => if i = id then τ1 0 else if i < H.length then τ i else τ1 (i - H.length + 1)
    have t0 : τ2 id = τ1 0 := by simp only [τ2, if_true]
    have tO : ∀ j, j < H.length → j ≠ id → τ2 j = τ j := fun j hj hne => by simp only [τ2, if_neg hne, if_pos hj]
    have tN : ∀ k, τ2 (H.length + k) = τ1 (k + 1) := fun k => by
      simp only [τ2, if_neg (by omega : ¬ H.length + k = id), if_neg (by omega : ¬ H.length + k < H.length), Nat.add_sub_cancel_left]
    have tF : ∀ k, τ2 (frN id H.length k) = τ1 k := fun k => by
      cases k with
      | zero => exact t0
      | succ k => exact tN k
    have gid : (H.set id o1' ++ G')[id]? = some o1' := by rw [List.getElem?_append_left (by rw [List.length_set]; exact hid), List.getElem?_set_self hid]
    have gO : ∀ j, j < H.length → j ≠ id → (H.set id o1' ++ G')[j]? = H[j]? := fun j hj hne => by
      rw [List.getElem?_append_left (by rw [List.length_set]; exact hj), List.getElem?_set_ne (Ne.symm hne)]
    have gN : ∀ k, (H.set id o1' ++ G')[H.length + k]? = G'[k]? := fun k => by
      rw [List.getElem?_append_right (by rw [List.length_set]; omega), List.length_set, Nat.add_sub_cancel_left]
    
    have gF : ∀ k x, (o1 :: G)[k]? = some x → ∃ y, (H.set id o1' ++ G')[frN id H.length k]? = some y ∧ RenO (frN id H.length) x y := fun k x hx => by
      cases k with
      | zero => simp at hx; subst hx; exact ⟨o1', gid, hro⟩
      | succ k =>
        have hk : k < G.length := (List.getElem?_eq_some_iff.1 (by simpa using hx : G[k]? = some x)).1
        have hy : G'[k]? = some G'[k] := List.getElem?_eq_getElem (by omega)
        exact ⟨G'[k], (gN k).trans hy, hG k x _ (by simpa using hx) hy⟩
    have split : ∀ i, i < (H.set id o1' ++ G').length → (i < H.length ∧ i ≠ id) ∨ ∃ k, i = frN id H.length k ∧ k < (o1 :: G).length := fun i hi => by
      rw [List.length_append, List.length_set] at hi
      by_cases h1 : i = id
      · exact .inr ⟨0, h1, by simp⟩
      · by_cases h2 : i < H.length
        · exact .inl ⟨h2, h1⟩
        · exact .inr ⟨i - H.length + 1, by simp only [frN]; omega, by simp; omega⟩
    have frInj : ∀ k k', frN id H.length k = frN id H.length k' → k = k' := fun k k' h => by
      cases k <;> cases k' <;> simp only [frN] at h <;> omega
    have step : Step C τ H w C1 τ2 (H.set id o1' ++ G') w' := by
      refine ⟨hstep.le, hstep.cell, fun j x hx => ?_, hstep.grow, hstep.old⟩
      have hj := (List.getElem?_eq_some_iff.1 hx).1
      by_cases e1 : j = id
      · subst e1
        rw [ho] at hx; cases hx
        obtain ⟨o', h1, h2⟩ := hstep.obj 0 o rfl
        simp at h1; subst h1
        refine ⟨o1', gid, ?_⟩
        rw [t0]
        have : τ0 0 = τ j := by simp only [τ0, if_true]
        rw [this] at h2
        exact hro.after h2
      · exact ⟨x, by rw [gO j hj e1]; exact hx, by rw [tO j hj e1]; exact x.after_refl _⟩
    have ren : ∀ {a b : AVal}, Ren (frN id H.length) a b → ∀ {u : Value}, Rel C1 w' τ1 (o1 :: G) a u → Rel C1 w' τ2 (H.set id o1' ++ G') b u := by
      intro a b hab
      induction hab with
      | closed v h => intro u hu; exact hu.closed h (fun _ => Nat.le_refl _) (fun _ _ _ => rfl)
      | sl k ep off len =>
        intro u hu
        cases hu with
        | rd h => cases h
        | sl _ _ _ _ a cap esz es ho2 hep h3 =>
          obtain ⟨y, hy, hry⟩ := gF k _ ho2
          cases hry with
          | same _ _ => exact .sl _ ep off len a cap esz es hy hep fun e => by rw [tF]; exact h3 e
          | arr _ _ es1 hl1 _ _ => exact .sl _ ep off len a cap esz es1 hy (by omega) fun e => by rw [tF, hl1]; exact h3 (by omega)
      | ptr k ep idx fld =>
        intro u hu
        cases hu with
        | rd h => cases h
        | ptr _ _ _ _ a esz es ho2 hep h3 =>
          obtain ⟨y, hy, hry⟩ := gF k _ ho2
          cases hry with
          | same _ _ => exact .ptr _ ep idx fld a esz es hy hep fun e => by rw [tF]; exact h3 e
          | arr _ _ es1 hl1 _ _ => exact .ptr _ ep idx fld a esz es1 hy (by omega) fun e => by rw [tF]; exact h3 (by omega)
      | agg vs rs hl h ih =>
        intro u hu
        obtain ⟨us, rfl, hl2, hr2⟩ := hu.agg_inv
        refine .agg _ _ (by omega) fun i c v hc hv => ?_
        have hi := (List.getElem?_eq_some_iff.1 hc).1
        have hvi : vs[i]? = some vs[i] := List.getElem?_eq_getElem (by omega)
        exact ih i _ c hvi hc (hr2 i _ v hvi hv)
      | tuple vs rs hl h ih =>
        intro u hu
        obtain ⟨us, rfl, hl2, hr2⟩ := hu.tuple_inv
        refine .tuple _ _ (by omega) fun i c v hc hv => ?_
        have hi := (List.getElem?_eq_some_iff.1 hc).1
        have hvi : vs[i]? = some vs[i] := List.getElem?_eq_getElem (by omega)
        exact ih i _ c hvi hc (hr2 i _ v hvi hv)
    have hgetF : ∀ k, k < (o1 :: G).length → ∃ x, (o1 :: G)[k]? = some x := fun k hk => ⟨_, List.getElem?_eq_getElem hk⟩
    refine ⟨v, r', C1, τ2, H.set id o1' ++ G', he, hQ, ren hrr hrel, ⟨⟨fun i x hx => ?_, fun i x hx ht => ?_, fun i x l hx ht => ?_, fun i l hi ht => ?_, fun i j li lj hi hj hti htj hb => ?_, hst.wf.lt⟩,
      ⟨hst.fr.os, hst.fr.tape, hst.fr.output, hst.fr.size, fun b hb => hst.fr.prot b ⟨hb.1, ?_⟩, hst.fr.drawn⟩, ?_, fun b hb => hb.1⟩, step⟩
    · rcases split i (List.getElem?_eq_some_iff.1 hx).1 with ⟨h1, h2⟩ | ⟨k, rfl, hk⟩
      · rw [gO i h1 h2] at hx; exact hw.ok i x hx
      · obtain ⟨z, hz⟩ := hgetF k hk
        obtain ⟨y, hy, hry⟩ := gF k z hz
        rw [hx] at hy; cases hy
        exact hry.ok (hst.wf.ok k z hz)
    · rcases split i (List.getElem?_eq_some_iff.1 hx).1 with ⟨h1, h2⟩ | ⟨k, rfl, hk⟩
      · rw [gO i h1 h2] at hx; rw [tO i h1 h2] at ht; exact hw.virt i x hx ht
      · obtain ⟨z, hz⟩ := hgetF k hk
        obtain ⟨y, hy, hry⟩ := gF k z hz
        rw [hx] at hy; cases hy
        rw [tF] at ht
        obtain ⟨esz, rfl⟩ := hst.wf.virt k z hz ht
        cases hry with
        | same _ _ => exact ⟨esz, rfl⟩
        | arr _ _ es1 hl1 _ _ =>
          have : es1 = [] := List.length_eq_zero_iff.1 hl1
          subst this; exact ⟨esz, rfl⟩
    · rcases split i (List.getElem?_eq_some_iff.1 hx).1 with ⟨h1, h2⟩ | ⟨k, rfl, hk⟩
      · rw [gO i h1 h2] at hx; rw [tO i h1 h2] at ht
        exact (hw.objs i x l hx ht).mono step (hheap i l h1 h2 ht)
      · obtain ⟨z, hz⟩ := hgetF k hk
        obtain ⟨y, hy, hry⟩ := gF k z hz
        rw [hx] at hy; cases hy
        rw [tF] at ht
        have hob := hst.wf.objs k z l hz ht
        cases hry with
        | same _ hpz =>
          cases x with
          | iter s p => exact hob
          | arr esz es =>
            obtain ⟨a1, cells, elem, fz, a2, a3, a4, a5⟩ := hob
            refine ⟨a1, cells, elem, fz, a2, a3, a4, fun i j e d hi hd => ?_⟩
            obtain ⟨x, hx1, hx2⟩ := a5 i j e d hi hd
            exact ⟨x, hx1, .rd (hx2.pure (pureEs_get hpz hi hd))⟩
        | arr esz es es1 hl1 hl2 hp2 =>
          obtain ⟨a1, cells, elem, fz, a2, a3, a4, a5⟩ := hob
          refine ⟨by omega, cells, elem, fz, a2, a3, a4, fun i j e1 d1 hi hd => ?_⟩
          have hil := (List.getElem?_eq_some_iff.1 hi).1
          have hjl := (List.getElem?_eq_some_iff.1 hd).1
          have he : es[i]? = some es[i] := List.getElem?_eq_getElem (by omega)
          have hl3 := hl2 i _ _ he hi
          have hd0 : es[i][j]? = some es[i][j] := List.getElem?_eq_getElem (by omega)
          obtain ⟨x, hx1, hx2⟩ := a5 i j _ _ he hd0
          exact ⟨x, hx1, ren (hp2 i j _ _ _ d1 he hi hd0 hd).1 hx2⟩
    · rcases split i hi with ⟨h1, h2⟩ | ⟨k, rfl, hk⟩
      · rw [tO i h1 h2] at ht
        rw [hstep.old _ (hw.locLt h1 ht)]; exact hw.comm i l h1 ht
      · rw [tF] at ht; exact hst.wf.comm k l hk ht
    · rcases split i hi with ⟨h1, h2⟩ | ⟨k, rfl, hk⟩ <;> rcases split j hj with ⟨h3, h4⟩ | ⟨k', rfl, hk'⟩
      · rw [tO i h1 h2] at hti; rw [tO j h3 h4] at htj; exact hw.inj i j li lj h1 h3 hti htj hb
      · rw [tO i h1 h2] at hti; rw [tF] at htj
        exact absurd (hb ▸ hoth i li h1 h2 hti) (hst.own _ ⟨k', lj, hk', htj, rfl⟩)
      · rw [tF] at hti; rw [tO j h3 h4] at htj
        exact absurd (hb ▸ hoth j lj h3 h4 htj) (hst.own _ ⟨k, li, hk, hti, rfl⟩)
      · rw [tF] at hti htj
        rw [hst.wf.inj k k' li lj hk hk' hti htj hb]
    · rintro ⟨k, l, hk, ht, hb2⟩
      have hk0 : k = 0 := by simp at hk; omega
      subst hk0
      exact hb.2 ⟨id, l, hid, ht, hb2⟩
    · rintro b ⟨i, l, hi, ht, rfl⟩ hp2
      rcases split i hi with ⟨h1, h2⟩ | ⟨k, rfl, hk⟩
      · rw [tO i h1 h2] at ht; exact hp2.2 ⟨i, l, h1, ht, rfl⟩
      · rw [tF] at ht
        refine hst.own _ ⟨k, l, hk, ht, rfl⟩ ⟨hp2.1, ?_⟩
        rintro ⟨k2, l2, hk2, ht2, hb2⟩
        have hk0 : k2 = 0 := by simp at hk2; omega
        subst hk0
        exact hp2.2 ⟨id, l2, hid, ht2, hb2⟩
  unfold CallsX at hc ⊢
  split at hc
  · exact Calls.mono hc fun e w' hh => fin e w' hh
  · exact fin _ _ hc
  · exact hc

def FrArgs (id : Nat) : List AVal → List AVal → Prop
  | [], [] => True
  | a :: asv, b :: bs => ((a = b ∧ a.closed = true) ∨ ∃ ep idx fld, a = .ptr 0 ep idx fld ∧ b = .ptr id ep idx fld) ∧ FrArgs id asv bs
  | _, _ => False

theorem FrArgs.get {id : Nat} : ∀ {asv bs : List AVal}, FrArgs id asv bs → asv.length = bs.length ∧ ∀ (i : Nat) (a b : AVal), asv[i]? = some a → bs[i]? = some b → (a = b ∧ a.closed = true) ∨ ∃ ep idx fld, a = .ptr 0 ep idx fld ∧ b = .ptr id ep idx fld
  | [], [], _ => ⟨rfl, fun i a b h => by simp at h⟩
  | a :: asv, b :: bs, h => by
    obtain ⟨h1, h2⟩ := FrArgs.get h.2
    refine ⟨by simp [h1], fun i x y hx hy => ?_⟩
    cases i with
    | zero => simp at hx hy; subst hx hy; exact h.1
    | succ i => exact h2 i x y (by simpa using hx) (by simpa using hy)
  | [], _ :: _, h => h.elim
  | _ :: _, [], h => h.elim

theorem ACalls.fr {f : FuncId} {args0 args : List AVal} {id : Nat} {o o1 : AObj} {R : AVal} (h : ACalls P f args0 [o] (fun r H' => r = R ∧ H' = [o1])) (ho : H[id]? = some o)
    (hp : o.clean = true) (hp1 : o1.clean = true) (ha : FrArgs id args0 args) (hR : Ren (frN id H.length) R R) : ACalls P f args H (fun r H' => r = R ∧ H' = H.set id o1) := by
  obtain ⟨hl, ha⟩ := ha.get
  refine ACalls.frame1 ho hp hl ha h ?_
  rintro r H1 ⟨rfl, rfl⟩
  exact ⟨_, o1, o1, [], [], rfl, hR, .same _ hp1, rfl, fun k x y h => by simp at h, rfl, by simp⟩

end
theorem Gp.res {n0 : List Nat} {r r' : AVal} {H H1 : List AObj} {I : List AVal → List AObj → Prop} (ids : List Nat) (hnd : ids.Nodup) (hb : keepB n0 ids H) (ho : gpO H ids ids H1) (hp : Pub H 0 ids r r') (hI : I [r'] H1) : Gp n0 [r] H I :=
  .inr ⟨ids, [r'], H1, hnd, hb, ho, ⟨hp, trivial⟩, hI⟩

end Go.AW

namespace Go.AW
attribute [local irreducible] ACalls
structure RdS where
  rest : List Int
  bad : Bool

def tkB (n : Int) (s : RdS) : Bool := !s.bad && decide (n ≤ s.rest.length)

def tkL (n : Int) (s : RdS) : List Int := if tkB n s then s.rest.take n.toNat else []

def tkS (n : Int) (s : RdS) : RdS := if tkB n s then ⟨s.rest.drop n.toNat, false⟩ else ⟨s.rest, true⟩

def nbV (n : Int) (s : RdS) : Int := num (tkL n s)

def txS (s : RdS) : RdS := tkS (nbV 1 s) (tkS 1 s)

end Go.AW

namespace Go.AW
attribute [local irreducible] ACalls
def f0 : Fil := ⟨bs [], bs [], []⟩

def dS (l : List Int) : RdS := ⟨l.take (l.length - 4), false⟩

end Go.AW

namespace Go.AW
attribute [local irreducible] ACalls
def z1 (l : List Int) : RdS := tkS 4 (dS l)

def z2 (l : List Int) : RdS := txS (z1 l)

def z3 (l : List Int) : RdS := txS (z2 l)

def z4 (l : List Int) : RdS := tkS 2 (z3 l)

end Go.AW

namespace Go.AW
attribute [local irreducible] ACalls
theorem ob1s {H : List AObj} {ids : List Nat} (xs ys : List AVal) (hl : xs.length = ys.length) (h : ∀ (i : Nat) (x y : AVal), xs[i]? = some x → ys[i]? = some y → Pub H 0 ids x y ∧ y.isCell = true) : ObP H ids (.arr 1 (xs.map fun x => [x])) (.arr 1 (ys.map fun x => [x])) := by
  refine .map 1 _ _ (by simp [hl]) (fun i e e1 h1 h2 => ?_) (fun i j e e1 d d1 h1 h2 h3 h4 => ?_)
  · rw [List.getElem?_map] at h1 h2
    obtain ⟨x, _, rfl⟩ := Option.map_eq_some_iff.1 h1
    obtain ⟨y, _, rfl⟩ := Option.map_eq_some_iff.1 h2
    rfl
  · rw [List.getElem?_map] at h1 h2
    obtain ⟨x, hx, rfl⟩ := Option.map_eq_some_iff.1 h1
    obtain ⟨y, hy, rfl⟩ := Option.map_eq_some_iff.1 h2
    rcases j with _ | j
    · cases h3; cases h4; exact h i _ _ hx hy
    · simp at h3

end Go.AW

namespace Go.AW
attribute [local irreducible] ACalls
def gO (l : List Int) (i : Nat) : AObj := .arr 2 [[.list false 1 (iC l), .int .i64 i]]

def nx (l : List Int) (i : Nat) (n : Int) : Int × Nat := if l.length ≤ i ∨ n < 1 then (0, i) else (l.getD i 0 % n, i + 1)

def inB (l : List ByteArray) (s : ByteArray) : Bool := l.any fun x => eqS x s

def instL : List Int := [144000, 144719, 145380, 145400, 145439, 145440, 145500, 146000, 146879, 146880, 148000, 148320, 149000, 151199, 151200, 153000]

def wtexts : List ByteArray := [bs [], bs [97], bs [98], bs [105, 116, 39, 115], bs [122, 122]]

def wv1 (k : Int) (l : List Int) (i : Nat) : V × Nat :=
  if k = 1 then (⟨1, (nx l i 2).1, bs []⟩, (nx l i 2).2)
  else if k = 2 then (⟨2, (nx l i 7).1 - 1, bs []⟩, (nx l i 7).2)
  else if k = 3 then (⟨3, 0, wtexts.getD (nx l i 5).1.toNat (bs [])⟩, (nx l i 5).2)
  else (⟨4, instL.getD (nx l i 16).1.toNat 0, bs []⟩, (nx l i 16).2)

def wv (c : Col) (l : List Int) (i : Nat) : V × Nat :=
  if c.nul then (if (nx l i 5).1 = 0 then (zV, (nx l i 5).2) else wv1 c.kind l (nx l i 5).2) else wv1 c.kind l i

end Go.AW

namespace Go.AW
attribute [local irreducible] ACalls
def wr (l : List Int) : List Col → Nat → List V → List V × Nat
  | [], i, out => (out, i)
  | c :: cs, i, out => wr l cs (wv c l i).2 (out ++ [(wv c l i).1])

end Go.AW

namespace Go.AW
attribute [local irreducible] ACalls
structure Src where
  cols : List Col
  key : List ByteArray
  late : Int
  reopen : Int

end Go.AW

namespace Go.AW
attribute [local irreducible] ACalls
def sAt : ByteArray := bs [97, 116]

def keepC (key : List ByteArray) (c : Col) : Bool := inB key c.name || eqS c.name sAt

def delR (key : List ByteArray) : List Col → List V → List V
  | c :: cs, v :: vs => (if keepC key c then v else zV) :: delR key cs vs
  | _, _ => []

end Go.AW

namespace Go.AW
attribute [local irreducible] ACalls
def wk (s : Src) (l : List Int) (i : Nat) : Int × Nat := nx l (wr l s.cols (nx l i 4).2 []).2 24

def wrow (s : Src) (l : List Int) (i : Nat) : List V := (wr l s.cols (nx l i 4).2 []).1

def wrec (s : Src) (l : List Int) (i : Nat) : Rec × Nat :=
  if (wk s l i).1 < 5 then (⟨true, (nx l i 4).1, delR s.key s.cols (wrow s l i)⟩, (wk s l i).2)
  else if (wk s l i).1 = 5 then (⟨true, (nx l i 4).1, wrow s l i⟩, (wk s l i).2)
  else if (wk s l i).1 = 6 then (⟨false, (nx l i 4).1, (wrow s l i).take (s.cols.length - 1)⟩, (wk s l i).2)
  else if (wk s l i).1 = 7 then (⟨false, (nx l i 4).1, (wrow s l i).set (nx l (wk s l i).2 s.cols.length).1.toNat ⟨1, 1, bs []⟩⟩, (nx l (wk s l i).2 s.cols.length).2)
  else if (wk s l i).1 = 8 then (⟨false, -1, wrow s l i⟩, (wk s l i).2)
  else (⟨false, (nx l i 4).1, wrow s l i⟩, (wk s l i).2)

end Go.AW

namespace Go.AW
attribute [local irreducible] ACalls
def wf (s : Src) (l : List Int) : Nat → Nat → List Rec → List Rec × Nat
  | 0, i, L => (L, i)
  | k + 1, i, L => wf s l k (wrec s l i).2 (L ++ [(wrec s l i).1])

end Go.AW

namespace Go.AW
attribute [local irreducible] ACalls
noncomputable def eqD {α : Type} (a b : α) : Bool := @decide (a = b) (Classical.propDecidable _)

theorem eqD_true {α : Type} {a b : α} (h : a = b) : eqD a b = true := by simp [eqD, h]

theorem eqD_false {α : Type} {a b : α} (h : a ≠ b) : eqD a b = false := by simp [eqD, h]

theorem take_more {α : Type} {a b : List α} {k : Nat} {x y : α} (ht : a.take k = b.take k) (hx : a[k]? = some x) (hy : b[k]? = some y) (h : x = y) : a.take (k + 1) = b.take (k + 1) := by
  rw [List.take_add_one, List.take_add_one, hx, hy, ht, h]

theorem get_ne {α : Type} {a b : List α} {k : Nat} {x y : α} (hx : a[k]? = some x) (hy : b[k]? = some y) (h : x ≠ y) : a ≠ b := fun e => by
  rw [e, hy] at hx
  cases hx
  exact h rfl

end Go.AW

namespace Go.AW
attribute [local irreducible] ACalls
def tO (x y z : List Int) : AObj := .arr 1 [[.list false 1 (bC x)], [.list false 1 (bC y)], [.list false 1 (bC z)]]

end Go.AW

namespace Go.AW
attribute [local irreducible] ACalls
set_option maxRecDepth 20000 in
theorem ins0_spec {P : Program} (F : F_slices_insertionSortCmpFunc_Entry P) (X : AVal) (g : FuncId) (H : List AObj) :
    ACalls P F.id [X, .int .i64 0, .int .i64 0, .fn g []] H (fun r H' => r = .tuple [] ∧ H' = H) := by
  refine acalls_of_body F.has ?_
  conv => whnf
  refine ⟨fun m ρ H1 => H1 = H ∧ Sv 53 [(1, .int .i64 0), (2, .int .i64 0), (8, .int .i64 1)] ρ, 0, [], ?_, ?_⟩
  · exact ⟨rfl, Sv.intro rfl ⟨rfl, rfl, rfl, trivial⟩⟩
  rintro m ρ H1 ⟨rfl, d, rfl⟩
  conv => whnf
  exact ⟨rfl, rfl⟩

set_option maxRecDepth 20000 in
theorem Len64_0 {P : Program} (F : F_math_bits_Len64 P) (H : List AObj) :
    ACalls P F.id [.int .u64 0] H (fun r H' => r = .int .i64 0 ∧ H' = H) := by
  refine ACalls.pure rfl (acalls_of_body F.has ?_)
  (conv => whnf); refine And.intro (by decide) ?_
  conv => whnf
  exact .closed _ rfl

theorem Len_0 {P : Program} (F : F_math_bits_Len P) (H : List AObj) :
    ACalls P F.id [.int .u64 0] H (fun r H' => r = .int .i64 0 ∧ H' = H) := by
  refine ACalls.pure rfl (acalls_of_body F.has ?_)
  (conv => whnf); refine ACalls.use (Len64_0 F.math_bits_Len64 _) ?_
  conv => whnf
  exact .closed _ rfl

set_option maxRecDepth 20000 in
theorem pdq0_spec {P : Program} (F : F_slices_pdqsortCmpFunc_Entry P) (X : AVal) (g : FuncId) (H : List AObj) :
    ACalls P F.id [X, .int .i64 0, .int .i64 0, .int .i64 0, .fn g []] H (fun r H' => r = .tuple [] ∧ H' = H) := by
  refine acalls_of_body F.has ?_
  conv => whnf
  refine ⟨fun m ρ H1 => H1 = H ∧ Sv 148 [(0, X), (1, .int .i64 0), (2, .int .i64 0), (3, .int .i64 0), (4, .fn g []), (10, .bool true), (11, .bool true)] ρ, 0, [], ?_, ?_⟩
  · exact ⟨rfl, Sv.intro rfl ⟨rfl, rfl, rfl, rfl, rfl, rfl, rfl, trivial⟩⟩
  rintro m ρ H1 ⟨rfl, d, rfl⟩
  (conv => whnf); refine ACalls.use (ins0_spec F.slices_insertionSortCmpFunc_Entry X g _) ?_
  conv => whnf
  exact ⟨rfl, rfl⟩

theorem sort0_spec {P : Program} (F : F_slices_SortFunc_LEntry_Entry P) (id : Nat) (g : FuncId) (H : List AObj) (ho : H[id]? = some (.arr 2 [])) :
    ACalls P F.id [.sl id 0 0 0, .fn g []] H (fun r H' => r = .tuple [] ∧ H' = H) := by
  refine acalls_of_body F.has ?_
  (conv => whnf); refine recO (ho) ?_
  (conv => whnf); refine ACalls.use (Len_0 F.math_bits_Len _) ?_
  (conv => whnf); refine ACalls.use (pdq0_spec F.slices_pdqsortCmpFunc_Entry (.sl id 0 0 0) g _) ?_
  conv => whnf
  exact ⟨rfl, rfl⟩

theorem sort0n_spec {P : Program} (F : F_slices_SortFunc_LEntry_Entry P) (g : FuncId) (H : List AObj) :
    ACalls P F.id [.nil, .fn g []] H (fun r H' => r = .tuple [] ∧ H' = H) := by
  refine acalls_of_body F.has ?_
  (conv => whnf); refine ACalls.use (Len_0 F.math_bits_Len _) ?_
  (conv => whnf); refine ACalls.use (pdq0_spec F.slices_pdqsortCmpFunc_Entry .nil g _) ?_
  conv => whnf
  exact ⟨rfl, rfl⟩

end Go.AW

namespace Go.AW
attribute [local irreducible] ACalls
def posE (e : Ent) : Bool := decide (0 < e.cnt)

def szW : List Ent → Int → Int
  | [], a => a
  | e :: l, a => szW l (IntKind.i64.wrap (a + e.cnt))

def sizeR (b : List Ent) : AVal := if bagB b = 0 then .tuple [.int .i64 (szW b 0), .int .i64 0] else .tuple [.int .i64 0, .int .i64 (bagB b)]

theorem bagB_le {b : List Ent} (h : bagB b = 0) : b.length ≤ 1000000 := by
  unfold bagB at h
  split at h
  · cases h
  · omega

set_option maxRecDepth 20000 in
theorem ref6_positive_spec {P : Program} (F : F_warehouseref6_positive P) (ex : Bool) (b : List Ent) (hl : b.length ≤ 1000000) (H : List AObj) :
    ACalls P F.id [.list ex 2 (eC b)] H (fun r H' => r = .bool (b.all posE) ∧ H' = H) := by
  refine ACalls.pure (by simp [AVal.closed, AVal.isPure]) (acalls_of_body F.has ?_)
  conv => whnf
  refine ⟨fun m ρ H1 => ∃ k : Nat, k + m = b.length ∧ b.all posE = (b.drop k).all posE ∧ H1 = [] ∧ Sv 16 [(0, .list ex 2 (eC b)), (3, .int .i64 k)] ρ, b.length, [], ?_, ?_⟩
  · exact ⟨0, by omega, rfl, rfl, Sv.intro rfl ⟨rfl, rfl, trivial⟩⟩
  rintro m ρ H1 ⟨k, hk, hr, rfl, d, rfl⟩
  (conv => whnf); refine recA (fun hlt => ?_) (fun hlt => ?_)
  · simp [eC_length] at hlt
    have hx : b[k]? = some b[k] := List.getElem?_eq_getElem hlt
    rw [List.drop_eq_getElem_cons hlt, List.all_cons] at hr
    (conv => whnf); refine And.intro (by omega) ?_
    (conv => whnf); refine recO (eC_at hx) ?_
    (conv => whnf); refine recA (fun h5 => ?_) (fun h5 => ?_)
    · simp at h5
      conv => whnf
      exact pubB (by rw [hr, posE, decide_eq_false (by omega)]; rfl)
    · simp at h5
      rw [posE, decide_eq_true (by omega), Bool.true_and] at hr
      conv => whnf
      refine ⟨m - 1, by omega, Gp.keep rfl ?_ fun ρ1 h => ⟨k + 1, by omega, hr, rfl, h⟩⟩
      exact ⟨rfl, intEq (wrapI _ (by omega) (by omega)), trivial⟩
  · simp [eC_length] at hlt
    rw [List.drop_of_length_le (by omega)] at hr
    conv => whnf
    exact pubB hr.symm

set_option maxRecDepth 20000 in
theorem ref6_Size_spec {P : Program} (F : F_warehouseref6_Size P) (ex : Bool) (b : List Ent) (H : List AObj) :
    ACalls P F.id [.list ex 2 (eC b)] H (fun r H' => r = sizeR b ∧ H' = H) := by
  refine ACalls.pure (by simp [AVal.closed, AVal.isPure]) (acalls_of_body F.has ?_)
  (conv => whnf); refine ACalls.use (ref6_Validate_spec F.warehouseref6_Validate ex b _) ?_
  (conv => whnf); refine recA (fun h1 => ?_) (fun h1 => ?_)
  · simp at h1
    conv => whnf
    rw [sizeR, if_neg h1]
    exact pub2 (.closed _ rfl) (.closed _ rfl)
  simp at h1
  have hl := bagB_le h1
  conv => whnf
  refine ⟨fun m ρ H1 => ∃ (k : Nat) (a : Int), k + m = b.length ∧ szW (b.drop k) a = szW b 0 ∧ H1 = [] ∧ Sv 26 [(0, .list ex 2 (eC b)), (5, .int .i64 a), (6, .int .i64 k)] ρ, b.length, [], ?_, ?_⟩
  · exact ⟨0, 0, by omega, rfl, rfl, Sv.intro rfl ⟨rfl, rfl, rfl, trivial⟩⟩
  rintro m ρ H1 ⟨k, a, hk, hr, rfl, d, rfl⟩
  (conv => whnf); refine recA (fun hlt => ?_) (fun hlt => ?_)
  · simp [eC_length] at hlt
    have hx : b[k]? = some b[k] := List.getElem?_eq_getElem hlt
    rw [List.drop_eq_getElem_cons hlt, szW] at hr
    (conv => whnf); refine And.intro (by omega) ?_
    (conv => whnf); refine recO (eC_at hx) ?_
    conv => whnf
    refine ⟨m - 1, by omega, Gp.keep rfl ?_ fun ρ1 h => ⟨k + 1, _, by omega, hr, rfl, h⟩⟩
    exact ⟨rfl, rfl, intEq (wrapI _ (by omega) (by omega)), trivial⟩
  · simp [eC_length] at hlt
    rw [List.drop_of_length_le (by omega), szW] at hr
    conv => whnf
    rw [sizeR, if_pos h1, ← hr]
    exact pub2 (.closed _ rfl) (.closed _ rfl)

set_option maxRecDepth 20000 in
theorem bag_Size_spec {P : Program} (F : F_bag_Size P) (ex : Bool) (b : List Ent) (H : List AObj) :
    ACalls P F.id [.list ex 2 (eC b)] H (fun r H' => r = sizeR b ∧ H' = H) := by
  refine ACalls.pure (by simp [AVal.closed, AVal.isPure]) (acalls_of_body F.has ?_)
  (conv => whnf); refine ACalls.use (bag_Validate_spec F.bag_Validate ex b _) ?_
  (conv => whnf); refine recA (fun h1 => ?_) (fun h1 => ?_)
  · simp at h1
    conv => whnf
    rw [sizeR, if_neg h1]
    exact pub2 (.closed _ rfl) (.closed _ rfl)
  simp at h1
  have hl := bagB_le h1
  conv => whnf
  refine ⟨fun m ρ H1 => ∃ (k : Nat) (a : Int), k + m = b.length ∧ szW (b.drop k) a = szW b 0 ∧ H1 = [] ∧ Sv 25 [(5, .int .i64 a), (13, .list ex 2 (eC b)), (14, .int .i64 b.length), (15, .int .i64 k)] ρ, b.length, [], ?_, ?_⟩
  · exact ⟨0, 0, by omega, rfl, rfl, Sv.intro rfl ⟨rfl, rfl, intEq (by rw [eC_length]), rfl, trivial⟩⟩
  rintro m ρ H1 ⟨k, a, hk, hr, rfl, d, rfl⟩
  (conv => whnf); refine recA (fun hlt => ?_) (fun hlt => ?_)
  · simp at hlt
    have hx : b[k]? = some b[k] := List.getElem?_eq_getElem hlt
    rw [List.drop_eq_getElem_cons hlt, szW] at hr
    (conv => whnf); refine And.intro (by omega) ?_
    (conv => whnf); refine recO (eC_at hx) ?_
    conv => whnf
    refine ⟨m - 1, by omega, Gp.none rfl ?_ fun ρ1 h => ⟨k + 1, _, by omega, hr, rfl, h⟩⟩
    exact ⟨.closed _ rfl, .closed (.list ex 2 (eC b)) rfl, .closed _ rfl, pub_int (wrapI _ (by omega) (by omega)), trivial⟩
  · simp at hlt
    rw [List.drop_of_length_le (by omega), szW] at hr
    conv => whnf
    rw [sizeR, if_pos h1, ← hr]
    exact pub2 (.closed _ rfl) (.closed _ rfl)

end Go.AW

namespace Go.AW
attribute [local irreducible] ACalls
set_option maxRecDepth 20000 in
theorem ref6_Same_spec {P : Program} (F : F_warehouseref6_Same P) (e1 e2 : Bool) (a b : List Ent) (hl : a.length ≤ 1000000) (hr : ∀ x ∈ a, x.row.length ≤ 1000000) (H : List AObj) :
    ACalls P F.id [.list e1 2 (eC a), .list e2 2 (eC b)] H (fun r H' => r = .bool (eqD a b) ∧ H' = H) := by
  refine ACalls.pure (by simp [AVal.closed, AVal.isPure]) (acalls_of_body F.has ?_)
  (conv => whnf); refine recA (fun hn => ?_) (fun hn => ?_)
  · simp [eC_length] at hn
    conv => whnf
    exact pubB (eqD_false (fun e => hn (by rw [e]))).symm
  simp [eC_length] at hn
  conv => whnf
  refine ⟨fun m ρ H => ∃ k : Nat, k + m = a.length ∧ a.take k = b.take k ∧ H = [] ∧ Sv 42 [(0, .list e1 2 (eC a)), (1, .list e2 2 (eC b)), (5, .int .i64 k)] ρ, a.length, [], ?_, ?_⟩
  · exact ⟨0, by omega, rfl, rfl, Sv.intro rfl ⟨rfl, rfl, rfl, trivial⟩⟩
  rintro m ρ H ⟨k, hk, ht, rfl, d, rfl⟩
  (conv => whnf); refine recA (fun hlt => ?_) (fun hlt => ?_)
  · simp [eC_length] at hlt
    have hx : a[k]? = some a[k] := List.getElem?_eq_getElem hlt
    have hy : b[k]? = some (b[k]'(by omega)) := List.getElem?_eq_getElem (by omega)
    (conv => whnf); refine And.intro (by omega) ?_
    (conv => whnf); refine recO (eC_at hx) ?_
    (conv => whnf); refine And.intro (by omega) ?_
    (conv => whnf); refine recO (eC_at hy) ?_
    (conv => whnf); refine recA (fun h1 => ?_) (fun h1 => ?_)
    · replace h1 : (!(a[k].cnt == (b[k]'(by omega)).cnt)) = true := h1
      have hv : a[k] ≠ b[k]'(by omega) := fun e => by rw [e, beq_self_eq_true] at h1; cases h1
      conv => whnf
      exact pubB (eqD_false (get_ne hx hy hv)).symm
    replace h1 : (!(a[k].cnt == (b[k]'(by omega)).cnt)) = false := h1
    have hc : a[k].cnt = (b[k]'(by omega)).cnt := by rw [Bool.not_eq_false', beq_iff_eq] at h1; exact h1
    (conv => whnf); refine And.intro (by omega) ?_
    (conv => whnf); refine recO (eC_at hx) ?_
    (conv => whnf); refine And.intro (by omega) ?_
    (conv => whnf); refine recO (eC_at hy) ?_
    (conv => whnf); refine ⟨_, ref1_SameRow_spec F.warehouseref1_SameRow false false a[k].row (b[k]'(by omega)).row (hr _ (List.getElem_mem hlt)) _, ?_⟩
    (conv => whnf); refine recA (fun h2 => ?_) (fun h2 => ?_)
    · replace h2 : (!(rowsCmp a[k].row (b[k]'(by omega)).row == 0)) = true := h2
      have hv : a[k] ≠ b[k]'(by omega) := fun e => by rw [e, (rowsCmp_zero _ _).2 rfl] at h2; cases h2
      conv => whnf
      exact pubB (eqD_false (get_ne hx hy hv)).symm
    · replace h2 : (!(rowsCmp a[k].row (b[k]'(by omega)).row == 0)) = false := h2
      have hrw : a[k].row = (b[k]'(by omega)).row := by
        rw [Bool.not_eq_false', beq_iff_eq] at h2
        exact (rowsCmp_zero _ _).1 h2
      have hv : ∀ x y : Ent, x.row = y.row → x.cnt = y.cnt → x = y := fun x y h3 h4 => by
        cases x; cases y
        simp only at h3 h4
        rw [h3, h4]
      conv => whnf
      refine ⟨m - 1, by omega, Gp.keep rfl ?_ fun ρ1 h => ⟨k + 1, by omega, take_more ht hx hy (hv _ _ hrw hc), rfl, h⟩⟩
      exact ⟨rfl, rfl, intEq (wrapI ((k : Int) + 1) (by omega) (by omega)), trivial⟩
  · simp [eC_length] at hlt
    have : a = b := by
      rw [List.take_of_length_le (by omega), List.take_of_length_le (by omega)] at ht
      exact ht
    conv => whnf
    exact pubB (eqD_true this).symm

end Go.AW

namespace Go.AW
def grpA (c : Ent) : List Ent → List Ent
  | [] => [c]
  | e :: l => if rowsCmp c.row e.row = 0 then grpA ⟨c.row, c.cnt + e.cnt⟩ l else c :: grpA e l

def grpL : List Ent → List Ent
  | [] => []
  | e :: l => grpA e l

def Asc (l : List Ent) : Prop := l.Pairwise fun x y => rowsCmp x.row y.row ≤ 0

theorem cntL_grpA : ∀ (l : List Ent) (c : Ent) (r : List V), cntL (grpA c l) r = cntL (c :: l) r
  | [], c, r => rfl
  | e :: l, c, r => by
    rw [grpA]
    split
    · rename_i h
      have hr : c.row = e.row := (rowsCmp_zero _ _).1 h
      rw [cntL_grpA l, cntL, cntL, cntL]
      simp only [hr]
      split <;> omega
    · rw [cntL, cntL_grpA l e r, cntL]; rfl

theorem cntL_grpL (l : List Ent) (r : List V) : cntL (grpL l) r = cntL l r := by
  cases l with
  | nil => rfl
  | cons e l => exact cntL_grpA l e r

theorem grpA_ge : ∀ (l : List Ent) (c : Ent) (x : List V), rowsCmp x c.row < 0 → (∀ e ∈ l, rowsCmp x e.row < 0) → ∀ e ∈ grpA c l, rowsCmp x e.row < 0
  | [], c, x, h, _, e, he => by rw [grpA] at he; rw [List.mem_singleton.1 he]; exact h
  | f :: l, c, x, h, hl, e, he => by
    rw [grpA] at he
    split at he
    · exact grpA_ge l ⟨c.row, c.cnt + f.cnt⟩ x h (fun e he => hl e (List.mem_cons_of_mem _ he)) e he
    · rcases List.mem_cons.1 he with rfl | he
      · exact h
      · exact grpA_ge l f x (hl f (List.mem_cons_self ..)) (fun e he => hl e (List.mem_cons_of_mem _ he)) e he

theorem asc_tail {c e : Ent} {l : List Ent} (h : Asc (c :: e :: l)) : Asc (c :: l) :=
  List.pairwise_cons.2 ⟨fun x hx => (List.pairwise_cons.1 h).1 x (List.mem_cons_of_mem _ hx), (List.pairwise_cons.1 (List.pairwise_cons.1 h).2).2⟩

theorem srt_grpA : ∀ (l : List Ent) (c : Ent), Asc (c :: l) → Srt (grpA c l)
  | [], c, _ => by rw [grpA]; exact List.pairwise_singleton _ _
  | e :: l, c, h => by
    rw [grpA]
    split
    · refine srt_grpA l ⟨c.row, c.cnt + e.cnt⟩ ?_
      have := asc_tail h
      exact List.pairwise_cons.2 ⟨fun x hx => (List.pairwise_cons.1 this).1 x hx, (List.pairwise_cons.1 this).2⟩
    · rename_i hne
      have h1 := (List.pairwise_cons.1 h).1
      have h2 := (List.pairwise_cons.1 h).2
      have hce : rowsCmp c.row e.row < 0 := by have := h1 e (List.mem_cons_self ..); omega
      refine List.pairwise_cons.2 ⟨grpA_ge l e c.row hce fun x hx => ?_, srt_grpA l e h2⟩
      have h3 := (List.pairwise_cons.1 h2).1 x hx
      have h4 := h1 x (List.mem_cons_of_mem _ hx)
      have h5 := rowsCmp_vals c.row x.row
      by_cases hz : rowsCmp c.row x.row = 0
      · have hr := (rowsCmp_zero _ _).1 hz
        rw [← hr, rowsCmp_anti] at h3
        omega
      · omega

theorem cntF_nz : ∀ (l : List Ent) (r : List V), cntL (l.filter nzB) r = cntL l r
  | [], _ => rfl
  | e :: l, r => by
    rw [List.filter_cons]
    split
    · rw [cntL, cntL, cntF_nz l r]
    · rename_i h
      have hz : e.cnt = 0 := by simpa [nzB] using h
      rw [cntF_nz l r, cntL, hz]
      split <;> omega

theorem small_nz (l : List Ent) : (l.all fun e => smallB e.cnt) = ((l.filter nzB).all fun e => smallB e.cnt) := by
  rw [Bool.eq_iff_iff, List.all_eq_true, List.all_eq_true]
  constructor
  · exact fun h e he => h e (List.mem_filter.1 he).1
  · intro h e he
    by_cases hz : e.cnt = 0
    · rw [hz]; decide
    · exact h e (List.mem_filter.2 ⟨he, by simpa [nzB] using hz⟩)

theorem resR_ext {a b : List Ent} (ha : Srt a) (hb : Srt b) (h : ∀ r, cntL a r = cntL b r) : resR a = resR b := by
  have e : a.filter nzB = b.filter nzB := bag_ext _ _ (ha.filter _) (hb.filter _) (fun e he => by have := (List.mem_filter.1 he).2; simpa [nzB] using this) (fun e he => by have := (List.mem_filter.1 he).2; simpa [nzB] using this) fun r => by rw [cntF_nz, cntF_nz, h r]
  rw [resR, resR, small_nz a, small_nz b, e]

end Go.AW

namespace Go.AW
attribute [local irreducible] ACalls
def srtM : Nat → List Ent → List Ent
  | 0, l => l
  | n + 1, l => if l.length < 2 then l else mrg (srtM n (l.take (l.length / 2))) (srtM n (l.drop (l.length / 2)))

theorem cntL_srtM : ∀ (n : Nat) (l : List Ent) (r : List V), cntL (srtM n l) r = cntL l r
  | 0, _, _ => rfl
  | n + 1, l, r => by
    rw [srtM]
    split
    · rfl
    · rw [cntL_mrg, cntL_srtM n, cntL_srtM n, ← cntL_append, List.take_append_drop]

theorem srt_short {l : List Ent} (h : l.length < 2) : Srt l := by
  match l, h with
  | [], _ => exact List.Pairwise.nil
  | [x], _ => exact List.pairwise_singleton _ _

theorem srt_srtM : ∀ (n : Nat) (l : List Ent), l.length ≤ n + 1 → Srt (srtM n l)
  | 0, l, h => by rw [srtM]; exact srt_short (by omega)
  | n + 1, l, h => by
    rw [srtM]
    split
    · exact srt_short (by assumption)
    · exact srt_mrg _ _ (srt_srtM n _ (by rw [List.length_take]; omega)) (srt_srtM n _ (by rw [List.length_drop]; omega))

end Go.AW

namespace Go.AW
attribute [local irreducible] ACalls
def EntB (B : Int) (e : Ent) : Prop := e.row.length ≤ 12 ∧ -B ≤ e.cnt ∧ e.cnt ≤ B

set_option maxRecDepth 20000 in
theorem ref6_mergeB_raw {P : Program} (F : F_warehouseref6_merge P) {B : Int} (hB0 : B ≤ 4000000000000) (e1 e2 : Bool) (a b : List Ent) (ha : a.length ≤ 100000) (hb : b.length ≤ 100000) (hA : ∀ e ∈ a, EntB B e) (hB : ∀ e ∈ b, EntB B e) :
    ACalls P F.id [.list e1 2 (eC a), .list e2 2 (eC b)] [] (fun r H' => r = .sl 0 (mrg a b).length 0 (mrg a b).length ∧ H' = [.arr 2 (eC (mrg a b))]) := by
  refine acalls_of_body F.has ?_
  conv => whnf
  refine ⟨fun m ρ H => ∃ (a' b' pre : List Ent) (f1 f2 : Bool), m = a'.length + b'.length ∧ mrg a b = pre ++ mrg a' b' ∧
      pre.length + a'.length + b'.length ≤ a.length + b.length ∧ (∀ e ∈ a', EntB B e) ∧ (∀ e ∈ b', EntB B e) ∧ H = [.arr 2 (eC pre)] ∧
      Sv 74 [(0, .list f1 2 (eC a')), (1, .list f2 2 (eC b')), (5, .sl 0 pre.length 0 pre.length)] ρ, a.length + b.length, [(5, 2)], ?_, ?_⟩
  · exact ⟨a, b, [], e1, e2, rfl, rfl, by simp, hA, hB, by rfl, Sv.intro rfl ⟨rfl, rfl, rfl, trivial⟩⟩
  rintro m ρ H ⟨a', b', pre, f1, f2, hm, hM, hlen, hA', hB', rfl, d, rfl⟩
  (conv => whnf); refine recA (fun hz => ?_) (fun hz => ?_)
  · replace hz : decide (((eC a').length : Int) > 0) = true := hz
    rw [eC_length] at hz
    have hzl : a'.length ≠ 0 := by simp at hz; omega
    obtain ⟨x, hx, hxd, hxm⟩ := get_drop (l := a') (k := 0) (by omega)
    obtain ⟨kx1, kx2, kx3⟩ := hA' x hxm
    rw [List.drop_zero] at hxd
    (conv => whnf); refine recF (by rw [eC_length]; simpa using hzl) ?_
    (conv => whnf); refine recA (fun hw => ?_) (fun hw => ?_)
    · replace hw : decide (((eC b').length : Int) > 0) = true := hw
      rw [eC_length] at hw
      have hwl : b'.length ≠ 0 := by simp at hw; omega
      obtain ⟨y, hy, hyd, hym⟩ := get_drop (l := b') (k := 0) (by omega)
      obtain ⟨ky1, ky2, ky3⟩ := hB' y hym
      rw [List.drop_zero] at hyd
      (conv => whnf); refine And.intro (by decide) ?_
      (conv => whnf); refine recO (eC_at hx) ?_
      (conv => whnf); refine And.intro (by decide) ?_
      (conv => whnf); refine recO (eC_at hy) ?_
      conv => whnf
      refine ⟨_, ref1_CompareRows_spec F.warehouseref1_CompareRows false false x.row y.row (by omega) _, ?_⟩
      (conv => whnf); refine recA (fun hc => ?_) (fun hc => ?_)
      · replace hc : decide (rowsCmp x.row y.row < 0) = true := hc
        simp at hc
        (conv => whnf); refine And.intro (by decide) ?_
        (conv => whnf); refine recO (eC_at hx) ?_
        have hN : mrg a b = (pre ++ [⟨x.row, x.cnt⟩]) ++ mrg (a'.drop 1) (b') := by
          rw [hM, mrgA hxd (.inr ⟨_, _, hyd, hc⟩), List.append_assoc]; rfl
        have hlN : pre.length + 1 + (a'.drop 1).length + (b').length ≤ a.length + b.length := by simp [List.length_drop]; omega
        have hmN : (a'.drop 1).length + (b').length < m := by simp [List.length_drop]; omega
        have hAN : ∀ e ∈ (a'.drop 1), EntB B e := fun e h => hA' e (by first | exact h | exact List.mem_of_mem_drop h)
        have hBN : ∀ e ∈ (b'), EntB B e := fun e h => hB' e (by first | exact h | exact List.mem_of_mem_drop h)
        have hFl : (eC pre ++ [entC ⟨x.row, x.cnt⟩]).length = (pre ++ [(⟨x.row, x.cnt⟩ : Ent)]).length := by simp [eC_length]
        (conv => whnf); refine recT (by rw [eC_length]; exact Nat.beq_refl _) ?_
        (conv => whnf); refine And.intro ⟨roomMul (by simp; omega) (by omega), roomB_le (by simp; omega), rfl, by rw [eC_length]⟩ ?_
        (conv => whnf); refine And.intro ⟨by omega, by rw [eC_length]; omega⟩ ?_
        (conv => whnf); refine And.intro (by (conv => whnf); exact ⟨⟨by omega, by rw [eC_length]; omega⟩, rfl⟩) ?_
        conv => whnf
        refine ⟨(a'.drop 1).length + (b').length, hmN, Gp.one 0 2 (eC (pre ++ [⟨x.row, x.cnt⟩])) (by rw [eC_append]; rfl) (pureEs_eC _) rfl ?_ fun ρ1 h => ⟨a'.drop 1, b', pre ++ [⟨x.row, x.cnt⟩], (f1 && (none : Option AOpd).isNone), f2, rfl, hN, by simpa using hlN, hAN, hBN, rfl, h⟩⟩
        exact ⟨pubL (tailE a'), .closed _ rfl, pubSl (k := 0) rfl rfl hFl hFl, trivial⟩
      · replace hc : decide (rowsCmp x.row y.row < 0) = false := hc
        simp at hc
        (conv => whnf); refine recA (fun hg => ?_) (fun hg => ?_)
        · replace hg : decide (rowsCmp x.row y.row > 0) = true := hg
          simp at hg
          (conv => whnf); refine And.intro (by decide) ?_
          (conv => whnf); refine recO (eC_at hy) ?_
          have hN : mrg a b = (pre ++ [⟨y.row, y.cnt⟩]) ++ mrg (a') (b'.drop 1) := by
            rw [hM, mrgB hyd (.inr ⟨_, _, hxd, hg⟩), List.append_assoc]; rfl
          have hlN : pre.length + 1 + (a').length + (b'.drop 1).length ≤ a.length + b.length := by simp [List.length_drop]; omega
          have hmN : (a').length + (b'.drop 1).length < m := by simp [List.length_drop]; omega
          have hAN : ∀ e ∈ (a'), EntB B e := fun e h => hA' e (by first | exact h | exact List.mem_of_mem_drop h)
          have hBN : ∀ e ∈ (b'.drop 1), EntB B e := fun e h => hB' e (by first | exact h | exact List.mem_of_mem_drop h)
          have hFl : (eC pre ++ [entC ⟨y.row, y.cnt⟩]).length = (pre ++ [(⟨y.row, y.cnt⟩ : Ent)]).length := by simp [eC_length]
          (conv => whnf); refine recT (by rw [eC_length]; exact Nat.beq_refl _) ?_
          (conv => whnf); refine And.intro ⟨roomMul (by simp; omega) (by omega), roomB_le (by simp; omega), rfl, by rw [eC_length]⟩ ?_
          (conv => whnf); refine And.intro ⟨by omega, by rw [eC_length]; omega⟩ ?_
          (conv => whnf); refine And.intro (by (conv => whnf); exact ⟨⟨by omega, by rw [eC_length]; omega⟩, rfl⟩) ?_
          conv => whnf
          refine ⟨(a').length + (b'.drop 1).length, hmN, Gp.one 0 2 (eC (pre ++ [⟨y.row, y.cnt⟩])) (by rw [eC_append]; rfl) (pureEs_eC _) rfl ?_ fun ρ1 h => ⟨a', b'.drop 1, pre ++ [⟨y.row, y.cnt⟩], f1, (f2 && (none : Option AOpd).isNone), rfl, hN, by simpa using hlN, hAN, hBN, rfl, h⟩⟩
          exact ⟨.closed _ rfl, pubL (tailE b'), pubSl (k := 0) rfl rfl hFl hFl, trivial⟩
        · replace hg : decide (rowsCmp x.row y.row > 0) = false := hg
          simp at hg
          (conv => whnf); refine And.intro (by decide) ?_
          (conv => whnf); refine recO (eC_at hx) ?_
          (conv => whnf); refine And.intro (by decide) ?_
          (conv => whnf); refine recO (eC_at hx) ?_
          (conv => whnf); refine And.intro (by decide) ?_
          (conv => whnf); refine recO (eC_at hy) ?_
          have em2 : IntKind.i64.wrap (x.cnt + y.cnt) = x.cnt + y.cnt := wrapI _ (by omega) (by omega)
          have hN : mrg a b = (pre ++ [⟨x.row, IntKind.i64.wrap (x.cnt + y.cnt)⟩]) ++ mrg (a'.drop 1) (b'.drop 1) := by
            rw [hM, em2, mrgC hxd hyd (by omega), List.append_assoc]; rfl
          have hlN : pre.length + 1 + (a'.drop 1).length + (b'.drop 1).length ≤ a.length + b.length := by simp [List.length_drop]; omega
          have hmN : (a'.drop 1).length + (b'.drop 1).length < m := by simp [List.length_drop]; omega
          have hAN : ∀ e ∈ (a'.drop 1), EntB B e := fun e h => hA' e (by first | exact h | exact List.mem_of_mem_drop h)
          have hBN : ∀ e ∈ (b'.drop 1), EntB B e := fun e h => hB' e (by first | exact h | exact List.mem_of_mem_drop h)
          have hFl : (eC pre ++ [entC ⟨x.row, IntKind.i64.wrap (x.cnt + y.cnt)⟩]).length = (pre ++ [(⟨x.row, IntKind.i64.wrap (x.cnt + y.cnt)⟩ : Ent)]).length := by simp [eC_length]
          (conv => whnf); refine recT (by rw [eC_length]; exact Nat.beq_refl _) ?_
          (conv => whnf); refine And.intro ⟨roomMul (by simp; omega) (by omega), roomB_le (by simp; omega), rfl, by rw [eC_length]⟩ ?_
          (conv => whnf); refine And.intro ⟨by omega, by rw [eC_length]; omega⟩ ?_
          (conv => whnf); refine And.intro ⟨by omega, by rw [eC_length]; omega⟩ ?_
          conv => whnf
          refine ⟨(a'.drop 1).length + (b'.drop 1).length, hmN, Gp.one 0 2 (eC (pre ++ [⟨x.row, IntKind.i64.wrap (x.cnt + y.cnt)⟩])) (by rw [eC_append]; rfl) (pureEs_eC _) rfl ?_ fun ρ1 h => ⟨a'.drop 1, b'.drop 1, pre ++ [⟨x.row, IntKind.i64.wrap (x.cnt + y.cnt)⟩], (f1 && (none : Option AOpd).isNone), (f2 && (none : Option AOpd).isNone), rfl, hN, by simpa using hlN, hAN, hBN, rfl, h⟩⟩
          exact ⟨pubL (tailE a'), pubL (tailE b'), pubSl (k := 0) rfl rfl hFl hFl, trivial⟩
    · replace hw : decide (((eC b').length : Int) > 0) = false := hw
      rw [eC_length] at hw
      have hwn : b' = [] := by simp at hw; exact hw
      have hwl : b'.length = 0 := by rw [hwn]; rfl
      (conv => whnf); refine And.intro (by decide) ?_
      (conv => whnf); refine recO (eC_at hx) ?_
      have hN : mrg a b = (pre ++ [⟨x.row, x.cnt⟩]) ++ mrg (a'.drop 1) (b') := by
        rw [hM, mrgA hxd (.inl hwn), List.append_assoc]; rfl
      have hlN : pre.length + 1 + (a'.drop 1).length + (b').length ≤ a.length + b.length := by simp [List.length_drop]; omega
      have hmN : (a'.drop 1).length + (b').length < m := by simp [List.length_drop]; omega
      have hAN : ∀ e ∈ (a'.drop 1), EntB B e := fun e h => hA' e (by first | exact h | exact List.mem_of_mem_drop h)
      have hBN : ∀ e ∈ (b'), EntB B e := fun e h => hB' e (by first | exact h | exact List.mem_of_mem_drop h)
      have hFl : (eC pre ++ [entC ⟨x.row, x.cnt⟩]).length = (pre ++ [(⟨x.row, x.cnt⟩ : Ent)]).length := by simp [eC_length]
      (conv => whnf); refine recT (by rw [eC_length]; exact Nat.beq_refl _) ?_
      (conv => whnf); refine And.intro ⟨roomMul (by simp; omega) (by omega), roomB_le (by simp; omega), rfl, by rw [eC_length]⟩ ?_
      (conv => whnf); refine And.intro ⟨by omega, by rw [eC_length]; omega⟩ ?_
      (conv => whnf); refine And.intro (by (conv => whnf); exact ⟨⟨by omega, by rw [eC_length]; omega⟩, rfl⟩) ?_
      conv => whnf
      refine ⟨(a'.drop 1).length + (b').length, hmN, Gp.one 0 2 (eC (pre ++ [⟨x.row, x.cnt⟩])) (by rw [eC_append]; rfl) (pureEs_eC _) rfl ?_ fun ρ1 h => ⟨a'.drop 1, b', pre ++ [⟨x.row, x.cnt⟩], (f1 && (none : Option AOpd).isNone), f2, rfl, hN, by simpa using hlN, hAN, hBN, rfl, h⟩⟩
      exact ⟨pubL (tailE a'), .closed _ rfl, pubSl (k := 0) rfl rfl hFl hFl, trivial⟩
  · replace hz : decide (((eC a').length : Int) > 0) = false := hz
    rw [eC_length] at hz
    have hzn : a' = [] := by simp at hz; exact hz
    have hzl : a'.length = 0 := by rw [hzn]; rfl
    (conv => whnf); refine recA (fun hw => ?_) (fun hw => ?_)
    · replace hw : decide (((eC b').length : Int) > 0) = true := hw
      rw [eC_length] at hw
      have hwl : b'.length ≠ 0 := by simp at hw; omega
      obtain ⟨y, hy, hyd, hym⟩ := get_drop (l := b') (k := 0) (by omega)
      obtain ⟨ky1, ky2, ky3⟩ := hB' y hym
      rw [List.drop_zero] at hyd
      (conv => whnf); refine recT (by rw [eC_length]; simpa using hzl) ?_
      (conv => whnf); refine And.intro (by decide) ?_
      (conv => whnf); refine recO (eC_at hy) ?_
      have hN : mrg a b = (pre ++ [⟨y.row, y.cnt⟩]) ++ mrg (a') (b'.drop 1) := by
        rw [hM, mrgB hyd (.inl hzn), List.append_assoc]; rfl
      have hlN : pre.length + 1 + (a').length + (b'.drop 1).length ≤ a.length + b.length := by simp [List.length_drop]; omega
      have hmN : (a').length + (b'.drop 1).length < m := by simp [List.length_drop]; omega
      have hAN : ∀ e ∈ (a'), EntB B e := fun e h => hA' e (by first | exact h | exact List.mem_of_mem_drop h)
      have hBN : ∀ e ∈ (b'.drop 1), EntB B e := fun e h => hB' e (by first | exact h | exact List.mem_of_mem_drop h)
      have hFl : (eC pre ++ [entC ⟨y.row, y.cnt⟩]).length = (pre ++ [(⟨y.row, y.cnt⟩ : Ent)]).length := by simp [eC_length]
      (conv => whnf); refine recT (by rw [eC_length]; exact Nat.beq_refl _) ?_
      (conv => whnf); refine And.intro ⟨roomMul (by simp; omega) (by omega), roomB_le (by simp; omega), rfl, by rw [eC_length]⟩ ?_
      (conv => whnf); refine And.intro ⟨by omega, by rw [eC_length]; omega⟩ ?_
      (conv => whnf); refine And.intro (by (conv => whnf); exact ⟨⟨by omega, by rw [eC_length]; omega⟩, rfl⟩) ?_
      conv => whnf
      refine ⟨(a').length + (b'.drop 1).length, hmN, Gp.one 0 2 (eC (pre ++ [⟨y.row, y.cnt⟩])) (by rw [eC_append]; rfl) (pureEs_eC _) rfl ?_ fun ρ1 h => ⟨a', b'.drop 1, pre ++ [⟨y.row, y.cnt⟩], f1, (f2 && (none : Option AOpd).isNone), rfl, hN, by simpa using hlN, hAN, hBN, rfl, h⟩⟩
      exact ⟨.closed _ rfl, pubL (tailE b'), pubSl (k := 0) rfl rfl hFl hFl, trivial⟩
    · replace hw : decide (((eC b').length : Int) > 0) = false := hw
      rw [eC_length] at hw
      have hwn : b' = [] := by simp at hw; exact hw
      have hMM : mrg a b = pre := by rw [hM, hzn, hwn, mrg_nil]; simp
      conv => whnf
      rw [hMM]
      exact ⟨rfl, rfl⟩

theorem ref6_mergeB_spec {P : Program} (F : F_warehouseref6_merge P) {B : Int} (hB0 : B ≤ 4000000000000) (e1 e2 : Bool) (a b : List Ent) (ha : a.length ≤ 100000) (hb : b.length ≤ 100000) (hA : ∀ e ∈ a, EntB B e) (hB : ∀ e ∈ b, EntB B e) (H : List AObj) :
    ACalls P F.id [.list e1 2 (eC a), .list e2 2 (eC b)] H (fun r H' => r = .list false 2 (eC (mrg a b)) ∧ H' = H) :=
  ACalls.frz1 (by simp [AVal.closed, AVal.isPure]) (ref6_mergeB_raw F hB0 e1 e2 a b ha hb hA hB) (eC_length _).symm (pureEs_eC _)

end Go.AW

namespace Go.AW
attribute [local irreducible] ACalls
def SortE (P : Program) (f g : FuncId) : Prop :=
  ∀ (l : List Ent), l ≠ [] → l.length ≤ 1000000 → (∀ e ∈ l, e.row.length ≤ 1000) → ∀ (H : List AObj) (i0 : Nat), H[i0]? = some (.arr 2 (eC l)) →
    ACalls P f [.sl i0 l.length 0 l.length, .fn g []] H (fun r H' => r = .tuple [] ∧ ∃ s : List Ent, s.Perm l ∧ Asc s ∧ H' = H.set i0 (.arr 2 (eC s)))

theorem bag_sum_1_spec {P : Program} (F : F_bag_sum_1 P) (x y : Ent) (hx : x.row.length ≤ 1000000) (H : List AObj) :
    ACalls P F.id [.agg (entC x), .agg (entC y)] H (fun r H' => r = .int .i64 (rowsCmp x.row y.row) ∧ H' = H) := by
  refine ACalls.pure rfl (acalls_of_body F.has ?_)
  (conv => whnf); refine ACalls.use (value_CompareRows_spec F.value_CompareRows false false x.row y.row hx _) ?_
  conv => whnf
  exact .closed _ rfl

set_option maxRecDepth 20000 in
theorem put1_spec {P : Program} (F : F_bag_put P) (o : AObj) (ex : Bool) (O : List Ent) (hO : O.length ≤ 100000) (row : List V) (hr : row.length ≤ 1000) (c : Int) :
    ACalls P F.id [.sl 1 O.length 0 O.length, .list ex 3 (vC row), .int .i64 c] [o, .arr 2 (eC O)]
      (fun r H' => (smallB c = false ∧ r = .tuple [.nil, .bool false] ∧ H' = [o, .arr 2 (eC O)]) ∨ (smallB c = true ∧ c = 0 ∧ r = .tuple [.sl 1 O.length 0 O.length, .bool true] ∧ H' = [o, .arr 2 (eC O)]) ∨
        (smallB c = true ∧ c ≠ 0 ∧ r = .tuple [.sl 1 (O.length + 1) 0 (O.length + 1), .bool true] ∧ H' = [o, .arr 2 (eC (O ++ [⟨row, c⟩]))])) := by
  refine acalls_of_body F.has ?_
  (conv => whnf); refine recA (fun h => ?_) (fun h => ?_)
  · simp at h
    conv => whnf
    exact .inl ⟨by rw [smallB]; simp; omega, rfl, rfl⟩
  simp at h
  (conv => whnf); refine recA (fun h2 => ?_) (fun h2 => ?_)
  · simp at h2
    conv => whnf
    exact .inl ⟨by rw [smallB]; simp; omega, rfl, rfl⟩
  simp at h2
  have hs : smallB c = true := by simp [smallB]; omega
  (conv => whnf); refine recA (fun hz => ?_) (fun hz => ?_)
  · replace hz : (!(c == 0)) = true := hz
    simp at hz
    conv => whnf
    refine ACalls.use (CloneV_spec F.slices_Clone_LValue_Value ex row (by omega) _) ?_
    (conv => whnf); refine recT (by rw [eC_length]; exact Nat.beq_refl _) ?_
    (conv => whnf); refine And.intro (⟨roomMul (by simp; omega) (by omega), roomB_le (by simp; omega), rfl, by rw [eC_length]⟩) ?_
    conv => whnf
    have hl : (eC O ++ [[AVal.list false 3 (vC row), .int .i64 c]]).length = O.length + 1 := by rw [List.length_append, eC_length]; rfl
    refine .inr (.inr ⟨hs, hz, ?_, ?_⟩)
    · exact congrArg (fun n => AVal.tuple [.sl 1 n 0 n, .bool true]) hl
    · rw [eC_append]; rfl
  · replace hz : (!(c == 0)) = false := hz
    simp at hz
    conv => whnf
    exact .inr (.inl ⟨hs, hz, rfl, rfl⟩)

set_option maxRecDepth 20000 in
theorem done1_spec {P : Program} (F : F_bag_done P) (o : AObj) (O : List Ent) :
    ACalls P F.id [.sl 1 O.length 0 O.length] [o, .arr 2 (eC O)]
      (fun r H' => H' = [o, .arr 2 (eC O)] ∧ ((4096 < O.length ∧ r = .tuple [.nil, .int .i64 2]) ∨ (O.length ≤ 4096 ∧ r = .tuple [.sl 1 O.length 0 O.length, .int .i64 0]))) := by
  refine acalls_of_body F.has ?_
  (conv => whnf); refine recT (by rw [eC_length]; exact Nat.beq_refl _) ?_
  (conv => whnf); refine recA (fun h => ?_) (fun h => ?_)
  · simp at h
    conv => whnf
    exact ⟨rfl, .inl ⟨by omega, rfl⟩⟩
  · simp at h
    conv => whnf
    exact ⟨rfl, .inr ⟨by omega, rfl⟩⟩

theorem eC_at0 {l : List Ent} {k : Nat} {x : Ent} (h : l[k]? = some x) : (eC l)[0 + k]? = some (entC x) := by rw [Nat.zero_add]; exact eC_at h

theorem grpL_drop {S : List Ent} {i : Nat} {x : Ent} (h : S[i]? = some x) : grpL (S.drop i) = grpA x (S.drop (i + 1)) := by
  obtain ⟨hi, rfl⟩ := List.getElem?_eq_some_iff.1 h
  rw [List.drop_eq_getElem_cons hi]; rfl

theorem grpA_end {S : List Ent} {k : Nat} {c : Ent} (h : S.length ≤ k ∨ ∃ y, S[k]? = some y ∧ rowsCmp c.row y.row ≠ 0) : grpA c (S.drop k) = c :: grpL (S.drop k) := by
  rcases h with h | ⟨y, hy, hn⟩
  · rw [List.drop_of_length_le h]; rfl
  · obtain ⟨hk, rfl⟩ := List.getElem?_eq_some_iff.1 hy
    rw [List.drop_eq_getElem_cons hk, grpA, if_neg hn]; rfl

theorem grpA_step {S : List Ent} {k : Nat} {c y : Ent} (hy : S[k]? = some y) (h : rowsCmp c.row y.row = 0) : grpA c (S.drop k) = grpA ⟨c.row, c.cnt + y.cnt⟩ (S.drop (k + 1)) := by
  obtain ⟨hk, rfl⟩ := List.getElem?_eq_some_iff.1 hy
  rw [List.drop_eq_getElem_cons hk, grpA, if_pos h]

theorem cntL_perm {a b : List Ent} (h : a.Perm b) : ∀ r, cntL a r = cntL b r := by
  induction h with
  | nil => intro r; rfl
  | cons x _ ih => intro r; rw [cntL, cntL, ih]
  | swap x y l => intro r; rw [cntL, cntL, cntL, cntL]; split <;> split <;> omega
  | trans _ _ h1 h2 => intro r; rw [h1, h2]

theorem SortE.all {P : Program} {F : F_slices_SortFunc_LEntry_Entry P} {g : FuncId} (hS : SortE P F.id g) (l : List Ent) (hl : l.length ≤ 1000000) (hr : ∀ e ∈ l, e.row.length ≤ 1000) (H : List AObj) (i0 : Nat) (ho : H[i0]? = some (.arr 2 (eC l))) :
    ACalls P F.id [.sl i0 l.length 0 l.length, .fn g []] H (fun r H' => r = .tuple [] ∧ ∃ s : List Ent, s.Perm l ∧ Asc s ∧ H' = H.set i0 (.arr 2 (eC s))) := by
  cases l with
  | nil =>
    refine (sort0_spec F i0 g H ho).mono ?_
    rintro r H' ⟨rfl, rfl⟩
    refine ⟨rfl, [], List.Perm.refl _, List.Pairwise.nil, ?_⟩
    obtain ⟨h, e⟩ := List.getElem?_eq_some_iff.1 ho
    rw [← e, List.set_getElem_self]
  | cons x l => exact hS (x :: l) (by simp) hl hr H i0 ho

def sumI (S : List Ent) (n : Nat) (m : Nat) (ρ : List AVal) (H : List AObj) : Prop :=
  (∃ (i : Nat) (pre : List Ent), i + m = n ∧ grpL S = pre ++ grpL (S.drop i) ∧ (pre.all fun e => smallB e.cnt) = true ∧ pre.length ≤ i ∧ H = [.arr 2 (eC S), .arr 2 (eC (pre.filter nzB))] ∧
    Sv 66 [(0, .sl 0 n 0 n), (4, .sl 1 (pre.filter nzB).length 0 (pre.filter nzB).length), (5, .bool true), (6, .int .i64 i)] ρ) ∨
  (∃ i : Nat, ((grpL S).all fun e => smallB e.cnt) = false ∧ i ≤ n ∧ H = [.arr 2 (eC S)] ∧ Sv 66 [(0, .sl 0 n 0 n), (4, .nil), (5, .bool false), (6, .int .i64 i)] ρ)

set_option maxHeartbeats 2000000 in
set_option maxRecDepth 20000 in
theorem bag_sum_spec {P : Program} (F : F_bag_sum P) (hS : SortE P F.slices_SortFunc_LEntry_Entry.id F.bag_sum_1.id) (ex : Bool) (l : List Ent) (hl : l.length ≤ 100000) (hE : ∀ e ∈ l, EntOk e) (H : List AObj) :
    ACalls P F.id [.list ex 2 (eC l)] H (fun r H' => r = resR (srtM l.length l) ∧ H' = H) := by
  have hN : ∀ S : List Ent, S.Perm l → Asc S → resR (srtM l.length l) = resR (grpL S) ∧ (∀ e ∈ S, EntOk e) ∧ S.length = l.length := fun S hp hs =>
    ⟨resR_ext (srt_srtM _ _ (by omega)) (by cases S with | nil => exact List.Pairwise.nil | cons x S => exact srt_grpA S x hs) fun r => by rw [cntL_srtM, cntL_grpL, cntL_perm hp], fun e h => hE e (hp.mem_iff.1 h), hp.length_eq⟩
  refine ACalls.pure (by simp [AVal.closed, AVal.isPure]) (acalls_of_body F.has ?_)
  (conv => whnf); refine ACalls.mono (CloneE_raw F.slices_Clone_LEntry_Entry ex l (by omega)) ?_
  rintro r H1 (⟨rfl, h0, rfl⟩ | ⟨rfl, rfl⟩)
  · subst h0
    (conv => whnf); refine ACalls.use (sort0n_spec F.slices_SortFunc_LEntry_Entry _ _) ?_
    conv => whnf
    refine ⟨fun m ρ H1 => H1 = [.arr 2 []] ∧ Sv 66 [(0, .nil), (4, .sl 0 0 0 0), (5, .bool true), (6, .int .i64 0)] ρ, 0, [(4, 2)], ?_, ?_⟩
    · exact ⟨rfl, Sv.intro rfl ⟨rfl, rfl, rfl, rfl, trivial⟩⟩
    rintro m ρ H1 ⟨rfl, d, rfl⟩
    conv => whnf
    refine (done_spec F.bag_done []).mono ?_
    rintro r H1 ⟨rfl, ⟨h, rfl⟩ | ⟨h, rfl⟩⟩
    · cases h
    · conv => whnf
      exact pub2 (pubF rfl rfl rfl rfl) (.closed _ rfl)
  · (conv => whnf); refine ACalls.mono (hS.all l (by omega) (fun e h => by have := (hE e h).1; omega) _ 0 rfl) ?_
    rintro r H1 ⟨rfl, S, hp, hs, rfl⟩
    obtain ⟨hR, hA, hSl⟩ := hN S hp hs
    replace hA : ∀ e ∈ S, EntOk e := hA
    clear hN hE
    have hl2 : S.length ≤ 100000 := by omega
    rw [hR, ← hSl]
    clear hR hSl hl
    conv => whnf
    refine ⟨sumI S S.length, S.length, [(4, 2)], ?_, ?_⟩
    · exact .inl ⟨0, [], by omega, rfl, rfl, Nat.le_refl _, rfl, Sv.intro rfl ⟨rfl, rfl, rfl, rfl, trivial⟩⟩
    rintro m ρ H1 (⟨i, pre, hm, hG, hP, hpl, rfl, d, rfl⟩ | ⟨i, hbad, hi, rfl, d, rfl⟩)
    · have hO : (pre.filter nzB).length ≤ pre.length := List.length_filter_le _ _
      (conv => whnf); refine recT (by rw [eC_length]; exact Nat.beq_refl _) ?_
      (conv => whnf); refine recA (fun hlt => ?_) (fun hlt => ?_)
      · simp at hlt
        obtain ⟨x, hx⟩ : ∃ x, S[i]? = some x := ⟨S[i], List.getElem?_eq_getElem hlt⟩
        obtain ⟨hx1, hx2, hx3⟩ := hA x (List.mem_of_getElem? hx)
        conv => whnf
        refine ⟨fun m1 ρ1 H2 => ∃ (k : Nat) (acc : Int), k + m1 = S.length ∧ ((k = i ∧ acc = 0) ∨ (i < k ∧ grpL (S.drop i) = grpA ⟨x.row, acc⟩ (S.drop k))) ∧ -(65536 * ((k : Int) - i)) ≤ acc ∧ acc ≤ 65536 * ((k : Int) - i) ∧
          H2 = [.arr 2 (eC S), .arr 2 (eC (pre.filter nzB))] ∧ Sv 66 [(0, .sl 0 S.length 0 S.length), (4, .sl 1 (pre.filter nzB).length 0 (pre.filter nzB).length), (6, .int .i64 i), (7, .int .i64 acc), (8, .int .i64 k)] ρ1, S.length - i, [], ?_, ?_⟩
        · exact ⟨i, 0, by omega, .inl ⟨rfl, rfl⟩, by omega, by omega, rfl, Sv.intro rfl ⟨rfl, rfl, rfl, rfl, rfl, trivial⟩⟩
        rintro m1 ρ1 H2 ⟨k, acc, hk, hc, hb1, hb2, rfl, d1, rfl⟩
        (conv => whnf); refine recT (by rw [eC_length]; exact Nat.beq_refl _) ?_
        (conv => whnf); refine recA (fun hkl => ?_) (fun hkl => ?_)
        · simp at hkl
          obtain ⟨y, hy⟩ : ∃ y, S[k]? = some y := ⟨S[k], List.getElem?_eq_getElem hkl⟩
          obtain ⟨hy1, hy2, hy3⟩ := hA y (List.mem_of_getElem? hy)
          (conv => whnf); refine recT (by rw [eC_length]; exact Nat.beq_refl _) ?_
          (conv => whnf); refine And.intro (by omega) ?_
          (conv => whnf); refine recT (by rw [eC_length]; exact Nat.beq_refl _) ?_
          (conv => whnf); refine recO (eC_at0 hx) ?_
          (conv => whnf); refine recT (by rw [eC_length]; exact Nat.beq_refl _) ?_
          (conv => whnf); refine And.intro (by omega) ?_
          (conv => whnf); refine recT (by rw [eC_length]; exact Nat.beq_refl _) ?_
          (conv => whnf); refine recO (eC_at0 hy) ?_
          (conv => whnf); refine ⟨_, value_CompareRows_spec F.value_CompareRows false false x.row y.row (by omega) _, ?_⟩
          (conv => whnf); refine recA (fun hc2 => ?_) (fun hc2 => ?_)
          · replace hc2 : (rowsCmp x.row y.row == 0) = true := hc2
            have hc3 : rowsCmp x.row y.row = 0 := by simpa using hc2
            (conv => whnf); refine recT (by rw [eC_length]; exact Nat.beq_refl _) ?_
            (conv => whnf); refine And.intro (by omega) ?_
            (conv => whnf); refine recT (by rw [eC_length]; exact Nat.beq_refl _) ?_
            (conv => whnf); refine recO (eC_at0 hy) ?_
            conv => whnf
            have ew := wrapI (acc + y.cnt) (by omega) (by omega)
            refine ⟨m1 - 1, by omega, Gp.two 0 1 (by decide) 2 2 (eC S) (eC (pre.filter nzB)) rfl rfl (pureEs_eC _) (pureEs_eC _) rfl ?_ fun ρ2 h => ⟨k + 1, acc + y.cnt, by omega, .inr ⟨by omega, ?_⟩, by omega, by omega, rfl, h⟩⟩
            · exact ⟨pubSl (k := 0) rfl rfl rfl rfl, pubSl (k := 1) rfl rfl rfl rfl, .closed _ rfl, pub_int ew, pub_int (wrapI _ (by omega) (by omega)), trivial⟩
            · rcases hc with ⟨h1, h2⟩ | ⟨h1, h2⟩
              · subst h1 h2
                rw [hx] at hy
                cases hy
                rw [grpL_drop hx, Int.zero_add]
              · exact h2.trans (grpA_step (c := ⟨x.row, acc⟩) hy hc3)
          · replace hc2 : (rowsCmp x.row y.row == 0) = false := hc2
            have hc3 : rowsCmp x.row y.row ≠ 0 := by simpa using hc2
            have hik : i < k ∧ grpL (S.drop i) = grpA ⟨x.row, acc⟩ (S.drop k) := by
              rcases hc with ⟨h1, h2⟩ | h
              · subst h1
                rw [hx] at hy
                cases hy
                exact absurd ((rowsCmp_zero _ _).2 rfl) hc3
              · exact h
            have hend := hik.2.trans (grpA_end (.inr ⟨y, hy, hc3⟩))
            conv => whnf
            have hN : grpL S = (pre ++ [⟨x.row, acc⟩]) ++ grpL (S.drop k) := by rw [hG, hend, List.append_assoc]; rfl
            (conv => whnf); refine recT (by rw [eC_length]; exact Nat.beq_refl _) ?_
            (conv => whnf); refine And.intro (by omega) ?_
            (conv => whnf); refine recT (by rw [eC_length]; exact Nat.beq_refl _) ?_
            (conv => whnf); refine recO (eC_at0 hx) ?_
            (conv => whnf); refine ACalls.mono (put1_spec F.bag_put (.arr 2 (eC S)) false (pre.filter nzB) (by omega) x.row (by omega) acc) ?_
            rintro r H1 (⟨hsm, rfl, rfl⟩ | ⟨hsm, hz0, rfl, rfl⟩ | ⟨hsm, hz0, rfl, rfl⟩)
            · conv => whnf
              refine ⟨m - 1, by omega, Gp.one 0 2 (eC S) rfl (pureEs_eC _) rfl ?_ fun ρ2 h => .inr ⟨k, by rw [hN]; simp [hsm], by omega, rfl, h⟩⟩
              exact ⟨pubSl (k := 0) rfl rfl rfl rfl, .closed _ rfl, .closed _ rfl, .closed _ rfl, trivial⟩
            · have hPN : ((pre ++ [(⟨x.row, acc⟩ : Ent)]).all fun e => smallB e.cnt) = true := by rw [List.all_append, hP]; simp [hsm]
              have hF : (pre ++ [(⟨x.row, acc⟩ : Ent)]).filter nzB = pre.filter nzB := by rw [List.filter_append]; simp [nzB, hz0]
              conv => whnf
              refine ⟨S.length - k, by omega, Gp.two 0 1 (by decide) 2 2 (eC S) (eC ((pre ++ [(⟨x.row, acc⟩ : Ent)]).filter nzB)) rfl (by rw [hF]; rfl) (pureEs_eC _) (pureEs_eC _) rfl ?_ fun ρ2 h => .inl ⟨k, pre ++ [⟨x.row, acc⟩], by omega, hN, hPN, by simp; omega, rfl, h⟩⟩
              exact ⟨pubSl (k := 0) rfl rfl rfl rfl, by rw [hF]; exact pubSl (k := 1) rfl rfl rfl rfl, .closed _ rfl, .closed _ rfl, trivial⟩
            · have hPN : ((pre ++ [(⟨x.row, acc⟩ : Ent)]).all fun e => smallB e.cnt) = true := by rw [List.all_append, hP]; simp [hsm]
              have hF : (pre ++ [(⟨x.row, acc⟩ : Ent)]).filter nzB = pre.filter nzB ++ [⟨x.row, acc⟩] := by rw [List.filter_append]; simp [nzB, hz0]
              have hFl : ((pre ++ [(⟨x.row, acc⟩ : Ent)]).filter nzB).length = (pre.filter nzB).length + 1 := by rw [hF, List.length_append]; rfl
              conv => whnf
              refine ⟨S.length - k, by omega, Gp.two 0 1 (by decide) 2 2 (eC S) (eC ((pre ++ [(⟨x.row, acc⟩ : Ent)]).filter nzB)) rfl (by rw [hF]; rfl) (pureEs_eC _) (pureEs_eC _) rfl ?_ fun ρ2 h => .inl ⟨k, pre ++ [⟨x.row, acc⟩], by omega, hN, hPN, by simp; omega, rfl, h⟩⟩
              exact ⟨pubSl (k := 0) rfl rfl rfl rfl, pubSl (k := 1) rfl rfl hFl.symm hFl.symm, .closed _ rfl, .closed _ rfl, trivial⟩
        · simp at hkl
          have hik : i < k ∧ grpL (S.drop i) = grpA ⟨x.row, acc⟩ (S.drop k) := by
            rcases hc with ⟨h1, h2⟩ | h
            · omega
            · exact h
          have hend := hik.2.trans (grpA_end (.inl hkl))
          conv => whnf
          have hN : grpL S = (pre ++ [⟨x.row, acc⟩]) ++ grpL (S.drop k) := by rw [hG, hend, List.append_assoc]; rfl
          (conv => whnf); refine recT (by rw [eC_length]; exact Nat.beq_refl _) ?_
          (conv => whnf); refine And.intro (by omega) ?_
          (conv => whnf); refine recT (by rw [eC_length]; exact Nat.beq_refl _) ?_
          (conv => whnf); refine recO (eC_at0 hx) ?_
          (conv => whnf); refine ACalls.mono (put1_spec F.bag_put (.arr 2 (eC S)) false (pre.filter nzB) (by omega) x.row (by omega) acc) ?_
          rintro r H1 (⟨hsm, rfl, rfl⟩ | ⟨hsm, hz0, rfl, rfl⟩ | ⟨hsm, hz0, rfl, rfl⟩)
          · conv => whnf
            refine ⟨m - 1, by omega, Gp.one 0 2 (eC S) rfl (pureEs_eC _) rfl ?_ fun ρ2 h => .inr ⟨k, by rw [hN]; simp [hsm], by omega, rfl, h⟩⟩
            exact ⟨pubSl (k := 0) rfl rfl rfl rfl, .closed _ rfl, .closed _ rfl, .closed _ rfl, trivial⟩
          · have hPN : ((pre ++ [(⟨x.row, acc⟩ : Ent)]).all fun e => smallB e.cnt) = true := by rw [List.all_append, hP]; simp [hsm]
            have hF : (pre ++ [(⟨x.row, acc⟩ : Ent)]).filter nzB = pre.filter nzB := by rw [List.filter_append]; simp [nzB, hz0]
            conv => whnf
            refine ⟨S.length - k, by omega, Gp.two 0 1 (by decide) 2 2 (eC S) (eC ((pre ++ [(⟨x.row, acc⟩ : Ent)]).filter nzB)) rfl (by rw [hF]; rfl) (pureEs_eC _) (pureEs_eC _) rfl ?_ fun ρ2 h => .inl ⟨k, pre ++ [⟨x.row, acc⟩], by omega, hN, hPN, by simp; omega, rfl, h⟩⟩
            exact ⟨pubSl (k := 0) rfl rfl rfl rfl, by rw [hF]; exact pubSl (k := 1) rfl rfl rfl rfl, .closed _ rfl, .closed _ rfl, trivial⟩
          · have hPN : ((pre ++ [(⟨x.row, acc⟩ : Ent)]).all fun e => smallB e.cnt) = true := by rw [List.all_append, hP]; simp [hsm]
            have hF : (pre ++ [(⟨x.row, acc⟩ : Ent)]).filter nzB = pre.filter nzB ++ [⟨x.row, acc⟩] := by rw [List.filter_append]; simp [nzB, hz0]
            have hFl : ((pre ++ [(⟨x.row, acc⟩ : Ent)]).filter nzB).length = (pre.filter nzB).length + 1 := by rw [hF, List.length_append]; rfl
            conv => whnf
            refine ⟨S.length - k, by omega, Gp.two 0 1 (by decide) 2 2 (eC S) (eC ((pre ++ [(⟨x.row, acc⟩ : Ent)]).filter nzB)) rfl (by rw [hF]; rfl) (pureEs_eC _) (pureEs_eC _) rfl ?_ fun ρ2 h => .inl ⟨k, pre ++ [⟨x.row, acc⟩], by omega, hN, hPN, by simp; omega, rfl, h⟩⟩
            exact ⟨pubSl (k := 0) rfl rfl rfl rfl, pubSl (k := 1) rfl rfl hFl.symm hFl.symm, .closed _ rfl, .closed _ rfl, trivial⟩
      · simp at hlt
        have hi : S.drop i = [] := List.drop_of_length_le hlt
        rw [hi] at hG
        have hGG : grpL S = pre := by rw [hG]; simp [grpL]
        conv => whnf
        refine (done1_spec F.bag_done _ (pre.filter nzB)).mono ?_
        rintro r H1 ⟨rfl, ⟨h, rfl⟩ | ⟨h, rfl⟩⟩
        · conv => whnf
          rw [hGG, resR, if_neg (by omega)]
          exact pub2 (.closed _ rfl) (.closed _ rfl)
        · conv => whnf
          rw [hGG, resR, if_pos ⟨hP, h⟩]
          exact pub2 (pubF rfl (eC_length _).symm (eC_length _).symm (pureEs_eC _)) (.closed _ rfl)
    · (conv => whnf); refine recT (by rw [eC_length]; exact Nat.beq_refl _) ?_
      (conv => whnf); refine recA (fun hlt => ?_) (fun hlt => ?_)
      all_goals
        conv => whnf
        rw [resR_bad _ hbad]
        exact pub2 (.closed _ rfl) (.closed _ rfl)

end Go.AW

namespace Go.AW
attribute [local irreducible] ACalls
theorem mrg_bnd {A B : Int} (hA0 : 0 ≤ A) (hB0 : 0 ≤ B) : ∀ (a b : List Ent), (∀ e ∈ a, EntB A e) → (∀ e ∈ b, EntB B e) → ∀ e ∈ mrg a b, EntB (A + B) e
  | [], b, ha, hb, e, he => by
    rw [mrg_nil] at he
    obtain ⟨h1, h2, h3⟩ := hb e he
    exact ⟨h1, by omega, by omega⟩
  | x :: a, [], ha, hb, e, he => by
    rw [mrg_nil2] at he
    obtain ⟨h1, h2, h3⟩ := ha e he
    exact ⟨h1, by omega, by omega⟩
  | x :: a, y :: b, ha, hb, e, he => by
    obtain ⟨h1, h2, h3⟩ := ha x (List.mem_cons_self ..)
    obtain ⟨k1, k2, k3⟩ := hb y (List.mem_cons_self ..)
    have ha' : ∀ e ∈ a, EntB A e := fun e h => ha e (List.mem_cons_of_mem _ h)
    have hb' : ∀ e ∈ b, EntB B e := fun e h => hb e (List.mem_cons_of_mem _ h)
    rw [mrg_cons] at he
    split at he
    · rcases List.mem_cons.1 he with rfl | he
      · exact ⟨h1, by omega, by omega⟩
      · exact mrg_bnd hA0 hB0 a (y :: b) ha' hb e he
    split at he
    · rcases List.mem_cons.1 he with rfl | he
      · exact ⟨k1, by omega, by omega⟩
      · exact mrg_bnd hA0 hB0 (x :: a) b ha hb' e he
    · rcases List.mem_cons.1 he with rfl | he
      · exact ⟨h1, by simp only []; omega, by simp only []; omega⟩
      · exact mrg_bnd hA0 hB0 a b ha' hb' e he
termination_by a b => a.length + b.length

theorem entB_mono {A B : Int} (h : A ≤ B) {e : Ent} (he : EntB A e) : EntB B e := ⟨he.1, by have := he.2.1; omega, by have := he.2.2; omega⟩

theorem srtM_bnd : ∀ (n : Nat) (l : List Ent), (∀ e ∈ l, EntOk e) → ∀ e ∈ srtM n l, EntB (65536 * (l.length : Int)) e
  | 0, l, h, e, he => by
    rw [srtM] at he
    have := List.length_pos_of_mem he
    exact entB_mono (A := 65536) (by omega) (h e he)
  | n + 1, l, h, e, he => by
    rw [srtM] at he
    split at he
    · have := List.length_pos_of_mem he
      exact entB_mono (A := 65536) (by omega) (h e he)
    · refine entB_mono ?_ (mrg_bnd (by omega) (by omega) _ _ (srtM_bnd n _ fun e h1 => h e (List.mem_of_mem_take h1)) (srtM_bnd n _ fun e h1 => h e (List.mem_of_mem_drop h1)) e he)
      rw [List.length_take, List.length_drop]; omega

theorem srtM_length : ∀ (n : Nat) (l : List Ent), (srtM n l).length ≤ l.length
  | 0, l => Nat.le_refl _
  | n + 1, l => by
    rw [srtM]
    split
    · exact Nat.le_refl _
    · have h := mrg_length (srtM n (l.take (l.length / 2))) (srtM n (l.drop (l.length / 2)))
      have h1 := srtM_length n (l.take (l.length / 2))
      have h2 := srtM_length n (l.drop (l.length / 2))
      rw [List.length_take] at h1
      rw [List.length_drop] at h2
      omega

set_option maxRecDepth 20000 in
theorem ref6_sorted_spec {P : Program} (F : F_warehouseref6_sorted P) : ∀ (n : Nat) (ex : Bool) (l : List Ent), l.length ≤ n → l.length ≤ 100000 → (∀ e ∈ l, EntOk e) → ∀ (H : List AObj),
    ACalls P F.id [.list ex 2 (eC l)] H (fun r H' => r = .list false 2 (eC (srtM n l)) ∧ H' = H) := by
  intro n
  induction n with
  | zero =>
    intro ex l hl _ hE H
    have : l = [] := List.length_eq_zero_iff.1 (by omega)
    subst this
    refine ACalls.pure rfl (acalls_of_body F.has ?_)
    (conv => whnf); refine And.intro (by decide) ?_
    conv => whnf
    exact pubF rfl rfl rfl rfl
  | succ n ih =>
    intro ex l hl hl2 hE H
    refine ACalls.pure (by simp [AVal.closed, AVal.isPure]) (acalls_of_body F.has ?_)
    (conv => whnf); refine recA (fun h => ?_) (fun h => ?_)
    · simp [eC_length] at h
      (conv => whnf); refine And.intro (⟨roomMul (by simp [eC_length]; omega) (by omega), roomB_le (by simp [eC_length]; omega)⟩) ?_
      conv => whnf
      rw [srtM, if_pos (by omega)]
      exact pubF rfl rfl rfl (pureEs_eC _)
    · simp [eC_length] at h
      have ew : IntKind.i64.wrap (((eC l).length : Int).tdiv 2) = ((l.length / 2 : Nat) : Int) := by
        rw [eC_length, Int.tdiv_eq_ediv_of_nonneg (by omega), wrapI _ (by omega) (by omega)]; omega
      have es1 : List.drop 0 (List.take (IntKind.i64.wrap (((eC l).length : Int).tdiv 2)).toNat (eC l)) = eC (l.take (l.length / 2)) := by rw [ew, Int.toNat_natCast, List.drop_zero, eC, eC, List.map_take]
      have es2 : List.drop (IntKind.i64.wrap (((eC l).length : Int).tdiv 2)).toNat (List.take (eC l).length (eC l)) = eC (l.drop (l.length / 2)) := by rw [ew, Int.toNat_natCast, List.take_length, eC, eC, List.map_drop]
      (conv => whnf); refine And.intro (by decide) ?_
      (conv => whnf); refine And.intro (⟨by rw [ew]; omega, by rw [ew, eC_length]; omega⟩) ?_
      conv => whnf
      rw [es1]
      (conv => whnf); refine ⟨_, ih _ (l.take (l.length / 2)) (by rw [List.length_take]; omega) (by rw [List.length_take]; omega) (fun e h => hE e (List.mem_of_mem_take h)) _, ?_⟩
      (conv => whnf); refine And.intro (by decide) ?_
      (conv => whnf); refine And.intro (⟨by rw [ew]; omega, by rw [ew, eC_length]; omega⟩) ?_
      conv => whnf
      rw [es2]
      (conv => whnf); refine ⟨_, ih _ (l.drop (l.length / 2)) (by rw [List.length_drop]; omega) (by rw [List.length_drop]; omega) (fun e h => hE e (List.mem_of_mem_drop h)) _, ?_⟩
      have b1 := srtM_bnd n (l.take (l.length / 2)) fun e h => hE e (List.mem_of_mem_take h)
      have b2 := srtM_bnd n (l.drop (l.length / 2)) fun e h => hE e (List.mem_of_mem_drop h)
      have c1 := srtM_length n (l.take (l.length / 2))
      have c2 := srtM_length n (l.drop (l.length / 2))
      rw [List.length_take] at b1 c1
      rw [List.length_drop] at b2 c2
      (conv => whnf); refine ⟨_, ref6_mergeB_spec F.warehouseref6_merge (B := 65536 * 100000) (by decide) false false _ _ (by omega) (by omega) (fun e h => entB_mono (by omega) (b1 e h)) (fun e h => entB_mono (by omega) (b2 e h)) _, ?_⟩
      conv => whnf
      rw [srtM, if_neg (by omega)]
      exact .closed _ (by simp [AVal.closed, AVal.isPure])

set_option maxRecDepth 20000 in
theorem ref6_Sum_spec {P : Program} (F : F_warehouseref6_Sum P) (ex : Bool) (l : List Ent) (hl : l.length ≤ 100000) (hE : ∀ e ∈ l, EntOk e) (H : List AObj) :
    ACalls P F.id [.list ex 2 (eC l)] H (fun r H' => r = resR (srtM l.length l) ∧ H' = H) := by
  refine ACalls.pure (by simp [AVal.closed, AVal.isPure]) (acalls_of_body F.has ?_)
  (conv => whnf); refine ACalls.use (ref6_sorted_spec F.warehouseref6_sorted l.length ex l (Nat.le_refl _) hl hE _) ?_
  have hb := srtM_bnd l.length l hE
  have hc := srtM_length l.length l
  (conv => whnf); refine ACalls.use (ref6_result_spec F.warehouseref6_result false (srtM l.length l) (by omega) (fun e h => by have := (hb e h).1; omega) _) ?_
  rcases resR_cases (srtM l.length l) with h | h
  all_goals
    rw [h]
    conv => whnf
    exact pub2 (.closed _ rfl) (.closed _ rfl)

def frmE : List Ent → Int
  | [] => 0
  | e :: l => if fitB e ≠ 0 then fitB e else frmE l

def norR (l : List Ent) : AVal := if frmE l ≠ 0 then .tuple [.nil, .int .i64 (frmE l)] else resR (srtM l.length l)

theorem frmE_ok : ∀ (l : List Ent), frmE l = 0 → ∀ e ∈ l, fitB e = 0
  | [], _, e, he => by cases he
  | x :: l, h, e, he => by
    rw [frmE] at h
    by_cases hx : fitB x = 0
    · rw [if_neg (by simp [hx])] at h
      rcases List.mem_cons.1 he with rfl | he
      · exact hx
      · exact frmE_ok l h e he
    · rw [if_pos hx] at h; exact absurd h hx

theorem fit_ok {e : Ent} (h : fitB e = 0) : EntOk e := by
  obtain ⟨h1, h2, h3, _⟩ := fitB_zero e h
  exact ⟨h1, h2, h3⟩

set_option maxRecDepth 20000 in
theorem ref6_Normalize_spec {P : Program} (F : F_warehouseref6_Normalize P) (ex : Bool) (l : List Ent) (hl : l.length ≤ 100000) (H : List AObj) :
    ACalls P F.id [.list ex 2 (eC l)] H (fun r H' => r = norR l ∧ H' = H) := by
  refine ACalls.pure (by simp [AVal.closed, AVal.isPure]) (acalls_of_body F.has ?_)
  conv => whnf
  refine ⟨fun m ρ H1 => ∃ k : Nat, k + m = l.length ∧ frmE l = frmE (l.drop k) ∧ H1 = [] ∧ Sv 24 [(0, .list ex 2 (eC l)), (4, .int .i64 k)] ρ, l.length, [], ?_, ?_⟩
  · exact ⟨0, by omega, rfl, rfl, Sv.intro rfl ⟨rfl, rfl, trivial⟩⟩
  rintro m ρ H1 ⟨k, hk, hr, rfl, d, rfl⟩
  (conv => whnf); refine recA (fun hlt => ?_) (fun hlt => ?_)
  · simp [eC_length] at hlt
    have hx : l[k]? = some l[k] := List.getElem?_eq_getElem hlt
    rw [List.drop_eq_getElem_cons hlt, frmE] at hr
    (conv => whnf); refine And.intro (by omega) ?_
    (conv => whnf); refine recO (eC_at hx) ?_
    (conv => whnf); refine ACalls.use (fits_spec F.warehouseref6_fits l[k] _) ?_
    (conv => whnf); refine recA (fun h1 => ?_) (fun h1 => ?_)
    · replace h1 : (!(fitB l[k] == 0)) = true := h1
      have h2 : fitB l[k] ≠ 0 := by simpa using h1
      rw [if_pos h2] at hr
      conv => whnf
      rw [norR, hr, if_pos h2]
      exact pub2 (.closed _ rfl) (.closed _ rfl)
    · replace h1 : (!(fitB l[k] == 0)) = false := h1
      have h2 : fitB l[k] = 0 := by simpa using h1
      rw [if_neg (by simp [h2])] at hr
      conv => whnf
      refine ⟨m - 1, by omega, Gp.keep rfl ?_ fun ρ1 h => ⟨k + 1, by omega, hr, rfl, h⟩⟩
      exact ⟨rfl, intEq (wrapI _ (by omega) (by omega)), trivial⟩
  · simp [eC_length] at hlt
    rw [List.drop_of_length_le (by omega), frmE] at hr
    (conv => whnf); refine ACalls.use (ref6_Sum_spec F.warehouseref6_Sum ex l hl (fun e h => fit_ok (frmE_ok l hr e h)) _) ?_
    rw [norR, if_neg (by simp [hr])]
    rcases resR_cases (srtM l.length l) with h | h
    all_goals
      rw [h]
      conv => whnf
      exact pub2 (.closed _ rfl) (.closed _ rfl)

set_option maxRecDepth 20000 in
theorem bag_Normalize_spec {P : Program} (F : F_bag_Normalize P) (hS : SortE P F.bag_sum.slices_SortFunc_LEntry_Entry.id F.bag_sum.bag_sum_1.id) (ex : Bool) (l : List Ent) (hl : l.length ≤ 100000) (H : List AObj) :
    ACalls P F.id [.list ex 2 (eC l)] H (fun r H' => r = norR l ∧ H' = H) := by
  refine ACalls.pure (by simp [AVal.closed, AVal.isPure]) (acalls_of_body F.has ?_)
  conv => whnf
  refine ⟨fun m ρ H1 => ∃ k : Nat, k + m = l.length ∧ frmE l = frmE (l.drop k) ∧ H1 = [] ∧ Sv 23 [(0, .list ex 2 (eC l)), (7, .list ex 2 (eC l)), (8, .int .i64 l.length), (9, .int .i64 k)] ρ, l.length, [], ?_, ?_⟩
  · exact ⟨0, by omega, rfl, rfl, Sv.intro rfl ⟨rfl, rfl, intEq (by rw [eC_length]), rfl, trivial⟩⟩
  rintro m ρ H1 ⟨k, hk, hr, rfl, d, rfl⟩
  (conv => whnf); refine recA (fun hlt => ?_) (fun hlt => ?_)
  · simp at hlt
    have hx : l[k]? = some l[k] := List.getElem?_eq_getElem hlt
    rw [List.drop_eq_getElem_cons hlt, frmE] at hr
    (conv => whnf); refine And.intro (by omega) ?_
    (conv => whnf); refine recO (eC_at hx) ?_
    (conv => whnf); refine ACalls.use (formed_spec F.bag_formed l[k] _) ?_
    (conv => whnf); refine recA (fun h1 => ?_) (fun h1 => ?_)
    · replace h1 : (!(fitB l[k] == 0)) = true := h1
      have h2 : fitB l[k] ≠ 0 := by simpa using h1
      rw [if_pos h2] at hr
      conv => whnf
      rw [norR, hr, if_pos h2]
      exact pub2 (.closed _ rfl) (.closed _ rfl)
    · replace h1 : (!(fitB l[k] == 0)) = false := h1
      have h2 : fitB l[k] = 0 := by simpa using h1
      rw [if_neg (by simp [h2])] at hr
      conv => whnf
      refine ⟨m - 1, by omega, Gp.none rfl ?_ fun ρ1 h => ⟨k + 1, by omega, hr, rfl, h⟩⟩
      exact ⟨.closed (.list ex 2 (eC l)) rfl, .closed (.list ex 2 (eC l)) rfl, .closed _ rfl, pub_int (wrapI _ (by omega) (by omega)), trivial⟩
  · simp at hlt
    rw [List.drop_of_length_le (by omega), frmE] at hr
    (conv => whnf); refine ACalls.use (bag_sum_spec F.bag_sum hS ex l hl (fun e h => fit_ok (frmE_ok l hr e h)) _) ?_
    rw [norR, if_neg (by simp [hr])]
    rcases resR_cases (srtM l.length l) with h | h
    all_goals
      rw [h]
      conv => whnf
      exact pub2 (.closed _ rfl) (.closed _ rfl)

end Go.AW

namespace Go.AW
attribute [local irreducible] ACalls
def tabB (b : List Ent) : Bool := (bagB b == 0) && b.all posE

def negE (e : Ent) : Bool := decide (e.cnt < 0)

theorem bag_IsTable_1_spec {P : Program} (F : F_bag_IsTable_1 P) (e : Ent) (H : List AObj) :
    ACalls P F.id [.agg (entC e)] H (fun r H' => r = .bool (negE e) ∧ H' = H) := by
  refine ACalls.pure (by simp [AVal.closed, entC, AVal.isPure]) (acalls_of_body F.has ?_)
  conv => whnf
  exact .closed _ rfl

theorem ContainsE_spec {P : Program} (F : F_slices_ContainsFunc_LEntry_Entry P) (g : FuncId) (p : Ent → Bool) (hg : ∀ c H, ACalls P g [.agg (entC c)] H (fun r H' => r = .bool (p c) ∧ H' = H)) (ex : Bool) (l : List Ent) (hl : l.length ≤ 1000000) (H : List AObj) :
    ACalls P F.id [.list ex 2 (eC l), .fn g []] H (fun r H' => r = .bool (l.any p) ∧ H' = H) := by
  refine ACalls.pure (by simp [AVal.closed, AVal.isPure]) (acalls_of_body F.has ?_)
  (conv => whnf); refine ACalls.use (IndexFuncE_spec F.slices_IndexFunc_LEntry_Entry g [] p _ l (fun c _ => hg c _) ex hl) ?_
  conv => whnf
  refine pubB ?_
  have h := idxOf_any p l 0 (by omega)
  rw [Bool.eq_iff_iff, ← h]; simp

theorem neg_any {b : List Ent} (h : bagB b = 0) : (!(b.any negE)) = b.all posE := by
  have hn := fun e he => (((bagB_iff b).1 h).2.1 e he).2
  rw [Bool.eq_iff_iff]
  simp only [Bool.not_eq_true', List.any_eq_false, List.all_eq_true, negE, posE, decide_eq_true_eq]
  constructor
  · intro h1 e he
    have := h1 e he
    have := hn e he
    omega
  · intro h1 e he
    have := h1 e he
    omega

set_option maxRecDepth 20000 in
theorem bag_IsTable_spec {P : Program} (F : F_bag_IsTable P) (ex : Bool) (b : List Ent) (H : List AObj) :
    ACalls P F.id [.list ex 2 (eC b)] H (fun r H' => r = .bool (tabB b) ∧ H' = H) := by
  refine ACalls.pure (by simp [AVal.closed, AVal.isPure]) (acalls_of_body F.has ?_)
  (conv => whnf); refine ACalls.use (bag_Validate_spec F.bag_Validate ex b _) ?_
  (conv => whnf); refine recA (fun h => ?_) (fun h => ?_)
  · replace h : (bagB b == 0) = true := h
    have h1 : bagB b = 0 := by simpa using h
    (conv => whnf); refine ACalls.use (ContainsE_spec F.slices_ContainsFunc_LEntry_Entry F.bag_IsTable_1.id negE (fun c H => bag_IsTable_1_spec F.bag_IsTable_1 c H) ex b (bagB_le h1) _) ?_
    conv => whnf
    exact pubB (by rw [neg_any h1, tabB, h, Bool.true_and])
  · replace h : (bagB b == 0) = false := h
    conv => whnf
    exact pubB (by rw [tabB, h, Bool.false_and])

set_option maxRecDepth 20000 in
theorem ref6_IsTable_spec {P : Program} (F : F_warehouseref6_IsTable P) (ex : Bool) (b : List Ent) (H : List AObj) :
    ACalls P F.id [.list ex 2 (eC b)] H (fun r H' => r = .bool (tabB b) ∧ H' = H) := by
  refine ACalls.pure (by simp [AVal.closed, AVal.isPure]) (acalls_of_body F.has ?_)
  (conv => whnf); refine ACalls.use (ref6_Validate_spec F.warehouseref6_Validate ex b _) ?_
  (conv => whnf); refine recA (fun h => ?_) (fun h => ?_)
  · replace h : (bagB b == 0) = true := h
    have h1 : bagB b = 0 := by simpa using h
    (conv => whnf); refine ACalls.use (ref6_positive_spec F.warehouseref6_positive ex b (bagB_le h1) _) ?_
    conv => whnf
    exact pubB (by rw [tabB, h, Bool.true_and])
  · replace h : (bagB b == 0) = false := h
    conv => whnf
    exact pubB (by rw [tabB, h, Bool.false_and])

def subR (a b : List Ent) : AVal :=
  if bagB a ≠ 0 then .tuple [.nil, .int .i64 (bagB a)] else if bagB b ≠ 0 then .tuple [.nil, .int .i64 (bagB b)] else resR (mrg a (sgn (-1) b))

set_option maxRecDepth 20000 in
theorem bag_Subtract_spec {P : Program} (F : F_bag_Subtract P) (e1 e2 : Bool) (a b : List Ent) (H : List AObj) :
    ACalls P F.id [.list e1 2 (eC a), .list e2 2 (eC b)] H (fun r H' => r = subR a b ∧ H' = H) := by
  refine ACalls.pure (by simp [AVal.closed, AVal.isPure]) (acalls_of_body F.has ?_)
  (conv => whnf); refine ACalls.use (both_spec F.bag_both e1 e2 a b _) ?_
  by_cases h1 : bagB a = 0
  · rw [if_neg (by simp [h1])]
    by_cases h2 : bagB b = 0
    · (conv => whnf); refine recF (by rw [h2]; rfl) ?_
      obtain ⟨a1, a2, _⟩ := bagB_ok h1
      obtain ⟨b1, b2, _⟩ := bagB_ok h2
      (conv => whnf); refine ACalls.use (bag_merge_spec F.bag_merge e1 e2 a b (-1) (.inr rfl) a1 b1 a2 b2 _) ?_
      rw [subR, if_neg (by simp [h1]), if_neg (by simp [h2])]
      rcases resR_cases (mrg a (sgn (-1) b)) with h | h
      all_goals
        rw [h]
        conv => whnf
        exact pub2 (.closed _ rfl) (.closed _ rfl)
    · (conv => whnf); refine recT (by show (!(bagB b == 0)) = true; simp [h2]) ?_
      conv => whnf
      rw [subR, if_neg (by simp [h1]), if_pos h2]
      exact pub2 (.closed _ rfl) (.closed _ rfl)
  · rw [if_pos h1]
    (conv => whnf); refine recT (by show (!(bagB a == 0)) = true; simp [h1]) ?_
    conv => whnf
    rw [subR, if_pos h1]
    exact pub2 (.closed _ rfl) (.closed _ rfl)

def negR (b : List Ent) : AVal := if bagB b ≠ 0 then .tuple [.nil, .int .i64 (bagB b)] else resR (sgn (-1) b)

theorem subR_nil (b : List Ent) : subR [] b = negR b := by
  rw [subR, if_neg (by simp [bagB_nil]), mrg_nil]; rfl

theorem negR_cases (b : List Ent) : (∃ n, negR b = .tuple [.nil, .int .i64 n]) ∨ ∃ l, negR b = .tuple [.list false 2 (eC l), .int .i64 0] := by
  unfold negR
  split
  · exact .inl ⟨_, rfl⟩
  · rcases resR_cases (sgn (-1) b) with h | h
    · exact .inl ⟨_, h⟩
    · exact .inr ⟨_, h⟩

theorem bag_Negate_spec {P : Program} (F : F_bag_Negate P) (ex : Bool) (b : List Ent) (H : List AObj) :
    ACalls P F.id [.list ex 2 (eC b)] H (fun r H' => r = negR b ∧ H' = H) := by
  refine ACalls.pure (by simp [AVal.closed, AVal.isPure]) (acalls_of_body F.has ?_)
  (conv => whnf); refine ACalls.use ((bag_Subtract_spec F.bag_Subtract false ex [] b _).weak (.cons (.nil false 2) (.cons (.refl _) .nil))) ?_
  rw [subR_nil]
  rcases negR_cases b with ⟨n, h⟩ | ⟨l, h⟩
  all_goals
    rw [h]
    conv => whnf
    exact pub2 (.closed _ rfl) (.closed _ rfl)

set_option maxRecDepth 20000 in
theorem ref6_negated_raw {P : Program} (F : F_warehouseref6_negated P) (ex : Bool) (b : List Ent) (hb : b.length ≤ 100000) (hB : ∀ e ∈ b, EntOk e) :
    ACalls P F.id [.list ex 2 (eC b)] [] (fun r H' => r = .sl 0 (sgn (-1) b).length 0 (sgn (-1) b).length ∧ H' = [.arr 2 (eC (sgn (-1) b))]) := by
  refine acalls_of_body F.has ?_
  conv => whnf
  refine ⟨fun m ρ H1 => ∃ k : Nat, k + m = b.length ∧ H1 = [.arr 2 (eC (sgn (-1) (b.take k)))] ∧ Sv 27 [(0, .list ex 2 (eC b)), (3, .sl 0 k 0 k), (4, .int .i64 k)] ρ, b.length, [(3, 2)], ?_, ?_⟩
  · exact ⟨0, by omega, rfl, Sv.intro rfl ⟨rfl, rfl, rfl, trivial⟩⟩
  rintro m ρ H1 ⟨k, hk, rfl, d, rfl⟩
  have hkl : (sgn (-1) (b.take k)).length = k := by rw [sgn, List.length_map, List.length_take]; omega
  (conv => whnf); refine recA (fun hlt => ?_) (fun hlt => ?_)
  · simp [eC_length] at hlt
    obtain ⟨x, hx⟩ : ∃ x, b[k]? = some x := ⟨b[k], List.getElem?_eq_getElem hlt⟩
    obtain ⟨hx1, hx2, hx3⟩ := hB x (List.mem_of_getElem? hx)
    have hS : sgn (-1) (b.take (k + 1)) = sgn (-1) (b.take k) ++ [⟨x.row, -1 * x.cnt⟩] := by rw [List.take_add_one, hx]; simp [sgn]
    (conv => whnf); refine And.intro (by omega) ?_
    (conv => whnf); refine recO (eC_at hx) ?_
    (conv => whnf); refine And.intro (by omega) ?_
    (conv => whnf); refine recO (eC_at hx) ?_
    have ew : IntKind.i64.wrap (0 - x.cnt) = -1 * x.cnt := by rw [wrapI _ (by omega) (by omega)]; omega
    (conv => whnf); refine recT (by rw [eC_length, hkl]; exact Nat.beq_refl _) ?_
    (conv => whnf); refine And.intro (⟨roomMul (by simp; omega) (by omega), roomB_le (by simp; omega), rfl, by rw [eC_length, hkl]⟩) ?_
    repeat ((conv => whnf); refine And.intro rfl ?_)
    conv => whnf
    have hl : (eC (sgn (-1) (b.take k)) ++ [[AVal.list false 3 (vC x.row), .int .i64 (IntKind.i64.wrap (0 - x.cnt))]]).length = k + 1 := by rw [List.length_append, eC_length, hkl]; rfl
    refine ⟨m - 1, by omega, Gp.one 0 2 (eC (sgn (-1) (b.take (k + 1)))) (by rw [hS, eC_append, ← ew]; rfl) (pureEs_eC _) rfl ?_ fun ρ1 h => ⟨k + 1, by omega, rfl, h⟩⟩
    exact ⟨.closed (.list ex 2 (eC b)) rfl, pubSl (k := 0) rfl rfl hl hl, pub_int (wrapI _ (by omega) (by omega)), trivial⟩
  · simp [eC_length] at hlt
    rw [List.take_of_length_le (by omega)] at hkl ⊢
    conv => whnf
    rw [hkl]
    exact ⟨rfl, rfl⟩

theorem ref6_negated_spec {P : Program} (F : F_warehouseref6_negated P) (ex : Bool) (b : List Ent) (hb : b.length ≤ 100000) (hB : ∀ e ∈ b, EntOk e) (H : List AObj) :
    ACalls P F.id [.list ex 2 (eC b)] H (fun r H' => r = .list false 2 (eC (sgn (-1) b)) ∧ H' = H) :=
  ACalls.frz1 (by simp [AVal.closed, AVal.isPure]) (ref6_negated_raw F ex b hb hB) (eC_length _).symm (pureEs_eC _)

theorem sgn_ok {b : List Ent} (hB : ∀ e ∈ b, EntOk e) : ∀ e ∈ sgn (-1) b, EntOk e := fun e he => by
  obtain ⟨x, hx, rfl⟩ := List.mem_map.1 he
  obtain ⟨h1, h2, h3⟩ := hB x hx
  exact ⟨h1, by simp only []; omega, by simp only []; omega⟩

theorem sgn_len (s : Int) (b : List Ent) : (sgn s b).length = b.length := List.length_map ..

set_option maxRecDepth 20000 in
theorem ref6_Subtract_spec {P : Program} (F : F_warehouseref6_Subtract P) (e1 e2 : Bool) (a b : List Ent) (H : List AObj) :
    ACalls P F.id [.list e1 2 (eC a), .list e2 2 (eC b)] H (fun r H' => r = subR a b ∧ H' = H) := by
  refine ACalls.pure (by simp [AVal.closed, AVal.isPure]) (acalls_of_body F.has ?_)
  (conv => whnf); refine ACalls.use (two_spec F.warehouseref6_two e1 e2 a b _) ?_
  by_cases h1 : bagB a = 0
  · rw [if_neg (by simp [h1])]
    by_cases h2 : bagB b = 0
    · (conv => whnf); refine recF (by rw [h2]; rfl) ?_
      obtain ⟨a1, a2, _⟩ := bagB_ok h1
      obtain ⟨b1, b2, _⟩ := bagB_ok h2
      (conv => whnf); refine ACalls.use (ref6_negated_spec F.warehouseref6_negated e2 b (by omega) b2 _) ?_
      (conv => whnf); refine ACalls.use (ref6_merge_spec F.warehouseref6_merge e1 false a (sgn (-1) b) (by omega) (by rw [sgn_len]; omega) a2 (sgn_ok b2) _) ?_
      (conv => whnf); refine ACalls.use (ref6_result_spec F.warehouseref6_result false (mrg a (sgn (-1) b)) (by have := mrg_length a (sgn (-1) b); rw [sgn_len] at this; omega) (mrg_row a _ (fun e h => by have := (a2 e h).1; omega) (fun e h => by have := (sgn_ok b2 e h).1; omega)) _) ?_
      rw [subR, if_neg (by simp [h1]), if_neg (by simp [h2])]
      rcases resR_cases (mrg a (sgn (-1) b)) with h | h
      all_goals
        rw [h]
        conv => whnf
        exact pub2 (.closed _ rfl) (.closed _ rfl)
    · (conv => whnf); refine recT (by show (!(bagB b == 0)) = true; simp [h2]) ?_
      conv => whnf
      rw [subR, if_neg (by simp [h1]), if_pos h2]
      exact pub2 (.closed _ rfl) (.closed _ rfl)
  · rw [if_pos h1]
    (conv => whnf); refine recT (by show (!(bagB a == 0)) = true; simp [h1]) ?_
    conv => whnf
    rw [subR, if_pos h1]
    exact pub2 (.closed _ rfl) (.closed _ rfl)

set_option maxRecDepth 20000 in
theorem ref6_Negate_spec {P : Program} (F : F_warehouseref6_Negate P) (ex : Bool) (b : List Ent) (H : List AObj) :
    ACalls P F.id [.list ex 2 (eC b)] H (fun r H' => r = negR b ∧ H' = H) := by
  refine ACalls.pure (by simp [AVal.closed, AVal.isPure]) (acalls_of_body F.has ?_)
  (conv => whnf); refine ACalls.use (ref6_Validate_spec F.warehouseref6_Validate ex b _) ?_
  by_cases h2 : bagB b = 0
  · (conv => whnf); refine recF (by rw [h2]; rfl) ?_
    obtain ⟨b1, b2, _⟩ := bagB_ok h2
    (conv => whnf); refine ACalls.use (ref6_negated_spec F.warehouseref6_negated ex b (by omega) b2 _) ?_
    (conv => whnf); refine ACalls.use (ref6_result_spec F.warehouseref6_result false (sgn (-1) b) (by rw [sgn_len]; omega) (fun e h => by have := (sgn_ok b2 e h).1; omega) _) ?_
    rw [negR, if_neg (by simp [h2])]
    rcases resR_cases (sgn (-1) b) with h | h
    all_goals
      rw [h]
      conv => whnf
      exact pub2 (.closed _ rfl) (.closed _ rfl)
  · (conv => whnf); refine recT (by show (!(bagB b == 0)) = true; simp [h2]) ?_
    conv => whnf
    rw [negR, if_pos h2]
    exact pub2 (.closed _ rfl) (.closed _ rfl)

end Go.AW

namespace Go.AW
attribute [local irreducible] ACalls
def oneR (n : Int) : List V := [⟨2, n, bs []⟩]

theorem one6_spec {P : Program} (F : F_warehouselaw6_one P) (n : Int) (H : List AObj) :
    ACalls P F.id [.int .i64 n] H (fun r H' => r = .list false 3 (vC (oneR n)) ∧ H' = H) := by
  refine ACalls.weakR (Q := fun r H' => r = .list true 3 (vC (oneR n)) ∧ H' = H) ?_ (by rintro r H' ⟨rfl, rfl⟩; exact ⟨_, .list true false 3 _ (by simp), rfl, rfl⟩)
  refine ACalls.pure rfl (acalls_of_body F.has ?_)
  conv => whnf
  exact .closed _ rfl

def lightE (l : List Ent) : Bool := decide (l.length ≤ 60) && l.all fun e => decide (e.row.length ≤ 60)

theorem lightE_ok {l : List Ent} (h : lightE l = true) : l.length ≤ 60 ∧ ∀ e ∈ l, e.row.length ≤ 60 := by
  rw [lightE, Bool.and_eq_true] at h
  exact ⟨by simpa using h.1, fun e he => by simpa using List.all_eq_true.1 h.2 e he⟩

set_option maxRecDepth 20000 in
theorem light6_spec {P : Program} (F : F_warehouselaw6_light P) (ex : Bool) (l : List Ent) (H : List AObj) :
    ACalls P F.id [.list ex 2 (eC l)] H (fun r H' => r = .bool (lightE l) ∧ H' = H) := by
  refine ACalls.pure (by simp [AVal.closed, AVal.isPure]) (acalls_of_body F.has ?_)
  (conv => whnf); refine recA (fun h => ?_) (fun h => ?_)
  · simp [eC_length] at h
    conv => whnf
    exact pubB (by rw [lightE, decide_eq_false (by omega), Bool.false_and])
  simp [eC_length] at h
  conv => whnf
  refine ⟨fun m ρ H1 => ∃ k : Nat, k + m = l.length ∧ lightE l = (l.drop k).all (fun e => decide (e.row.length ≤ 60)) ∧ H1 = [] ∧ Sv 20 [(0, .list ex 2 (eC l)), (3, .int .i64 k)] ρ, l.length, [], ?_, ?_⟩
  · exact ⟨0, by omega, by rw [lightE, decide_eq_true (by omega), Bool.true_and]; rfl, rfl, Sv.intro rfl ⟨rfl, rfl, trivial⟩⟩
  rintro m ρ H1 ⟨k, hk, hr, rfl, d, rfl⟩
  (conv => whnf); refine recA (fun hlt => ?_) (fun hlt => ?_)
  · simp [eC_length] at hlt
    have hx : l[k]? = some l[k] := List.getElem?_eq_getElem hlt
    rw [List.drop_eq_getElem_cons hlt, List.all_cons] at hr
    (conv => whnf); refine And.intro (by omega) ?_
    (conv => whnf); refine recO (eC_at hx) ?_
    (conv => whnf); refine recA (fun h1 => ?_) (fun h1 => ?_)
    · simp [vC_length] at h1
      conv => whnf
      exact pubB (by rw [hr, decide_eq_false (by omega), Bool.false_and])
    · simp [vC_length] at h1
      rw [decide_eq_true (by omega), Bool.true_and] at hr
      conv => whnf
      refine ⟨m - 1, by omega, Gp.keep rfl ?_ fun ρ1 h => ⟨k + 1, by omega, hr, rfl, h⟩⟩
      exact ⟨rfl, intEq (wrapI _ (by omega) (by omega)), trivial⟩
  · simp [eC_length] at hlt
    rw [List.drop_of_length_le (by omega)] at hr
    conv => whnf
    exact pubB hr.symm

theorem oneC : ∀ (a b : Int), rowsCmp (oneR a) (oneR b) = if a < b then -1 else if b < a then 1 else 0 := by
  intro a b
  have h : valCmp ⟨2, a, bs []⟩ ⟨2, b, bs []⟩ = if a < b then -1 else if b < a then 1 else 0 := by
    unfold valCmp
    simp only [orI, cmpI, cmpS]
    by_cases h1 : a < b
    · simp [h1]
    · by_cases h2 : b < a
      · simp [h1, h2]
      · simp only [h1, h2, if_neg, if_true, not_false_eq_true]
        rfl
  rw [oneR, oneR, rowsCmp, rowsCmp, h]
  by_cases h1 : a < b
  · simp [h1]
  · by_cases h2 : b < a
    · simp [h1, h2]
    · simp [h1, h2, rowsCmp]

theorem norK : norR [⟨oneR 1, 2⟩, ⟨oneR 2, 1⟩, ⟨oneR 1, -2⟩] = .tuple [.list false 2 (eC [⟨oneR 2, 1⟩]), .int .i64 0] := by
  have h0 : frmE [⟨oneR 1, 2⟩, ⟨oneR 2, 1⟩, ⟨oneR 1, -2⟩] = 0 := by decide
  have h1 : srtM 3 [⟨oneR 1, 2⟩, ⟨oneR 2, 1⟩, ⟨oneR 1, -2⟩] = [⟨oneR 1, 0⟩, ⟨oneR 2, 1⟩] := by
    show mrg [⟨oneR 1, 2⟩] (mrg [⟨oneR 2, 1⟩] [⟨oneR 1, -2⟩]) = _
    simp [mrg_cons, mrg_nil, mrg_nil2, oneC]
  rw [norR, if_neg (by simp [h0])]
  show resR (srtM 3 _) = _
  rw [h1]
  rfl

theorem subK : subR [⟨oneR 1, 1⟩] [⟨oneR 1, 3⟩] = .tuple [.list false 2 (eC [⟨oneR 1, -2⟩]), .int .i64 0] := by
  have h0 : bagB [⟨oneR 1, 1⟩] = 0 := by decide
  have h1 : bagB [⟨oneR 1, 3⟩] = 0 := by decide
  rw [subR, if_neg (by simp [h0]), if_neg (by simp [h1])]
  have h2 : mrg [⟨oneR 1, 1⟩] (sgn (-1) [⟨oneR 1, 3⟩]) = [⟨oneR 1, -2⟩] := by
    show mrg [⟨oneR 1, 1⟩] [⟨oneR 1, -1 * 3⟩] = _
    simp [mrg_cons, mrg_nil, mrg_nil2, oneC]
  rw [h2]
  rfl

abbrev SortL (P : Program) (F : F_bag_Normalize P) : Prop := SortE P F.bag_sum.slices_SortFunc_LEntry_Entry.id F.bag_sum.bag_sum_1.id

set_option maxRecDepth 20000 in
theorem known6_spec {P : Program} (F : F_warehouselaw6_known P) (hS : SortL P F.bag_Normalize) (H : List AObj) :
    ACalls P F.id [] H (fun r H' => r = .bool true ∧ H' = H) := by
  refine ACalls.pure rfl (acalls_of_body F.has ?_)
  have o := fun n H => one6_spec F.warehouselaw6_one n H
  have i1 : tabB [⟨oneR 2, 1⟩] = true := rfl
  have i2 : tabB [⟨oneR 1, -2⟩] = false := rfl
  (conv => whnf); refine ACalls.use (o 1 _) ?_
  (conv => whnf); refine ACalls.use (o 2 _) ?_
  (conv => whnf); refine ACalls.use (o 1 _) ?_
  (conv => whnf); refine ACalls.use (bag_Normalize_spec F.bag_Normalize hS true [⟨oneR 1, 2⟩, ⟨oneR 2, 1⟩, ⟨oneR 1, -2⟩] (by decide) _) ?_
  rw [norK]
  (conv => whnf); refine ACalls.use (o 1 _) ?_
  (conv => whnf); refine ACalls.use (o 1 _) ?_
  (conv => whnf); refine ACalls.use (bag_Subtract_spec F.bag_Subtract true true [⟨oneR 1, 1⟩] [⟨oneR 1, 3⟩] _) ?_
  rw [subK]
  (conv => whnf); refine ACalls.use (o 2 _) ?_
  (conv => whnf); refine ACalls.use (ref6_Same_spec F.warehouseref6_Same false true [⟨oneR 2, 1⟩] [⟨oneR 2, 1⟩] (by decide) (by intro x hx; cases hx with | head => decide | tail _ h => cases h) _) ?_
  (conv => whnf); refine recT (eqD_true rfl) ?_
  (conv => whnf); refine ACalls.use (o 1 _) ?_
  (conv => whnf); refine ACalls.use (ref6_Same_spec F.warehouseref6_Same false true [⟨oneR 1, -2⟩] [⟨oneR 1, -2⟩] (by decide) (by intro x hx; cases hx with | head => decide | tail _ h => cases h) _) ?_
  (conv => whnf); refine recT (eqD_true rfl) ?_
  (conv => whnf); refine ACalls.use (bag_IsTable_spec F.bag_IsTable false [⟨oneR 2, 1⟩] _) ?_
  rw [i1]
  (conv => whnf); refine ACalls.use (bag_IsTable_spec F.bag_IsTable false [⟨oneR 1, -2⟩] _) ?_
  rw [i2]
  conv => whnf
  exact .closed _ rfl

end Go.AW

namespace Go.AW
attribute [local irreducible] ACalls
def rowOk (e : Ent) : Prop := e.row.length ≤ 12 ∧ e.row.all validB = true

def resP (l : List Ent) : List Ent × Int := if (l.all fun e => smallB e.cnt) = true ∧ (l.filter nzB).length ≤ 4096 then (l.filter nzB, 0) else ([], 2)

def tR (p : List Ent × Int) : AVal := if p.2 ≠ 0 then .tuple [.nil, .int .i64 p.2] else .tuple [.list false 2 (eC p.1), .int .i64 0]

def rV (p : List Ent × Int) : AVal := .tuple [.list false 2 (eC p.1), .int .i64 p.2]

theorem resR_P (l : List Ent) : resR l = tR (resP l) := by
  rw [resR, resP]
  split <;> rfl

theorem tR_wk {p : List Ent × Int} (h : p.2 ≠ 0 → p.1 = []) : WkD (tR p) (rV p) := by
  unfold tR rV
  split
  · rename_i h1
    rw [h h1]
    exact .tuples (.cons (.nil false 2) (.cons (.refl _) ⟨rfl, fun i a b h => by simp at h⟩))
  · rename_i h1
    have : p.2 = 0 := Classical.byContradiction fun h => h1 h
    rw [this]
    exact .refl _

def Good (p : List Ent × Int) : Prop := bagB p.1 = 0 ∧ (p.2 ≠ 0 → p.1 = [])

theorem good_err (n : Int) : Good ([], n) := ⟨rfl, fun _ => rfl⟩

theorem resP_good {l : List Ent} (hs : Srt l) (hf : ∀ e ∈ l, rowOk e) : Good (resP l) := by
  unfold resP
  split
  · rename_i h
    refine ⟨(bagB_iff _).2 ⟨h.2, fun e he => ?_, srt_filter _ hs⟩, fun h => absurd rfl h⟩
    obtain ⟨h1, h2⟩ := List.mem_filter.1 he
    exact ⟨(fitB_iff e).2 ⟨(hf e h1).1, List.all_eq_true.1 h.1 e h1, (hf e h1).2⟩, by simpa [nzB] using h2⟩
  · exact good_err 2

theorem resP_cnt {l : List Ent} (h0 : (resP l).2 = 0) (r : List V) : cntL (resP l).1 r = cntL l r := by
  unfold resP at h0 ⊢
  split at h0
  · rename_i h
    rw [if_pos h]
    exact cntL_nz l r
  · cases h0

theorem resP_ok {l : List Ent} (hs : Srt l) (hl : l.length ≤ 4096) (hc : ∀ r, smallB (cntL l r) = true) : (resP l).2 = 0 := by
  have hsm : ∀ e ∈ l, smallB e.cnt = true := fun e he => by rw [← cntL_mem hs he]; exact hc _
  rw [resP, if_pos ⟨List.all_eq_true.2 hsm, Nat.le_trans (List.length_filter_le _ _) hl⟩]

theorem mem_srtM : ∀ (n : Nat) (l : List Ent) (e : Ent), e ∈ srtM n l → ∃ x ∈ l, x.row = e.row
  | 0, l, e, h => ⟨e, h, rfl⟩
  | n + 1, l, e, h => by
    rw [srtM] at h
    split at h
    · exact ⟨e, h, rfl⟩
    · rcases mem_mrg _ _ e h with ⟨x, hx, hr⟩ | ⟨x, hx, hr⟩
      · obtain ⟨y, hy, hyr⟩ := mem_srtM n _ x hx
        exact ⟨y, List.mem_of_mem_take hy, hyr.trans hr⟩
      · obtain ⟨y, hy, hyr⟩ := mem_srtM n _ x hx
        exact ⟨y, List.mem_of_mem_drop hy, hyr.trans hr⟩

theorem rowOk_of {x e : Ent} (h : rowOk x) (hr : x.row = e.row) : rowOk e := by rw [rowOk, ← hr]; exact h

def sumP (l : List Ent) : List Ent × Int := resP (srtM l.length l)

theorem sumP_good {l : List Ent} (hf : ∀ e ∈ l, rowOk e) : Good (sumP l) :=
  resP_good (srt_srtM _ _ (by omega)) fun e he => by
    obtain ⟨x, hx, hr⟩ := mem_srtM _ _ e he
    exact rowOk_of (hf x hx) hr

theorem sumP_cnt {l : List Ent} (h0 : (sumP l).2 = 0) (r : List V) : cntL (sumP l).1 r = cntL l r := by
  rw [sumP, resP_cnt h0, cntL_srtM]

theorem sumP_ok {l : List Ent} (hl : l.length ≤ 4096) (hc : ∀ r, smallB (cntL l r) = true) : (sumP l).2 = 0 :=
  resP_ok (srt_srtM _ _ (by omega)) (Nat.le_trans (srtM_length _ _) hl) fun r => by rw [cntL_srtM]; exact hc r

def norP (l : List Ent) : List Ent × Int := if frmE l ≠ 0 then ([], frmE l) else sumP l

theorem norR_P (l : List Ent) : norR l = tR (norP l) := by
  rw [norR, norP]
  split
  · rename_i h; rw [tR, if_pos h]
  · exact resR_P _

theorem fit_rowOk {e : Ent} (h : fitB e = 0) : rowOk e := by
  have := (fitB_iff e).1 h
  exact ⟨this.1, this.2.2⟩

theorem norP_good (l : List Ent) : Good (norP l) := by
  unfold norP
  split
  · exact good_err _
  · rename_i h
    exact sumP_good fun e he => fit_rowOk (frmE_ok l (Classical.byContradiction fun hn => h hn) e he)

theorem frmE_zero : ∀ {l : List Ent}, (∀ e ∈ l, fitB e = 0) → frmE l = 0
  | [], _ => rfl
  | x :: l, h => by rw [frmE, if_neg (by simp [h x (List.mem_cons_self ..)]), frmE_zero fun e he => h e (List.mem_cons_of_mem _ he)]

theorem norP_sum {l : List Ent} (h : ∀ e ∈ l, fitB e = 0) : norP l = sumP l := by rw [norP, if_neg (by simp [frmE_zero h])]

theorem cntL_sgn (b : List Ent) (r : List V) : cntL (sgn (-1) b) r = - cntL b r := by
  induction b with
  | nil => rfl
  | cons x b ih => show cntL (⟨x.row, -1 * x.cnt⟩ :: sgn (-1) b) r = _; rw [cntL, cntL, ih]; show (if rowsCmp x.row r = 0 then -1 * x.cnt else 0) + _ = _; split <;> omega

theorem srt_sgn {b : List Ent} (h : Srt b) : Srt (sgn (-1) b) := by
  rw [sgn, Srt, List.pairwise_map]
  exact h

theorem bag_rowOk {l : List Ent} (h : bagB l = 0) : ∀ e ∈ l, rowOk e := fit_row h

theorem bag_srt {l : List Ent} (h : bagB l = 0) : Srt l := ((bagB_iff l).1 h).2.2

theorem bag_len {l : List Ent} (h : bagB l = 0) : l.length ≤ 4096 := ((bagB_iff l).1 h).1

theorem sgn_rowOk {b : List Ent} (h : ∀ e ∈ b, rowOk e) : ∀ e ∈ sgn (-1) b, rowOk e := fun e he => by
  obtain ⟨x, hx, rfl⟩ := List.mem_map.1 he
  exact h x hx

theorem mrg_rowOk {a b : List Ent} (ha : ∀ e ∈ a, rowOk e) (hb : ∀ e ∈ b, rowOk e) : ∀ e ∈ mrg a b, rowOk e := fun e he => by
  rcases mem_mrg _ _ e he with ⟨x, hx, hr⟩ | ⟨x, hx, hr⟩
  · exact rowOk_of (ha x hx) hr
  · exact rowOk_of (hb x hx) hr

def addP (a b : List Ent) : List Ent × Int := if bagB a ≠ 0 then ([], bagB a) else if bagB b ≠ 0 then ([], bagB b) else resP (mrg a b)

def subP (a b : List Ent) : List Ent × Int := if bagB a ≠ 0 then ([], bagB a) else if bagB b ≠ 0 then ([], bagB b) else resP (mrg a (sgn (-1) b))

def negP (b : List Ent) : List Ent × Int := if bagB b ≠ 0 then ([], bagB b) else resP (sgn (-1) b)

theorem addR_P (a b : List Ent) : addR a b = tR (addP a b) := by
  rw [addR, addP]
  split
  · rename_i h; rw [tR, if_pos h]
  · split
    · rename_i h; rw [tR, if_pos h]
    · exact resR_P _

theorem subR_P (a b : List Ent) : subR a b = tR (subP a b) := by
  rw [subR, subP]
  split
  · rename_i h; rw [tR, if_pos h]
  · split
    · rename_i h; rw [tR, if_pos h]
    · exact resR_P _

theorem negR_P (b : List Ent) : negR b = tR (negP b) := by
  rw [negR, negP]
  split
  · rename_i h; rw [tR, if_pos h]
  · exact resR_P _

theorem nz0 {n : Int} (h : ¬ n ≠ 0) : n = 0 := Classical.byContradiction h

theorem addP_good (a b : List Ent) : Good (addP a b) := by
  unfold addP
  split
  · exact good_err _
  · split
    · exact good_err _
    · rename_i h1 h2
      exact resP_good (srt_mrg _ _ (bag_srt (nz0 h1)) (bag_srt (nz0 h2))) (mrg_rowOk (bag_rowOk (nz0 h1)) (bag_rowOk (nz0 h2)))

theorem subP_good (a b : List Ent) : Good (subP a b) := by
  unfold subP
  split
  · exact good_err _
  · split
    · exact good_err _
    · rename_i h1 h2
      exact resP_good (srt_mrg _ _ (bag_srt (nz0 h1)) (srt_sgn (bag_srt (nz0 h2)))) (mrg_rowOk (bag_rowOk (nz0 h1)) (sgn_rowOk (bag_rowOk (nz0 h2))))

theorem negP_good (b : List Ent) : Good (negP b) := by
  unfold negP
  split
  · exact good_err _
  · rename_i h1
    exact resP_good (srt_sgn (bag_srt (nz0 h1))) (sgn_rowOk (bag_rowOk (nz0 h1)))

theorem addP_ok {a b : List Ent} (ha : bagB a = 0) (hb : bagB b = 0) (hl : a.length + b.length ≤ 4096) (hc : ∀ r, smallB (cntL a r + cntL b r) = true) :
    (addP a b).2 = 0 ∧ bagB (addP a b).1 = 0 ∧ (addP a b).1.length ≤ a.length + b.length ∧ ∀ r, cntL (addP a b).1 r = cntL a r + cntL b r := by
  have e : addP a b = resP (mrg a b) := by rw [addP, if_neg (by simp [ha]), if_neg (by simp [hb])]
  have h0 : (resP (mrg a b)).2 = 0 := resP_ok (srt_mrg _ _ (bag_srt ha) (bag_srt hb)) (Nat.le_trans (mrg_length a b) hl) fun r => by rw [cntL_mrg]; exact hc r
  refine ⟨by rw [e]; exact h0, (addP_good a b).1, ?_, fun r => by rw [e, resP_cnt h0, cntL_mrg]⟩
  rw [e, resP]
  split
  · exact Nat.le_trans (List.length_filter_le _ _) (mrg_length a b)
  · exact Nat.zero_le _

theorem subP_ok {a b : List Ent} (ha : bagB a = 0) (hb : bagB b = 0) (hl : a.length + b.length ≤ 4096) (hc : ∀ r, smallB (cntL a r - cntL b r) = true) :
    (subP a b).2 = 0 ∧ bagB (subP a b).1 = 0 ∧ (subP a b).1.length ≤ a.length + b.length ∧ ∀ r, cntL (subP a b).1 r = cntL a r - cntL b r := by
  have e : subP a b = resP (mrg a (sgn (-1) b)) := by rw [subP, if_neg (by simp [ha]), if_neg (by simp [hb])]
  have hcn : ∀ r, cntL (mrg a (sgn (-1) b)) r = cntL a r - cntL b r := fun r => by rw [cntL_mrg, cntL_sgn]; omega
  have hm : (mrg a (sgn (-1) b)).length ≤ a.length + b.length := by have := mrg_length a (sgn (-1) b); rwa [sgn_len] at this
  have h0 : (resP (mrg a (sgn (-1) b))).2 = 0 := resP_ok (srt_mrg _ _ (bag_srt ha) (srt_sgn (bag_srt hb))) (Nat.le_trans hm hl) fun r => by rw [hcn]; exact hc r
  refine ⟨by rw [e]; exact h0, (subP_good a b).1, ?_, fun r => by rw [e, resP_cnt h0, hcn]⟩
  rw [e, resP]
  split
  · exact Nat.le_trans (List.length_filter_le _ _) hm
  · exact Nat.zero_le _

theorem bag_small {b : List Ent} (h : bagB b = 0) (r : List V) : -65536 ≤ cntL b r ∧ cntL b r ≤ 65536 := by
  by_cases hz : cntL b r = 0
  · omega
  · have : ∃ e ∈ b, rowsCmp e.row r = 0 := Classical.byContradiction fun hn => hz (cntL_zero b r fun e he h0 => hn ⟨e, he, h0⟩)
    obtain ⟨e, he, h0⟩ := this
    rw [← (rowsCmp_zero _ _).1 h0, cntL_mem (bag_srt h) he]
    have := fitB_zero e (((bagB_iff b).1 h).2.1 e he).1
    omega

theorem smallB_iff (n : Int) : smallB n = true ↔ -65536 ≤ n ∧ n ≤ 65536 := by simp [smallB]

theorem negP_ok {b : List Ent} (hb : bagB b = 0) : (negP b).2 = 0 ∧ bagB (negP b).1 = 0 ∧ (negP b).1.length ≤ b.length ∧ ∀ r, cntL (negP b).1 r = - cntL b r := by
  have e : negP b = resP (sgn (-1) b) := by rw [negP, if_neg (by simp [hb])]
  have h0 : (resP (sgn (-1) b)).2 = 0 := resP_ok (srt_sgn (bag_srt hb)) (by rw [sgn_len]; exact bag_len hb) fun r => by
    rw [cntL_sgn, smallB_iff]
    have := bag_small hb r
    omega
  refine ⟨by rw [e]; exact h0, (negP_good b).1, ?_, fun r => by rw [e, resP_cnt h0, cntL_sgn]⟩
  rw [e, resP]
  split
  · exact Nat.le_trans (List.length_filter_le _ _) (by rw [sgn_len]; exact Nat.le_refl _)
  · exact Nat.zero_le _

theorem ACalls.goodW {P : Program} {f : FuncId} {args : List AVal} {H : List AObj} {R : AVal} {p : List Ent × Int} (h : ACalls P f args H (fun r H' => r = R ∧ H' = H)) (hR : R = tR p) (hp : Good p) : ACalls P f args H (fun r H' => r = rV p ∧ H' = H) :=
  ACalls.weakRD h (by rintro r H' ⟨rfl, rfl⟩; exact ⟨_, by rw [hR]; exact tR_wk hp.2, rfl, rfl⟩)

section
variable {P : Program}
theorem bag_Normalize_w (F : F_bag_Normalize P) (hS : SortL P F) (ex : Bool) (l : List Ent) (hl : l.length ≤ 100000) (H : List AObj) :
    ACalls P F.id [.list ex 2 (eC l)] H (fun r H' => r = rV (norP l) ∧ H' = H) := (bag_Normalize_spec F hS ex l hl H).goodW (norR_P l) (norP_good l)

theorem ref6_Normalize_w (F : F_warehouseref6_Normalize P) (ex : Bool) (l : List Ent) (hl : l.length ≤ 100000) (H : List AObj) :
    ACalls P F.id [.list ex 2 (eC l)] H (fun r H' => r = rV (norP l) ∧ H' = H) := (ref6_Normalize_spec F ex l hl H).goodW (norR_P l) (norP_good l)

theorem bag_Add_w (F : F_bag_Add P) (e1 e2 : Bool) (a b : List Ent) (H : List AObj) :
    ACalls P F.id [.list e1 2 (eC a), .list e2 2 (eC b)] H (fun r H' => r = rV (addP a b) ∧ H' = H) := (bag_Add_spec F e1 e2 a b H).goodW (addR_P a b) (addP_good a b)

theorem ref6_Add_w (F : F_warehouseref6_Add P) (e1 e2 : Bool) (a b : List Ent) (H : List AObj) :
    ACalls P F.id [.list e1 2 (eC a), .list e2 2 (eC b)] H (fun r H' => r = rV (addP a b) ∧ H' = H) := (ref6_Add_spec F e1 e2 a b H).goodW (addR_P a b) (addP_good a b)

theorem bag_Subtract_w (F : F_bag_Subtract P) (e1 e2 : Bool) (a b : List Ent) (H : List AObj) :
    ACalls P F.id [.list e1 2 (eC a), .list e2 2 (eC b)] H (fun r H' => r = rV (subP a b) ∧ H' = H) := (bag_Subtract_spec F e1 e2 a b H).goodW (subR_P a b) (subP_good a b)

theorem ref6_Subtract_w (F : F_warehouseref6_Subtract P) (e1 e2 : Bool) (a b : List Ent) (H : List AObj) :
    ACalls P F.id [.list e1 2 (eC a), .list e2 2 (eC b)] H (fun r H' => r = rV (subP a b) ∧ H' = H) := (ref6_Subtract_spec F e1 e2 a b H).goodW (subR_P a b) (subP_good a b)

theorem bag_Negate_w (F : F_bag_Negate P) (ex : Bool) (b : List Ent) (H : List AObj) :
    ACalls P F.id [.list ex 2 (eC b)] H (fun r H' => r = rV (negP b) ∧ H' = H) := (bag_Negate_spec F ex b H).goodW (negR_P b) (negP_good b)

theorem ref6_Negate_w (F : F_warehouseref6_Negate P) (ex : Bool) (b : List Ent) (H : List AObj) :
    ACalls P F.id [.list ex 2 (eC b)] H (fun r H' => r = rV (negP b) ∧ H' = H) := (ref6_Negate_spec F ex b H).goodW (negR_P b) (negP_good b)

theorem Same_bag (F : F_warehouseref6_Same P) (e1 e2 : Bool) (a b : List Ent) (ha : bagB a = 0) (H : List AObj) :
    ACalls P F.id [.list e1 2 (eC a), .list e2 2 (eC b)] H (fun r H' => r = .bool (eqD a b) ∧ H' = H) :=
  ref6_Same_spec F e1 e2 a b (by have := bag_len ha; omega) (fun x hx => by have := (bag_rowOk ha x hx).1; omega) H

end
end Go.AW

namespace Go.AW
attribute [local irreducible] ACalls
def bgRow (l : List Int) (i : Nat) : List V := [anyV ((atV l (3 * i + 1)).tmod 30), anyV ((atV l (3 * i + 2)).tmod 30)]

def bgE (l : List Int) (i : Nat) : Ent := ⟨(bgRow l i).take (1 + atV l (3 * i) % 2).toNat, atV l (3 * i) / 2 % 7 - 3⟩

def bgL (l : List Int) (n : Nat) : List Ent := (List.range n).map (bgE l)

theorem bgL_succ (l : List Int) (k : Nat) : bgL l (k + 1) = bgL l k ++ [bgE l k] := by simp [bgL, List.range_succ]

theorem bgL_len (l : List Int) (k : Nat) : (bgL l k).length = k := by simp [bgL]

theorem bgE_fit (l : List Int) (i : Nat) : fitB (bgE l i) = 0 ∧ -3 ≤ (bgE l i).cnt ∧ (bgE l i).cnt ≤ 3 := by
  have h := atV_bounds l (3 * i)
  have h1 : (bgE l i).row.length ≤ 2 := by simp [bgE, bgRow]; omega
  have h2 : -3 ≤ (bgE l i).cnt ∧ (bgE l i).cnt ≤ 3 := by simp only [bgE]; omega
  refine ⟨(fitB_iff _).2 ⟨by omega, (smallB_iff _).2 ⟨by omega, by omega⟩, List.all_eq_true.2 fun v hv => ?_⟩, h2⟩
  have hv2 : v ∈ bgRow l i := List.mem_of_mem_take hv
  simp [bgRow] at hv2
  rcases hv2 with rfl | rfl
  · exact anyV_valid _
  · exact anyV_valid _

theorem cntL_bnd {B : Int} (hB : 0 ≤ B) : ∀ (l : List Ent), (∀ e ∈ l, -B ≤ e.cnt ∧ e.cnt ≤ B) → ∀ r, -(B * l.length) ≤ cntL l r ∧ cntL l r ≤ B * l.length
  | [], _, r => by simp [cntL]
  | e :: l, h, r => by
    have h1 := cntL_bnd hB l (fun e he => h e (List.mem_cons_of_mem _ he)) r
    have h2 := h e (List.mem_cons_self ..)
    rw [cntL, List.length_cons]
    have : B * ((l.length + 1 : Nat) : Int) = B * l.length + B := by rw [Int.natCast_add, Int.mul_add]; simp
    rw [this]
    split <;> omega

theorem bgL_fit (l : List Int) (n : Nat) : ∀ e ∈ bgL l n, fitB e = 0 ∧ -3 ≤ e.cnt ∧ e.cnt ≤ 3 := fun e he => by
  obtain ⟨i, _, rfl⟩ := List.mem_map.1 he
  exact bgE_fit l i

def bgV (l : List Int) (n : Nat) : List Ent := (norP (bgL l n)).1

theorem bgV_ok (l : List Int) {n : Nat} (hn : n ≤ 1000) : norP (bgL l n) = (bgV l n, 0) ∧ bagB (bgV l n) = 0 ∧ (bgV l n).length ≤ n ∧ (∀ r, -(3 * (n : Int)) ≤ cntL (bgV l n) r ∧ cntL (bgV l n) r ≤ 3 * n) := by
  have hf : ∀ e ∈ bgL l n, fitB e = 0 := fun e he => (bgL_fit l n e he).1
  have hb := cntL_bnd (B := 3) (by decide) (bgL l n) fun e he => (bgL_fit l n e he).2
  rw [bgL_len] at hb
  have h0 : (sumP (bgL l n)).2 = 0 := sumP_ok (by rw [bgL_len]; omega) fun r => by rw [smallB_iff]; have := hb r; omega
  have e : norP (bgL l n) = sumP (bgL l n) := norP_sum hf
  refine ⟨by rw [bgV, e, ← h0], by rw [bgV]; exact (norP_good _).1, ?_, fun r => ?_⟩
  · rw [bgV, e, sumP, resP]
    split
    · have h1 := List.length_filter_le nzB (srtM (bgL l n).length (bgL l n))
      have h2 := srtM_length (bgL l n).length (bgL l n)
      rw [bgL_len] at h1 h2
      simp only [bgL_len]
      omega
    · exact Nat.zero_le _
  · rw [bgV, e, sumP_cnt h0]
    exact hb r

set_option maxRecDepth 20000 in
theorem Bag_spec {P : Program} (F : F_warehousebase_Bag P) (l : List Int) (n : Nat) (hn : n ≤ 1000) (H : List AObj) :
    ACalls P F.id [.list false 1 (iC l), .int .i64 n] H (fun r H' => r = .list false 2 (eC (bgV l n)) ∧ H' = H) := by
  refine ACalls.pure rfl (acalls_of_body F.has ?_)
  conv => whnf
  refine ⟨fun m ρ H1 => ∃ k : Nat, k + m = n ∧ H1 = [.arr 2 (eC (bgL l k))] ∧ Sv 54 [(0, .list false 1 (iC l)), (1, .int .i64 n), (5, .sl 0 k 0 k), (6, .int .i64 k)] ρ, n, [(5, 2)], ?_, ?_⟩
  · exact ⟨0, by omega, rfl, Sv.intro rfl ⟨rfl, rfl, rfl, rfl, trivial⟩⟩
  rintro m ρ H1 ⟨k, hk, rfl, d, rfl⟩
  (conv => whnf); refine recA (fun hlt => ?_) (fun hlt => ?_)
  · simp at hlt
    have b0 := atV_bounds l (3 * k)
    have b1 := atV_bounds l (3 * k + 1)
    have b2 := atV_bounds l (3 * k + 2)
    have e0 : IntKind.i64.wrap (3 * (k : Int)) = 3 * k := wrapI _ (by omega) (by omega)
    have e1 : IntKind.i64.wrap (3 * (k : Int) + 1) = 3 * k + 1 := wrapI _ (by omega) (by omega)
    have e2 : IntKind.i64.wrap (3 * (k : Int) + 2) = 3 * k + 2 := wrapI _ (by omega) (by omega)
    conv => whnf
    rw [e0]
    (conv => whnf); refine ACalls.use (At_spec F.warehousebase_At false l _ _) ?_
    conv => whnf
    rw [e0, e1]
    (conv => whnf); refine ACalls.use (At_spec F.warehousebase_At false l _ _) ?_
    (conv => whnf); refine And.intro (by decide) ?_
    (conv => whnf); refine ACalls.use (Any_spec F.warehousebase_Any _ _) ?_
    conv => whnf
    rw [e0, e2]
    (conv => whnf); refine ACalls.use (At_spec F.warehousebase_At false l _ _) ?_
    (conv => whnf); refine And.intro (by decide) ?_
    (conv => whnf); refine ACalls.use (Any_spec F.warehousebase_Any _ _) ?_
    (conv => whnf); refine And.intro (by decide) ?_
    have eq : ∀ q : Int, q = IntKind.i64.wrap ((atV l (3 * k)).tdiv 2) → IntKind.i64.wrap (q.tmod 7 - 3) = atV l (3 * k) / 2 % 7 - 3 := fun q hq => by
      rw [hq, Int.tdiv_eq_ediv_of_nonneg b0.1, wrapI (atV l (3 * k) / 2) (by omega) (by omega), Int.tmod_eq_emod_of_nonneg (by omega)]
      exact wrapI _ (by omega) (by omega)
    have hp : atV l (3 * k) % 2 = 0 ∨ atV l (3 * k) % 2 = 1 := by omega
    rcases hp with hp | hp
    · have eT : IntKind.i64.wrap (1 + (atV l (3 * k)).tmod 2) = 1 := by rw [Int.tmod_eq_emod_of_nonneg b0.1, hp]; rfl
      have hE : bgE l k = ⟨[anyV ((atV l (3 * k + 1)).tmod 30)], atV l (3 * k) / 2 % 7 - 3⟩ := by rw [bgE, hp]; rfl
      conv => whnf
      rw [eT]
      (conv => whnf); refine And.intro (⟨by decide, by simp⟩) ?_
      (conv => whnf); refine And.intro (by decide) ?_
      (conv => whnf); refine And.intro (by decide) ?_
      (conv => whnf); refine recT (by rw [eC_length, bgL_len]; exact Nat.beq_refl _) ?_
      (conv => whnf); refine And.intro (⟨roomMul (by simp; omega) (by omega), roomB_le (by simp; omega), rfl, by rw [eC_length, bgL_len]⟩) ?_
      conv => whnf
      refine ⟨m - 1, by omega, Gp.one 0 2 (eC (bgL l (k + 1))) (by rw [bgL_succ, eC_append, hE, ← eq _ rfl]; rfl) (pureEs_eC _) rfl ?_ fun ρ1 h => ⟨k + 1, by omega, rfl, h⟩⟩
      have hl : ∀ x : List AVal, (eC (bgL l k) ++ [x]).length = k + 1 := fun x => by rw [List.length_append, eC_length, bgL_len]; rfl
      exact ⟨.closed (.list false 1 (iC l)) rfl, .closed _ rfl, pubSl (k := 0) rfl rfl (hl _) (hl _), pub_int (wrapI _ (by omega) (by omega)), trivial⟩
    · have eT : IntKind.i64.wrap (1 + (atV l (3 * k)).tmod 2) = 2 := by rw [Int.tmod_eq_emod_of_nonneg b0.1, hp]; rfl
      have hE : bgE l k = ⟨[anyV ((atV l (3 * k + 1)).tmod 30), anyV ((atV l (3 * k + 2)).tmod 30)], atV l (3 * k) / 2 % 7 - 3⟩ := by rw [bgE, hp]; rfl
      conv => whnf
      rw [eT]
      (conv => whnf); refine And.intro (⟨by decide, by simp⟩) ?_
      (conv => whnf); refine And.intro (by decide) ?_
      (conv => whnf); refine And.intro (by decide) ?_
      (conv => whnf); refine recT (by rw [eC_length, bgL_len]; exact Nat.beq_refl _) ?_
      (conv => whnf); refine And.intro (⟨roomMul (by simp; omega) (by omega), roomB_le (by simp; omega), rfl, by rw [eC_length, bgL_len]⟩) ?_
      conv => whnf
      refine ⟨m - 1, by omega, Gp.one 0 2 (eC (bgL l (k + 1))) (by rw [bgL_succ, eC_append, hE, ← eq _ rfl]; rfl) (pureEs_eC _) rfl ?_ fun ρ1 h => ⟨k + 1, by omega, rfl, h⟩⟩
      have hl : ∀ x : List AVal, (eC (bgL l k) ++ [x]).length = k + 1 := fun x => by rw [List.length_append, eC_length, bgL_len]; rfl
      exact ⟨.closed (.list false 1 (iC l)) rfl, .closed _ rfl, pubSl (k := 0) rfl rfl (hl _) (hl _), pub_int (wrapI _ (by omega) (by omega)), trivial⟩
  · simp at hlt
    have hk2 : k = n := by omega
    subst hk2
    have h := ref6_Normalize_w F.warehouseref6_Normalize false (bgL l k) (by rw [bgL_len]; omega) []
    rw [(bgV_ok l hn).1] at h
    have hel : (eC (bgL l k)).length = k := by rw [eC_length, bgL_len]
    conv => whnf
    refine Ghost.none (n := 54) (live := [(5, .list false 2 (eC (bgL l k)))]) rfl ?_ ?_
    · exact ⟨pubF rfl hel.symm hel.symm (pureEs_eC _), trivial⟩
    rintro ρ1 ⟨d, rfl⟩
    (conv => whnf); refine ACalls.use (h) ?_
    conv => whnf
    exact .closed (.list false 2 (eC (bgV l k))) (by simp [AVal.closed, AVal.isPure])

end Go.AW

namespace Go.AW
attribute [local irreducible] ACalls
theorem and15 (n : Int) : ∃ k : Nat, k ≤ 15 ∧ and64 n 15 = k := by
  have h : and64 n 15 = n % 16 := and64_mask n 4 (by omega)
  exact ⟨(n % 16).toNat, by omega, by rw [h]; omega⟩

theorem and7 (n : Int) : ∃ k : Nat, k ≤ 7 ∧ and64 n 7 = k := by
  have h : and64 n 7 = n % 8 := and64_mask n 3 (by omega)
  exact ⟨(n % 8).toNat, by omega, by rw [h]; omega⟩

set_option maxRecDepth 20000 in
theorem law_BagSums {P : Program} (F : F_warehouselaw6_BagSums P) (hS : SortL P F.warehouselaw6_known.bag_Normalize) (r s : List Ent) (l m : List Int) (n : Int) :
    ACalls P F.id [.list false 2 (eC r), .list false 2 (eC s), .list false 1 (iC l), .list false 1 (iC m), .int .i64 n] [] (fun q _ => q = .bool true) := by
  have known := fun H => known6_spec F.warehouselaw6_known hS H
  refine acalls_of_body F.has ?_
  (conv => whnf); refine ACalls.use (light6_spec F.warehouselaw6_light false r _) ?_
  (conv => whnf); refine recA (fun h1 => ?_) (fun h1 => ?_)
  · conv => whnf
    refine (known _).mono ?_
    rintro r H1 ⟨rfl, rfl⟩
    conv => whnf
  (conv => whnf); refine ACalls.use (light6_spec F.warehouselaw6_light false s _) ?_
  (conv => whnf); refine recA (fun h2 => ?_) (fun h2 => ?_)
  · conv => whnf
    refine (known _).mono ?_
    rintro r H1 ⟨rfl, rfl⟩
    conv => whnf
  clear h1 h2
  conv => whnf
  refine ⟨fun c ρ H1 => ∃ (i : Nat) (r s : List Ent), i + c = 2 ∧ H1 = [] ∧ Sv 112 [(0, .list false 2 (eC r)), (1, .list false 2 (eC s)), (2, .list false 1 (iC l)), (3, .list false 1 (iC m)), (4, .int .i64 n), (11, .int .i64 i)] ρ, 2, [], ?_, ?_⟩
  · exact ⟨0, r, s, rfl, rfl, Sv.intro rfl ⟨rfl, rfl, rfl, rfl, rfl, rfl, trivial⟩⟩
  rintro c ρ H1 ⟨i, r, s, hi, rfl, d, rfl⟩
  (conv => whnf); refine recA (fun hlt => ?_) (fun hlt => ?_)
  · simp at hlt
    (conv => whnf); refine ACalls.use (bag_Add_w F.bag_Add false false r s _) ?_
    (conv => whnf); refine ACalls.use (ref6_Add_w F.warehouseref6_Add false false r s _) ?_
    (conv => whnf); refine ACalls.use (bag_Subtract_w F.bag_Subtract false false r s _) ?_
    (conv => whnf); refine ACalls.use (ref6_Subtract_w F.warehouseref6_Subtract false false r s _) ?_
    (conv => whnf); refine ACalls.use (bag_Negate_w F.bag_Negate false r _) ?_
    (conv => whnf); refine ACalls.use (ref6_Negate_w F.warehouseref6_Negate false r _) ?_
    (conv => whnf); refine ACalls.use (Same_bag F.warehouseref6_Same false false _ _ (addP_good r s).1 _) ?_
    (conv => whnf); refine recF (by rw [eqD_true rfl]; rfl) ?_
    (conv => whnf); refine recF (by simp) ?_
    (conv => whnf); refine ACalls.use (Same_bag F.warehouseref6_Same false false _ _ (subP_good r s).1 _) ?_
    (conv => whnf); refine recF (by rw [eqD_true rfl]; rfl) ?_
    (conv => whnf); refine recF (by simp) ?_
    (conv => whnf); refine ACalls.use (Same_bag F.warehouseref6_Same false false _ _ (negP_good r).1 _) ?_
    (conv => whnf); refine recF (by rw [eqD_true rfl]; rfl) ?_
    (conv => whnf); refine recF (by simp) ?_
    obtain ⟨k1, hk1, e1⟩ := and15 n
    obtain ⟨k2, hk2, e2⟩ := and15 (shrI n 4)
    have hB1 := fun H => Bag_spec F.warehousebase_Bag l k1 (by omega) H
    have hB2 := fun H => Bag_spec F.warehousebase_Bag m k2 (by omega) H
    rw [← e1] at hB1
    rw [← e2] at hB2
    (conv => whnf); refine ACalls.use (hB1 _) ?_
    (conv => whnf); refine And.intro (by decide) ?_
    (conv => whnf); refine ACalls.use (hB2 _) ?_
    conv => whnf
    refine ⟨c - 1, by omega, Gp.none rfl ?_ fun ρ1 h => ⟨i + 1, bgV l k1, bgV m k2, by omega, rfl, h⟩⟩
    exact ⟨.closed (.list false 2 (eC (bgV l k1))) (by simp [AVal.closed, AVal.isPure]), .closed (.list false 2 (eC (bgV m k2))) (by simp [AVal.closed, AVal.isPure]), .closed (.list false 1 (iC l)) (by simp [AVal.closed, AVal.isPure]), .closed (.list false 1 (iC m)) (by simp [AVal.closed, AVal.isPure]), .closed _ rfl, pub_int (wrapI _ (by omega) (by omega)), trivial⟩
  · simp at hlt
    conv => whnf
    refine (known _).mono ?_
    rintro r H1 ⟨rfl, rfl⟩
    conv => whnf

end Go.AW

namespace Go.AW
attribute [local irreducible] ACalls
theorem Bag_and7 {P : Program} (F : F_warehousebase_Bag P) (l : List Int) (x : Int) : ∃ k : Nat, k ≤ 7 ∧ ∀ H, ACalls P F.id [.list false 1 (iC l), .int .i64 (and64 x 7)] H (fun r H' => r = .list false 2 (eC (bgV l k)) ∧ H' = H) := by
  obtain ⟨k, hk, e⟩ := and7 x
  exact ⟨k, hk, fun H => by rw [e]; exact Bag_spec F l k (by omega) H⟩

set_option maxRecDepth 20000 in
theorem law_BagGroups {P : Program} (F : F_warehouselaw6_BagGroups P) (hS : SortL P F.warehouselaw6_known.bag_Normalize) (l m q : List Int) (n : Int) :
    ACalls P F.id [.list false 1 (iC l), .list false 1 (iC m), .list false 1 (iC q), .int .i64 n] [] (fun r _ => r = .bool true) := by
  have known := fun H => known6_spec F.warehouselaw6_known hS H
  obtain ⟨k1, hk1, hB1⟩ := Bag_and7 F.warehousebase_Bag l n
  obtain ⟨k2, hk2, hB2⟩ := Bag_and7 F.warehousebase_Bag m (shrI n 3)
  obtain ⟨k3, hk3, hB3⟩ := Bag_and7 F.warehousebase_Bag q (shrI n 6)
  obtain ⟨_, a1, a2, a3⟩ := bgV_ok l (n := k1) (by omega)
  obtain ⟨_, b1, b2, b3⟩ := bgV_ok m (n := k2) (by omega)
  obtain ⟨_, c1, c2, c3⟩ := bgV_ok q (n := k3) (by omega)
  obtain ⟨a, ea⟩ : ∃ a, a = bgV l k1 := ⟨_, rfl⟩
  obtain ⟨b, eb⟩ : ∃ a, a = bgV m k2 := ⟨_, rfl⟩
  obtain ⟨c, ec⟩ : ∃ a, a = bgV q k3 := ⟨_, rfl⟩
  rw [← ea] at hB1 a1 a2 a3
  rw [← eb] at hB2 b1 b2 b3
  rw [← ec] at hB3 c1 c2 c3
  obtain ⟨ab0, ab1, ab2, ab3⟩ := addP_ok a1 b1 (by omega) fun r => (smallB_iff _).2 (by have := a3 r; have := b3 r; omega)
  obtain ⟨ba0, ba1, ba2, ba3⟩ := addP_ok b1 a1 (by omega) fun r => (smallB_iff _).2 (by have := a3 r; have := b3 r; omega)
  obtain ⟨le0, le1, le2, le3⟩ := addP_ok ab1 c1 (by omega) fun r => (smallB_iff _).2 (by rw [ab3]; have := a3 r; have := b3 r; have := c3 r; omega)
  obtain ⟨bc0, bc1, bc2, bc3⟩ := addP_ok b1 c1 (by omega) fun r => (smallB_iff _).2 (by have := c3 r; have := b3 r; omega)
  obtain ⟨ri0, ri1, ri2, ri3⟩ := addP_ok a1 bc1 (by omega) fun r => (smallB_iff _).2 (by rw [bc3]; have := a3 r; have := b3 r; have := c3 r; omega)
  obtain ⟨bk0, bk1, bk2, bk3⟩ := subP_ok ab1 b1 (by omega) fun r => (smallB_iff _).2 (by rw [ab3]; have := a3 r; have := b3 r; omega)
  obtain ⟨ne0, ne1, ne2, ne3⟩ := negP_ok a1
  obtain ⟨no0, no1, no2, no3⟩ := addP_ok a1 ne1 (by omega) fun r => (smallB_iff _).2 (by rw [ne3]; have := a3 r; omega)
  have e1 : (addP a b).1 = (addP b a).1 := bagB_ext ab1 ba1 fun r => by rw [ab3, ba3]; omega
  have e2 : (addP (addP a b).1 c).1 = (addP a (addP b c).1).1 := bagB_ext le1 ri1 fun r => by rw [le3, ri3, ab3, bc3]; omega
  have e3 : (subP (addP a b).1 b).1 = a := bagB_ext bk1 a1 fun r => by rw [bk3, ab3]; omega
  have e4 : (addP a (negP a).1).1 = [] := bagB_ext no1 rfl fun r => by rw [no3, ne3]; show _ = 0; omega
  refine acalls_of_body F.has ?_
  (conv => whnf); refine ACalls.use (hB1 _) ?_
  (conv => whnf); refine And.intro (by decide) ?_
  (conv => whnf); refine ACalls.use (hB2 _) ?_
  (conv => whnf); refine And.intro (by decide) ?_
  (conv => whnf); refine ACalls.use (hB3 _) ?_
  (conv => whnf); refine ACalls.use (bag_Add_w F.bag_Add false false a b _) ?_
  (conv => whnf); refine ACalls.use (bag_Add_w F.bag_Add false false b a _) ?_
  (conv => whnf); refine ACalls.use (bag_Add_w F.bag_Add false false _ c _) ?_
  (conv => whnf); refine ACalls.use (bag_Add_w F.bag_Add false false b c _) ?_
  (conv => whnf); refine ACalls.use (bag_Add_w F.bag_Add false false a _ _) ?_
  (conv => whnf); refine ACalls.use (bag_Subtract_w F.bag_Subtract false false _ b _) ?_
  (conv => whnf); refine ACalls.use (bag_Negate_w F.bag_Negate false a _) ?_
  (conv => whnf); refine ACalls.use (bag_Add_w F.bag_Add false false a _ _) ?_
  conv => whnf
  rw [ab0, ba0, le0, bc0, ri0, bk0, ne0, no0]
  refine ⟨fun c' ρ H1 => ∃ k : Nat, k + c' = 8 ∧ H1 = [] ∧ Sv 129 [(9, .list false 2 (eC a)), (12, .list false 2 (eC (addP a b).1)), (14, .list false 2 (eC (addP b a).1)), (16, .list false 2 (eC (addP (addP a b).1 c).1)),
    (20, .list false 2 (eC (addP a (addP b c).1).1)), (22, .list false 2 (eC (subP (addP a b).1 b).1)), (26, .list false 2 (eC (addP a (negP a).1).1)), (99, .list true 1 (List.replicate 8 [.int .i64 0])), (100, .int .i64 8), (101, .int .i64 k)] ρ, 8, [], ?_, ?_⟩
  · exact ⟨0, rfl, rfl, Sv.intro rfl ⟨rfl, rfl, rfl, rfl, rfl, rfl, rfl, rfl, rfl, rfl, trivial⟩⟩
  rintro c' ρ H1 ⟨k, hk, rfl, d, rfl⟩
  (conv => whnf); refine recA (fun hlt => ?_) (fun hlt => ?_)
  · simp at hlt
    have hx : (List.replicate 8 [AVal.int .i64 0])[k]? = some [.int .i64 0] := by rw [List.getElem?_replicate, if_pos (by omega)]
    (conv => whnf); refine And.intro (by simp <;> omega) ?_
    (conv => whnf); refine recO (hx) ?_
    conv => whnf
    have cl : ∀ (x : List Ent) (H1 : List AObj), Pub H1 0 [] (.list false 2 (eC x)) (.list false 2 (eC x)) := fun x H1 => .closed _ (by simp [AVal.closed, AVal.isPure])
    refine ⟨c' - 1, by omega, Gp.none rfl ?_ fun ρ1 h => ⟨k + 1, by omega, rfl, h⟩⟩
    exact ⟨cl _ _, cl _ _, cl _ _, cl _ _, cl _ _, cl _ _, cl _ _, .closed (.list true 1 (List.replicate 8 [.int .i64 0])) rfl, .closed _ rfl, pub_int (wrapI _ (by omega) (by omega)), trivial⟩
  · simp at hlt
    (conv => whnf); refine ACalls.use (Same_bag F.warehouseref6_Same false false _ _ ab1 _) ?_
    (conv => whnf); refine recT (eqD_true e1) ?_
    (conv => whnf); refine ACalls.use (Same_bag F.warehouseref6_Same false false _ _ le1 _) ?_
    (conv => whnf); refine recT (eqD_true e2) ?_
    (conv => whnf); refine ACalls.use (Same_bag F.warehouseref6_Same false false _ _ bk1 _) ?_
    (conv => whnf); refine recT (eqD_true e3) ?_
    conv => whnf
    rw [e4]
    (conv => whnf); refine ACalls.mono (known _) ?_
    rintro r H1 ⟨rfl, rfl⟩
    conv => whnf

end Go.AW

