/-
  An abstract machine over the model, the code of functions on it, and their contracts: what the claim needs.
  No condition: definitions, plain laws, contracts over any program that has this code.
-/
import Derived.Test.YtiigcfeklofcaaaZ3
set_option linter.all false
namespace Go.AW
variable [Draws]
attribute [local irreducible] ACalls
def wsum (φ : List V → Int) : List Ent → Int
  | [] => 0
  | e :: l => e.cnt * φ e.row + wsum φ l

def ind (r : List V) (s : List V) : Int := if rowsCmp s r = 0 then 1 else 0

theorem cntL_wsum : ∀ (l : List Ent) (r : List V), cntL l r = wsum (ind r) l
  | [], _ => rfl
  | e :: l, r => by
    rw [cntL, wsum, cntL_wsum l r, ind]
    split <;> simp

theorem wsum_mrg (φ : List V → Int) : ∀ (a b : List Ent), wsum φ (mrg a b) = wsum φ a + wsum φ b
  | [], b => by rw [mrg_nil, wsum]; omega
  | x :: a, [] => by rw [mrg_nil2]; simp [wsum]
  | x :: a, y :: b => by
    rw [mrg_cons]
    have ex : wsum φ (x :: a) = x.cnt * φ x.row + wsum φ a := rfl
    have ey : wsum φ (y :: b) = y.cnt * φ y.row + wsum φ b := rfl
    split
    · rw [wsum, wsum_mrg φ a (y :: b), ex]; omega
    split
    · rw [wsum, wsum_mrg φ (x :: a) b, ey]; omega
    · have hr : x.row = y.row := (rowsCmp_zero _ _).1 (by have := rowsCmp_vals x.row y.row; omega)
      rw [wsum, wsum_mrg φ a b, ex, ey]
      simp only [hr, Int.add_mul]; omega
termination_by a b => a.length + b.length

theorem wsum_nz (φ : List V → Int) : ∀ (l : List Ent), wsum φ (l.filter nzB) = wsum φ l
  | [] => rfl
  | e :: l => by
    rw [List.filter_cons]
    split
    · rw [wsum, wsum, wsum_nz φ l]
    · rename_i h
      have : e.cnt = 0 := by simpa [nzB] using h
      rw [wsum, wsum_nz φ l, this]; simp

def wt (φ : List V → Int) (x : It) : Int := if x.v.kind ≠ 0 then x.c * φ [x.v] else 0

def tot (f : It → Int) : List It → Int
  | [] => 0
  | x :: l => f x + tot f l

theorem tot_append (f : It → Int) : ∀ (a b : List It), tot f (a ++ b) = tot f a + tot f b
  | [], b => by simp [tot]
  | x :: a, b => by rw [List.cons_append, tot, tot, tot_append f a b]; omega

theorem tot_bound (f : It → Int) (B : Int) (hB : 0 ≤ B) : ∀ (l : List It), (∀ x ∈ l, -B ≤ f x ∧ f x ≤ B) → -(B * l.length) ≤ tot f l ∧ tot f l ≤ B * l.length
  | [], _ => by simp [tot]
  | x :: l, h => by
    have h1 := tot_bound f B hB l fun x hx => h x (List.mem_cons_of_mem _ hx)
    have h2 := h x (List.mem_cons_self ..)
    rw [tot, List.length_cons, Int.natCast_add, Int.mul_add]
    simp only [Int.natCast_one, Int.mul_one]
    omega

structure Rep (G : Grp) (l : List It) : Prop where
  ok : grpB G = 0
  n : G.n = tot It.c l
  cnt : ∀ φ, wsum φ G.vals = tot (wt φ) l
  len : G.vals.length ≤ l.length

def ItOk (x : It) : Prop := validB x.v = true ∧ -5 ≤ x.c ∧ x.c ≤ 5

theorem wt_bound (x : It) (h : ItOk x) (r : List V) : -5 ≤ wt (ind r) x ∧ wt (ind r) x ≤ 5 := by
  obtain ⟨_, h1, h2⟩ := h
  unfold wt ind
  split
  · split <;> omega
  · omega

theorem oneB_row {a b : Ent} (h : a.row = b.row) : oneB a = oneB b := by unfold oneB; rw [h]

theorem Rep.merge {G G' : Grp} {p q : List It} (h : Rep G p) (h' : Rep G' q) (hp : ∀ x ∈ p, ItOk x) (hq : ∀ x ∈ q, ItOk x) (hl : p.length + q.length ≤ 4096) :
    mrgE G G' = 0 ∧ Rep (mrgG G G') (p ++ q) := by
  obtain ⟨_, g1, g2, g3⟩ := grpB_ok h.ok
  obtain ⟨_, k1, k2, k3⟩ := grpB_ok h'.ok
  have hpq : ∀ x ∈ p ++ q, ItOk x := fun x hx => (List.mem_append.1 hx).elim (hp x) (hq x)
  have hn := tot_bound It.c 5 (by omega) (p ++ q) fun x hx => (hpq x hx).2
  rw [tot_append, List.length_append] at hn
  have hc : ∀ r, cntL (mrg G.vals G'.vals) r = tot (wt (ind r)) (p ++ q) := fun r => by rw [cntL_wsum, wsum_mrg, h.cnt, h'.cnt, tot_append]
  have hcs : ∀ r, smallB (cntL (mrg G.vals G'.vals) r) = true := fun r => by
    have := tot_bound (wt (ind r)) 5 (by omega) (p ++ q) fun x hx => wt_bound x (hpq x hx) r
    rw [List.length_append] at this
    rw [hc, smallB]; simp; omega
  have hml := mrg_length G.vals G'.vals
  have hl1 := h.len
  have hl2 := h'.len
  have hfl := List.length_filter_le nzB (mrg G.vals G'.vals)
  have hs := srt_mrg _ _ ((bagB_iff _).1 g2).2.2 ((bagB_iff _).1 k2).2.2
  have hrow : ∀ e ∈ mrg G.vals G'.vals, (e.row.length ≤ 12 ∧ e.row.all validB = true) ∧ oneB e = true := fun e he => by
    rcases mem_mrg _ _ e he with ⟨x, hx, hxr⟩ | ⟨x, hx, hxr⟩
    · exact ⟨hxr ▸ fit_row g2 x hx, oneB_row hxr ▸ List.all_eq_true.1 g3 x hx⟩
    · exact ⟨hxr ▸ fit_row k2 x hx, oneB_row hxr ▸ List.all_eq_true.1 k3 x hx⟩
  obtain ⟨r1, r2⟩ := resOk hs (by omega) (fun e he => (hrow e he).1) hcs
  have hrows : rowsB (G.n + G'.n) = true := by rw [h.n, h'.n, rowsB]; simp; omega
  have hE : mrgE G G' = 0 := by
    rw [mrgE, if_neg (by simp [hrows]), sumE, if_neg (by simp [g2]), if_neg (by simp [k2]), if_pos r1]
  have hG : mrgG G G' = ⟨G.n + G'.n, sumL G.vals G'.vals⟩ := by rw [mrgG, if_pos hE]
  refine ⟨hE, ?_⟩
  rw [hG]
  refine ⟨grpB_intro hrows r2 (List.all_eq_true.2 fun e he => (hrow e (List.mem_filter.1 he).1).2), ?_, fun φ => ?_, ?_⟩
  · rw [tot_append, ← h.n, ← h'.n]
  · show wsum φ ((mrg G.vals G'.vals).filter nzB) = _
    rw [wsum_nz, wsum_mrg, h.cnt, h'.cnt, tot_append]
  · rw [List.length_append]
    show ((mrg G.vals G'.vals).filter nzB).length ≤ _
    omega

theorem Rep.nil : Rep g0 [] := ⟨grpB_intro rfl rfl rfl, rfl, fun _ => rfl, Nat.le_refl _⟩

theorem Rep.one (x : It) (h : ItOk x) : Rep (oneG x.v x.c) [x] := by
  obtain ⟨hv, h1, h2⟩ := h
  have hsm : smallB x.c = true := by simp [smallB]; omega
  have hr : rowsB x.c = true := by simp [rowsB]; omega
  by_cases hx : x.v.kind ≠ 0 ∧ x.c ≠ 0
  · have ho : oneG x.v x.c = ⟨x.c, [⟨[x.v], x.c⟩]⟩ := by rw [oneG, if_pos hx]
    rw [ho]
    refine ⟨grpB_intro hr (bagB_one _ _ hv hx.2 hsm) (by simp [oneB, hx.1]), by simp [tot], fun φ => ?_, by simp⟩
    simp only [tot, wsum, wt]; rw [if_pos hx.1]
  · have ho : oneG x.v x.c = ⟨x.c, []⟩ := by rw [oneG, if_neg hx]
    rw [ho]
    refine ⟨grpB_intro hr rfl rfl, by simp [tot], fun φ => ?_, by simp⟩
    simp only [tot, wsum, wt]
    split
    · rename_i hk
      have : x.c = 0 := Classical.byContradiction fun hn => hx ⟨hk, hn⟩
      rw [this]; simp
    · rfl

theorem Rep.add {G : Grp} {p : List It} {x : It} (h : Rep G p) (hp : ∀ x ∈ p, ItOk x) (hx : ItOk x) (hl : p.length + 1 ≤ 4096) :
    addGE G x.v x.c = 0 ∧ Rep (addGG G x.v x.c) (p ++ [x]) := by
  have hsm : smallB x.c = true := by have := hx.2; simp [smallB]; omega
  have hpre : preE G x.v x.c = 0 := by rw [preE, if_neg (by simp [h.ok]), if_neg (by simp [hx.1]), if_neg (by simp [hsm])]
  have hm := h.merge (Rep.one x hx) hp (fun y hy => by rw [List.mem_singleton] at hy; subst hy; exact hx) (by simpa using hl)
  rw [addGE, addGG, if_neg (by simp [hpre]), if_neg (by simp [hpre])]
  exact hm

end Go.AW

namespace Go.AW
variable [Draws]
attribute [local irreducible] ACalls
def pureO : AObj → Bool
  | .arr _ es => pureEs es
  | .iter _ _ => true
  | .map kvs => kvs.all fun kv => kv.2.isPure

theorem gpO_of {H : List AObj} {ids : List Nat} : ∀ (is : List Nat) (r : List AObj), is.length = r.length → (∀ (k id : Nat) (o : AObj), is[k]? = some id → r[k]? = some o → H[id]? = some o ∧ pureO o = true) → gpO H ids is r
  | [], [], _, _ => trivial
  | [], _ :: _, h, _ => by simp at h
  | _ :: _, [], h, _ => by simp at h
  | id :: is, o :: r, hl, h => by
    obtain ⟨h1, h2⟩ := h 0 id o rfl rfl
    refine ⟨⟨o, h1, ?_⟩, gpO_of is r (by simpa using hl) fun k id o h1 h2 => h (k + 1) id o (by simpa using h1) (by simpa using h2)⟩
    cases o with
    | arr s es => exact .same s es h2
    | iter s p => exact .iter s p
    | map kvs => exact .mp kvs h2

theorem Gp.first {n : Nat} {live : List (Nat × AVal)} {ρ : List AVal} {H : List AObj} {I : List AVal → List AObj → Prop} (k : Nat) (H1 : List AObj) (hk : H.take k = H1) (hn : H1.length = k) (hp : H1.all pureO = true)
    (hl : ρ.length = n) (h : SvPub H (List.range k) ρ live) (hI : ∀ ρ1, Sv n live ρ1 → I ρ1 H1) : Gp [] ρ H I := by
  refine Gp.some (H1 := H1) (List.range k) List.nodup_range (gpO_of _ _ (by simp [hn]) fun j id o h1 h2 => ?_) hl h hI
  have hj := (List.getElem?_eq_some_iff.1 h2).1
  rw [List.getElem?_range (by omega)] at h1
  cases h1
  refine ⟨?_, List.all_eq_true.1 hp o (List.mem_of_getElem? h2)⟩
  rw [← hk, List.getElem?_take] at h2
  rwa [if_pos (by omega)] at h2

end Go.AW

namespace Go.AW
variable [Draws]
def BItem (x : It) : Prop := validB x.v = true ∧ 0 ≤ x.c ∧ x.c ≤ 5 ∧ (x.v.kind ≠ 0 → x.v.kind = 2 ∧ -1073741824 ≤ x.v.num ∧ x.v.num ≤ 1073741824)

theorem BItem.ok {x : It} (h : BItem x) : ItOk x := ⟨h.1, by have := h.2.1; omega, h.2.2.1⟩

end Go.AW

namespace Go.AW
variable [Draws]
attribute [local irreducible] ACalls
def beN : Nat → Int → List Int
  | 0, _ => []
  | k + 1, n => beN k (n / 256) ++ [n % 256]

theorem beN_length : ∀ (k : Nat) (n : Int), (beN k n).length = k
  | 0, _ => rfl
  | k + 1, n => by rw [beN, List.length_append, beN_length k]; rfl

theorem beN_byt : ∀ (k : Nat) (n : Int), Byt (beN k n)
  | 0, _ => fun x h => by simp [beN] at h
  | k + 1, n => fun x h => by
    rw [beN] at h
    rcases List.mem_append.1 h with h | h
    · exact beN_byt k _ x h
    · rw [List.mem_singleton] at h; subst h; omega

def w2 (n : Int) : List Int := [u8 (n.fdiv (2 ^ 8)), u8 n]

theorem w2_eq (n : Int) : w2 n = beN 2 n := by
  simp only [w2, beN, u8_eq, List.nil_append, List.singleton_append]
  rw [Int.fdiv_eq_ediv_of_nonneg _ (by omega)]; rfl

theorem w4_eq (n : Int) : w4 n = beN 4 n := by
  simp only [w4, beN, u8_eq, List.nil_append, List.singleton_append, List.cons_append]
  rw [Int.fdiv_eq_ediv_of_nonneg _ (by omega), Int.fdiv_eq_ediv_of_nonneg _ (by omega), Int.fdiv_eq_ediv_of_nonneg _ (by omega)]
  congr 1
  · omega
  congr 1
  · omega

def p4 (n : Int) : List Int := w2 (IntKind.i64.wrap (n.fdiv (2 ^ 16))) ++ [u8 (n.fdiv (2 ^ 8)), u8 n]

theorem p4_eq (n : Int) (h0 : 0 ≤ n) (h1 : n < 4294967296) : p4 n = beN 4 n := by
  have e : n.fdiv (2 ^ 16) = n / 65536 := Int.fdiv_eq_ediv_of_nonneg _ (by omega)
  rw [p4, e, wrapI _ (by omega) (by omega), w2_eq]
  simp only [beN, u8_eq, List.nil_append, List.singleton_append, List.cons_append]
  rw [Int.fdiv_eq_ediv_of_nonneg _ (by omega)]
  congr 1
  · omega
  congr 1
  · omega

set_option maxRecDepth 20000 in
theorem put2_spec {P : Program} (F : F_batch_put2 P) (H : List AObj) (id : Nat) (es : List (List AVal)) (n : Int) (ho : H[id]? = some (.arr 1 es)) (hl : es.length ≤ 1000000) :
    ACalls P F.id [.sl id es.length 0 es.length, .int .i64 n] H (fun r H' => r = .sl id (es ++ bC (w2 n)).length 0 (es ++ bC (w2 n)).length ∧ H' = H.set id (.arr 1 (es ++ bC (w2 n)))) := by
  refine acalls_of_body F.has ?_
  repeat' ((conv => whnf); first | refine And.intro (by decide) ?_ | refine recO ho ?_ | refine recT (Nat.beq_refl _) ?_)
  conv => whnf
  refine And.intro ⟨?_, ?_, rfl, rfl⟩ ?_
  · exact roomB_le1 (by simp; omega)
  · exact roomB_le (by simp; omega)
  rw [setO_eq]
  conv => whnf
  exact ⟨rfl, rfl⟩

set_option maxRecDepth 20000 in
theorem put2_nil {P : Program} (F : F_batch_put2 P) (n : Int) :
    ACalls P F.id [.nil, .int .i64 n] [] (fun r H' => r = .sl 0 2 0 2 ∧ H' = [.arr 1 (bC (w2 n))]) := by
  refine acalls_of_body F.has ?_
  (conv => whnf); refine And.intro (by decide) ?_
  (conv => whnf); refine And.intro (⟨roomB_le1 (by simp), roomB_le (by simp)⟩) ?_
  conv => whnf
  exact ⟨rfl, rfl⟩

set_option maxRecDepth 20000 in
theorem put4_spec {P : Program} (F : F_batch_put4 P) (H : List AObj) (id : Nat) (es : List (List AVal)) (n : Int) (ho : H[id]? = some (.arr 1 es)) (hl : es.length ≤ 990000) :
    ACalls P F.id [.sl id es.length 0 es.length, .int .u32 n] H (fun r H' => r = .sl id (es ++ bC (p4 n)).length 0 (es ++ bC (p4 n)).length ∧ H' = H.set id (.arr 1 (es ++ bC (p4 n)))) := by
  have hid := (List.getElem?_eq_some_iff.1 ho).1
  refine acalls_of_body F.has ?_
  (conv => whnf); refine And.intro (by decide) ?_
  (conv => whnf); refine ACalls.mono (put2_spec F.batch_put2 H id es (IntKind.i64.wrap (n.fdiv (2 ^ 16))) ho (by omega)) ?_
  rintro r H' ⟨rfl, rfl⟩
  have ho2 : (H.set id (.arr 1 (es ++ bC (w2 (IntKind.i64.wrap (n.fdiv (2 ^ 16)))))))[id]? = some (.arr 1 (es ++ bC (w2 (IntKind.i64.wrap (n.fdiv (2 ^ 16)))))) := List.getElem?_set_self hid
  (conv => whnf); refine And.intro (by decide) ?_
  (conv => whnf); refine recO (ho2) ?_
  (conv => whnf); refine recT (Nat.beq_refl _) ?_
  conv => whnf
  refine And.intro ⟨?_, ?_, rfl, rfl⟩ ?_
  · exact roomB_le1 (by simp [bC_length, w2]; omega)
  · exact roomB_le (by simp [bC_length, w2]; omega)
  rw [setO_eq]
  conv => whnf
  have e : es ++ bC (p4 n) = es ++ bC (w2 (IntKind.i64.wrap (n.fdiv (2 ^ 16)))) ++ bC [u8 (n.fdiv (2 ^ 8)), u8 n] := by rw [p4, bC_append, List.append_assoc]
  rw [e]
  exact ⟨rfl, by rw [List.set_set]; rfl⟩

set_option maxRecDepth 20000 in
theorem put4_nil {P : Program} (F : F_batch_put4 P) (n : Int) (H : List AObj) :
    ACalls P F.id [.nil, .int .u32 n] H (fun r H' => r = .list false 1 (bC (p4 n)) ∧ H' = H) := by
  refine ACalls.frz1 (n := 4) rfl ?_ rfl (pureEs_bC _)
  refine acalls_of_body F.has ?_
  (conv => whnf); refine And.intro (by decide) ?_
  (conv => whnf); refine ACalls.mono (put2_nil F.batch_put2 (IntKind.i64.wrap (n.fdiv (2 ^ 16)))) ?_
  rintro r H' ⟨rfl, rfl⟩
  (conv => whnf); refine And.intro (by decide) ?_
  (conv => whnf); refine And.intro (⟨roomB_le1 (by simp), roomB_le (by simp), rfl, rfl⟩) ?_
  conv => whnf
  exact ⟨rfl, rfl⟩

theorem byteCells_eq (s : ByteArray) : byteCells s.data.toList = bC (bytesI s) := by simp [byteCells, bC, bytesI]

theorem bytesI_length (s : ByteArray) : (bytesI s).length = s.size := by simp [bytesI]

set_option maxRecDepth 20000 in
theorem putText_spec {P : Program} (F : F_batch_putText P) (H : List AObj) (id : Nat) (es : List (List AVal)) (s : ByteArray) (ho : H[id]? = some (.arr 1 es)) (hl : es.length ≤ 100000) (hs : s.size ≤ 100000) :
    ACalls P F.id [.sl id es.length 0 es.length, .str s] H (fun r H' => r = .sl id (es ++ bC (u8 s.size :: bytesI s)).length 0 (es ++ bC (u8 s.size :: bytesI s)).length ∧ H' = H.set id (.arr 1 (es ++ bC (u8 s.size :: bytesI s)))) := by
  have hid := (List.getElem?_eq_some_iff.1 ho).1
  have hbl := bytesI_length s
  refine acalls_of_body F.has ?_
  (conv => whnf); refine recO (ho) ?_
  (conv => whnf); refine recT (Nat.beq_refl _) ?_
  conv => whnf
  refine And.intro ⟨?_, ?_, rfl, rfl⟩ ?_
  · exact roomB_le1 (by simp; omega)
  · exact roomB_le (by simp; omega)
  rw [setO_eq]
  have ho2 : (H.set id (.arr 1 (es ++ [[AVal.int .u8 (u8 s.size)]])))[id]? = some (.arr 1 (es ++ [[AVal.int .u8 (u8 s.size)]])) := List.getElem?_set_self hid
  (conv => whnf); refine recO (ho2) ?_
  (conv => whnf); refine recT (Nat.beq_refl _) ?_
  conv => whnf
  refine And.intro ⟨?_, ?_, rfl, rfl⟩ ?_
  · exact roomB_le1 (by rw [byteCells_eq]; simp [bC_length]; omega)
  · exact roomB_le (by rw [byteCells_eq]; simp [bC_length]; omega)
  rw [setO_eq]
  conv => whnf
  have e : es ++ bC (u8 s.size :: bytesI s) = es ++ [[AVal.int .u8 (u8 s.size)]] ++ byteCells s.data.toList := by rw [byteCells_eq]; simp [bC]
  rw [e]
  exact ⟨rfl, by rw [List.set_set]⟩

def fnvS (s c : Int) : Int := IntKind.u32.wrap (IntKind.u32.wrap (BitVec.ofInt 32 s ^^^ BitVec.ofInt 32 (IntKind.u32.wrap c)).toNat * 16777619)

def fnvG (l : List Int) (s : Int) : Int := l.foldl fnvS s

def fnv (l : List Int) : Int := fnvG l 2166136261

theorem u32_wrap (n : Int) : IntKind.u32.wrap n = n % 4294967296 := by simp [IntKind.wrap, IntKind.bits, IntKind.signed]

theorem fnvS_bound (s c : Int) : 0 ≤ fnvS s c ∧ fnvS s c < 4294967296 := by rw [fnvS, u32_wrap]; omega

theorem fnvG_bound : ∀ (l : List Int) (s : Int), 0 ≤ s → s < 4294967296 → 0 ≤ fnvG l s ∧ fnvG l s < 4294967296
  | [], s, h1, h2 => ⟨h1, h2⟩
  | c :: l, s, _, _ => fnvG_bound l (fnvS s c) (fnvS_bound s c).1 (fnvS_bound s c).2

theorem fnv_bound (l : List Int) : 0 ≤ fnv l ∧ fnv l < 4294967296 := fnvG_bound l _ (by decide) (by decide)

theorem bC_get {l : List Int} {k : Nat} {x : Int} (h : l[k]? = some x) : (bC l)[k]? = some [.int .u8 x] := by rw [bC, List.getElem?_map, h]; rfl

set_option maxRecDepth 20000 in
theorem Checksum_spec {P : Program} (F : F_batch_Checksum P) (ex : Bool) (l : List Int) (hl : l.length ≤ 100000000) (H : List AObj) :
    ACalls P F.id [.list ex 1 (bC l)] H (fun r H' => r = .int .u32 (fnv l) ∧ H' = H) := by
  refine ACalls.pure rfl (acalls_of_body F.has ?_)
  conv => whnf
  refine ⟨fun m ρ H1 => ∃ (k : Nat) (s : Int), k + m = l.length ∧ fnvG (l.drop k) s = fnv l ∧ H1 = [] ∧
    Sv 19 [(3, .int .u32 s), (6, .list ex 1 (bC l)), (7, .int .i64 l.length), (8, .int .i64 k)] ρ, l.length, [], ?_, ?_⟩
  · exact ⟨0, _, by omega, rfl, rfl, Sv.intro rfl ⟨rfl, rfl, intEq (by rw [bC_length]), rfl, trivial⟩⟩
  rintro m ρ H1 ⟨k, s, hk, hr, rfl, d, rfl⟩
  (conv => whnf); refine recA (fun hlt => ?_) (fun hlt => ?_)
  · simp at hlt
    obtain ⟨x, hx, hd, _⟩ := get_drop hlt
    rw [hd] at hr
    (conv => whnf); refine And.intro (by omega) ?_
    (conv => whnf); refine recO (bC_get hx) ?_
    conv => whnf
    refine ⟨m - 1, by omega, Gp.keep rfl ?_ fun ρ1 h => ⟨k + 1, fnvS s x, by omega, hr, rfl, h⟩⟩
    exact ⟨rfl, rfl, rfl, intEq (wrapI ((k : Int) + 1) (by omega) (by omega)), trivial⟩
  · simp at hlt
    conv => whnf
    rw [List.drop_eq_nil_of_le hlt] at hr
    exact pubI hr

end Go.AW

namespace Go.AW
variable [Draws]
attribute [local irreducible] ACalls
structure Rec where
  del : Bool
  seq : Int
  row : List V

structure Fil where
  id : ByteArray
  src : ByteArray
  recs : List Rec

def recC (r : Rec) : List AVal := [.bool r.del, .int .i64 r.seq, .list false 3 (vC r.row)]

def rC (l : List Rec) : List (List AVal) := l.map recC

def fV (f : Fil) : List AVal := [.str f.id, .str f.src, .list false 3 (rC f.recs)]

theorem rC_length (l : List Rec) : (rC l).length = l.length := List.length_map ..

theorem rC_append (a b : List Rec) : rC (a ++ b) = rC a ++ rC b := List.map_append

theorem pureEs_rC (l : List Rec) : pureEs (rC l) = true := by simp [pureEs, rC, recC, AVal.isPure]

theorem rC_at {l : List Rec} {k : Nat} {x : Rec} (h : l[k]? = some x) : (rC l)[k]? = some (recC x) := by rw [rC, List.getElem?_map, h]; rfl

def rowE (row : List V) : Int := if 12 < row.length then 2 else if row.all validB then 0 else 8

theorem encR_eq (row : List V) : encR row = if rowE row = 0 then .tuple [.list false 1 (bC (encB row)), .int .i64 0] else .tuple [.nil, .int .i64 (rowE row)] := by
  unfold encR rowE
  split
  · rw [if_neg (by decide)]
  · split
    · rw [if_pos rfl]
    · rw [if_neg (by decide)]

theorem rowE_zero {row : List V} (h : rowE row = 0) : row.length ≤ 12 ∧ row.all validB = true := by
  unfold rowE at h
  split at h
  · cases h
  · split at h
    · exact ⟨by omega, by assumption⟩
    · cases h

theorem encB_len {row : List V} (h : rowE row = 0) : (encB row).length ≤ 793 := by
  obtain ⟨h1, h2⟩ := rowE_zero h
  have := encK_len row row.length (by rw [List.take_length]; exact h2)
  rw [encK, List.take_length] at this
  show (u8 row.length :: row.flatMap encV).length ≤ 793
  omega

def recE (r : Rec) : Int := if r.seq < 0 ∨ 1073741824 < r.seq then 1 else rowE r.row

def recsE : List Rec → Int
  | [] => 0
  | r :: l => if recE r ≠ 0 then recE r else recsE l

def filE (f : Fil) : Int := if nameB f.id = false ∨ qualB f.src = false then 4 else if 1024 < f.recs.length then 2 else recsE f.recs

theorem recsE_zero : ∀ {l : List Rec}, recsE l = 0 → ∀ r ∈ l, recE r = 0
  | [], _, r, hr => by simp at hr
  | x :: l, h, r, hr => by
    rw [recsE] at h
    split at h
    · rename_i hx; exact absurd h hx
    · rename_i hx
      rcases List.mem_cons.1 hr with rfl | hr
      · simpa using hx
      · exact recsE_zero h r hr

theorem recE_zero {r : Rec} (h : recE r = 0) : 0 ≤ r.seq ∧ r.seq ≤ 1073741824 ∧ rowE r.row = 0 := by
  unfold recE at h
  split at h
  · cases h
  · exact ⟨by omega, by omega, h⟩

set_option maxRecDepth 20000 in
theorem batch_Validate_spec {P : Program} (F : F_batch_Validate P) (f : Fil) (hs : f.src.size ≤ 1000000) (H : List AObj) :
    ACalls P F.id [.agg (fV f)] H (fun r H' => r = .int .i64 (filE f) ∧ H' = H) := by
  refine ACalls.pure (by simp [AVal.closed, fV, AVal.isPure]) (acalls_of_body F.has ?_)
  (conv => whnf); refine ACalls.use (schema_IsName_spec F.schema_IsName f.id _) ?_
  (conv => whnf); refine recA (fun h1 => ?_) (fun h1 => ?_)
  · replace h1 : (!(nameB f.id)) = true := h1
    simp at h1
    conv => whnf
    exact pubI (by rw [filE, if_pos (.inl h1)])
  replace h1 : (!(nameB f.id)) = false := h1
  simp at h1
  (conv => whnf); refine ACalls.use (schema_IsQualified_spec F.schema_IsQualified f.src hs _) ?_
  (conv => whnf); refine recA (fun h2 => ?_) (fun h2 => ?_)
  · replace h2 : (!(qualB f.src)) = true := h2
    simp at h2
    conv => whnf
    exact pubI (by rw [filE, if_pos (.inr h2)])
  replace h2 : (!(qualB f.src)) = false := h2
  simp at h2
  (conv => whnf); refine recA (fun h3 => ?_) (fun h3 => ?_)
  · simp [rC_length] at h3
    conv => whnf
    exact pubI (by rw [filE, if_neg (by simp [h1, h2]), if_pos (by omega)])
  simp [rC_length] at h3
  have hR : recsE f.recs = filE f := by rw [filE, if_neg (by simp [h1, h2]), if_neg (by omega)]
  conv => whnf
  refine ⟨fun m ρ H1 => ∃ k : Nat, k + m = f.recs.length ∧ recsE (f.recs.drop k) = recsE f.recs ∧ H1 = [.arr 3 [fV f]] ∧
    Sv 46 [(22, .list false 3 (rC f.recs)), (23, .int .i64 f.recs.length), (24, .int .i64 k)] ρ, f.recs.length, [], ?_, ?_⟩
  · exact ⟨0, by omega, rfl, rfl, Sv.intro rfl ⟨rfl, intEq (by rw [rC_length]), rfl, trivial⟩⟩
  rintro m ρ H1 ⟨k, hk, hr, rfl, d, rfl⟩
  (conv => whnf); refine recA (fun hlt => ?_) (fun hlt => ?_)
  · simp at hlt
    obtain ⟨x, hx, hd, _⟩ := get_drop hlt
    rw [hd, recsE] at hr
    (conv => whnf); refine And.intro (by omega) ?_
    (conv => whnf); refine recO (rC_at hx) ?_
    (conv => whnf); refine recA (fun h4 => ?_) (fun h4 => ?_)
    · simp at h4
      have hx0 : recE x = 1 := by rw [recE, if_pos (by omega)]
      rw [hx0, if_pos (by decide)] at hr
      conv => whnf
      exact pubI (by rw [← hR, hr])
    simp at h4
    (conv => whnf); refine recA (fun h5 => ?_) (fun h5 => ?_)
    · simp at h5
      have hx0 : recE x = 1 := by rw [recE, if_pos (by omega)]
      rw [hx0, if_pos (by decide)] at hr
      conv => whnf
      exact pubI (by rw [← hR, hr])
    simp at h5
    have hrow := encode_list F.value_Encode false x.row
    rw [encR_eq] at hrow
    by_cases hz : rowE x.row = 0
    · rw [if_pos hz] at hrow
      have hx0 : recE x = 0 := by rw [recE, if_neg (by omega)]; exact hz
      rw [if_neg (by simp [hx0])] at hr
      (conv => whnf); refine ACalls.use (hrow _) ?_
      conv => whnf
      refine ⟨m - 1, by omega, Gp.first 1 [.arr 3 [fV f]] rfl rfl (by simp [pureO, pureEs, fV, AVal.isPure]) rfl ?_ fun ρ1 h => ⟨k + 1, by omega, hr, rfl, h⟩⟩
      exact ⟨.closed _ rfl, .closed _ rfl, pub_int (wrapI ((k : Int) + 1) (by omega) (by omega)), trivial⟩
    · rw [if_neg hz] at hrow
      have hx0 : recE x = rowE x.row := by rw [recE, if_neg (by omega)]
      rw [if_pos (by rw [hx0]; exact hz), hx0] at hr
      (conv => whnf); refine ACalls.use (hrow _) ?_
      (conv => whnf); refine recT (by show (!(rowE x.row == 0)) = true; simp [hz]) ?_
      conv => whnf
      exact pubI (by rw [← hR, hr])
  · simp at hlt
    conv => whnf
    rw [List.drop_eq_nil_of_le hlt, recsE] at hr
    exact pubI (by rw [← hR, hr])

end Go.AW

namespace Go.AW
variable [Draws]
attribute [local irreducible] ACalls
def recB (r : Rec) : List Int := (if r.del then 1 else 0) :: (beN 4 r.seq ++ (beN 2 (encB r.row).length ++ encB r.row))

def headB (f : Fil) : List Int := [87, 72, 70, 49] ++ (u8 f.id.size :: bytesI f.id) ++ (u8 f.src.size :: bytesI f.src) ++ beN 2 f.recs.length

def bodyB (f : Fil) : List Int := headB f ++ f.recs.flatMap recB

def filB (f : Fil) : List Int := bodyB f ++ beN 4 (fnv (bodyB f))

def encFE (f : Fil) : Int := if filE f ≠ 0 then filE f else if 65536 < (filB f).length then 2 else 0

def encFR (f : Fil) : AVal := if encFE f = 0 then .tuple [.list false 1 (bC (filB f)), .int .i64 0] else .tuple [.nil, .int .i64 (encFE f)]

theorem recB_len {r : Rec} (h : recE r = 0) : (recB r).length ≤ 800 := by
  have := encB_len (recE_zero h).2.2
  simp only [recB, List.length_cons, List.length_append, beN_length]; omega

theorem recsB_len : ∀ {l : List Rec}, recsE l = 0 → (l.flatMap recB).length ≤ 800 * l.length
  | [], _ => by simp
  | r :: l, h => by
    have h1 := recB_len (recsE_zero h r (List.mem_cons_self ..))
    have h2 := recsB_len (l := l) (by rw [recsE] at h; split at h; (rename_i hx; exact absurd h hx); exact h)
    rw [List.flatMap_cons, List.length_append, List.length_cons]; omega

theorem recB_byt {r : Rec} (h : Byt (encB r.row)) : Byt (recB r) := by
  intro x hx
  rw [recB] at hx
  rcases List.mem_cons.1 hx with rfl | hx
  · split <;> omega
  · rcases List.mem_append.1 hx with hx | hx
    · exact beN_byt _ _ x hx
    · rcases List.mem_append.1 hx with hx | hx
      · exact beN_byt _ _ x hx
      · exact h x hx

set_option maxRecDepth 20000 in
theorem putRecord_spec {P : Program} (F : F_batch_putRecord P) (a c : AObj) (es : List Int) (r : Rec) (hl : es.length ≤ 980000) (hr : recE r = 0) :
    ACalls P F.id [.sl 1 es.length 0 es.length, .agg (recC r)] [a, .arr 1 (bC es), c] (fun q H' => q = .sl 1 (es ++ recB r).length 0 (es ++ recB r).length ∧ H' = [a, .arr 1 (bC (es ++ recB r)), c, .arr 3 [recC r]]) := by
  obtain ⟨s0, s1, hrow⟩ := recE_zero hr
  have hE := encode_list F.value_Encode false r.row
  rw [encR_eq, if_pos hrow] at hE
  have hel := encB_len hrow
  have ew : IntKind.u32.wrap r.seq = r.seq := by rw [u32_wrap]; omega
  have e4 : p4 (IntKind.u32.wrap r.seq) = beN 4 r.seq := by rw [ew, p4_eq _ s0 (by omega)]
  have e2 := w2_eq ((encB r.row).length : Int)
  refine acalls_of_body F.has ?_
  (conv => whnf); refine ACalls.use (hE _) ?_
  (conv => whnf); refine recA (fun hd => ?_) (fun hd => ?_)
  · replace hd : r.del = true := hd
    have hB : recB r = 1 :: (p4 (IntKind.u32.wrap r.seq) ++ (w2 (encB r.row).length ++ encB r.row)) := by rw [e4, e2]; exact (by simp [recB, hd])
    have hF : bC (es ++ recB r) = bC es ++ [[.int .u8 1]] ++ bC (p4 (IntKind.u32.wrap r.seq)) ++ bC (w2 (encB r.row).length) ++ bC (encB r.row) := by
      rw [hB]; simp [bC]
    have l4 : (p4 (IntKind.u32.wrap r.seq)).length = 4 := by rw [e4, beN_length]
    have l2 : (w2 ((encB r.row).length : Int)).length = 2 := by rw [e2, beN_length]
    (conv => whnf); refine recT (by rw [bC_length]; exact Nat.beq_refl _) ?_
    (conv => whnf); refine And.intro (⟨roomB_le1 (by simp; omega), roomB_le (by simp; omega), rfl, by rw [bC_length]⟩) ?_
    (conv => whnf); refine ⟨_, _, put4_spec F.batch_put4 [a, .arr 1 (bC es ++ [[.int .u8 1]]), c, .arr 3 [recC r]] 1 (bC es ++ [[.int .u8 1]]) (IntKind.u32.wrap r.seq) rfl (by simp [bC_length]; omega), ?_⟩
    (conv => whnf); refine And.intro (rfl) ?_
    (conv => whnf); refine ACalls.mono (put2_spec F.batch_put2 [a, .arr 1 (bC es ++ [[.int .u8 1]] ++ bC (p4 (IntKind.u32.wrap r.seq))), c, .arr 3 [recC r]] 1 (bC es ++ [[.int .u8 1]] ++ bC (p4 (IntKind.u32.wrap r.seq))) (bC (encB r.row)).length rfl (by simp [bC_length]; omega)) ?_
    rintro q H' ⟨rfl, rfl⟩
    rw [bC_length (encB r.row)]
    (conv => whnf); refine recT (Nat.beq_refl _) ?_
    (conv => whnf); refine And.intro (⟨roomB_le1 (by simp [bC_length]; omega), roomB_le (by simp [bC_length]; omega), rfl, rfl⟩) ?_
    conv => whnf
    refine ⟨slEq ?_ ?_, ?_⟩
    · rw [← bC_length (es ++ recB r), hF]
    · rw [← bC_length (es ++ recB r), hF]
    · rw [hF]
  · replace hd : r.del = false := hd
    have hB : recB r = 0 :: (p4 (IntKind.u32.wrap r.seq) ++ (w2 (encB r.row).length ++ encB r.row)) := by rw [e4, e2]; exact (by simp [recB, hd])
    have hF : bC (es ++ recB r) = bC es ++ [[.int .u8 0]] ++ bC (p4 (IntKind.u32.wrap r.seq)) ++ bC (w2 (encB r.row).length) ++ bC (encB r.row) := by
      rw [hB]; simp [bC]
    have l4 : (p4 (IntKind.u32.wrap r.seq)).length = 4 := by rw [e4, beN_length]
    have l2 : (w2 ((encB r.row).length : Int)).length = 2 := by rw [e2, beN_length]
    (conv => whnf); refine recT (by rw [bC_length]; exact Nat.beq_refl _) ?_
    (conv => whnf); refine And.intro (⟨roomB_le1 (by simp; omega), roomB_le (by simp; omega), rfl, by rw [bC_length]⟩) ?_
    (conv => whnf); refine ⟨_, _, put4_spec F.batch_put4 [a, .arr 1 (bC es ++ [[.int .u8 0]]), c, .arr 3 [recC r]] 1 (bC es ++ [[.int .u8 0]]) (IntKind.u32.wrap r.seq) rfl (by simp [bC_length]; omega), ?_⟩
    (conv => whnf); refine And.intro (rfl) ?_
    (conv => whnf); refine ACalls.mono (put2_spec F.batch_put2 [a, .arr 1 (bC es ++ [[.int .u8 0]] ++ bC (p4 (IntKind.u32.wrap r.seq))), c, .arr 3 [recC r]] 1 (bC es ++ [[.int .u8 0]] ++ bC (p4 (IntKind.u32.wrap r.seq))) (bC (encB r.row)).length rfl (by simp [bC_length]; omega)) ?_
    rintro q H' ⟨rfl, rfl⟩
    rw [bC_length (encB r.row)]
    (conv => whnf); refine recT (Nat.beq_refl _) ?_
    (conv => whnf); refine And.intro (⟨roomB_le1 (by simp [bC_length]; omega), roomB_le (by simp [bC_length]; omega), rfl, rfl⟩) ?_
    conv => whnf
    refine ⟨slEq ?_ ?_, ?_⟩
    · rw [← bC_length (es ++ recB r), hF]
    · rw [← bC_length (es ++ recB r), hF]
    · rw [hF]

theorem Checksum_own {P : Program} (F : F_batch_Checksum P) (l : List Int) (hl : l.length ≤ 100000000) (H : List AObj) (id : Nat) (ho : H[id]? = some (.arr 1 (bC l))) :
    ACalls P F.id [.sl id l.length 0 l.length] H (fun r H' => r = .int .u32 (fnv l) ∧ H' = H) := by
  refine ACalls.bor rfl ((Checksum_spec F false l hl []).mono fun r H' h => h.1) (Lents.cons ?_ Lents.nil)
  have := Lent.sl (H := H) id l.length 0 l.length 1 (bC l) ho (by rw [bC_length]) (pureEs_bC _)
  have e : ((bC l).drop 0).take l.length = bC l := by rw [List.drop_zero, List.take_of_length_le (by rw [bC_length]; exact Nat.le_refl _)]
  rwa [e] at this

theorem slCast {id a b : Nat} (h : a = b) : AVal.sl id a 0 a = .sl id b 0 b := by rw [h]

set_option maxRecDepth 20000 in
theorem batch_Encode_spec {P : Program} (F : F_batch_Encode P) (f : Fil) (hi : f.id.size ≤ 50000) (hs : f.src.size ≤ 50000) (H : List AObj) :
    ACalls P F.id [.agg (fV f)] H (fun r H' => r = encFR f ∧ H' = H) := by
  refine ACalls.pure (by simp [AVal.closed, fV, AVal.isPure]) (acalls_of_body F.has ?_)
  (conv => whnf); refine ACalls.use (batch_Validate_spec F.batch_Validate f (by omega) _) ?_
  (conv => whnf); refine recA (fun h1 => ?_) (fun h1 => ?_)
  · replace h1 : (!(filE f == 0)) = true := h1
    simp at h1
    have hE : encFE f = filE f := by rw [encFE, if_pos h1]
    conv => whnf
    rw [encFR, if_neg (by rw [hE]; exact h1), hE]
    exact pub2 (.closed _ rfl) (.closed _ rfl)
  replace h1 : (!(filE f == 0)) = false := h1
  simp at h1
  have hrec : recsE f.recs = 0 ∧ f.recs.length ≤ 1024 := by
    unfold filE at h1
    split at h1
    · cases h1
    · split at h1
      · cases h1
      · exact ⟨h1, by omega⟩
  have hE : encFE f = if 65536 < (filB f).length then 2 else 0 := by rw [encFE, if_neg (by simp [h1])]
  (conv => whnf); refine ⟨_, _, putText_spec F.batch_putText [.arr 3 [fV f], .arr 1 (bC [87, 72, 70, 49])] 1 (bC [87, 72, 70, 49]) f.id rfl (by simp [bC]) (by omega), ?_⟩
  (conv => whnf); refine ⟨_, _, putText_spec F.batch_putText [.arr 3 [fV f], .arr 1 (bC [87, 72, 70, 49] ++ bC (u8 f.id.size :: bytesI f.id))] 1 (bC [87, 72, 70, 49] ++ bC (u8 f.id.size :: bytesI f.id)) f.src rfl (by simp [bC, bytesI_length]; omega) (by omega), ?_⟩
  repeat ((conv => whnf); refine And.intro rfl ?_)
  have hhead : bC (headB f) = bC [87, 72, 70, 49] ++ bC (u8 f.id.size :: bytesI f.id) ++ bC (u8 f.src.size :: bytesI f.src) ++ bC (w2 (rC f.recs).length) := by
    rw [rC_length, w2_eq]; simp [headB, bC]
  have hhl : (headB f).length ≤ 100100 := by simp [headB, bytesI_length, beN_length]; omega
  (conv => whnf); refine ACalls.mono (put2_spec F.batch_put2 [.arr 3 [fV f], .arr 1 (bC [87, 72, 70, 49] ++ bC (u8 f.id.size :: bytesI f.id) ++ bC (u8 f.src.size :: bytesI f.src))] 1 (bC [87, 72, 70, 49] ++ bC (u8 f.id.size :: bytesI f.id) ++ bC (u8 f.src.size :: bytesI f.src)) (rC f.recs).length rfl (by simp [bC, bytesI_length]; omega)) ?_
  rintro r H' ⟨rfl, rfl⟩
  rw [← hhead]
  have hbl : ∀ k, (headB f ++ (f.recs.take k).flatMap recB).length ≤ 980000 := fun k => by
    have h1 : ∀ l : List Rec, recsE l = 0 → recsE (l.take k) = 0 := by
      intro l
      induction l generalizing k with
      | nil => intro _; simp [recsE]
      | cons r l ih =>
        intro h
        cases k with
        | zero => simp [recsE]
        | succ k =>
          rw [recsE] at h
          split at h
          · rename_i hx; exact absurd h hx
          · rename_i hx
            rw [List.take_succ_cons, recsE, if_neg hx]
            exact ih k h
    have h2 := recsB_len (h1 _ hrec.1)
    have h3 : (f.recs.take k).length ≤ f.recs.length := by rw [List.length_take]; omega
    rw [List.length_append]; omega
  conv => whnf
  refine ⟨fun m ρ H1 => ∃ k : Nat, k + m = f.recs.length ∧ H1 = [.arr 3 [fV f], .arr 1 (bC (headB f ++ (f.recs.take k).flatMap recB))] ∧
    Sv 45 [(5, .sl 1 (headB f ++ (f.recs.take k).flatMap recB).length 0 (headB f ++ (f.recs.take k).flatMap recB).length), (27, .list false 3 (rC f.recs)), (28, .int .i64 f.recs.length), (29, .int .i64 k)] ρ, f.recs.length, [], ?_, ?_⟩
  · refine ⟨0, by omega, by simp, Sv.intro rfl ⟨slCast (by rw [bC_length]; simp), rfl, intEq (by rw [rC_length]), rfl, trivial⟩⟩
  rintro m ρ H1 ⟨k, hk, rfl, d, rfl⟩
  (conv => whnf); refine recA (fun hlt => ?_) (fun hlt => ?_)
  · simp at hlt
    obtain ⟨x, hx, hd, hxm⟩ := get_drop hlt
    have htk : headB f ++ (f.recs.take (k + 1)).flatMap recB = headB f ++ (f.recs.take k).flatMap recB ++ recB x := by rw [List.take_add_one, hx]; simp
    (conv => whnf); refine And.intro (by omega) ?_
    (conv => whnf); refine recO (rC_at hx) ?_
    (conv => whnf); refine ACalls.mono (putRecord_spec F.batch_putRecord _ _ (headB f ++ (f.recs.take k).flatMap recB) x (hbl k) (recsE_zero hrec.1 x hxm)) ?_
    rintro q H' ⟨rfl, rfl⟩
    rw [← htk]
    conv => whnf
    refine ⟨m - 1, by omega, Gp.first 2 [.arr 3 [fV f], .arr 1 (bC (headB f ++ (f.recs.take (k + 1)).flatMap recB))] rfl rfl (by simp [pureO, pureEs_bC]; simp [pureEs, fV, AVal.isPure]) rfl ?_ fun ρ1 h => ⟨k + 1, by omega, rfl, h⟩⟩
    exact ⟨.keep 1 _ _ _ 1 rfl, .closed _ rfl, .closed _ rfl, pub_int (wrapI ((k : Int) + 1) (by omega) (by omega)), trivial⟩
  simp at hlt
  have hkl : f.recs.take k = f.recs := List.take_of_length_le hlt
  have hb9 := hbl k
  rw [hkl] at hb9 ⊢
  rw [show headB f ++ f.recs.flatMap recB = bodyB f from rfl] at hb9 ⊢
  (conv => whnf); refine ACalls.use (Checksum_own F.batch_Checksum (bodyB f) (by omega) _ 1 rfl) ?_
  have hp := put4_spec F.batch_put4 [.arr 3 [fV f], .arr 1 (bC (bodyB f))] 1 (bC (bodyB f)) (fnv (bodyB f)) rfl (by rw [bC_length]; omega)
  rw [p4_eq _ (fnv_bound _).1 (fnv_bound _).2, ← bC_append, show bodyB f ++ beN 4 (fnv (bodyB f)) = filB f from rfl, bC_length, bC_length] at hp
  (conv => whnf); refine ACalls.mono (hp) ?_
  rintro q H' ⟨rfl, rfl⟩
  (conv => whnf); refine recT (by rw [bC_length]; exact Nat.beq_refl _) ?_
  (conv => whnf); refine recA (fun h2 => ?_) (fun h2 => ?_)
  · simp at h2
    have hE2 : encFE f = 2 := by rw [hE, if_pos (by omega)]
    conv => whnf
    rw [encFR, if_neg (by rw [hE2]; decide), hE2]
    exact pub2 (.closed _ rfl) (.closed _ rfl)
  · simp at h2
    have hE2 : encFE f = 0 := by rw [hE, if_neg (by omega)]
    conv => whnf
    rw [encFR, if_pos hE2]
    exact pub2 (pubF (id := 1) rfl (by rw [bC_length]) (by rw [bC_length]) (pureEs_bC _)) (.closed _ rfl)

end Go.AW

namespace Go.AW
variable [Draws]
attribute [local irreducible] ACalls
theorem filE_ok {f : Fil} (h1 : filE f = 0) : recsE f.recs = 0 ∧ f.recs.length ≤ 1024 ∧ nameB f.id = true ∧ qualB f.src = true := by
  unfold filE at h1
  split at h1
  · cases h1
  · rename_i hn
    split at h1
    · cases h1
    · refine ⟨h1, by omega, ?_, ?_⟩
      · cases h : nameB f.id with
        | true => rfl
        | false => exact absurd (.inl h) hn
      · cases h : qualB f.src with
        | true => rfl
        | false => exact absurd (.inr h) hn

theorem bytesI_byt (s : ByteArray) : Byt (bytesI s) := fun x hx => by
  obtain ⟨b, _, rfl⟩ := List.mem_map.1 hx
  have := b.toNat_lt; omega

theorem encV_byt (v : V) : Byt (encV v) := by
  intro x hx
  unfold encV at hx
  have hu : ∀ n, 0 ≤ u8 n ∧ u8 n ≤ 255 := fun n => by rw [u8_eq]; omega
  rcases List.mem_cons.1 hx with rfl | hx
  · exact hu _
  · split at hx
    · rw [List.mem_singleton] at hx; subst hx; exact hu _
    · split at hx
      · rw [w4_eq] at hx; exact beN_byt _ _ x hx
      · split at hx
        · rw [w4_eq] at hx; exact beN_byt _ _ x hx
        · split at hx
          · rcases List.mem_cons.1 hx with rfl | hx
            · exact hu _
            · exact bytesI_byt _ x hx
          · simp at hx

theorem encB_byt (row : List V) : Byt (encB row) := fun x hx => by
  rcases List.mem_cons.1 hx with rfl | hx
  · rw [u8_eq]; omega
  · obtain ⟨v, _, hv⟩ := List.mem_flatMap.1 hx
    exact encV_byt v x hv

theorem bodyB_byt (f : Fil) : Byt (bodyB f) := by
  intro x hx
  have hu : ∀ n, 0 ≤ u8 n ∧ u8 n ≤ 255 := fun n => by rw [u8_eq]; omega
  rcases List.mem_append.1 hx with hx | hx
  · rw [headB] at hx
    rcases List.mem_append.1 hx with hx | hx
    · rcases List.mem_append.1 hx with hx | hx
      · rcases List.mem_append.1 hx with hx | hx
        · simp at hx; omega
        · rcases List.mem_cons.1 hx with rfl | hx
          · exact hu _
          · exact bytesI_byt _ x hx
      · rcases List.mem_cons.1 hx with rfl | hx
        · exact hu _
        · exact bytesI_byt _ x hx
    · exact beN_byt _ _ x hx
  · obtain ⟨r, _, hr⟩ := List.mem_flatMap.1 hx
    exact recB_byt (encB_byt _) x hr

theorem filB_byt (f : Fil) : Byt (filB f) := fun x hx => (List.mem_append.1 hx).elim (bodyB_byt f x) (beN_byt _ _ x)

end Go.AW

namespace Go.AW
variable [Draws]
section
variable {P : Program} {C C' : Nat → Nat} {τ τ' : Nat → Option Loc} {H H' : List AObj} {w w' : World}
theorem ACalls.gp {f : FuncId} {args : List AVal} {Q0 Q : AVal → List AObj → Prop} (h : ACalls P f args H Q0)
    (hq : ∀ r H', Q0 r H' → Gp (H.map AObj.olen) [r] H' (fun ρ1 H1 => ∃ r', ρ1 = [r'] ∧ Q r' H1)) : ACalls P f args H Q := by
  intro C τ w vs hw hl hr
  have hc := h C τ w vs hw hl hr
  have fin : ∀ (e : Ending) (w' : World), (∃ v r C' τ' H', e = .returned v ∧ Q0 r H' ∧ Rel C' w' τ' H' r v ∧ St w (PrCall τ H w) C' τ' H' w' ∧ Step C τ H w C' τ' H' w') →
      ∃ v r C' τ' H', e = .returned v ∧ Q r H' ∧ Rel C' w' τ' H' r v ∧ St w (PrCall τ H w) C' τ' H' w' ∧ Step C τ H w C' τ' H' w' := by
    rintro e w' ⟨v, r, C1, τ1, H1, he, hq0, hrel, hst, hstep⟩
    let E : Env := ⟨w, PrCall τ H w, C, τ, H, fun b hb hn => Classical.byContradiction fun ho => hn ⟨hb, ho⟩⟩
    have hsa : SA E C1 τ1 [r] H1 { tmps := #[v], defers := [] } w' := by
      refine ⟨hst, hstep, fun t => ?_, rfl, rfl⟩
      cases t with
      | zero => exact hrel
      | succ t => exact .undef _
    obtain ⟨ρ2, H2, C2, τ2, ⟨r', rfl, hQ⟩, hs2⟩ := hsa.regroup (hq r H1 hq0)
    exact ⟨v, r', C2, τ2, H2, he, hQ, hs2.tmps 0, hs2.st, hs2.step⟩
  unfold CallsX at hc ⊢
  split at hc
  · exact Calls.mono hc fun e w' hh => fin e w' hh
  · exact fin _ _ hc
  · exact hc

def AObj.clean : AObj → Bool
  | .arr _ es => pureEs es
  | .iter _ _ => true
  | .map kvs => kvs.all fun kv => kv.2.isPure

theorem pureKvs_get {kvs : List (AVal × AVal)} (h : (kvs.all fun kv => kv.2.isPure) = true) {i : Nat} {kv : AVal × AVal} (hi : kvs[i]? = some kv) : kv.2.isPure = true :=
  List.all_eq_true.1 h kv (List.mem_of_getElem? hi)

inductive Ren (σ : Nat → Nat) : AVal → AVal → Prop where
  | closed (v : AVal) (h : v.closed = true) : Ren σ v v
  | sl (id ep off len : Nat) : Ren σ (.sl id ep off len) (.sl (σ id) ep off len)
  | ptr (id ep idx fld : Nat) : Ren σ (.ptr id ep idx fld) (.ptr (σ id) ep idx fld)
  | agg (vs rs : List AVal) (hl : vs.length = rs.length) (h : ∀ (i : Nat) (v r : AVal), vs[i]? = some v → rs[i]? = some r → Ren σ v r) : Ren σ (.agg vs) (.agg rs)
  | tuple (vs rs : List AVal) (hl : vs.length = rs.length) (h : ∀ (i : Nat) (v r : AVal), vs[i]? = some v → rs[i]? = some r → Ren σ v r) : Ren σ (.tuple vs) (.tuple rs)

inductive RenO (σ : Nat → Nat) : AObj → AObj → Prop where
  | same (o : AObj) (h : o.clean = true) : RenO σ o o
  | arr (esz : Nat) (es es1 : List (List AVal)) (hl : es1.length = es.length) (hl2 : ∀ (i : Nat) (e e1 : List AVal), es[i]? = some e → es1[i]? = some e1 → e1.length = e.length)
      (h : ∀ (i j : Nat) (e e1 : List AVal) (d d1 : AVal), es[i]? = some e → es1[i]? = some e1 → e[j]? = some d → e1[j]? = some d1 → Ren σ d d1 ∧ d1.isCell = true) :
      RenO σ (.arr esz es) (.arr esz es1)

theorem RenO.after {σ : Nat → Nat} {o o0 o1 : AObj} {t t' : Option Loc} (h : RenO σ o0 o1) (ha : o.after o0 t t') : o.after o1 t t' := by
  cases h with
  | same => exact ha
  | arr esz es es1 hl _ _ =>
    cases o with
    | iter _ _ => exact ha
    | map _ => exact ha
    | arr z es0 => exact ⟨ha.1, by rw [hl]; exact ha.2.1, by rw [hl]; exact ha.2.2⟩

theorem RenO.ok {σ : Nat → Nat} {o0 o1 : AObj} (h : RenO σ o0 o1) (ho : o0.ok) : o1.ok := by
  cases h with
  | same => exact ho
  | arr esz es es1 hl hl2 hp =>
    intro e1 he1
    obtain ⟨n, hn⟩ := List.getElem?_of_mem he1
    have hnl := (List.getElem?_eq_some_iff.1 hn).1
    have he : es[n]? = some es[n] := List.getElem?_eq_getElem (by omega)
    obtain ⟨g1, g2⟩ := ho _ (List.mem_of_getElem? he)
    refine ⟨(hl2 n _ _ he hn).trans g1, fun d1 hd1 => ?_⟩
    obtain ⟨j, hj⟩ := List.getElem?_of_mem hd1
    have hjl := (List.getElem?_eq_some_iff.1 hj).1
    have := hl2 n _ _ he hn
    exact (hp n j _ _ _ d1 he hn (List.getElem?_eq_getElem (by omega)) hj).2

def frN (id n : Nat) (k : Nat) : Nat := match k with
  | 0 => id
  | k + 1 => n + k

theorem ACalls.frame1 {f : FuncId} {args0 args : List AVal} {Q0 Q : AVal → List AObj → Prop} {id : Nat} {o : AObj} (ho : H[id]? = some o)
    (hp : o.clean = true)
    (hal : args0.length = args.length) (ha : ∀ (i : Nat) (a b : AVal), args0[i]? = some a → args[i]? = some b → (a = b ∧ a.closed = true) ∨ (∃ ep idx fld, a = .ptr 0 ep idx fld ∧ b = .ptr id ep idx fld) ∨ ∃ ep off len, a = .sl 0 ep off len ∧ b = .sl id ep off len)
    (h : ACalls P f args0 [o] Q0)
    (hq : ∀ r H1, Q0 r H1 → ∃ r' o1 o1' G G', H1 = o1 :: G ∧ Ren (frN id H.length) r r' ∧ RenO (frN id H.length) o1 o1' ∧ G.length = G'.length ∧
      (∀ (k : Nat) (x y : AObj), G[k]? = some x → G'[k]? = some y → RenO (frN id H.length) x y) ∧ Q r' (H.set id o1' ++ G')) : ACalls P f args H Q := by
  intro C τ w vs hw hl hr
  have hid := (List.getElem?_eq_some_iff.1 ho).1
  let τ0 : Nat → Option Loc := fun k => if k = 0 then τ id else none
  have one : ∀ {k : Nat} {x : AObj}, [o][k]? = some x → k = 0 ∧ x = o := fun {k x} h => by
    cases k with
    | zero => simp at h; exact ⟨rfl, h.symm⟩
    | succ k => simp at h
  have hw0 : WF C τ0 [o] w := by
    refine ⟨fun k x h => ?_, fun k x h ht => ?_, fun k x l h ht => ?_, fun k l hk ht => ?_, fun i j li lj hi hj _ _ _ => ?_, hw.lt⟩
    · obtain ⟨rfl, rfl⟩ := one h; exact hw.ok id _ ho
    · obtain ⟨rfl, rfl⟩ := one h; exact hw.virt id _ ho ht
    · obtain ⟨rfl, rfl⟩ := one h
      have hob := hw.objs id _ l ho ht
      cases x with
      | iter s p => exact hob
      | map kvs =>
        obtain ⟨es, clock, a1, a2, a3⟩ := hob
        exact ⟨es, clock, a1, a2, fun i e kv he hkv => ⟨(a3 i e kv he hkv).1, .rd ((a3 i e kv he hkv).2.pure (pureKvs_get hp hkv))⟩⟩
      | arr esz es =>
        obtain ⟨a1, cells, elem, fz, a2, a3, a4, a5⟩ := hob
        refine ⟨a1, cells, elem, fz, a2, a3, a4, fun i j e d hi hd => ?_⟩
        obtain ⟨x, hx1, hx2⟩ := a5 i j e d hi hd
        exact ⟨x, hx1, .rd (hx2.pure (pureEs_get hp hi hd))⟩
    · have hk0 : k = 0 := by simp at hk; omega
      subst hk0; exact hw.comm id l hid ht
    · simp at hi hj; omega
  have hr0 : ∀ (i : Nat) (a : AVal) (v : Value), args0[i]? = some a → vs[i]? = some v → Rel C w τ0 [o] a v := fun i a v h1 h2 => by
    have hi := (List.getElem?_eq_some_iff.1 h1).1
    have hb : args[i]? = some args[i] := List.getElem?_eq_getElem (by omega)
    have hrel := hr i _ v hb h2
    rcases ha i a _ h1 hb with ⟨e, hc⟩ | ⟨ep, idx, fld, rfl, e⟩ | ⟨ep, off, len, rfl, e⟩
    · rw [← e] at hrel
      exact hrel.closed hc (fun _ => Nat.le_refl _) (fun _ _ _ => rfl)
    · rw [e] at hrel
      cases hrel with
      | rd h => cases h
      | ptr _ _ _ _ a esz es ho2 hep h3 =>
        rw [ho] at ho2; cases ho2
        exact .ptr 0 ep idx fld a esz es rfl hep h3
    · rw [e] at hrel
      cases hrel with
      | rd h => cases h
      | sl _ _ _ _ a cap esz es ho2 hep h3 =>
        rw [ho] at ho2; cases ho2
        exact .sl 0 ep off len a cap esz es rfl hep h3
  have hc := h C τ0 w vs hw0 (by omega) hr0
  have fin : ∀ (e : Ending) (w' : World), (∃ v r C' τ' H', e = .returned v ∧ Q0 r H' ∧ Rel C' w' τ' H' r v ∧ St w (PrCall τ0 [o] w) C' τ' H' w' ∧ Step C τ0 [o] w C' τ' H' w') →
      ∃ v r C' τ' H', e = .returned v ∧ Q r H' ∧ Rel C' w' τ' H' r v ∧ St w (PrCall τ H w) C' τ' H' w' ∧ Step C τ H w C' τ' H' w' := by
    rintro e w' ⟨v, r, C1, τ1, H1, he, hq0, hrel, hst, hstep⟩
    obtain ⟨r', o1, o1', G, G', rfl, hrr, hro, hgl, hG, hQ⟩ := hq r H1 hq0
    
    have hoth : ∀ j l, j < H.length → j ≠ id → τ j = some l → PrCall τ0 [o] w l.b := fun j l hj hne ht =>
      ⟨hw.locLt hj ht, by
        rintro ⟨k, l', hk, ht', hb⟩
        have hk0 : k = 0 := by simp at hk; omega
        subst hk0
        exact hne (hw.inj j id l l' hj hid ht ht' hb.symm)⟩
    have hheap : ∀ j l, j < H.length → j ≠ id → τ j = some l → w'.heap[l.b]? = w.heap[l.b]? := fun j l hj hne ht => hst.fr.prot _ (hoth j l hj hne ht)
    let τ2 : Nat → Option Loc := fun i => if i = id then τ1 0 else if i < H.length then τ i else τ1 (i - H.length + 1)
    have t0 : τ2 id = τ1 0 := by simp only [τ2, if_true]
    have tO : ∀ j, j < H.length → j ≠ id → τ2 j = τ j := fun j hj hne => by simp only [τ2, if_neg hne, if_pos hj]
    have tN : ∀ k, τ2 (H.length + k) = τ1 (k + 1) := fun k => by
      simp only [τ2, if_neg (by omega : ¬ H.length + k = id), if_neg (by omega : ¬ H.length + k < H.length), Nat.add_sub_cancel_left]
    have tF : ∀ k, τ2 (frN id H.length k) = τ1 k := fun k => by
      cases k with
      | zero => exact t0
      | succ k => exact tN k
    have gid : (H.set id o1' ++ G')[id]? = some o1' := by rw [List.getElem?_append_left (by rw [List.length_set]; exact hid), List.getElem?_set_self hid]
    have gO : ∀ j, j < H.length → j ≠ id → (H.set id o1' ++ G')[j]? = H[j]? := fun j hj hne => by
      rw [List.getElem?_append_left (by rw [List.length_set]; exact hj), List.getElem?_set_ne (Ne.symm hne)]
    have gN : ∀ k, (H.set id o1' ++ G')[H.length + k]? = G'[k]? := fun k => by
      rw [List.getElem?_append_right (by rw [List.length_set]; omega), List.length_set, Nat.add_sub_cancel_left]
    
    have gF : ∀ k x, (o1 :: G)[k]? = some x → ∃ y, (H.set id o1' ++ G')[frN id H.length k]? = some y ∧ RenO (frN id H.length) x y := fun k x hx => by
      cases k with
      | zero => simp at hx; subst hx; exact ⟨o1', gid, hro⟩
      | succ k =>
        have hk : k < G.length := (List.getElem?_eq_some_iff.1 (by simpa using hx : G[k]? = some x)).1
        have hy : G'[k]? = some G'[k] := List.getElem?_eq_getElem (by omega)
        exact ⟨G'[k], (gN k).trans hy, hG k x _ (by simpa using hx) hy⟩
    have split : ∀ i, i < (H.set id o1' ++ G').length → (i < H.length ∧ i ≠ id) ∨ ∃ k, i = frN id H.length k ∧ k < (o1 :: G).length := fun i hi => by
      rw [List.length_append, List.length_set] at hi
      by_cases h1 : i = id
      · exact .inr ⟨0, h1, by simp⟩
      · by_cases h2 : i < H.length
        · exact .inl ⟨h2, h1⟩
        · exact .inr ⟨i - H.length + 1, by simp only [frN]; omega, by simp; omega⟩
    have frInj : ∀ k k', frN id H.length k = frN id H.length k' → k = k' := fun k k' h => by
      cases k <;> cases k' <;> simp only [frN] at h <;> omega
    have step : Step C τ H w C1 τ2 (H.set id o1' ++ G') w' := by
      refine ⟨hstep.le, hstep.cell, fun j x hx => ?_, hstep.grow, hstep.old⟩
      have hj := (List.getElem?_eq_some_iff.1 hx).1
      by_cases e1 : j = id
      · subst e1
        rw [ho] at hx; cases hx
        obtain ⟨o', h1, h2⟩ := hstep.obj 0 o rfl
        simp at h1; subst h1
        refine ⟨o1', gid, ?_⟩
        rw [t0]
        have : τ0 0 = τ j := by simp only [τ0, if_true]
        rw [this] at h2
        exact hro.after h2
      · exact ⟨x, by rw [gO j hj e1]; exact hx, by rw [tO j hj e1]; exact x.after_refl _⟩
    have ren : ∀ {a b : AVal}, Ren (frN id H.length) a b → ∀ {u : Value}, Rel C1 w' τ1 (o1 :: G) a u → Rel C1 w' τ2 (H.set id o1' ++ G') b u := by
      intro a b hab
      induction hab with
      | closed v h => intro u hu; exact hu.closed h (fun _ => Nat.le_refl _) (fun _ _ _ => rfl)
      | sl k ep off len =>
        intro u hu
        cases hu with
        | rd h => cases h
        | sl _ _ _ _ a cap esz es ho2 hep h3 =>
          obtain ⟨y, hy, hry⟩ := gF k _ ho2
          cases hry with
          | same _ _ => exact .sl _ ep off len a cap esz es hy hep fun e => by rw [tF]; exact h3 e
          | arr _ _ es1 hl1 _ _ => exact .sl _ ep off len a cap esz es1 hy (by omega) fun e => by rw [tF, hl1]; exact h3 (by omega)
      | ptr k ep idx fld =>
        intro u hu
        cases hu with
        | rd h => cases h
        | ptr _ _ _ _ a esz es ho2 hep h3 =>
          obtain ⟨y, hy, hry⟩ := gF k _ ho2
          cases hry with
          | same _ _ => exact .ptr _ ep idx fld a esz es hy hep fun e => by rw [tF]; exact h3 e
          | arr _ _ es1 hl1 _ _ => exact .ptr _ ep idx fld a esz es1 hy (by omega) fun e => by rw [tF]; exact h3 (by omega)
      | agg vs rs hl h ih =>
        intro u hu
        obtain ⟨us, rfl, hl2, hr2⟩ := hu.agg_inv
        refine .agg _ _ (by omega) fun i c v hc hv => ?_
        have hi := (List.getElem?_eq_some_iff.1 hc).1
        have hvi : vs[i]? = some vs[i] := List.getElem?_eq_getElem (by omega)
        exact ih i _ c hvi hc (hr2 i _ v hvi hv)
      | tuple vs rs hl h ih =>
        intro u hu
        obtain ⟨us, rfl, hl2, hr2⟩ := hu.tuple_inv
        refine .tuple _ _ (by omega) fun i c v hc hv => ?_
        have hi := (List.getElem?_eq_some_iff.1 hc).1
        have hvi : vs[i]? = some vs[i] := List.getElem?_eq_getElem (by omega)
        exact ih i _ c hvi hc (hr2 i _ v hvi hv)
    have hgetF : ∀ k, k < (o1 :: G).length → ∃ x, (o1 :: G)[k]? = some x := fun k hk => ⟨_, List.getElem?_eq_getElem hk⟩
    refine ⟨v, r', C1, τ2, H.set id o1' ++ G', he, hQ, ren hrr hrel, ⟨⟨fun i x hx => ?_, fun i x hx ht => ?_, fun i x l hx ht => ?_, fun i l hi ht => ?_, fun i j li lj hi hj hti htj hb => ?_, hst.wf.lt⟩,
      ⟨hst.fr.os, hst.fr.tape, hst.fr.output, hst.fr.size, fun b hb => hst.fr.prot b ⟨hb.1, ?_⟩, hst.fr.drawn⟩, ?_, fun b hb => hb.1⟩, step⟩
    · rcases split i (List.getElem?_eq_some_iff.1 hx).1 with ⟨h1, h2⟩ | ⟨k, rfl, hk⟩
      · rw [gO i h1 h2] at hx; exact hw.ok i x hx
      · obtain ⟨z, hz⟩ := hgetF k hk
        obtain ⟨y, hy, hry⟩ := gF k z hz
        rw [hx] at hy; cases hy
        exact hry.ok (hst.wf.ok k z hz)
    · rcases split i (List.getElem?_eq_some_iff.1 hx).1 with ⟨h1, h2⟩ | ⟨k, rfl, hk⟩
      · rw [gO i h1 h2] at hx; rw [tO i h1 h2] at ht; exact hw.virt i x hx ht
      · obtain ⟨z, hz⟩ := hgetF k hk
        obtain ⟨y, hy, hry⟩ := gF k z hz
        rw [hx] at hy; cases hy
        rw [tF] at ht
        obtain ⟨esz, rfl⟩ := hst.wf.virt k z hz ht
        cases hry with
        | same _ _ => exact ⟨esz, rfl⟩
        | arr _ _ es1 hl1 _ _ =>
          have : es1 = [] := List.length_eq_zero_iff.1 hl1
          subst this; exact ⟨esz, rfl⟩
    · rcases split i (List.getElem?_eq_some_iff.1 hx).1 with ⟨h1, h2⟩ | ⟨k, rfl, hk⟩
      · rw [gO i h1 h2] at hx; rw [tO i h1 h2] at ht
        exact (hw.objs i x l hx ht).mono step (hheap i l h1 h2 ht)
      · obtain ⟨z, hz⟩ := hgetF k hk
        obtain ⟨y, hy, hry⟩ := gF k z hz
        rw [hx] at hy; cases hy
        rw [tF] at ht
        have hob := hst.wf.objs k z l hz ht
        cases hry with
        | same _ hpz =>
          cases x with
          | iter s p => exact hob
          | map kvs =>
            obtain ⟨es, clock, a1, a2, a3⟩ := hob
            exact ⟨es, clock, a1, a2, fun i e kv he hkv => ⟨(a3 i e kv he hkv).1, .rd ((a3 i e kv he hkv).2.pure (pureKvs_get hpz hkv))⟩⟩
          | arr esz es =>
            obtain ⟨a1, cells, elem, fz, a2, a3, a4, a5⟩ := hob
            refine ⟨a1, cells, elem, fz, a2, a3, a4, fun i j e d hi hd => ?_⟩
            obtain ⟨x, hx1, hx2⟩ := a5 i j e d hi hd
            exact ⟨x, hx1, .rd (hx2.pure (pureEs_get hpz hi hd))⟩
        | arr esz es es1 hl1 hl2 hp2 =>
          obtain ⟨a1, cells, elem, fz, a2, a3, a4, a5⟩ := hob
          refine ⟨by omega, cells, elem, fz, a2, a3, a4, fun i j e1 d1 hi hd => ?_⟩
          have hil := (List.getElem?_eq_some_iff.1 hi).1
          have hjl := (List.getElem?_eq_some_iff.1 hd).1
          have he : es[i]? = some es[i] := List.getElem?_eq_getElem (by omega)
          have hl3 := hl2 i _ _ he hi
          have hd0 : es[i][j]? = some es[i][j] := List.getElem?_eq_getElem (by omega)
          obtain ⟨x, hx1, hx2⟩ := a5 i j _ _ he hd0
          exact ⟨x, hx1, ren (hp2 i j _ _ _ d1 he hi hd0 hd).1 hx2⟩
    · rcases split i hi with ⟨h1, h2⟩ | ⟨k, rfl, hk⟩
      · rw [tO i h1 h2] at ht
        rw [hstep.old _ (hw.locLt h1 ht)]; exact hw.comm i l h1 ht
      · rw [tF] at ht; exact hst.wf.comm k l hk ht
    · rcases split i hi with ⟨h1, h2⟩ | ⟨k, rfl, hk⟩ <;> rcases split j hj with ⟨h3, h4⟩ | ⟨k', rfl, hk'⟩
      · rw [tO i h1 h2] at hti; rw [tO j h3 h4] at htj; exact hw.inj i j li lj h1 h3 hti htj hb
      · rw [tO i h1 h2] at hti; rw [tF] at htj
        exact absurd (hb ▸ hoth i li h1 h2 hti) (hst.own _ ⟨k', lj, hk', htj, rfl⟩)
      · rw [tF] at hti; rw [tO j h3 h4] at htj
        exact absurd (hb ▸ hoth j lj h3 h4 htj) (hst.own _ ⟨k, li, hk, hti, rfl⟩)
      · rw [tF] at hti htj
        rw [hst.wf.inj k k' li lj hk hk' hti htj hb]
    · rintro ⟨k, l, hk, ht, hb2⟩
      have hk0 : k = 0 := by simp at hk; omega
      subst hk0
      exact hb.2 ⟨id, l, hid, ht, hb2⟩
    · rintro b ⟨i, l, hi, ht, rfl⟩ hp2
      rcases split i hi with ⟨h1, h2⟩ | ⟨k, rfl, hk⟩
      · rw [tO i h1 h2] at ht; exact hp2.2 ⟨i, l, h1, ht, rfl⟩
      · rw [tF] at ht
        refine hst.own _ ⟨k, l, hk, ht, rfl⟩ ⟨hp2.1, ?_⟩
        rintro ⟨k2, l2, hk2, ht2, hb2⟩
        have hk0 : k2 = 0 := by simp at hk2; omega
        subst hk0
        exact hp2.2 ⟨id, l2, hid, ht2, hb2⟩
  unfold CallsX at hc ⊢
  split at hc
  · exact Calls.mono hc fun e w' hh => fin e w' hh
  · exact fin _ _ hc
  · exact hc

def FrArgs (id : Nat) : List AVal → List AVal → Prop
  | [], [] => True
  | a :: asv, b :: bs => ((a = b ∧ a.closed = true) ∨ (∃ ep idx fld, a = .ptr 0 ep idx fld ∧ b = .ptr id ep idx fld) ∨ ∃ ep off len, a = .sl 0 ep off len ∧ b = .sl id ep off len) ∧ FrArgs id asv bs
  | _, _ => False

theorem FrArgs.get {id : Nat} : ∀ {asv bs : List AVal}, FrArgs id asv bs → asv.length = bs.length ∧ ∀ (i : Nat) (a b : AVal), asv[i]? = some a → bs[i]? = some b → (a = b ∧ a.closed = true) ∨ (∃ ep idx fld, a = .ptr 0 ep idx fld ∧ b = .ptr id ep idx fld) ∨ ∃ ep off len, a = .sl 0 ep off len ∧ b = .sl id ep off len
  | [], [], _ => ⟨rfl, fun i a b h => by simp at h⟩
  | a :: asv, b :: bs, h => by
    obtain ⟨h1, h2⟩ := FrArgs.get h.2
    refine ⟨by simp [h1], fun i x y hx hy => ?_⟩
    cases i with
    | zero => simp at hx hy; subst hx hy; exact h.1
    | succ i => exact h2 i x y (by simpa using hx) (by simpa using hy)
  | [], _ :: _, h => h.elim
  | _ :: _, [], h => h.elim

theorem FrArgs.cl {id : Nat} {a : AVal} {asv bs : List AVal} (h : a.closed = true) (hs : FrArgs id asv bs) : FrArgs id (a :: asv) (a :: bs) := ⟨.inl ⟨rfl, h⟩, hs⟩

theorem FrArgs.pt {id : Nat} {ep idx fld : Nat} {asv bs : List AVal} (hs : FrArgs id asv bs) : FrArgs id (.ptr 0 ep idx fld :: asv) (.ptr id ep idx fld :: bs) := ⟨.inr (.inl ⟨_, _, _, rfl, rfl⟩), hs⟩

theorem FrArgs.sl {id : Nat} {ep off len : Nat} {asv bs : List AVal} (hs : FrArgs id asv bs) : FrArgs id (.sl 0 ep off len :: asv) (.sl id ep off len :: bs) := ⟨.inr (.inr ⟨_, _, _, rfl, rfl⟩), hs⟩

theorem ACalls.fr {f : FuncId} {args0 args : List AVal} {id : Nat} {o o1 : AObj} {R : AVal} (h : ACalls P f args0 [o] (fun r H' => r = R ∧ H' = [o1])) (ho : H[id]? = some o)
    (hp : o.clean = true) (hp1 : o1.clean = true) (ha : FrArgs id args0 args) (hR : Ren (frN id H.length) R R) : ACalls P f args H (fun r H' => r = R ∧ H' = H.set id o1) := by
  obtain ⟨hl, ha⟩ := ha.get
  refine ACalls.frame1 ho hp hl ha h ?_
  rintro r H1 ⟨rfl, rfl⟩
  exact ⟨_, o1, o1, [], [], rfl, hR, .same _ hp1, rfl, fun k x y h => by simp at h, rfl, by simp⟩

theorem ACalls.frG {f : FuncId} {args0 args : List AVal} {id : Nat} {o o1 : AObj} {R R' : AVal} {G : List AObj} (h : ACalls P f args0 [o] (fun r H' => r = R ∧ H' = o1 :: G)) (ho : H[id]? = some o)
    (hp : o.clean = true) (hp1 : o1.clean = true) (hG : ∀ x ∈ G, x.clean = true) (ha : FrArgs id args0 args) (hR : Ren (frN id H.length) R R') : ACalls P f args H (fun r H' => r = R' ∧ H' = H.set id o1 ++ G) := by
  obtain ⟨hl, ha⟩ := ha.get
  refine ACalls.frame1 ho hp hl ha h ?_
  rintro r H1 ⟨rfl, rfl⟩
  exact ⟨_, o1, o1, G, G, rfl, hR, .same _ hp1, rfl, fun k x y h1 h2 => by rw [h1] at h2; cases h2; exact .same _ (hG x (List.mem_of_getElem? h1)), rfl, rfl⟩

end
theorem Gp.keepL {n0 : List Nat} {n : Nat} {live : List (Nat × AVal)} {ρ : List AVal} {H H1 : List AObj} {I : List AVal → List AObj → Prop} (ids : List Nat) (hnd : ids.Nodup) (hb : keepB n0 ids H) (ho : gpO H ids ids H1) (hl : ρ.length = n) (h : SvPub H ids ρ live)
    (hI : ∀ ρ1, Sv n live ρ1 → I ρ1 H1) : Gp n0 ρ H I :=
  .inr ⟨ids, mkSl n n live fun _ => .undef, H1, hnd, hb, ho, mkSl_pub n n live ρ ρ (Nat.le_refl _) (fun k => by rw [Nat.sub_self, Nat.zero_add]) hl h, hI _ ⟨_, rfl⟩⟩

theorem keepB_one {a : Nat} {ids : List Nat} {H : List AObj} {o : AObj} (h1 : ids[0]? = some 0) (h2 : H[0]? = some o) (h3 : o.olen = a) : keepB [a] ids H := fun k n hk => by
  cases k with
  | zero => simp at hk; subst hk; exact ⟨h1, o, h2, h3⟩
  | succ k => simp at hk

theorem Gp.res {n0 : List Nat} {r r' : AVal} {H H1 : List AObj} {I : List AVal → List AObj → Prop} (ids : List Nat) (hnd : ids.Nodup) (hb : keepB n0 ids H) (ho : gpO H ids ids H1) (hp : Pub H 0 ids r r') (hI : I [r'] H1) : Gp n0 [r] H I :=
  .inr ⟨ids, [r'], H1, hnd, hb, ho, ⟨hp, trivial⟩, hI⟩

end Go.AW

namespace Go.AW
variable [Draws]
attribute [local irreducible] ACalls
structure RdS where
  rest : List Int
  bad : Bool

def rdO (s : RdS) : AObj := .arr 2 [[.list false 1 (bC s.rest), .bool s.bad]]

def tkB (n : Int) (s : RdS) : Bool := !s.bad && decide (n ≤ s.rest.length)

def tkL (n : Int) (s : RdS) : List Int := if tkB n s then s.rest.take n.toNat else []

def tkS (n : Int) (s : RdS) : RdS := if tkB n s then ⟨s.rest.drop n.toNat, false⟩ else ⟨s.rest, true⟩

theorem tkL_byt {n : Int} {s : RdS} (h : Byt s.rest) : Byt (tkL n s) := by
  intro x hx
  unfold tkL at hx
  split at hx
  · exact h x (List.mem_of_mem_take hx)
  · simp at hx

theorem tkS_byt {n : Int} {s : RdS} (h : Byt s.rest) : Byt (tkS n s).rest := by
  unfold tkS
  split
  · exact fun x hx => h x (List.mem_of_mem_drop hx)
  · exact h

theorem tkS_len (n : Int) (s : RdS) : (tkS n s).rest.length ≤ s.rest.length := by
  unfold tkS
  split
  · simp
  · exact Nat.le_refl _

theorem tkL_len {n : Int} {s : RdS} (hn : 0 ≤ n) : ((tkL n s).length : Int) ≤ n := by
  unfold tkL
  split
  · rw [List.length_take]; omega
  · simp; omega

theorem tkL_len2 (n : Int) (s : RdS) : (tkL n s).length ≤ s.rest.length := by
  unfold tkL
  split
  · rw [List.length_take]; omega
  · simp

set_option maxRecDepth 20000 in
theorem take_raw {P : Program} (F : F_batch_reader_take P) (n : Int) (hn : 0 ≤ n) (s : RdS) :
    ACalls P F.id [.ptr 0 1 0 0, .int .i64 n] [rdO s] (fun r H' => r = .list false 1 (bC (tkL n s)) ∧ H' = [rdO (tkS n s)]) := by
  refine ACalls.weakR (Q := fun r H' => (r = .nil ∧ tkB n s = false ∧ H' = [rdO (tkS n s)]) ∨ (r = .list false 1 (bC (tkL n s)) ∧ H' = [rdO (tkS n s)])) ?_ (by
    rintro r H' (⟨rfl, h, rfl⟩ | ⟨rfl, rfl⟩)
    · exact ⟨_, .nil false 1, by rw [tkL, h]; rfl, rfl⟩
    · exact ⟨_, .refl _, rfl, rfl⟩)
  refine acalls_of_body F.has ?_
  (conv => whnf); refine recA (fun hb => ?_) (fun hb => ?_)
  · replace hb : s.bad = true := hb
    have ht : tkB n s = false := by rw [tkB, hb]; rfl
    conv => whnf
    exact .inl ⟨rfl, ht, by rw [tkS, ht]; rfl⟩
  replace hb : s.bad = false := hb
  (conv => whnf); refine recA (fun hl => ?_) (fun hl => ?_)
  · simp [bC_length] at hl
    have ht : tkB n s = false := by rw [tkB, hb]; simp; omega
    conv => whnf
    exact .inl ⟨rfl, ht, by rw [tkS, ht]; rfl⟩
  simp [bC_length] at hl
  have ht : tkB n s = true := by rw [tkB, hb]; simp; omega
  (conv => whnf); refine And.intro (⟨by omega, by rw [bC_length]; omega⟩) ?_
  (conv => whnf); refine And.intro (⟨by omega, by rw [bC_length]; omega⟩) ?_
  conv => whnf
  refine .inr ⟨?_, ?_⟩
  · rw [tkL, ht, if_pos rfl, ← bC_take]; rfl
  · rw [tkS, ht, if_pos rfl, rdO]
    simp only [hb]
    rw [← bC_drop]
    show [AObj.arr 2 [[.list false 1 (((bC s.rest).take (bC s.rest).length).drop n.toNat), .bool false]]] = _
    rw [List.take_length]

theorem take_spec {P : Program} (F : F_batch_reader_take P) (n : Int) (hn : 0 ≤ n) (s : RdS) (H : List AObj) (id : Nat) (ho : H[id]? = some (rdO s)) :
    ACalls P F.id [.ptr id 1 0 0, .int .i64 n] H (fun r H' => r = .list false 1 (bC (tkL n s)) ∧ H' = H.set id (rdO (tkS n s))) :=
  (take_raw F n hn s).fr ho rfl rfl (.pt (.cl rfl trivial)) (.closed _ rfl)

def nbV (n : Int) (s : RdS) : Int := num (tkL n s)

theorem num_bnd (l : List Int) (h : Byt l) : 0 ≤ num l ∧ num l < 256 ^ l.length := by
  have key : ∀ (l : List Int), Byt l → ∀ (a : Int) (k : Nat), 0 ≤ a → a < 256 ^ k → 0 ≤ l.foldl (fun n x => n * 256 + x) a ∧ l.foldl (fun n x => n * 256 + x) a < 256 ^ (k + l.length) := by
    intro l
    induction l with
    | nil => intro _ a k h1 h2; exact ⟨h1, h2⟩
    | cons x l ih =>
      intro hb a k h1 h2
      have hx := hb x (List.mem_cons_self ..)
      have hp : (256 : Int) ^ (k + 1) = 256 ^ k * 256 := Int.pow_succ ..
      have := ih (fun y hy => hb y (List.mem_cons_of_mem _ hy)) (a * 256 + x) (k + 1) (by omega) (by omega)
      rw [List.length_cons, show k + (l.length + 1) = k + 1 + l.length by omega]
      exact this
  have := key l h 0 0 (by omega) (by decide)
  rwa [Nat.zero_add] at this

set_option maxRecDepth 20000 in
theorem nbV_bound {n : Int} {s : RdS} (hn : 0 ≤ n) (hn4 : n ≤ 4) (h : Byt s.rest) : 0 ≤ nbV n s ∧ nbV n s < 4294967296 := by
  have h1 := num_bnd _ (tkL_byt (n := n) h)
  have h2 := tkL_len (s := s) hn
  have h3 : (256 : Int) ^ (tkL n s).length ≤ 256 ^ 4 := by
    have : (256 : Nat) ^ (tkL n s).length ≤ 256 ^ 4 := Nat.pow_le_pow_right (by omega) (by omega)
    exact_mod_cast this
  rw [nbV]; omega

set_option maxRecDepth 20000 in
theorem rnumber_raw {P : Program} (F : F_batch_reader_number P) (n : Int) (hn : 0 ≤ n) (hn6 : n ≤ 4) (s : RdS) (hby : Byt s.rest) :
    ACalls P F.id [.ptr 0 1 0 0, .int .i64 n] [rdO s] (fun r H' => r = .int .i64 (nbV n s) ∧ H' = [rdO (tkS n s)]) := by
  have hl := tkL_len (s := s) hn
  have hb := tkL_byt (n := n) hby
  refine acalls_of_body F.has ?_
  (conv => whnf); refine ACalls.mono (take_raw F.batch_reader_take n hn s) ?_
  rintro r H' ⟨rfl, rfl⟩
  conv => whnf
  refine ⟨fun m ρ H => ∃ (k : Nat) (acc : Int), k + m = (tkL n s).length ∧ 0 ≤ acc ∧ acc < 256 ^ k ∧ ((tkL n s).drop k).foldl (fun n x => n * 256 + x) acc = num (tkL n s) ∧ H = [rdO (tkS n s)] ∧
    Sv 23 [(5, .int .i64 acc), (10, .list false 1 (bC (tkL n s))), (11, .int .i64 (tkL n s).length), (12, .int .i64 k)] ρ, (tkL n s).length, [], ?_, ?_⟩
  · exact ⟨0, 0, by omega, by omega, by omega, rfl, rfl, Sv.intro rfl ⟨rfl, rfl, intEq (by rw [bC_length]), rfl, trivial⟩⟩
  rintro m ρ H ⟨k, acc, hk, h0, h1, hr, rfl, d, rfl⟩
  (conv => whnf); refine recA (fun hlt => ?_) (fun hlt => ?_)
  · simp at hlt
    obtain ⟨x, hx, hd, hmem⟩ := get_drop hlt
    have hxb := hb x hmem
    (conv => whnf); refine And.intro (by omega) ?_
    (conv => whnf); refine recO (bC_at hx) ?_
    (conv => whnf); refine And.intro (by decide) ?_
    conv => whnf
    have hp : (256 : Int) ^ k ≤ 256 ^ 4 := by
      have : (256 : Nat) ^ k ≤ 256 ^ 4 := Nat.pow_le_pow_right (by omega) (by omega)
      exact_mod_cast this
    have hp2 : (256 : Int) ^ (k + 1) = 256 ^ k * 256 := Int.pow_succ ..
    refine ⟨m - 1, by omega, Gp.keep rfl ?_ fun ρ1 h => ⟨k + 1, acc * 256 + x, by omega, by omega, by omega, ?_, rfl, h⟩⟩
    · refine ⟨intEq ?_, rfl, rfl, intEq (wrapI ((k : Int) + 1) (by omega) (by omega)), trivial⟩
      show or64 (IntKind.i64.wrap (acc * 2 ^ 8)) (IntKind.i64.wrap x) = _
      rw [wrapI _ (by omega) (by omega), wrapI x (by omega) (by omega), or64_add acc x 8 h0 hxb.1 (by omega) (by omega)]
      omega
    · rw [← hr, hd]; rfl
  · simp at hlt
    conv => whnf
    rw [List.drop_eq_nil_of_le hlt] at hr
    exact ⟨intEq hr, rfl⟩

theorem rnumber_spec {P : Program} (F : F_batch_reader_number P) (n : Int) (hn : 0 ≤ n) (hn6 : n ≤ 4) (s : RdS) (hby : Byt s.rest) (H : List AObj) (id : Nat) (ho : H[id]? = some (rdO s)) :
    ACalls P F.id [.ptr id 1 0 0, .int .i64 n] H (fun r H' => r = .int .i64 (nbV n s) ∧ H' = H.set id (rdO (tkS n s))) :=
  (rnumber_raw F n hn hn6 s hby).fr ho rfl rfl (.pt (.cl rfl trivial)) (.closed _ rfl)

def txV (s : RdS) : ByteArray := strOf (tkL (nbV 1 s) (tkS 1 s))

def txS (s : RdS) : RdS := tkS (nbV 1 s) (tkS 1 s)

set_option maxRecDepth 20000 in
theorem rtext_raw {P : Program} (F : F_batch_reader_text P) (s : RdS) (hby : Byt s.rest) :
    ACalls P F.id [.ptr 0 1 0 0] [rdO s] (fun r H' => r = .str (txV s) ∧ H' = [rdO (txS s)]) := by
  refine acalls_of_body F.has ?_
  (conv => whnf); refine ACalls.mono (rnumber_raw F.batch_reader_number 1 (by omega) (by omega) s hby) ?_
  rintro r H' ⟨rfl, rfl⟩
  (conv => whnf); refine ACalls.mono (take_raw F.batch_reader_take _ (nbV_bound (by omega) (by omega) hby).1 (tkS 1 s)) ?_
  rintro r H' ⟨rfl, rfl⟩
  (conv => whnf); refine ⟨_, bytesOf_bC _, ?_⟩
  conv => whnf
  exact ⟨rfl, rfl⟩

theorem rtext_spec {P : Program} (F : F_batch_reader_text P) (s : RdS) (hby : Byt s.rest) (H : List AObj) (id : Nat) (ho : H[id]? = some (rdO s)) :
    ACalls P F.id [.ptr id 1 0 0] H (fun r H' => r = .str (txV s) ∧ H' = H.set id (rdO (txS s))) :=
  (rtext_raw F s hby).fr ho rfl rfl (.pt trivial) (.closed _ rfl)

end Go.AW

namespace Go.AW
variable [Draws]
attribute [local irreducible] ACalls
def dcV (l : List Int) : Option (List V) :=
  if l.length = 0 ∨ 12 < l.getD 0 0 then none else match decN (l.getD 0 0).toNat (l.drop 1) with
    | some (rs, []) => some rs
    | _ => none

theorem decR_eq (l : List Int) : decR l = match dcV l with | some rs => .tuple [.list false 3 (vC rs), .int .i64 0] | none => .tuple [.nil, .int .i64 11] := by
  unfold decR dcV decErr
  split
  · rfl
  · generalize decN (l.getD 0 0).toNat (List.drop 1 l) = o
    cases o with
    | none => rfl
    | some p =>
      obtain ⟨rs, r⟩ := p
      cases r <;> rfl

def rq3 (s : RdS) : RdS := tkS 2 (tkS 4 (tkS 1 s))

def rqL (s : RdS) : List Int := tkL (nbV 2 (tkS 4 (tkS 1 s))) (rq3 s)

def rq4 (s : RdS) : RdS := tkS (nbV 2 (tkS 4 (tkS 1 s))) (rq3 s)

def recV (s : RdS) : Rec := ⟨!(nbV 1 s == 0), nbV 4 (tkS 1 s), (dcV (rqL s)).getD []⟩

def recS (s : RdS) : RdS := match dcV (rqL s) with
  | some _ => rq4 s
  | none => ⟨(rq4 s).rest, true⟩

theorem recS_byt {s : RdS} (h : Byt s.rest) : Byt (recS s).rest := by
  have h4 : Byt (rq4 s).rest := tkS_byt (tkS_byt (tkS_byt (tkS_byt h)))
  unfold recS
  split
  · exact h4
  · exact h4

theorem recS_len (s : RdS) : (recS s).rest.length ≤ s.rest.length := by
  have h4 : (rq4 s).rest.length ≤ s.rest.length := Nat.le_trans (tkS_len _ _) (Nat.le_trans (tkS_len _ _) (Nat.le_trans (tkS_len _ _) (tkS_len _ _)))
  unfold recS
  split
  · exact h4
  · exact h4

set_option maxRecDepth 20000 in
theorem record_raw {P : Program} (F : F_batch_reader_record P) (s : RdS) (hby : Byt s.rest) (hl : s.rest.length ≤ 1000000) :
    ACalls P F.id [.ptr 0 1 0 0] [rdO s] (fun r H' => r = .agg (recC (recV s)) ∧ H' = [rdO (recS s)]) := by
  have b1 : Byt (tkS 1 s).rest := tkS_byt hby
  have b2 : Byt (tkS 4 (tkS 1 s)).rest := tkS_byt b1
  have b3 : Byt (rq3 s).rest := tkS_byt b2
  have hL : (rqL s).length ≤ 1000000 := Nat.le_trans (tkL_len2 _ _) (Nat.le_trans (Nat.le_trans (tkS_len _ _) (Nat.le_trans (tkS_len _ _) (tkS_len _ _))) hl)
  refine ACalls.weakR (Q := fun r H' => ∃ c0 : AVal, (c0 = .list false 3 (vC (recV s).row) ∨ (c0 = .nil ∧ (recV s).row = [])) ∧ r = .agg [.bool (recV s).del, .int .i64 (recV s).seq, c0] ∧ H' = [rdO (recS s)]) ?_ (by
    rintro r H' ⟨c0, hc, rfl, rfl⟩
    refine ⟨_, ?_, rfl, rfl⟩
    have : Wks [.bool (recV s).del, .int .i64 (recV s).seq, c0] (recC (recV s)) := .cons (.refl _) (.cons (.refl _) (.cons (by
      rcases hc with rfl | ⟨rfl, h⟩
      · exact .refl _
      · rw [h]; exact .nil false 3) .nil))
    exact .agg _ _ this.1 this.2)
  refine ACalls.gp (Q0 := fun r H' => ∃ c0 : AVal, (c0 = .list false 3 (vC (recV s).row) ∨ (c0 = .nil ∧ (recV s).row = [])) ∧ r = .agg [.bool (recV s).del, .int .i64 (recV s).seq, c0] ∧ ∃ x y, H' = [rdO (recS s), x, y]) ?_ (by
    rintro r H' ⟨c0, hc, rfl, x, y, rfl⟩
    refine Gp.res [0] (by simp) (keepB_one rfl rfl rfl) (H1 := [rdO (recS s)]) ⟨⟨_, rfl, .same _ _ rfl⟩, trivial⟩ (.closed (.agg [.bool (recV s).del, .int .i64 (recV s).seq, c0]) ?_) ⟨_, rfl, c0, hc, rfl, rfl⟩
    rcases hc with rfl | ⟨rfl, h⟩ <;> rfl)
  refine acalls_of_body F.has ?_
  (conv => whnf); refine ACalls.mono (rnumber_spec F.batch_reader_number 1 (by omega) (by omega) s hby _ 0 rfl) ?_
  rintro r H' ⟨rfl, rfl⟩
  (conv => whnf); refine ACalls.mono (rnumber_spec F.batch_reader_number 4 (by omega) (by omega) (tkS 1 s) b1 _ 0 rfl) ?_
  rintro r H' ⟨rfl, rfl⟩
  (conv => whnf); refine ACalls.mono (rnumber_spec F.batch_reader_number 2 (by omega) (by omega) (tkS 4 (tkS 1 s)) b2 _ 0 rfl) ?_
  rintro r H' ⟨rfl, rfl⟩
  (conv => whnf); refine ACalls.mono (take_spec F.batch_reader_take _ (nbV_bound (by omega) (by omega) b2).1 (rq3 s) _ 0 rfl) ?_
  rintro r H' ⟨rfl, rfl⟩
  have hd := fun H => value_Decode_spec F.value_Decode false (rqL s) (tkL_byt b3) hL H
  rw [decR_eq] at hd
  cases hc : dcV (rqL s) with
  | some rs =>
    rw [hc] at hd
    have e1 : (recV s).row = rs := by rw [recV, hc]; rfl
    have e2 : recS s = rq4 s := by rw [recS, hc]
    (conv => whnf); refine ACalls.use (hd _) ?_
    conv => whnf
    exact ⟨_, .inl (by rw [e1]), rfl, _, _, by rw [e2]; rfl⟩
  | none =>
    rw [hc] at hd
    have e1 : (recV s).row = [] := by rw [recV, hc]; rfl
    have e2 : recS s = ⟨(rq4 s).rest, true⟩ := by rw [recS, hc]
    (conv => whnf); refine ACalls.use (hd _) ?_
    conv => whnf
    exact ⟨_, .inr ⟨rfl, e1⟩, rfl, _, _, by rw [e2]; rfl⟩

theorem record_spec {P : Program} (F : F_batch_reader_record P) (s : RdS) (hby : Byt s.rest) (hl : s.rest.length ≤ 1000000) (H : List AObj) (id : Nat) (ho : H[id]? = some (rdO s)) :
    ACalls P F.id [.ptr id 1 0 0] H (fun r H' => r = .agg (recC (recV s)) ∧ H' = H.set id (rdO (recS s))) :=
  (record_raw F s hby hl).fr ho rfl rfl (.pt trivial) (.closed _ rfl)

def flP : Nat → RdS → List Rec → List Rec × RdS
  | 0, s, L => (L, s)
  | n + 1, s, L => if s.bad then (L, s) else flP n (recS s) (L ++ [recV s])

def magic (s : RdS) : Bool := (strOf (tkL 4 s)).data.toList == (bs [87, 72, 70, 49]).data.toList

def fl1 (s : RdS) : RdS := if magic s then tkS 4 s else ⟨(tkS 4 s).rest, true⟩

def fl2 (s : RdS) : RdS := txS (fl1 s)

def fl3 (s : RdS) : RdS := txS (fl2 s)

def flN (s : RdS) : Int := nbV 2 (fl3 s)

def fl4 (s : RdS) : RdS := tkS 2 (fl3 s)

def flV (s : RdS) : Fil := ⟨txV (fl1 s), txV (fl2 s), (flP (flN s).toNat (fl4 s) []).1⟩

def flS (s : RdS) : RdS := (flP (flN s).toNat (fl4 s) []).2

theorem txS_byt {s : RdS} (h : Byt s.rest) : Byt (txS s).rest := tkS_byt (tkS_byt h)

theorem txS_len (s : RdS) : (txS s).rest.length ≤ s.rest.length := Nat.le_trans (tkS_len _ _) (tkS_len _ _)

theorem fl1_byt {s : RdS} (h : Byt s.rest) : Byt (fl1 s).rest := by
  unfold fl1; split <;> exact tkS_byt (n := 4) h

theorem fl1_len (s : RdS) : (fl1 s).rest.length ≤ s.rest.length := by
  unfold fl1; split <;> exact tkS_len 4 s

def fobj (s : RdS) (c : AVal) : AObj := .arr 3 [[.str (txV (fl1 s)), .str (txV (fl2 s)), c]]

def recH (s0 s : RdS) (res : AObj) (L : List Rec) (c : AVal) (H : List AObj) : Prop :=
  (L = [] ∧ c = .nil ∧ H = [rdO s, res, fobj s0 .nil]) ∨ (c = .sl 3 L.length 0 L.length ∧ H = [rdO s, res, fobj s0 (.sl 3 L.length 0 L.length), .arr 3 (rC L)])

def resO : AObj := .arr 3 [[.str (bs []), .str (bs []), .nil]]

set_option maxRecDepth 20000 in
theorem file_raw {P : Program} (F : F_batch_reader_file P) (s : RdS) (hby : Byt s.rest) (hl : s.rest.length ≤ 1000000) :
    ACalls P F.id [.ptr 0 1 0 0] [rdO s] (fun r H' => ∃ c, r = .agg [.str (txV (fl1 s)), .str (txV (fl2 s)), c] ∧ ∃ res, recH s (flS s) res (flV s).recs c H') := by
  have b1 := fl1_byt hby
  have b2 : Byt (fl2 s).rest := txS_byt b1
  have b3 : Byt (fl3 s).rest := txS_byt b2
  have b4 : Byt (fl4 s).rest := tkS_byt b3
  have l4 : (fl4 s).rest.length ≤ s.rest.length := Nat.le_trans (tkS_len _ _) (Nat.le_trans (txS_len _) (Nat.le_trans (txS_len _) (fl1_len s)))
  have n0 := nbV_bound (n := 2) (by omega) (by omega) b3
  have nn : (flN s).toNat ≤ 65535 := by
    have h1 := num_bnd _ (tkL_byt (n := 2) b3)
    have h2 := tkL_len (n := 2) (s := fl3 s) (by omega)
    have h3 : (256 : Int) ^ (tkL 2 (fl3 s)).length ≤ 256 ^ 2 := by
      have : (256 : Nat) ^ (tkL 2 (fl3 s)).length ≤ 256 ^ 2 := Nat.pow_le_pow_right (by omega) (by omega)
      exact_mod_cast this
    have h4 : (256 : Int) ^ 2 = 65536 := by decide
    show (num (tkL 2 (fl3 s))).toNat ≤ 65535
    omega
  refine acalls_of_body F.has ?_
  (conv => whnf); refine ACalls.mono (take_spec F.batch_reader_take 4 (by omega) s _ 0 rfl) ?_
  rintro r H' ⟨rfl, rfl⟩
  (conv => whnf); refine ⟨_, bytesOf_bC _, ?_⟩
  (conv => whnf); refine recA (fun hm => ?_) (fun hm => ?_)
  · replace hm : (!((strOf (tkL 4 s)).data.toList == (bs [87, 72, 70, 49]).data.toList)) = true := hm
    have hf : fl1 s = ⟨(tkS 4 s).rest, true⟩ := by rw [fl1, if_neg (by rw [magic]; simpa using hm)]
    (conv => whnf); refine ACalls.mono (rtext_spec F.batch_reader_text (fl1 s) b1 _ 0 (by rw [hf]; rfl)) ?_
    rintro r H' ⟨rfl, rfl⟩
    (conv => whnf); refine ACalls.mono (rtext_spec F.batch_reader_text (fl2 s) b2 _ 0 rfl) ?_
    rintro r H' ⟨rfl, rfl⟩
    (conv => whnf); refine ACalls.mono (rnumber_spec F.batch_reader_number 2 (by omega) (by omega) (fl3 s) b3 _ 0 rfl) ?_
    rintro r H' ⟨rfl, rfl⟩
    conv => whnf
    refine ⟨fun m ρ H1 => ∃ (k : Nat) (st : RdS) (L : List Rec) (c : AVal), m = k ∧ flP k st L = flP (flN s).toNat (fl4 s) [] ∧ L.length + k ≤ 65535 ∧ Byt st.rest ∧ st.rest.length ≤ s.rest.length ∧ recH s st resO L c H1 ∧
      Sv 39 [(0, .ptr 0 1 0 0), (2, .ptr 1 1 0 0), (3, .ptr 2 1 0 0), (4, .int .i64 k)] ρ, (flN s).toNat, [], ?_, ?_⟩
    · exact ⟨(flN s).toNat, fl4 s, [], .nil, rfl, rfl, by simpa using nn, b4, l4, .inl ⟨rfl, rfl, rfl⟩, Sv.intro rfl ⟨rfl, rfl, rfl, intEq (by show nbV 2 (fl3 s) = _; rw [flN]; omega), trivial⟩⟩
    rintro m ρ H1 ⟨k, st, L, c, rfl, hr, hle, hb, hlr, hH, d, rfl⟩
    rcases hH with ⟨hL, rfl, rfl⟩ | ⟨rfl, rfl⟩
    · (conv => whnf); refine recA (fun hlt => ?_) (fun hlt => ?_)
      · simp at hlt
        obtain ⟨k, rfl⟩ : ∃ j, m = j + 1 := ⟨m - 1, by omega⟩
        (conv => whnf); refine recA (fun hbad => ?_) (fun hbad => ?_)
        · replace hbad : (!st.bad) = true := hbad
          simp at hbad
          rw [flP, if_neg (by simp [hbad])] at hr
          (conv => whnf); refine ⟨_, _, record_spec F.batch_reader_record st hb (by omega) _ 0 rfl, ?_⟩
          (conv => whnf); refine And.intro (⟨roomMul (by simp) (by omega), roomB_le (by simp)⟩) ?_
          repeat ((conv => whnf); refine And.intro rfl ?_)
          conv => whnf
          subst hL
          refine ⟨k, by omega, Gp.keep rfl ?_ fun ρ1 h => ⟨k, recS st, [] ++ [recV st], _, rfl, hr, by simp; simp at hle; omega, recS_byt hb, Nat.le_trans (recS_len st) hlr, .inr ⟨rfl, rfl⟩, h⟩⟩
          exact ⟨rfl, rfl, rfl, intEq (by have := wrapI (((k + 1 : Nat) : Int) - 1) (by omega) (by omega); show IntKind.i64.wrap (((k + 1 : Nat) : Int) - 1) = _; omega), trivial⟩
        · replace hbad : (!st.bad) = false := hbad
          simp at hbad
          have hv : (flV s).recs = L ∧ flS s = st := by
            rw [flV, flS, ← hr]
            (rw [flP, if_pos hbad]; exact ⟨rfl, rfl⟩)
          conv => whnf
          rw [hv.1, hv.2]
          exact ⟨_, rfl, _, .inl ⟨hL, rfl, rfl⟩⟩
      · simp at hlt
        have hk0 : m = 0 := by omega
        subst hk0
        have hv : (flV s).recs = L ∧ flS s = st := by
          rw [flV, flS, ← hr]
          exact ⟨rfl, rfl⟩
        conv => whnf
        rw [hv.1, hv.2]
        exact ⟨_, rfl, _, .inl ⟨hL, rfl, rfl⟩⟩
    · (conv => whnf); refine recA (fun hlt => ?_) (fun hlt => ?_)
      · simp at hlt
        obtain ⟨k, rfl⟩ : ∃ j, m = j + 1 := ⟨m - 1, by omega⟩
        (conv => whnf); refine recA (fun hbad => ?_) (fun hbad => ?_)
        · replace hbad : (!st.bad) = true := hbad
          simp at hbad
          rw [flP, if_neg (by simp [hbad])] at hr
          (conv => whnf); refine ⟨_, _, record_spec F.batch_reader_record st hb (by omega) _ 0 rfl, ?_⟩
          (conv => whnf); refine recT (by rw [rC_length]; exact Nat.beq_refl _) ?_
          (conv => whnf); refine And.intro (⟨roomMul (by simp; omega) (by omega), roomB_le (by simp; omega), rfl, by rw [rC_length]⟩) ?_
          repeat ((conv => whnf); refine And.intro rfl ?_)
          conv => whnf
          have hc : rC L ++ [recC (recV st)] = rC (L ++ [recV st]) := by rw [rC_append]; rfl
          have hcl : (rC L ++ [recC (recV st)]).length = (L ++ [recV st]).length := by rw [hc, rC_length]
          refine ⟨k, by omega, Gp.keep rfl ?_ fun ρ1 h => ⟨k, recS st, L ++ [recV st], _, rfl, hr, by simp; omega, recS_byt hb, Nat.le_trans (recS_len st) hlr, .inr ⟨rfl, ?_⟩, h⟩⟩
          · exact ⟨rfl, rfl, rfl, intEq (by have := wrapI (((k + 1 : Nat) : Int) - 1) (by omega) (by omega); show IntKind.i64.wrap (((k + 1 : Nat) : Int) - 1) = _; omega), trivial⟩
          · rw [← hc, ← hcl]; rfl
        · replace hbad : (!st.bad) = false := hbad
          simp at hbad
          have hv : (flV s).recs = L ∧ flS s = st := by
            rw [flV, flS, ← hr]
            (rw [flP, if_pos hbad]; exact ⟨rfl, rfl⟩)
          conv => whnf
          rw [hv.1, hv.2]
          exact ⟨_, rfl, _, .inr ⟨rfl, rfl⟩⟩
      · simp at hlt
        have hk0 : m = 0 := by omega
        subst hk0
        have hv : (flV s).recs = L ∧ flS s = st := by
          rw [flV, flS, ← hr]
          exact ⟨rfl, rfl⟩
        conv => whnf
        rw [hv.1, hv.2]
        exact ⟨_, rfl, _, .inr ⟨rfl, rfl⟩⟩
  · replace hm : (!((strOf (tkL 4 s)).data.toList == (bs [87, 72, 70, 49]).data.toList)) = false := hm
    have hf : fl1 s = tkS 4 s := by rw [fl1, if_pos (by rw [magic]; simpa using hm)]
    (conv => whnf); refine ACalls.mono (rtext_spec F.batch_reader_text (fl1 s) b1 _ 0 (by rw [hf]; rfl)) ?_
    rintro r H' ⟨rfl, rfl⟩
    (conv => whnf); refine ACalls.mono (rtext_spec F.batch_reader_text (fl2 s) b2 _ 0 rfl) ?_
    rintro r H' ⟨rfl, rfl⟩
    (conv => whnf); refine ACalls.mono (rnumber_spec F.batch_reader_number 2 (by omega) (by omega) (fl3 s) b3 _ 0 rfl) ?_
    rintro r H' ⟨rfl, rfl⟩
    conv => whnf
    refine ⟨fun m ρ H1 => ∃ (k : Nat) (st : RdS) (L : List Rec) (c : AVal), m = k ∧ flP k st L = flP (flN s).toNat (fl4 s) [] ∧ L.length + k ≤ 65535 ∧ Byt st.rest ∧ st.rest.length ≤ s.rest.length ∧ recH s st resO L c H1 ∧
      Sv 39 [(0, .ptr 0 1 0 0), (2, .ptr 1 1 0 0), (3, .ptr 2 1 0 0), (4, .int .i64 k)] ρ, (flN s).toNat, [], ?_, ?_⟩
    · exact ⟨(flN s).toNat, fl4 s, [], .nil, rfl, rfl, by simpa using nn, b4, l4, .inl ⟨rfl, rfl, rfl⟩, Sv.intro rfl ⟨rfl, rfl, rfl, intEq (by show nbV 2 (fl3 s) = _; rw [flN]; omega), trivial⟩⟩
    rintro m ρ H1 ⟨k, st, L, c, rfl, hr, hle, hb, hlr, hH, d, rfl⟩
    rcases hH with ⟨hL, rfl, rfl⟩ | ⟨rfl, rfl⟩
    · (conv => whnf); refine recA (fun hlt => ?_) (fun hlt => ?_)
      · simp at hlt
        obtain ⟨k, rfl⟩ : ∃ j, m = j + 1 := ⟨m - 1, by omega⟩
        (conv => whnf); refine recA (fun hbad => ?_) (fun hbad => ?_)
        · replace hbad : (!st.bad) = true := hbad
          simp at hbad
          rw [flP, if_neg (by simp [hbad])] at hr
          (conv => whnf); refine ⟨_, _, record_spec F.batch_reader_record st hb (by omega) _ 0 rfl, ?_⟩
          (conv => whnf); refine And.intro (⟨roomMul (by simp) (by omega), roomB_le (by simp)⟩) ?_
          repeat ((conv => whnf); refine And.intro rfl ?_)
          conv => whnf
          subst hL
          refine ⟨k, by omega, Gp.keep rfl ?_ fun ρ1 h => ⟨k, recS st, [] ++ [recV st], _, rfl, hr, by simp; simp at hle; omega, recS_byt hb, Nat.le_trans (recS_len st) hlr, .inr ⟨rfl, rfl⟩, h⟩⟩
          exact ⟨rfl, rfl, rfl, intEq (by have := wrapI (((k + 1 : Nat) : Int) - 1) (by omega) (by omega); show IntKind.i64.wrap (((k + 1 : Nat) : Int) - 1) = _; omega), trivial⟩
        · replace hbad : (!st.bad) = false := hbad
          simp at hbad
          have hv : (flV s).recs = L ∧ flS s = st := by
            rw [flV, flS, ← hr]
            (rw [flP, if_pos hbad]; exact ⟨rfl, rfl⟩)
          conv => whnf
          rw [hv.1, hv.2]
          exact ⟨_, rfl, _, .inl ⟨hL, rfl, rfl⟩⟩
      · simp at hlt
        have hk0 : m = 0 := by omega
        subst hk0
        have hv : (flV s).recs = L ∧ flS s = st := by
          rw [flV, flS, ← hr]
          exact ⟨rfl, rfl⟩
        conv => whnf
        rw [hv.1, hv.2]
        exact ⟨_, rfl, _, .inl ⟨hL, rfl, rfl⟩⟩
    · (conv => whnf); refine recA (fun hlt => ?_) (fun hlt => ?_)
      · simp at hlt
        obtain ⟨k, rfl⟩ : ∃ j, m = j + 1 := ⟨m - 1, by omega⟩
        (conv => whnf); refine recA (fun hbad => ?_) (fun hbad => ?_)
        · replace hbad : (!st.bad) = true := hbad
          simp at hbad
          rw [flP, if_neg (by simp [hbad])] at hr
          (conv => whnf); refine ⟨_, _, record_spec F.batch_reader_record st hb (by omega) _ 0 rfl, ?_⟩
          (conv => whnf); refine recT (by rw [rC_length]; exact Nat.beq_refl _) ?_
          (conv => whnf); refine And.intro (⟨roomMul (by simp; omega) (by omega), roomB_le (by simp; omega), rfl, by rw [rC_length]⟩) ?_
          repeat ((conv => whnf); refine And.intro rfl ?_)
          conv => whnf
          have hc : rC L ++ [recC (recV st)] = rC (L ++ [recV st]) := by rw [rC_append]; rfl
          have hcl : (rC L ++ [recC (recV st)]).length = (L ++ [recV st]).length := by rw [hc, rC_length]
          refine ⟨k, by omega, Gp.keep rfl ?_ fun ρ1 h => ⟨k, recS st, L ++ [recV st], _, rfl, hr, by simp; omega, recS_byt hb, Nat.le_trans (recS_len st) hlr, .inr ⟨rfl, ?_⟩, h⟩⟩
          · exact ⟨rfl, rfl, rfl, intEq (by have := wrapI (((k + 1 : Nat) : Int) - 1) (by omega) (by omega); show IntKind.i64.wrap (((k + 1 : Nat) : Int) - 1) = _; omega), trivial⟩
          · rw [← hc, ← hcl]; rfl
        · replace hbad : (!st.bad) = false := hbad
          simp at hbad
          have hv : (flV s).recs = L ∧ flS s = st := by
            rw [flV, flS, ← hr]
            (rw [flP, if_pos hbad]; exact ⟨rfl, rfl⟩)
          conv => whnf
          rw [hv.1, hv.2]
          exact ⟨_, rfl, _, .inr ⟨rfl, rfl⟩⟩
      · simp at hlt
        have hk0 : m = 0 := by omega
        subst hk0
        have hv : (flV s).recs = L ∧ flS s = st := by
          rw [flV, flS, ← hr]
          exact ⟨rfl, rfl⟩
        conv => whnf
        rw [hv.1, hv.2]
        exact ⟨_, rfl, _, .inr ⟨rfl, rfl⟩⟩

end Go.AW

namespace Go.AW
variable [Draws]
attribute [local irreducible] ACalls
theorem byt_inj : ∀ {a b : List Int}, Byt a → Byt b → (a.map fun n => UInt8.ofNat n.toNat) = (b.map fun n => UInt8.ofNat n.toNat) → a = b
  | [], [], _, _, _ => rfl
  | [], _ :: _, _, _, h => by simp at h
  | _ :: _, [], _, _, h => by simp at h
  | x :: a, y :: b, ha, hb, h => by
    rw [List.map_cons, List.map_cons, List.cons.injEq] at h
    have hx := ha x (List.mem_cons_self ..)
    have hy := hb y (List.mem_cons_self ..)
    have e1 : x = y := by
      have := congrArg UInt8.toNat h.1
      rw [UInt8.toNat_ofNat', UInt8.toNat_ofNat'] at this
      omega
    rw [e1, byt_inj (fun z hz => ha z (List.mem_cons_of_mem _ hz)) (fun z hz => hb z (List.mem_cons_of_mem _ hz)) h.2]

theorem byt_beq {a b : List Int} (ha : Byt a) (hb : Byt b) : ((a.map fun n => UInt8.ofNat n.toNat) == (b.map fun n => UInt8.ofNat n.toNat)) = (a == b) := by
  rw [Bool.eq_iff_iff, beq_iff_eq, beq_iff_eq]
  exact ⟨byt_inj ha hb, fun h => by rw [h]⟩

theorem bytesEqual_spec {P : Program} (F : F_bytes_Equal P) (e1 e2 : Bool) (a b : List Int) (ha : Byt a) (hb : Byt b) (H : List AObj) :
    ACalls P F.id [.list e1 1 (bC a), .list e2 1 (bC b)] H (fun r H' => r = .bool (a == b) ∧ H' = H) := by
  refine ACalls.pure rfl (acalls_of_body F.has ?_)
  (conv => whnf); refine ⟨_, bytesOf_bC _, ?_⟩
  (conv => whnf); refine ⟨_, bytesOf_bC _, ?_⟩
  conv => whnf
  exact pubB (byt_beq ha hb)

theorem file_spec0 {P : Program} (F : F_batch_reader_file P) (s : RdS) (hby : Byt s.rest) (hl : s.rest.length ≤ 1000000) :
    ACalls P F.id [.ptr 0 1 0 0] [rdO s] (fun r H' => r = .agg (fV (flV s)) ∧ H' = [rdO (flS s)]) := by
  refine ACalls.weakR (Q := fun r H' => ∃ c : AVal, (c = .list false 3 (rC (flV s).recs) ∨ (c = .nil ∧ (flV s).recs = [])) ∧ r = .agg [.str (txV (fl1 s)), .str (txV (fl2 s)), c] ∧ H' = [rdO (flS s)]) ?_ (by
    rintro r H' ⟨c, hc, rfl, rfl⟩
    refine ⟨_, ?_, rfl, rfl⟩
    have : Wks [.str (txV (fl1 s)), .str (txV (fl2 s)), c] (fV (flV s)) := .cons (.refl _) (.cons (.refl _) (.cons (by
      rcases hc with rfl | ⟨rfl, h⟩
      · exact .refl _
      · rw [h]; exact .nil false 3) .nil))
    exact .agg _ _ this.1 this.2)
  refine (file_raw F s hby hl).gp ?_
  rintro r H' ⟨c, rfl, res, ⟨h1, rfl, rfl⟩ | ⟨rfl, rfl⟩⟩
  · exact Gp.res [0] (by simp) (keepB_one rfl rfl rfl) (H1 := [rdO (flS s)]) ⟨⟨_, rfl, .same _ _ rfl⟩, trivial⟩ (.closed (.agg [.str (txV (fl1 s)), .str (txV (fl2 s)), .nil]) rfl) ⟨_, rfl, _, .inr ⟨rfl, h1⟩, rfl, rfl⟩
  · refine Gp.res [0] (by simp) (keepB_one rfl rfl rfl) (H1 := [rdO (flS s)]) (r' := .agg [.str (txV (fl1 s)), .str (txV (fl2 s)), .list false 3 (rC (flV s).recs)]) ⟨⟨_, rfl, .same _ _ rfl⟩, trivial⟩ ?_ ⟨_, rfl, _, .inl rfl, rfl, rfl⟩
    refine .agg _ _ rfl fun i v r h1 h2 => ?_
    rcases i with _ | _ | _ | i
    · cases h1; cases h2; exact .closed _ rfl
    · cases h1; cases h2; exact .closed _ rfl
    · cases h1; cases h2
      have := Pub.frz (H1 := [rdO (flS s), res, fobj s (.sl 3 (flV s).recs.length 0 (flV s).recs.length), .arr 3 (rC (flV s).recs)]) (n := 0) (ids := [0]) 3 (flV s).recs.length 0 (flV s).recs.length 3 (rC (flV s).recs) rfl (by rw [rC_length]) (pureEs_rC _) (by simp)
      have e : ((rC (flV s).recs).drop 0).take (flV s).recs.length = rC (flV s).recs := by rw [List.drop_zero, List.take_of_length_le (by rw [rC_length]; exact Nat.le_refl _)]
      rwa [e] at this
    · simp at h1

theorem file_spec {P : Program} (F : F_batch_reader_file P) (s : RdS) (hby : Byt s.rest) (hl : s.rest.length ≤ 1000000) (H : List AObj) (id : Nat) (ho : H[id]? = some (rdO s)) :
    ACalls P F.id [.ptr id 1 0 0] H (fun r H' => r = .agg (fV (flV s)) ∧ H' = H.set id (rdO (flS s))) :=
  (file_spec0 F s hby hl).fr ho rfl rfl (.pt trivial) (.closed _ rfl)

def f0 : Fil := ⟨bs [], bs [], []⟩

def dS (l : List Int) : RdS := ⟨l.take (l.length - 4), false⟩

def sumBad (l : List Int) : Bool := decide (l.length < 4) || !(l.drop (l.length - 4) == beN 4 (fnv (l.take (l.length - 4))))

def decFE (l : List Int) : Int :=
  if 65536 < l.length then 2 else if sumBad l then 12
  else if (flS (dS l)).bad = true ∨ 0 < (flS (dS l)).rest.length then 11 else if encFE (flV (dS l)) ≠ 0 ∨ filB (flV (dS l)) ≠ l then 11 else 0

def decFV (l : List Int) : Fil := if decFE l = 0 then flV (dS l) else f0

def decRaw (l : List Int) : AVal := if decFE l = 0 then .tuple [.agg (fV (flV (dS l))), .int .i64 0] else .tuple [.agg [.str (bs []), .str (bs []), .nil], .int .i64 (decFE l)]

theorem decRaw_wk (l : List Int) : WkD (decRaw l) (.tuple [.agg (fV (decFV l)), .int .i64 (decFE l)]) := by
  unfold decRaw decFV
  split
  · rename_i h; rw [h]; exact .refl _
  · exact .tuples (.cons (.aggs (.cons (.refl _) (.cons (.refl _) (.cons (.nil false 3) .nil)))) (.cons (.refl _) .nil))

theorem strOf_size (l : List Int) : (strOf l).size = l.length := by simp [strOf, ByteArray.size]

set_option maxRecDepth 20000 in
theorem txV_size {s : RdS} (h : Byt s.rest) : (txV s).size ≤ 255 := by
  rw [txV, strOf_size]
  have h1 := num_bnd _ (tkL_byt (n := 1) h)
  have h2 := tkL_len (n := 1) (s := s) (by omega)
  have h3 : (256 : Int) ^ (tkL 1 s).length ≤ 256 ^ 1 := by
    have : (256 : Nat) ^ (tkL 1 s).length ≤ 256 ^ 1 := Nat.pow_le_pow_right (by omega) (by omega)
    exact_mod_cast this
  have h4 := tkL_len (n := nbV 1 s) (s := tkS 1 s) h1.1
  have h5 : nbV 1 s < 256 := by rw [nbV]; omega
  omega

set_option maxRecDepth 20000 in
theorem batch_Decode_raw {P : Program} (F : F_batch_Decode P) (l : List Int) (hby : Byt l) (H : List AObj) :
    ACalls P F.id [.list false 1 (bC l)] H (fun r H' => r = decRaw l ∧ H' = H) := by
  refine ACalls.pure rfl (acalls_of_body F.has ?_)
  have bad : ∀ {H1 : List AObj} (e : Int), decFE l = e → e ≠ 0 → Pub H1 0 [] (.tuple [.agg [.str (bs []), .str (bs []), .nil], .int .i64 e]) (decRaw l) := fun e h1 h2 => by
    rw [decRaw, if_neg (by rw [h1]; exact h2), h1]
    exact pub2 (.closed _ rfl) (.closed _ rfl)
  (conv => whnf); refine recA (fun h1 => ?_) (fun h1 => ?_)
  · simp [bC_length] at h1
    conv => whnf
    exact bad 2 (by rw [decFE, if_pos (by omega)]) (by decide)
  simp [bC_length] at h1
  (conv => whnf); refine recA (fun h2 => ?_) (fun h2 => ?_)
  · simp [bC_length] at h2
    conv => whnf
    exact bad 12 (by rw [decFE, if_neg (by omega), if_pos (by rw [sumBad, decide_eq_true (by omega)]; rfl)]) (by decide)
  simp [bC_length] at h2
  have ew : IntKind.i64.wrap (((bC l).length : Int) - 4) = ((l.length - 4 : Nat) : Int) := by rw [bC_length, wrapI _ (by omega) (by omega)]; omega
  have et : (IntKind.i64.wrap (((bC l).length : Int) - 4)).toNat = l.length - 4 := by rw [ew, Int.toNat_natCast]
  have es1 : List.drop (IntKind.i64.wrap (((bC l).length : Int) - 4)).toNat (List.take (bC l).length (bC l)) = bC (l.drop (l.length - 4)) := by rw [et, List.take_length, bC_drop]
  have es2 : List.drop 0 (List.take (IntKind.i64.wrap (((bC l).length : Int) - 4)).toNat (bC l)) = bC (l.take (l.length - 4)) := by rw [et, List.drop_zero, bC_take]
  have hbt : Byt (l.take (l.length - 4)) := fun x hx => hby x (List.mem_of_mem_take hx)
  have hbd : Byt (l.drop (l.length - 4)) := fun x hx => hby x (List.mem_of_mem_drop hx)
  have hlt : (l.take (l.length - 4)).length ≤ 65536 := by rw [List.length_take]; omega
  (conv => whnf); refine And.intro (by rw [ew, bC_length]; omega) ?_
  (conv => whnf); refine And.intro (by rw [ew, bC_length]; omega) ?_
  conv => whnf
  rw [es1, es2]
  (conv => whnf); refine ⟨_, Checksum_spec F.batch_Checksum false (l.take (l.length - 4)) (by omega) _, ?_⟩
  (conv => whnf); refine ⟨_, put4_nil F.batch_put4 (fnv (l.take (l.length - 4))) _, ?_⟩
  conv => whnf
  rw [p4_eq _ (fnv_bound _).1 (fnv_bound _).2]
  (conv => whnf); refine ⟨_, bytesEqual_spec F.bytes_Equal false false (l.drop (l.length - 4)) (beN 4 (fnv (l.take (l.length - 4)))) hbd (beN_byt _ _) _, ?_⟩
  have hsb : sumBad l = !(l.drop (l.length - 4) == beN 4 (fnv (l.take (l.length - 4)))) := by rw [sumBad, decide_eq_false (by omega), Bool.false_or]
  (conv => whnf); refine recA (fun h3 => ?_) (fun h3 => ?_)
  · replace h3 : (!(l.drop (l.length - 4) == beN 4 (fnv (l.take (l.length - 4))))) = true := h3
    conv => whnf
    exact bad 12 (by rw [decFE, if_neg (by omega), if_pos (by rw [hsb]; exact h3)]) (by decide)
  replace h3 : (!(l.drop (l.length - 4) == beN 4 (fnv (l.take (l.length - 4))))) = false := h3
  have hE : decFE l = if (flS (dS l)).bad = true ∨ 0 < (flS (dS l)).rest.length then 11 else if encFE (flV (dS l)) ≠ 0 ∨ filB (flV (dS l)) ≠ l then 11 else 0 := by
    rw [decFE, if_neg (by omega), if_neg (by rw [hsb, h3]; simp)]
  (conv => whnf); refine And.intro (by rw [ew, bC_length]; omega) ?_
  conv => whnf
  rw [es2]
  (conv => whnf); refine ACalls.mono (file_spec F.batch_reader_file (dS l) hbt (by show (l.take (l.length - 4)).length ≤ 1000000; omega) _ 1 rfl) ?_
  rintro r H' ⟨rfl, rfl⟩
  (conv => whnf); refine recA (fun h4 => ?_) (fun h4 => ?_)
  · replace h4 : (flS (dS l)).bad = true := h4
    conv => whnf
    exact bad 11 (by rw [hE, if_pos (.inl h4)]) (by decide)
  replace h4 : (flS (dS l)).bad = false := h4
  (conv => whnf); refine recA (fun h5 => ?_) (fun h5 => ?_)
  · simp [bC_length] at h5
    conv => whnf
    exact bad 11 (by rw [hE, if_pos (.inr (by omega))]) (by decide)
  simp [bC_length] at h5
  have hE2 : decFE l = if encFE (flV (dS l)) ≠ 0 ∨ filB (flV (dS l)) ≠ l then 11 else 0 := by rw [hE, if_neg (by simp [h4, h5])]
  have z1 : (flV (dS l)).id.size ≤ 50000 := Nat.le_trans (txV_size (fl1_byt hbt)) (by omega)
  have z2 : (flV (dS l)).src.size ≤ 50000 := Nat.le_trans (txV_size (txS_byt (fl1_byt hbt))) (by omega)
  have hen := fun H => batch_Encode_spec F.batch_Encode (flV (dS l)) z1 z2 H
  by_cases hz : encFE (flV (dS l)) = 0
  · rw [encFR, if_pos hz] at hen
    (conv => whnf); refine ACalls.use (hen _) ?_
    conv => whnf
    (conv => whnf); refine ACalls.use (bytesEqual_spec F.bytes_Equal false false (filB (flV (dS l))) l (filB_byt _) hby _) ?_
    (conv => whnf); refine recA (fun h6 => ?_) (fun h6 => ?_)
    · replace h6 : (!(filB (flV (dS l)) == l)) = true := h6
      simp at h6
      conv => whnf
      exact bad 11 (by rw [hE2, if_pos (.inr h6)]) (by decide)
    · replace h6 : (!(filB (flV (dS l)) == l)) = false := h6
      simp at h6
      have hz0 : decFE l = 0 := by rw [hE2, if_neg (by simp [hz, h6])]
      conv => whnf
      rw [decRaw, if_pos hz0]
      exact pub2 (.closed _ rfl) (.closed _ rfl)
  · rw [encFR, if_neg hz] at hen
    (conv => whnf); refine ACalls.use (hen _) ?_
    (conv => whnf); refine recT (by show (!(encFE (flV (dS l)) == 0)) = true; simp [hz]) ?_
    conv => whnf
    exact bad 11 (by rw [hE2, if_pos (.inl hz)]) (by decide)

theorem batch_Decode_spec {P : Program} (F : F_batch_Decode P) (l : List Int) (hby : Byt l) (H : List AObj) :
    ACalls P F.id [.list false 1 (bC l)] H (fun r H' => r = .tuple [.agg (fV (decFV l)), .int .i64 (decFE l)] ∧ H' = H) :=
  ACalls.weakRD (batch_Decode_raw F l hby H) (by rintro r H' ⟨rfl, rfl⟩; exact ⟨_, decRaw_wk l, rfl, rfl⟩)

end Go.AW

namespace Go.AW
variable [Draws]
attribute [local irreducible] ACalls
def tkZ (n : Int) (s : RdS) : List Int := if tkB n s then s.rest.take n.toNat else List.replicate n.toNat 0

theorem keepB_hd {a : Nat} {o : AObj} {G : List AObj} (h3 : o.olen = a) : keepB [a] [0] (o :: G) := keepB_one rfl rfl h3

end Go.AW

namespace Go.AW
variable [Draws]
attribute [local irreducible] ACalls
def zt (s : RdS) : ByteArray := strOf (tkZ (nbV 1 s) (tkS 1 s))

def zL (s : RdS) : List Int := tkZ (nbV 2 (tkS 4 (tkS 1 s))) (rq3 s)

def zrec (s : RdS) : Option Rec := (dcV (zL s)).map fun rs => ⟨nbV 1 s == 1, nbV 4 (tkS 1 s), rs⟩

def zlP : Nat → RdS → List Rec → Option (List Rec × RdS)
  | 0, s, L => some (L, s)
  | n + 1, s, L => if s.bad then some (L, s) else match zrec s with
    | none => none
    | some r => zlP n (rq4 s) (L ++ [r])

def z1 (l : List Int) : RdS := tkS 4 (dS l)

def z2 (l : List Int) : RdS := txS (z1 l)

def z3 (l : List Int) : RdS := txS (z2 l)

def z4 (l : List Int) : RdS := tkS 2 (z3 l)

def zN (l : List Int) : Int := nbV 2 (z3 l)

def zP (l : List Int) : Option (List Rec × RdS) := zlP (zN l).toNat (z4 l) []

def zF (l : List Int) (L : List Rec) : Fil := ⟨zt (z1 l), zt (z2 l), L⟩

def refFE (l : List Int) : Int :=
  if 65536 < l.length then 2 else if sumBad l then 12
  else match zP l with
    | none => 11
    | some (L, st) => if st.bad = true ∨ encFE (zF l L) ≠ 0 ∨ filB (zF l L) ≠ l then 11 else 0

def refFV (l : List Int) : Fil := if refFE l = 0 then (match zP l with | none => f0 | some (L, _) => zF l L) else f0

theorem ob3 {H : List AObj} {ids : List Nat} {a b : ByteArray} {c c1 : AVal} (h : Pub H 0 ids c c1) (hc : c1.isCell = true) : ObP H ids (.arr 3 [[.str a, .str b, c]]) (.arr 3 [[.str a, .str b, c1]]) := by
  refine .map 3 _ _ rfl (fun i e e1 h1 h2 => ?_) (fun i j e e1 d d1 h1 h2 h3 h4 => ?_)
  · rcases i with _ | i
    · cases h1; cases h2; rfl
    · simp at h1
  · rcases i with _ | i
    · cases h1; cases h2
      rcases j with _ | _ | _ | j
      · cases h3; cases h4; exact ⟨.closed _ rfl, rfl⟩
      · cases h3; cases h4; exact ⟨.closed _ rfl, rfl⟩
      · cases h3; cases h4; exact ⟨h, hc⟩
      · simp at h3
    · simp at h1

end Go.AW

namespace Go.AW
variable [Draws]
theorem tk_app (x rest : List Int) (n : Int) (hn : n = x.length) : tkL n ⟨x ++ rest, false⟩ = x ∧ tkZ n ⟨x ++ rest, false⟩ = x ∧ tkS n ⟨x ++ rest, false⟩ = ⟨rest, false⟩ := by
  subst hn
  have h : tkB x.length ⟨x ++ rest, false⟩ = true := by simp [tkB]; omega
  refine ⟨?_, ?_, ?_⟩
  · rw [tkL, h, if_pos rfl]; simp
  · rw [tkZ, h, if_pos rfl]; simp
  · rw [tkS, h, if_pos rfl]; simp

theorem num_be : ∀ (k : Nat) (n : Int), 0 ≤ n → n < 256 ^ k → num (beN k n) = n
  | 0, n, h0, h1 => by simp at h1; rw [beN]; show (0 : Int) = n; omega
  | k + 1, n, h0, h1 => by
    rw [Int.pow_succ] at h1
    have ih := num_be k (n / 256) (by omega) (by omega)
    rw [num] at ih
    rw [beN, num, List.foldl_append, ih]
    show n / 256 * 256 + n % 256 = n
    omega

theorem nb_app (x rest : List Int) (n : Int) (hn : n = x.length) : nbV n ⟨x ++ rest, false⟩ = num x := by rw [nbV, (tk_app x rest n hn).1]

theorem text_app (s : ByteArray) (rest : List Int) (hs : s.size ≤ 255) :
    txV ⟨(u8 s.size :: bytesI s) ++ rest, false⟩ = s ∧ zt ⟨(u8 s.size :: bytesI s) ++ rest, false⟩ = s ∧ txS ⟨(u8 s.size :: bytesI s) ++ rest, false⟩ = ⟨rest, false⟩ := by
  have e1 : (u8 s.size :: bytesI s) ++ rest = [u8 s.size] ++ (bytesI s ++ rest) := rfl
  have hn : nbV 1 ⟨(u8 s.size :: bytesI s) ++ rest, false⟩ = s.size := by
    rw [e1, nb_app [u8 s.size] _ 1 rfl]
    show 0 * 256 + u8 s.size = _
    rw [u8_eq]; omega
  have ht : tkS 1 ⟨(u8 s.size :: bytesI s) ++ rest, false⟩ = ⟨bytesI s ++ rest, false⟩ := by
    rw [e1]; exact (tk_app [u8 s.size] _ 1 rfl).2.2
  have hb := tk_app (bytesI s) rest s.size (by rw [bytesI_length])
  rw [txV, zt, txS, hn, ht, hb.1, hb.2.1, hb.2.2, strOf_bytesI]
  exact ⟨rfl, rfl, rfl⟩

theorem valC_inj {a b : V} (h : valC a = valC b) : a = b := by
  cases a; cases b
  simp [valC] at h
  obtain ⟨rfl, rfl, rfl⟩ := h
  rfl

theorem vC_inj : ∀ {a b : List V}, vC a = vC b → a = b
  | [], [], _ => rfl
  | [], _ :: _, h => by simp [vC] at h
  | _ :: _, [], h => by simp [vC] at h
  | x :: a, y :: b, h => by
    simp only [vC, List.map_cons, List.cons.injEq] at h
    rw [valC_inj h.1, vC_inj (a := a) (b := b) h.2]

theorem dcV_enc {row : List V} (h : rowE row = 0) : dcV (encB row) = some row := by
  obtain ⟨h1, h2⟩ := rowE_zero h
  have h3 := decR_enc row h1 fun v hv => List.all_eq_true.1 h2 v hv
  rw [decR_eq] at h3
  cases hc : dcV (encB row) with
  | none => rw [hc] at h3; simp at h3
  | some rs =>
    rw [hc] at h3
    simp only [AVal.tuple.injEq, List.cons.injEq, AVal.list.injEq] at h3
    rw [vC_inj h3.1.2.2]

theorem rec_app {r : Rec} (h : recE r = 0) (rest : List Int) :
    recV ⟨recB r ++ rest, false⟩ = r ∧ recS ⟨recB r ++ rest, false⟩ = ⟨rest, false⟩ ∧ zrec ⟨recB r ++ rest, false⟩ = some r ∧ rq4 ⟨recB r ++ rest, false⟩ = ⟨rest, false⟩ := by
  obtain ⟨s0, s1, hr⟩ := recE_zero h
  have hel := encB_len hr
  have e1 : recB r ++ rest = [if r.del then 1 else 0] ++ (beN 4 r.seq ++ (beN 2 (encB r.row).length ++ (encB r.row ++ rest))) := by simp [recB]
  have t1 : tkS 1 ⟨recB r ++ rest, false⟩ = ⟨beN 4 r.seq ++ (beN 2 (encB r.row).length ++ (encB r.row ++ rest)), false⟩ := by rw [e1]; exact (tk_app [_] _ 1 rfl).2.2
  have t2 : tkS 4 (tkS 1 ⟨recB r ++ rest, false⟩) = ⟨beN 2 (encB r.row).length ++ (encB r.row ++ rest), false⟩ := by rw [t1]; exact (tk_app _ _ 4 (by rw [beN_length]; rfl)).2.2
  have t3 : rq3 ⟨recB r ++ rest, false⟩ = ⟨encB r.row ++ rest, false⟩ := by rw [rq3, t2]; exact (tk_app _ _ 2 (by rw [beN_length]; rfl)).2.2
  have n1 : nbV 1 ⟨recB r ++ rest, false⟩ = if r.del then 1 else 0 := by
    rw [e1, nb_app [_] _ 1 rfl]; show 0 * 256 + _ = _; omega
  have n2 : nbV 4 (tkS 1 ⟨recB r ++ rest, false⟩) = r.seq := by
    rw [t1, nb_app _ _ 4 (by rw [beN_length]; rfl), num_be 4 _ s0 (by omega)]
  have n3 : nbV 2 (tkS 4 (tkS 1 ⟨recB r ++ rest, false⟩)) = (encB r.row).length := by
    rw [t2, nb_app _ _ 2 (by rw [beN_length]; rfl), num_be 2 _ (by omega) (by omega)]
  have tl := tk_app (encB r.row) rest _ rfl
  have hL : rqL ⟨recB r ++ rest, false⟩ = encB r.row := by rw [rqL, n3, t3, tl.1]
  have hZ : zL ⟨recB r ++ rest, false⟩ = encB r.row := by rw [zL, n3, t3, tl.2.1]
  have h4 : rq4 ⟨recB r ++ rest, false⟩ = ⟨rest, false⟩ := by rw [rq4, n3, t3, tl.2.2]
  have hd : (!((if r.del then (1 : Int) else 0) == 0)) = r.del := by cases r.del <;> rfl
  have hd2 : ((if r.del then (1 : Int) else 0) == 1) = r.del := by cases r.del <;> rfl
  refine ⟨?_, ?_, ?_, h4⟩
  · rw [recV, n1, n2, hL, dcV_enc hr, hd]; rfl
  · rw [recS, hL, dcV_enc hr]; exact h4
  · rw [zrec, hZ, dcV_enc hr, n1, n2, hd2]; rfl

theorem recs_app : ∀ (l : List Rec), recsE l = 0 → ∀ (rest : List Int) (L : List Rec),
    flP l.length ⟨l.flatMap recB ++ rest, false⟩ L = (L ++ l, ⟨rest, false⟩) ∧ zlP l.length ⟨l.flatMap recB ++ rest, false⟩ L = some (L ++ l, ⟨rest, false⟩)
  | [], _, rest, L => by simp [flP, zlP]
  | r :: l, h, rest, L => by
    have hr := recsE_zero h r (List.mem_cons_self ..)
    have hl : recsE l = 0 := by rw [recsE, if_neg (by simp [hr])] at h; exact h
    obtain ⟨a1, a2, a3, a4⟩ := rec_app hr (l.flatMap recB ++ rest)
    have ih := recs_app l hl rest (L ++ [r])
    rw [List.flatMap_cons, List.append_assoc, List.length_cons, flP, if_neg (by simp), zlP, if_neg (by simp), a1, a2, a3, a4]
    simp only []
    rw [ih.1, ih.2, List.append_assoc]
    exact ⟨rfl, rfl⟩

theorem nameB_size {s : ByteArray} (h : nameB s = true) : s.size ≤ 24 := by
  simp only [nameB, Bool.and_eq_true, decide_eq_true_eq] at h; exact h.1

theorem qualB_size {s : ByteArray} (h : qualB s = true) : s.size ≤ 49 := by
  unfold qualB at h
  split at h
  · rename_i h0
    simp only [Bool.and_eq_true] at h
    have h1 := nameB_size h.1
    have h2 := nameB_size h.2
    have hd : dotAt s < s.size := by
      rcases ib_cases s.data.toList 46 with hx | ⟨i, hx, hl⟩
      · rw [dotAt, hx] at h0; omega
      · rw [dotAt, hx]
        have : s.data.toList.length = s.size := by simp
        omega
    rw [ByteArray.size_extract] at h1 h2
    omega
  · have := nameB_size h; omega

theorem parse_enc {f : Fil} (h : filE f = 0) : flV ⟨bodyB f, false⟩ = f ∧ flS ⟨bodyB f, false⟩ = ⟨[], false⟩ := by
  obtain ⟨h1, h2, h3, h4⟩ := filE_ok h
  have hi := nameB_size h3
  have hs := qualB_size h4
  have e0 : bodyB f = [87, 72, 70, 49] ++ ((u8 f.id.size :: bytesI f.id) ++ ((u8 f.src.size :: bytesI f.src) ++ (beN 2 f.recs.length ++ (f.recs.flatMap recB ++ [])))) := by
    simp [bodyB, headB]
  rw [e0]
  have hm : magic ⟨[87, 72, 70, 49] ++ ((u8 f.id.size :: bytesI f.id) ++ ((u8 f.src.size :: bytesI f.src) ++ (beN 2 f.recs.length ++ (f.recs.flatMap recB ++ [])))), false⟩ = true := by
    rw [magic, (tk_app _ _ 4 rfl).1]; rfl
  have f1 : fl1 ⟨[87, 72, 70, 49] ++ ((u8 f.id.size :: bytesI f.id) ++ ((u8 f.src.size :: bytesI f.src) ++ (beN 2 f.recs.length ++ (f.recs.flatMap recB ++ [])))), false⟩ = ⟨(u8 f.id.size :: bytesI f.id) ++ ((u8 f.src.size :: bytesI f.src) ++ (beN 2 f.recs.length ++ (f.recs.flatMap recB ++ []))), false⟩ := by
    rw [fl1, hm, if_pos rfl, (tk_app _ _ 4 rfl).2.2]
  have x1 := text_app f.id ((u8 f.src.size :: bytesI f.src) ++ (beN 2 f.recs.length ++ (f.recs.flatMap recB ++ []))) (by omega)
  have x2 := text_app f.src (beN 2 f.recs.length ++ (f.recs.flatMap recB ++ [])) (by omega)
  have x3 := recs_app f.recs h1 [] []
  have nn : nbV 2 ⟨beN 2 f.recs.length ++ (f.recs.flatMap recB ++ []), false⟩ = f.recs.length := by
    rw [nb_app _ _ 2 (by rw [beN_length]; rfl), num_be 2 _ (by omega) (by omega)]
  have ns : tkS 2 ⟨beN 2 f.recs.length ++ (f.recs.flatMap recB ++ []), false⟩ = ⟨f.recs.flatMap recB ++ [], false⟩ := (tk_app _ _ 2 (by rw [beN_length]; rfl)).2.2
  rw [flV, flS, flN, fl4, fl3, fl2, f1, x1.1, x1.2.2, x2.1, x2.2.2, nn, ns, Int.toNat_natCast, x3.1]
  exact ⟨rfl, rfl⟩

theorem zparse_enc {f : Fil} (h : filE f = 0) (l : List Int) (hl : dS l = ⟨bodyB f, false⟩) : zP l = some (f.recs, ⟨[], false⟩) ∧ zF l f.recs = f := by
  obtain ⟨h1, h2, h3, h4⟩ := filE_ok h
  have hi := nameB_size h3
  have hs := qualB_size h4
  have e0 : bodyB f = [87, 72, 70, 49] ++ ((u8 f.id.size :: bytesI f.id) ++ ((u8 f.src.size :: bytesI f.src) ++ (beN 2 f.recs.length ++ (f.recs.flatMap recB ++ [])))) := by
    simp [bodyB, headB]
  have f1 : z1 l = ⟨(u8 f.id.size :: bytesI f.id) ++ ((u8 f.src.size :: bytesI f.src) ++ (beN 2 f.recs.length ++ (f.recs.flatMap recB ++ []))), false⟩ := by
    rw [z1, hl, e0, (tk_app _ _ 4 rfl).2.2]
  have x1 := text_app f.id ((u8 f.src.size :: bytesI f.src) ++ (beN 2 f.recs.length ++ (f.recs.flatMap recB ++ []))) (by omega)
  have x2 := text_app f.src (beN 2 f.recs.length ++ (f.recs.flatMap recB ++ [])) (by omega)
  have x3 := recs_app f.recs h1 [] []
  have nn : nbV 2 ⟨beN 2 f.recs.length ++ (f.recs.flatMap recB ++ []), false⟩ = f.recs.length := by
    rw [nb_app _ _ 2 (by rw [beN_length]; rfl), num_be 2 _ (by omega) (by omega)]
  have ns : tkS 2 ⟨beN 2 f.recs.length ++ (f.recs.flatMap recB ++ []), false⟩ = ⟨f.recs.flatMap recB ++ [], false⟩ := (tk_app _ _ 2 (by rw [beN_length]; rfl)).2.2
  rw [zP, zF, zN, z4, z3, z2, f1, x1.2.1, x1.2.2, x2.2.1, x2.2.2, nn, ns, Int.toNat_natCast, x3.2]
  exact ⟨rfl, rfl⟩

theorem filB_split (f : Fil) : (filB f).length = (bodyB f).length + 4 ∧ dS (filB f) = ⟨bodyB f, false⟩ ∧ sumBad (filB f) = false := by
  have hl : (filB f).length = (bodyB f).length + 4 := by rw [filB, List.length_append, beN_length]
  have ht : (filB f).take ((filB f).length - 4) = bodyB f := by rw [hl, filB]; simp
  have hd : (filB f).drop ((filB f).length - 4) = beN 4 (fnv (bodyB f)) := by rw [hl, filB]; simp
  refine ⟨hl, by rw [dS, ht], ?_⟩
  rw [sumBad, ht, hd, decide_eq_false (by omega)]
  simp

theorem encFE_zero {f : Fil} (h : encFE f = 0) : filE f = 0 ∧ (filB f).length ≤ 65536 := by
  unfold encFE at h
  split at h
  · rename_i hx; exact absurd h hx
  · rename_i hx
    split at h
    · cases h
    · exact ⟨by simpa using hx, by omega⟩

theorem dec_enc {f : Fil} (h : encFE f = 0) : decFE (filB f) = 0 ∧ decFV (filB f) = f ∧ refFE (filB f) = 0 ∧ refFV (filB f) = f := by
  obtain ⟨h1, h2⟩ := encFE_zero h
  obtain ⟨_, s2, s3⟩ := filB_split f
  obtain ⟨p1, p2⟩ := parse_enc h1
  obtain ⟨q1, q2⟩ := zparse_enc h1 (filB f) s2
  have d : decFE (filB f) = 0 := by
    rw [decFE, if_neg (by omega), if_neg (by rw [s3]; simp), s2, p1, p2, if_neg (by simp), if_neg (by simp [h])]
  have r : refFE (filB f) = 0 := by
    rw [refFE, if_neg (by omega), if_neg (by rw [s3]; simp), q1]
    simp only []
    rw [q2, if_neg (by simp [h])]
  refine ⟨d, by rw [decFV, if_pos d, s2, p1], r, ?_⟩
  rw [refFV, if_pos r, q1]
  exact q2

end Go.AW

namespace Go.AW
variable [Draws]
attribute [local irreducible] ACalls
set_option maxRecDepth 20000 in
theorem ref22_SameRow_refl {P : Program} (F : F_warehouseref22_SameRow P) (e1 e2 : Bool) (a : List V) (ha : a.length ≤ 1000000) (H : List AObj) :
    ACalls P F.id [.list e1 3 (vC a), .list e2 3 (vC a)] H (fun r H' => r = .bool true ∧ H' = H) := by
  refine ACalls.pure (by simp [AVal.closed, AVal.isPure]) (acalls_of_body F.has ?_)
  (conv => whnf); refine recF (by simp) ?_
  conv => whnf
  refine ⟨fun m ρ H => ∃ k : Nat, k + m = a.length ∧ H = [] ∧ Sv 26 [(0, .list e1 3 (vC a)), (1, .list e2 3 (vC a)), (5, .int .i64 k)] ρ, a.length, [], ?_, ?_⟩
  · exact ⟨0, by omega, rfl, Sv.intro rfl ⟨rfl, rfl, rfl, trivial⟩⟩
  rintro m ρ H ⟨k, hk, rfl, d, rfl⟩
  (conv => whnf); refine recA (fun hlt => ?_) (fun hlt => ?_)
  · simp [vC_length] at hlt
    obtain ⟨x, hx, _, _⟩ := get_drop hlt
    (conv => whnf); refine And.intro (by omega) ?_
    (conv => whnf); refine recO (vC_at hx) ?_
    (conv => whnf); refine And.intro (by omega) ?_
    (conv => whnf); refine recO (vC_at hx) ?_
    (conv => whnf); refine recF (by simp) ?_
    conv => whnf
    refine ⟨m - 1, by omega, Gp.keep rfl ?_ fun ρ1 h => ⟨k + 1, by omega, rfl, h⟩⟩
    exact ⟨rfl, rfl, intEq (wrapI ((k : Int) + 1) (by omega) (by omega)), trivial⟩
  · conv => whnf
    exact .closed _ rfl

theorem SameRecord_refl {P : Program} (F : F_warehouseref24_SameRecord P) (r : Rec) (ha : r.row.length ≤ 1000000) (H : List AObj) :
    ACalls P F.id [.agg (recC r), .agg (recC r)] H (fun q H' => q = .bool true ∧ H' = H) := by
  refine ACalls.pure (by simp [AVal.closed, recC, AVal.isPure]) (acalls_of_body F.has ?_)
  (conv => whnf); refine recT (by simp) ?_
  (conv => whnf); refine recT (by simp) ?_
  (conv => whnf); refine ACalls.use (ref22_SameRow_refl F.warehouseref22_SameRow false false r.row ha _) ?_
  conv => whnf
  exact .closed _ rfl

set_option maxRecDepth 20000 in
theorem SameFile_refl {P : Program} (F : F_warehouseref24_SameFile P) (f : Fil) (ha : f.recs.length ≤ 1000000) (hr : ∀ r ∈ f.recs, r.row.length ≤ 1000000) (H : List AObj) :
    ACalls P F.id [.agg (fV f), .agg (fV f)] H (fun q H' => q = .bool true ∧ H' = H) := by
  refine ACalls.pure (by simp [AVal.closed, fV, AVal.isPure]) (acalls_of_body F.has ?_)
  (conv => whnf); refine recF (by simp) ?_
  (conv => whnf); refine recF (by simp) ?_
  (conv => whnf); refine recF (by simp) ?_
  conv => whnf
  refine ⟨fun m ρ H => ∃ k : Nat, k + m = f.recs.length ∧ H = [.arr 3 [fV f], .arr 3 [fV f]] ∧ Sv 46 [(2, .ptr 0 1 0 0), (3, .ptr 1 1 0 0), (5, .int .i64 k)] ρ, f.recs.length, [], ?_, ?_⟩
  · exact ⟨0, by omega, rfl, Sv.intro rfl ⟨rfl, rfl, rfl, trivial⟩⟩
  rintro m ρ H ⟨k, hk, rfl, d, rfl⟩
  (conv => whnf); refine recA (fun hlt => ?_) (fun hlt => ?_)
  · simp [rC_length] at hlt
    obtain ⟨x, hx, _, hxm⟩ := get_drop hlt
    (conv => whnf); refine And.intro (by omega) ?_
    (conv => whnf); refine recO (rC_at hx) ?_
    (conv => whnf); refine And.intro (by omega) ?_
    (conv => whnf); refine recO (rC_at hx) ?_
    (conv => whnf); refine ⟨_, SameRecord_refl F.warehouseref24_SameRecord x (hr x hxm) _, ?_⟩
    conv => whnf
    refine ⟨m - 1, by omega, Gp.keep rfl ?_ fun ρ1 h => ⟨k + 1, by omega, rfl, h⟩⟩
    exact ⟨rfl, rfl, intEq (wrapI ((k : Int) + 1) (by omega) (by omega)), trivial⟩
  · conv => whnf
    exact .closed _ rfl

theorem filE_small {f : Fil} (h : filE f = 0) : f.recs.length ≤ 1000000 ∧ ∀ r ∈ f.recs, r.row.length ≤ 1000000 := by
  obtain ⟨h1, h2, _⟩ := filE_ok h
  exact ⟨by omega, fun r hr => by have := (rowE_zero (recE_zero (recsE_zero h1 r hr)).2.2).1; omega⟩

def fk : Fil := ⟨bs [97], bs [115], []⟩

theorem fk_E : encFE fk = 0 := by
  have h1 : filE fk = 0 := by kernel_rfl
  have h2 : (filB fk).length = 14 := by
    rw [filB, List.length_append, beN_length, bodyB]
    simp [headB, fk, bytesI_length, beN_length]; rfl
  rw [encFE, if_neg (by simp [h1]), if_neg (by omega)]

theorem fnv_a : fnv [97] = 3826002220 := by kernel_rfl

set_option maxRecDepth 20000 in
theorem known24_spec {P : Program} (F : F_warehouselaw24_known P) (H : List AObj) :
    ACalls P F.id [] H (fun r H' => r = .bool true ∧ H' = H) := by
  refine ACalls.pure rfl (acalls_of_body F.has ?_)
  have hen := fun H => (batch_Encode_spec F.batch_Encode fk (by decide) (by decide) H).weakD (args := [.agg [.str (bs [97]), .str (bs [115]), .nil]]) (.cons (.aggs (.cons (.refl _) (.cons (.refl _) (.cons (.nil false 3) .nil)))) .nil)
  rw [encFR, if_pos fk_E] at hen
  (conv => whnf); refine ACalls.use (hen _) ?_
  have hde := fun H => batch_Decode_spec F.batch_Decode (filB fk) (filB_byt _) H
  rw [(dec_enc fk_E).1, (dec_enc fk_E).2.1] at hde
  (conv => whnf); refine ACalls.use (hde _) ?_
  conv => whnf
  refine ACalls.use ((Checksum_spec F.batch_Checksum false [] (by simp) _).weak (.cons (.nil false 1) .nil)) ?_
  (conv => whnf); refine ACalls.use (Checksum_own F.batch_Checksum [97] (by simp) _ 1 rfl) ?_
  rw [fnv_a]
  conv => whnf
  exact .closed _ rfl

end Go.AW

namespace Go.AW
variable [Draws]
attribute [local irreducible] ACalls
theorem pubFI {H1 : List AObj} {n : Nat} {ids : List Nat} {id ep len sz : Nat} {es : List (List AVal)} (hid : id ∉ ids) (ho : H1[id]? = some (.arr sz es)) (he : ep = es.length) (hl : len = es.length) (hp : pureEs es = true) : Pub H1 n ids (.sl id ep 0 len) (.list false sz es) := by
  subst hl he
  have := Pub.frz (n := n) (ids := ids) id es.length 0 es.length sz es ho rfl hp hid
  rwa [List.drop_zero, List.take_length] at this

end Go.AW

namespace Go.AW
variable [Draws]
attribute [local irreducible] ACalls
theorem place_eq (x k : Int) (hk : 1 ≤ k) (hk2 : k ≤ 1000000) : (IntKind.i64.wrap (x.tmod k + k)).tmod k = x % k := by
  have h1 := Int.tmod_lt_of_pos x (show 0 < k by omega)
  have h2 := Int.lt_tmod_of_pos x (show 0 < k by omega)
  rw [wrapI _ (by omega) (by omega), Int.tmod_eq_emod_of_nonneg (by omega), Int.add_emod_right, Int.tmod_def, Int.sub_mul_emod_self_left]

theorem Place_spec {P : Program} (F : F_warehouseworld_Place P) (x k : Int) (hk : 1 ≤ k) (hk2 : k ≤ 1000000) (H : List AObj) :
    ACalls P F.id [.int .i64 x, .int .i64 k] H (fun r H' => r = .int .i64 (x % k) ∧ H' = H) := by
  refine ACalls.pure rfl (acalls_of_body F.has ?_)
  (conv => whnf); refine recF (by simp; omega) ?_
  (conv => whnf); refine And.intro (by omega) ?_
  (conv => whnf); refine And.intro (by omega) ?_
  conv => whnf
  exact pub_int (place_eq x k hk hk2)

end Go.AW

namespace Go.AW
variable [Draws]
attribute [local irreducible] ACalls
def gO (l : List Int) (i : Nat) : AObj := .arr 2 [[.list false 1 (iC l), .int .i64 i]]

def nx (l : List Int) (i : Nat) (n : Int) : Int × Nat := if l.length ≤ i ∨ n < 1 then (0, i) else (l.getD i 0 % n, i + 1)

theorem nx_bnd (l : List Int) (i : Nat) (n : Int) (hn : 1 ≤ n) : 0 ≤ (nx l i n).1 ∧ (nx l i n).1 < n := by
  unfold nx
  split
  · exact ⟨by simp, by simp; omega⟩
  · exact ⟨Int.emod_nonneg _ (by omega), Int.emod_lt_of_pos _ (by omega)⟩

theorem nx_le (l : List Int) (i : Nat) (n : Int) (h : i ≤ l.length) : (nx l i n).2 ≤ l.length := by
  unfold nx
  split
  · exact h
  · rename_i h1
    show i + 1 ≤ _
    omega

set_option maxRecDepth 20000 in
theorem Next_raw {P : Program} (F : F_warehouseworld_Numbers_Next P) (l : List Int) (i : Nat) (n : Int) (hi : i ≤ l.length) (hl : l.length ≤ 1000000) (hn : n ≤ 1000000) :
    ACalls P F.id [.ptr 0 1 0 0, .int .i64 n] [gO l i] (fun r H' => r = .int .i64 (nx l i n).1 ∧ H' = [gO l (nx l i n).2]) := by
  refine acalls_of_body F.has ?_
  (conv => whnf); refine recA (fun h1 => ?_) (fun h1 => ?_)
  · simp [iC_length] at h1
    conv => whnf
    rw [nx, if_pos (.inl h1)]
    exact ⟨rfl, rfl⟩
  simp [iC_length] at h1
  (conv => whnf); refine recA (fun h2 => ?_) (fun h2 => ?_)
  · simp at h2
    conv => whnf
    rw [nx, if_pos (.inr h2)]
    exact ⟨rfl, rfl⟩
  simp at h2
  have e1 : IntKind.i64.wrap ((i : Int) + 1) = ((i + 1 : Nat) : Int) := by rw [wrapI _ (by omega) (by omega)]; omega
  have e2 : IntKind.i64.wrap (IntKind.i64.wrap ((i : Int) + 1) - 1) = i := by rw [e1, wrapI _ (by omega) (by omega)]; omega
  have e3 : (IntKind.i64.wrap (IntKind.i64.wrap ((i : Int) + 1) - 1)).toNat = i := by rw [e2, Int.toNat_natCast]
  have eg : (iC l)[i]? = some [.int .i64 (l.getD i 0)] := iC_get (by omega)
  (conv => whnf); refine And.intro (by rw [e2]; omega) ?_
  (conv => whnf); refine recO (by rw [e3]; exact eg) ?_
  (conv => whnf); refine ⟨_, Place_spec F.warehouseworld_Place (l.getD i 0) n (by omega) (by omega) _, ?_⟩
  conv => whnf
  rw [nx, if_neg (by omega)]
  refine ⟨rfl, ?_⟩
  show [AObj.arr 2 [[.list false 1 (iC l), .int .i64 (IntKind.i64.wrap ((i : Int) + 1))]]] = _
  rw [e1]; rfl

set_option maxRecDepth 20000 in
theorem wColumns_spec {P : Program} (F : F_warehouseworld_Columns P) (H : List AObj) :
    ACalls P F.id [.int .i64 0] H (fun r H' => r = .list true 3 (cC [⟨bs [105, 100], 2, false⟩, ⟨bs [110, 97, 109, 101], 3, true⟩, ⟨bs [97, 116], 4, false⟩]) ∧ H' = H) := by
  refine ACalls.pure rfl (acalls_of_body F.has ?_)
  (conv => whnf); refine ACalls.use (Place_spec F.warehouseworld_Place 0 3 (by decide) (by decide) _) ?_
  conv => whnf
  exact .closed _ rfl

def wnames : List ByteArray := [bs [102, 48], bs [102, 49], bs [102, 50], bs [102, 51], bs [102, 52], bs [102, 53], bs [102, 54], bs [102, 55], bs [102, 56], bs [102, 57], bs [103, 48], bs [103, 49]]

def wname (n : Int) : ByteArray := wnames.getD (n % 12).toNat (bs [])

theorem wName_spec {P : Program} (F : F_warehouseworld_Name P) (n : Int) (H : List AObj) :
    ACalls P F.id [.int .i64 n] H (fun r H' => r = .str (wname n) ∧ H' = H) := by
  refine ACalls.pure rfl (acalls_of_body F.has ?_)
  (conv => whnf); refine ACalls.use (Place_spec F.warehouseworld_Place n 12 (by decide) (by decide) _) ?_
  have h1 := Int.emod_nonneg n (show (12 : Int) ≠ 0 by decide)
  have h2 := Int.emod_lt_of_pos n (show (0 : Int) < 12 by decide)
  (conv => whnf); refine And.intro (h1) ?_
  (conv => whnf); refine recO (sC_at (l := wnames) (x := wname n) (by rw [wname, List.getD_eq_getElem?_getD, List.getElem?_eq_getElem (by show (n % 12).toNat < 12; omega)]; rfl)) ?_
  conv => whnf
  exact .closed _ rfl

def inB (l : List ByteArray) (s : ByteArray) : Bool := l.any fun x => eqS x s

theorem In_spec {P : Program} (F : F_warehouseref23_In P) (l : List ByteArray) (s : ByteArray) (hl : l.length ≤ 1000000) (H : List AObj) :
    ACalls P F.id [.list false 1 (sC l), .str s] H (fun r H' => r = .bool (inB l s) ∧ H' = H) := by
  refine ACalls.pure rfl (acalls_of_body F.has ?_)
  conv => whnf
  refine ⟨fun m ρ H1 => ∃ k : Nat, k + m = l.length ∧ inB l s = inB (l.drop k) s ∧ H1 = [] ∧ Sv 18 [(0, .list false 1 (sC l)), (1, .str s), (5, .int .i64 k)] ρ, l.length, [], ?_, ?_⟩
  · exact ⟨0, by omega, rfl, rfl, Sv.intro rfl ⟨rfl, rfl, rfl, trivial⟩⟩
  rintro m ρ H1 ⟨k, hk, hr, rfl, d, rfl⟩
  (conv => whnf); refine recA (fun hlt => ?_) (fun hlt => ?_)
  · simp [sC_length] at hlt
    have hx : l[k]? = some l[k] := List.getElem?_eq_getElem hlt
    replace hr : inB l s = (eqS l[k] s || inB (l.drop (k + 1)) s) := hr.trans (by rw [List.drop_eq_getElem_cons hlt]; rfl)
    (conv => whnf); refine And.intro (by omega) ?_
    (conv => whnf); refine recO (sC_at hx) ?_
    (conv => whnf); refine recA (fun h1 => ?_) (fun h1 => ?_)
    · replace h1 : eqS l[k] s = true := h1
      conv => whnf
      rw [hr, h1]
      exact pubB rfl
    · replace h1 : eqS l[k] s = false := h1
      rw [h1] at hr
      conv => whnf
      refine ⟨m - 1, by omega, Gp.none rfl ?_ fun ρ1 h => ⟨k + 1, by omega, hr, rfl, h⟩⟩
      exact ⟨.closed _ rfl, .closed _ rfl, pub_int (wrapI _ (by omega) (by omega)), trivial⟩
  · simp [sC_length] at hlt
    rw [List.drop_of_length_le (by omega)] at hr
    conv => whnf
    rw [hr]
    exact pubB rfl

theorem Next_spec {P : Program} (F : F_warehouseworld_Numbers_Next P) (l : List Int) (i : Nat) (n : Int) (hi : i ≤ l.length) (hl : l.length ≤ 1000000) (hn : n ≤ 1000000) (H : List AObj) (id : Nat) (ho : H[id]? = some (gO l i)) :
    ACalls P F.id [.ptr id 1 0 0, .int .i64 n] H (fun r H' => r = .int .i64 (nx l i n).1 ∧ H' = H.set id (gO l (nx l i n).2)) :=
  (Next_raw F l i n hi hl hn).fr ho rfl rfl (.pt (.cl rfl trivial)) (.closed _ rfl)

def inst0 : List Int := [0, 719, 1380, 1400, 1439, 1440, 1500, 2000, 2879, 2880, 4000, 4320, 5000, 7199, 7200, 9000]

def instK : Nat → List Int
  | 0 => inst0
  | k + 1 => (instK k).set k (IntKind.i64.wrap ((instK k).getD k 0 + 144000))

theorem instK_len : ∀ k, (instK k).length = 16
  | 0 => rfl
  | k + 1 => by rw [instK, List.length_set, instK_len k]

def instL : List Int := [144000, 144719, 145380, 145400, 145439, 145440, 145500, 146000, 146879, 146880, 148000, 148320, 149000, 151199, 151200, 153000]

theorem instK_16 : instK 16 = instL := by decide

theorem setEs_iC (l : List Int) (k : Nat) (v : Int) : setEs (iC l) k [.int .i64 v] = iC (l.set k v) := by rw [setEs_eq]; simp [iC]

set_option maxRecDepth 20000 in
theorem Instants_spec {P : Program} (F : F_warehouseworld_Instants P) (H : List AObj) :
    ACalls P F.id [] H (fun r H' => r = .list false 1 (iC instL) ∧ H' = H) := by
  refine ACalls.pure rfl (acalls_of_body F.has ?_)
  conv => whnf
  refine ⟨fun m ρ H1 => ∃ k : Nat, k + m = 16 ∧ H1 = [.arr 1 (iC (instK k))] ∧ Sv 17 [(1, .sl 0 16 0 16), (2, .int .i64 k)] ρ, 16, [], ?_, ?_⟩
  · exact ⟨0, by omega, rfl, Sv.intro rfl ⟨rfl, rfl, trivial⟩⟩
  rintro m ρ H1 ⟨k, hk, rfl, d, rfl⟩
  have hl := instK_len k
  (conv => whnf); refine recT (by rw [iC_length, hl]; rfl) ?_
  (conv => whnf); refine recA (fun hlt => ?_) (fun hlt => ?_)
  · simp at hlt
    have eg : (iC (instK k))[k]? = some [.int .i64 ((instK k).getD k 0)] := iC_get (by omega)
    have hb : Nat.beq 16 (iC (instK k)).length = true := by rw [iC_length, hl]; rfl
    have hidx : (iC (instK k))[0 + (k : Int).toNat]? = some [.int .i64 ((instK k).getD k 0)] := by rw [Nat.zero_add, Int.toNat_natCast]; exact eg
    (conv => whnf); refine recT (hb) ?_
    (conv => whnf); refine And.intro (⟨by omega, by omega⟩) ?_
    (conv => whnf); refine recT (hb) ?_
    (conv => whnf); refine recO (hidx) ?_
    (conv => whnf); refine recT (hb) ?_
    (conv => whnf); refine And.intro (⟨by omega, by omega⟩) ?_
    (conv => whnf); refine recT (hb) ?_
    (conv => whnf); refine recO (hidx) ?_
    conv => whnf
    refine ⟨m - 1, by omega, Gp.keep rfl ?_ fun ρ1 h => ⟨k + 1, by omega, ?_, h⟩⟩
    · exact ⟨rfl, intEq (wrapI _ (by omega) (by omega)), trivial⟩
    · show [AObj.arr 1 (setEs (iC (instK k)) (0 + (k : Int).toNat) [.int .i64 (IntKind.i64.wrap ((instK k).getD k 0 + 144000))])] = _
      rw [Nat.zero_add, Int.toNat_natCast, setEs_iC, instK]
  · simp at hlt
    have : k = 16 := by omega
    subst this
    rw [instK_16]
    conv => whnf
    exact pubF rfl rfl rfl (pureEs_iC _)

def wtexts : List ByteArray := [bs [], bs [97], bs [98], bs [105, 116, 39, 115], bs [122, 122]]

def wv1 (k : Int) (l : List Int) (i : Nat) : V × Nat :=
  if k = 1 then (⟨1, (nx l i 2).1, bs []⟩, (nx l i 2).2)
  else if k = 2 then (⟨2, (nx l i 7).1 - 1, bs []⟩, (nx l i 7).2)
  else if k = 3 then (⟨3, 0, wtexts.getD (nx l i 5).1.toNat (bs [])⟩, (nx l i 5).2)
  else (⟨4, instL.getD (nx l i 16).1.toNat 0, bs []⟩, (nx l i 16).2)

def wv (c : Col) (l : List Int) (i : Nat) : V × Nat :=
  if c.nul then (if (nx l i 5).1 = 0 then (zV, (nx l i 5).2) else wv1 c.kind l (nx l i 5).2) else wv1 c.kind l i

set_option maxRecDepth 20000 in
theorem Value_raw {P : Program} (F : F_warehouseworld_Value P) (c : Col) (l : List Int) (i : Nat) (hi : i ≤ l.length) (hl : l.length ≤ 1000000) :
    ACalls P F.id [.agg (colC c), .ptr 0 1 0 0] [gO l i] (fun r H' => r = .agg (valC (wv c l i).1) ∧ H' = [gO l (wv c l i).2]) := by
  refine ACalls.gp (Q0 := fun r H' => r = .agg (valC (wv c l i).1) ∧ ∃ x y, H' = [gO l (wv c l i).2, x, y]) ?_ (by
    rintro r H' ⟨rfl, x, y, rfl⟩
    exact Gp.res [0] (by simp) (keepB_one rfl rfl rfl) (H1 := [gO l (wv c l i).2]) ⟨⟨_, rfl, .same _ _ rfl⟩, trivial⟩ (.closed _ rfl) ⟨_, rfl, rfl, rfl⟩)
  refine acalls_of_body F.has ?_
  obtain ⟨nm, kd, nl⟩ := c
  cases nl with
  | true =>
    (conv => whnf); refine ACalls.mono (Next_spec F.warehouseworld_Numbers_Next l i 5 hi hl (by decide) _ 0 rfl) ?_
    rintro r H' ⟨rfl, rfl⟩
    have hj := nx_le l i 5 hi
    (conv => whnf); refine recA (fun h0 => ?_) (fun h0 => ?_)
    · simp at h0
      conv => whnf
      rw [wv, if_pos rfl, if_pos h0]
      exact ⟨rfl, _, _, rfl⟩
    simp at h0
    (conv => whnf); refine recA (fun k1 => ?_) (fun k1 => ?_)
    · simp at k1
      (conv => whnf); refine ACalls.mono (Next_spec F.warehouseworld_Numbers_Next l ((nx l i 5).2) 2 (hj) hl (by decide) _ 0 rfl) ?_
      rintro r H' ⟨rfl, rfl⟩
      conv => whnf
      rw [wv, if_pos rfl, if_neg h0]
      rw [wv1, if_pos k1]
      exact ⟨rfl, _, _, rfl⟩
    simp at k1
    (conv => whnf); refine recA (fun k2 => ?_) (fun k2 => ?_)
    · simp at k2
      (conv => whnf); refine ACalls.mono (Next_spec F.warehouseworld_Numbers_Next l ((nx l i 5).2) 7 (hj) hl (by decide) _ 0 rfl) ?_
      rintro r H' ⟨rfl, rfl⟩
      have hb := nx_bnd l ((nx l i 5).2) 7 (by decide)
      conv => whnf
      rw [wv, if_pos rfl, if_neg h0]
      rw [wv1, if_neg k1, if_pos k2]
      refine ⟨?_, _, _, rfl⟩
      show AVal.agg [.int .i64 2, .int .i64 (IntKind.i64.wrap ((nx l ((nx l i 5).2) 7).1 - 1)), .str (bs [])] = _
      rw [wrapI _ (by omega) (by omega)]
      rfl
    simp at k2
    (conv => whnf); refine recA (fun k3 => ?_) (fun k3 => ?_)
    · simp at k3
      (conv => whnf); refine ACalls.mono (Next_spec F.warehouseworld_Numbers_Next l ((nx l i 5).2) 5 (hj) hl (by decide) _ 0 rfl) ?_
      rintro r H' ⟨rfl, rfl⟩
      have hb := nx_bnd l ((nx l i 5).2) 5 (by decide)
      (conv => whnf); refine And.intro (hb.1) ?_
      (conv => whnf); refine recO (sC_at (l := wtexts) (x := wtexts.getD (nx l ((nx l i 5).2) 5).1.toNat (bs [])) (by rw [List.getD_eq_getElem?_getD, List.getElem?_eq_getElem (by show (nx l ((nx l i 5).2) 5).1.toNat < 5; omega)]; rfl)) ?_
      conv => whnf
      rw [wv, if_pos rfl, if_neg h0]
      rw [wv1, if_neg k1, if_neg k2, if_pos k3]
      exact ⟨rfl, _, _, rfl⟩
    simp at k3
    (conv => whnf); refine ACalls.use (Instants_spec F.warehouseworld_Instants _) ?_
    (conv => whnf); refine ACalls.mono (Next_spec F.warehouseworld_Numbers_Next l ((nx l i 5).2) 16 (hj) hl (by decide) _ 0 rfl) ?_
    rintro r H' ⟨rfl, rfl⟩
    have hb := nx_bnd l ((nx l i 5).2) 16 (by decide)
    (conv => whnf); refine And.intro (hb.1) ?_
    (conv => whnf); refine recO (iC_at (l := instL) (x := instL.getD (nx l ((nx l i 5).2) 16).1.toNat 0) (by rw [List.getD_eq_getElem?_getD, List.getElem?_eq_getElem (by show (nx l ((nx l i 5).2) 16).1.toNat < 16; omega)]; rfl)) ?_
    conv => whnf
    rw [wv, if_pos rfl, if_neg h0]
    rw [wv1, if_neg k1, if_neg k2, if_neg k3]
    exact ⟨rfl, _, _, rfl⟩
  | false =>
    (conv => whnf); refine recA (fun k1 => ?_) (fun k1 => ?_)
    · simp at k1
      (conv => whnf); refine ACalls.mono (Next_spec F.warehouseworld_Numbers_Next l (i) 2 (hi) hl (by decide) _ 0 rfl) ?_
      rintro r H' ⟨rfl, rfl⟩
      conv => whnf
      rw [wv, if_neg (by simp)]
      rw [wv1, if_pos k1]
      exact ⟨rfl, _, _, rfl⟩
    simp at k1
    (conv => whnf); refine recA (fun k2 => ?_) (fun k2 => ?_)
    · simp at k2
      (conv => whnf); refine ACalls.mono (Next_spec F.warehouseworld_Numbers_Next l (i) 7 (hi) hl (by decide) _ 0 rfl) ?_
      rintro r H' ⟨rfl, rfl⟩
      have hb := nx_bnd l (i) 7 (by decide)
      conv => whnf
      rw [wv, if_neg (by simp)]
      rw [wv1, if_neg k1, if_pos k2]
      refine ⟨?_, _, _, rfl⟩
      show AVal.agg [.int .i64 2, .int .i64 (IntKind.i64.wrap ((nx l (i) 7).1 - 1)), .str (bs [])] = _
      rw [wrapI _ (by omega) (by omega)]
      rfl
    simp at k2
    (conv => whnf); refine recA (fun k3 => ?_) (fun k3 => ?_)
    · simp at k3
      (conv => whnf); refine ACalls.mono (Next_spec F.warehouseworld_Numbers_Next l (i) 5 (hi) hl (by decide) _ 0 rfl) ?_
      rintro r H' ⟨rfl, rfl⟩
      have hb := nx_bnd l (i) 5 (by decide)
      (conv => whnf); refine And.intro (hb.1) ?_
      (conv => whnf); refine recO (sC_at (l := wtexts) (x := wtexts.getD (nx l (i) 5).1.toNat (bs [])) (by rw [List.getD_eq_getElem?_getD, List.getElem?_eq_getElem (by show (nx l (i) 5).1.toNat < 5; omega)]; rfl)) ?_
      conv => whnf
      rw [wv, if_neg (by simp)]
      rw [wv1, if_neg k1, if_neg k2, if_pos k3]
      exact ⟨rfl, _, _, rfl⟩
    simp at k3
    (conv => whnf); refine ACalls.use (Instants_spec F.warehouseworld_Instants _) ?_
    (conv => whnf); refine ACalls.mono (Next_spec F.warehouseworld_Numbers_Next l (i) 16 (hi) hl (by decide) _ 0 rfl) ?_
    rintro r H' ⟨rfl, rfl⟩
    have hb := nx_bnd l (i) 16 (by decide)
    (conv => whnf); refine And.intro (hb.1) ?_
    (conv => whnf); refine recO (iC_at (l := instL) (x := instL.getD (nx l (i) 16).1.toNat 0) (by rw [List.getD_eq_getElem?_getD, List.getElem?_eq_getElem (by show (nx l (i) 16).1.toNat < 16; omega)]; rfl)) ?_
    conv => whnf
    rw [wv, if_neg (by simp)]
    rw [wv1, if_neg k1, if_neg k2, if_neg k3]
    exact ⟨rfl, _, _, rfl⟩

end Go.AW

namespace Go.AW
variable [Draws]
attribute [local irreducible] ACalls
theorem wv1_le (k : Int) (l : List Int) (i : Nat) (h : i ≤ l.length) : (wv1 k l i).2 ≤ l.length := by
  unfold wv1
  repeat' split
  all_goals exact nx_le _ _ _ h

theorem wv_le (c : Col) (l : List Int) (i : Nat) (h : i ≤ l.length) : (wv c l i).2 ≤ l.length := by
  unfold wv
  repeat' split
  · exact nx_le _ _ _ h
  · exact wv1_le _ _ _ (nx_le _ _ _ h)
  · exact wv1_le _ _ _ h

theorem wValue_spec {P : Program} (F : F_warehouseworld_Value P) (c : Col) (l : List Int) (i : Nat) (hi : i ≤ l.length) (hl : l.length ≤ 1000000) (H : List AObj) (id : Nat) (ho : H[id]? = some (gO l i)) :
    ACalls P F.id [.agg (colC c), .ptr id 1 0 0] H (fun r H' => r = .agg (valC (wv c l i).1) ∧ H' = H.set id (gO l (wv c l i).2)) :=
  (Value_raw F c l i hi hl).fr ho rfl rfl (.cl rfl (.pt trivial)) (.closed _ rfl)

def wr (l : List Int) : List Col → Nat → List V → List V × Nat
  | [], i, out => (out, i)
  | c :: cs, i, out => wr l cs (wv c l i).2 (out ++ [(wv c l i).1])

theorem wr_len (l : List Int) : ∀ (cs : List Col) (i : Nat) (out : List V), (wr l cs i out).1.length = out.length + cs.length
  | [], _, _ => rfl
  | c :: cs, i, out => by rw [wr, wr_len l cs]; simp; omega

theorem wr_le (l : List Int) : ∀ (cs : List Col) (i : Nat) (out : List V), i ≤ l.length → (wr l cs i out).2 ≤ l.length
  | [], _, _, h => h
  | c :: cs, i, out, h => by rw [wr]; exact wr_le l cs _ _ (wv_le c l i h)

set_option maxRecDepth 20000 in
theorem Row_rawG {P : Program} (F : F_warehouseworld_Row P) (cs : List Col) (hc : cs ≠ []) (hcl : cs.length ≤ 1000) (l : List Int) (i : Nat) (hi : i ≤ l.length) (hl : l.length ≤ 1000000) :
    ACalls P F.id [.list false 3 (cC cs), .ptr 0 1 0 0] [gO l i] (fun r H' => r = .sl 1 cs.length 0 cs.length ∧ H' = [gO l (wr l cs i []).2, .arr 3 (vC (wr l cs i []).1)]) := by
  refine acalls_of_body F.has ?_
  conv => whnf
  refine ⟨fun m ρ H1 => ∃ (k j : Nat) (out : List V), k + m = cs.length ∧ j ≤ l.length ∧ out.length = k ∧ wr l (cs.drop k) j out = wr l cs i [] ∧
    ((k = 0 ∧ H1 = [gO l j] ∧ Sv 23 [(0, .list false 3 (cC cs)), (1, .ptr 0 1 0 0), (5, .nil), (6, .int .i64 0)] ρ) ∨
     (0 < k ∧ H1 = [gO l j, .arr 3 (vC out)] ∧ Sv 23 [(0, .list false 3 (cC cs)), (1, .ptr 0 1 0 0), (5, .sl 1 k 0 k), (6, .int .i64 k)] ρ)), cs.length, [], ?_, ?_⟩
  · exact ⟨0, i, [], by omega, hi, rfl, rfl, .inl ⟨rfl, rfl, Sv.intro rfl ⟨rfl, rfl, rfl, rfl, trivial⟩⟩⟩
  rintro m ρ H1 ⟨k, j, out, hk, hj, ho, hr, ⟨rfl, rfl, d, rfl⟩ | ⟨hk0, rfl, d, rfl⟩⟩
  · have hlt0 : 0 < cs.length := List.length_pos_iff.2 hc
    (conv => whnf); refine recT (by rw [cC_length]; simp; omega) ?_
    have hx : cs[0]? = some cs[0] := List.getElem?_eq_getElem hlt0
    have hdr : cs.drop 0 = cs[0] :: cs.drop 1 := List.drop_eq_getElem_cons hlt0
    have ho0 : out = [] := List.eq_nil_of_length_eq_zero (by omega)
    subst ho0
    rw [hdr, wr] at hr
    (conv => whnf); refine And.intro (by omega) ?_
    (conv => whnf); refine recO (cC_at hx) ?_
    (conv => whnf); refine ACalls.mono (wValue_spec F.warehouseworld_Value cs[0] l j hj hl _ 0 rfl) ?_
    rintro r H' ⟨rfl, rfl⟩
    (conv => whnf); refine And.intro (⟨roomMul (by simp) (by omega), roomB_le (by simp)⟩) ?_
    conv => whnf
    refine ⟨m - 1, by omega, Gp.keep (live := [(0, .list false 3 (cC cs)), (1, .ptr 0 1 0 0), (5, .sl 1 1 0 1), (6, .int .i64 (1 : Nat))]) rfl ?_ fun ρ1 h => ⟨1, (wv cs[0] l j).2, [(wv cs[0] l j).1], by omega, wv_le _ _ _ hj, rfl, hr, .inr ⟨by omega, rfl, h⟩⟩⟩
    exact ⟨rfl, rfl, rfl, rfl, trivial⟩
  · (conv => whnf); refine recA (fun hlt => ?_) (fun hlt => ?_)
    · simp [cC_length] at hlt
      have hx : cs[k]? = some cs[k] := List.getElem?_eq_getElem hlt
      rw [List.drop_eq_getElem_cons hlt, wr] at hr
      (conv => whnf); refine And.intro (by omega) ?_
      (conv => whnf); refine recO (cC_at hx) ?_
      (conv => whnf); refine ACalls.mono (wValue_spec F.warehouseworld_Value cs[k] l j hj hl _ 0 rfl) ?_
      rintro r H' ⟨rfl, rfl⟩
      (conv => whnf); refine recT (by rw [vC_length, ho]; exact Nat.beq_refl _) ?_
      (conv => whnf); refine And.intro (⟨roomMul (by simp; omega) (by omega), roomB_le (by simp; omega), rfl, by rw [vC_length, ho]⟩) ?_
      conv => whnf
      have hcn : vC out ++ [valC (wv cs[k] l j).1] = vC (out ++ [(wv cs[k] l j).1]) := by rw [vC_append]; rfl
      have hln : (vC out ++ [valC (wv cs[k] l j).1]).length = k + 1 := by rw [hcn, vC_length]; simp [ho]
      refine ⟨m - 1, by omega, Gp.keep (live := [(0, .list false 3 (cC cs)), (1, .ptr 0 1 0 0), (5, .sl 1 (k + 1) 0 (k + 1)), (6, .int .i64 (k + 1 : Nat))]) rfl ?_ fun ρ1 h => ⟨k + 1, (wv cs[k] l j).2, out ++ [(wv cs[k] l j).1], by omega, wv_le _ _ _ hj, by simp [ho], hr, .inr ⟨by omega, by rw [← hcn]; rfl, h⟩⟩⟩
      exact ⟨rfl, rfl, slEq hln hln, intEq (wrapI _ (by omega) (by omega)), trivial⟩
    · simp [cC_length] at hlt
      have hkl : k = cs.length := by omega
      rw [List.drop_of_length_le (by omega), wr] at hr
      conv => whnf
      subst hkl
      rw [← hr]
      exact ⟨rfl, rfl⟩

end Go.AW

namespace Go.AW
variable [Draws]
attribute [local irreducible] ACalls
theorem wRow_spec {P : Program} (F : F_warehouseworld_Row P) (cs : List Col) (hc : cs ≠ []) (hcl : cs.length ≤ 1000) (l : List Int) (i : Nat) (hi : i ≤ l.length) (hl : l.length ≤ 1000000) (H : List AObj) (id : Nat) (ho : H[id]? = some (gO l i)) :
    ACalls P F.id [.list false 3 (cC cs), .ptr id 1 0 0] H (fun r H' => r = .sl H.length cs.length 0 cs.length ∧ H' = H.set id (gO l (wr l cs i []).2) ++ [.arr 3 (vC (wr l cs i []).1)]) := by
  refine (Row_rawG F cs hc hcl l i hi hl).frG (G := [.arr 3 (vC (wr l cs i []).1)]) ho rfl rfl ?_ (.cl rfl (.pt trivial)) ?_
  · intro x hx
    rw [List.mem_singleton.1 hx]
    exact pureEs_vC _
  · exact .sl 1 cs.length 0 cs.length

structure Src where
  cols : List Col
  key : List ByteArray
  late : Int
  reopen : Int

def srcX (b c : Bool) (s : Src) : List AVal := [.str (bs [115, 104, 111, 112, 46, 111, 114, 100, 101, 114, 115]), .list b 3 (cC s.cols), .list c 1 (sC s.key), .str (bs [97, 116]), .str (bs [122]), .int .i64 s.late, .int .i64 s.reopen]

def srcC (s : Src) : List AVal := srcX false false s

def wcols : List Col := [⟨bs [105, 100], 2, false⟩, ⟨bs [110, 97, 109, 101], 3, true⟩, ⟨bs [97, 116], 4, false⟩]

def wpart (n : Int) : Bool := (IntKind.i64.wrap (n.tdiv 16)) % 2 == 1

def wsrc (n : Int) : Src := ⟨if wpart n then wcols ++ [⟨bs [112, 97, 114, 116], 3, false⟩] else wcols, if wpart n then [bs [112, 97, 114, 116], bs [105, 100]] else [bs [105, 100]],
  [0, 60, 1440, 3000].getD (n % 4).toNat 0, [0, 100, 1500, 5000].getD ((IntKind.i64.wrap (n.tdiv 4)) % 4).toNat 0⟩

set_option maxRecDepth 20000 in
theorem Source_raw {P : Program} (F : F_warehouseworld_Source P) (n : Int) (H : List AObj) :
    ACalls P F.id [.int .i64 n] H (fun r H' => r = .agg (srcX (!wpart n) true (wsrc n)) ∧ H' = H) := by
  have b4 : ∀ x : Int, 0 ≤ x % 4 ∧ x % 4 < 4 := fun x => ⟨Int.emod_nonneg _ (by decide), Int.emod_lt_of_pos _ (by decide)⟩
  refine ACalls.pure rfl (acalls_of_body F.has ?_)
  have o1 : (iC [0, 60, 1440, 3000])[(n % 4).toNat]? = some [.int .i64 ([0, 60, 1440, 3000].getD (n % 4).toNat 0)] := iC_at (by have := b4 n; rw [List.getD_eq_getElem?_getD, List.getElem?_eq_getElem (by show (n % 4).toNat < 4; omega)]; rfl)
  have o2 : (iC [0, 100, 1500, 5000])[((IntKind.i64.wrap (n.tdiv 4)) % 4).toNat]? = some [.int .i64 ([0, 100, 1500, 5000].getD ((IntKind.i64.wrap (n.tdiv 4)) % 4).toNat 0)] := iC_at (by have := b4 (IntKind.i64.wrap (n.tdiv 4)); rw [List.getD_eq_getElem?_getD, List.getElem?_eq_getElem (by show ((IntKind.i64.wrap (n.tdiv 4)) % 4).toNat < 4; omega)]; rfl)
  (conv => whnf); refine ⟨_, wColumns_spec F.warehouseworld_Columns _, ?_⟩
  (conv => whnf); refine ⟨_, Place_spec F.warehouseworld_Place n 4 (by decide) (by decide) _, ?_⟩
  (conv => whnf); refine And.intro ((b4 n).1) ?_
  (conv => whnf); refine recO (o1) ?_
  (conv => whnf); refine And.intro (by decide) ?_
  (conv => whnf); refine ⟨_, Place_spec F.warehouseworld_Place (IntKind.i64.wrap (n.tdiv 4)) 4 (by decide) (by decide) _, ?_⟩
  (conv => whnf); refine And.intro ((b4 _).1) ?_
  (conv => whnf); refine recO (o2) ?_
  (conv => whnf); refine And.intro (rfl) ?_
  (conv => whnf); refine And.intro (by (conv => whnf); refine And.intro (b4 _).1 ?_; (conv => whnf); refine recO o2 ?_; rfl) ?_
  (conv => whnf); refine And.intro (⟨_, Place_spec F.warehouseworld_Place (IntKind.i64.wrap (n.tdiv 4)) 4 (by decide) (by decide) _, rfl⟩) ?_
  (conv => whnf); refine And.intro (rfl) ?_
  (conv => whnf); refine And.intro (by (conv => whnf); refine And.intro (b4 _).1 ?_; (conv => whnf); refine recO o1 ?_; rfl) ?_
  (conv => whnf); refine And.intro (⟨_, Place_spec F.warehouseworld_Place n 4 (by decide) (by decide) _, rfl⟩) ?_
  (conv => whnf); refine And.intro (⟨_, wColumns_spec F.warehouseworld_Columns _, rfl⟩) ?_
  (conv => whnf); refine And.intro (by decide) ?_
  (conv => whnf); refine ACalls.use (Place_spec F.warehouseworld_Place (IntKind.i64.wrap (n.tdiv 16)) 2 (by decide) (by decide) _) ?_
  (conv => whnf); refine recA (fun h1 => ?_) (fun h1 => ?_)
  · replace h1 : wpart n = true := h1
    (conv => whnf); refine And.intro (by decide) ?_
    conv => whnf
    rw [h1, wsrc, h1]
    refine .agg _ _ rfl fun i v r h2 h3 => ?_
    rcases i with _ | _ | _ | _ | _ | _ | _ | i
    · cases h2; cases h3; exact .closed _ rfl
    · cases h2; cases h3
      exact pubFI (by simp) rfl rfl rfl (pureEs_cC _)
    · cases h2; cases h3; exact .closed _ rfl
    · cases h2; cases h3; exact .closed _ rfl
    · cases h2; cases h3; exact .closed _ rfl
    · cases h2; cases h3; exact .closed _ rfl
    · cases h2; cases h3; exact .closed _ rfl
    · simp at h2
  · replace h1 : wpart n = false := h1
    conv => whnf
    rw [h1, wsrc, h1]
    exact .closed _ rfl

theorem Source_spec {P : Program} (F : F_warehouseworld_Source P) (n : Int) (H : List AObj) :
    ACalls P F.id [.int .i64 n] H (fun r H' => r = .agg (srcC (wsrc n)) ∧ H' = H) :=
  ACalls.weakR (Source_raw F n H) (by
    rintro r H' ⟨rfl, rfl⟩
    refine ⟨.agg (srcC (wsrc n)), .agg _ _ rfl fun i a b h1 h2 => ?_, rfl, rfl⟩
    rcases i with _ | _ | _ | _ | _ | _ | _ | i
    · cases h1; cases h2; exact .refl _
    · cases h1; cases h2; exact .list _ _ _ _ (by simp)
    · cases h1; cases h2; exact .list _ _ _ _ (by simp)
    · cases h1; cases h2; exact .refl _
    · cases h1; cases h2; exact .refl _
    · cases h1; cases h2; exact .refl _
    · cases h1; cases h2; exact .refl _
    · simp [srcX] at h1)

end Go.AW

namespace Go.AW
variable [Draws]
attribute [local irreducible] ACalls
def sAt : ByteArray := bs [97, 116]

def keepC (key : List ByteArray) (c : Col) : Bool := inB key c.name || eqS c.name sAt

def delR (key : List ByteArray) : List Col → List V → List V
  | c :: cs, v :: vs => (if keepC key c then v else zV) :: delR key cs vs
  | _, _ => []

theorem delR_len (key : List ByteArray) : ∀ (cs : List Col) (vs : List V), vs.length = cs.length → (delR key cs vs).length = cs.length
  | [], [], _ => rfl
  | [], _ :: _, h => by simp at h
  | _ :: _, [], h => by simp at h
  | c :: cs, v :: vs, h => by rw [delR, List.length_cons, List.length_cons, delR_len key cs vs (by simpa using h)]

def delK (key : List ByteArray) (cs : List Col) (vs : List V) (k : Nat) : List V := delR key (cs.take k) (vs.take k)

theorem delK_succ (key : List ByteArray) : ∀ (cs : List Col) (vs : List V) (k : Nat) (c : Col) (v : V), cs[k]? = some c → vs[k]? = some v → delK key cs vs (k + 1) = delK key cs vs k ++ [if keepC key c then v else zV]
  | [], _, _, _, _, h, _ => by simp at h
  | _ :: _, [], _, _, _, _, h => by simp at h
  | c0 :: cs, v0 :: vs, 0, c, v, h1, h2 => by
    simp at h1 h2; subst h1 h2
    simp [delK, delR]
  | c0 :: cs, v0 :: vs, k + 1, c, v, h1, h2 => by
    have := delK_succ key cs vs k c v (by simpa using h1) (by simpa using h2)
    simp only [delK, List.take_succ_cons, delR] at this ⊢
    rw [this]; rfl

theorem delK_len (key : List ByteArray) (cs : List Col) (vs : List V) (k : Nat) (h : vs.length = cs.length) (hk : k ≤ cs.length) : (delK key cs vs k).length = k := by
  rw [delK, delR_len key _ _ (by simp; omega)]; simp; omega

def delO (s : Src) (r : Rec) (c : AVal) : List AObj := [.arr 7 [srcC s], .arr 3 [recC r], .arr 3 [[.bool false, .int .i64 0, .nil]], .arr 3 [[.bool true, .int .i64 r.seq, c]]]

theorem obR {H : List AObj} {ids : List Nat} {a : Bool} {b : Int} {c c1 : AVal} (h : Pub H 0 ids c c1) (hc : c1.isCell = true) : ObP H ids (.arr 3 [[.bool a, .int .i64 b, c]]) (.arr 3 [[.bool a, .int .i64 b, c1]]) := by
  refine .map 3 _ _ rfl (fun i e e1 h1 h2 => ?_) (fun i j e e1 d d1 h1 h2 h3 h4 => ?_)
  · rcases i with _ | i
    · cases h1; cases h2; rfl
    · simp at h1
  · rcases i with _ | i
    · cases h1; cases h2
      rcases j with _ | _ | _ | j
      · cases h3; cases h4; exact ⟨.closed _ rfl, rfl⟩
      · cases h3; cases h4; exact ⟨.closed _ rfl, rfl⟩
      · cases h3; cases h4; exact ⟨h, hc⟩
      · simp at h3
    · simp at h1

set_option maxRecDepth 20000 in
theorem Deletion_spec {P : Program} (F : F_warehouseworld_Deletion P) (s : Src) (r : Rec) (hr : r.row.length = s.cols.length) (hc : s.cols ≠ []) (hl : s.cols.length ≤ 1000) (hk : s.key.length ≤ 1000) (H : List AObj) :
    ACalls P F.id [.agg (srcC s), .agg (recC r)] H (fun x H' => x = .agg (recC ⟨true, r.seq, delR s.key s.cols r.row⟩) ∧ H' = H) := by
  refine ACalls.pure (by simp [AVal.closed, srcC, srcX, recC, AVal.isPure]) (acalls_of_body F.has ?_)
  have ps : pureEs [srcC s] = true := by simp [pureEs, srcC, srcX, AVal.isPure]
  have pr : pureEs [recC r] = true := by simp [pureEs, recC, AVal.isPure]
  conv => whnf
  refine ⟨fun m ρ H1 => ∃ k : Nat, k + m = s.cols.length ∧ ((k = 0 ∧ H1 = delO s r .nil) ∨ (0 < k ∧ H1 = delO s r (.sl 4 k 0 k) ++ [.arr 3 (vC (delK s.key s.cols r.row k))])) ∧
    Sv 51 [(2, .ptr 0 1 0 0), (3, .ptr 1 1 0 0), (4, .ptr 2 1 0 0), (5, .ptr 3 1 0 0), (6, .int .i64 k)] ρ, s.cols.length, [], ?_, ?_⟩
  · exact ⟨0, by omega, .inl ⟨rfl, rfl⟩, Sv.intro rfl ⟨rfl, rfl, rfl, rfl, rfl, trivial⟩⟩
  rintro m ρ H1 ⟨k, hkm, ⟨rfl, rfl⟩ | ⟨hk0, rfl⟩, d, rfl⟩
  · have hlt : 0 < s.cols.length := List.length_pos_iff.2 hc
    have hx : s.cols[0]? = some s.cols[0] := List.getElem?_eq_getElem hlt
    have hv : r.row[0]? = some r.row[0] := List.getElem?_eq_getElem (by omega)
    have hd0 := delK_succ s.key s.cols r.row 0 _ _ hx hv
    (conv => whnf); refine recT (by simp [cC_length]; omega) ?_
    (conv => whnf); refine And.intro (by omega) ?_
    (conv => whnf); refine recO (cC_at hx) ?_
    (conv => whnf); refine ⟨_, In_spec F.warehouseref23_In s.key s.cols[0].name (by omega) _, ?_⟩
    (conv => whnf); refine recA (fun hin => ?_) (fun hin => ?_)
    · have hkp : keepC s.key s.cols[0] = true := by rw [keepC, hin]; rfl
      have hd1 : delK s.key s.cols r.row 1 = [r.row[0]] := by rw [hd0, hkp]; rfl
      (conv => whnf); refine And.intro (by omega) ?_
      (conv => whnf); refine recO (vC_at hv) ?_
      (conv => whnf); refine And.intro (⟨roomMul (by simp) (by omega), roomB_le (by simp)⟩) ?_
      conv => whnf
      refine ⟨m - 1, by omega, Gp.some (n := 51) (live := [(2, .ptr 0 1 0 0), (3, .ptr 1 1 0 0), (4, .ptr 2 1 0 0), (5, .ptr 3 1 0 0), (6, .int .i64 (1 : Nat))]) (H1 := [.arr 7 [srcC s], .arr 3 [recC r], .arr 3 [[.bool false, .int .i64 0, .nil]], .arr 3 [[.bool true, .int .i64 r.seq, .sl 4 1 0 1]], .arr 3 [valC (r.row[0])]]) [0, 1, 2, 3, 5] (by simp)
        ⟨⟨_, rfl, .same _ _ ps⟩, ⟨_, rfl, .same _ _ pr⟩, ⟨_, rfl, .same _ _ rfl⟩, ⟨_, rfl, obR (.keep 5 _ _ _ 4 rfl) rfl⟩, ⟨_, rfl, .same _ _ rfl⟩, trivial⟩ rfl ?_ fun ρ1 h => ⟨1, by omega, .inr ⟨by omega, ?_⟩, h⟩⟩
      · exact ⟨.keepP 0 1 0 0 0 rfl, .keepP 1 1 0 0 1 rfl, .keepP 2 1 0 0 2 rfl, .keepP 3 1 0 0 3 rfl, .closed _ rfl, trivial⟩
      · rw [hd1]; rfl
    · (conv => whnf); refine And.intro (by omega) ?_
      (conv => whnf); refine recO (cC_at hx) ?_
      (conv => whnf); refine recA (fun heq => ?_) (fun heq => ?_)
      · have hkp : keepC s.key s.cols[0] = true := by rw [keepC, hin]; exact heq
        have hd1 : delK s.key s.cols r.row 1 = [r.row[0]] := by rw [hd0, hkp]; rfl
        (conv => whnf); refine And.intro (by omega) ?_
        (conv => whnf); refine recO (vC_at hv) ?_
        (conv => whnf); refine And.intro (⟨roomMul (by simp) (by omega), roomB_le (by simp)⟩) ?_
        conv => whnf
        refine ⟨m - 1, by omega, Gp.some (n := 51) (live := [(2, .ptr 0 1 0 0), (3, .ptr 1 1 0 0), (4, .ptr 2 1 0 0), (5, .ptr 3 1 0 0), (6, .int .i64 (1 : Nat))]) (H1 := [.arr 7 [srcC s], .arr 3 [recC r], .arr 3 [[.bool false, .int .i64 0, .nil]], .arr 3 [[.bool true, .int .i64 r.seq, .sl 4 1 0 1]], .arr 3 [valC (r.row[0])]]) [0, 1, 2, 3, 5] (by simp)
          ⟨⟨_, rfl, .same _ _ ps⟩, ⟨_, rfl, .same _ _ pr⟩, ⟨_, rfl, .same _ _ rfl⟩, ⟨_, rfl, obR (.keep 5 _ _ _ 4 rfl) rfl⟩, ⟨_, rfl, .same _ _ rfl⟩, trivial⟩ rfl ?_ fun ρ1 h => ⟨1, by omega, .inr ⟨by omega, ?_⟩, h⟩⟩
        · exact ⟨.keepP 0 1 0 0 0 rfl, .keepP 1 1 0 0 1 rfl, .keepP 2 1 0 0 2 rfl, .keepP 3 1 0 0 3 rfl, .closed _ rfl, trivial⟩
        · rw [hd1]; rfl
      · have hkp : keepC s.key s.cols[0] = false := by rw [keepC, hin]; exact heq
        have hd1 : delK s.key s.cols r.row 1 = [zV] := by rw [hd0, hkp]; rfl
        (conv => whnf); refine And.intro (⟨roomMul (by simp) (by omega), roomB_le (by simp)⟩) ?_
        conv => whnf
        refine ⟨m - 1, by omega, Gp.some (n := 51) (live := [(2, .ptr 0 1 0 0), (3, .ptr 1 1 0 0), (4, .ptr 2 1 0 0), (5, .ptr 3 1 0 0), (6, .int .i64 (1 : Nat))]) (H1 := [.arr 7 [srcC s], .arr 3 [recC r], .arr 3 [[.bool false, .int .i64 0, .nil]], .arr 3 [[.bool true, .int .i64 r.seq, .sl 4 1 0 1]], .arr 3 [valC (zV)]]) [0, 1, 2, 3, 5] (by simp)
          ⟨⟨_, rfl, .same _ _ ps⟩, ⟨_, rfl, .same _ _ pr⟩, ⟨_, rfl, .same _ _ rfl⟩, ⟨_, rfl, obR (.keep 5 _ _ _ 4 rfl) rfl⟩, ⟨_, rfl, .same _ _ rfl⟩, trivial⟩ rfl ?_ fun ρ1 h => ⟨1, by omega, .inr ⟨by omega, ?_⟩, h⟩⟩
        · exact ⟨.keepP 0 1 0 0 0 rfl, .keepP 1 1 0 0 1 rfl, .keepP 2 1 0 0 2 rfl, .keepP 3 1 0 0 3 rfl, .closed _ rfl, trivial⟩
        · rw [hd1]; rfl
  · (conv => whnf); refine recA (fun hlt => ?_) (fun hlt => ?_)
    · simp [cC_length] at hlt
      have hx : s.cols[k]? = some s.cols[k] := List.getElem?_eq_getElem hlt
      have hv : r.row[k]? = some (r.row[k]'(by omega)) := List.getElem?_eq_getElem (by omega)
      have hd0 := delK_succ s.key s.cols r.row k _ _ hx hv
      have hdl := delK_len s.key s.cols r.row k hr (by omega)
      (conv => whnf); refine And.intro (by omega) ?_
      (conv => whnf); refine recO (cC_at hx) ?_
      (conv => whnf); refine ⟨_, In_spec F.warehouseref23_In s.key s.cols[k].name (by omega) _, ?_⟩
      (conv => whnf); refine recA (fun hin => ?_) (fun hin => ?_)
      · have hkp : keepC s.key s.cols[k] = true := by rw [keepC, hin]; rfl
        have hd1v : vC (delK s.key s.cols r.row (k + 1)) = vC (delK s.key s.cols r.row k) ++ [valC (r.row[k]'(by omega))] := by rw [hd0, hkp, vC_append]; rfl
        (conv => whnf); refine And.intro (by omega) ?_
        (conv => whnf); refine recO (vC_at hv) ?_
        (conv => whnf); refine recT (by rw [vC_length, hdl]; exact Nat.beq_refl _) ?_
        (conv => whnf); refine And.intro (⟨roomMul (by simp; omega) (by omega), roomB_le (by simp; omega), rfl, by rw [vC_length, hdl]⟩) ?_
        conv => whnf
        have hln : (vC (delK s.key s.cols r.row k) ++ [valC ((r.row[k]'(by omega)))]).length = k + 1 := by simp [vC_length, hdl]
        refine ⟨m - 1, by omega, Gp.some (n := 51) (live := [(2, .ptr 0 1 0 0), (3, .ptr 1 1 0 0), (4, .ptr 2 1 0 0), (5, .ptr 3 1 0 0), (6, .int .i64 (k + 1 : Nat))]) (H1 := [.arr 7 [srcC s], .arr 3 [recC r], .arr 3 [[.bool false, .int .i64 0, .nil]], .arr 3 [[.bool true, .int .i64 r.seq, .sl 4 (vC (delK s.key s.cols r.row k) ++ [valC ((r.row[k]'(by omega)))]).length 0 (vC (delK s.key s.cols r.row k) ++ [valC ((r.row[k]'(by omega)))]).length]], .arr 3 (vC (delK s.key s.cols r.row k) ++ [valC ((r.row[k]'(by omega)))])]) [0, 1, 2, 3, 4] (by simp)
          ⟨⟨_, rfl, .same _ _ ps⟩, ⟨_, rfl, .same _ _ pr⟩, ⟨_, rfl, .same _ _ rfl⟩, ⟨_, rfl, obR (.keep 4 _ _ _ 4 rfl) rfl⟩, ⟨_, rfl, .same _ _ ((congrArg pureEs hd1v.symm).trans (pureEs_vC _))⟩, trivial⟩ rfl ?_ fun ρ1 h => ⟨k + 1, by omega, .inr ⟨by omega, ?_⟩, h⟩⟩
        · exact ⟨.keepP 0 1 0 0 0 rfl, .keepP 1 1 0 0 1 rfl, .keepP 2 1 0 0 2 rfl, .keepP 3 1 0 0 3 rfl, pub_int (wrapI _ (by omega) (by omega)), trivial⟩
        · rw [hln, hd1v]; rfl
      · (conv => whnf); refine And.intro (by omega) ?_
        (conv => whnf); refine recO (cC_at hx) ?_
        (conv => whnf); refine recA (fun heq => ?_) (fun heq => ?_)
        · have hkp : keepC s.key s.cols[k] = true := by rw [keepC, hin]; exact heq
          have hd1v : vC (delK s.key s.cols r.row (k + 1)) = vC (delK s.key s.cols r.row k) ++ [valC (r.row[k]'(by omega))] := by rw [hd0, hkp, vC_append]; rfl
          (conv => whnf); refine And.intro (by omega) ?_
          (conv => whnf); refine recO (vC_at hv) ?_
          (conv => whnf); refine recT (by rw [vC_length, hdl]; exact Nat.beq_refl _) ?_
          (conv => whnf); refine And.intro (⟨roomMul (by simp; omega) (by omega), roomB_le (by simp; omega), rfl, by rw [vC_length, hdl]⟩) ?_
          conv => whnf
          have hln : (vC (delK s.key s.cols r.row k) ++ [valC ((r.row[k]'(by omega)))]).length = k + 1 := by simp [vC_length, hdl]
          refine ⟨m - 1, by omega, Gp.some (n := 51) (live := [(2, .ptr 0 1 0 0), (3, .ptr 1 1 0 0), (4, .ptr 2 1 0 0), (5, .ptr 3 1 0 0), (6, .int .i64 (k + 1 : Nat))]) (H1 := [.arr 7 [srcC s], .arr 3 [recC r], .arr 3 [[.bool false, .int .i64 0, .nil]], .arr 3 [[.bool true, .int .i64 r.seq, .sl 4 (vC (delK s.key s.cols r.row k) ++ [valC ((r.row[k]'(by omega)))]).length 0 (vC (delK s.key s.cols r.row k) ++ [valC ((r.row[k]'(by omega)))]).length]], .arr 3 (vC (delK s.key s.cols r.row k) ++ [valC ((r.row[k]'(by omega)))])]) [0, 1, 2, 3, 4] (by simp)
            ⟨⟨_, rfl, .same _ _ ps⟩, ⟨_, rfl, .same _ _ pr⟩, ⟨_, rfl, .same _ _ rfl⟩, ⟨_, rfl, obR (.keep 4 _ _ _ 4 rfl) rfl⟩, ⟨_, rfl, .same _ _ ((congrArg pureEs hd1v.symm).trans (pureEs_vC _))⟩, trivial⟩ rfl ?_ fun ρ1 h => ⟨k + 1, by omega, .inr ⟨by omega, ?_⟩, h⟩⟩
          · exact ⟨.keepP 0 1 0 0 0 rfl, .keepP 1 1 0 0 1 rfl, .keepP 2 1 0 0 2 rfl, .keepP 3 1 0 0 3 rfl, pub_int (wrapI _ (by omega) (by omega)), trivial⟩
          · rw [hln, hd1v]; rfl
        · have hkp : keepC s.key s.cols[k] = false := by rw [keepC, hin]; exact heq
          have hd1v : vC (delK s.key s.cols r.row (k + 1)) = vC (delK s.key s.cols r.row k) ++ [valC zV] := by rw [hd0, hkp, vC_append]; rfl
          (conv => whnf); refine recT (by rw [vC_length, hdl]; exact Nat.beq_refl _) ?_
          (conv => whnf); refine And.intro (⟨roomMul (by simp; omega) (by omega), roomB_le (by simp; omega), rfl, by rw [vC_length, hdl]⟩) ?_
          conv => whnf
          have hln : (vC (delK s.key s.cols r.row k) ++ [valC (zV)]).length = k + 1 := by simp [vC_length, hdl]
          refine ⟨m - 1, by omega, Gp.some (n := 51) (live := [(2, .ptr 0 1 0 0), (3, .ptr 1 1 0 0), (4, .ptr 2 1 0 0), (5, .ptr 3 1 0 0), (6, .int .i64 (k + 1 : Nat))]) (H1 := [.arr 7 [srcC s], .arr 3 [recC r], .arr 3 [[.bool false, .int .i64 0, .nil]], .arr 3 [[.bool true, .int .i64 r.seq, .sl 4 (vC (delK s.key s.cols r.row k) ++ [valC (zV)]).length 0 (vC (delK s.key s.cols r.row k) ++ [valC (zV)]).length]], .arr 3 (vC (delK s.key s.cols r.row k) ++ [valC (zV)])]) [0, 1, 2, 3, 4] (by simp)
            ⟨⟨_, rfl, .same _ _ ps⟩, ⟨_, rfl, .same _ _ pr⟩, ⟨_, rfl, .same _ _ rfl⟩, ⟨_, rfl, obR (.keep 4 _ _ _ 4 rfl) rfl⟩, ⟨_, rfl, .same _ _ ((congrArg pureEs hd1v.symm).trans (pureEs_vC _))⟩, trivial⟩ rfl ?_ fun ρ1 h => ⟨k + 1, by omega, .inr ⟨by omega, ?_⟩, h⟩⟩
          · exact ⟨.keepP 0 1 0 0 0 rfl, .keepP 1 1 0 0 1 rfl, .keepP 2 1 0 0 2 rfl, .keepP 3 1 0 0 3 rfl, pub_int (wrapI _ (by omega) (by omega)), trivial⟩
          · rw [hln, hd1v]; rfl
    · simp [cC_length] at hlt
      have hkl : k = s.cols.length := by omega
      have hd2 : delK s.key s.cols r.row k = delR s.key s.cols r.row := by rw [delK, hkl, List.take_length, ← hr, List.take_length]
      have hdl := delK_len s.key s.cols r.row k hr (by omega)
      conv => whnf
      refine .agg _ _ rfl fun i v x h1 h2 => ?_
      rcases i with _ | _ | _ | i
      · cases h1; cases h2; exact .closed _ rfl
      · cases h1; cases h2; exact .closed _ rfl
      · cases h1; cases h2
        rw [← hd2]
        exact pubFI (by simp) rfl (by rw [vC_length, hdl]) (by rw [vC_length, hdl]) (pureEs_vC _)
      · simp at h1

end Go.AW

namespace Go.AW
variable [Draws]
attribute [local irreducible] ACalls
def wk (s : Src) (l : List Int) (i : Nat) : Int × Nat := nx l (wr l s.cols (nx l i 4).2 []).2 24

def wrow (s : Src) (l : List Int) (i : Nat) : List V := (wr l s.cols (nx l i 4).2 []).1

def wrec (s : Src) (l : List Int) (i : Nat) : Rec × Nat :=
  if (wk s l i).1 < 5 then (⟨true, (nx l i 4).1, delR s.key s.cols (wrow s l i)⟩, (wk s l i).2)
  else if (wk s l i).1 = 5 then (⟨true, (nx l i 4).1, wrow s l i⟩, (wk s l i).2)
  else if (wk s l i).1 = 6 then (⟨false, (nx l i 4).1, (wrow s l i).take (s.cols.length - 1)⟩, (wk s l i).2)
  else if (wk s l i).1 = 7 then (⟨false, (nx l i 4).1, (wrow s l i).set (nx l (wk s l i).2 s.cols.length).1.toNat ⟨1, 1, bs []⟩⟩, (nx l (wk s l i).2 s.cols.length).2)
  else if (wk s l i).1 = 8 then (⟨false, -1, wrow s l i⟩, (wk s l i).2)
  else (⟨false, (nx l i 4).1, wrow s l i⟩, (wk s l i).2)

theorem wrow_len (s : Src) (l : List Int) (i : Nat) : (wrow s l i).length = s.cols.length := by rw [wrow, wr_len]; simp

theorem wk_le (s : Src) (l : List Int) (i : Nat) (h : i ≤ l.length) : (wk s l i).2 ≤ l.length := nx_le _ _ _ (wr_le _ _ _ _ (nx_le _ _ _ h))

theorem wrec_le (s : Src) (l : List Int) (i : Nat) (h : i ≤ l.length) : (wrec s l i).2 ≤ l.length := by
  have := wk_le s l i h
  unfold wrec
  repeat' split
  all_goals first
    | exact this
    | exact nx_le _ _ _ this

def RecRaw (s : Src) (l : List Int) (i : Nat) (r : AVal) (H' : List AObj) : Prop :=
  ∃ c, r = .agg [.bool (wrec s l i).1.del, .int .i64 (wrec s l i).1.seq, c] ∧
    ((c = .list false 3 (vC (wrec s l i).1.row) ∧ ∃ t, H' = gO l (wrec s l i).2 :: t) ∨
     ∃ m R x y z, c = .sl 3 (vC R).length 0 m ∧ ((vC R).drop 0).take m = vC (wrec s l i).1.row ∧ H' = [gO l (wrec s l i).2, x, y, .arr 3 (vC R), z])

set_option maxRecDepth 20000 in
theorem Record_raw {P : Program} (F : F_warehouseworld_Record P) (s : Src) (hc : s.cols ≠ []) (hcl : s.cols.length ≤ 1000) (hk : s.key.length ≤ 1000) (l : List Int) (i : Nat) (hi : i ≤ l.length) (hl : l.length ≤ 1000000) :
    ACalls P F.id [.agg (srcC s), .ptr 0 1 0 0] [gO l i] (RecRaw s l i) := by
  have nk0 := fun H id ho => Next_spec F.warehouseworld_Numbers_Next l (wr l s.cols (nx l i 4).2 []).2 24 (wr_le _ _ _ _ (nx_le _ _ _ hi)) hl (by decide) H id ho
  have hkb := nx_bnd l (wr l s.cols (nx l i 4).2 []).2 24 (by decide)
  have hrl : (wrow s l i).length = s.cols.length := wrow_len s l i
  have hvl : (vC (wrow s l i)).length = s.cols.length := by rw [vC_length, hrl]
  have ps : pureEs [srcC s] = true := by simp [pureEs, srcC, srcX, AVal.isPure]
  have hcp : 0 < s.cols.length := List.length_pos_iff.2 hc
  have htk : ((vC (wrow s l i)).drop 0).take s.cols.length = vC (wrow s l i) := by rw [List.drop_zero, ← hvl, List.take_length]
  have hcs : (wk s l i).1 = 0 ∨ (wk s l i).1 = 1 ∨ (wk s l i).1 = 2 ∨ (wk s l i).1 = 3 ∨ (wk s l i).1 = 4 ∨ (wk s l i).1 = 5 ∨ (wk s l i).1 = 6 ∨ (wk s l i).1 = 7 ∨ (wk s l i).1 = 8 ∨ 9 ≤ (wk s l i).1 := by
    change 0 ≤ (wk s l i).1 ∧ _ at hkb
    omega
  rcases hcs with hz | hz | hz | hz | hz | hz | hz | hz | hz | hz
  · have nk := nk0
    rw [show (nx l (wr l s.cols (nx l i 4).2 []).2 24).1 = 0 from hz] at nk
    refine acalls_of_body F.has ?_
    (conv => whnf); refine ⟨_, _, Next_spec F.warehouseworld_Numbers_Next l i 4 hi hl (by decide) _ 0 rfl, ?_⟩
    (conv => whnf); refine ⟨_, _, wRow_spec F.warehouseworld_Row s.cols hc hcl l (nx l i 4).2 (nx_le _ _ _ hi) hl _ 0 rfl, ?_⟩
    (conv => whnf); refine And.intro (rfl) ?_
    (conv => whnf); refine ACalls.mono (nk _ 0 rfl) ?_
    rintro r H' ⟨rfl, rfl⟩
    conv => whnf
    refine ⟨Gp.keepL (n := 52) (live := [(1, .ptr 0 1 0 0), (2, .ptr 1 1 0 0), (4, .ptr 2 1 0 0), (5, .ptr 3 1 0 0), (14, .int .i64 (0))]) (H1 := [gO l (wk s l i).2, .arr 7 [srcC s], .arr 3 [[.bool false, .int .i64 0, .nil]], .arr 3 [recC ⟨false, (nx l i 4).1, wrow s l i⟩]]) [0, 1, 2, 4] (by simp) (keepB_one rfl rfl rfl)
      ⟨⟨_, rfl, .same _ _ rfl⟩, ⟨_, rfl, .same _ _ ps⟩, ⟨_, rfl, .same _ _ rfl⟩, ⟨_, rfl, obR (pubFI (by simp) rfl hvl.symm hvl.symm (pureEs_vC _)) rfl⟩, trivial⟩ rfl ⟨.keepP 0 1 0 0 0 rfl, .keepP 1 1 0 0 1 rfl, .keepP 2 1 0 0 2 rfl, .keepP 4 1 0 0 3 rfl, .closed _ rfl, trivial⟩ ?_⟩
    rintro ρ1 ⟨d, rfl⟩
    (conv => whnf); refine ACalls.use (Deletion_spec F.warehouseworld_Deletion s ⟨false, (nx l i 4).1, wrow s l i⟩ hrl hc hcl hk _) ?_
    conv => whnf
    have e : wrec s l i = (⟨true, (nx l i 4).1, delR s.key s.cols (wrow s l i)⟩, (wk s l i).2) := by rw [wrec, if_pos (by rw [hz]; decide)]
    show RecRaw s l i _ _
    unfold RecRaw
    rw [e]
    exact ⟨_, rfl, .inl ⟨rfl, _, rfl⟩⟩
  · have nk := nk0
    rw [show (nx l (wr l s.cols (nx l i 4).2 []).2 24).1 = 1 from hz] at nk
    refine acalls_of_body F.has ?_
    (conv => whnf); refine ⟨_, _, Next_spec F.warehouseworld_Numbers_Next l i 4 hi hl (by decide) _ 0 rfl, ?_⟩
    (conv => whnf); refine ⟨_, _, wRow_spec F.warehouseworld_Row s.cols hc hcl l (nx l i 4).2 (nx_le _ _ _ hi) hl _ 0 rfl, ?_⟩
    (conv => whnf); refine And.intro (rfl) ?_
    (conv => whnf); refine ACalls.mono (nk _ 0 rfl) ?_
    rintro r H' ⟨rfl, rfl⟩
    conv => whnf
    refine ⟨Gp.keepL (n := 52) (live := [(1, .ptr 0 1 0 0), (2, .ptr 1 1 0 0), (4, .ptr 2 1 0 0), (5, .ptr 3 1 0 0), (14, .int .i64 (1))]) (H1 := [gO l (wk s l i).2, .arr 7 [srcC s], .arr 3 [[.bool false, .int .i64 0, .nil]], .arr 3 [recC ⟨false, (nx l i 4).1, wrow s l i⟩]]) [0, 1, 2, 4] (by simp) (keepB_one rfl rfl rfl)
      ⟨⟨_, rfl, .same _ _ rfl⟩, ⟨_, rfl, .same _ _ ps⟩, ⟨_, rfl, .same _ _ rfl⟩, ⟨_, rfl, obR (pubFI (by simp) rfl hvl.symm hvl.symm (pureEs_vC _)) rfl⟩, trivial⟩ rfl ⟨.keepP 0 1 0 0 0 rfl, .keepP 1 1 0 0 1 rfl, .keepP 2 1 0 0 2 rfl, .keepP 4 1 0 0 3 rfl, .closed _ rfl, trivial⟩ ?_⟩
    rintro ρ1 ⟨d, rfl⟩
    (conv => whnf); refine ACalls.use (Deletion_spec F.warehouseworld_Deletion s ⟨false, (nx l i 4).1, wrow s l i⟩ hrl hc hcl hk _) ?_
    conv => whnf
    have e : wrec s l i = (⟨true, (nx l i 4).1, delR s.key s.cols (wrow s l i)⟩, (wk s l i).2) := by rw [wrec, if_pos (by rw [hz]; decide)]
    show RecRaw s l i _ _
    unfold RecRaw
    rw [e]
    exact ⟨_, rfl, .inl ⟨rfl, _, rfl⟩⟩
  · have nk := nk0
    rw [show (nx l (wr l s.cols (nx l i 4).2 []).2 24).1 = 2 from hz] at nk
    refine acalls_of_body F.has ?_
    (conv => whnf); refine ⟨_, _, Next_spec F.warehouseworld_Numbers_Next l i 4 hi hl (by decide) _ 0 rfl, ?_⟩
    (conv => whnf); refine ⟨_, _, wRow_spec F.warehouseworld_Row s.cols hc hcl l (nx l i 4).2 (nx_le _ _ _ hi) hl _ 0 rfl, ?_⟩
    (conv => whnf); refine And.intro (rfl) ?_
    (conv => whnf); refine ACalls.mono (nk _ 0 rfl) ?_
    rintro r H' ⟨rfl, rfl⟩
    conv => whnf
    refine ⟨Gp.keepL (n := 52) (live := [(1, .ptr 0 1 0 0), (2, .ptr 1 1 0 0), (4, .ptr 2 1 0 0), (5, .ptr 3 1 0 0), (14, .int .i64 (2))]) (H1 := [gO l (wk s l i).2, .arr 7 [srcC s], .arr 3 [[.bool false, .int .i64 0, .nil]], .arr 3 [recC ⟨false, (nx l i 4).1, wrow s l i⟩]]) [0, 1, 2, 4] (by simp) (keepB_one rfl rfl rfl)
      ⟨⟨_, rfl, .same _ _ rfl⟩, ⟨_, rfl, .same _ _ ps⟩, ⟨_, rfl, .same _ _ rfl⟩, ⟨_, rfl, obR (pubFI (by simp) rfl hvl.symm hvl.symm (pureEs_vC _)) rfl⟩, trivial⟩ rfl ⟨.keepP 0 1 0 0 0 rfl, .keepP 1 1 0 0 1 rfl, .keepP 2 1 0 0 2 rfl, .keepP 4 1 0 0 3 rfl, .closed _ rfl, trivial⟩ ?_⟩
    rintro ρ1 ⟨d, rfl⟩
    (conv => whnf); refine ACalls.use (Deletion_spec F.warehouseworld_Deletion s ⟨false, (nx l i 4).1, wrow s l i⟩ hrl hc hcl hk _) ?_
    conv => whnf
    have e : wrec s l i = (⟨true, (nx l i 4).1, delR s.key s.cols (wrow s l i)⟩, (wk s l i).2) := by rw [wrec, if_pos (by rw [hz]; decide)]
    show RecRaw s l i _ _
    unfold RecRaw
    rw [e]
    exact ⟨_, rfl, .inl ⟨rfl, _, rfl⟩⟩
  · have nk := nk0
    rw [show (nx l (wr l s.cols (nx l i 4).2 []).2 24).1 = 3 from hz] at nk
    refine acalls_of_body F.has ?_
    (conv => whnf); refine ⟨_, _, Next_spec F.warehouseworld_Numbers_Next l i 4 hi hl (by decide) _ 0 rfl, ?_⟩
    (conv => whnf); refine ⟨_, _, wRow_spec F.warehouseworld_Row s.cols hc hcl l (nx l i 4).2 (nx_le _ _ _ hi) hl _ 0 rfl, ?_⟩
    (conv => whnf); refine And.intro (rfl) ?_
    (conv => whnf); refine ACalls.mono (nk _ 0 rfl) ?_
    rintro r H' ⟨rfl, rfl⟩
    conv => whnf
    refine ⟨Gp.keepL (n := 52) (live := [(1, .ptr 0 1 0 0), (2, .ptr 1 1 0 0), (4, .ptr 2 1 0 0), (5, .ptr 3 1 0 0), (14, .int .i64 (3))]) (H1 := [gO l (wk s l i).2, .arr 7 [srcC s], .arr 3 [[.bool false, .int .i64 0, .nil]], .arr 3 [recC ⟨false, (nx l i 4).1, wrow s l i⟩]]) [0, 1, 2, 4] (by simp) (keepB_one rfl rfl rfl)
      ⟨⟨_, rfl, .same _ _ rfl⟩, ⟨_, rfl, .same _ _ ps⟩, ⟨_, rfl, .same _ _ rfl⟩, ⟨_, rfl, obR (pubFI (by simp) rfl hvl.symm hvl.symm (pureEs_vC _)) rfl⟩, trivial⟩ rfl ⟨.keepP 0 1 0 0 0 rfl, .keepP 1 1 0 0 1 rfl, .keepP 2 1 0 0 2 rfl, .keepP 4 1 0 0 3 rfl, .closed _ rfl, trivial⟩ ?_⟩
    rintro ρ1 ⟨d, rfl⟩
    (conv => whnf); refine ACalls.use (Deletion_spec F.warehouseworld_Deletion s ⟨false, (nx l i 4).1, wrow s l i⟩ hrl hc hcl hk _) ?_
    conv => whnf
    have e : wrec s l i = (⟨true, (nx l i 4).1, delR s.key s.cols (wrow s l i)⟩, (wk s l i).2) := by rw [wrec, if_pos (by rw [hz]; decide)]
    show RecRaw s l i _ _
    unfold RecRaw
    rw [e]
    exact ⟨_, rfl, .inl ⟨rfl, _, rfl⟩⟩
  · have nk := nk0
    rw [show (nx l (wr l s.cols (nx l i 4).2 []).2 24).1 = 4 from hz] at nk
    refine acalls_of_body F.has ?_
    (conv => whnf); refine ⟨_, _, Next_spec F.warehouseworld_Numbers_Next l i 4 hi hl (by decide) _ 0 rfl, ?_⟩
    (conv => whnf); refine ⟨_, _, wRow_spec F.warehouseworld_Row s.cols hc hcl l (nx l i 4).2 (nx_le _ _ _ hi) hl _ 0 rfl, ?_⟩
    (conv => whnf); refine And.intro (rfl) ?_
    (conv => whnf); refine ACalls.mono (nk _ 0 rfl) ?_
    rintro r H' ⟨rfl, rfl⟩
    conv => whnf
    refine ⟨Gp.keepL (n := 52) (live := [(1, .ptr 0 1 0 0), (2, .ptr 1 1 0 0), (4, .ptr 2 1 0 0), (5, .ptr 3 1 0 0), (14, .int .i64 (4))]) (H1 := [gO l (wk s l i).2, .arr 7 [srcC s], .arr 3 [[.bool false, .int .i64 0, .nil]], .arr 3 [recC ⟨false, (nx l i 4).1, wrow s l i⟩]]) [0, 1, 2, 4] (by simp) (keepB_one rfl rfl rfl)
      ⟨⟨_, rfl, .same _ _ rfl⟩, ⟨_, rfl, .same _ _ ps⟩, ⟨_, rfl, .same _ _ rfl⟩, ⟨_, rfl, obR (pubFI (by simp) rfl hvl.symm hvl.symm (pureEs_vC _)) rfl⟩, trivial⟩ rfl ⟨.keepP 0 1 0 0 0 rfl, .keepP 1 1 0 0 1 rfl, .keepP 2 1 0 0 2 rfl, .keepP 4 1 0 0 3 rfl, .closed _ rfl, trivial⟩ ?_⟩
    rintro ρ1 ⟨d, rfl⟩
    (conv => whnf); refine ACalls.use (Deletion_spec F.warehouseworld_Deletion s ⟨false, (nx l i 4).1, wrow s l i⟩ hrl hc hcl hk _) ?_
    conv => whnf
    have e : wrec s l i = (⟨true, (nx l i 4).1, delR s.key s.cols (wrow s l i)⟩, (wk s l i).2) := by rw [wrec, if_pos (by rw [hz]; decide)]
    show RecRaw s l i _ _
    unfold RecRaw
    rw [e]
    exact ⟨_, rfl, .inl ⟨rfl, _, rfl⟩⟩
  · have nk := nk0
    rw [show (nx l (wr l s.cols (nx l i 4).2 []).2 24).1 = 5 from hz] at nk
    refine acalls_of_body F.has ?_
    (conv => whnf); refine ⟨_, _, Next_spec F.warehouseworld_Numbers_Next l i 4 hi hl (by decide) _ 0 rfl, ?_⟩
    (conv => whnf); refine ⟨_, _, wRow_spec F.warehouseworld_Row s.cols hc hcl l (nx l i 4).2 (nx_le _ _ _ hi) hl _ 0 rfl, ?_⟩
    (conv => whnf); refine And.intro (rfl) ?_
    (conv => whnf); refine ACalls.mono (nk _ 0 rfl) ?_
    rintro r H' ⟨rfl, rfl⟩
    conv => whnf
    refine ⟨Gp.keep (n := 52) (live := [(1, .ptr 0 1 0 0), (2, .ptr 1 1 0 0), (4, .ptr 2 1 0 0), (5, .ptr 4 1 0 0), (14, .int .i64 (5))]) rfl ⟨rfl, rfl, rfl, rfl, rfl, trivial⟩ ?_⟩
    rintro ρ1 ⟨d, rfl⟩
    conv => whnf
    have e : wrec s l i = (⟨true, (nx l i 4).1, wrow s l i⟩, (wk s l i).2) := by rw [wrec, if_neg (by rw [hz]; decide), if_pos hz]
    show RecRaw s l i _ _
    unfold RecRaw
    rw [e]
    exact ⟨_, rfl, .inr ⟨s.cols.length, wrow s l i, _, _, _, by rw [hvl]; rfl, htk, rfl⟩⟩
  · have nk := nk0
    rw [show (nx l (wr l s.cols (nx l i 4).2 []).2 24).1 = 6 from hz] at nk
    refine acalls_of_body F.has ?_
    (conv => whnf); refine ⟨_, _, Next_spec F.warehouseworld_Numbers_Next l i 4 hi hl (by decide) _ 0 rfl, ?_⟩
    (conv => whnf); refine ⟨_, _, wRow_spec F.warehouseworld_Row s.cols hc hcl l (nx l i 4).2 (nx_le _ _ _ hi) hl _ 0 rfl, ?_⟩
    (conv => whnf); refine And.intro (rfl) ?_
    (conv => whnf); refine ACalls.mono (nk _ 0 rfl) ?_
    rintro r H' ⟨rfl, rfl⟩
    conv => whnf
    refine ⟨Gp.keep (n := 52) (live := [(1, .ptr 0 1 0 0), (2, .ptr 1 1 0 0), (4, .ptr 2 1 0 0), (5, .ptr 4 1 0 0), (14, .int .i64 (6))]) rfl ⟨rfl, rfl, rfl, rfl, rfl, trivial⟩ ?_⟩
    rintro ρ1 ⟨d, rfl⟩
    have ew : IntKind.i64.wrap ((s.cols.length : Int) - 1) = ((s.cols.length - 1 : Nat) : Int) := by rw [wrapI _ (by omega) (by omega)]; omega
    have hb : Nat.beq s.cols.length (vC (wrow s l i)).length = true := by rw [hvl]; exact Nat.beq_refl _
    (conv => whnf); refine recT (hb) ?_
    (conv => whnf); refine recT (hb) ?_
    (conv => whnf); refine And.intro (by rw [ew]; omega) ?_
    conv => whnf
    have e : wrec s l i = (⟨false, (nx l i 4).1, (wrow s l i).take (s.cols.length - 1)⟩, (wk s l i).2) := by rw [wrec, if_neg (by rw [hz]; decide), if_neg (by rw [hz]; decide), if_pos hz]
    show RecRaw s l i _ _
    unfold RecRaw
    rw [e]
    refine ⟨_, rfl, .inr ⟨s.cols.length - 1, wrow s l i, _, _, _, ?_, ?_, rfl⟩⟩
    · show AVal.sl 3 s.cols.length 0 ((IntKind.i64.wrap ((s.cols.length : Int) - 1)).toNat - 0) = _
      rw [ew, hvl, Int.toNat_natCast]; rfl
    · rw [List.drop_zero]; simp [vC, List.map_take]
  · have nk := nk0
    rw [show (nx l (wr l s.cols (nx l i 4).2 []).2 24).1 = 7 from hz] at nk
    refine acalls_of_body F.has ?_
    (conv => whnf); refine ⟨_, _, Next_spec F.warehouseworld_Numbers_Next l i 4 hi hl (by decide) _ 0 rfl, ?_⟩
    (conv => whnf); refine ⟨_, _, wRow_spec F.warehouseworld_Row s.cols hc hcl l (nx l i 4).2 (nx_le _ _ _ hi) hl _ 0 rfl, ?_⟩
    (conv => whnf); refine And.intro (rfl) ?_
    (conv => whnf); refine ACalls.mono (nk _ 0 rfl) ?_
    rintro r H' ⟨rfl, rfl⟩
    conv => whnf
    refine ⟨Gp.keep (n := 52) (live := [(1, .ptr 0 1 0 0), (2, .ptr 1 1 0 0), (4, .ptr 2 1 0 0), (5, .ptr 4 1 0 0), (14, .int .i64 (7))]) rfl ⟨rfl, rfl, rfl, rfl, rfl, trivial⟩ ?_⟩
    rintro ρ1 ⟨d, rfl⟩
    have hb : Nat.beq s.cols.length (vC (wrow s l i)).length = true := by rw [hvl]; exact Nat.beq_refl _
    have hn7 := nx_bnd l (wk s l i).2 s.cols.length (by omega)
    (conv => whnf); refine recT (hb) ?_
    (conv => whnf); refine ⟨_, _, Next_spec F.warehouseworld_Numbers_Next l (wk s l i).2 s.cols.length (wk_le s l i hi) hl (by omega) _ 0 rfl, ?_⟩
    (conv => whnf); refine recT (hb) ?_
    (conv => whnf); refine And.intro (hn7) ?_
    (conv => whnf); refine recT (hb) ?_
    (conv => whnf); refine recO (vC_at (l := wrow s l i) (k := 0 + (nx l (wk s l i).2 s.cols.length).1.toNat) (List.getElem?_eq_getElem (by omega))) ?_
    (conv => whnf); refine And.intro (rfl) ?_
    conv => whnf
    have e : wrec s l i = (⟨false, (nx l i 4).1, (wrow s l i).set (nx l (wk s l i).2 s.cols.length).1.toNat ⟨1, 1, bs []⟩⟩, (nx l (wk s l i).2 s.cols.length).2) := by rw [wrec, if_neg (by rw [hz]; decide), if_neg (by rw [hz]; decide), if_neg (by rw [hz]; decide), if_pos hz]
    show RecRaw s l i _ _
    unfold RecRaw
    rw [e]
    have ht : ∀ X : List (List AVal), X.length = s.cols.length → (X.drop 0).take s.cols.length = X := fun X h => by rw [List.drop_zero, ← h, List.take_length]
    have hsl : (vC ((wrow s l i).set (nx l (wk s l i).2 s.cols.length).1.toNat ⟨1, 1, bs []⟩)).length = s.cols.length := by rw [vC_length, List.length_set, hrl]
    have hset : setEs (vC (wrow s l i)) (0 + (nx l (wk s l i).2 s.cols.length).1.toNat) (valC ⟨1, 1, bs []⟩) = vC ((wrow s l i).set (nx l (wk s l i).2 s.cols.length).1.toNat ⟨1, 1, bs []⟩) := by rw [Nat.zero_add, setEs_vC]
    exact ⟨_, rfl, .inr ⟨s.cols.length, (wrow s l i).set (nx l (wk s l i).2 s.cols.length).1.toNat ⟨1, 1, bs []⟩, _, _, _, by rw [hsl]; rfl, ht _ hsl, (congrArg (fun X => [gO l (nx l (wk s l i).2 s.cols.length).2, _, _, AObj.arr 3 X, _]) hset)⟩⟩
  · have nk := nk0
    rw [show (nx l (wr l s.cols (nx l i 4).2 []).2 24).1 = 8 from hz] at nk
    refine acalls_of_body F.has ?_
    (conv => whnf); refine ⟨_, _, Next_spec F.warehouseworld_Numbers_Next l i 4 hi hl (by decide) _ 0 rfl, ?_⟩
    (conv => whnf); refine ⟨_, _, wRow_spec F.warehouseworld_Row s.cols hc hcl l (nx l i 4).2 (nx_le _ _ _ hi) hl _ 0 rfl, ?_⟩
    (conv => whnf); refine And.intro (rfl) ?_
    (conv => whnf); refine ACalls.mono (nk _ 0 rfl) ?_
    rintro r H' ⟨rfl, rfl⟩
    conv => whnf
    refine ⟨Gp.keep (n := 52) (live := [(1, .ptr 0 1 0 0), (2, .ptr 1 1 0 0), (4, .ptr 2 1 0 0), (5, .ptr 4 1 0 0), (14, .int .i64 (8))]) rfl ⟨rfl, rfl, rfl, rfl, rfl, trivial⟩ ?_⟩
    rintro ρ1 ⟨d, rfl⟩
    conv => whnf
    have e : wrec s l i = (⟨false, -1, wrow s l i⟩, (wk s l i).2) := by rw [wrec, if_neg (by rw [hz]; decide), if_neg (by rw [hz]; decide), if_neg (by rw [hz]; decide), if_neg (by rw [hz]; decide), if_pos hz]
    show RecRaw s l i _ _
    unfold RecRaw
    rw [e]
    exact ⟨_, rfl, .inr ⟨s.cols.length, wrow s l i, _, _, _, by rw [hvl]; rfl, htk, rfl⟩⟩
  · have nk := nk0
    rw [show (nx l (wr l s.cols (nx l i 4).2 []).2 24).1 = (wk s l i).1 from rfl] at nk
    refine acalls_of_body F.has ?_
    (conv => whnf); refine ⟨_, _, Next_spec F.warehouseworld_Numbers_Next l i 4 hi hl (by decide) _ 0 rfl, ?_⟩
    (conv => whnf); refine ⟨_, _, wRow_spec F.warehouseworld_Row s.cols hc hcl l (nx l i 4).2 (nx_le _ _ _ hi) hl _ 0 rfl, ?_⟩
    (conv => whnf); refine And.intro (rfl) ?_
    (conv => whnf); refine ACalls.mono (nk _ 0 rfl) ?_
    rintro r H' ⟨rfl, rfl⟩
    conv => whnf
    refine ⟨Gp.keep (n := 52) (live := [(1, .ptr 0 1 0 0), (2, .ptr 1 1 0 0), (4, .ptr 2 1 0 0), (5, .ptr 4 1 0 0), (14, .int .i64 ((wk s l i).1))]) rfl ⟨rfl, rfl, rfl, rfl, rfl, trivial⟩ ?_⟩
    rintro ρ1 ⟨d, rfl⟩
    have hne : ∀ z : Int, z < 9 → ((wk s l i).1 == z) = false := fun z hz => by simp; omega
    (conv => whnf); refine recF (hne 0 (by decide)) ?_
    (conv => whnf); refine recF (hne 1 (by decide)) ?_
    (conv => whnf); refine recF (hne 2 (by decide)) ?_
    (conv => whnf); refine recF (hne 3 (by decide)) ?_
    (conv => whnf); refine recF (hne 4 (by decide)) ?_
    (conv => whnf); refine recF (hne 5 (by decide)) ?_
    (conv => whnf); refine recF (hne 6 (by decide)) ?_
    (conv => whnf); refine recF (hne 7 (by decide)) ?_
    (conv => whnf); refine recF (hne 8 (by decide)) ?_
    conv => whnf
    have e : wrec s l i = (⟨false, (nx l i 4).1, wrow s l i⟩, (wk s l i).2) := by rw [wrec, if_neg (by omega), if_neg (by omega), if_neg (by omega), if_neg (by omega), if_neg (by omega)]
    show RecRaw s l i _ _
    unfold RecRaw
    rw [e]
    exact ⟨_, rfl, .inr ⟨s.cols.length, wrow s l i, _, _, _, by rw [hvl]; rfl, htk, rfl⟩⟩

theorem Record_spec0 {P : Program} (F : F_warehouseworld_Record P) (s : Src) (hc : s.cols ≠ []) (hcl : s.cols.length ≤ 1000) (hk : s.key.length ≤ 1000) (l : List Int) (i : Nat) (hi : i ≤ l.length) (hl : l.length ≤ 1000000) :
    ACalls P F.id [.agg (srcC s), .ptr 0 1 0 0] [gO l i] (fun r H' => r = .agg (recC (wrec s l i).1) ∧ H' = [gO l (wrec s l i).2]) := by
  refine (Record_raw F s hc hcl hk l i hi hl).gp ?_
  rintro r H' ⟨c, rfl, ⟨rfl, t, rfl⟩ | ⟨m, R, x, y, z, rfl, hR, rfl⟩⟩
  · exact Gp.res [0] (by simp) (keepB_hd rfl) (H1 := [gO l (wrec s l i).2]) ⟨⟨_, rfl, .same _ _ rfl⟩, trivial⟩ (.closed _ (by simp [AVal.closed, AVal.isPure])) ⟨_, rfl, rfl, rfl⟩
  · refine Gp.res [0] (by simp) (keepB_one rfl rfl rfl) (H1 := [gO l (wrec s l i).2]) (r' := .agg (recC (wrec s l i).1)) ⟨⟨_, rfl, .same _ _ rfl⟩, trivial⟩ ?_ ⟨_, rfl, rfl, rfl⟩
    refine .agg _ _ rfl fun i v r h1 h2 => ?_
    rcases i with _ | _ | _ | i
    · cases h1; cases h2; exact .closed _ rfl
    · cases h1; cases h2; exact .closed _ rfl
    · cases h1; cases h2
      have := Pub.frz (H1 := [gO l (wrec s l i).2, x, y, .arr 3 (vC R), z]) (n := 0) (ids := [0]) 3 (vC R).length 0 m 3 (vC R) rfl rfl (pureEs_vC _) (by simp)
      rwa [hR] at this
    · simp at h1

theorem Record_spec {P : Program} (F : F_warehouseworld_Record P) (s : Src) (hc : s.cols ≠ []) (hcl : s.cols.length ≤ 1000) (hk : s.key.length ≤ 1000) (l : List Int) (i : Nat) (hi : i ≤ l.length) (hl : l.length ≤ 1000000) (H : List AObj) (id : Nat) (ho : H[id]? = some (gO l i)) :
    ACalls P F.id [.agg (srcC s), .ptr id 1 0 0] H (fun r H' => r = .agg (recC (wrec s l i).1) ∧ H' = H.set id (gO l (wrec s l i).2)) :=
  (Record_spec0 F s hc hcl hk l i hi hl).fr ho rfl rfl (.cl (by simp [AVal.closed, srcC, srcX, AVal.isPure]) (.pt trivial)) (.closed _ (by simp [AVal.closed, recC, AVal.isPure]))

end Go.AW

