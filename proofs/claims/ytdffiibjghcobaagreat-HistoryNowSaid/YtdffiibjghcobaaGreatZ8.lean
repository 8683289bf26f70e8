/-
  An abstract machine over the model, the code of functions on it, and their contracts: what the claim needs.
  No condition: definitions, plain laws, contracts over any program that has this code.
-/
import Derived.Test.YtdffiibjghcobaaGreatZ7
set_option linter.all false
namespace Go.AW
variable [Draws]
attribute [local irreducible] ACalls
def openB (a b : V) : Bool := b.kind == 0

def atB (m : Int) (a b : V) : Bool := decide (a.num ≤ m) && (b.kind == 0 || decide (b.num > m))

theorem current1_spec {P : Program} (F : F_z0k P) (a b : V) (H : List AObj) :
  ACalls P F.id ([.agg (valC a), .agg (valC b)] ++ []) H (fun r H' => r = .bool (openB a b) ∧ H' = H) := by
 refine ACalls.pure rfl (acalls_of_body F.has ?_)
 conv => whnf
 exact pubB rfl

theorem at1_spec {P : Program} (F : F_z0g P) (m : Int) (a b : V) (H : List AObj) :
  ACalls P F.id ([.agg (valC a), .agg (valC b)] ++ [.cptr [.int .i64 m] 0]) H (fun r H' => r = .bool (atB m a b) ∧ H' = H) := by
 refine ACalls.pure rfl (acalls_of_body F.has ?_)
 (conv => whnf); refine recA (fun h1 => ?_) (fun h1 => ?_)
 ·(conv => whnf); refine recA (fun h2 => ?_) (fun h2 => ?_)
  ·conv => whnf
   refine pubB ?_
   replace h1 : decide (a.num ≤ m) = true := h1
   replace h2 : (b.kind == 0) = true := h2
   rw [atB, h1, h2]; rfl
  ·conv => whnf
   refine pubB ?_
   replace h1 : decide (a.num ≤ m) = true := h1
   replace h2 : (b.kind == 0) = false := h2
   rw [atB, h1, h2]; rfl
 ·conv => whnf
  refine pubB ?_
  replace h1 : decide (a.num ≤ m) = false := h1
  rw [atB, h1]; rfl

set_option maxRecDepth 20000 in
theorem current_spec {P : Program} (F : F_z0j P) (hS : SortE P F.z0p.z00.z05.z1m.id F.z0p.z00.z05.z06.id) (s : Sou) (hs : s.good) (ex : Bool) (rows : List Ent) (hb : bagB rows = 0) (hr : ∀ e ∈ rows, e.row.length = s.cols.length + 2 ∧ chkRow (hcols s) e.row = 0) (H : List AObj) :
  ACalls P F.id [.agg (souC s), .list ex 2 (eC rows)] H (fun r H' => r = norR (restV s.cols.length openB rows) ∧ H' = H) := by
 have hten := hs.ten
 have hlen := (bagB_iff rows).1 hb |>.1
 refine ACalls.pure (by simp [souC, AVal.closed, AVal.isPure]) (acalls_of_body F.has ?_)
 (conv => whnf); refine ACalls.use (hcheck_spec F.z0n s hs ex rows hb (fun e he => ⟨by have := (hr e he).1; omega, (hr e he).2⟩) _) ?_
 (conv => whnf); refine ACalls.use (hrest_spec F.z0p hS ex rows (by omega) s.cols.length (by omega) (fun e he => (hr e he).1) F.z0k.id [] rfl openB (fun a b H => current1_spec F.z0k a b H) _) ?_
 unfold norR
 split
 ·conv => whnf
  exact pub2 (.closed _ rfl) (.closed _ rfl)
 ·rcases resR_cases (srtM (restV s.cols.length openB rows).length (restV s.cols.length openB rows)) with h | h
  all_goals
   rw [h]
   conv => whnf
   exact pub2 (.closed _ rfl) (.closed _ rfl)

set_option maxRecDepth 20000 in
theorem at_spec {P : Program} (F : F_z0f P) (hS : SortE P F.z0p.z00.z05.z1m.id F.z0p.z00.z05.z06.id) (s : Sou) (hs : s.good) (ex : Bool) (rows : List Ent) (m : Int) (hm : 0 ≤ m ∧ m ≤ 575999999) (hb : bagB rows = 0) (hr : ∀ e ∈ rows, e.row.length = s.cols.length + 2 ∧ chkRow (hcols s) e.row = 0) (H : List AObj) :
  ACalls P F.id [.agg (souC s), .list ex 2 (eC rows), .int .i64 m] H (fun r H' => r = norR (restV s.cols.length (atB m) rows) ∧ H' = H) := by
 have hten := hs.ten
 have hlen := (bagB_iff rows).1 hb |>.1
 refine ACalls.pure (by simp [souC, AVal.closed, AVal.isPure]) (acalls_of_body F.has ?_)
 conv => whnf
 refine Ghost.none (n := 31) (live := [(1, .list ex 2 (eC rows)), (3, .cptr (souC s) 0), (5, .cptr [.int .i64 m] 0)]) rfl ⟨.closed (.list ex 2 (eC rows)) rfl, .frzP 0 1 0 0 7 [souC s] _ rfl rfl rfl rfl (by simp), .frzP 1 1 0 0 1 [[.int .i64 m]] _ rfl rfl rfl rfl (by simp), trivial⟩ ?_
 rintro ρ ⟨d, rfl⟩
 (conv => whnf); refine ACalls.use (hcheck_spec F.z0n s hs ex rows hb (fun e he => ⟨by have := (hr e he).1; omega, (hr e he).2⟩) _) ?_
 (conv => whnf); refine recF (by simp; omega) ?_
 (conv => whnf); refine recF (by simp; omega) ?_
 (conv => whnf); refine ACalls.use (hrest_spec F.z0p hS ex rows (by omega) s.cols.length (by omega) (fun e he => (hr e he).1) F.z0g.id [.cptr [.int .i64 m] 0] rfl (atB m) (fun a b H => at1_spec F.z0g m a b H) _) ?_
 unfold norR
 split
 ·conv => whnf
  exact pub2 (.closed _ rfl) (.closed _ rfl)
 ·rcases resR_cases (srtM (restV s.cols.length (atB m) rows).length (restV s.cols.length (atB m) rows)) with h | h
  all_goals
   rw [h]
   conv => whnf
   exact pub2 (.closed _ rfl) (.closed _ rfl)

def kSou : Sou := ⟨bs [], [⟨bs [105, 100], 2, false⟩, ⟨bs [97, 116], 4, false⟩], [bs [105, 100]], bs [97, 116], bs [], 0, 0⟩

def kVer (a q : Int) (d : Bool) : Ver := ⟨⟨d, q, [⟨2, 1, bs []⟩, tmV a]⟩, 0, 0⟩

def kVs : List Ver := [kVer 30 1 true, kVer 20 2 false, kVer 10 3 false, kVer 20 1 false]

def kI : List Ent := [⟨[⟨2, 1, bs []⟩, tmV 10, tmV 10, tmV 20], 1⟩, ⟨[⟨2, 1, bs []⟩, tmV 20, tmV 20, tmV 30], 1⟩]

theorem kgood : kSou.good := by
 refine ⟨by decide, by decide, by decide, ⟨⟨bs [97, 116], 4, false⟩, rfl, rfl, rfl⟩, by decide, by decide, by decide, by decide⟩

theorem kI_eq : ivsV kSou kVs = kI := by rfl

theorem kI_bag : bagB kI = 0 := by rfl

theorem kI_row : ∀ e ∈ kI, e.row.length = kSou.cols.length + 2 ∧ chkRow (hcols kSou) e.row = 0 := by
 intro e he
 rcases List.mem_cons.1 he with rfl | he
 ·exact ⟨rfl, rfl⟩
 ·rw [List.mem_singleton.1 he]; exact ⟨rfl, rfl⟩

theorem kAt : norR (restV kSou.cols.length (atB 19) kI) = .tuple [.list false 2 (eC [⟨[⟨2, 1, bs []⟩, tmV 10], 1⟩]), .int .i64 0] := by rfl

theorem kCur : norR (restV kSou.cols.length openB kI) = .tuple [.list false 2 (eC []), .int .i64 0] := by rfl

theorem kok : ∀ v ∈ kVs, okV kSou v := by
 intro v hv
 unfold kVs at hv
 simp only [List.mem_cons, List.not_mem_nil, or_false] at hv
 rcases hv with rfl | rfl | rfl | rfl <;> rfl

theorem kuq : Uq kSou kVs := by
 intro x hx y hy h
 unfold kVs at hx hy
 simp only [List.mem_cons, List.not_mem_nil, or_false] at hx hy
 rcases hx with rfl | rfl | rfl | rfl <;> rcases hy with rfl | rfl | rfl | rfl <;> first | rfl | (exact absurd h (by decide))

end Go.AW

namespace Go.AW
variable [Draws]
attribute [local irreducible] ACalls
theorem version_raw {P : Program} (F : F_z2a P) (a q : Int) (d : Bool) (H : List AObj) :
  ACalls P F.id [.int .i64 a, .int .i64 q, .bool d] H (fun r H' => r = .agg [.bool d, .int .i64 q, .list true 3 (vC [⟨2, 1, bs []⟩, tmV a]), .int .i64 0, .int .i64 0] ∧ H' = H) := by
 refine ACalls.pure rfl (acalls_of_body F.has ?_)
 conv => whnf
 exact .closed _ rfl

theorem version_spec {P : Program} (F : F_z2a P) (a q : Int) (d : Bool) (H : List AObj) :
  ACalls P F.id [.int .i64 a, .int .i64 q, .bool d] H (fun r H' => r = .agg (verC (kVer a q d)) ∧ H' = H) :=
 (version_raw F a q d H).weakR (by
  rintro r H' ⟨rfl, rfl⟩
  refine ⟨.agg (verC (kVer a q d)), .agg _ _ rfl fun i x y h1 h2 => ?_, rfl, rfl⟩
  rcases i with _ | _ | _ | _ | _ | i
  ·cases h1; cases h2; exact .refl _
  ·cases h1; cases h2; exact .refl _
  ·cases h1; cases h2; exact .list _ _ _ _ (by simp)
  ·cases h1; cases h2; exact .refl _
  ·cases h1; cases h2; exact .refl _
  ·simp at h1)

theorem wkSou : Wk (.agg [.str (bs []), .list true 3 (cC kSou.cols), .list true 1 (sC kSou.key), .str (bs [97, 116]), .str (bs []), .int .i64 0, .int .i64 0]) (.agg (souC kSou)) := by
 refine .agg _ _ rfl fun i x y h1 h2 => ?_
 rcases i with _ | _ | _ | _ | _ | _ | _ | i
 ·cases h1; cases h2; exact .refl _
 ·cases h1; cases h2; exact .list _ _ _ _ (by simp)
 ·cases h1; cases h2; exact .list _ _ _ _ (by simp)
 ·cases h1; cases h2; exact .refl _
 ·cases h1; cases h2; exact .refl _
 ·cases h1; cases h2; exact .refl _
 ·cases h1; cases h2; exact .refl _
 ·simp at h1

set_option maxHeartbeats 1000000 in
set_option maxRecDepth 20000 in
theorem known27_spec {P : Program} (F : F_z27 P) (hS1 : SortE P F.z0l.z1m.id F.z0l.z0m.id)
  (hS2 : SortE P F.z0j.z0p.z00.z05.z1m.id F.z0j.z0p.z00.z05.z06.id)
  (hS3 : SortE P F.z0f.z0p.z00.z05.z1m.id F.z0f.z0p.z00.z05.z06.id) (H : List AObj) :
  ACalls P F.id [] H (fun r H' => r = .bool true ∧ H' = H) := by
 have hI : ∀ H, ACalls P F.z0l.id [.agg (souC kSou), .list true 5 (vsC kVs)] H (fun r H' => r = .tuple [.list false 2 (eC kI), .int .i64 0] ∧ H' = H) := fun H => by
  have := Intervals_spec F.z0l hS1 kSou kgood true kVs (by decide) kok kuq H
  rwa [kI_eq] at this
 have hA : ∀ H, ACalls P F.z0f.id [.agg (souC kSou), .list false 2 (eC kI), .int .i64 19] H (fun r H' => r = .tuple [.list false 2 (eC [⟨[⟨2, 1, bs []⟩, tmV 10], 1⟩]), .int .i64 0] ∧ H' = H) := fun H => by
  have := at_spec F.z0f hS3 kSou kgood false kI 19 (by decide) kI_bag kI_row H
  rwa [kAt] at this
 have hC : ∀ H, ACalls P F.z0j.id [.agg (souC kSou), .list false 2 (eC kI)] H (fun r H' => r = .tuple [.list false 2 (eC []), .int .i64 0] ∧ H' = H) := fun H => by
  have := current_spec F.z0j hS2 kSou kgood false kI kI_bag kI_row H
  rwa [kCur] at this
 refine ACalls.pure rfl (acalls_of_body F.has ?_)
 (conv => whnf); refine ⟨_, version_spec F.z2a 30 1 true _, ?_⟩
 (conv => whnf); refine ⟨_, version_spec F.z2a 20 2 false _, ?_⟩
 (conv => whnf); refine ⟨_, version_spec F.z2a 10 3 false _, ?_⟩
 (conv => whnf); refine ⟨_, version_spec F.z2a 20 1 false _, ?_⟩
 (conv => whnf); refine ⟨_, ACalls.weak (hI _) (.cons wkSou (.cons (.refl _) .nil)), ?_⟩
 repeat ((conv => whnf); refine And.intro rfl ?_)
 (conv => whnf); refine ACalls.use (ACalls.weak (hA _) (.cons wkSou (.cons (.refl _) (.cons (.refl _) .nil)))) ?_
 (conv => whnf); refine ACalls.use (ACalls.weak (hC _) (.cons wkSou (.cons (.refl _) .nil))) ?_
 (conv => whnf); refine And.intro (by decide) ?_
 (conv => whnf); refine And.intro (by decide) ?_
 (conv => whnf); refine And.intro (by decide) ?_
 (conv => whnf); refine And.intro (by decide) ?_
 (conv => whnf); refine And.intro (by decide) ?_
 (conv => whnf); refine And.intro (by decide) ?_
 conv => whnf
 exact pubB rfl

end Go.AW

namespace Go.AW
variable [Draws]
attribute [local irreducible] ACalls
theorem good0 (s : Sou) (hc : s.cols = wcols) (hk : s.key = [bs [105, 100]]) (ha : s.att = bs [97, 116]) : s.good := by
 refine ⟨by rw [hc]; decide, by rw [hc, ha]; decide, by rw [hc, hk]; decide, ⟨⟨bs [97, 116], 4, false⟩, by rw [hc, ha]; rfl, rfl, rfl⟩, by rw [hc]; decide, by rw [hc]; decide, by rw [hc]; decide, by rw [hk]; decide⟩

theorem good1 (s : Sou) (hc : s.cols = wcols ++ [⟨bs [112, 97, 114, 116], 3, false⟩]) (hk : s.key = [bs [112, 97, 114, 116], bs [105, 100]]) (ha : s.att = bs [97, 116]) : s.good := by
 refine ⟨by rw [hc]; decide, by rw [hc, ha]; decide, by rw [hc, hk]; decide, ⟨⟨bs [97, 116], 4, false⟩, by rw [hc, ha]; rfl, rfl, rfl⟩, by rw [hc]; decide, by rw [hc]; decide, by rw [hc]; decide, by rw [hk]; decide⟩

theorem wgood (n : Int) : (souS (wsrc n)).good := by
 cases hp : wpart n
 ·exact good0 _ (by show (wsrc n).cols = _; rw [wsrcC, hp]; rfl) (by show (wsrc n).key = _; rw [wsrcK, hp]; rfl) rfl
 ·exact good1 _ (by show (wsrc n).cols = _; rw [wsrcC, hp]; rfl) (by show (wsrc n).key = _; rw [wsrcK, hp]; rfl) rfl

noncomputable def mV (n : Int) (ls : List Int) : List Ver := srtV (souS (wsrc n)) (couL (souS (wsrc n)) 0 (ledV (wsrc n) ls).1)

theorem mV_len (n : Int) (ls : List Int) : (mV n ls).length ≤ 24 := by
 obtain ⟨h1, h2⟩ := ledV_ok (wsrc n) ls
 have := couL_len (souS (wsrc n)) (ledV (wsrc n) ls).1 0 6 fun x hx => (h1 x hx).2.1
 rw [mV, srtV, isort_length]
 omega

theorem ivsV_perm {s : Sou} {l m : List Ver} (h : Uq s l) (hp : m.Perm l) : ivsV s m = ivsV s l := by
 rw [ivsV, ivsV, srtV, srtV, isort_congr (orders_V s) hp h.zz]

theorem made_ok (n : Int) (ls : List Int) : (ledV (wsrc n) ls).1.length ≤ 1000 ∧ (couL (souS (wsrc n)) 0 (ledV (wsrc n) ls).1).length ≤ 1000 ∧ ∀ x ∈ (ledV (wsrc n) ls).1, x.ok := by
 obtain ⟨h1, h2⟩ := ledV_ok (wsrc n) ls
 have h3 := couL_len (souS (wsrc n)) (ledV (wsrc n) ls).1 0 6 fun x hx => (h1 x hx).2.1
 have := wsrc_bnd n
 exact ⟨by omega, by omega, fun x hx => (h1 x hx).ok (by omega)⟩

theorem ivsV_len (s : Sou) (vs : List Ver) : (ivsV s vs).length ≤ vs.length := by
 rw [ivsV, srtE, isort_length]
 exact Nat.le_trans (ivsG_len s _) (Nat.le_trans (usedV_sub s _).length_le (by rw [srtV, isort_length]; exact Nat.le_refl _))

theorem sameEnt_refl {P : Program} (F : F_z2h P) (a : List Ent) (ha : a.length ≤ 100000) (hr : ∀ e ∈ a, e.row.length ≤ 1000) (H : List AObj) :
  ACalls P F.id [.list false 2 (eC a), .list false 2 (eC a)] H (fun r H' => r = .bool true ∧ H' = H) := by
 have := sameEnt_spec F false false a a ha hr H
 rwa [eqD_true rfl] at this

end Go.AW

namespace Go.AW
variable [Draws]
abbrev kyV (s : Sou) (v : Ver) : List V := keyV s v.rc.row

abbrev tiV (s : Sou) (v : Ver) : Int := timeV s v.rc

def RepOf (s : Sou) (L : List Ver) (v : Ver) : Prop := v ∈ L ∧ ∀ w ∈ L, kyV s w = kyV s v → tiV s w = tiV s v → 0 ≤ cmpVr s v w

def EndOf (s : Sou) (L : List Ver) (v : Ver) (e : V) : Prop :=
 (e = zV ∧ ∀ w ∈ L, kyV s w = kyV s v → tiV s w ≤ tiV s v) ∨
 ∃ w ∈ L, kyV s w = kyV s v ∧ tiV s v < tiV s w ∧ e = tmV (tiV s w) ∧ ∀ u ∈ L, kyV s u = kyV s v → tiV s v < tiV s u → tiV s w ≤ tiV s u

theorem EndOf.uniq {s : Sou} {L : List Ver} {v : Ver} {e f : V} (h : EndOf s L v e) (g : EndOf s L v f) : e = f := by
 rcases h with ⟨rfl, h⟩ | ⟨w, hw, k, t, rfl, m⟩
 ·rcases g with ⟨rfl, g⟩ | ⟨w, hw, k, t, rfl, m⟩
  ·rfl
  ·have := h w hw k; omega
 ·rcases g with ⟨rfl, g⟩ | ⟨w', hw', k', t', rfl, m'⟩
  ·have := g w hw k; omega
  ·have := m w' hw' k' t'
   have := m' w hw k t
   rw [show tiV s w = tiV s w' by omega]

theorem EndOf.congr {s : Sou} {L M : List Ver} {v : Ver} {e : V} (h : EndOf s L v e) (h1 : ∀ w ∈ L, ∃ w' ∈ M, kyV s w' = kyV s w ∧ tiV s w' = tiV s w) (h2 : ∀ w ∈ M, ∃ w' ∈ L, kyV s w' = kyV s w ∧ tiV s w' = tiV s w) : EndOf s M v e := by
 rcases h with ⟨rfl, h⟩ | ⟨w, hw, k, t, rfl, m⟩
 ·refine .inl ⟨rfl, fun w hw hk => ?_⟩
  obtain ⟨w', a, b, c⟩ := h2 w hw
  rw [← c]; exact h w' a (b.trans hk)
 ·obtain ⟨w', a, b, c⟩ := h1 w hw
  refine .inr ⟨w', a, b.trans k, by omega, by rw [c], fun u hu ku tu => ?_⟩
  obtain ⟨u', a', b', c'⟩ := h2 u hu
  have := m u' a' (b'.trans ku) (by omega)
  omega

theorem cmpVr_key {s : Sou} {v w : Ver} (h : 0 ≤ cmpVr s w v) : 0 ≤ rowsCmp (kyV s w) (kyV s v) := by
 rw [cmpVr_lex] at h
 simp only [lexC] at h
 show 0 ≤ rowsCmp (keyV s w.rc.row) (keyV s v.rc.row)
 by_cases hz : rowsCmp (keyV s w.rc.row) (keyV s v.rc.row) = 0
 ·omega
 ·rw [if_neg hz] at h; exact h

theorem cmpVr_time {s : Sou} {v w : Ver} (h : 0 ≤ cmpVr s w v) (hk : kyV s w = kyV s v) : tiV s v ≤ tiV s w := by
 rw [cmpVr_lex] at h
 simp only [lexC] at h
 rw [if_pos ((rowsCmp_zero _ _).2 hk)] at h
 have h1 := cmpI_lt (timeV s w.rc) (timeV s v.rc)
 have h2 := cmpI_zero (timeV s w.rc) (timeV s v.rc)
 show timeV s v.rc ≤ timeV s w.rc
 split at h <;> omega

theorem sameKT_iff {s : Sou} {a b : Ver} : sameKT s a b = true ↔ kyV s a = kyV s b ∧ tiV s a = tiV s b := by
 unfold sameKT
 rw [Bool.and_eq_true, beq_iff_eq, beq_iff_eq, rowsCmp_zero]

theorem used_rep (s : Sou) : ∀ L : List Ver, ∀ w ∈ L, ∃ u ∈ usedV s L, kyV s u = kyV s w ∧ tiV s u = tiV s w
 | [], w, h => by cases h
 | v :: vs, w, h => by
  rw [usedV]
  split
  ·rename_i hc
   rcases List.mem_cons.1 h with rfl | h
   ·cases vs with
    | nil => simp at hc
    | cons x vs =>
     simp only [List.head?_cons, Option.any_some] at hc
     obtain ⟨a, b⟩ := sameKT_iff.1 hc
     obtain ⟨u, h1, h2, h3⟩ := used_rep s (x :: vs) x (List.mem_cons_self ..)
     exact ⟨u, h1, h2.trans a.symm, h3.trans b.symm⟩
   ·exact used_rep s vs w h
  ·rcases List.mem_cons.1 h with rfl | h
   ·exact ⟨w, List.mem_cons_self .., rfl, rfl⟩
   ·obtain ⟨u, h1, h2⟩ := used_rep s vs w h
    exact ⟨u, List.mem_cons_of_mem _ h1, h2⟩

theorem key_le_antisymm {a b : List V} (h1 : 0 ≤ rowsCmp a b) (h2 : 0 ≤ rowsCmp b a) : a = b := by
 have := rowsCmp_anti a b
 exact (rowsCmp_zero _ _).1 (by omega)

def ltK (s : Sou) (x y : Ver) : Prop := rowsCmp (kyV s x) (kyV s y) < 0 ∨ (kyV s x = kyV s y ∧ tiV s x < tiV s y)

theorem ltK_of {s : Sou} {x y : Ver} (h : 0 ≤ cmpVr s y x) (hn : ¬ (kyV s x = kyV s y ∧ tiV s x = tiV s y)) : ltK s x y := by
 have h1 := cmpVr_key h
 by_cases hk : kyV s x = kyV s y
 ·have := cmpVr_time h hk.symm
  have : tiV s x ≠ tiV s y := fun e => hn ⟨hk, e⟩
  exact .inr ⟨hk, by omega⟩
 ·refine .inl ?_
  have := rowsCmp_anti (kyV s y) (kyV s x)
  have : rowsCmp (kyV s y) (kyV s x) ≠ 0 := fun e => hk ((rowsCmp_zero _ _).1 e).symm
  omega

theorem mem_used {s : Sou} : ∀ {L : List Ver}, AscO (cmpVr s) L → Uq s L → ∀ u, u ∈ usedV s L ↔ RepOf s L u
 | [], _, _, u => by simp [usedV, RepOf]
 | v :: vs, ha, hu, u => by
  obtain ⟨a1, a2⟩ := List.pairwise_cons.1 ha
  have ih := mem_used a2 (fun x hx y hy => hu x (List.mem_cons_of_mem _ hx) y (List.mem_cons_of_mem _ hy)) u
  have hcons : u ∈ vs → (RepOf s (v :: vs) u ↔ RepOf s vs u) := fun hm => by
   constructor
   ·exact fun h => ⟨hm, fun w hw => h.2 w (List.mem_cons_of_mem _ hw)⟩
   ·refine fun h => ⟨List.mem_cons_of_mem _ hm, fun w hw k t => ?_⟩
    rcases List.mem_cons.1 hw with rfl | hw
    ·exact a1 u hm
    ·exact h.2 w hw k t
  rw [usedV]
  split
  ·rename_i hc
   rw [ih]
   constructor
   ·exact fun h => (hcons h.1).2 h
   ·intro h
    by_cases hm : u ∈ vs
    ·exact (hcons hm).1 h
    ·have e : u = v := (List.mem_cons.1 h.1).resolve_right hm
     subst e
     cases vs with
     | nil => simp at hc
     | cons x vs =>
      simp only [List.head?_cons, Option.any_some] at hc
      obtain ⟨a, b⟩ := sameKT_iff.1 hc
      have h1 := h.2 x (List.mem_cons_of_mem _ (List.mem_cons_self ..)) a.symm b.symm
      have h2 := a1 x (List.mem_cons_self ..)
      have h3 := (preC_V s).anti u x
      have := hu u (List.mem_cons_self ..) x (List.mem_cons_of_mem _ (List.mem_cons_self ..)) (by omega)
      subst this
      exact absurd (List.mem_cons_self ..) hm
  ·rename_i hc
   rw [List.mem_cons, ih]
   constructor
   ·rintro (rfl | h)
    ·refine ⟨List.mem_cons_self .., fun w hw k t => ?_⟩
     rcases List.mem_cons.1 hw with rfl | hw
     ·have := (preC_V s).anti w w; omega
     ·exfalso
      cases vs with
      | nil => cases hw
      | cons x vs =>
       refine hc ?_
       simp only [List.head?_cons, Option.any_some]
       have x1 := a1 x (List.mem_cons_self ..)
       have k1 := cmpVr_key x1
       rcases List.mem_cons.1 hw with rfl | hw
       ·exact sameKT_iff.2 ⟨k.symm, t.symm⟩
       ·have x2 := (List.pairwise_cons.1 a2).1 w hw
        have k2 := cmpVr_key x2
        rw [k] at k2
        have hk := key_le_antisymm k1 k2
        have t1 := cmpVr_time x1 hk
        have t2 := cmpVr_time x2 (k.trans hk.symm)
        exact sameKT_iff.2 ⟨hk.symm, by omega⟩
    ·exact (hcons h.1).2 h
   ·intro h
    by_cases hm : u ∈ vs
    ·exact .inr ((hcons hm).1 h)
    ·exact .inl ((List.mem_cons.1 h.1).resolve_right hm)

theorem used_lt {s : Sou} : ∀ {L : List Ver}, AscO (cmpVr s) L → Uq s L → (usedV s L).Pairwise (ltK s)
 | [], _, _ => List.Pairwise.nil
 | v :: vs, ha, hu => by
  obtain ⟨a1, a2⟩ := List.pairwise_cons.1 ha
  have hu2 : Uq s vs := fun x hx y hy => hu x (List.mem_cons_of_mem _ hx) y (List.mem_cons_of_mem _ hy)
  have ih := used_lt a2 hu2
  have hm := fun u => mem_used ha hu u
  rw [usedV] at hm ⊢
  split
  ·exact ih
  ·rename_i hc
   rw [if_neg hc] at hm
   refine List.pairwise_cons.2 ⟨fun w hw => ?_, ih⟩
   have hwv := (usedV_sub s vs).subset hw
   refine ltK_of (a1 w hwv) fun e => ?_
   have h1 := ((hm v).1 (List.mem_cons_self ..)).2 w (List.mem_cons_of_mem _ hwv) e.1.symm e.2.symm
   have h2 := a1 w hwv
   have h3 := (preC_V s).anti v w
   have := hu v (List.mem_cons_self ..) w (List.mem_cons_of_mem _ hwv) (by omega)
   subst this
   have h4 := (mem_used a2 hu2 v).1 hw
   cases vs with
   | nil => cases hwv
   | cons x vs =>
    refine hc ?_
    simp only [List.head?_cons, Option.any_some]
    have x1 := a1 x (List.mem_cons_self ..)
    rcases List.mem_cons.1 hwv with rfl | hw2
    ·exact sameKT_iff.2 ⟨rfl, rfl⟩
    ·have x2 := (List.pairwise_cons.1 a2).1 v hw2
     have x3 := (preC_V s).anti v x
     have := hu v (List.mem_cons_self ..) x (List.mem_cons_of_mem _ (List.mem_cons_self ..)) (by omega)
     subst this
     exact sameKT_iff.2 ⟨rfl, rfl⟩

theorem ltK_ne {s : Sou} {x y : Ver} (h : ltK s x y) : ¬ (kyV s x = kyV s y ∧ tiV s x = tiV s y) := by
 rintro ⟨h1, h2⟩
 rcases h with h | ⟨_, h⟩
 ·rw [(rowsCmp_zero _ _).2 h1] at h; omega
 ·omega

theorem endV_of {s : Sou} {v : Ver} {vs : List Ver} (h : (v :: vs).Pairwise (ltK s)) : EndOf s (v :: vs) v (endV s v vs) := by
 obtain ⟨a1, a2⟩ := List.pairwise_cons.1 h
 cases vs with
 | nil => exact .inl ⟨rfl, fun w hw _ => by rw [List.mem_singleton.1 hw]; exact Int.le_refl _⟩
 | cons x vs =>
  have hx := a1 x (List.mem_cons_self ..)
  show EndOf s (v :: x :: vs) v (if rowsCmp (keyV s v.rc.row) (keyV s x.rc.row) = 0 then tmV (timeV s x.rc) else zV)
  split
  ·rename_i hk
   have hk := (rowsCmp_zero _ _).1 hk
   have ht : tiV s v < tiV s x := by
    rcases hx with hx | hx
    ·rw [(rowsCmp_zero _ _).2 hk] at hx; omega
    ·exact hx.2
   refine .inr ⟨x, List.mem_cons_of_mem _ (List.mem_cons_self ..), hk.symm, ht, rfl, fun u hu ku tu => ?_⟩
   rcases List.mem_cons.1 hu with rfl | hu
   ·omega
   rcases List.mem_cons.1 hu with rfl | hu
   ·exact Int.le_refl _
   ·rcases (List.pairwise_cons.1 a2).1 u hu with g | g
    ·rw [(rowsCmp_zero _ _).2 (hk.symm.trans ku.symm)] at g; omega
    ·omega
  ·rename_i hk
   refine .inl ⟨rfl, fun w hw kw => ?_⟩
   rcases List.mem_cons.1 hw with rfl | hw
   ·exact Int.le_refl _
   exfalso
   have h1 : rowsCmp (kyV s v) (kyV s x) < 0 := by
    rcases hx with hx | hx
    ·exact hx
    ·exact absurd ((rowsCmp_zero _ _).2 hx.1) hk
   rcases List.mem_cons.1 hw with rfl | hw
   ·exact hk ((rowsCmp_zero _ _).2 kw.symm)
   ·have h3 := rowsCmp_anti (kyV s v) (kyV s x)
    rcases (List.pairwise_cons.1 a2).1 w hw with g | g
    ·rw [kw] at g; omega
    ·rw [show kyV s w = kyV s v from kw] at g
     exact hk ((rowsCmp_zero _ _).2 g.1.symm)

theorem EndOf.cons {s : Sou} {p v : Ver} {L : List Ver} {e : V} (hp : ltK s p v) : EndOf s (p :: L) v e ↔ EndOf s L v e := by
 have hpt : kyV s p = kyV s v → tiV s p < tiV s v := fun hk => by
  rcases hp with hp | hp
  ·rw [(rowsCmp_zero _ _).2 hk] at hp; omega
  ·exact hp.2
 constructor
 ·rintro (⟨rfl, h⟩ | ⟨w, hw, k, t, rfl, m⟩)
  ·exact .inl ⟨rfl, fun w hw => h w (List.mem_cons_of_mem _ hw)⟩
  ·rcases List.mem_cons.1 hw with rfl | hw
   ·have := hpt k; omega
   ·exact .inr ⟨w, hw, k, t, rfl, fun u hu => m u (List.mem_cons_of_mem _ hu)⟩
 ·rintro (⟨rfl, h⟩ | ⟨w, hw, k, t, rfl, m⟩)
  ·refine .inl ⟨rfl, fun w hw kw => ?_⟩
   rcases List.mem_cons.1 hw with rfl | hw
   ·have := hpt kw; omega
   ·exact h w hw kw
  ·refine .inr ⟨w, List.mem_cons_of_mem _ hw, k, t, rfl, fun u hu ku tu => ?_⟩
   rcases List.mem_cons.1 hu with rfl | hu
   ·have := hpt ku; omega
   ·exact m u hu ku tu

def ivE (s : Sou) (v : Ver) (e : V) : Ent := ⟨v.rc.row ++ [tmV (tiV s v), e], 1⟩

theorem mem_ivsG {s : Sou} : ∀ {U : List Ver}, U.Pairwise (ltK s) → ∀ e, e ∈ ivsG s U ↔ ∃ v ∈ U, v.rc.del = false ∧ ∃ en, EndOf s U v en ∧ e = ivE s v en
 | [], _, e => by simp [ivsG]
 | v :: vs, h, e => by
  obtain ⟨a1, a2⟩ := List.pairwise_cons.1 h
  have ih := mem_ivsG a2 e
  have hv := endV_of h
  have step : (∃ w ∈ vs, w.rc.del = false ∧ ∃ en, EndOf s (v :: vs) w en ∧ e = ivE s w en) ↔ e ∈ ivsG s vs := by
   rw [ih]
   constructor
   ·rintro ⟨w, hw, d, en, h1, h2⟩
    exact ⟨w, hw, d, en, (EndOf.cons (a1 w hw)).1 h1, h2⟩
   ·rintro ⟨w, hw, d, en, h1, h2⟩
    exact ⟨w, hw, d, en, (EndOf.cons (a1 w hw)).2 h1, h2⟩
  rw [ivsG]
  split
  ·rename_i hd
   rw [← step]
   constructor
   ·rintro ⟨w, hw, x⟩; exact ⟨w, List.mem_cons_of_mem _ hw, x⟩
   ·rintro ⟨w, hw, d, x⟩
    rcases List.mem_cons.1 hw with rfl | hw
    ·rw [hd] at d; cases d
    ·exact ⟨w, hw, d, x⟩
  ·rename_i hd
   rw [List.mem_cons, ← step]
   constructor
   ·rintro (rfl | ⟨w, hw, x⟩)
    ·exact ⟨v, List.mem_cons_self .., by simpa using hd, _, hv, rfl⟩
    ·exact ⟨w, List.mem_cons_of_mem _ hw, x⟩
   ·rintro ⟨w, hw, d, en, x, y⟩
    rcases List.mem_cons.1 hw with rfl | hw
    ·rw [EndOf.uniq x hv] at y; exact .inl y
    ·exact .inr ⟨w, hw, d, en, x, y⟩

theorem RepOf.perm {s : Sou} {L M : List Ver} (h : ∀ w, w ∈ L ↔ w ∈ M) (v : Ver) : RepOf s L v ↔ RepOf s M v := by
 unfold RepOf
 rw [h]
 exact ⟨fun x => ⟨x.1, fun w hw => x.2 w ((h w).2 hw)⟩, fun x => ⟨x.1, fun w hw => x.2 w ((h w).1 hw)⟩⟩

theorem srtV_mem (s : Sou) (L : List Ver) (w : Ver) : w ∈ srtV s L ↔ w ∈ L := (isort_perm _).mem_iff

theorem srtV_asc (s : Sou) (L : List Ver) : AscO (cmpVr s) (srtV s L) := isort_asc (orders_V s) L

theorem srtV_uq {s : Sou} {L : List Ver} (h : Uq s L) : Uq s (srtV s L) := fun x hx y hy => h x ((srtV_mem s L x).1 hx) y ((srtV_mem s L y).1 hy)

theorem mem_ivs {s : Sou} {L : List Ver} (hu : Uq s L) (e : Ent) : e ∈ ivsV s L ↔ ∃ v, RepOf s L v ∧ v.rc.del = false ∧ ∃ en, EndOf s L v en ∧ e = ivE s v en := by
 have h1 := used_lt (srtV_asc s L) (srtV_uq hu)
 have h2 := fun u => mem_used (srtV_asc s L) (srtV_uq hu) u
 have h3 := used_rep s (srtV s L)
 have e1 : ∀ v en, EndOf s (usedV s (srtV s L)) v en ↔ EndOf s L v en := fun v en => by
  constructor
  ·intro h
   refine h.congr (fun w hw => ⟨w, (srtV_mem s L w).1 ((usedV_sub s _).subset hw), rfl, rfl⟩) fun w hw => h3 w ((srtV_mem s L w).2 hw)
  ·intro h
   refine h.congr (fun w hw => h3 w ((srtV_mem s L w).2 hw)) fun w hw => ⟨w, (srtV_mem s L w).1 ((usedV_sub s _).subset hw), rfl, rfl⟩
 rw [ivsV, srtE, (isort_perm _).mem_iff, mem_ivsG h1]
 constructor
 ·rintro ⟨v, hv, d, en, x, y⟩
  exact ⟨v, (RepOf.perm (srtV_mem s L) v).1 ((h2 v).1 hv), d, en, (e1 v en).1 x, y⟩
 ·rintro ⟨v, hv, d, en, x, y⟩
  exact ⟨v, (h2 v).2 ((RepOf.perm (srtV_mem s L) v).2 hv), d, en, (e1 v en).2 x, y⟩

theorem ivE_inj {s : Sou} {v w : Ver} {e f : V} (hv : v.rc.row.length = s.cols.length) (hw : w.rc.row.length = s.cols.length) (h : (ivE s v e).row = (ivE s w f).row) : v.rc.row = w.rc.row ∧ tiV s v = tiV s w ∧ e = f := by
 obtain ⟨h1, h2⟩ := List.append_inj h (hv.trans hw.symm)
 simp only [tmV, List.cons.injEq, V.mk.injEq, and_true, true_and] at h2
 exact ⟨h1, h2.1, h2.2⟩

theorem srt_of_asc {l : List Ent} (h : AscO cmpE l) (hn : l.Pairwise fun a b => a.row ≠ b.row) : Srt l := by
 refine (List.pairwise_and_iff.2 ⟨h, hn⟩).imp ?_
 rintro a b ⟨h1, h2⟩
 have h3 := rowsCmp_anti a.row b.row
 have h4 : rowsCmp b.row a.row ≠ 0 := fun e => h2 ((rowsCmp_zero _ _).1 e).symm
 unfold cmpE at h1
 omega

theorem ivsG_ne {s : Sou} : ∀ {U : List Ver}, U.Pairwise (ltK s) → (∀ v ∈ U, v.rc.row.length = s.cols.length) → (ivsG s U).Pairwise fun a b => a.row ≠ b.row
 | [], _, _ => List.Pairwise.nil
 | v :: vs, h, hl => by
  obtain ⟨a1, a2⟩ := List.pairwise_cons.1 h
  have ih := ivsG_ne a2 fun w hw => hl w (List.mem_cons_of_mem _ hw)
  rw [ivsG]
  split
  ·exact ih
  ·refine List.pairwise_cons.2 ⟨fun e he hr => ?_, ih⟩
   obtain ⟨w, hw, _, en, _, rfl⟩ := (mem_ivsG a2 e).1 he
   obtain ⟨x, y, _⟩ := ivE_inj (e := endV s v vs) (f := en) (hl v (List.mem_cons_self ..)) (hl w (List.mem_cons_of_mem _ hw)) hr
   exact ltK_ne (a1 w hw) ⟨congrArg (keyV s) x, y⟩

theorem pw_perm {l m : List Ent} (hp : l.Perm m) (h : l.Pairwise fun a b => a.row ≠ b.row) : m.Pairwise fun a b => a.row ≠ b.row :=
 hp.pairwise h fun {a b} h e => h e.symm

theorem srt_ivs {s : Sou} {L : List Ver} (hok : ∀ v ∈ L, okV s v) (hu : Uq s L) : Srt (ivsV s L) := by
 refine srt_of_asc (isort_asc orders_E _) (pw_perm (isort_perm _).symm (ivsG_ne (used_lt (srtV_asc s L) (srtV_uq hu)) fun v hv => ?_))
 exact fits_len (hok v ((srtV_mem s L v).1 ((usedV_sub s _).subset hv)))

theorem srt_ext : ∀ {a b : List Ent}, Srt a → Srt b → (∀ e, e ∈ a ↔ e ∈ b) → a = b
 | [], [], _, _, _ => rfl
 | [], y :: b, _, _, h => absurd ((h y).2 (List.mem_cons_self ..)) (by simp)
 | x :: a, [], _, _, h => absurd ((h x).1 (List.mem_cons_self ..)) (by simp)
 | x :: a, y :: b, ha, hb, h => by
  obtain ⟨a1, a2⟩ := List.pairwise_cons.1 ha
  obtain ⟨b1, b2⟩ := List.pairwise_cons.1 hb
  have hxy : x = y := by
   rcases List.mem_cons.1 ((h x).1 (List.mem_cons_self ..)) with e | hx
   ·exact e
   rcases List.mem_cons.1 ((h y).2 (List.mem_cons_self ..)) with e | hy
   ·exact e.symm
   have h1 := a1 y hy
   have h2 := b1 x hx
   have h3 := rowsCmp_anti x.row y.row
   omega
  subst hxy
  rw [srt_ext a2 b2 fun e => ?_]
  have hirr : ∀ z : Ent, ¬ rowsCmp z.row z.row < 0 := fun z => by rw [(rowsCmp_zero _ _).2 rfl]; omega
  constructor
  ·intro he
   rcases List.mem_cons.1 ((h e).1 (List.mem_cons_of_mem _ he)) with rfl | x
   ·exact absurd (a1 e he) (hirr e)
   ·exact x
  ·intro he
   rcases List.mem_cons.1 ((h e).2 (List.mem_cons_of_mem _ he)) with rfl | x
   ·exact absurd (b1 e he) (hirr e)
   ·exact x

end Go.AW

namespace Go.AW
variable [Draws]
inductive RenN (σ : Nat → Nat) : AVal → AVal → Prop where
 | closed (v : AVal) (h : v.closed = true) : RenN σ v v
 | sl (id ep off len : Nat) : RenN σ (.sl id ep off len) (.sl (σ id) ep off len)
 | ptr (id ep idx fld : Nat) : RenN σ (.ptr id ep idx fld) (.ptr (σ id) ep idx fld)
 | mp (id : Nat) : RenN σ (.mp id) (.mp (σ id))
 | it (id : Nat) : RenN σ (.it id) (.it (σ id))
 | agg (vs rs : List AVal) (hl : vs.length = rs.length) (h : ∀ (i : Nat) (v r : AVal), vs[i]? = some v → rs[i]? = some r → RenN σ v r) : RenN σ (.agg vs) (.agg rs)
 | tuple (vs rs : List AVal) (hl : vs.length = rs.length) (h : ∀ (i : Nat) (v r : AVal), vs[i]? = some v → rs[i]? = some r → RenN σ v r) : RenN σ (.tuple vs) (.tuple rs)
 | fn (f : FuncId) (vs rs : List AVal) (hl : vs.length = rs.length) (h : ∀ (i : Nat) (v r : AVal), vs[i]? = some v → rs[i]? = some r → RenN σ v r) : RenN σ (.fn f vs) (.fn f rs)

theorem RenN.cell {σ : Nat → Nat} {a b : AVal} (h : RenN σ a b) : a.isCell = b.isCell := by cases h <;> rfl

inductive RenNO (σ : Nat → Nat) : AObj → AObj → Prop where
 | arr (esz : Nat) (es es1 : List (List AVal)) (hl : es1.length = es.length) (hl2 : ∀ (i : Nat) (e e1 : List AVal), es[i]? = some e → es1[i]? = some e1 → e1.length = e.length)
   (h : ∀ (i j : Nat) (e e1 : List AVal) (d d1 : AVal), es[i]? = some e → es1[i]? = some e1 → e[j]? = some d → e1[j]? = some d1 → RenN σ d d1) :
   RenNO σ (.arr esz es) (.arr esz es1)
 | iter (s : ByteArray) (p : Nat) : RenNO σ (.iter s p) (.iter s p)
 | map (kvs kvs1 : List (AVal × AVal)) (hl : kvs1.length = kvs.length) (h : ∀ (i : Nat) (e e1 : AVal × AVal), kvs[i]? = some e → kvs1[i]? = some e1 → e1.1 = e.1 ∧ RenN σ e.2 e1.2) : RenNO σ (.map kvs) (.map kvs1)

theorem AVal.closed_of_pure {v : AVal} (h : v.isPure = true) : v.closed = true := by cases v <;> first | rfl | exact h | (simp [AVal.isPure] at h)

theorem RenNO.same {σ : Nat → Nat} {o : AObj} (h : o.clean = true) : RenNO σ o o := by
 cases o with
 | arr esz es => exact .arr esz es es rfl (fun i e e1 h1 h2 => by rw [h1] at h2; cases h2; rfl) fun i j e e1 d d1 h1 h2 h3 h4 => (by
   rw [h1] at h2; cases h2; rw [h3] at h4; cases h4; exact .closed _ (AVal.closed_of_pure (pureEs_get h h1 h3)))
 | iter s p => exact .iter s p
 | map kvs => exact .map kvs kvs rfl fun i e e1 h1 h2 => (by rw [h1] at h2; cases h2; exact ⟨rfl, .closed _ (AVal.closed_of_pure (pureKvs_get h h1))⟩)

theorem RenNO.after {σ : Nat → Nat} {o o0 o1 : AObj} {t t' : Option Loc} (h : RenNO σ o0 o1) (ha : o.after o0 t t') : o.after o1 t t' := by
 cases h with
 | iter => exact ha
 | arr esz es es1 hl _ _ =>
  cases o with
  | iter _ _ => exact ha
  | map _ => exact ha
  | arr z es0 => exact ⟨ha.1, by rw [hl]; exact ha.2.1, by rw [hl]; exact ha.2.2⟩
 | map => cases o <;> exact ha

theorem RenNO.afterL {σ : Nat → Nat} {o o0 o1 : AObj} {t t' : Option Loc} (h : RenNO σ o0 o1) (ha : o0.after o t t') : o1.after o t t' := by
 cases h with
 | iter => exact ha
 | arr esz es es1 hl _ _ =>
  cases o with
  | iter _ _ => exact ha
  | map _ => exact ha
  | arr z es0 => exact ⟨ha.1, by rw [hl]; exact ha.2.1, by rw [hl]; exact ha.2.2⟩
 | map => cases o <;> exact ha

theorem RenNO.ok {σ : Nat → Nat} {o0 o1 : AObj} (h : RenNO σ o0 o1) (ho : o0.ok) : o1.ok := by
 cases h with
 | iter => exact ho
 | map => exact ho
 | arr esz es es1 hl hl2 hp =>
  intro e1 he1
  obtain ⟨n, hn⟩ := List.getElem?_of_mem he1
  have hnl := (List.getElem?_eq_some_iff.1 hn).1
  have he : es[n]? = some es[n] := List.getElem?_eq_getElem (by omega)
  obtain ⟨g1, g2⟩ := ho _ (List.mem_of_getElem? he)
  refine ⟨(hl2 n _ _ he hn).trans g1, fun d1 hd1 => ?_⟩
  obtain ⟨j, hj⟩ := List.getElem?_of_mem hd1
  have hjl := (List.getElem?_eq_some_iff.1 hj).1
  have := hl2 n _ _ he hn
  have hd : es[n][j]? = some es[n][j] := List.getElem?_eq_getElem (by omega)
  rw [← (hp n j _ _ _ d1 he hn hd hj).cell]
  exact g2 _ (List.mem_of_getElem? hd)

theorem RenNO.okL {σ : Nat → Nat} {o0 o1 : AObj} (h : RenNO σ o0 o1) (ho : o1.ok) : o0.ok := by
 cases h with
 | iter => exact ho
 | map => exact ho
 | arr esz es es1 hl hl2 hp =>
  intro e he
  obtain ⟨n, hn⟩ := List.getElem?_of_mem he
  have hnl := (List.getElem?_eq_some_iff.1 hn).1
  have he1 : es1[n]? = some es1[n] := List.getElem?_eq_getElem (by omega)
  obtain ⟨g1, g2⟩ := ho _ (List.mem_of_getElem? he1)
  have hle := hl2 n _ _ hn he1
  refine ⟨by omega, fun d hd => ?_⟩
  obtain ⟨j, hj⟩ := List.getElem?_of_mem hd
  have hjl := (List.getElem?_eq_some_iff.1 hj).1
  have hd1 : es1[n][j]? = some es1[n][j] := List.getElem?_eq_getElem (by omega)
  rw [(hp n j _ _ d _ hn he1 hj hd1).cell]
  exact g2 _ (List.mem_of_getElem? hd1)

section
variable {P : Program} {C C' : Nat → Nat} {τ τ' : Nat → Option Loc} {H H' : List AObj} {w w' : World}
structure SameAt (σ : Nat → Nat) (τ : Nat → Option Loc) (H : List AObj) (τ' : Nat → Option Loc) (H' : List AObj) : Prop where
 obj : ∀ (k : Nat) (x : AObj), H[k]? = some x → ∃ y, H'[σ k]? = some y ∧ RenNO σ x y
 loc : ∀ (k : Nat), k < H.length → τ' (σ k) = τ k

theorem RenN.rel {σ : Nat → Nat} {a b : AVal} (h : RenN σ a b) (s : SameAt σ τ H τ' H') : ∀ {u : Value}, Rel C w τ H a u → Rel C w τ' H' b u := by
 have lt : ∀ {k : Nat} {x : AObj}, H[k]? = some x → k < H.length := fun h => (List.getElem?_eq_some_iff.1 h).1
 induction h with
 | closed v h => intro u hu; exact hu.closed h (fun _ => Nat.le_refl _) (fun _ _ _ => rfl)
 | sl k ep off len =>
  intro u hu
  cases hu with
  | rd h => cases h
  | sl _ _ _ _ a cap esz es ho hep h3 =>
   obtain ⟨y, hy, hry⟩ := s.obj k _ ho
   cases hry with
   | arr _ _ es1 hl1 _ _ => exact .sl _ ep off len a cap esz es1 hy (by omega) fun e => by rw [s.loc k (lt ho), hl1]; exact h3 (by omega)
 | ptr k ep idx fld =>
  intro u hu
  cases hu with
  | rd h => cases h
  | ptr _ _ _ _ a esz es ho hep h3 =>
   obtain ⟨y, hy, hry⟩ := s.obj k _ ho
   cases hry with
   | arr _ _ es1 hl1 _ _ => exact .ptr _ ep idx fld a esz es1 hy (by omega) fun e => by rw [s.loc k (lt ho)]; exact h3 (by omega)
 | mp k =>
  intro u hu
  cases hu with
  | rd h => cases h
  | mp _ kvs l ho ht =>
   obtain ⟨y, hy, hry⟩ := s.obj k _ ho
   cases hry with
   | map _ kvs1 => exact .mp _ kvs1 l hy (by rw [s.loc k (lt ho)]; exact ht)
 | it k =>
  intro u hu
  cases hu with
  | rd h => cases h
  | it _ s0 pos l ho ht =>
   obtain ⟨y, hy, hry⟩ := s.obj k _ ho
   cases hry with
   | iter => exact .it _ s0 pos l hy (by rw [s.loc k (lt ho)]; exact ht)
 | agg vs rs hl h ih =>
  intro u hu
  obtain ⟨us, rfl, hl2, hr2⟩ := hu.agg_inv
  refine .agg _ _ (by omega) fun i c v hc hv => ?_
  have hi := (List.getElem?_eq_some_iff.1 hc).1
  have hvi : vs[i]? = some vs[i] := List.getElem?_eq_getElem (by omega)
  exact ih i _ c hvi hc (hr2 i _ v hvi hv)
 | tuple vs rs hl h ih =>
  intro u hu
  obtain ⟨us, rfl, hl2, hr2⟩ := hu.tuple_inv
  refine .tuple _ _ (by omega) fun i c v hc hv => ?_
  have hi := (List.getElem?_eq_some_iff.1 hc).1
  have hvi : vs[i]? = some vs[i] := List.getElem?_eq_getElem (by omega)
  exact ih i _ c hvi hc (hr2 i _ v hvi hv)
 | fn f vs rs hl h ih =>
  intro u hu
  cases hu with
  | rd h0 =>
   cases h0
   have : rs = [] := List.eq_nil_of_length_eq_zero (by simpa using hl.symm)
   subst this
   exact .rd (.fn f)
  | fn _ _ us hl2 hr2 =>
   refine .fn _ _ _ (by omega) fun i c v hc hv => ?_
   have hi := (List.getElem?_eq_some_iff.1 hc).1
   have hvi : vs[i]? = some vs[i] := List.getElem?_eq_getElem (by omega)
   exact ih i _ c hvi hc (hr2 i _ v hvi hv)

theorem RenN.relL {σ : Nat → Nat} {a b : AVal} (h : RenN σ a b) (hb : ∀ (k : Nat) (y : AObj), H'[σ k]? = some y → ∃ x, H[k]? = some x ∧ RenNO σ x y ∧ τ' (σ k) = τ k) : ∀ {u : Value}, Rel C w τ' H' b u → Rel C w τ H a u := by
 induction h with
 | closed v h => intro u hu; exact hu.closed h (fun _ => Nat.le_refl _) (fun _ _ _ => rfl)
 | sl k ep off len =>
  intro u hu
  cases hu with
  | rd h => cases h
  | sl _ _ _ _ a cap esz es ho hep h3 =>
   obtain ⟨x, hx, hrx, ht⟩ := hb k _ ho
   cases hrx with
   | arr _ es0 _ hl1 _ _ => exact .sl _ ep off len a cap esz es0 hx (by omega) fun e => by rw [← ht, ← hl1]; exact h3 (by omega)
 | ptr k ep idx fld =>
  intro u hu
  cases hu with
  | rd h => cases h
  | ptr _ _ _ _ a esz es ho hep h3 =>
   obtain ⟨x, hx, hrx, ht⟩ := hb k _ ho
   cases hrx with
   | arr _ es0 _ hl1 _ _ => exact .ptr _ ep idx fld a esz es0 hx (by omega) fun e => by rw [← ht]; exact h3 (by omega)
 | mp k =>
  intro u hu
  cases hu with
  | rd h => cases h
  | mp _ kvs l ho ht0 =>
   obtain ⟨x, hx, hrx, ht⟩ := hb k _ ho
   cases hrx with
   | map kvs0 _ => exact .mp _ kvs0 l hx (by rw [← ht]; exact ht0)
 | it k =>
  intro u hu
  cases hu with
  | rd h => cases h
  | it _ s0 pos l ho ht0 =>
   obtain ⟨x, hx, hrx, ht⟩ := hb k _ ho
   cases hrx with
   | iter => exact .it _ s0 pos l hx (by rw [← ht]; exact ht0)
 | agg vs rs hl h ih =>
  intro u hu
  obtain ⟨us, rfl, hl2, hr2⟩ := hu.agg_inv
  refine .agg _ _ (by omega) fun i c v hc hv => ?_
  have hi := (List.getElem?_eq_some_iff.1 hc).1
  have hvi : rs[i]? = some rs[i] := List.getElem?_eq_getElem (by omega)
  exact ih i c _ hc hvi (hr2 i _ v hvi hv)
 | tuple vs rs hl h ih =>
  intro u hu
  obtain ⟨us, rfl, hl2, hr2⟩ := hu.tuple_inv
  refine .tuple _ _ (by omega) fun i c v hc hv => ?_
  have hi := (List.getElem?_eq_some_iff.1 hc).1
  have hvi : rs[i]? = some rs[i] := List.getElem?_eq_getElem (by omega)
  exact ih i c _ hc hvi (hr2 i _ v hvi hv)
 | fn f vs rs hl h ih =>
  intro u hu
  cases hu with
  | rd h0 =>
   cases h0
   have : vs = [] := List.eq_nil_of_length_eq_zero (by simpa using hl)
   subst this
   exact .rd (.fn f)
  | fn _ _ us hl2 hr2 =>
   refine .fn _ _ _ (by omega) fun i c v hc hv => ?_
   have hi := (List.getElem?_eq_some_iff.1 hc).1
   have hvi : rs[i]? = some rs[i] := List.getElem?_eq_getElem (by omega)
   exact ih i c _ hc hvi (hr2 i _ v hvi hv)

theorem RenNO.at {σ : Nat → Nat} {x y : AObj} {l : Loc} (h : RenNO σ x y) (s : SameAt σ τ H τ' H') (ho : ObjAt C w τ H l x) : ObjAt C w τ' H' l y := by
 cases h with
 | iter => exact ho
 | map kvs kvs1 hl hp =>
  obtain ⟨es, clock, a1, a2, a3⟩ := ho
  refine ⟨es, clock, a1, by omega, fun i e kv he hkv => ?_⟩
  have hi := (List.getElem?_eq_some_iff.1 hkv).1
  have h0 : kvs[i]? = some kvs[i] := List.getElem?_eq_getElem (by omega)
  obtain ⟨g1, g2⟩ := hp i _ kv h0 hkv
  obtain ⟨g3, g4⟩ := a3 i e _ he h0
  exact ⟨by rw [g1]; exact g3, g2.rel s g4⟩
 | arr esz es es1 hl hl2 hp =>
  obtain ⟨a1, cells, elem, fz, a2, a3, a4, a5⟩ := ho
  refine ⟨by omega, cells, elem, fz, a2, a3, a4, fun i j e1 d1 hi hd => ?_⟩
  have hil := (List.getElem?_eq_some_iff.1 hi).1
  have hjl := (List.getElem?_eq_some_iff.1 hd).1
  have he : es[i]? = some es[i] := List.getElem?_eq_getElem (by omega)
  have hl3 := hl2 i _ _ he hi
  have hd0 : es[i][j]? = some es[i][j] := List.getElem?_eq_getElem (by omega)
  obtain ⟨v, hx1, hx2⟩ := a5 i j _ _ he hd0
  exact ⟨v, hx1, (hp i j _ _ _ d1 he hi hd0 hd).rel s hx2⟩

theorem RenNO.atL {σ : Nat → Nat} {x y : AObj} {l : Loc} (h : RenNO σ x y) (hb : ∀ (k : Nat) (y : AObj), H'[σ k]? = some y → ∃ x, H[k]? = some x ∧ RenNO σ x y ∧ τ' (σ k) = τ k) (ho : ObjAt C w τ' H' l y) : ObjAt C w τ H l x := by
 cases h with
 | iter => exact ho
 | map kvs kvs1 hl hp =>
  obtain ⟨es, clock, a1, a2, a3⟩ := ho
  refine ⟨es, clock, a1, by omega, fun i e kv he hkv => ?_⟩
  have hi := (List.getElem?_eq_some_iff.1 hkv).1
  have h0 : kvs1[i]? = some kvs1[i] := List.getElem?_eq_getElem (by omega)
  obtain ⟨g1, g2⟩ := hp i kv _ hkv h0
  obtain ⟨g3, g4⟩ := a3 i e _ he h0
  exact ⟨by rw [← g1]; exact g3, g2.relL hb g4⟩
 | arr esz es es1 hl hl2 hp =>
  obtain ⟨a1, cells, elem, fz, a2, a3, a4, a5⟩ := ho
  refine ⟨by omega, cells, elem, fz, a2, a3, a4, fun i j e d hi hd => ?_⟩
  have hil := (List.getElem?_eq_some_iff.1 hi).1
  have hjl := (List.getElem?_eq_some_iff.1 hd).1
  have he : es1[i]? = some es1[i] := List.getElem?_eq_getElem (by omega)
  have hl3 := hl2 i _ _ hi he
  have hd0 : es1[i][j]? = some es1[i][j] := List.getElem?_eq_getElem (by omega)
  obtain ⟨v, hx1, hx2⟩ := a5 i j _ _ he hd0
  exact ⟨v, hx1, (hp i j _ _ d _ hi he hd hd0).relL hb hx2⟩

def frM (ids : List Nat) (n : Nat) (k : Nat) : Nat := match ids[k]? with
 | some id => id
 | none => n + (k - ids.length)

theorem frM_lt {ids : List Nat} {n k id : Nat} (h : ids[k]? = some id) : frM ids n k = id := by unfold frM; rw [h]

theorem frM_ge {ids : List Nat} {n k : Nat} (h : ids.length ≤ k) : frM ids n k = n + (k - ids.length) := by unfold frM; rw [List.getElem?_eq_none h]

theorem ACalls.frameN {f : FuncId} {args0 args : List AVal} {Q0 Q : AVal → List AObj → Prop} {H0 : List AObj} (ids : List Nat) (hnd : ids.Nodup) (hlen : ids.length = H0.length)
  (hobj : ∀ (k id : Nat) (x : AObj), ids[k]? = some id → H0[k]? = some x → ∃ y, H[id]? = some y ∧ RenNO (frM ids H.length) x y)
  (hal : args0.length = args.length) (ha : ∀ (i : Nat) (a b : AVal), args0[i]? = some a → args[i]? = some b → RenN (frM ids H.length) a b)
  (h : ACalls P f args0 H0 Q0)
  (hq : ∀ r H1, Q0 r H1 → ids.length ≤ H1.length → ∃ r' H2, RenN (frM ids H.length) r r' ∧ H2.length = H.length + (H1.length - ids.length) ∧
   (∀ (k : Nat) (x : AObj), H1[k]? = some x → ∃ y, H2[frM ids H.length k]? = some y ∧ RenNO (frM ids H.length) x y) ∧ (∀ j, j < H.length → j ∉ ids → H2[j]? = H[j]?) ∧ Q r' H2) : ACalls P f args H Q := by
 intro C τ w vs hw hl hr
 have σlt : ∀ {k id : Nat}, ids[k]? = some id → frM ids H.length k = id := fun h => frM_lt h
 have idlt : ∀ {k id : Nat}, ids[k]? = some id → id < H.length := fun {k id} hk => by
  have hk0 : k < H0.length := by have := (List.getElem?_eq_some_iff.1 hk).1; omega
  obtain ⟨y, hy, _⟩ := hobj k id _ hk (List.getElem?_eq_getElem hk0)
  exact (List.getElem?_eq_some_iff.1 hy).1
 have idget : ∀ {k : Nat}, k < ids.length → ids[k]? = some (frM ids H.length k) := fun {k} hk => by
  have h1 : ids[k]? = some ids[k] := List.getElem?_eq_getElem hk
  rw [frM_lt h1]; exact h1
 have σinj : ∀ k k', frM ids H.length k = frM ids H.length k' → k = k' := fun k k' e => by
  rcases Nat.lt_or_ge k ids.length with a | a <;> rcases Nat.lt_or_ge k' ids.length with b | b
  ·have h1 := idget a
   have h2 := idget b
   rw [← e] at h2
   obtain ⟨_, e1⟩ := List.getElem?_eq_some_iff.1 h1
   obtain ⟨_, e2⟩ := List.getElem?_eq_some_iff.1 h2
   have hne := List.pairwise_iff_getElem.1 hnd
   rcases Nat.lt_trichotomy k k' with h3 | h3 | h3
   ·exact absurd (e1.trans e2.symm) (hne k k' a b h3)
   ·exact h3
   ·exact absurd (e2.trans e1.symm) (hne k' k b a h3)
  ·have := idlt (idget a); rw [e, frM_ge b] at this; omega
  ·have := idlt (idget b); rw [← e, frM_ge a] at this; omega
  ·rw [frM_ge a, frM_ge b] at e; omega
 let τ0 : Nat → Option Loc := fun k => if k < ids.length then τ (frM ids H.length k) else none
 have t00 : ∀ {k}, k < ids.length → τ0 k = τ (frM ids H.length k) := fun {k} hk => by simp only [τ0, if_pos hk]
 have hbk : ∀ (k : Nat) (y : AObj), H[frM ids H.length k]? = some y → ∃ x, H0[k]? = some x ∧ RenNO (frM ids H.length) x y ∧ τ (frM ids H.length k) = τ0 k := fun k y hy => by
  have hk : k < ids.length := by
   rcases Nat.lt_or_ge k ids.length with a | a
   ·exact a
   ·rw [frM_ge a] at hy; have := (List.getElem?_eq_some_iff.1 hy).1; omega
  have hx : H0[k]? = some H0[k] := List.getElem?_eq_getElem (by omega)
  obtain ⟨y', hy', hr'⟩ := hobj k _ _ (idget hk) hx
  rw [hy] at hy'; cases hy'
  exact ⟨_, hx, hr', (t00 hk).symm⟩
 have hfw : ∀ {k : Nat} {x : AObj}, H0[k]? = some x → k < ids.length ∧ ∃ y, H[frM ids H.length k]? = some y ∧ RenNO (frM ids H.length) x y := fun {k x} hx => by
  have hk : k < ids.length := by have := (List.getElem?_eq_some_iff.1 hx).1; omega
  exact ⟨hk, hobj k _ _ (idget hk) hx⟩
 have hw0 : WF C τ0 H0 w := by
  refine ⟨fun k x h => ?_, fun k x h ht => ?_, fun k x l h ht => ?_, fun k l hk ht => ?_, fun i j li lj hi hj h1 h2 h3 => ?_, hw.lt⟩
  ·obtain ⟨hk, y, hy, hry⟩ := hfw h
   exact hry.okL (hw.ok _ y hy)
  ·obtain ⟨hk, y, hy, hry⟩ := hfw h
   rw [t00 hk] at ht
   obtain ⟨esz, rfl⟩ := hw.virt _ y hy ht
   cases hry with
   | arr _ es0 _ hl1 => exact ⟨esz, by rw [List.length_eq_zero_iff.1 (show es0.length = 0 by simpa using hl1.symm)]⟩
  ·obtain ⟨hk, y, hy, hry⟩ := hfw h
   rw [t00 hk] at ht
   exact hry.atL hbk (hw.objs _ y l hy ht)
  ·have hk2 : k < ids.length := by omega
   rw [t00 hk2] at ht
   exact hw.comm _ l (idlt (idget hk2)) ht
  ·have a : i < ids.length := by omega
   have b : j < ids.length := by omega
   rw [t00 a] at h1; rw [t00 b] at h2
   exact σinj _ _ (hw.inj _ _ li lj (idlt (idget a)) (idlt (idget b)) h1 h2 h3)
 have hr0 : ∀ (i : Nat) (a : AVal) (v : Value), args0[i]? = some a → vs[i]? = some v → Rel C w τ0 H0 a v := fun i a v h1 h2 => by
  have hi := (List.getElem?_eq_some_iff.1 h1).1
  have hb : args[i]? = some args[i] := List.getElem?_eq_getElem (by omega)
  exact (ha i a _ h1 hb).relL hbk (hr i _ v hb h2)
 have hc := h C τ0 w vs hw0 (by omega) hr0
 have hown : ∀ b, Owned τ0 H0 b → ∃ k l, k < ids.length ∧ τ (frM ids H.length k) = some l ∧ l.b = b := fun b => by
  rintro ⟨k, l, hk, ht, hb⟩
  have hk2 : k < ids.length := by omega
  rw [t00 hk2] at ht
  exact ⟨k, l, hk2, ht, hb⟩
 have fin : ∀ (e : Ending) (w' : World), (∃ v r C' τ' H', e = .returned v ∧ Q0 r H' ∧ Rel C' w' τ' H' r v ∧ St w (PrCall τ0 H0 w) C' τ' H' w' ∧ Step C τ0 H0 w C' τ' H' w') →
   ∃ v r C' τ' H', e = .returned v ∧ Q r H' ∧ Rel C' w' τ' H' r v ∧ St w (PrCall τ H w) C' τ' H' w' ∧ Step C τ H w C' τ' H' w' := by
  rintro e w' ⟨v, r, C1, τ1, H1, he, hq0, hrel, hst, hstep⟩
  have hge : ids.length ≤ H1.length := by
   rcases Nat.eq_zero_or_pos ids.length with h0 | h0
   ·omega
   ·obtain ⟨o', h1, _⟩ := hstep.obj (ids.length - 1) _ (List.getElem?_eq_getElem (show ids.length - 1 < H0.length by omega))
    have := (List.getElem?_eq_some_iff.1 h1).1; omega
  obtain ⟨r', H2, hrr, hH2, hG, hoth, hQ⟩ := hq r H1 hq0 hge
  
  have hpr : ∀ j l, j < H.length → j ∉ ids → τ j = some l → PrCall τ0 H0 w l.b := fun j l hj hne ht =>
   ⟨hw.locLt hj ht, fun ho => by
    obtain ⟨k, l', hk, ht', hb⟩ := hown _ ho
    have := hw.inj j _ l l' hj (idlt (idget hk)) ht ht' hb.symm
    exact hne (this ▸ List.mem_of_getElem? (idget hk))⟩
  have hheap : ∀ j l, j < H.length → j ∉ ids → τ j = some l → w'.heap[l.b]? = w.heap[l.b]? := fun j l hj hne ht => hst.fr.prot _ (hpr j l hj hne ht)
  
  have split : ∀ i, i < H2.length → (i < H.length ∧ i ∉ ids) ∨ ∃ k, i = frM ids H.length k ∧ k < H1.length := fun i hi => by
   rcases Nat.lt_or_ge i H.length with h1 | h1
   ·by_cases h2 : i ∈ ids
    ·obtain ⟨k, hk⟩ := List.getElem?_of_mem h2
     exact .inr ⟨k, (frM_lt hk).symm, by have := (List.getElem?_eq_some_iff.1 hk).1; omega⟩
    ·exact .inl ⟨h1, h2⟩
   ·exact .inr ⟨ids.length + (i - H.length), by rw [frM_ge (by omega)]; omega, by omega⟩
  have notboth : ∀ {i k}, i < H.length → i ∉ ids → i ≠ frM ids H.length k := fun {i k} h1 h2 e => by
   rcases Nat.lt_or_ge k ids.length with a | a
   ·exact h2 (e ▸ List.mem_of_getElem? (idget a))
   ·rw [frM_ge a] at e; omega
  let τ2 : Nat → Option Loc := fun i => if i < H.length then (match ids.idxOf? i with
   | some k => τ1 k
   | none => τ i) else τ1 (ids.length + (i - H.length))
  have tF : ∀ k, τ2 (frM ids H.length k) = τ1 k := fun k => by
   rcases Nat.lt_or_ge k ids.length with a | a
   ·have h1 := idget a
    have h2 : ids.idxOf? (frM ids H.length k) = some k := by
     rcases hx : ids.idxOf? (frM ids H.length k) with _ | k'
     ·rw [List.idxOf?_eq_none_iff] at hx
      exact absurd (List.mem_of_getElem? h1) hx
     ·obtain ⟨hk', e', _⟩ := List.idxOf?_eq_some_iff.1 hx
      have hee : ids[k']? = some (frM ids H.length k) := by rw [List.getElem?_eq_getElem hk', e']
      rw [σinj k k' (by rw [frM_lt hee])]
    show (if frM ids H.length k < H.length then _ else _) = _
    rw [if_pos (idlt h1), h2]
   ·show (if frM ids H.length k < H.length then _ else _) = _
    rw [frM_ge a, if_neg (by omega)]
    congr 1; omega
  have tO : ∀ j, j < H.length → j ∉ ids → τ2 j = τ j := fun j hj hne => by
   show (if j < H.length then _ else _) = _
   rw [if_pos hj, List.idxOf?_eq_none_iff.2 hne]
  have same : SameAt (frM ids H.length) τ1 H1 τ2 H2 := ⟨hG, fun k _ => tF k⟩
  have step : Step C τ H w C1 τ2 H2 w' := by
   refine ⟨hstep.le, hstep.cell, fun j x hx => ?_, hstep.grow, hstep.old⟩
   have hj := (List.getElem?_eq_some_iff.1 hx).1
   by_cases e1 : j ∈ ids
   ·obtain ⟨k, hk⟩ := List.getElem?_of_mem e1
    have hkl := (List.getElem?_eq_some_iff.1 hk).1
    have hx0 : H0[k]? = some H0[k] := List.getElem?_eq_getElem (by omega)
    obtain ⟨y, hy, hry⟩ := hobj k j _ hk hx0
    rw [hx] at hy; cases hy
    obtain ⟨o', h1, h2⟩ := hstep.obj k _ hx0
    obtain ⟨z, hz, hrz⟩ := hG k o' h1
    rw [frM_lt hk] at hz
    refine ⟨z, hz, ?_⟩
    have t1 := tF k
    rw [frM_lt hk] at t1
    rw [t1]
    have t2 := t00 hkl
    rw [frM_lt hk] at t2
    rw [← t2]
    exact hrz.after (hry.afterL h2)
   ·exact ⟨x, by rw [hoth j hj e1]; exact hx, by rw [tO j hj e1]; exact x.after_refl _⟩
  have hgetF : ∀ k, k < H1.length → ∃ x, H1[k]? = some x := fun k hk => ⟨_, List.getElem?_eq_getElem hk⟩
  refine ⟨v, r', C1, τ2, H2, he, hQ, hrr.rel same hrel, ⟨⟨fun i x hx => ?_, fun i x hx ht => ?_, fun i x l hx ht => ?_, fun i l hi ht => ?_, fun i j li lj hi hj hti htj hb => ?_, hst.wf.lt⟩,
   ⟨hst.fr.os, hst.fr.tape, hst.fr.output, hst.fr.size, fun b hb => hst.fr.prot b ⟨hb.1, ?_⟩, hst.fr.drawn⟩, ?_, fun b hb => hb.1⟩, step⟩
  ·rcases split i (List.getElem?_eq_some_iff.1 hx).1 with ⟨h1, h2⟩ | ⟨k, rfl, hk⟩
   ·rw [hoth i h1 h2] at hx; exact hw.ok i x hx
   ·obtain ⟨z, hz⟩ := hgetF k hk
    obtain ⟨y, hy, hry⟩ := hG k z hz
    rw [hx] at hy; cases hy
    exact hry.ok (hst.wf.ok k z hz)
  ·rcases split i (List.getElem?_eq_some_iff.1 hx).1 with ⟨h1, h2⟩ | ⟨k, rfl, hk⟩
   ·rw [hoth i h1 h2] at hx; rw [tO i h1 h2] at ht; exact hw.virt i x hx ht
   ·obtain ⟨z, hz⟩ := hgetF k hk
    obtain ⟨y, hy, hry⟩ := hG k z hz
    rw [hx] at hy; cases hy
    rw [tF] at ht
    obtain ⟨esz, rfl⟩ := hst.wf.virt k z hz ht
    cases hry with
    | arr _ _ es1 hl1 _ _ =>
     have : es1 = [] := List.length_eq_zero_iff.1 hl1
     subst this; exact ⟨esz, rfl⟩
  ·rcases split i (List.getElem?_eq_some_iff.1 hx).1 with ⟨h1, h2⟩ | ⟨k, rfl, hk⟩
   ·rw [hoth i h1 h2] at hx; rw [tO i h1 h2] at ht
    exact (hw.objs i x l hx ht).mono step (hheap i l h1 h2 ht)
   ·obtain ⟨z, hz⟩ := hgetF k hk
    obtain ⟨y, hy, hry⟩ := hG k z hz
    rw [hx] at hy; cases hy
    rw [tF] at ht
    exact hry.at same (hst.wf.objs k z l hz ht)
  ·rcases split i hi with ⟨h1, h2⟩ | ⟨k, rfl, hk⟩
   ·rw [tO i h1 h2] at ht
    rw [hstep.old _ (hw.locLt h1 ht)]; exact hw.comm i l h1 ht
   ·rw [tF] at ht; exact hst.wf.comm k l hk ht
  ·rcases split i hi with ⟨h1, h2⟩ | ⟨k, rfl, hk⟩ <;> rcases split j hj with ⟨h3, h4⟩ | ⟨k', rfl, hk'⟩
   ·rw [tO i h1 h2] at hti; rw [tO j h3 h4] at htj; exact hw.inj i j li lj h1 h3 hti htj hb
   ·rw [tO i h1 h2] at hti; rw [tF] at htj
    exact absurd (hb ▸ hpr i li h1 h2 hti) (hst.own _ ⟨k', lj, hk', htj, rfl⟩)
   ·rw [tF] at hti; rw [tO j h3 h4] at htj
    exact absurd (hb ▸ hpr j lj h3 h4 htj) (hst.own _ ⟨k, li, hk, hti, rfl⟩)
   ·rw [tF] at hti htj
    rw [hst.wf.inj k k' li lj hk hk' hti htj hb]
  ·intro ho
   obtain ⟨k, l, hk, ht, hb2⟩ := hown _ ho
   exact hb.2 ⟨_, l, idlt (idget hk), ht, hb2⟩
  ·rintro b ⟨i, l, hi, ht, rfl⟩ hp2
   rcases split i hi with ⟨h1, h2⟩ | ⟨k, rfl, hk⟩
   ·rw [tO i h1 h2] at ht; exact hp2.2 ⟨i, l, h1, ht, rfl⟩
   ·rw [tF] at ht
    refine hst.own _ ⟨k, l, hk, ht, rfl⟩ ⟨hp2.1, fun ho => ?_⟩
    obtain ⟨k2, l2, hk2, ht2, hb2⟩ := hown _ ho
    exact hp2.2 ⟨_, l2, idlt (idget hk2), ht2, hb2⟩
 unfold CallsX at hc ⊢
 split at hc
 ·exact Calls.mono hc fun e w' hh => fin e w' hh
 ·exact fin _ _ hc
 ·exact hc

end
def RenArgs (σ : Nat → Nat) : List AVal → List AVal → Prop
 | [], [] => True
 | a :: asv, b :: bs => RenN σ a b ∧ RenArgs σ asv bs
 | _, _ => False

theorem RenArgs.get {σ : Nat → Nat} : ∀ {asv bs : List AVal}, RenArgs σ asv bs → asv.length = bs.length ∧ ∀ (i : Nat) (a b : AVal), asv[i]? = some a → bs[i]? = some b → RenN σ a b
 | [], [], _ => ⟨rfl, fun i a b h => by simp at h⟩
 | a :: asv, b :: bs, h => by
  obtain ⟨h1, h2⟩ := RenArgs.get h.2
  refine ⟨by simp [h1], fun i x y hx hy => ?_⟩
  cases i with
  | zero => simp at hx hy; subst hx hy; exact h.1
  | succ i => exact h2 i x y (by simpa using hx) (by simpa using hy)
 | [], _ :: _, h => h.elim
 | _ :: _, [], h => h.elim

def renH (σ : Nat → Nat) (H2 : List AObj) : Nat → List AObj → Prop
 | _, [] => True
 | k, x :: xs => (∃ y, H2[σ k]? = some y ∧ RenNO σ x y) ∧ renH σ H2 (k + 1) xs

theorem renH_get {σ : Nat → Nat} {H2 : List AObj} : ∀ {xs : List AObj} {k : Nat}, renH σ H2 k xs → ∀ (i : Nat) (x : AObj), xs[i]? = some x → ∃ y, H2[σ (k + i)]? = some y ∧ RenNO σ x y
 | [], k, _, i, x, h => by simp at h
 | z :: xs, k, h, i, x, hx => by
  cases i with
  | zero => simp at hx; subst hx; exact h.1
  | succ i =>
   have := renH_get h.2 i x (by simpa using hx)
   rwa [show k + 1 + i = k + (i + 1) by omega] at this

def othH (ids : List Nat) (H2 : List AObj) : Nat → List AObj → Prop
 | _, [] => True
 | j, x :: xs => (j ∈ ids ∨ H2[j]? = some x) ∧ othH ids H2 (j + 1) xs

theorem othH_get {ids : List Nat} {H2 : List AObj} : ∀ {xs : List AObj} {j : Nat}, othH ids H2 j xs → ∀ i, i < xs.length → j + i ∉ ids → H2[j + i]? = xs[i]?
 | [], j, _, i, h, _ => by simp at h
 | z :: xs, j, h, i, hi, hn => by
  cases i with
  | zero => exact h.1.resolve_left hn
  | succ i =>
   have := othH_get h.2 i (by simpa using hi) (by rwa [show j + 1 + i = j + (i + 1) by omega])
   rwa [show j + 1 + i = j + (i + 1) by omega] at this

theorem ACalls.frL {P : Program} {H : List AObj} {f : FuncId} {args0 args : List AVal} {H0 H1 H2 : List AObj} {R0 R : AVal} (h : ACalls P f args0 H0 (fun r H' => r = R0 ∧ H' = H1)) (ids : List Nat) (hnd : ids.Nodup) (hlen : ids.length = H0.length)
  (h0 : renH (frM ids H.length) H 0 H0) (ha : RenArgs (frM ids H.length) args0 args) (hR : RenN (frM ids H.length) R0 R) (hl : H2.length = H.length + (H1.length - ids.length))
  (h1 : renH (frM ids H.length) H2 0 H1) (h2 : othH ids H2 0 H) : ACalls P f args H (fun r H' => r = R ∧ H' = H2) := by
 obtain ⟨ha1, ha2⟩ := ha.get
 refine ACalls.frameN ids hnd hlen (fun k id x hk hx => ?_) ha1 ha2 h ?_
 ·have := renH_get h0 k x hx
  rwa [Nat.zero_add, frM_lt hk] at this
 ·rintro r G ⟨rfl, rfl⟩ _
  refine ⟨R, H2, hR, hl, fun k x hx => ?_, fun j hj hn => ?_, rfl, rfl⟩
  ·have := renH_get h1 k x hx
   rwa [Nat.zero_add] at this
  ·have := othH_get h2 j hj (by rwa [Nat.zero_add])
   rwa [Nat.zero_add] at this

end Go.AW

namespace Go.AW
variable [Draws]
attribute [local irreducible] ACalls
theorem Intervals_1_spec {P : Program} (F : F_z0m P) (x y : Ent) (hx : x.row.length ≤ 1000000) (H : List AObj) :
  ACalls P F.id [.agg (entC x), .agg (entC y)] H (fun r H' => r = .int .i64 (rowsCmp x.row y.row) ∧ H' = H) := by
 refine ACalls.pure rfl (acalls_of_body F.has ?_)
 (conv => whnf); refine ACalls.use (value_CompareRows_spec F.z22 false false x.row y.row hx _) ?_
 conv => whnf
 exact .closed _ rfl

theorem Contents_1_spec {P : Program} (F : F_z0u P) (x y : Ent) (hx : x.row.length ≤ 1000000) (H : List AObj) :
  ACalls P F.id [.agg (entC x), .agg (entC y)] H (fun r H' => r = .int .i64 (rowsCmp x.row y.row) ∧ H' = H) := by
 refine ACalls.pure rfl (acalls_of_body F.has ?_)
 (conv => whnf); refine ACalls.use (value_CompareRows_spec F.z22 false false x.row y.row hx _) ?_
 conv => whnf
 exact .closed _ rfl

def keyI (s : Sou) : List Int := s.key.map fun n => colIdx s.cols n

theorem keyI_length (s : Sou) : (keyI s).length = s.key.length := List.length_map ..

set_option maxRecDepth 20000 in
theorem lkeys_spec {P : Program} (F : F_z11 P) (s : Sou) (hs : s.ok) (H : List AObj) :
  ACalls P F.id [.agg (souC s)] H (fun r H' => r = .list false 1 (iC (keyI s)) ∧ H' = H) := by
 obtain ⟨hs1, hs2⟩ := hs
 refine ACalls.pure (by simp [souC, AVal.closed, AVal.isPure]) (acalls_of_body F.has ?_)
 conv => whnf
 refine ⟨fun m ρ H1 => ∃ (k : Nat) (U : List Int), k + m = s.key.length ∧ U = (keyI s).take k ∧ H1 = [.arr 7 [souC s], .arr 1 (iC U)] ∧ Sv 22 [(1, .ptr 0 1 0 0), (3, .sl 1 U.length 0 U.length), (7, .list false 1 (sC s.key)), (8, .int .i64 s.key.length), (9, .int .i64 k)] ρ, s.key.length, [(3, 1)], ?_, ?_⟩
 ·exact ⟨0, [], by omega, rfl, rfl, Sv.intro rfl ⟨rfl, rfl, rfl, intEq (by rw [sC_length]), rfl, trivial⟩⟩
 rintro m ρ H1 ⟨k, U, hk, hU, rfl, d, rfl⟩
 (conv => whnf); refine recA (fun hlt => ?_) (fun hlt => ?_)
 ·simp at hlt
  have hx : s.key[k]? = some s.key[k] := List.getElem?_eq_getElem hlt
  have hkx : (keyI s)[k]? = some (colIdx s.cols s.key[k]) := by rw [keyI, List.getElem?_map, hx]; rfl
  generalize s.key[k] = n at hx hkx
  have hUl : U.length = k := by rw [hU, List.length_take, keyI_length]; omega
  (conv => whnf); refine And.intro (by omega) ?_
  (conv => whnf); refine recO (sC_at hx) ?_
  (conv => whnf); refine ACalls.use (schema_Index_spec F.z15 false s.cols (by omega) n _) ?_
  (conv => whnf); refine recT (by rw [iC_length]; exact Nat.beq_refl _) ?_
  (conv => whnf); refine And.intro (⟨roomMul (by simp; omega) (by omega), roomB_le (by simp; omega), rfl, by rw [iC_length]⟩) ?_
  conv => whnf
  have hcn : iC U ++ [[AVal.int .i64 (colIdx s.cols n)]] = iC (U ++ [colIdx s.cols n]) := by rw [iC_append]; rfl
  have hl2 : (iC U ++ [[AVal.int .i64 (colIdx s.cols n)]]).length = (U ++ [colIdx s.cols n]).length := by rw [hcn, iC_length]
  refine ⟨m - 1, by omega, Gp.first 2 [.arr 7 [souC s], .arr 1 (iC U ++ [[AVal.int .i64 (colIdx s.cols n)]])] rfl rfl (by rw [hcn]; exact all2 (pureS s) (pureEs_iC _)) rfl ?_ fun ρ1 h => ⟨k + 1, U ++ [colIdx s.cols n], by omega, by rw [hU, ← take_snoc hkx], by rw [hcn], h⟩⟩
  exact ⟨.keepP 0 1 0 0 0 rfl, pubSl (k := 1) rfl rfl hl2 hl2, .closed (.list false 1 (sC s.key)) rfl, .closed _ rfl, pub_int (wrapI _ (by omega) (by omega)), trivial⟩
 ·simp at hlt
  rw [List.take_of_length_le (by rw [keyI_length]; omega)] at hU
  subst hU
  conv => whnf
  exact pubFI (by simp) rfl (iC_length _).symm (iC_length _).symm (pureEs_iC _)

theorem pick_key (s : Sou) (hs : s.good) (row : List V) (hr : s.cols.length ≤ row.length) : pickL zV row (keyI s) = keyV s row := by
 rw [pickL, keyI, List.map_map, keyV]
 refine List.map_congr_left fun n hn => ?_
 obtain ⟨k, hk⟩ := List.getElem?_of_mem hn
 obtain ⟨h1, h2⟩ := key_at hs hk
 show (if 0 ≤ colIdx s.cols n ∧ colIdx s.cols n < (row.length : Int) then _ else _) = _
 rw [if_pos ⟨h1, by omega⟩]

set_option maxRecDepth 20000 in
theorem Versions_2_spec {P : Program} (F : F_z0x P) (s : Sou) (hs : s.good) (x y : Ver) (hx : okV s x) (hy : okV s y) (H : List AObj) :
  ACalls P F.id ([.agg (verC x), .agg (verC y)] ++ [.cptr [.list false 1 (iC (keyI s))] 0, .cptr (souC s) 0]) H (fun r H' => r = .int .i64 (cmpVr s x y) ∧ H' = H) := by
 have hten := hs.ten
 have hkl := hs.klen
 obtain ⟨x1, x2⟩ := okV_len hs hx
 obtain ⟨y1, y2⟩ := okV_len hs hy
 have px : ∀ H, ACalls P F.z19.id [.list false 3 (vC x.rc.row), .list false 1 (iC (keyI s))] H (fun r H' => r = .list false 3 (vC (keyV s x.rc.row)) ∧ H' = H) := fun H => by
  have := schema_Pick_spec F.z19 false false x.rc.row (keyI s) (by omega) (by rw [keyI_length]; omega) H
  rwa [pick_key s hs _ x2] at this
 have py : ∀ H, ACalls P F.z19.id [.list false 3 (vC y.rc.row), .list false 1 (iC (keyI s))] H (fun r H' => r = .list false 3 (vC (keyV s y.rc.row)) ∧ H' = H) := fun H => by
  have := schema_Pick_spec F.z19 false false y.rc.row (keyI s) (by omega) (by rw [keyI_length]; omega) H
  rwa [pick_key s hs _ y2] at this
 refine ACalls.pure rfl (acalls_of_body F.has ?_)
 (conv => whnf); refine ⟨_, px _, ?_⟩
 (conv => whnf); refine ⟨_, py _, ?_⟩
 (conv => whnf); refine ⟨_, value_CompareRows_spec F.z22 false false (keyV s x.rc.row) (keyV s y.rc.row) (by rw [keyV_length]; omega) _, ?_⟩
 (conv => whnf); refine ⟨_, wTime_spec F.z44 s hs.ok x.rc (by omega) _, ?_⟩
 (conv => whnf); refine ⟨_, wTime_spec F.z44 s hs.ok y.rc (by omega) _, ?_⟩
 (conv => whnf); refine ⟨_, cmpCompare_int_spec F.z0a (timeV s x.rc) (timeV s y.rc) _, ?_⟩
 (conv => whnf); refine ⟨_, cmpCompare_int_spec F.z0a x.rc.seq y.rc.seq _, ?_⟩
 (conv => whnf); refine ⟨_, cmpCompare_int_spec F.z0a x.file y.file _, ?_⟩
 (conv => whnf); refine ⟨_, cmpCompare_int_spec F.z0a x.place y.place _, ?_⟩
 (conv => whnf); refine ⟨_, cmpOr_spec F.z0c [rowsCmp (keyV s x.rc.row) (keyV s y.rc.row), cmpI (timeV s x.rc) (timeV s y.rc), cmpI x.rc.seq y.rc.seq, cmpI x.file y.file, cmpI x.place y.place] (by simp) _, ?_⟩
 repeat ((conv => whnf); refine And.intro rfl ?_)
 conv => whnf
 exact .closed _ rfl

set_option maxRecDepth 20000 in
theorem copyRecord_spec {P : Program} (F : F_z0y P) (r : Rec) (hn : r.row ≠ []) (hl : r.row.length ≤ 1000) (H : List AObj) :
  ACalls P F.id [.agg (recC r)] H (fun q H' => q = .agg (recC r) ∧ H' = H) := by
 refine ACalls.pure (recC_closed r) (acalls_of_body F.has ?_)
 (conv => whnf); refine ACalls.mono (cloneV_ex F.z1e false r.row hn (by omega) _) ?_
 rintro q H' ⟨rfl, rfl⟩
 conv => whnf
 refine .agg [_, _, _] (recC r) rfl fun i v q h1 h2 => ?_
 rcases i with _ | _ | _ | i
 ·cases h1; cases h2; exact .closed _ rfl
 ·cases h1; cases h2; exact .closed _ rfl
 ·cases h1; cases h2; exact pubRow (id := 2) (by simp) rfl rfl
 ·simp at h1

def countB (s : Sou) (x : Del) (k : Nat) (r : Rec) : Bool := eqS x.f.src s.name && (decide (k < x.jd.length) && (x.jd.getD k 1 == 0 && fitsV s r == 0))

set_option maxRecDepth 20000 in
theorem counts_spec {P : Program} (F : F_z0z P) (s : Sou) (hs : s.ok) (x : Del) (k : Nat) (r : Rec) (hr : x.f.recs[k]? = some r) (hk : k ≤ 1000000) (hl : r.row.length ≤ 1000) (H : List AObj) :
  ACalls P F.id [.agg (delC x), .int .i64 k, .agg (souC s)] H (fun q H' => q = .bool (countB s x k r) ∧ H' = H) := by
 refine ACalls.pure (by simp [souC, delC, AVal.closed, AVal.isPure]) (acalls_of_body F.has ?_)
 unfold countB
 (conv => whnf); refine recA (fun h1 => ?_) (fun h1 => ?_)
 ·replace h1 : eqS x.f.src s.name = true := h1
  rw [h1]
  (conv => whnf); refine recA (fun h2 => ?_) (fun h2 => ?_)
  ·simp [iC_length] at h2
   have hjx : x.jd[k]? = some x.jd[k] := List.getElem?_eq_getElem (by omega)
   have hjd : x.jd.getD k 1 = x.jd[k] := by rw [List.getD_eq_getElem?_getD, hjx]; rfl
   generalize x.jd[k] = q at hjx hjd
   rw [hjd]
   (conv => whnf); refine And.intro (by omega) ?_
   (conv => whnf); refine recO (iC_at hjx) ?_
   (conv => whnf); refine recA (fun h3 => ?_) (fun h3 => ?_)
   ·simp at h3
    (conv => whnf); refine And.intro (by omega) ?_
    (conv => whnf); refine recO (rC_at hr) ?_
    (conv => whnf); refine ⟨_, wFits_spec F.z43 s hs r (by omega) _, ?_⟩
    repeat ((conv => whnf); refine And.intro rfl ?_)
    conv => whnf
    refine pubB ?_
    simp [h3, h2]
   ·simp at h3
    repeat ((conv => whnf); refine And.intro rfl ?_)
    conv => whnf
    refine pubB ?_
    simp [h3]
  ·simp [iC_length] at h2
   repeat ((conv => whnf); refine And.intro rfl ?_)
   conv => whnf
   refine pubB ?_
   simp; omega
 ·replace h1 : eqS x.f.src s.name = false := h1
  rw [h1]
  repeat ((conv => whnf); refine And.intro rfl ?_)
  conv => whnf
  exact pubB rfl

end Go.AW

namespace Go.AW
variable [Draws]
theorem ivE_len {s : Sou} {v : Ver} {e : V} (hv : v.rc.row.length = s.cols.length) : (ivE s v e).row.length = s.cols.length + 2 := by
 show (v.rc.row ++ [tmV (tiV s v), e]).length = _
 rw [List.length_append, hv]; rfl

theorem ivE_from {s : Sou} {v : Ver} {e : V} (hv : v.rc.row.length = s.cols.length) : (ivE s v e).row[s.cols.length]? = some (tmV (tiV s v)) := by
 show (v.rc.row ++ [tmV (tiV s v), e])[s.cols.length]? = _
 rw [List.getElem?_append_right (by omega), hv, Nat.sub_self]; rfl

theorem ivE_to {s : Sou} {v : Ver} {e : V} (hv : v.rc.row.length = s.cols.length) : (ivE s v e).row[s.cols.length + 1]? = some e := by
 show (v.rc.row ++ [tmV (tiV s v), e])[s.cols.length + 1]? = _
 rw [List.getElem?_append_right (by omega), hv, show s.cols.length + 1 - s.cols.length = 1 by omega]; rfl

theorem ivE_take {s : Sou} {v : Ver} {e : V} (hv : v.rc.row.length = s.cols.length) : (ivE s v e).row.take s.cols.length = v.rc.row := by
 show (v.rc.row ++ [tmV (tiV s v), e]).take s.cols.length = _
 rw [← hv, List.take_left']; rfl

theorem EndOf.cases {s : Sou} {L : List Ver} {v : Ver} {e : V} (h : EndOf s L v e) : e = zV ∨ (e.kind = 4 ∧ tiV s v < e.num) := by
 rcases h with ⟨h, _⟩ | ⟨w, _, _, t, rfl, _⟩
 ·exact .inl h
 ·exact .inr ⟨rfl, t⟩

theorem ivs_disj {s : Sou} {L : List Ver} (hu : Uq s L) {v w : Ver} {e f : V} (rv : RepOf s L v) (rw0 : RepOf s L w) (ev : EndOf s L v e) (ew : EndOf s L w f) (hk : kyV s v = kyV s w) (hne : ivE s v e ≠ ivE s w f) :
  (e.kind ≠ 0 ∧ e.num ≤ tiV s w) ∨ (f.kind ≠ 0 ∧ f.num ≤ tiV s v) := by
 rcases Int.lt_trichotomy (tiV s v) (tiV s w) with h | h | h
 ·refine .inl ?_
  rcases ev with ⟨_, g⟩ | ⟨u, hu, ku, tu, rfl, g⟩
  ·have := g w rw0.1 hk.symm; omega
  ·exact ⟨by simp [tmV], g w rw0.1 hk.symm h⟩
 ·exfalso
  have h1 := rv.2 w rw0.1 hk.symm h.symm
  have h2 := rw0.2 v rv.1 hk h
  have h3 := (preC_V s).anti v w
  have := hu v rv.1 w rw0.1 (by omega)
  subst this
  exact hne (by rw [ev.uniq ew])
 ·refine .inr ?_
  rcases ew with ⟨_, g⟩ | ⟨u, hu, ku, tu, rfl, g⟩
  ·have := g v rv.1 hk; omega
  ·exact ⟨by simp [tmV], g v rv.1 hk h⟩

theorem frmE_fit : ∀ {l : List Ent}, (∀ e ∈ l, fitB e = 0) → frmE l = 0
 | [], _ => rfl
 | e :: l, h => by rw [frmE, if_neg (by rw [h e (List.mem_cons_self ..)]; simp)]; exact frmE_fit fun x hx => h x (List.mem_cons_of_mem _ hx)

theorem srtE_len (l : List Ent) : (srtE l).length = l.length := isort_length l

theorem srtE_mem (l : List Ent) (e : Ent) : e ∈ srtE l ↔ e ∈ l := (isort_perm l).mem_iff

theorem srt_srtE {l : List Ent} (h : l.Pairwise fun a b => a.row ≠ b.row) : Srt (srtE l) := srt_of_asc (isort_asc orders_E _) (pw_perm (isort_perm _).symm h)

theorem nor_of {l : List Ent} (hd : l.Pairwise fun a b => a.row ≠ b.row) (h1 : ∀ e ∈ l, e.cnt = 1 ∧ fitB e = 0) (hl : l.length ≤ 4096) : norR l = .tuple [.list false 2 (eC (srtE l)), .int .i64 0] := by
 rw [norR, if_neg (by rw [frmE_fit fun e he => (h1 e he).2]; simp)]
 rw [resR_ext (srt_srtM _ _ (by omega)) (srt_srtE hd) fun r => by rw [cntL_srtM]; exact (cntL_perm (isort_perm l) r).symm]
 have hc : ∀ e ∈ srtE l, e.cnt = 1 := fun e he => (h1 e ((srtE_mem l e).1 he)).1
 have hf : (srtE l).filter nzB = srtE l := List.filter_eq_self.2 fun e he => by rw [nzB, hc e he]; rfl
 rw [resR, hf, if_pos ⟨List.all_eq_true.2 fun e he => by rw [hc e he]; rfl, by rw [srtE_len]; exact hl⟩]

theorem restV_eq (n : Nat) (p : V → V → Bool) : ∀ l, restV n p l = (l.filter fun e => p (e.row.getD n zV) (e.row.getD (n + 1) zV)).map fun e => ⟨e.row.take n, e.cnt⟩
 | [] => rfl
 | e :: l => by
  rw [restV, List.filter_cons, restV_eq n p l]
  split
  ·rw [List.map_cons]
  ·rfl

def conG (s : Sou) : List Ver → List Ent
 | [] => []
 | v :: vs => if (vs.head?.all fun w => rowsCmp (keyV s v.rc.row) (keyV s w.rc.row) != 0) && !v.rc.del then ⟨v.rc.row, 1⟩ :: conG s vs else conG s vs

def conV (s : Sou) (L : List Ver) : List Ent := srtE (conG s (srtV s L))

def LastOf (s : Sou) (L : List Ver) (v : Ver) : Prop := v ∈ L ∧ ∀ w ∈ L, kyV s w = kyV s v → 0 ≤ cmpVr s v w

theorem conG_len (s : Sou) : ∀ L, (conG s L).length ≤ L.length
 | [] => Nat.le_refl _
 | v :: vs => by
  have := conG_len s vs
  rw [conG]
  split
  ·simp; omega
  ·simp; omega

theorem mem_conG {s : Sou} : ∀ {L : List Ver}, AscO (cmpVr s) L → Uq s L → ∀ e, e ∈ conG s L ↔ ∃ v, LastOf s L v ∧ v.rc.del = false ∧ e = ⟨v.rc.row, 1⟩
 | [], _, _, e => by simp [conG, LastOf]
 | v :: vs, ha, hu, e => by
  obtain ⟨a1, a2⟩ := List.pairwise_cons.1 ha
  have ih := mem_conG a2 (fun x hx y hy => hu x (List.mem_cons_of_mem _ hx) y (List.mem_cons_of_mem _ hy)) e
  have hold : ∀ u, u ∈ vs → (LastOf s (v :: vs) u ↔ LastOf s vs u) := fun u hm => by
   constructor
   ·exact fun h => ⟨hm, fun w hw => h.2 w (List.mem_cons_of_mem _ hw)⟩
   ·refine fun h => ⟨List.mem_cons_of_mem _ hm, fun w hw k => ?_⟩
    rcases List.mem_cons.1 hw with rfl | hw
    ·exact a1 u hm
    ·exact h.2 w hw k
  
  have hv : v ∉ vs → (LastOf s (v :: vs) v ↔ (vs.head?.all fun w => rowsCmp (keyV s v.rc.row) (keyV s w.rc.row) != 0) = true) := fun hvn => by
   cases vs with
   | nil =>
    simp only [List.head?_nil, Option.all_none, iff_true]
    refine ⟨List.mem_cons_self .., fun w hw _ => ?_⟩
    rw [List.mem_singleton.1 hw]
    have := (preC_V s).anti v v; omega
   | cons x vs =>
    simp only [List.head?_cons, Option.all_some, bne_iff_ne, ne_eq, rowsCmp_zero]
    constructor
    ·intro h hk
     have h1 := h.2 x (List.mem_cons_of_mem _ (List.mem_cons_self ..)) hk.symm
     have h2 := a1 x (List.mem_cons_self ..)
     have h3 := (preC_V s).anti v x
     have := hu v (List.mem_cons_self ..) x (List.mem_cons_of_mem _ (List.mem_cons_self ..)) (by omega)
     subst this
     exact hvn (List.mem_cons_self ..)
    ·refine fun h => ⟨List.mem_cons_self .., fun w hw hk => ?_⟩
     rcases List.mem_cons.1 hw with rfl | hw
     ·have := (preC_V s).anti w w; omega
     exfalso
     have k1 := cmpVr_key (a1 x (List.mem_cons_self ..))
     rcases List.mem_cons.1 hw with rfl | hw
     ·exact h hk.symm
     ·have k2 := cmpVr_key ((List.pairwise_cons.1 a2).1 w hw)
      rw [hk] at k2
      exact h (key_le_antisymm k1 k2).symm
  have hdup : v ∈ vs → ((vs.head?.all fun w => rowsCmp (keyV s v.rc.row) (keyV s w.rc.row) != 0) = true) → False := fun hm hc => by
   cases vs with
   | nil => cases hm
   | cons x vs =>
    simp only [List.head?_cons, Option.all_some, bne_iff_ne, ne_eq, rowsCmp_zero] at hc
    have k1 := cmpVr_key (a1 x (List.mem_cons_self ..))
    rcases List.mem_cons.1 hm with rfl | hm
    ·exact hc rfl
    ·exact hc (key_le_antisymm k1 (cmpVr_key ((List.pairwise_cons.1 a2).1 v hm))).symm
  have split1 : (∃ u, LastOf s (v :: vs) u ∧ u.rc.del = false ∧ e = ⟨u.rc.row, 1⟩) ↔ (v ∉ vs ∧ LastOf s (v :: vs) v ∧ v.rc.del = false ∧ e = ⟨v.rc.row, 1⟩) ∨ e ∈ conG s vs := by
   rw [ih]
   constructor
   ·rintro ⟨u, h1, h2, h3⟩
    by_cases hm : u ∈ vs
    ·exact .inr ⟨u, (hold u hm).1 h1, h2, h3⟩
    ·have e1 : u = v := (List.mem_cons.1 h1.1).resolve_right hm
     subst e1
     exact .inl ⟨hm, h1, h2, h3⟩
   ·rintro (⟨_, h1, h2, h3⟩ | ⟨u, h1, h2, h3⟩)
    ·exact ⟨v, h1, h2, h3⟩
    ·exact ⟨u, (hold u h1.1).2 h1, h2, h3⟩
  rw [split1, conG]
  split
  ·rename_i hc
   rw [Bool.and_eq_true] at hc
   have hvn : v ∉ vs := fun hm => hdup hm hc.1
   rw [List.mem_cons]
   constructor
   ·rintro (rfl | h)
    ·exact .inl ⟨hvn, (hv hvn).2 hc.1, by simpa using hc.2, rfl⟩
    ·exact .inr h
   ·rintro (⟨_, _, _, h⟩ | h)
    ·exact .inl h
    ·exact .inr h
  ·rename_i hc
   constructor
   ·exact .inr
   ·rintro (⟨hvn, h1, h2, _⟩ | h)
    ·exact absurd (by rw [(hv hvn).1 h1, h2]; rfl) hc
    ·exact h

theorem LastOf.perm {s : Sou} {L M : List Ver} (h : ∀ w, w ∈ L ↔ w ∈ M) (v : Ver) : LastOf s L v ↔ LastOf s M v := by
 unfold LastOf
 rw [h]
 exact ⟨fun x => ⟨x.1, fun w hw => x.2 w ((h w).2 hw)⟩, fun x => ⟨x.1, fun w hw => x.2 w ((h w).1 hw)⟩⟩

theorem mem_con {s : Sou} {L : List Ver} (hu : Uq s L) (e : Ent) : e ∈ conV s L ↔ ∃ v, LastOf s L v ∧ v.rc.del = false ∧ e = ⟨v.rc.row, 1⟩ := by
 rw [conV, srtE_mem, mem_conG (srtV_asc s L) (srtV_uq hu)]
 constructor
 ·rintro ⟨v, h⟩; exact ⟨v, (LastOf.perm (srtV_mem s L) v).1 h.1, h.2⟩
 ·rintro ⟨v, h⟩; exact ⟨v, (LastOf.perm (srtV_mem s L) v).2 h.1, h.2⟩

theorem last_row {s : Sou} {L : List Ver} (hu : Uq s L) {v w : Ver} (h1 : LastOf s L v) (h2 : LastOf s L w) (h : kyV s v = kyV s w) : v = w := by
 have a := h1.2 w h2.1 h.symm
 have b := h2.2 v h1.1 h
 have c := (preC_V s).anti v w
 exact hu v h1.1 w h2.1 (by omega)

theorem conG_ne {s : Sou} : ∀ {L : List Ver}, AscO (cmpVr s) L → Uq s L → (conG s L).Pairwise fun a b => a.row ≠ b.row
 | [], _, _ => List.Pairwise.nil
 | v :: vs, ha, hu => by
  obtain ⟨a1, a2⟩ := List.pairwise_cons.1 ha
  have hu2 : Uq s vs := fun x hx y hy => hu x (List.mem_cons_of_mem _ hx) y (List.mem_cons_of_mem _ hy)
  have ih := conG_ne a2 hu2
  rw [conG]
  split
  ·rename_i hc
   rw [Bool.and_eq_true] at hc
   refine List.pairwise_cons.2 ⟨fun e he hr => ?_, ih⟩
   obtain ⟨w, hw, _, rfl⟩ := (mem_conG a2 hu2 e).1 he
   have hk : kyV s v = kyV s w := congrArg (keyV s) hr
   have hc1 := hc.1
   cases vs with
   | nil => cases hw.1
   | cons x vs =>
    simp only [List.head?_cons, Option.all_some, bne_iff_ne, ne_eq, rowsCmp_zero] at hc1
    have k1 := cmpVr_key (a1 x (List.mem_cons_self ..))
    rcases List.mem_cons.1 hw.1 with rfl | hm
    ·exact hc1 hk
    ·have k2 := cmpVr_key ((List.pairwise_cons.1 a2).1 w hm)
     rw [← hk] at k2
     exact hc1 (key_le_antisymm k1 k2).symm
  ·exact ih

theorem srt_con {s : Sou} {L : List Ver} (hu : Uq s L) : Srt (conV s L) := srt_srtE (conG_ne (srtV_asc s L) (srtV_uq hu))

theorem rest_con {s : Sou} {L M : List Ver} (hok : ∀ v ∈ L, okV s v) (hu : Uq s L) (huM : Uq s M) (p : V → V → Bool)
  (h1 : ∀ v en, RepOf s L v → EndOf s L v en → p (tmV (tiV s v)) en = true → LastOf s M v)
  (h2 : ∀ v, LastOf s M v → RepOf s L v ∧ ∃ en, EndOf s L v en ∧ p (tmV (tiV s v)) en = true)
  (hfit : ∀ v ∈ L, v.rc.del = false → fitB ⟨v.rc.row, 1⟩ = 0) (hlen : L.length ≤ 4096) :
  norR (restV s.cols.length p (ivsV s L)) = .tuple [.list false 2 (eC (conV s M)), .int .i64 0] := by
 have hvl : ∀ v, RepOf s L v → v.rc.row.length = s.cols.length := fun v hv => fits_len (hok v hv.1)
 have key : ∀ e ∈ ivsV s L, p (e.row.getD s.cols.length zV) (e.row.getD (s.cols.length + 1) zV) = true → ∃ v, LastOf s M v ∧ RepOf s L v ∧ v.rc.del = false ∧ (∃ en, EndOf s L v en ∧ e = ivE s v en) ∧ e.row.take s.cols.length = v.rc.row ∧ e.cnt = 1 := fun e he hp => by
  obtain ⟨v, rv, dv, en, hen, rfl⟩ := (mem_ivs hu e).1 he
  have hl := hvl v rv
  rw [List.getD_eq_getElem?_getD, List.getD_eq_getElem?_getD, ivE_from hl, ivE_to hl] at hp
  exact ⟨v, h1 v en rv hen hp, rv, dv, ⟨en, hen, rfl⟩, ivE_take hl, rfl⟩
 rw [restV_eq]
 have hmem : ∀ x, x ∈ ((ivsV s L).filter fun e => p (e.row.getD s.cols.length zV) (e.row.getD (s.cols.length + 1) zV)).map (fun e => (⟨e.row.take s.cols.length, e.cnt⟩ : Ent)) ↔ ∃ v, LastOf s M v ∧ v.rc.del = false ∧ x = ⟨v.rc.row, 1⟩ := fun x => by
  rw [List.mem_map]
  constructor
  ·rintro ⟨e, he, rfl⟩
   obtain ⟨he1, he2⟩ := List.mem_filter.1 he
   obtain ⟨v, a, _, b, _, c, d⟩ := key e he1 he2
   exact ⟨v, a, b, by rw [c, d]⟩
  ·rintro ⟨v, a, b, rfl⟩
   obtain ⟨rv, en, hen, hp⟩ := h2 v a
   have hl := hvl v rv
   refine ⟨ivE s v en, List.mem_filter.2 ⟨(mem_ivs hu _).2 ⟨v, rv, b, en, hen, rfl⟩, ?_⟩, ?_⟩
   ·rw [List.getD_eq_getElem?_getD, List.getD_eq_getElem?_getD, ivE_from hl, ivE_to hl]; exact hp
   ·rw [ivE_take hl]; rfl
 have hpw : (((ivsV s L).filter fun e => p (e.row.getD s.cols.length zV) (e.row.getD (s.cols.length + 1) zV)).map fun e => (⟨e.row.take s.cols.length, e.cnt⟩ : Ent)).Pairwise fun a b => a.row ≠ b.row := by
  rw [List.pairwise_map]
  have hs : ((ivsV s L).filter fun e => p (e.row.getD s.cols.length zV) (e.row.getD (s.cols.length + 1) zV)).Pairwise fun a b => rowsCmp a.row b.row < 0 := (srt_ivs hok hu).filter _
  refine hs.imp_of_mem ?_
  intro a b ha hb hab he
  obtain ⟨ha1, ha2⟩ := List.mem_filter.1 ha
  obtain ⟨hb1, hb2⟩ := List.mem_filter.1 hb
  obtain ⟨v, a1, rv, _, ⟨en, hen, rfl⟩, a4, _⟩ := key a ha1 ha2
  obtain ⟨w, b1, rw0, _, ⟨en', hen', rfl⟩, b4, _⟩ := key b hb1 hb2
  have he : v.rc.row = w.rc.row := by rw [← a4, ← b4]; exact he
  have := last_row huM a1 b1 (congrArg (keyV s) he)
  subst this
  rw [hen.uniq hen'] at hab
  rw [(rowsCmp_zero _ _).2 rfl] at hab
  omega
 rw [nor_of hpw]
 ·refine congrArg (fun l => AVal.tuple [.list false 2 (eC l), .int .i64 0]) (srt_ext (srt_srtE hpw) (srt_con huM) fun e => ?_)
  rw [srtE_mem, hmem, mem_con huM]
 ·intro e he
  obtain ⟨v, a, b, rfl⟩ := (hmem e).1 he
  exact ⟨rfl, hfit v (h2 v a).1.1 b⟩
 ·rw [List.length_map]
  exact Nat.le_trans (List.length_filter_le ..) (Nat.le_trans (ivsV_len s L) hlen)

theorem time_le {s : Sou} {v w : Ver} (h : 0 ≤ cmpVr s v w) (hk : kyV s w = kyV s v) : tiV s w ≤ tiV s v := cmpVr_time h hk.symm

theorem cmp_of_time {s : Sou} {v w : Ver} (hk : kyV s w = kyV s v) (ht : tiV s w < tiV s v) : 0 ≤ cmpVr s v w := by
 rw [cmpVr_lex]
 simp only [lexC]
 rw [if_pos ((rowsCmp_zero _ _).2 hk.symm)]
 have h1 : cmpI (timeV s v.rc) (timeV s w.rc) = 1 := by
  unfold cmpI
  rw [if_neg (show ¬ timeV s v.rc < timeV s w.rc by have : timeV s w.rc < timeV s v.rc := ht; omega), if_pos (show timeV s v.rc > timeV s w.rc from ht)]
 rw [if_neg (by rw [h1]; decide), h1]; decide

theorem now_con {s : Sou} {L : List Ver} (hok : ∀ v ∈ L, okV s v) (hu : Uq s L) (hfit : ∀ v ∈ L, v.rc.del = false → fitB ⟨v.rc.row, 1⟩ = 0) (hlen : L.length ≤ 4096) :
  norR (restV s.cols.length openB (ivsV s L)) = .tuple [.list false 2 (eC (conV s L)), .int .i64 0] := by
 refine rest_con hok hu hu openB (fun v en rv hen hp => ?_) (fun v hv => ?_) hfit hlen
 ·have hen0 : en = zV := by
   rcases hen.cases with h | ⟨h, _⟩
   ·exact h
   ·rw [openB, h] at hp; cases hp
  refine ⟨rv.1, fun w hw hk => ?_⟩
  rcases hen with ⟨_, g⟩ | ⟨u, _, _, _, he, _⟩
  ·have := g w hw hk
   by_cases ht : tiV s w = tiV s v
   ·exact rv.2 w hw hk ht
   ·exact cmp_of_time hk (by omega)
  ·rw [hen0] at he; cases he
 ·refine ⟨⟨hv.1, fun w hw k _ => hv.2 w hw k⟩, zV, .inl ⟨rfl, fun w hw k => time_le (hv.2 w hw k) k⟩, rfl⟩

end Go.AW

namespace Go.AW
variable [Draws]
theorem chk_at : ∀ {cs : List Col} {rs : List V}, chkGo cs rs = 0 → ∀ {k : Nat} {c : Col} {v : V}, cs[k]? = some c → rs[k]? = some v → validB v = true ∧ badB c v = false
 | [], _, _, k, c, v, h, _ => by simp at h
 | _ :: _, [], _, k, c, v, _, h => by simp at h
 | c0 :: cs, v0 :: rs, h, k, c, v, hc, hv => by
  rw [chkGo] at h
  split at h
  ·cases h
  split at h
  ·cases h
  rename_i h1 h2
  cases k with
  | zero =>
   simp at hc hv
   subst hc hv
   exact ⟨by simpa using h1, by simpa using h2⟩
  | succ k => exact chk_at h (by simpa using hc) (by simpa using hv)

theorem chkGo_app : ∀ {cs cs' : List Col} {rs rs' : List V}, cs.length = rs.length → chkGo cs rs = 0 → chkGo cs' rs' = 0 → chkGo (cs ++ cs') (rs ++ rs') = 0
 | [], _, [], _, _, _, h => h
 | [], _, _ :: _, _, h, _, _ => by simp at h
 | _ :: _, _, [], _, h, _, _ => by simp at h
 | c :: cs, cs', v :: rs, rs', hl, h, h2 => by
  rw [chkGo] at h
  split at h
  ·cases h
  split at h
  ·cases h
  rename_i a b
  rw [List.cons_append, List.cons_append, chkGo, if_neg a, if_neg b]
  exact chkGo_app (by simpa using hl) h h2

theorem del_at {s : Sou} : ∀ {cs : List Col} {rs : List V}, delGo s cs rs = 0 → ∀ {k : Nat} {c : Col} {v : V}, cs[k]? = some c → rs[k]? = some v → kcolB s c = true → validB v = true ∧ badB c v = false
 | [], _, _, k, c, v, h, _, _ => by simp at h
 | _ :: _, [], _, k, c, v, _, h, _ => by simp at h
 | c0 :: cs, v0 :: rs, h, k, c, v, hc, hv, hk => by
  rw [delGo] at h
  cases k with
  | zero =>
   simp at hc hv
   subst hc hv
   rw [if_pos hk] at h
   split at h
   ·contradiction
   ·rename_i hz
    have hz : chkRow [c0] [v0] = 0 := by omega
    rw [chkRow, if_pos (show [v0].length = [c0].length from rfl)] at hz
    exact chk_at hz (k := 0) rfl rfl
  | succ k =>
   have h2 : delGo s cs rs = 0 := by
    split at h
    ·split at h
     ·contradiction
     ·exact h
    ·split at h
     ·exact h
     ·cases h
   exact del_at h2 (by simpa using hc) (by simpa using hv) hk

theorem ok_kcol {s : Sou} {v : Ver} (h : okV s v) {k : Nat} {c : Col} {x : V} (hc : s.cols[k]? = some c) (hx : v.rc.row[k]? = some x) (hk : kcolB s c = true) : validB x = true ∧ badB c x = false := by
 have hl := fits_len h
 unfold okV fitsV at h
 split at h
 ·simp at h
 split at h
 ·unfold delV at h
  rw [if_pos hl] at h
  exact del_at h hc hx hk
 ·unfold chkRow at h
  rw [if_pos hl] at h
  exact chk_at h hc hx

theorem ok_row {s : Sou} {v : Ver} (h : okV s v) (hd : v.rc.del = false) : chkRow s.cols v.rc.row = 0 := by
 unfold okV fitsV at h
 split at h
 ·simp at h
 rw [if_neg (by rw [hd]; simp)] at h
 exact h

theorem row_valid {s : Sou} {v : Ver} (h : okV s v) (hd : v.rc.del = false) : ∀ x ∈ v.rc.row, validB x = true := fun x hx => by
 have hl := fits_len h
 have hr := ok_row h hd
 unfold chkRow at hr
 rw [if_pos hl] at hr
 obtain ⟨k, hk⟩ := List.getElem?_of_mem hx
 have := (List.getElem?_eq_some_iff.1 hk).1
 exact (chk_at hr (List.getElem?_eq_getElem (show k < s.cols.length by omega)) hk).1

theorem ok_fit {s : Sou} (hs : s.good) {v : Ver} (h : okV s v) (hd : v.rc.del = false) : fitB ⟨v.rc.row, 1⟩ = 0 := by
 have := (okV_len hs h).1
 unfold fitB
 rw [if_neg (by simp only; omega), if_pos (List.all_eq_true.2 (row_valid h hd))]

theorem idxOf_or {α : Type} (p : α → Bool) : ∀ (l : List α) (i : Int), idxOf p l i = -1 ∨ i ≤ idxOf p l i
 | [], _ => .inl rfl
 | c :: cs, i => by
  rw [idxOf]
  split
  ·exact .inr (Int.le_refl _)
  ·rcases idxOf_or p cs (i + 1) with h | h
   ·exact .inl h
   ·exact .inr (by omega)

theorem named_at : ∀ (cs : List Col) (n : ByteArray) (i : Int), 0 ≤ i → i ≤ idxOf (named n) cs i → ∃ c, cs[(idxOf (named n) cs i - i).toNat]? = some c ∧ named n c = true
 | [], n, i, h, h2 => by rw [idxOf] at h2; omega
 | c :: cs, n, i, h, h2 => by
  rw [idxOf] at h2 ⊢
  split
  ·rename_i hc
   exact ⟨c, by rw [Int.sub_self]; rfl, hc⟩
  ·rename_i hc
   rw [if_neg hc] at h2
   have h3 : i + 1 ≤ idxOf (named n) cs (i + 1) := by
    rcases idxOf_or (named n) cs (i + 1) with h5 | h5
    ·omega
    ·exact h5
   obtain ⟨d, h4, h5⟩ := named_at cs n (i + 1) (by omega) h3
   refine ⟨d, ?_, h5⟩
   rw [show (idxOf (named n) cs (i + 1) - i).toNat = (idxOf (named n) cs (i + 1) - (i + 1)).toNat + 1 by omega, List.getElem?_cons_succ]
   exact h4

theorem col_named {cs : List Col} {n : ByteArray} (h : 0 ≤ colIdx cs n) : ∃ c, cs[(colIdx cs n).toNat]? = some c ∧ named n c = true := by
 unfold colIdx at h ⊢
 obtain ⟨c, h1, h2⟩ := named_at cs n 0 (Int.le_refl _) h
 exact ⟨c, by rw [Int.sub_zero] at h1; exact h1, h2⟩

theorem ok_time {s : Sou} (hs : s.good) {v : Ver} (h : okV s v) : 0 ≤ tiV s v ∧ tiV s v ≤ 575999999 ∧ ∃ x, v.rc.row[(colIdx s.cols s.att).toNat]? = some x ∧ x.kind = 4 ∧ x.num = tiV s v := by
 have hl := fits_len h
 obtain ⟨c, hc, hn⟩ := col_named hs.at0
 obtain ⟨c', hc', hk4, hnu⟩ := hs.kind
 rw [hc] at hc'; cases hc'
 have hlt := colIdx_lt s.cols s.att hs.at0
 have hx : v.rc.row[(colIdx s.cols s.att).toNat]? = some v.rc.row[(colIdx s.cols s.att).toNat] := List.getElem?_eq_getElem (by omega)
 have hkc : kcolB s c = true := by
  unfold kcolB
  rw [show eqS c.name s.att = true by
   unfold named at hn; unfold eqS; rw [beq_iff_eq] at hn ⊢; first | exact hn | exact hn.symm]
  rfl
 obtain ⟨h1, h2⟩ := ok_kcol h hc hx hkc
 have ht : tiV s v = v.rc.row[(colIdx s.cols s.att).toNat].num ∧ v.rc.row[(colIdx s.cols s.att).toNat].kind = 4 := by
  have hk : v.rc.row[(colIdx s.cols s.att).toNat].kind = 4 := by
   unfold badB at h2
   rw [hnu, hk4] at h2
   simp at h2
   exact h2.2 h2.1
  refine ⟨?_, hk⟩
  show timeV s v.rc = _
  unfold timeV
  rw [List.getD_eq_getElem?_getD, hx]
  simp only [Option.getD_some]
  have h0 : fitsV s v.rc = 0 := h
  rw [if_neg (by rw [h0, hk]; have := hs.at0; omega)]
 have hv := h1
 unfold validB at hv
 rw [ht.2] at hv
 simp at hv
 exact ⟨by omega, by omega, _, hx, ht.2, ht.1.symm⟩

theorem tm_valid {t : Int} (h0 : 0 ≤ t) (h1 : t ≤ 575999999) : validB (tmV t) = true := by
 unfold validB tmV
 simp [h0, h1]
 rfl

theorem end_valid {s : Sou} (hs : s.good) {L : List Ver} (hok : ∀ v ∈ L, okV s v) {v : Ver} {e : V} (h : EndOf s L v e) : validB e = true ∧ (e.kind = 0 ∨ e.kind = 4) := by
 rcases h with ⟨rfl, _⟩ | ⟨w, hw, _, _, rfl, _⟩
 ·exact ⟨by decide, .inl rfl⟩
 ·obtain ⟨h1, h2, _⟩ := ok_time hs (hok w hw)
  exact ⟨tm_valid h1 h2, .inr rfl⟩

theorem ivs_fit {s : Sou} (hs : s.good) {L : List Ver} (hok : ∀ v ∈ L, okV s v) (hu : Uq s L) {e : Ent} (he : e ∈ ivsV s L) : e.row.length = s.cols.length + 2 ∧ chkRow (hcols s) e.row = 0 ∧ fitB e = 0 ∧ e.cnt = 1 := by
 obtain ⟨v, rv, dv, en, hen, rfl⟩ := (mem_ivs hu e).1 he
 have hov := hok v rv.1
 have hl := fits_len hov
 obtain ⟨t1, t2, _⟩ := ok_time hs hov
 obtain ⟨e1, e2⟩ := end_valid hs hok hen
 have hr := ok_row hov dv
 unfold chkRow at hr
 rw [if_pos hl] at hr
 have hlen : (ivE s v en).row.length = s.cols.length + 2 := ivE_len hl
 refine ⟨hlen, ?_, ?_, rfl⟩
 ·unfold chkRow
  rw [if_pos (by rw [hlen, hcols, List.length_append]; rfl)]
  refine chkGo_app hl.symm hr ?_
  rw [chkGo, if_neg (by rw [tm_valid t1 t2]; simp), if_neg (by simp [badB, tmV]), chkGo, if_neg (by rw [e1]; simp), if_neg (by rcases e2 with h | h <;> simp [badB, h])]; rfl
 ·have hv := row_valid hov dv
  have h10 := (okV_len hs hov).1
  unfold fitB
  rw [if_neg (by rw [hlen]; show ¬ (12 < s.cols.length + 2 ∨ (1 : Int) < -65536 ∨ 65536 < (1 : Int)); have := hs.ten; omega), if_pos]
  refine List.all_eq_true.2 fun x hx => ?_
  rcases List.mem_append.1 (show x ∈ v.rc.row ++ [tmV (tiV s v), en] from hx) with hx | hx
  ·exact hv x hx
  ·rcases List.mem_cons.1 hx with rfl | hx
   ·exact tm_valid t1 t2
   ·rw [List.mem_singleton.1 hx]; exact e1

theorem ivs_bag {s : Sou} (hs : s.good) {L : List Ver} (hok : ∀ v ∈ L, okV s v) (hu : Uq s L) (hl : L.length ≤ 4096) : bagB (ivsV s L) = 0 :=
 (bagB_iff _).2 ⟨Nat.le_trans (ivsV_len s L) hl, fun e he => by obtain ⟨_, _, h1, h2⟩ := ivs_fit hs hok hu he; exact ⟨h1, by rw [h2]; decide⟩, srt_ivs hok hu⟩

end Go.AW

namespace Go.AW
variable [Draws]
attribute [local irreducible] ACalls
set_option maxRecDepth 20000 in
theorem closure_nil {P : Program} (F : F_z0w P) (i k : Nat) (r : Rec) (hn : r.row ≠ []) (hl : r.row.length ≤ 1000) :
  ACalls P F.id [.int .i64 i, .int .i64 k, .agg (recC r), .ptr 0 1 0 0] [.arr 1 [[.nil]]] (fun q H' => q = .tuple [] ∧ H' = [.arr 1 [[.sl 1 1 0 1]], vO [⟨r, i, k⟩]]) := by
 have h0 : ACalls P F.id [.int .i64 i, .int .i64 k, .agg (recC r), .ptr 0 1 0 0] [.arr 1 [[.nil]]] (fun q H' => q = .tuple [] ∧ H' = [.arr 1 [[.sl 2 1 0 1]], .arr 3 [recC r], .arr 5 [verC ⟨r, i, k⟩]]) := by
  refine acalls_of_body F.has ?_
  (conv => whnf); refine ⟨_, copyRecord_spec F.z0y r hn hl _, ?_⟩
  (conv => whnf); refine And.intro (⟨roomMul (by simp) (by omega), roomB_le (by simp)⟩) ?_
  repeat ((conv => whnf); refine And.intro rfl ?_)
  conv => whnf
  rfl
 refine h0.gpI [0, 2] (by simp) (keepB_one rfl rfl rfl) ⟨⟨_, rfl, ob11 (.keep 2 _ _ _ 1 rfl) rfl⟩, ⟨_, rfl, .same _ _ (pureEs_vsC [⟨r, i, k⟩])⟩, trivial⟩ (.tuple [] [] rfl fun i v q h => by simp at h)

set_option maxRecDepth 20000 in
theorem closure_app {P : Program} (F : F_z0w P) (i k : Nat) (r : Rec) (hn : r.row ≠ []) (hl : r.row.length ≤ 1000) (U : List Ver) (hU : U.length ≤ 900000) :
  ACalls P F.id [.int .i64 i, .int .i64 k, .agg (recC r), .ptr 0 1 0 0] [.arr 1 [[.sl 1 U.length 0 U.length]], vO U]
   (fun q H' => q = .tuple [] ∧ H' = [.arr 1 [[.sl 1 (U.length + 1) 0 (U.length + 1)]], vO (U ++ [⟨r, i, k⟩]), .arr 3 [recC r]]) := by
 refine acalls_of_body F.has ?_
 (conv => whnf); refine ⟨_, copyRecord_spec F.z0y r hn hl _, ?_⟩
 (conv => whnf); refine recT (by rw [vsC_length]; exact Nat.beq_refl _) ?_
 (conv => whnf); refine And.intro (⟨roomMul (by simp; omega) (by omega), roomB_le (by simp; omega), rfl, by rw [vsC_length]⟩) ?_
 repeat ((conv => whnf); refine And.intro rfl ?_)
 conv => whnf
 have hcn : vsC U ++ [verC ⟨r, i, k⟩] = vsC (U ++ [⟨r, i, k⟩]) := by rw [vsC_append]; rfl
 have hl2 : (vsC U ++ [verC ⟨r, i, k⟩]).length = U.length + 1 := by rw [hcn, vsC_length]; simp
 show [AObj.arr 1 [[.sl 1 (vsC U ++ [verC ⟨r, i, k⟩]).length 0 (vsC U ++ [verC ⟨r, i, k⟩]).length]], .arr 5 (vsC U ++ [verC ⟨r, i, k⟩]), .arr 3 [recC r]] = _
 rw [hl2, hcn]

theorem one_get {α : Type} {a : α} {k : Nat} {x : α} (h : [a][k]? = some x) : k = 0 ∧ x = a := by
 cases k with
 | zero => cases h; exact ⟨rfl, rfl⟩
 | succ k => simp at h

theorem ren11 {σ : Nat → Nat} {c c1 : AVal} (h : RenN σ c c1) : RenNO σ (.arr 1 [[c]]) (.arr 1 [[c1]]) :=
 .arr 1 _ _ rfl (fun i e e1 h1 h2 => by obtain ⟨rfl, rfl⟩ := one_get h1; obtain ⟨_, rfl⟩ := one_get h2; rfl) fun i j e e1 d d1 h1 h2 h3 h4 => by
  obtain ⟨rfl, rfl⟩ := one_get h1
  obtain ⟨_, rfl⟩ := one_get h2
  obtain ⟨rfl, rfl⟩ := one_get h3
  obtain ⟨_, rfl⟩ := one_get h4
  exact h

theorem closure_nilF {P : Program} (F : F_z0w P) (i k : Nat) (r : Rec) (hn : r.row ≠ []) (hl : r.row.length ≤ 1000) (b0 b1 b3 b4 b5 b6 : AObj) :
  ACalls P F.id [.int .i64 i, .int .i64 k, .agg (recC r), .ptr 2 1 0 0] [b0, b1, .arr 1 [[.nil]], b3, b4, b5, b6]
   (fun q H' => q = .tuple [] ∧ H' = [b0, b1, .arr 1 [[.sl 7 1 0 1]], b3, b4, b5, b6, vO [⟨r, i, k⟩]]) := by
 refine (closure_nil F i k r hn hl).frL [2] (by simp) rfl ⟨⟨_, rfl, .same rfl⟩, trivial⟩ ⟨.closed _ rfl, .closed _ rfl, .closed _ rfl, .ptr 0 1 0 0, trivial⟩ (.tuple [] [] rfl fun i v q h => by simp at h) rfl ⟨⟨_, rfl, ren11 (.sl 1 1 0 1)⟩, ⟨_, rfl, .same (pureEs_vsC [⟨r, i, k⟩])⟩, trivial⟩
  ⟨.inr rfl, .inr rfl, .inl (by simp), .inr rfl, .inr rfl, .inr rfl, .inr rfl, trivial⟩

theorem closure_appF {P : Program} (F : F_z0w P) (i k : Nat) (r : Rec) (hn : r.row ≠ []) (hl : r.row.length ≤ 1000) (U : List Ver) (hU : U.length ≤ 900000) (b0 b1 b3 b4 b6 b7 : AObj) :
  ACalls P F.id [.int .i64 i, .int .i64 k, .agg (recC r), .ptr 2 1 0 0] [b0, b1, .arr 1 [[.sl 5 U.length 0 U.length]], b3, b4, vO U, b6, b7]
   (fun q H' => q = .tuple [] ∧ H' = [b0, b1, .arr 1 [[.sl 5 (U.length + 1) 0 (U.length + 1)]], b3, b4, vO (U ++ [⟨r, i, k⟩]), b6, b7, .arr 3 [recC r]]) := by
 exact (closure_app F i k r hn hl U hU).frL [2, 5] (by simp) rfl ⟨⟨_, rfl, ren11 (.sl 1 _ _ _)⟩, ⟨_, rfl, .same (pureEs_vsC _)⟩, trivial⟩ ⟨.closed _ rfl, .closed _ rfl, .closed _ rfl, .ptr 0 1 0 0, trivial⟩ (.tuple [] [] rfl fun i v q h => by simp at h) rfl
  ⟨⟨_, rfl, ren11 (.sl 1 _ _ _)⟩, ⟨_, rfl, .same (pureEs_vsC _)⟩, ⟨_, rfl, .same rfl⟩, trivial⟩ ⟨.inr rfl, .inr rfl, .inl (by simp), .inr rfl, .inr rfl, .inl (by simp), .inr rfl, .inr rfl, trivial⟩

end Go.AW

namespace Go.AW
variable [Draws]
attribute [local irreducible] ACalls
theorem cou_step {s : Sou} {x : Del} {i j : Nat} {r : Rec} {rs : List Rec} : (if eqS x.f.src s.name then couR s i x.jd j (r :: rs) else []) = (if countB s x j r then [(⟨r, i, j⟩ : Ver)] else []) ++ (if eqS x.f.src s.name then couR s i x.jd (j + 1) rs else []) := by
 unfold countB
 by_cases h : eqS x.f.src s.name = true
 ·rw [if_pos h, if_pos h, couR, h]
  by_cases h2 : j < x.jd.length ∧ x.jd.getD j 1 = 0 ∧ fitsV s r = 0
  ·rw [if_pos h2, if_pos (by obtain ⟨a, b, c⟩ := h2; simp only [Bool.true_and, Bool.and_eq_true, decide_eq_true_eq, beq_iff_eq]; exact ⟨a, b, c⟩)]; rfl
  ·rw [if_neg h2, if_neg (by simp only [Bool.true_and, Bool.and_eq_true, decide_eq_true_eq, beq_iff_eq]; exact h2)]; rfl
 ·rw [if_neg h, if_neg h, if_neg (by simp [h])]; rfl

theorem keepB_three {a b c : Nat} {ids : List Nat} {H : List AObj} {o1 o2 o3 : AObj} (h1 : ids[0]? = some 0) (h2 : H[0]? = some o1) (h3 : o1.olen = a) (g1 : ids[1]? = some 1) (g2 : H[1]? = some o2) (g3 : o2.olen = b) (k1 : ids[2]? = some 2) (k2 : H[2]? = some o3) (k3 : o3.olen = c) : keepB [a, b, c] ids H := fun k n hk => by
 rcases k with _ | _ | _ | k
 ·simp at hk; subst hk; exact ⟨h1, _, h2, h3⟩
 ·simp at hk; subst hk; exact ⟨g1, _, g2, g3⟩
 ·simp at hk; subst hk; exact ⟨k1, _, k2, k3⟩
 ·simp at hk

abbrev bL (l : List Del) : AObj := .arr 1 [ledC l]

abbrev bS (s : Sou) : AObj := .arr 7 [souC s]

abbrev bX (x : Del) : AObj := .arr 4 [delC x]

abbrev cN (k n : Nat) : AObj := .arr 1 [[.sl k n 0 n]]

theorem pureL (l : List Del) : pureO (bL l) = true := rfl

theorem pureX (x : Del) : pureO (bX x) = true := rfl

theorem count_ne {s : Sou} {x : Del} {j : Nat} {r : Rec} (hc : s.cols ≠ []) (h : countB s x j r = true) : r.row ≠ [] := by
 unfold countB at h
 simp only [Bool.and_eq_true, beq_iff_eq] at h
 have := fits_len h.2.2.2
 intro e
 rw [e] at this
 exact hc (List.eq_nil_of_length_eq_zero this.symm)

set_option maxHeartbeats 2000000 in
set_option maxRecDepth 20000 in
theorem each_spec {P : Program} (F : F_z10 P) (G : F_z0w P) (s : Sou) (hs : s.ok) (hc : s.cols ≠ []) (l : List Del) (hl : l.length ≤ 100) (hok : ∀ x ∈ l, x.ok) :
  ACalls P F.id [.agg (ledC l), .agg (souC s), .fn G.id [.ptr 2 1 0 0]] [bL l, bS s, .arr 1 [[.nil]]]
   (fun r H' => r = .tuple [] ∧ ((couL s 0 l = [] ∧ H' = [bL l, bS s, .arr 1 [[.nil]], bL l, bS s]) ∨ (couL s 0 l ≠ [] ∧ H' = [bL l, bS s, cN 5 (couL s 0 l).length, bL l, bS s, vO (couL s 0 l)]))) := by
 refine acalls_of_body F.has ?_
 conv => whnf
 refine ⟨fun m ρ H1 => ∃ (k : Nat) (U : List Ver), k + m = l.length ∧ U.length ≤ 1000 * k ∧ U ++ couL s k (l.drop k) = couL s 0 l ∧ ((U = [] ∧ H1 = [bL l, bS s, .arr 1 [[.nil]], bL l, bS s]) ∨ (U ≠ [] ∧ H1 = [bL l, bS s, cN 5 U.length, bL l, bS s, vO U])) ∧
  Sv 38 [(2, .fn G.id [.ptr 2 1 0 0]), (3, .ptr 3 1 0 0), (4, .ptr 4 1 0 0), (11, .list false 4 (dsC l)), (12, .int .i64 l.length), (13, .int .i64 k)] ρ, l.length, [], ?_, ?_⟩
 ·exact ⟨0, [], by omega, by simp, rfl, .inl ⟨rfl, rfl⟩, Sv.intro rfl ⟨rfl, rfl, rfl, rfl, intEq (by rw [dsC_length]), rfl, trivial⟩⟩
 rintro m ρ H1 ⟨k, U, hk, hU, hr, hH, d, rfl⟩
 have fin : ∀ H : List AObj, ((U = [] ∧ H = [bL l, bS s, .arr 1 [[.nil]], bL l, bS s]) ∨ (U ≠ [] ∧ H = [bL l, bS s, cN 5 U.length, bL l, bS s, vO U])) → l.length ≤ k → ((couL s 0 l = [] ∧ H = [bL l, bS s, .arr 1 [[.nil]], bL l, bS s]) ∨ (couL s 0 l ≠ [] ∧ H = [bL l, bS s, cN 5 (couL s 0 l).length, bL l, bS s, vO (couL s 0 l)])) := fun H h hkl => by
  rw [List.drop_of_length_le hkl, couL, List.append_nil] at hr
  rw [← hr]; exact h
 rcases hH with ⟨rfl, rfl⟩ | ⟨hne, rfl⟩
 ·(conv => whnf); refine recA (fun hlt => ?_) (fun hlt => ?_)
  ·simp at hlt
   have hx : l[k]? = some l[k] := List.getElem?_eq_getElem hlt
   obtain ⟨x1, x2, x3⟩ := hok _ (List.getElem_mem hlt)
   generalize l[k] = x at hx x1 x2 x3
   rw [drop_cons hx, couL] at hr
   (conv => whnf); refine And.intro (by omega) ?_
   (conv => whnf); refine recO (dsC_at hx) ?_
   conv => whnf
   refine ⟨fun m2 ρ H1 => ∃ (j : Nat) (U : List Ver) (p : Nat), j + m2 = x.f.recs.length ∧ U.length ≤ 1000 * k + j ∧ U ++ ((if eqS x.f.src s.name then couR s k x.jd j (x.f.recs.drop j) else []) ++ couL s (k + 1) (l.drop (k + 1))) = couL s 0 l ∧ ((U = [] ∧ p = 5 ∧ H1 = [bL l, bS s, .arr 1 [[.nil]], bL l, bS s, bX x]) ∨ (U ≠ [] ∧ p = 6 ∧ H1 = [bL l, bS s, cN 5 U.length, bL l, bS s, vO U, bX x])) ∧ Sv 38 [(2, .fn G.id [.ptr 2 1 0 0]), (3, .ptr 3 1 0 0), (4, .ptr 4 1 0 0), (6, .int .i64 k), (7, .ptr p 1 0 0), (11, .list false 4 (dsC l)), (12, .int .i64 l.length), (13, .int .i64 k), (20, .list false 3 (rC x.f.recs)), (21, .int .i64 x.f.recs.length), (22, .int .i64 j)] ρ, x.f.recs.length, [], ?_, ?_⟩
   ·exact ⟨0, [], 5, by omega, by omega, hr, .inl ⟨rfl, rfl, rfl⟩, Sv.intro rfl ⟨rfl, rfl, rfl, rfl, rfl, rfl, rfl, rfl, rfl, intEq (by rw [rC_length]), rfl, trivial⟩⟩
   clear hr hU fin
   rintro m2 ρ H1 ⟨j, U, p, hj, hU, hr, hH, d, rfl⟩
   have ek : IntKind.i64.wrap ((k : Int) + 1) = ((k + 1 : Nat) : Int) := by rw [wrapI _ (by omega) (by omega)]; omega
   rcases hH with ⟨rfl, rfl, rfl⟩ | ⟨hne, rfl, rfl⟩
   ·(conv => whnf); refine recA (fun hlt2 => ?_) (fun hlt2 => ?_)
    ·simp [rC_length] at hlt2
     have hrx : x.f.recs[j]? = some x.f.recs[j] := List.getElem?_eq_getElem hlt2
     have hrl := x2 _ (List.getElem_mem hlt2)
     generalize x.f.recs[j] = r at hrx hrl
     rw [drop_cons hrx, cou_step] at hr
     have ej : IntKind.i64.wrap ((j : Int) + 1) = ((j + 1 : Nat) : Int) := by rw [wrapI _ (by omega) (by omega)]; omega
     (conv => whnf); refine And.intro (by omega) ?_
     (conv => whnf); refine recO (rC_at hrx) ?_
     (conv => whnf); refine ACalls.use (counts_spec F.z0z s hs x j r hrx (by omega) hrl _) ?_
     (conv => whnf); refine recA (fun hcb => ?_) (fun hcb => ?_)
     ·rw [if_pos hcb] at hr
      have hn : r.row ≠ [] := count_ne hc hcb
      (conv => whnf); refine ACalls.retH (closure_nilF G k j r hn hrl _ _ _ _ _ _) ?_
      conv => whnf
      refine ⟨m2 - 1, by omega, Gp.keepL (H1 := [bL l, bS s, cN 5 1, bL l, bS s, vO [⟨r, k, j⟩], bX x]) [0, 1, 2, 3, 4, 7, 5] (by simp) (keepB_three rfl rfl rfl rfl rfl rfl rfl rfl rfl)
       ⟨⟨_, rfl, .same _ _ (pureL l)⟩, ⟨_, rfl, .same _ _ (pureS s)⟩, ⟨_, rfl, ob11 (.keep 7 _ _ _ 5 rfl) rfl⟩, ⟨_, rfl, .same _ _ (pureL l)⟩, ⟨_, rfl, .same _ _ (pureS s)⟩, ⟨_, rfl, .same _ _ (pureEs_vsC [⟨r, k, j⟩])⟩, ⟨_, rfl, .same _ _ (pureX x)⟩, trivial⟩ rfl ?_ fun ρ1 h => ⟨j + 1, [⟨r, k, j⟩], 6, by omega, by simp; omega, by rw [← hr]; simp, .inr ⟨by simp, rfl, rfl⟩, h⟩⟩
      exact ⟨.fnc _ _ _ rfl (fun i v q h1 h2 => by obtain ⟨rfl, rfl⟩ := one_get h1; cases h2; exact .keepP 2 1 0 0 2 rfl), .keepP 3 1 0 0 3 rfl, .keepP 4 1 0 0 4 rfl, .closed _ rfl, .keepP 5 1 0 0 6 rfl, .closed (.list false 4 (dsC l)) rfl, .closed _ rfl, .closed _ rfl, .closed (.list false 3 (rC x.f.recs)) rfl, .closed _ rfl, pub_int ej, trivial⟩
     ·rw [if_neg (by rw [hcb]; simp), List.nil_append] at hr
      conv => whnf
      refine ⟨m2 - 1, by omega, Gp.keepL (H1 := [bL l, bS s, .arr 1 [[.nil]], bL l, bS s, bX x]) [0, 1, 2, 3, 4, 5] (by simp) (keepB_three rfl rfl rfl rfl rfl rfl rfl rfl rfl)
       ⟨⟨_, rfl, .same _ _ (pureL l)⟩, ⟨_, rfl, .same _ _ (pureS s)⟩, ⟨_, rfl, .same _ _ rfl⟩, ⟨_, rfl, .same _ _ (pureL l)⟩, ⟨_, rfl, .same _ _ (pureS s)⟩, ⟨_, rfl, .same _ _ (pureX x)⟩, trivial⟩ rfl ?_ fun ρ1 h => ⟨j + 1, [], 5, by omega, by simp, hr, .inl ⟨rfl, rfl, rfl⟩, h⟩⟩
      exact ⟨.fnc _ _ _ rfl (fun i v q h1 h2 => by obtain ⟨rfl, rfl⟩ := one_get h1; cases h2; exact .keepP 2 1 0 0 2 rfl), .keepP 3 1 0 0 3 rfl, .keepP 4 1 0 0 4 rfl, .closed _ rfl, .keepP 5 1 0 0 5 rfl, .closed (.list false 4 (dsC l)) rfl, .closed _ rfl, .closed _ rfl, .closed (.list false 3 (rC x.f.recs)) rfl, .closed _ rfl, pub_int ej, trivial⟩
    ·simp [rC_length] at hlt2
     rw [List.drop_of_length_le hlt2] at hr
     have hr2 : [] ++ couL s (k + 1) (l.drop (k + 1)) = couL s 0 l := by rw [← hr]; simp [couR]
     conv => whnf
     refine ⟨m - 1, by omega, Gp.keepL (H1 := [bL l, bS s, .arr 1 [[.nil]], bL l, bS s]) [0, 1, 2, 3, 4] (by simp) (keepB_three rfl rfl rfl rfl rfl rfl rfl rfl rfl)
      ⟨⟨_, rfl, .same _ _ (pureL l)⟩, ⟨_, rfl, .same _ _ (pureS s)⟩, ⟨_, rfl, .same _ _ rfl⟩, ⟨_, rfl, .same _ _ (pureL l)⟩, ⟨_, rfl, .same _ _ (pureS s)⟩, trivial⟩ rfl ?_ fun ρ1 h => ⟨k + 1, [], by omega, by simp, hr2, .inl ⟨rfl, rfl⟩, h⟩⟩
     exact ⟨.fnc _ _ _ rfl (fun i v q h1 h2 => by obtain ⟨rfl, rfl⟩ := one_get h1; cases h2; exact .keepP 2 1 0 0 2 rfl), .keepP 3 1 0 0 3 rfl, .keepP 4 1 0 0 4 rfl, .closed (.list false 4 (dsC l)) rfl, .closed _ rfl, pub_int ek, trivial⟩
   ·(conv => whnf); refine recA (fun hlt2 => ?_) (fun hlt2 => ?_)
    ·simp [rC_length] at hlt2
     have hrx : x.f.recs[j]? = some x.f.recs[j] := List.getElem?_eq_getElem hlt2
     have hrl := x2 _ (List.getElem_mem hlt2)
     generalize x.f.recs[j] = r at hrx hrl
     rw [drop_cons hrx, cou_step] at hr
     have ej : IntKind.i64.wrap ((j : Int) + 1) = ((j + 1 : Nat) : Int) := by rw [wrapI _ (by omega) (by omega)]; omega
     (conv => whnf); refine And.intro (by omega) ?_
     (conv => whnf); refine recO (rC_at hrx) ?_
     (conv => whnf); refine ACalls.use (counts_spec F.z0z s hs x j r hrx (by omega) hrl _) ?_
     (conv => whnf); refine recA (fun hcb => ?_) (fun hcb => ?_)
     ·rw [if_pos hcb] at hr
      have hn : r.row ≠ [] := count_ne hc hcb
      (conv => whnf); refine ACalls.retH (closure_appF G k j r hn hrl U (by omega) _ _ _ _ _ _) ?_
      conv => whnf
      refine ⟨m2 - 1, by omega, Gp.keepL (H1 := [bL l, bS s, cN 5 (U.length + 1), bL l, bS s, vO (U ++ [⟨r, k, j⟩]), bX x]) [0, 1, 2, 3, 4, 5, 6] (by simp) (keepB_three rfl rfl rfl rfl rfl rfl rfl rfl rfl)
       ⟨⟨_, rfl, .same _ _ (pureL l)⟩, ⟨_, rfl, .same _ _ (pureS s)⟩, ⟨_, rfl, ob11 (.keep 5 _ _ _ 5 rfl) rfl⟩, ⟨_, rfl, .same _ _ (pureL l)⟩, ⟨_, rfl, .same _ _ (pureS s)⟩, ⟨_, rfl, .same _ _ (pureEs_vsC _)⟩, ⟨_, rfl, .same _ _ (pureX x)⟩, trivial⟩ rfl ?_ fun ρ1 h => ⟨j + 1, U ++ [⟨r, k, j⟩], 6, by omega, by simp; omega, by rw [← hr]; simp, .inr ⟨by simp, rfl, by simp⟩, h⟩⟩
      exact ⟨.fnc _ _ _ rfl (fun i v q h1 h2 => by obtain ⟨rfl, rfl⟩ := one_get h1; cases h2; exact .keepP 2 1 0 0 2 rfl), .keepP 3 1 0 0 3 rfl, .keepP 4 1 0 0 4 rfl, .closed _ rfl, .keepP 6 1 0 0 6 rfl, .closed (.list false 4 (dsC l)) rfl, .closed _ rfl, .closed _ rfl, .closed (.list false 3 (rC x.f.recs)) rfl, .closed _ rfl, pub_int ej, trivial⟩
     ·rw [if_neg (by rw [hcb]; simp), List.nil_append] at hr
      conv => whnf
      refine ⟨m2 - 1, by omega, Gp.keepL (H1 := [bL l, bS s, cN 5 U.length, bL l, bS s, vO U, bX x]) [0, 1, 2, 3, 4, 5, 6] (by simp) (keepB_three rfl rfl rfl rfl rfl rfl rfl rfl rfl)
       ⟨⟨_, rfl, .same _ _ (pureL l)⟩, ⟨_, rfl, .same _ _ (pureS s)⟩, ⟨_, rfl, ob11 (.keep 5 _ _ _ 5 rfl) rfl⟩, ⟨_, rfl, .same _ _ (pureL l)⟩, ⟨_, rfl, .same _ _ (pureS s)⟩, ⟨_, rfl, .same _ _ (pureEs_vsC _)⟩, ⟨_, rfl, .same _ _ (pureX x)⟩, trivial⟩ rfl ?_ fun ρ1 h => ⟨j + 1, U, 6, by omega, by omega, hr, .inr ⟨hne, rfl, rfl⟩, h⟩⟩
      exact ⟨.fnc _ _ _ rfl (fun i v q h1 h2 => by obtain ⟨rfl, rfl⟩ := one_get h1; cases h2; exact .keepP 2 1 0 0 2 rfl), .keepP 3 1 0 0 3 rfl, .keepP 4 1 0 0 4 rfl, .closed _ rfl, .keepP 6 1 0 0 6 rfl, .closed (.list false 4 (dsC l)) rfl, .closed _ rfl, .closed _ rfl, .closed (.list false 3 (rC x.f.recs)) rfl, .closed _ rfl, pub_int ej, trivial⟩
    ·simp [rC_length] at hlt2
     rw [List.drop_of_length_le hlt2] at hr
     have hr2 : U ++ couL s (k + 1) (l.drop (k + 1)) = couL s 0 l := by rw [← hr]; simp [couR]
     conv => whnf
     refine ⟨m - 1, by omega, Gp.keepL (H1 := [bL l, bS s, cN 5 U.length, bL l, bS s, vO U]) [0, 1, 2, 3, 4, 5] (by simp) (keepB_three rfl rfl rfl rfl rfl rfl rfl rfl rfl)
      ⟨⟨_, rfl, .same _ _ (pureL l)⟩, ⟨_, rfl, .same _ _ (pureS s)⟩, ⟨_, rfl, ob11 (.keep 5 _ _ _ 5 rfl) rfl⟩, ⟨_, rfl, .same _ _ (pureL l)⟩, ⟨_, rfl, .same _ _ (pureS s)⟩, ⟨_, rfl, .same _ _ (pureEs_vsC _)⟩, trivial⟩ rfl ?_ fun ρ1 h => ⟨k + 1, U, by omega, by omega, hr2, .inr ⟨hne, rfl⟩, h⟩⟩
     exact ⟨.fnc _ _ _ rfl (fun i v q h1 h2 => by obtain ⟨rfl, rfl⟩ := one_get h1; cases h2; exact .keepP 2 1 0 0 2 rfl), .keepP 3 1 0 0 3 rfl, .keepP 4 1 0 0 4 rfl, .closed (.list false 4 (dsC l)) rfl, .closed _ rfl, pub_int ek, trivial⟩
  ·simp at hlt
   conv => whnf
   exact ⟨rfl, fin _ (.inl ⟨rfl, rfl⟩) hlt⟩
 ·(conv => whnf); refine recA (fun hlt => ?_) (fun hlt => ?_)
  ·simp at hlt
   have hx : l[k]? = some l[k] := List.getElem?_eq_getElem hlt
   obtain ⟨x1, x2, x3⟩ := hok _ (List.getElem_mem hlt)
   generalize l[k] = x at hx x1 x2 x3
   rw [drop_cons hx, couL] at hr
   (conv => whnf); refine And.intro (by omega) ?_
   (conv => whnf); refine recO (dsC_at hx) ?_
   conv => whnf
   refine ⟨fun m2 ρ H1 => ∃ (j : Nat) (U : List Ver) (p : Nat), j + m2 = x.f.recs.length ∧ U.length ≤ 1000 * k + j ∧ U ++ ((if eqS x.f.src s.name then couR s k x.jd j (x.f.recs.drop j) else []) ++ couL s (k + 1) (l.drop (k + 1))) = couL s 0 l ∧ ((U = [] ∧ p = 5 ∧ H1 = [bL l, bS s, .arr 1 [[.nil]], bL l, bS s, bX x]) ∨ (U ≠ [] ∧ p = 6 ∧ H1 = [bL l, bS s, cN 5 U.length, bL l, bS s, vO U, bX x])) ∧ Sv 38 [(2, .fn G.id [.ptr 2 1 0 0]), (3, .ptr 3 1 0 0), (4, .ptr 4 1 0 0), (6, .int .i64 k), (7, .ptr p 1 0 0), (11, .list false 4 (dsC l)), (12, .int .i64 l.length), (13, .int .i64 k), (20, .list false 3 (rC x.f.recs)), (21, .int .i64 x.f.recs.length), (22, .int .i64 j)] ρ, x.f.recs.length, [], ?_, ?_⟩
   ·exact ⟨0, U, 6, by omega, by omega, hr, .inr ⟨hne, rfl, rfl⟩, Sv.intro rfl ⟨rfl, rfl, rfl, rfl, rfl, rfl, rfl, rfl, rfl, intEq (by rw [rC_length]), rfl, trivial⟩⟩
   clear hr hU fin
   rintro m2 ρ H1 ⟨j, U, p, hj, hU, hr, hH, d, rfl⟩
   have ek : IntKind.i64.wrap ((k : Int) + 1) = ((k + 1 : Nat) : Int) := by rw [wrapI _ (by omega) (by omega)]; omega
   rcases hH with ⟨rfl, rfl, rfl⟩ | ⟨hne, rfl, rfl⟩
   ·(conv => whnf); refine recA (fun hlt2 => ?_) (fun hlt2 => ?_)
    ·simp [rC_length] at hlt2
     have hrx : x.f.recs[j]? = some x.f.recs[j] := List.getElem?_eq_getElem hlt2
     have hrl := x2 _ (List.getElem_mem hlt2)
     generalize x.f.recs[j] = r at hrx hrl
     rw [drop_cons hrx, cou_step] at hr
     have ej : IntKind.i64.wrap ((j : Int) + 1) = ((j + 1 : Nat) : Int) := by rw [wrapI _ (by omega) (by omega)]; omega
     (conv => whnf); refine And.intro (by omega) ?_
     (conv => whnf); refine recO (rC_at hrx) ?_
     (conv => whnf); refine ACalls.use (counts_spec F.z0z s hs x j r hrx (by omega) hrl _) ?_
     (conv => whnf); refine recA (fun hcb => ?_) (fun hcb => ?_)
     ·rw [if_pos hcb] at hr
      have hn : r.row ≠ [] := count_ne hc hcb
      (conv => whnf); refine ACalls.retH (closure_nilF G k j r hn hrl _ _ _ _ _ _) ?_
      conv => whnf
      refine ⟨m2 - 1, by omega, Gp.keepL (H1 := [bL l, bS s, cN 5 1, bL l, bS s, vO [⟨r, k, j⟩], bX x]) [0, 1, 2, 3, 4, 7, 5] (by simp) (keepB_three rfl rfl rfl rfl rfl rfl rfl rfl rfl)
       ⟨⟨_, rfl, .same _ _ (pureL l)⟩, ⟨_, rfl, .same _ _ (pureS s)⟩, ⟨_, rfl, ob11 (.keep 7 _ _ _ 5 rfl) rfl⟩, ⟨_, rfl, .same _ _ (pureL l)⟩, ⟨_, rfl, .same _ _ (pureS s)⟩, ⟨_, rfl, .same _ _ (pureEs_vsC [⟨r, k, j⟩])⟩, ⟨_, rfl, .same _ _ (pureX x)⟩, trivial⟩ rfl ?_ fun ρ1 h => ⟨j + 1, [⟨r, k, j⟩], 6, by omega, by simp; omega, by rw [← hr]; simp, .inr ⟨by simp, rfl, rfl⟩, h⟩⟩
      exact ⟨.fnc _ _ _ rfl (fun i v q h1 h2 => by obtain ⟨rfl, rfl⟩ := one_get h1; cases h2; exact .keepP 2 1 0 0 2 rfl), .keepP 3 1 0 0 3 rfl, .keepP 4 1 0 0 4 rfl, .closed _ rfl, .keepP 5 1 0 0 6 rfl, .closed (.list false 4 (dsC l)) rfl, .closed _ rfl, .closed _ rfl, .closed (.list false 3 (rC x.f.recs)) rfl, .closed _ rfl, pub_int ej, trivial⟩
     ·rw [if_neg (by rw [hcb]; simp), List.nil_append] at hr
      conv => whnf
      refine ⟨m2 - 1, by omega, Gp.keepL (H1 := [bL l, bS s, .arr 1 [[.nil]], bL l, bS s, bX x]) [0, 1, 2, 3, 4, 5] (by simp) (keepB_three rfl rfl rfl rfl rfl rfl rfl rfl rfl)
       ⟨⟨_, rfl, .same _ _ (pureL l)⟩, ⟨_, rfl, .same _ _ (pureS s)⟩, ⟨_, rfl, .same _ _ rfl⟩, ⟨_, rfl, .same _ _ (pureL l)⟩, ⟨_, rfl, .same _ _ (pureS s)⟩, ⟨_, rfl, .same _ _ (pureX x)⟩, trivial⟩ rfl ?_ fun ρ1 h => ⟨j + 1, [], 5, by omega, by simp, hr, .inl ⟨rfl, rfl, rfl⟩, h⟩⟩
      exact ⟨.fnc _ _ _ rfl (fun i v q h1 h2 => by obtain ⟨rfl, rfl⟩ := one_get h1; cases h2; exact .keepP 2 1 0 0 2 rfl), .keepP 3 1 0 0 3 rfl, .keepP 4 1 0 0 4 rfl, .closed _ rfl, .keepP 5 1 0 0 5 rfl, .closed (.list false 4 (dsC l)) rfl, .closed _ rfl, .closed _ rfl, .closed (.list false 3 (rC x.f.recs)) rfl, .closed _ rfl, pub_int ej, trivial⟩
    ·simp [rC_length] at hlt2
     rw [List.drop_of_length_le hlt2] at hr
     have hr2 : [] ++ couL s (k + 1) (l.drop (k + 1)) = couL s 0 l := by rw [← hr]; simp [couR]
     conv => whnf
     refine ⟨m - 1, by omega, Gp.keepL (H1 := [bL l, bS s, .arr 1 [[.nil]], bL l, bS s]) [0, 1, 2, 3, 4] (by simp) (keepB_three rfl rfl rfl rfl rfl rfl rfl rfl rfl)
      ⟨⟨_, rfl, .same _ _ (pureL l)⟩, ⟨_, rfl, .same _ _ (pureS s)⟩, ⟨_, rfl, .same _ _ rfl⟩, ⟨_, rfl, .same _ _ (pureL l)⟩, ⟨_, rfl, .same _ _ (pureS s)⟩, trivial⟩ rfl ?_ fun ρ1 h => ⟨k + 1, [], by omega, by simp, hr2, .inl ⟨rfl, rfl⟩, h⟩⟩
     exact ⟨.fnc _ _ _ rfl (fun i v q h1 h2 => by obtain ⟨rfl, rfl⟩ := one_get h1; cases h2; exact .keepP 2 1 0 0 2 rfl), .keepP 3 1 0 0 3 rfl, .keepP 4 1 0 0 4 rfl, .closed (.list false 4 (dsC l)) rfl, .closed _ rfl, pub_int ek, trivial⟩
   ·(conv => whnf); refine recA (fun hlt2 => ?_) (fun hlt2 => ?_)
    ·simp [rC_length] at hlt2
     have hrx : x.f.recs[j]? = some x.f.recs[j] := List.getElem?_eq_getElem hlt2
     have hrl := x2 _ (List.getElem_mem hlt2)
     generalize x.f.recs[j] = r at hrx hrl
     rw [drop_cons hrx, cou_step] at hr
     have ej : IntKind.i64.wrap ((j : Int) + 1) = ((j + 1 : Nat) : Int) := by rw [wrapI _ (by omega) (by omega)]; omega
     (conv => whnf); refine And.intro (by omega) ?_
     (conv => whnf); refine recO (rC_at hrx) ?_
     (conv => whnf); refine ACalls.use (counts_spec F.z0z s hs x j r hrx (by omega) hrl _) ?_
     (conv => whnf); refine recA (fun hcb => ?_) (fun hcb => ?_)
     ·rw [if_pos hcb] at hr
      have hn : r.row ≠ [] := count_ne hc hcb
      (conv => whnf); refine ACalls.retH (closure_appF G k j r hn hrl U (by omega) _ _ _ _ _ _) ?_
      conv => whnf
      refine ⟨m2 - 1, by omega, Gp.keepL (H1 := [bL l, bS s, cN 5 (U.length + 1), bL l, bS s, vO (U ++ [⟨r, k, j⟩]), bX x]) [0, 1, 2, 3, 4, 5, 6] (by simp) (keepB_three rfl rfl rfl rfl rfl rfl rfl rfl rfl)
       ⟨⟨_, rfl, .same _ _ (pureL l)⟩, ⟨_, rfl, .same _ _ (pureS s)⟩, ⟨_, rfl, ob11 (.keep 5 _ _ _ 5 rfl) rfl⟩, ⟨_, rfl, .same _ _ (pureL l)⟩, ⟨_, rfl, .same _ _ (pureS s)⟩, ⟨_, rfl, .same _ _ (pureEs_vsC _)⟩, ⟨_, rfl, .same _ _ (pureX x)⟩, trivial⟩ rfl ?_ fun ρ1 h => ⟨j + 1, U ++ [⟨r, k, j⟩], 6, by omega, by simp; omega, by rw [← hr]; simp, .inr ⟨by simp, rfl, by simp⟩, h⟩⟩
      exact ⟨.fnc _ _ _ rfl (fun i v q h1 h2 => by obtain ⟨rfl, rfl⟩ := one_get h1; cases h2; exact .keepP 2 1 0 0 2 rfl), .keepP 3 1 0 0 3 rfl, .keepP 4 1 0 0 4 rfl, .closed _ rfl, .keepP 6 1 0 0 6 rfl, .closed (.list false 4 (dsC l)) rfl, .closed _ rfl, .closed _ rfl, .closed (.list false 3 (rC x.f.recs)) rfl, .closed _ rfl, pub_int ej, trivial⟩
     ·rw [if_neg (by rw [hcb]; simp), List.nil_append] at hr
      conv => whnf
      refine ⟨m2 - 1, by omega, Gp.keepL (H1 := [bL l, bS s, cN 5 U.length, bL l, bS s, vO U, bX x]) [0, 1, 2, 3, 4, 5, 6] (by simp) (keepB_three rfl rfl rfl rfl rfl rfl rfl rfl rfl)
       ⟨⟨_, rfl, .same _ _ (pureL l)⟩, ⟨_, rfl, .same _ _ (pureS s)⟩, ⟨_, rfl, ob11 (.keep 5 _ _ _ 5 rfl) rfl⟩, ⟨_, rfl, .same _ _ (pureL l)⟩, ⟨_, rfl, .same _ _ (pureS s)⟩, ⟨_, rfl, .same _ _ (pureEs_vsC _)⟩, ⟨_, rfl, .same _ _ (pureX x)⟩, trivial⟩ rfl ?_ fun ρ1 h => ⟨j + 1, U, 6, by omega, by omega, hr, .inr ⟨hne, rfl, rfl⟩, h⟩⟩
      exact ⟨.fnc _ _ _ rfl (fun i v q h1 h2 => by obtain ⟨rfl, rfl⟩ := one_get h1; cases h2; exact .keepP 2 1 0 0 2 rfl), .keepP 3 1 0 0 3 rfl, .keepP 4 1 0 0 4 rfl, .closed _ rfl, .keepP 6 1 0 0 6 rfl, .closed (.list false 4 (dsC l)) rfl, .closed _ rfl, .closed _ rfl, .closed (.list false 3 (rC x.f.recs)) rfl, .closed _ rfl, pub_int ej, trivial⟩
    ·simp [rC_length] at hlt2
     rw [List.drop_of_length_le hlt2] at hr
     have hr2 : U ++ couL s (k + 1) (l.drop (k + 1)) = couL s 0 l := by rw [← hr]; simp [couR]
     conv => whnf
     refine ⟨m - 1, by omega, Gp.keepL (H1 := [bL l, bS s, cN 5 U.length, bL l, bS s, vO U]) [0, 1, 2, 3, 4, 5] (by simp) (keepB_three rfl rfl rfl rfl rfl rfl rfl rfl rfl)
      ⟨⟨_, rfl, .same _ _ (pureL l)⟩, ⟨_, rfl, .same _ _ (pureS s)⟩, ⟨_, rfl, ob11 (.keep 5 _ _ _ 5 rfl) rfl⟩, ⟨_, rfl, .same _ _ (pureL l)⟩, ⟨_, rfl, .same _ _ (pureS s)⟩, ⟨_, rfl, .same _ _ (pureEs_vsC _)⟩, trivial⟩ rfl ?_ fun ρ1 h => ⟨k + 1, U, by omega, by omega, hr2, .inr ⟨hne, rfl⟩, h⟩⟩
     exact ⟨.fnc _ _ _ rfl (fun i v q h1 h2 => by obtain ⟨rfl, rfl⟩ := one_get h1; cases h2; exact .keepP 2 1 0 0 2 rfl), .keepP 3 1 0 0 3 rfl, .keepP 4 1 0 0 4 rfl, .closed (.list false 4 (dsC l)) rfl, .closed _ rfl, pub_int ek, trivial⟩
  ·simp at hlt
   conv => whnf
   exact ⟨rfl, fin _ (.inr ⟨hne, rfl⟩) hlt⟩

end Go.AW

namespace Go.AW
variable [Draws]
attribute [local irreducible] ACalls
def SortVr (P : Program) (f g : FuncId) : Prop :=
 ∀ (s : Sou), s.good → ∀ (l : List Ver), l ≠ [] → l.length ≤ 1000000 → (∀ v ∈ l, okV s v) → ∀ (H : List AObj) (i0 : Nat), H[i0]? = some (vO l) →
  ACalls P f [.sl i0 l.length 0 l.length, .fn g [.cptr [.list false 1 (iC (keyI s))] 0, .cptr (souC s) 0]] H (fun r H' => r = .tuple [] ∧ ∃ l' : List Ver, l'.Perm l ∧ AscO (cmpVr s) l' ∧ H' = H.set i0 (vO l'))

set_option maxRecDepth 20000 in
theorem insV0 {P : Program} (F : F_z1q P) (X f : AVal) (H : List AObj) :
  ACalls P F.id [X, .int .i64 0, .int .i64 0, f] H (fun r H' => r = .tuple [] ∧ H' = H) := by
 refine acalls_of_body F.has ?_
 conv => whnf
 refine ⟨fun m ρ H1 => H1 = H ∧ Sv 53 [(1, .int .i64 0), (2, .int .i64 0), (8, .int .i64 1)] ρ, 0, [], ?_, ?_⟩
 ·exact ⟨rfl, Sv.intro rfl ⟨rfl, rfl, rfl, trivial⟩⟩
 rintro m ρ H1 ⟨rfl, d, rfl⟩
 conv => whnf
 exact ⟨rfl, rfl⟩

set_option maxRecDepth 20000 in
theorem pdqV0 {P : Program} (F : F_z1s P) (X f : AVal) (H : List AObj) :
  ACalls P F.id [X, .int .i64 0, .int .i64 0, .int .i64 0, f] H (fun r H' => r = .tuple [] ∧ H' = H) := by
 refine acalls_of_body F.has ?_
 conv => whnf
 refine ⟨fun m ρ H1 => H1 = H ∧ Sv 148 [(0, X), (1, .int .i64 0), (2, .int .i64 0), (3, .int .i64 0), (4, f), (10, .bool true), (11, .bool true)] ρ, 0, [], ?_, ?_⟩
 ·exact ⟨rfl, Sv.intro rfl ⟨rfl, rfl, rfl, rfl, rfl, rfl, rfl, trivial⟩⟩
 rintro m ρ H1 ⟨rfl, d, rfl⟩
 (conv => whnf); refine ACalls.use (insV0 F.z1q X f _) ?_
 conv => whnf
 exact ⟨rfl, rfl⟩

theorem sortV0 {P : Program} (F : F_z1n P) (f : AVal) (H : List AObj) :
  ACalls P F.id [.nil, f] H (fun r H' => r = .tuple [] ∧ H' = H) := by
 refine acalls_of_body F.has ?_
 (conv => whnf); refine ACalls.use (Len_0 F.z12 _) ?_
 (conv => whnf); refine ACalls.use (pdqV0 F.z1s .nil f _) ?_
 conv => whnf
 exact ⟨rfl, rfl⟩

set_option maxRecDepth 20000 in
theorem Versions_raw {P : Program} (F : F_z0v P) (hV : SortVr P F.z1n.id F.z0x.id) (s : Sou) (hs : s.good) (l : List Del) (hl : l.length ≤ 100) (hok : ∀ x ∈ l, x.ok) (H : List AObj) :
  ACalls P F.id [.agg (ledC l), .agg (souC s)] H (fun r H' => (r = .nil ∧ couL s 0 l = [] ∨ r = .list false 5 (vsC (srtV s (couL s 0 l)))) ∧ H' = H) := by
 have hlen := couL_len s l 0 1000 fun x hx => (hok x hx).1
 have hfit : ∀ v ∈ couL s 0 l, okV s v := fun v hv => couL_fits hv
 have hU := couL_uq s l
 have he := each_spec F.z10 F.z0w s hs.ok hs.ne l hl hok
 refine ACalls.lift0 (by simp [souC, ledC, AVal.closed, AVal.isPure]) (acalls_of_body F.has ?_)
 generalize couL s 0 l = V at hlen hfit hU he
 (conv => whnf); refine ACalls.mono (he) ?_
 rintro r H' ⟨rfl, ⟨rfl, rfl⟩ | ⟨hne, rfl⟩⟩
 ·(conv => whnf); refine ACalls.use (lkeys_spec F.z11 s hs.ok _) ?_
  conv => whnf
  refine Ghost.some (n := 17) (live := [(3, .cptr (souC s) 0), (5, .ptr 0 1 0 0), (6, .cptr [.list false 1 (iC (keyI s))] 0)]) (H1 := [.arr 1 [[.nil]]]) [2] (by simp) ⟨⟨_, rfl, .same _ _ rfl⟩, trivial⟩ rfl
   ⟨.frzP 1 1 0 0 7 [souC s] _ rfl rfl rfl rfl (by simp), .keepP 2 1 0 0 0 rfl, .frzP 5 1 0 0 1 [[.list false 1 (iC (keyI s))]] _ rfl rfl rfl rfl (by simp), trivial⟩ ?_
  rintro ρ ⟨d, rfl⟩
  (conv => whnf); refine ACalls.use (sortV0 F.z1n _ _) ?_
  conv => whnf
  exact ⟨_, .closed _ rfl, .inl ⟨rfl, rfl⟩⟩
 ·(conv => whnf); refine ACalls.use (lkeys_spec F.z11 s hs.ok _) ?_
  conv => whnf
  refine Ghost.some (n := 17) (live := [(3, .cptr (souC s) 0), (5, .ptr 0 1 0 0), (6, .cptr [.list false 1 (iC (keyI s))] 0)]) (H1 := [cN 1 V.length, vO V]) [2, 5] (by simp) ⟨⟨_, rfl, ob11 (.keep 5 _ _ _ 1 rfl) rfl⟩, ⟨_, rfl, .same _ _ (pureEs_vsC V)⟩, trivial⟩ rfl
   ⟨.frzP 1 1 0 0 7 [souC s] _ rfl rfl rfl rfl (by simp), .keepP 2 1 0 0 0 rfl, .frzP 6 1 0 0 1 [[.list false 1 (iC (keyI s))]] _ rfl rfl rfl rfl (by simp), trivial⟩ ?_
  rintro ρ ⟨d, rfl⟩
  (conv => whnf); refine ACalls.mono (hV s hs V hne (by omega) hfit _ 1 rfl) ?_
  rintro r H' ⟨rfl, Z, hp, ha, rfl⟩
  have hZ : Z = srtV s V := isort_eq (orders_V s) hp ha hU.zz
  have hzl := hp.length_eq
  conv => whnf
  exact ⟨_, pubFxH (id := 1) (es := vsC (srtV s V)) (es' := vsC Z) rfl (by rw [hZ]) (by rw [vsC_length, ← hZ, hzl]) (by rw [vsC_length, ← hZ, hzl]) (pureEs_vsC _), .inr rfl⟩

theorem Versions_spec {P : Program} (F : F_z0v P) (hV : SortVr P F.z1n.id F.z0x.id) (s : Sou) (hs : s.good) (l : List Del) (hl : l.length ≤ 100) (hok : ∀ x ∈ l, x.ok) (H : List AObj) :
  ACalls P F.id [.agg (ledC l), .agg (souC s)] H (fun r H' => r = .list false 5 (vsC (srtV s (couL s 0 l))) ∧ H' = H) :=
 (Versions_raw F hV s hs l hl hok H).weakR (by
  rintro r H' ⟨⟨rfl, h⟩ | rfl, rfl⟩
  ·exact ⟨_, .nil false 5, by rw [h]; rfl, rfl⟩
  ·exact ⟨_, .refl _, rfl, rfl⟩)

theorem getD_last {α : Type} {l : List α} {k : Nat} {x : α} (hx : l[k]? = some x) : (l.drop (k + 1)).head? = l[k + 1]? := by
 rw [List.head?_drop]

set_option maxHeartbeats 1000000 in
set_option maxRecDepth 20000 in
theorem Contents_spec {P : Program} (F : F_z0t P) (hV : SortVr P F.z0v.z1n.id F.z0v.z0x.id) (hC : SortE P F.z1m.id F.z0u.id)
  (s : Sou) (hs : s.good) (l : List Del) (hl : l.length ≤ 100) (hok : ∀ x ∈ l, x.ok) (hcl : (couL s 0 l).length ≤ 4096) (H : List AObj) :
  ACalls P F.id [.agg (ledC l), .agg (souC s)] H (fun r H' => r = .tuple [.list false 2 (eC (conV s (couL s 0 l))), .int .i64 0] ∧ H' = H) := by
 have hten := hs.ten
 have hkl := hs.klen
 have hfit : ∀ v ∈ srtV s (couL s 0 l), okV s v := fun v hv => couL_fits ((srtV_mem s _ v).1 hv)
 have hU := srtV_uq (couL_uq s l)
 have hA := srtV_asc s (couL s 0 l)
 have hVL : (srtV s (couL s 0 l)).length ≤ 4096 := by rw [srtV, isort_length]; exact hcl
 have hvs := Versions_spec F.z0v hV s hs l hl hok
 have hne := conG_ne hA hU
 have hpk : ∀ (v : Ver), okV s v → ∀ H, ACalls P F.z19.id [.list false 3 (vC v.rc.row), .list false 1 (iC (keyI s))] H (fun r H' => r = .list false 3 (vC (keyV s v.rc.row)) ∧ H' = H) := fun v hv H => by
  obtain ⟨x1, x2⟩ := okV_len hs hv
  have := schema_Pick_spec F.z19 false false v.rc.row (keyI s) (by omega) (by rw [keyI_length]; omega) H
  rwa [pick_key s hs _ x2] at this
 refine ACalls.pure (by simp [souC, ledC, AVal.closed, AVal.isPure]) (acalls_of_body F.has ?_)
 unfold conV
 generalize srtV s (couL s 0 l) = V at hfit hU hA hVL hvs hne
 (conv => whnf); refine ⟨_, hvs _, ?_⟩
 (conv => whnf); refine ⟨_, lkeys_spec F.z11 s hs.ok _, ?_⟩
 repeat ((conv => whnf); refine And.intro rfl ?_)
 conv => whnf
 refine ⟨fun m ρ H1 => ∃ (k : Nat) (U : List Ent), k + m = V.length ∧ U.length ≤ k ∧ U ++ conG s (V.drop k) = conG s V ∧ H1 = [bL l, bS s, .arr 2 (eC U)] ∧ Sv 68 [(6, .list false 5 (vsC V)), (7, .list false 1 (iC (keyI s))), (8, .sl 2 U.length 0 U.length), (17, .list false 5 (vsC V)), (18, .int .i64 V.length), (19, .int .i64 k)] ρ, V.length, [(8, 2)], ?_, ?_⟩
 ·exact ⟨0, [], by omega, by simp, rfl, rfl, Sv.intro rfl ⟨rfl, rfl, rfl, rfl, intEq (by rw [vsC_length]), rfl, trivial⟩⟩
 rintro m ρ H1 ⟨k, U, hk, hUl, hr, rfl, d, rfl⟩
 have hp3 : ∀ W : List Ent, ([bL l, bS s, .arr 2 (eC W)] : List AObj).all pureO = true := fun W => by
  rw [List.all_cons, pureL, List.all_cons, pureS, List.all_cons]; simp [pureO, pureEs_eC]
 (conv => whnf); refine recA (fun hlt => ?_) (fun hlt => ?_)
 ·simp at hlt
  have hx : V[k]? = some V[k] := List.getElem?_eq_getElem hlt
  have hv := hfit _ (List.getElem_mem hlt)
  generalize V[k] = v at hx hv
  have ek : IntKind.i64.wrap ((k : Int) + 1) = ((k + 1 : Nat) : Int) := by rw [wrapI _ (by omega) (by omega)]; omega
  rw [drop_cons hx, conG, getD_last hx] at hr
  (conv => whnf); refine And.intro (by omega) ?_
  (conv => whnf); refine recO (vsC_at hx) ?_
  (conv => whnf); refine recA (fun hl1 => ?_) (fun hl1 => ?_)
  ·simp [vsC_length] at hl1
   rw [ek] at hl1
   have hnx : V[k + 1]? = none := List.getElem?_eq_none (by omega)
   rw [hnx] at hr
   (conv => whnf); refine recA (fun hd => ?_) (fun hd => ?_)
   ·rw [if_pos (by rw [Option.all_none, Bool.true_and]; exact hd)] at hr
    (conv => whnf); refine recT (by rw [eC_length]; exact Nat.beq_refl _) ?_
    (conv => whnf); refine And.intro (⟨roomMul (by simp; omega) (by omega), roomB_le (by simp; omega), rfl, by rw [eC_length]⟩) ?_
    conv => whnf
    have hcn : eC U ++ [[AVal.list false 3 (vC v.rc.row), .int .i64 1]] = eC (U ++ [⟨v.rc.row, 1⟩]) := by rw [eC_append]; rfl
    have hl2 : (eC U ++ [[AVal.list false 3 (vC v.rc.row), .int .i64 1]]).length = (U ++ [(⟨v.rc.row, 1⟩ : Ent)]).length := by rw [hcn, eC_length]
    refine ⟨m - 1, by omega, Gp.first 3 [bL l, bS s, .arr 2 (eC U ++ [[AVal.list false 3 (vC v.rc.row), .int .i64 1]])] rfl rfl (by rw [hcn]; exact hp3 _) rfl ?_ fun ρ1 h => ⟨k + 1, U ++ [⟨v.rc.row, 1⟩], by omega, by simp; omega, (by rw [← hr]; simp), by rw [hcn], h⟩⟩
    exact ⟨.closed (.list false 5 (vsC V)) rfl, .closed (.list false 1 (iC (keyI s))) rfl, pubSl (k := 2) rfl rfl hl2 hl2, .closed (.list false 5 (vsC V)) rfl, .closed _ rfl, pub_int ek, trivial⟩
   ·rw [if_neg (by rw [Option.all_none, Bool.true_and]; simpa using hd)] at hr
    conv => whnf
    refine ⟨m - 1, by omega, Gp.first 3 [bL l, bS s, .arr 2 (eC U)] rfl rfl (hp3 U) rfl ?_ fun ρ1 h => ⟨k + 1, U, by omega, by omega, hr, rfl, h⟩⟩
    exact ⟨.closed (.list false 5 (vsC V)) rfl, .closed (.list false 1 (iC (keyI s))) rfl, .keep 2 _ _ _ 2 rfl, .closed (.list false 5 (vsC V)) rfl, .closed _ rfl, pub_int ek, trivial⟩
  ·simp [vsC_length] at hl1
   rw [ek] at hl1
   have hy : V[k + 1]? = some V[k + 1] := List.getElem?_eq_getElem (by omega)
   have hvy := hfit _ (List.getElem_mem (show k + 1 < V.length by omega))
   generalize V[k + 1] = y at hy hvy
   rw [hy] at hr
   (conv => whnf); refine ⟨_, hpk v hv _, ?_⟩
   (conv => whnf); refine And.intro (by rw [ek]; omega) ?_
   (conv => whnf); refine recO ((show (vsC V)[(IntKind.i64.wrap ((k : Int) + 1)).toNat]? = some (verC y) from by rw [ek, Int.toNat_natCast]; exact vsC_at hy)) ?_
   (conv => whnf); refine ⟨_, hpk y hvy _, ?_⟩
   (conv => whnf); refine ⟨_, value_CompareRows_spec F.z22 false false (keyV s v.rc.row) (keyV s y.rc.row) (by rw [keyV_length]; omega) _, ?_⟩
   repeat ((conv => whnf); refine And.intro rfl ?_)
   (conv => whnf); refine recA (fun hc0 => ?_) (fun hc0 => ?_)
   ·(conv => whnf); refine recA (fun hd => ?_) (fun hd => ?_)
    ·rw [if_pos (by rw [Option.all_some, Bool.and_eq_true]; exact ⟨hc0, hd⟩)] at hr
     (conv => whnf); refine recT (by rw [eC_length]; exact Nat.beq_refl _) ?_
     (conv => whnf); refine And.intro (⟨roomMul (by simp; omega) (by omega), roomB_le (by simp; omega), rfl, by rw [eC_length]⟩) ?_
     conv => whnf
     have hcn : eC U ++ [[AVal.list false 3 (vC v.rc.row), .int .i64 1]] = eC (U ++ [⟨v.rc.row, 1⟩]) := by rw [eC_append]; rfl
     have hl2 : (eC U ++ [[AVal.list false 3 (vC v.rc.row), .int .i64 1]]).length = (U ++ [(⟨v.rc.row, 1⟩ : Ent)]).length := by rw [hcn, eC_length]
     refine ⟨m - 1, by omega, Gp.first 3 [bL l, bS s, .arr 2 (eC U ++ [[AVal.list false 3 (vC v.rc.row), .int .i64 1]])] rfl rfl (by rw [hcn]; exact hp3 _) rfl ?_ fun ρ1 h => ⟨k + 1, U ++ [⟨v.rc.row, 1⟩], by omega, by simp; omega, (by rw [← hr]; simp), by rw [hcn], h⟩⟩
     exact ⟨.closed (.list false 5 (vsC V)) rfl, .closed (.list false 1 (iC (keyI s))) rfl, pubSl (k := 2) rfl rfl hl2 hl2, .closed (.list false 5 (vsC V)) rfl, .closed _ rfl, pub_int ek, trivial⟩
    ·rw [if_neg (by rw [Option.all_some, Bool.and_eq_true]; rintro ⟨_, h⟩; rw [show (!v.rc.del) = false from hd] at h; cases h)] at hr
     conv => whnf
     refine ⟨m - 1, by omega, Gp.first 3 [bL l, bS s, .arr 2 (eC U)] rfl rfl (hp3 U) rfl ?_ fun ρ1 h => ⟨k + 1, U, by omega, by omega, hr, rfl, h⟩⟩
     exact ⟨.closed (.list false 5 (vsC V)) rfl, .closed (.list false 1 (iC (keyI s))) rfl, .keep 2 _ _ _ 2 rfl, .closed (.list false 5 (vsC V)) rfl, .closed _ rfl, pub_int ek, trivial⟩
   ·rw [if_neg (by rw [Option.all_some, Bool.and_eq_true]; rintro ⟨h, _⟩; rw [show (rowsCmp (keyV s v.rc.row) (keyV s y.rc.row) != 0) = false from hc0] at h; cases h)] at hr
    conv => whnf
    refine ⟨m - 1, by omega, Gp.first 3 [bL l, bS s, .arr 2 (eC U)] rfl rfl (hp3 U) rfl ?_ fun ρ1 h => ⟨k + 1, U, by omega, by omega, hr, rfl, h⟩⟩
    exact ⟨.closed (.list false 5 (vsC V)) rfl, .closed (.list false 1 (iC (keyI s))) rfl, .keep 2 _ _ _ 2 rfl, .closed (.list false 5 (vsC V)) rfl, .closed _ rfl, pub_int ek, trivial⟩
 ·simp at hlt
  rw [List.drop_of_length_le (by omega), conG, List.append_nil] at hr
  subst hr
  have hcl2 := conG_len s V
  have hge : ∀ e ∈ conG s V, e.row.length ≤ 1000 := fun e he => by
   obtain ⟨v, hv, _, rfl⟩ := (mem_conG hA hU e).1 he
   have := (okV_len hs (hfit v hv.1)).1
   show v.rc.row.length ≤ 1000
   omega
  (conv => whnf); refine recT (by rw [eC_length]; exact Nat.beq_refl _) ?_
  (conv => whnf); refine recF (by simp; omega) ?_
  (conv => whnf); refine ACalls.mono (SortE.all (F := F.z1m) hC (conG s V) (by omega) hge _ 2 rfl) ?_
  rintro r H' ⟨rfl, Z, hp, ha, rfl⟩
  have hZ : Z = srtE (conG s V) := srtE_eq hp ha fun x hx y hy e => by
   obtain ⟨v, hv, _, rfl⟩ := (mem_conG hA hU x).1 hx
   obtain ⟨w, hw, _, rfl⟩ := (mem_conG hA hU y).1 hy
   have := last_row hU hv hw (congrArg (keyV s) e)
   rw [this]
  have hzl := hp.length_eq
  conv => whnf
  refine .tuple [_, _] [_, _] rfl fun i v q h1 h2 => ?_
  rcases i with _ | _ | i
  ·cases h1; cases h2
   exact pubFxH (id := 2) (es := eC (srtE (conG s V))) (es' := eC Z) rfl (by rw [hZ]) (by rw [eC_length, ← hZ, hzl]) (by rw [eC_length, ← hZ, hzl]) (pureEs_eC _)
  ·cases h1; cases h2; exact .closed _ rfl
  ·simp at h1

end Go.AW

namespace Go.AW
variable [Draws]
attribute [local irreducible] ACalls
noncomputable def mL (n : Int) (ls : List Int) : List Ver := couL (souS (wsrc n)) 0 (ledV (wsrc n) ls).1

theorem mL_len (n : Int) (ls : List Int) : (mL n ls).length ≤ 24 := by
 have := mV_len n ls
 rwa [mV, srtV, isort_length] at this

theorem mL_ok (n : Int) (ls : List Int) : ∀ v ∈ mL n ls, okV (souS (wsrc n)) v := fun v hv => couL_fits hv

theorem mL_uq (n : Int) (ls : List Int) : Uq (souS (wsrc n)) (mL n ls) := couL_uq _ _

theorem mLed_len (n : Int) (ls : List Int) : (ledV (wsrc n) ls).1.length ≤ 100 := by
 have := (ledV_ok (wsrc n) ls).2
 omega

theorem Intervals_srt {P : Program} (F : F_z0l P) (hS : SortE P F.z1m.id F.z0m.id) (s : Sou) (hs : s.good) (L : List Ver) (h40 : L.length < 40) (hok : ∀ v ∈ L, okV s v) (hU : Uq s L) (H : List AObj) :
  ACalls P F.id [.agg (souC s), .list false 5 (vsC (srtV s L))] H (fun r H' => r = .tuple [.list false 2 (eC (ivsV s L)), .int .i64 0] ∧ H' = H) := by
 have := Intervals_spec F hS s hs false (srtV s L) (by rw [srtV, isort_length]; exact h40) (fun v hv => hok v ((srtV_mem s L v).1 hv)) (srtV_uq hU) H
 rwa [ivsV_perm (m := srtV s L) hU (isort_perm _)] at this

theorem con_row {s : Sou} (hs : s.good) {L : List Ver} (hok : ∀ v ∈ L, okV s v) (hu : Uq s L) : ∀ e ∈ conV s L, e.row.length ≤ 1000 := fun e he => by
 obtain ⟨v, hv, _, rfl⟩ := (mem_con hu e).1 he
 have := (okV_len hs (hok v hv.1)).1
 show v.rc.row.length ≤ 1000
 omega

theorem con_len (s : Sou) (L : List Ver) : (conV s L).length ≤ L.length := by
 rw [conV, srtE_len]
 exact Nat.le_trans (conG_len s _) (by rw [srtV, isort_length]; exact Nat.le_refl _)

set_option maxHeartbeats 1000000 in
set_option maxRecDepth 20000 in
theorem law_HistoryNow {P : Program} (F : F_z26 P) (hV : SortVr P F.z0v.z1n.id F.z0v.z0x.id) (hV2 : SortVr P F.z0t.z0v.z1n.id F.z0t.z0v.z0x.id) (hC : SortE P F.z0t.z1m.id F.z0t.z0u.id) (hI : SortE P F.z0l.z1m.id F.z0l.z0m.id) (hS : SortE P F.z0j.z0p.z00.z05.z1m.id F.z0j.z0p.z00.z05.z06.id) (hI2 : SortE P F.z27.z0l.z1m.id F.z27.z0l.z0m.id) (hS3 : SortE P F.z27.z0j.z0p.z00.z05.z1m.id F.z27.z0j.z0p.z00.z05.z06.id) (hS4 : SortE P F.z27.z0f.z0p.z00.z05.z1m.id F.z27.z0f.z0p.z00.z05.z06.id)
  (n : Int) (ls : List Int) :
  ACalls P F.id [.int .i64 n, .list false 1 (iC ls)] [] (fun q _ => q = .bool true) := by
 have known := fun H => known27_spec F.z27 hI2 hS3 hS4 H
 refine acalls_of_body F.has ?_
 (conv => whnf); refine recA (fun h1 => ?_) (fun h1 => ?_)
 ·(conv => whnf); refine ACalls.use (known _) ?_
  conv => whnf
 simp [iC_length] at h1
 have hs := wgood n
 obtain ⟨m1, m2, m3⟩ := made_ok n ls
 have hld := mLed_len n ls
 have hvs := fun H => Versions_spec F.z0v hV (souS (wsrc n)) hs (ledV (wsrc n) ls).1 hld m3 H
 have hct := fun H => Contents_spec F.z0t hV2 hC (souS (wsrc n)) hs (ledV (wsrc n) ls).1 hld m3 (by have := mL_len n ls; rw [mL] at this; omega) H
 have v1 := mL_len n ls
 have v2 := mL_ok n ls
 have v3 := mL_uq n ls
 rw [← mL] at hvs hct
 have hiv := fun H => Intervals_srt F.z0l hI (souS (wsrc n)) hs (mL n ls) (by omega) v2 v3 H
 have hcu : ∀ H, ACalls P F.z0j.id [.agg (souC (souS (wsrc n))), .list false 2 (eC (ivsV (souS (wsrc n)) (mL n ls)))] H (fun r H' => r = .tuple [.list false 2 (eC (conV (souS (wsrc n)) (mL n ls))), .int .i64 0] ∧ H' = H) := fun H => by
  have := current_spec F.z0j hS (souS (wsrc n)) hs false (ivsV (souS (wsrc n)) (mL n ls)) (ivs_bag hs v2 v3 (by omega)) (fun e he => ⟨(ivs_fit hs v2 v3 he).1, (ivs_fit hs v2 v3 he).2.1⟩) H
  rwa [now_con v2 v3 (fun v hv hd => ok_fit hs (v2 v hv) hd) (by omega)] at this
 have hse := fun H => sameEnt_refl F.z2h (conV (souS (wsrc n)) (mL n ls)) (by have := con_len (souS (wsrc n)) (mL n ls); omega) (con_row hs v2 v3) H
 (conv => whnf); refine ACalls.mono (made_spec F.z28 n ls (by omega) _) ?_
 rintro r H' ⟨rfl, rfl⟩
 (conv => whnf); refine ⟨_, hvs _, ?_⟩
 (conv => whnf); refine ⟨_, hiv _, ?_⟩
 repeat ((conv => whnf); refine And.intro rfl ?_)
 (conv => whnf); refine ACalls.use (hcu _) ?_
 (conv => whnf); refine ACalls.use (hct _) ?_
 (conv => whnf); refine ACalls.use (hse _) ?_
 (conv => whnf); refine ACalls.use (known _) ?_
 conv => whnf

end Go.AW

namespace Go.AW
variable [Draws]
open Go.Sort
section
variable {P : Program} {β : Type}
structure El (C : Nat → Nat) (w : World) (k : Nat) (cells : β → List AVal) where
 vs : List Value
 x : β
 len : vs.length = k
 one : ∀ v ∈ vs, v.oneCell' = true
 rd : ∀ (j : Nat) (c : AVal) (v : Value), (cells x)[j]? = some c → vs[j]? = some v → Rd C w c v

theorem Rd.later {C : Nat → Nat} {w w' : World} {a : AVal} {v : Value} (h : Rd C w a v) (hc : ∀ b i, i < C b → w'.cell? ⟨b, i, none⟩ = w.cell? ⟨b, i, none⟩) : Rd C w' a v := by
 have s : Step C (fun _ => none) [] w C (fun _ => none) [] { w with heap := w.heap } := Step.refl
 induction h with
 | junk v h => exact .junk v h
 | bool b => exact .bool b
 | int k n => exact .int k n
 | str s => exact .str s
 | nil => exact .nil
 | list0 x sz a cap hx => exact .list0 x sz a cap hx
 | list x sz es b off cap vs hx hcap hsz hC hcell hp hrd ih =>
  refine .list x sz es b off cap vs hx hcap hsz hC (fun i j hi hj => ?_) hp fun i j e d he hd => ih i j e d he hd
  rw [hc b _ ?_, hcell i j hi hj]
  have : i * sz + sz ≤ es.length * sz := by
   have := Nat.mul_le_mul_right sz (show i + 1 ≤ es.length by omega)
   rwa [Nat.add_mul, Nat.one_mul] at this
  omega
 | cptr cs fld b off vs hC hcell hp hrd ih =>
  refine .cptr cs fld b off vs hC (fun j hj => ?_) hp fun j d hd => ih j d hd
  rw [hc b _ (by omega), hcell j hj]
 | fn f => exact .fn f

abbrev upD : Draws := ⟨True⟩

omit [Draws] in
attribute [local instance] upD in

theorem cmpLays_of {C : Nat → Nat} {w : World} {k : Nat} {cells : β → List AVal} (hk : ∀ x, (cells x).length = k) [Inhabited (El C w k cells)] {cmp : β → β → Int} {g : FuncId}
  (eg : ∀ args w, (callFunc g args).run P w = .ok (.enter g args) w)
  (hg : ∀ x y, @ACalls upD P g [.agg (cells x), .agg (cells y)] [] (fun r _ => r = .int .i64 (cmp x y)))
  {blk off size : Nat} (hlt : ∀ b, 0 < C b → b < w.heap.size) (hblk : C blk = 0) :
  Go.Proofs.CmpLays P g #[] (fun e : El C w k cells => e.vs) k (fun a b => cmp a.x b.x) blk off size w := by
 intro m os dk hs x y
 obtain ⟨W, hW⟩ : ∃ W, Go.Proofs.sortWorldK (fun e : El C w k cells => e.vs) k w blk off m dk os = W := ⟨_, rfl⟩
 rw [hW]
 have hcell : ∀ b i, i < C b → W.cell? ⟨b, i, none⟩ = w.cell? ⟨b, i, none⟩ := by
  intro b i hi
  have hb : b < w.heap.size := hlt b (by omega)
  have hbb : b ≠ blk := fun e => by rw [e, hblk] at hi; omega
  refine cell_heap ?_
  rw [← hW]
  unfold Go.Proofs.sortWorldK Go.Sort.putRowK putRow mapBlock grow Go.Sort.ahead
  simp only []
  rw [Array.getElem?_append_left (by simp; exact hb), Array.getElem?_modify, if_neg (Ne.symm hbb)]
 have hsz : w.heap.size ≤ W.heap.size := by rw [← hW]; exact Go.Proofs.size_sortWorldK_c _ _ _ _ _ _ _ _
 have hwf : WF C (fun _ => none) [] W := ⟨fun id o h => by simp at h, fun id o h => by simp at h, fun id o l h => by simp at h, fun id l h => by simp at h, fun i j li lj h => by simp at h, fun b hb => Nat.lt_of_lt_of_le (hlt b hb) hsz⟩
 have hrel : ∀ e : El C w k cells, Rel C W (fun _ => none) [] (.agg (cells e.x)) (.agg e.vs.toArray) := fun e => by
  refine .agg _ _ (by simp [hk, e.len]) fun i c v hc hv => .rd ((e.rd i c v hc ?_).later hcell)
  simpa using hv
 have h := hg x.x y.x C (fun _ => none) W #[.agg x.vs.toArray, .agg y.vs.toArray] hwf rfl fun i a v ha hv => by
  rcases i with _ | _ | i
  ·cases ha; cases hv; exact hrel x
  ·cases ha; cases hv; exact hrel y
  ·simp at ha
 unfold CallsX at h
 rw [eg] at h
 refine Calls.mono h fun e w' => ?_
 rintro ⟨v, r, C', τ', H', rfl, rfl, hrv, hst, _⟩
 refine ⟨?_, w'.drawn - W.drawn, w'.heap.extract W.heap.size w'.heap.size, ?_⟩
 ·cases hrv with
  | rd h => cases h; rfl
 ·have f := hst.fr
  have hp : ∀ b, b < W.heap.size → w'.heap[b]? = W.heap[b]? := fun b hb => f.prot b ⟨hb, by rintro ⟨id, l, h, _⟩; simp at h⟩
  have hh : w'.heap = W.heap ++ w'.heap.extract W.heap.size w'.heap.size := by
   refine Array.ext_getElem? fun i => ?_
   by_cases hi : i < W.heap.size
   ·rw [Array.getElem?_append_left hi]; exact hp i hi
   ·rw [Array.getElem?_append_right (by omega), Array.getElem?_extract]
    by_cases hi2 : i < w'.heap.size
    ·rw [if_pos (by omega)]; congr 1; omega
    ·rw [if_neg (by omega)]; exact Array.getElem?_eq_none (by omega)
  have hd : w'.drawn = W.drawn + (w'.drawn - W.drawn) := by have := f.drawn trivial; omega
  obtain ⟨h1, h2, h3, h4, h5⟩ := w'
  unfold grow World.drewN
  simp only [World.mk.injEq]
  exact ⟨hh, f.tape, hd, f.os, f.output⟩

theorem St.grow {w0 w : World} {Pr : Nat → Prop} {C : Nat → Nat} {τ : Nat → Option Loc} {H : List AObj} (h : St w0 Pr C τ H w) : ∀ (os : List Obj), St w0 Pr C τ H (Go.Sort.grow w os.toArray) ∧ Step C τ H w C τ H (Go.Sort.grow w os.toArray) := by
 intro os
 induction os generalizing w with
 | nil => simpa using ⟨h, Step.refl⟩
 | cons o os ih =>
  obtain ⟨st, s⟩ := h.alloc_comm o 0
  have hCC : updF C w.heap.size (C w.heap.size + 0) = C := by
   funext b
   by_cases e : b = w.heap.size
   ·subst e; rw [updF_same]; rfl
   ·rw [updF_other _ _ e]
  rw [hCC] at st s
  obtain ⟨st2, s2⟩ := ih st
  have e : Go.Sort.grow (w.alloc o) os.toArray = Go.Sort.grow w (o :: os).toArray := by
   rw [alloc_eq_grow, grow_grow]
   congr 1
   simp
  rw [e] at st2 s2
  exact ⟨st2, s.trans s2⟩

theorem St.putRow {w0 w : World} {Pr : Nat → Prop} {C : Nat → Nat} {τ : Nat → Option Loc} {H : List AObj} {k : Nat} {cells : β → List AVal} (hk : ∀ x, (cells x).length = k) (hk0 : 0 < k) (hcl : ∀ x, ∀ c ∈ cells x, c.isCell = true) [Inhabited (El C w k cells)]
  (h : St w0 Pr C τ H w) {i0 : Nat} {es : List β} {l : Loc} (ho : H[i0]? = some (.arr k (es.map cells))) (hl : τ i0 = some l) (d : Array (El C w k cells)) (hd : d.size = es.length) :
  St w0 Pr C τ (H.set i0 (.arr k (d.toList.map fun e => cells e.x))) (putRowK (fun e : El C w k cells => e.vs) k w l.b 0 d) ∧ Step C τ H w C τ (H.set i0 (.arr k (d.toList.map fun e => cells e.x))) (putRowK (fun e : El C w k cells => e.vs) k w l.b 0 d) := by
 obtain ⟨hcap, cs, elem, fz, h1, h2, h3, _⟩ := h.wf.objs i0 _ l ho hl
 rw [List.length_map] at hcap
 have hw : (putRowK (fun e : El C w k cells => e.vs) k w l.b 0 d).heap[l.b]? = some (.cells (Go.Sort.putCells id 0 (flatK (fun e : El C w k cells => e.vs) k d) cs) elem fz) := by
  unfold putRowK Go.Sort.putRow mapBlock
  simp only [Array.getElem?_modify, if_true, h1, Option.map_some, onCells]
 refine h.set_obj (w' := putRowK (fun e : El C w k cells => e.vs) k w l.b 0 d) (o' := .arr k (d.toList.map fun e => cells e.x)) ho hl (fun b hb => ?_) (by simp [putRowK]) rfl rfl rfl rfl ⟨rfl, by simp; omega, fun _ => rfl⟩ (fun e he => ?_) fun C' τ' H' s => ?_
 ·unfold putRowK Go.Sort.putRow mapBlock
  simp only [Array.getElem?_modify]
  rw [if_neg (Ne.symm hb)]
 ·obtain ⟨x, _, rfl⟩ := List.mem_map.1 he
  exact ⟨hk x.x, hcl x.x⟩
 ·refine ⟨by simp; omega, _, elem, fz, hw, by simp [Go.Sort.putCells, h2], by simpa [Go.Sort.putCells] using h3, fun i j e c he hc => ?_⟩
  rw [List.getElem?_map] at he
  obtain ⟨x, hx, rfl⟩ := Option.map_eq_some_iff.1 he
  have hi : i < d.size := by have := (List.getElem?_eq_some_iff.1 hx).1; simpa using this
  have hj : j < k := by have := (List.getElem?_eq_some_iff.1 hc).1; rwa [hk] at this
  have hxd : d[i]! = x := by
   rw [getElem!_pos d i hi]
   have := (List.getElem?_eq_some_iff.1 hx).2
   simpa using this
  have ht : i * k + j < d.size * k := by
   have := Nat.mul_le_mul_right k (show i + 1 ≤ d.size by omega)
   rw [Nat.add_mul, Nat.one_mul] at this
   omega
  have htc : i * k + j < cs.size := by
   have := Nat.mul_le_mul_right k (show d.size ≤ l.cap by omega)
   omega
  have hjv : j < x.vs.length := by rw [x.len]; exact hj
  refine ⟨x.vs[j], ?_, ?_⟩
  ·unfold Go.Sort.putCells
   rw [Array.getElem?_mapIdx, Array.getElem?_eq_getElem htc]
   have hf := get_flatK (fun e : El C w k cells => e.vs) k d (i * k + j) ht
   have e1 : (i * k + j) / k = i := by rw [Nat.mul_comm, Nat.mul_add_div hk0, Nat.div_eq_of_lt hj, Nat.add_zero]
   have e2 : (i * k + j) % k = j := by rw [Nat.mul_comm, Nat.mul_add_mod, Nat.mod_eq_of_lt hj]
   rw [e1, e2, hxd] at hf
   simp only [Option.map_some, size_flatK, Nat.zero_le, true_and, Nat.zero_add, ht, if_true, Nat.sub_zero, hf]
   rw [getElem!_pos x.vs j hjv]
   rfl
  ·exact (Rel.rd (x.rd j c _ hc (List.getElem?_eq_getElem hjv))).mono s

theorem row_of {w0 w : World} {Pr : Nat → Prop} {C : Nat → Nat} {τ : Nat → Option Loc} {H : List AObj} {k : Nat} {cells : β → List AVal} (hk : ∀ x, (cells x).length = k) (hk0 : 0 < k) (hpu : ∀ x, ∀ c ∈ cells x, c.isPure = true)
  (h : St w0 Pr C τ H w) {i0 : Nat} {es : List β} {l : Loc} (ho : H[i0]? = some (.arr k (es.map cells))) (hl : τ i0 = some l) :
  ∃ d : Array (El C w k cells), d.size = es.length ∧ d.toList.map (fun e => e.x) = es ∧ ∀ [Inhabited (El C w k cells)], HoldsK (fun e : El C w k cells => e.vs) k w l.b 0 d := by
 obtain ⟨hcap, cs, elem, fz, h1, h2, h3, h4⟩ := h.wf.objs i0 _ l ho hl
 rw [List.length_map] at hcap
 have hroom : es.length * k ≤ cs.size := by rw [h2]; exact Nat.mul_le_mul_right k hcap
 have get : ∀ (i j : Nat) (hi : i < es.length) (hj : j < k), i * k + j < cs.size := fun i j hi hj => by
  have := Nat.mul_le_mul_right k (show i + 1 ≤ es.length by omega)
  rw [Nat.add_mul, Nat.one_mul] at this
  omega
 have rel : ∀ (i j : Nat) (hi : i < es.length) (c : AVal) (v : Value), (cells es[i])[j]? = some c → cs[i * k + j]? = some v → Rd C w c v := fun i j hi c v hc hv => by
  obtain ⟨v', hv', hr⟩ := h4 i j (cells es[i]) c (by rw [List.getElem?_map, List.getElem?_eq_getElem hi]; rfl) hc
  rw [hv] at hv'
  cases hv'
  exact hr.pure (hpu _ c (List.mem_of_getElem? hc))
 have vget : ∀ (i j : Nat), ((cs.extract (i * k) (i * k + k)).toList)[j]? = if j < min (i * k + k) cs.size - i * k then cs[i * k + j]? else none := fun i j => by
  rw [Array.getElem?_toList, Array.getElem?_extract]
 have mk : ∀ i : Fin es.length, ∃ e : El C w k cells, e.vs = (cs.extract (i.1 * k) (i.1 * k + k)).toList ∧ e.x = es[i.1] := fun ⟨i, hi⟩ => by
  have hik := get i (k - 1) hi (by omega)
  have hlen : (cs.extract (i * k) (i * k + k)).size = k := by rw [Array.size_extract]; omega
  refine ⟨⟨(cs.extract (i * k) (i * k + k)).toList, es[i], by rw [Array.length_toList]; exact hlen, ?_, fun j c v hc hv => ?_⟩, rfl, rfl⟩
  ·refine rel_cellsPlain (C := C) (w := w) (τ := τ) (H := H) (cs := cells es[i]) (by rw [hk, hlen]) (fun j c v hc hv => ?_) (List.all_eq_true.2 fun c hc => AVal.isCell_of_isPure (hpu _ c hc))
   have := vget i j
   rw [Array.getElem?_toList, hv] at this
   split at this
   ·exact .rd (rel i j hi c v hc this.symm)
   ·cases this
  ·have := vget i j
   rw [hv] at this
   split at this
   ·exact rel i j hi c v hc this.symm
   ·cases this
 refine ⟨Array.ofFn fun i => (mk i).choose, by simp, ?_, ?_⟩
 ·refine List.ext_getElem? fun i => ?_
  by_cases hi : i < es.length
  ·rw [List.getElem?_map, Array.getElem?_toList, Array.getElem?_ofFn, dif_pos hi, List.getElem?_eq_getElem hi]
   show some ((mk ⟨i, hi⟩).choose).x = _
   rw [(mk ⟨i, hi⟩).choose_spec.2]
  ·rw [List.getElem?_eq_none (by simp; omega), List.getElem?_eq_none (by omega)]
 ·intro _ t ht
  rw [size_flatK, Array.size_ofFn] at ht
  have hi : t / k < es.length := Nat.div_lt_of_lt_mul (by rwa [Nat.mul_comm] at ht)
  have hj : t % k < k := Nat.mod_lt _ hk0
  have htk : t / k * k + t % k = t := by rw [Nat.mul_comm]; exact Nat.div_add_mod t k
  have htc := get _ _ hi hj
  rw [htk] at htc
  rw [get_flatK _ _ _ t (by rw [Array.size_ofFn]; exact ht), getElem!_pos _ (t / k) (by rw [Array.size_ofFn]; exact hi), Array.getElem_ofFn]
  have hv := vget (t / k) (t % k)
  rw [if_pos (by have := get (t / k) (k - 1) hi (by omega); omega), htk, Array.getElem?_eq_getElem htc, ← (mk ⟨t / k, hi⟩).choose_spec.1] at hv
  have hb := (List.getElem?_eq_some_iff.1 hv).1
  have hv2 := (List.getElem?_eq_some_iff.1 hv).2
  rw [getElem!_pos _ (t % k) hb]
  refine ⟨?_, ?_⟩
  ·simp only [World.cell?, h1, Nat.zero_add]
   simp [Array.getElem?_eq_getElem htc, ← hv2]
  ·simp only [World.frozen?, h1, Nat.zero_add]
   simp only [Bool.and_eq_false_iff, decide_eq_false_iff_not]
   omega

def Sorted (cmp : β → β → Int) (es es' : List β) : Prop := es'.Perm es ∧ ∀ (i j : Nat) (x y : β), i < j → es'[i]? = some x → es'[j]? = some y → 0 ≤ cmp y x

theorem sort_spec {ρ : Go.Shelf.Ren} (L : Go.Proofs.SlLaysF0.n6 P ρ) {k : Nat} (hk0 : 0 < k) (aE : ∀ w, (isAgg (ρ.t 24)).run P w = .ok true w) (zE : ∀ w, (Go.sizeOf (ρ.t 24)).run P w = .ok k w)
  {cells : β → List AVal} (hk : ∀ x, (cells x).length = k) (hpu : ∀ x, ∀ c ∈ cells x, c.isPure = true) {cmp : β → β → Int} (hO : SWO (Go.Proofs.ltOf cmp)) {g : FuncId}
  (eg : ∀ args w, (callFunc g args).run P w = .ok (.enter g args) w)
  (hg : ∀ x y, @ACalls upD P g [.agg (cells x), .agg (cells y)] [] (fun r _ => r = .int .i64 (cmp x y)))
  {es : List β} (hne : es ≠ []) (hlen : es.length ≤ 1000000) {H : List AObj} {i0 : Nat} (ho : H[i0]? = some (.arr k (es.map cells))) :
  ACalls P (ρ.f 6) [.sl i0 es.length 0 es.length, .fn g []] H (fun r H' => r = .tuple [] ∧ ∃ es', Sorted cmp es es' ∧ H' = H.set i0 (.arr k (es'.map cells))) := by
 intro C τ w vs hw hl hr
 obtain ⟨v0, v1, rfl⟩ : ∃ v0 v1, vs = #[v0, v1] := by
  obtain ⟨m⟩ := vs
  match m, hl with
  | [v0, v1], _ => exact ⟨v0, v1, rfl⟩
 have r0 := hr 0 _ v0 rfl rfl
 have r1 := hr 1 _ v1 rfl rfl
 have e1 : v1 = .func (.func g) #[] #[] := by
  cases r1 with
  | rd h => cases h; rfl
  | fn _ _ vs hl2 h =>
   have : vs = #[] := Array.eq_empty_of_size_eq_zero hl2.symm
   rw [this]
 subst e1
 have hpos : 0 < es.length := List.length_pos_iff.2 hne
 cases r0 with
 | rd h => cases h
 | sl _ _ _ _ a cap esz es0 ho' hep hcur =>
 rw [ho] at ho'
 cases ho'
 obtain ⟨_, hcap, hor⟩ := hcur (by simp)
 rcases hor with ⟨_, h0⟩ | ⟨l, hlt, hlc, ha⟩
 ·omega
 have ha2 : a = some ⟨l.b, 0, none⟩ := by
  rcases ha with h0 | h0
  ·omega
  ·rw [h0, Nat.zero_mul]
 subst ha2
 have st := St.start hw
 obtain ⟨d, hd, hdx, hH⟩ := row_of hk hk0 hpu st ho hlt
 haveI : Inhabited (El C w k cells) := ⟨d[0]'(by omega)⟩
 have hid := (List.getElem?_eq_some_iff.1 ho).1
 have hcmp := cmpLays_of (P := P) (C := C) (w := w) hk eg hg (blk := l.b) (off := 0) (size := d.size) hw.lt (hw.comm i0 l hid hlt)
 have hO2 : SWO (Go.Proofs.ltOf fun a b : El C w k cells => cmp a.x b.x) := ⟨fun x => hO.irrefl x.x, fun x y z => hO.trans x.x y.x z.x, fun x y z => hO.ntrans x.x y.x z.x⟩
 have main := Go.Proofs.AnyQ.slices_SortFunc L k aE zE (fun e : El C w k cells => e.vs) (fun x => x.len) (fun x => x.one) (fun a b => cmp a.x b.x) hO2 g #[] l.b 0 cap d w eg hcmp hH (hw.locLt hid hlt) (by omega)
 rw [hd] at main
 unfold CallsX
 have en : ∀ args w, (callFunc (ρ.f 6) args).run P w = .ok (.enter (ρ.f 6) args) w := L.f6.enters rfl
 rw [en]
 refine Calls.mono main fun e w' => ?_
 rintro ⟨rfl, d', n, os, hp, hs, rfl⟩
 have hd's : d'.size = es.length := by have := hp.1; omega
 obtain ⟨st1, s1⟩ := st.putRow hk hk0 (fun x c hc => AVal.isCell_of_isPure (hpu x c hc)) ho hlt d' hd's
 obtain ⟨st2, s2⟩ := st1.same (w' := Go.Sort.ahead (putRowK (fun e : El C w k cells => e.vs) k w l.b 0 d') n) rfl rfl rfl rfl (Nat.le_add_right _ _)
 obtain ⟨st3, s3⟩ := st2.grow os.toList
 have ew : Go.Sort.grow (Go.Sort.ahead (putRowK (fun e : El C w k cells => e.vs) k w l.b 0 d') n) os.toList.toArray = Go.Proofs.sortWorldK (fun e : El C w k cells => e.vs) k w l.b 0 n d' os := by
  rw [Array.toArray_toList]; rfl
 rw [ew] at st3 s3
 refine ⟨.tuple #[], .tuple [], C, τ, _, rfl, ⟨rfl, d'.toList.map (fun e => e.x), ⟨?_, fun i j x y hij hx hy => ?_⟩, by rw [List.map_map]; rfl⟩, .tuple _ _ rfl fun i c v h => by simp at h, st3, (s1.trans s2).trans s3⟩
 ·have h3 := hp.2.2
  have a1 : d'.extract 0 es.length = d' := by rw [← hd's]; simp
  have a2 : d.extract 0 es.length = d := by rw [← hd]; simp
  rw [a1, a2] at h3
  have := h3.map (fun e : El C w k cells => e.x)
  rwa [hdx] at this
 ·rw [List.getElem?_map] at hx hy
  obtain ⟨ex, hx1, rfl⟩ := Option.map_eq_some_iff.1 hx
  obtain ⟨ey, hy1, rfl⟩ := Option.map_eq_some_iff.1 hy
  clear hx hy
  have hj := (List.getElem?_eq_some_iff.1 hy1).1
  rw [Array.length_toList, hd's] at hj
  have h4 := hs i j (Nat.zero_le _) hij hj
  have b1 : d'[i]! = ex := by
   rw [getElem!_pos d' i (by omega)]
   have := (List.getElem?_eq_some_iff.1 hx1).2
   simpa using this
  have b2 : d'[j]! = ey := by
   rw [getElem!_pos d' j (by omega)]
   have := (List.getElem?_eq_some_iff.1 hy1).2
   simpa using this
  rw [b1, b2] at h4
  unfold Go.Proofs.ltOf at h4
  simp at h4
  exact h4

end
end Go.AW

namespace Go.AW
variable [Draws]
open Go.Sort
attribute [local irreducible] ACalls
abbrev EntS := {e : Ent // e.row.length ≤ 1000}

def subL : (l : List Ent) → (∀ e ∈ l, e.row.length ≤ 1000) → List EntS
 | [], _ => []
 | e :: l, h => ⟨e, h e (List.mem_cons_self ..)⟩ :: subL l fun e he => h e (List.mem_cons_of_mem _ he)

theorem subL_map : ∀ (l : List Ent) (h : ∀ e ∈ l, e.row.length ≤ 1000), (subL l h).map (fun e => e.1) = l
 | [], _ => rfl
 | e :: l, h => by rw [subL, List.map_cons, subL_map l]

theorem swo_rows : SWO (Go.Proofs.ltOf fun a b : EntS => rowsCmp a.1.row b.1.row) where
 irrefl x := by simp [Go.Proofs.ltOf, (rowsCmp_zero x.1.row x.1.row).2 rfl]
 trans x y z h1 h2 := by
  simp [Go.Proofs.ltOf] at h1 h2 ⊢
  exact rowsCmp_trans _ _ _ h1 h2
 ntrans x y z h1 h2 := by
  simp [Go.Proofs.ltOf] at h1 h2 ⊢
  refine Int.not_lt.1 fun hn => ?_
  by_cases hz : rowsCmp y.1.row z.1.row = 0
  ·rw [(rowsCmp_zero _ _).1 hz] at h1
   omega
  ·have h3 : rowsCmp z.1.row y.1.row < 0 := by rw [rowsCmp_anti]; omega
   have := rowsCmp_trans _ _ _ hn h3
   omega

theorem sortE_of {P : Program} {ρ : Go.Shelf.Ren} (L : Go.Proofs.SlLaysF0.n6 P ρ) (aE : ∀ w, (isAgg (ρ.t 24)).run P w = .ok true w) (zE : ∀ w, (Go.sizeOf (ρ.t 24)).run P w = .ok 2 w) (F : F_z06 P) :
  SortE P (ρ.f 6) F.id := by
 intro l hne hl hr H i0 ho
 have eg : ∀ args w, (callFunc F.id args).run P w = .ok (.enter F.id args) w := by
  obtain ⟨fn, c, h1, h2, h3, _⟩ := F.has
  exact Go.Proofs.enters_of h1 h2 h3
 have hm := subL_map l hr
 have hcells : (subL l hr).map (fun e => entC e.1) = eC l := by
  have := congrArg (List.map entC) hm
  rw [List.map_map] at this
  exact this
 have hlen : (subL l hr).length = l.length := by rw [← List.length_map (f := fun e : EntS => e.1), hm]
 have main := sort_spec (P := P) L (k := 2) (by decide) aE zE (cells := fun e : EntS => entC e.1) (fun _ => rfl) (fun x c hc => by
  simp [entC] at hc
  rcases hc with rfl | rfl
  ·simp [AVal.isPure]
  ·rfl) (cmp := fun a b => rowsCmp a.1.row b.1.row) swo_rows (g := F.id) eg (fun x y => by letI : Draws := upD; exact (bag_sum_1_spec F x.1 y.1 (by have := x.2; omega) []).mono fun _ _ h => h.1)
  (es := subL l hr) (fun h => by rw [h] at hm; exact hne hm.symm) (by omega) (i0 := i0) (by rw [hcells]; exact ho)
 rw [hlen] at main
 refine main.mono ?_
 rintro r H' ⟨rfl, es', ⟨hp, hs⟩, rfl⟩
 refine ⟨rfl, es'.map (fun e => e.1), by have := hp.map (fun e : EntS => e.1); rwa [hm] at this, ?_, ?_⟩
 ·refine List.pairwise_iff_getElem.2 fun i j hi hj hij => ?_
  rw [List.length_map] at hi hj
  have := hs i j es'[i] es'[j] hij (List.getElem?_eq_getElem hi) (List.getElem?_eq_getElem hj)
  replace this : 0 ≤ rowsCmp (es'[j]).1.row (es'[i]).1.row := this
  rw [rowsCmp_anti] at this
  simp only [List.getElem_map]
  omega
 ·rw [eC, List.map_map]; rfl

end Go.AW

namespace Go.AW
variable [Draws]
open Go.Sort
section
variable {P : Program} {β : Type}
omit [Draws] in
attribute [local instance] upD in

theorem cmpLaysC_of {C : Nat → Nat} {w : World} {k : Nat} {cells : β → List AVal} (hk : ∀ x, (cells x).length = k) [Inhabited (El C w k cells)] {cmp : β → β → Int} {g : FuncId} {caps : List AVal} {cb : Array Value}
  (hcl : caps.length = cb.size) (hcr : ∀ (i : Nat) (c : AVal) (v : Value), caps[i]? = some c → cb[i]? = some v → Rd C w c v)
  (eg : ∀ args w, (callFunc g args).run P w = .ok (.enter g args) w)
  (hg : ∀ x y, @ACalls upD P g ([.agg (cells x), .agg (cells y)] ++ caps) [] (fun r _ => r = .int .i64 (cmp x y)))
  {blk off size : Nat} (hlt : ∀ b, 0 < C b → b < w.heap.size) (hblk : C blk = 0) :
  Go.Proofs.CmpLays P g cb (fun e : El C w k cells => e.vs) k (fun a b => cmp a.x b.x) blk off size w := by
 intro m os dk hs x y
 obtain ⟨W, hW⟩ : ∃ W, Go.Proofs.sortWorldK (fun e : El C w k cells => e.vs) k w blk off m dk os = W := ⟨_, rfl⟩
 rw [hW]
 have hcell : ∀ b i, i < C b → W.cell? ⟨b, i, none⟩ = w.cell? ⟨b, i, none⟩ := by
  intro b i hi
  have hb : b < w.heap.size := hlt b (by omega)
  have hbb : b ≠ blk := fun e => by rw [e, hblk] at hi; omega
  refine cell_heap ?_
  rw [← hW]
  unfold Go.Proofs.sortWorldK Go.Sort.putRowK putRow mapBlock grow Go.Sort.ahead
  simp only []
  rw [Array.getElem?_append_left (by simp; exact hb), Array.getElem?_modify, if_neg (Ne.symm hbb)]
 have hsz : w.heap.size ≤ W.heap.size := by rw [← hW]; exact Go.Proofs.size_sortWorldK_c _ _ _ _ _ _ _ _
 have hwf : WF C (fun _ => none) [] W := ⟨fun id o h => by simp at h, fun id o h => by simp at h, fun id o l h => by simp at h, fun id l h => by simp at h, fun i j li lj h => by simp at h, fun b hb => Nat.lt_of_lt_of_le (hlt b hb) hsz⟩
 have hrel : ∀ e : El C w k cells, Rel C W (fun _ => none) [] (.agg (cells e.x)) (.agg e.vs.toArray) := fun e => by
  refine .agg _ _ (by simp [hk, e.len]) fun i c v hc hv => .rd ((e.rd i c v hc ?_).later hcell)
  simpa using hv
 have h := hg x.x y.x C (fun _ => none) W (#[.agg x.vs.toArray, .agg y.vs.toArray] ++ cb) hwf (by simp [hcl]; omega) fun i a v ha hv => by
  rcases i with _ | _ | i
  ·rw [Array.getElem?_append_left (by simp)] at hv
   simp at ha hv; subst ha hv; exact hrel x
  ·rw [Array.getElem?_append_left (by simp)] at hv
   simp at ha hv; subst ha hv; exact hrel y
  ·rw [Array.getElem?_append_right (by simp)] at hv
   exact .rd ((hcr i a v (by simpa using ha) (by simpa using hv)).later hcell)
 unfold CallsX at h
 rw [eg] at h
 refine Calls.mono h fun e w' => ?_
 rintro ⟨v, r, C', τ', H', rfl, rfl, hrv, hst, _⟩
 refine ⟨?_, w'.drawn - W.drawn, w'.heap.extract W.heap.size w'.heap.size, ?_⟩
 ·cases hrv with
  | rd h => cases h; rfl
 ·have f := hst.fr
  have hp : ∀ b, b < W.heap.size → w'.heap[b]? = W.heap[b]? := fun b hb => f.prot b ⟨hb, by rintro ⟨id, l, h, _⟩; simp at h⟩
  have hh : w'.heap = W.heap ++ w'.heap.extract W.heap.size w'.heap.size := by
   refine Array.ext_getElem? fun i => ?_
   by_cases hi : i < W.heap.size
   ·rw [Array.getElem?_append_left hi]; exact hp i hi
   ·rw [Array.getElem?_append_right (by omega), Array.getElem?_extract]
    by_cases hi2 : i < w'.heap.size
    ·rw [if_pos (by omega)]; congr 1; omega
    ·rw [if_neg (by omega)]; exact Array.getElem?_eq_none (by omega)
  have hd : w'.drawn = W.drawn + (w'.drawn - W.drawn) := by have := f.drawn trivial; omega
  obtain ⟨h1, h2, h3, h4, h5⟩ := w'
  unfold grow World.drewN
  simp only [World.mk.injEq]
  exact ⟨hh, f.tape, hd, f.os, f.output⟩

theorem sortC_spec {ρ : Go.Shelf.Ren} (L : Go.Proofs.SlLaysF0.n6 P ρ) {k : Nat} (hk0 : 0 < k) (aE : ∀ w, (isAgg (ρ.t 24)).run P w = .ok true w) (zE : ∀ w, (Go.sizeOf (ρ.t 24)).run P w = .ok k w)
  {cells : β → List AVal} (hk : ∀ x, (cells x).length = k) (hpu : ∀ x, ∀ c ∈ cells x, c.isPure = true) {cmp : β → β → Int} (hO : SWO (Go.Proofs.ltOf cmp)) {g : FuncId} {caps : List AVal} (hcp : caps.all AVal.isPure = true)
  (eg : ∀ args w, (callFunc g args).run P w = .ok (.enter g args) w)
  (hg : ∀ x y, @ACalls upD P g ([.agg (cells x), .agg (cells y)] ++ caps) [] (fun r _ => r = .int .i64 (cmp x y)))
  {es : List β} (hne : es ≠ []) (hlen : es.length ≤ 1000000) {H : List AObj} {i0 : Nat} (ho : H[i0]? = some (.arr k (es.map cells))) :
  ACalls P (ρ.f 6) [.sl i0 es.length 0 es.length, .fn g caps] H (fun r H' => r = .tuple [] ∧ ∃ es', Sorted cmp es es' ∧ H' = H.set i0 (.arr k (es'.map cells))) := by
 intro C τ w vs hw hl hr
 obtain ⟨v0, v1, rfl⟩ : ∃ v0 v1, vs = #[v0, v1] := by
  obtain ⟨m⟩ := vs
  match m, hl with
  | [v0, v1], _ => exact ⟨v0, v1, rfl⟩
 have r0 := hr 0 _ v0 rfl rfl
 have r1 := hr 1 _ v1 rfl rfl
 obtain ⟨cb, hcl, hcr, e1⟩ : ∃ cb : Array Value, caps.length = cb.size ∧ (∀ (i : Nat) (c : AVal) (v : Value), caps[i]? = some c → cb[i]? = some v → Rd C w c v) ∧ v1 = .func (.func g) #[] cb := by
  cases r1 with
  | rd h => cases h; exact ⟨#[], rfl, fun i c v hc => by simp at hc, rfl⟩
  | fn _ _ vs hl2 h => exact ⟨vs, hl2, fun i c v hc hv => (h i c v hc hv).pure (List.all_eq_true.1 hcp c (List.mem_of_getElem? hc)), rfl⟩
 subst e1
 have hpos : 0 < es.length := List.length_pos_iff.2 hne
 cases r0 with
 | rd h => cases h
 | sl _ _ _ _ a cap esz es0 ho' hep hcur =>
 rw [ho] at ho'
 cases ho'
 obtain ⟨_, hcap, hor⟩ := hcur (by simp)
 rcases hor with ⟨_, h0⟩ | ⟨l, hlt, hlc, ha⟩
 ·omega
 have ha2 : a = some ⟨l.b, 0, none⟩ := by
  rcases ha with h0 | h0
  ·omega
  ·rw [h0, Nat.zero_mul]
 subst ha2
 have st := St.start hw
 obtain ⟨d, hd, hdx, hH⟩ := row_of hk hk0 hpu st ho hlt
 haveI : Inhabited (El C w k cells) := ⟨d[0]'(by omega)⟩
 have hid := (List.getElem?_eq_some_iff.1 ho).1
 have hcmp := cmpLaysC_of (P := P) (C := C) (w := w) (cb := cb) hk hcl hcr eg hg (blk := l.b) (off := 0) (size := d.size) hw.lt (hw.comm i0 l hid hlt)
 have hO2 : SWO (Go.Proofs.ltOf fun a b : El C w k cells => cmp a.x b.x) := ⟨fun x => hO.irrefl x.x, fun x y z => hO.trans x.x y.x z.x, fun x y z => hO.ntrans x.x y.x z.x⟩
 have main := Go.Proofs.AnyQ.slices_SortFunc L k aE zE (fun e : El C w k cells => e.vs) (fun x => x.len) (fun x => x.one) (fun a b => cmp a.x b.x) hO2 g cb l.b 0 cap d w eg hcmp hH (hw.locLt hid hlt) (by omega)
 rw [hd] at main
 unfold CallsX
 have en : ∀ args w, (callFunc (ρ.f 6) args).run P w = .ok (.enter (ρ.f 6) args) w := L.f6.enters rfl
 rw [en]
 refine Calls.mono main fun e w' => ?_
 rintro ⟨rfl, d', n, os, hp, hs, rfl⟩
 have hd's : d'.size = es.length := by have := hp.1; omega
 obtain ⟨st1, s1⟩ := st.putRow hk hk0 (fun x c hc => AVal.isCell_of_isPure (hpu x c hc)) ho hlt d' hd's
 obtain ⟨st2, s2⟩ := st1.same (w' := Go.Sort.ahead (putRowK (fun e : El C w k cells => e.vs) k w l.b 0 d') n) rfl rfl rfl rfl (Nat.le_add_right _ _)
 obtain ⟨st3, s3⟩ := st2.grow os.toList
 have ew : Go.Sort.grow (Go.Sort.ahead (putRowK (fun e : El C w k cells => e.vs) k w l.b 0 d') n) os.toList.toArray = Go.Proofs.sortWorldK (fun e : El C w k cells => e.vs) k w l.b 0 n d' os := by
  rw [Array.toArray_toList]; rfl
 rw [ew] at st3 s3
 refine ⟨.tuple #[], .tuple [], C, τ, _, rfl, ⟨rfl, d'.toList.map (fun e => e.x), ⟨?_, fun i j x y hij hx hy => ?_⟩, by rw [List.map_map]; rfl⟩, .tuple _ _ rfl fun i c v h => by simp at h, st3, (s1.trans s2).trans s3⟩
 ·have h3 := hp.2.2
  have a1 : d'.extract 0 es.length = d' := by rw [← hd's]; simp
  have a2 : d.extract 0 es.length = d := by rw [← hd]; simp
  rw [a1, a2] at h3
  have := h3.map (fun e : El C w k cells => e.x)
  rwa [hdx] at this
 ·rw [List.getElem?_map] at hx hy
  obtain ⟨ex, hx1, rfl⟩ := Option.map_eq_some_iff.1 hx
  obtain ⟨ey, hy1, rfl⟩ := Option.map_eq_some_iff.1 hy
  clear hx hy
  have hj := (List.getElem?_eq_some_iff.1 hy1).1
  rw [Array.length_toList, hd's] at hj
  have h4 := hs i j (Nat.zero_le _) hij hj
  have b1 : d'[i]! = ex := by
   rw [getElem!_pos d' i (by omega)]
   have := (List.getElem?_eq_some_iff.1 hx1).2
   simpa using this
  have b2 : d'[j]! = ey := by
   rw [getElem!_pos d' j (by omega)]
   have := (List.getElem?_eq_some_iff.1 hy1).2
   simpa using this
  rw [b1, b2] at h4
  unfold Go.Proofs.ltOf at h4
  simp at h4
  exact h4

end
end Go.AW

namespace Go.AW
variable [Draws]
open Go.Sort
attribute [local irreducible] ACalls
theorem sortEg_of {P : Program} {ρ : Go.Shelf.Ren} (L : Go.Proofs.SlLaysF0.n6 P ρ) (aE : ∀ w, (isAgg (ρ.t 24)).run P w = .ok true w) (zE : ∀ w, (Go.sizeOf (ρ.t 24)).run P w = .ok 2 w) {g : FuncId}
  (eg : ∀ args w, (callFunc g args).run P w = .ok (.enter g args) w)
  (hg : ∀ x y : Ent, x.row.length ≤ 1000 → @ACalls upD P g [.agg (entC x), .agg (entC y)] [] (fun r _ => r = .int .i64 (rowsCmp x.row y.row))) :
  SortE P (ρ.f 6) g := by
 intro l hne hl hr H i0 ho
 have hm := subL_map l hr
 have hcells : (subL l hr).map (fun e => entC e.1) = eC l := by
  have := congrArg (List.map entC) hm
  rw [List.map_map] at this
  exact this
 have hlen : (subL l hr).length = l.length := by rw [← List.length_map (f := fun e : EntS => e.1), hm]
 have main := sort_spec (P := P) L (k := 2) (by decide) aE zE (cells := fun e : EntS => entC e.1) (fun _ => rfl) (fun x c hc => by
  simp [entC] at hc
  rcases hc with rfl | rfl
  ·simp [AVal.isPure]
  ·rfl) (cmp := fun a b => rowsCmp a.1.row b.1.row) swo_rows (g := g) eg (fun x y => hg x.1 y.1 (by have := x.2; omega))
  (es := subL l hr) (fun h => by rw [h] at hm; exact hne hm.symm) (by omega) (i0 := i0) (by rw [hcells]; exact ho)
 rw [hlen] at main
 refine main.mono ?_
 rintro r H' ⟨rfl, es', ⟨hp, hs⟩, rfl⟩
 refine ⟨rfl, es'.map (fun e => e.1), by have := hp.map (fun e : EntS => e.1); rwa [hm] at this, ?_, ?_⟩
 ·refine List.pairwise_iff_getElem.2 fun i j hi hj hij => ?_
  rw [List.length_map] at hi hj
  have := hs i j es'[i] es'[j] hij (List.getElem?_eq_getElem hi) (List.getElem?_eq_getElem hj)
  replace this : 0 ≤ rowsCmp (es'[j]).1.row (es'[i]).1.row := this
  rw [rowsCmp_anti] at this
  simp only [List.getElem_map]
  omega
 ·rw [eC, List.map_map]; rfl

theorem enters_has {P : Program} {f : FuncId} {a : AFunc} {ob : List Nat} (h : Has P f ob a) : ∀ args w, (callFunc f args).run P w = .ok (.enter f args) w := by
 obtain ⟨fn, c, h1, h2, h3, _⟩ := h
 exact Go.Proofs.enters_of h1 h2 h3

theorem sortE_I {P : Program} {ρ : Go.Shelf.Ren} (L : Go.Proofs.SlLaysF0.n6 P ρ) (aE : ∀ w, (isAgg (ρ.t 24)).run P w = .ok true w) (zE : ∀ w, (Go.sizeOf (ρ.t 24)).run P w = .ok 2 w) (F : F_z0m P) : SortE P (ρ.f 6) F.id :=
 sortEg_of L aE zE (enters_has F.has) fun x y hx => by letI : Draws := upD; exact (Intervals_1_spec F x y (by omega) []).mono fun _ _ h => h.1

theorem sortE_C {P : Program} {ρ : Go.Shelf.Ren} (L : Go.Proofs.SlLaysF0.n6 P ρ) (aE : ∀ w, (isAgg (ρ.t 24)).run P w = .ok true w) (zE : ∀ w, (Go.sizeOf (ρ.t 24)).run P w = .ok 2 w) (F : F_z0u P) : SortE P (ρ.f 6) F.id :=
 sortEg_of L aE zE (enters_has F.has) fun x y hx => by letI : Draws := upD; exact (Contents_1_spec F x y (by omega) []).mono fun _ _ h => h.1

abbrev VerS (s : Sou) := {v : Ver // okV s v}

def subVr {s : Sou} : (l : List Ver) → (∀ e ∈ l, okV s e) → List (VerS s)
 | [], _ => []
 | e :: l, h => ⟨e, h e (List.mem_cons_self ..)⟩ :: subVr l fun e he => h e (List.mem_cons_of_mem _ he)

theorem subVr_map {s : Sou} : ∀ (l : List Ver) (h : ∀ e ∈ l, okV s e), (subVr l h).map (fun e => e.1) = l
 | [], _ => rfl
 | e :: l, h => by rw [subVr, List.map_cons, subVr_map l]

theorem swo_V (s : Sou) : SWO (Go.Proofs.ltOf fun a b : VerS s => cmpVr s a.1 b.1) where
 irrefl x := by
  have := (preC_V s).anti x.1 x.1
  simp [Go.Proofs.ltOf]; omega
 trans x y z h1 h2 := by
  simp [Go.Proofs.ltOf] at h1 h2 ⊢
  have a1 := (preC_V s).anti x.1 y.1
  have a2 := (preC_V s).anti y.1 z.1
  have a3 := (preC_V s).anti x.1 z.1
  have t1 := (preC_V s).tr z.1 x.1 y.1
  omega
 ntrans x y z h1 h2 := by
  simp [Go.Proofs.ltOf] at h1 h2 ⊢
  exact (preC_V s).tr z.1 y.1 x.1 (by omega) (by omega)

theorem sortVr_of {P : Program} {ρ : Go.Shelf.Ren} (L : Go.Proofs.SlLaysF0.n6 P ρ) (aE : ∀ w, (isAgg (ρ.t 24)).run P w = .ok true w) (zE : ∀ w, (Go.sizeOf (ρ.t 24)).run P w = .ok 5 w) (F : F_z0x P) : SortVr P (ρ.f 6) F.id := by
 intro s hs l hne hl hr H i0 ho
 have hm := subVr_map l hr
 have hcells : (subVr l hr).map (fun e => verC e.1) = vsC l := by
  have := congrArg (List.map verC) hm
  rw [List.map_map] at this
  exact this
 have hlen : (subVr l hr).length = l.length := by rw [← List.length_map (f := fun e : VerS s => e.1), hm]
 have main := sortC_spec (P := P) L (k := 5) (by decide) aE zE (cells := fun e : VerS s => verC e.1) (fun _ => rfl) (fun x c hc => by
  simp [verC] at hc
  rcases hc with rfl | rfl | rfl | rfl | rfl <;> rfl) (cmp := fun a b => cmpVr s a.1 b.1) (swo_V s) (g := F.id) (caps := [.cptr [.list false 1 (iC (keyI s))] 0, .cptr (souC s) 0]) rfl (enters_has F.has)
  (fun x y => by letI : Draws := upD; exact (Versions_2_spec F s hs x.1 y.1 x.2 y.2 []).mono fun _ _ h => h.1)
  (es := subVr l hr) (fun h => by rw [h] at hm; exact hne hm.symm) (by omega) (i0 := i0) (by rw [hcells]; exact ho)
 rw [hlen] at main
 refine main.mono ?_
 rintro r H' ⟨rfl, es', ⟨hp, hsr⟩, rfl⟩
 refine ⟨rfl, es'.map (fun e => e.1), by have := hp.map (fun e : VerS s => e.1); rwa [hm] at this, ?_, ?_⟩
 ·refine List.pairwise_iff_getElem.2 fun i j hi hj hij => ?_
  rw [List.length_map] at hi hj
  have := hsr i j es'[i] es'[j] hij (List.getElem?_eq_getElem hi) (List.getElem?_eq_getElem hj)
  simp only [List.getElem_map]
  exact this
 ·have e : es'.map (fun e : VerS s => verC e.1) = vsC (es'.map fun e => e.1) := by rw [vsC, List.map_map]; rfl
  rw [e]

end Go.AW

