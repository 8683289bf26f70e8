/-
  An abstract machine over the model, the code of functions on it, and their contracts: what the claim needs.
  No condition: definitions, plain laws, contracts over any program that has this code.
-/
import Derived.Test.YtjfjpaggdmafeaaGreatDoorZ5
set_option linter.all false
namespace Go.AW
variable [Draws]
attribute [local irreducible] ACalls CallE CallS Gp
set_option maxRecDepth 20000
set_option maxHeartbeats 4000000
theorem idxZ_t (g : FuncId) (caps : List AVal) (p : Zon → Bool) (H : List AObj) (cs : List Zon) (hg : ∀ c ∈ cs, ACalls pr g ([.agg (zonC c)] ++ caps) H (fun r H' => r = .bool (p c) ∧ H' = H)) (ex : Bool) (hl : cs.length ≤ 1000000) :
  ACalls pr 97 [.list ex 3 (mC zonC cs), .fn g caps] H (fun r H' => r = .int .i64 (idxOf p cs 0) ∧ H' = H) := by
 refine acalls_of_body k97.has ?_
 conv => whnf
 refine ⟨fun m ρ H1 => ∃ k : Nat, k + m = cs.length ∧ idxOf p (cs.drop k) k = idxOf p cs 0 ∧ H1 = H ∧
  Sv 19 [(0, .list ex 3 (mC zonC cs)), (1, .fn g caps), (7, .int .i64 cs.length), (8, .int .i64 k)] ρ, cs.length, [], ?_, ?_⟩
 ·exact ⟨0, by omega, rfl, rfl, Sv.intro rfl ⟨rfl, rfl, intEq (by rw [mC_length]), rfl, trivial⟩⟩
 rintro m ρ H1 ⟨k, hk, hr, rfl, d, rfl⟩
 (conv => whnf); refine recA (fun hlt => ?_) (fun hlt => ?_)
 ·simp at hlt
  obtain ⟨c, hc, hd, hcm⟩ := get_drop hlt
  rw [hd] at hr
  (conv => whnf); refine And.intro (by omega) ?_
  (conv => whnf); refine recO (mC_at hc) ?_
  (conv => whnf); refine ACalls.use (hg c hcm) ?_
  (conv => whnf); refine recA (fun hp => ?_) (fun hp => ?_)
  ·conv => whnf
   refine ⟨intEq ?_, rfl⟩
   rw [← hr, idxOf, if_pos (show p c = true from hp)]
  ·conv => whnf
   refine ⟨m - 1, by omega, Gp.keep rfl ?_ fun ρ1 h => ⟨k + 1, by omega, ?_, rfl, h⟩⟩
   ·exact ⟨rfl, rfl, rfl, intEq (wrapI ((k : Int) + 1) (by omega) (by omega)), trivial⟩
   ·rw [← hr, idxOf, if_neg (by rw [show p c = false from hp]; simp)]; rfl
 ·simp at hlt
  conv => whnf
  rw [List.drop_eq_nil_of_le hlt] at hr
  exact ⟨intEq hr, rfl⟩
theorem idxK_t (g : FuncId) (caps : List AVal) (p : Kd → Bool) (H : List AObj) (cs : List Kd) (hg : ∀ c ∈ cs, ACalls pr g ([.agg (kC c)] ++ caps) H (fun r H' => r = .bool (p c) ∧ H' = H)) (ex : Bool) (hl : cs.length ≤ 1000000) :
  ACalls pr 145 [.list ex 2 (mC kC cs), .fn g caps] H (fun r H' => r = .int .i64 (idxOf p cs 0) ∧ H' = H) := by
 refine acalls_of_body k145.has ?_
 conv => whnf
 refine ⟨fun m ρ H1 => ∃ k : Nat, k + m = cs.length ∧ idxOf p (cs.drop k) k = idxOf p cs 0 ∧ H1 = H ∧
  Sv 19 [(0, .list ex 2 (mC kC cs)), (1, .fn g caps), (7, .int .i64 cs.length), (8, .int .i64 k)] ρ, cs.length, [], ?_, ?_⟩
 ·exact ⟨0, by omega, rfl, rfl, Sv.intro rfl ⟨rfl, rfl, intEq (by rw [mC_length]), rfl, trivial⟩⟩
 rintro m ρ H1 ⟨k, hk, hr, rfl, d, rfl⟩
 (conv => whnf); refine recA (fun hlt => ?_) (fun hlt => ?_)
 ·simp at hlt
  obtain ⟨c, hc, hd, hcm⟩ := get_drop hlt
  rw [hd] at hr
  (conv => whnf); refine And.intro (by omega) ?_
  (conv => whnf); refine recO (mC_at hc) ?_
  (conv => whnf); refine ACalls.use (hg c hcm) ?_
  (conv => whnf); refine recA (fun hp => ?_) (fun hp => ?_)
  ·conv => whnf
   refine ⟨intEq ?_, rfl⟩
   rw [← hr, idxOf, if_pos (show p c = true from hp)]
  ·conv => whnf
   refine ⟨m - 1, by omega, Gp.keep rfl ?_ fun ρ1 h => ⟨k + 1, by omega, ?_, rfl, h⟩⟩
   ·exact ⟨rfl, rfl, rfl, intEq (wrapI ((k : Int) + 1) (by omega) (by omega)), trivial⟩
   ·rw [← hr, idxOf, if_neg (by rw [show p c = false from hp]; simp)]; rfl
 ·simp at hlt
  conv => whnf
  rw [List.drop_eq_nil_of_le hlt] at hr
  exact ⟨intEq hr, rfl⟩
theorem offset_t (n : Int) : DetS pr 144 [.int .i64 n] (fun r => r = .bool (zwB n)) := by
 refine dets_of_body k144.has rfl ?_
 repeat' ((conv => whnf); first | refine And.intro (by first | omega | (simp <;> omega) | (simp [roomB] <;> omega) | fail) ?_ | refine And.intro rfl ?_ | refine recO (map_at (by assumption)) ?_ | refine recOm (by omega) (fun x hx hm => ?_) | ((first | refine recAd (fun h => ?_) (fun h => ?_) | refine recAe (fun h => ?_) (fun h => ?_) | refine recAn (fun h => ?_) (fun h => ?_) | refine recNot (fun h => ?_) (fun h => ?_) | refine recA (fun h => ?_) (fun h => ?_)) <;> (try simp at h) <;> (try (exfalso; omega))))
 all_goals ((conv => whnf); exact retB (by unfold zwB; simp; omega))
theorem zvalid_t {z : Zon} (hz : zVd z) : DetS pr 94 [.agg (zonC z)] (fun r => r = .int .i64 0) := by
 obtain ⟨h64, ho, hs, hp⟩ := hz
 refine dets_of_body k94.has rfl ?_
 (conv => whnf); refine recF (by rw [mC_length]; simp; omega) ?_
 (conv => whnf); refine DetS.use (offset_t _) (fun r hr => ?_)
 subst hr
 (conv => whnf); rw [zwB_t ho]
 conv => whnf
 refine ⟨fun m ρ H1 => ∃ k : Nat, k + m = (z.shifts).length ∧ H1 = [.arr 3 [zonC z]] ∧ Sv 52 [(1, .ptr 0 1 0 0), (14, .list false 2 (mC sftC z.shifts)), (15, .int .i64 z.shifts.length), (16, .int .i64 k)] ρ, (z.shifts).length, [], fun i ρ H1 => i = 0 ∧ H1 = [.arr 3 [zonC z]] ∧ Sv 52 [(1, .ptr 0 1 0 0)] ρ, ?_, ?_, ?_⟩
 ·exact ⟨0, Nat.zero_add _, rfl, Sv.intro rfl ⟨rfl, rfl, intEq (by rw [mC_length]), rfl, trivial⟩⟩
 ·rintro m ρ H1 ⟨k, hk, rfl, d, rfl⟩
  have hw : 0 < k → IntKind.i64.wrap ((k : Int) - 1) = (k : Int) - 1 := fun _ => wrapI _ (by omega) (by omega)
  (conv => whnf); refine recA (fun hlt => ?_) (fun hlt => ?_)
  ·simp at hlt
   obtain ⟨s, hsk, _, hm⟩ := get_drop (l := z.shifts) (k := k) (by omega)
   obtain ⟨s1, s2, s3⟩ := hs s hm
   (conv => whnf); refine And.intro (by omega) ?_
   (conv => whnf); refine recO (mC_at hsk) ?_
   (conv => whnf); refine recF (by simp; omega) ?_
   (conv => whnf); refine recF (by simp; omega) ?_
   (conv => whnf); refine DetS.use (offset_t _) (fun r hr => ?_)
   subst hr
   (conv => whnf); rw [zwB_t s3]
   conv => whnf
   refine recA (fun h0 => ?_) (fun h0 => ?_)
   ·simp at h0
    obtain ⟨p, hpk, _, hpm⟩ := get_drop (l := z.shifts) (k := k - 1) (by omega)
    have hlt2 := hp (k - 1) p s hpk (by rw [show k - 1 + 1 = k by omega]; exact hsk)
    conv => whnf
    rw [hw h0]
    refine And.intro (by omega) ?_
    (conv => whnf); refine recO (mC_at (show z.shifts[((k : Int) - 1).toNat]? = some p by rw [show ((k : Int) - 1).toNat = k - 1 by omega]; exact hpk)) ?_
    (conv => whnf); refine recF (by simp; omega) ?_
    conv => whnf
    refine ⟨m - 1, by omega, Gp.cut (H := [.arr 3 [zonC z]]) rfl ⟨rfl, trivial⟩ rfl rfl ?_ fun ρ1 h => ⟨k + 1, by omega, rfl, h⟩⟩
    exact ⟨rfl, rfl, rfl, intEq (nx1 (by omega)), trivial⟩
   ·conv => whnf
    refine ⟨m - 1, by omega, Gp.cut (H := [.arr 3 [zonC z]]) rfl ⟨rfl, trivial⟩ rfl rfl ?_ fun ρ1 h => ⟨k + 1, by omega, rfl, h⟩⟩
    exact ⟨rfl, rfl, rfl, intEq (nx1 (by omega)), trivial⟩
  ·conv => whnf
   refine Gp.cut (H := [.arr 3 [zonC z]]) rfl ⟨rfl, trivial⟩ rfl rfl ?_ fun ρ1 h => ⟨rfl, rfl, h⟩
   exact ⟨rfl, trivial⟩
 ·rintro i ρ1 H1 ⟨rfl, rfl, d, rfl⟩
  conv => whnf
  exact retI rfl
theorem zl_div {x : Int} (h0 : 0 ≤ x) (h1 : x ≤ 576000839) : x.tdiv 1440 ≤ 1000000 := by
 rw [Int.tdiv_eq_ediv_of_nonneg h0]; omega
theorem zl_div2 {x : Int} (h0 : 0 ≤ x) (h1 : x ≤ 576000839) : IntKind.i64.wrap (x.tdiv 1440) ≤ 1000000 := by
 rw [Int.tdiv_eq_ediv_of_nonneg h0, wrapI _ (by omega) (by omega)]; omega
theorem zcheck_t {z : Zon} (hz : zVd z) (t : Int) : DetS pr 108 [.agg (zonC z), .int .i64 t] IsI := by
 refine dets_of_body k108.has rfl ?_
 repeat' ((conv => whnf); first | ((first | refine DetS.use (zvalid_t hz) (fun r hr => ?_) | refine DetS.draw (zvalid_t hz) (fun r hr => ?_)); obtain rfl := hr) | refine And.intro (by first | omega | (simp <;> omega) | (simp [roomB] <;> omega) | fail) ?_ | refine And.intro rfl ?_ | refine recO (map_at (by assumption)) ?_ | refine recOm (by omega) (fun x hx hm => ?_) | ((first | refine recAd (fun h => ?_) (fun h => ?_) | refine recAe (fun h => ?_) (fun h => ?_) | refine recAn (fun h => ?_) (fun h => ?_) | refine recNot (fun h => ?_) (fun h => ?_) | refine recA (fun h => ?_) (fun h => ?_)) <;> (try simp at h) <;> (try (exfalso; omega))))
 all_goals ((conv => whnf); exact isI _)
def tRg (t : Int) : Prop := 0 ≤ t ∧ t ≤ 575999999
theorem zlocal_t (a b : Int) : DetS pr 148 [.int .i64 a, .int .i64 b] (fun r => ∃ m : Int, r = .int .i64 m ∧ (0 ≤ a ∧ a ≤ 575999999 → -840 ≤ b ∧ b ≤ 840 → m ≤ 1000000)) := by
 refine dets_of_body k148.has rfl ?_
 repeat' ((conv => whnf); first | refine And.intro (by first | omega | (simp <;> omega) | (simp [roomB] <;> omega) | fail) ?_ | refine And.intro rfl ?_ | refine recO (map_at (by assumption)) ?_ | refine recOm (by omega) (fun x hx hm => ?_) | ((first | refine recAd (fun h => ?_) (fun h => ?_) | refine recAe (fun h => ?_) (fun h => ?_) | refine recAn (fun h => ?_) (fun h => ?_) | refine recNot (fun h => ?_) (fun h => ?_) | refine recA (fun h => ?_) (fun h => ?_)) <;> (try simp at h) <;> (try (exfalso; omega))))
 all_goals ((conv => whnf); exact ⟨_, .closed _ rfl, _, rfl, fun h1 h2 => by first | omega | (rw [wrapI (a + b) (by omega) (by omega)] at *; exact zl_div2 (by omega) (by omega))⟩)
theorem dayAt_t {z : Zon} (hz : zVd z) (t : Int) : DetS pr 109 [.agg (zonC z), .int .i64 t] (fun r => ∃ m : Int, r = .int .i64 m ∧ (tRg t → 0 ≤ m ∧ m ≤ 1000000)) := by
 have hl := hz.1
 refine dets_of_body k109.has rfl ?_
 conv => whnf
 refine ⟨fun m ρ H1 => ∃ (k : Nat) (a b : Int), k + m = (z.shifts).length ∧ (tRg t → 0 ≤ a ∧ a ≤ 1000000) ∧ (-840 ≤ b ∧ b ≤ 840) ∧ H1 = [.arr 3 [zonC z]] ∧ Sv 37 [(1, .int .i64 t), (5, .int .i64 a), (6, .int .i64 b), (12, .list false 2 (mC sftC z.shifts)), (13, .int .i64 z.shifts.length), (14, .int .i64 k)] ρ, (z.shifts).length, [], fun i ρ H1 => i = 0 ∧ ∃ a b : Int, (tRg t → 0 ≤ a ∧ a ≤ 1000000) ∧ (-840 ≤ b ∧ b ≤ 840) ∧ H1 = [.arr 3 [zonC z]] ∧ Sv 37 [(1, .int .i64 t), (5, .int .i64 a), (6, .int .i64 b)] ρ, ?_, ?_, ?_⟩
 ·exact ⟨0, 0, z.off, Nat.zero_add _, fun _ => ⟨by decide, by decide⟩, hz.2.1, rfl, Sv.intro rfl ⟨rfl, rfl, rfl, rfl, intEq (by rw [mC_length]), rfl, trivial⟩⟩
 ·rintro m ρ H1 ⟨k, a, b, hk, ha, hb, rfl, d, rfl⟩
  repeat' ((conv => whnf); first | ((first | refine DetS.use (zlocal_t _ _) (fun r hr => ?_) | refine DetS.draw (zlocal_t _ _) (fun r hr => ?_)); obtain ⟨n, rfl, hn⟩ := hr) | refine And.intro (by first | omega | (simp <;> omega) | (simp [roomB] <;> omega) | fail) ?_ | refine And.intro rfl ?_ | refine recO (map_at (by assumption)) ?_ | refine recOm (by omega) (fun x hx hm => ?_) | ((first | refine recAd (fun h => ?_) (fun h => ?_) | refine recAe (fun h => ?_) (fun h => ?_) | refine recAn (fun h => ?_) (fun h => ?_) | refine recNot (fun h => ?_) (fun h => ?_) | refine recA (fun h => ?_) (fun h => ?_)) <;> (try simp at h) <;> (try (exfalso; omega))))
  ·conv => whnf
   refine Gp.cut (H := [.arr 3 [zonC z]]) rfl ⟨rfl, trivial⟩ rfl rfl ?_ fun ρ1 h => ⟨rfl, a, b, ha, hb, rfl, h⟩
   exact ⟨rfl, rfl, rfl, trivial⟩
  ·conv => whnf
   obtain ⟨s1, s2, s3⟩ := hz.2.2.1 x (by assumption)
   have hn' : tRg t → n ≤ 1000000 := fun ht => hn (by rw [wrapI _ (by omega) (by omega)]; omega) hb
   refine ⟨m - 1, by omega, Gp.cut (H := [.arr 3 [zonC z]]) rfl ⟨rfl, trivial⟩ rfl rfl ?_ fun ρ1 h => ⟨k + 1, (if n > a then n else a), x.off, by omega, fun ht => by have := ha ht; have := hn' ht; split <;> omega, s3, rfl, h⟩⟩
   exact ⟨rfl, rfl, rfl, rfl, rfl, intEq (nx1 (by omega)), trivial⟩
  ·conv => whnf
   refine Gp.cut (H := [.arr 3 [zonC z]]) rfl ⟨rfl, trivial⟩ rfl rfl ?_ fun ρ1 h => ⟨rfl, a, b, ha, hb, rfl, h⟩
   exact ⟨rfl, rfl, rfl, trivial⟩
 ·rintro i ρ1 H1 ⟨rfl, a, b, ha, hb, rfl, d, rfl⟩
  repeat' ((conv => whnf); first | ((first | refine DetS.use (zlocal_t _ _) (fun r hr => ?_) | refine DetS.draw (zlocal_t _ _) (fun r hr => ?_)); obtain ⟨n, rfl, hn⟩ := hr) | refine And.intro (by first | omega | (simp <;> omega) | (simp [roomB] <;> omega) | fail) ?_ | refine And.intro rfl ?_ | refine recO (map_at (by assumption)) ?_ | refine recOm (by omega) (fun x hx hm => ?_) | ((first | refine recAd (fun h => ?_) (fun h => ?_) | refine recAe (fun h => ?_) (fun h => ?_) | refine recAn (fun h => ?_) (fun h => ?_) | refine recNot (fun h => ?_) (fun h => ?_) | refine recA (fun h => ?_) (fun h => ?_)) <;> (try simp at h) <;> (try (exfalso; omega))))
  all_goals ((conv => whnf); exact ⟨_, .closed _ rfl, (if n > a then n else a), rfl, fun ht => by have := ha ht; have := hn ht hb; split <;> omega⟩)
theorem day_t {z : Zon} (hz : zVd z) (t : Int) : DetS pr 63 [.agg (zonC z), .int .i64 t] (fun r => ∃ a b : Int, r = .tuple [.int .i64 a, .int .i64 b] ∧ (tRg t → rgM a)) := by
 refine dets_of_body k63.has rfl ?_
 repeat' ((conv => whnf); first | ((first | refine DetS.use (zcheck_t hz _) (fun r hr => ?_) | refine DetS.draw (zcheck_t hz _) (fun r hr => ?_)); obtain ⟨n, rfl⟩ := hr) | ((first | refine DetS.use (dayAt_t hz _) (fun r hr => ?_) | refine DetS.draw (dayAt_t hz _) (fun r hr => ?_)); obtain ⟨n, rfl, hn⟩ := hr) | refine And.intro (by first | omega | (simp <;> omega) | (simp [roomB] <;> omega) | fail) ?_ | refine And.intro rfl ?_ | refine recO (map_at (by assumption)) ?_ | refine recOm (by omega) (fun x hx hm => ?_) | ((first | refine recAd (fun h => ?_) (fun h => ?_) | refine recAe (fun h => ?_) (fun h => ?_) | refine recAn (fun h => ?_) (fun h => ?_) | refine recNot (fun h => ?_) (fun h => ?_) | refine recA (fun h => ?_) (fun h => ?_)) <;> (try simp at h) <;> (try (exfalso; omega))))
 all_goals ((conv => whnf); first | exact ⟨_, pub2 (.closed _ rfl) (.closed _ rfl), _, _, rfl, fun ht => by have := hn ht; unfold rgM; omega⟩ | exact ⟨_, pub2 (.closed _ rfl) (.closed _ rfl), _, _, rfl, fun _ => by unfold rgM; omega⟩)
def zNd (nm : ByteArray) (z : Zon) : Bool := z.name.data.toList == nm.data.toList
theorem find1_t (z : Zon) (nm : ByteArray) (o : AObj) : ACalls pr 98 ([.agg (zonC z)] ++ [.ptr 0 1 0 0]) [.arr 1 [[.str nm]], o] (fun r H' => r = .bool (zNd nm z) ∧ H' = [.arr 1 [[.str nm]], o]) := by
 refine ACalls.drop rfl (acalls_of_body k98.has ?_)
 conv => whnf
 exact ⟨rfl, _, rfl⟩
theorem idxOf_get0 {α : Type} (p : α → Bool) (l : List α) (h : l.any p = true) : ∃ (k : Nat) (a : α), idxOf p l 0 = k ∧ l[k]? = some a ∧ p a = true := by
 obtain ⟨k, a, h1, h2, h3⟩ := idxOf_get p l 0 h
 exact ⟨k, a, by omega, h2, h3⟩
theorem find_t (x : Bool) {zs : List Zon} (hl : zs.length ≤ 100000) {nm : ByteArray} (hh : zHas zs nm = true) : DetS pr 53 [.list x 3 (mC zonC zs), .str nm] (fun r => ∃ z ∈ zs, r = .tuple [.agg (zonC z), .bool true]) := by
 obtain ⟨k, z, h1, h2, h3⟩ := idxOf_get0 (zNd nm) zs hh
 refine dets_of_body k53.has rfl ?_
 (conv => whnf); refine CallE.of (idxZ_t _ _ (zNd nm) _ zs (fun c _ => find1_t c nm _) x (by omega)) ?_
 rw [h1]
 (conv => whnf); refine And.intro (by omega) ?_
 (conv => whnf); refine recO (mC_at (show zs[((k : Nat) : Int).toNat]? = some z from h2)) ?_
 conv => whnf
 exact ⟨_, pub2 (.closed _ rfl) (.closed _ rfl), z, List.mem_of_getElem? h2, rfl⟩
def VS (v : V) : Prop := v.str.size ≤ 64
def IsVs (r : AVal) : Prop := ∃ v : V, r = .agg (valC v) ∧ VS v
theorem vs0 {a b : Int} : VS ⟨a, b, bs []⟩ := (by decide : (0 : Nat) ≤ 64)
theorem vsR {a b : Int} {s : ByteArray} (h : s.size ≤ 64) {H : List AObj} : ∃ r, Pub H 0 [] (.agg [.int .i64 a, .int .i64 b, .str s]) r ∧ IsVs r := ⟨_, .closed _ rfl, ⟨a, b, s⟩, rfl, h⟩
theorem IsVs.pub {v : V} (h : VS v) {H : List AObj} : ∃ r, Pub H 0 [] (.agg [.int .i64 v.kind, .int .i64 v.num, .str v.str]) r ∧ IsVs r := ⟨_, .closed _ rfl, v, rfl, h⟩
def VK (k : Int) (v : V) : Prop := validB v = true ∧ (v.kind = k ∨ v.kind = 0)
theorem vk0 (k : Int) : VK k ⟨0, 0, bs []⟩ := ⟨by decide, .inr rfl⟩
theorem vkI {n : Int} (h : rgM n) : VK 2 ⟨2, n, bs []⟩ := ⟨by unfold validB; rw [if_neg (by decide : ¬ (2 : Int) = 0), if_neg (by decide : ¬ (2 : Int) = 1), if_pos rfl]; unfold rgM at h; simp; exact ⟨h, rfl⟩, .inl rfl⟩
theorem vkM {n : Int} (h : tRg n) : VK 4 ⟨4, n, bs []⟩ := ⟨by unfold validB; rw [if_neg (by decide : ¬ (4 : Int) = 0), if_neg (by decide : ¬ (4 : Int) = 1), if_neg (by decide : ¬ (4 : Int) = 2), if_neg (by decide : ¬ (4 : Int) = 3), if_pos rfl]; unfold tRg at h; simp; exact ⟨h, rfl⟩, .inl rfl⟩
theorem vkB (b : Bool) : VK 1 (boV b) := ⟨boV_valid b, .inl rfl⟩
theorem vkS {s : ByteArray} (h : s.size ≤ 64) : VK 3 ⟨3, 0, s⟩ := ⟨by unfold validB; rw [if_neg (by decide : ¬ (3 : Int) = 0), if_neg (by decide : ¬ (3 : Int) = 1), if_neg (by decide : ¬ (3 : Int) = 2), if_pos rfl]; simp; exact h, .inl rfl⟩
def IsVp (Q : V → Prop) (r : AVal) : Prop := ∃ v : V, r = .agg (valC v) ∧ VS v ∧ Q v
theorem vpR {Q : V → Prop} (v : V) (h : VS v) (q : Q v) {H : List AObj} : ∃ r, Pub H 0 [] (.agg [.int .i64 v.kind, .int .i64 v.num, .str v.str]) r ∧ IsVp Q r := ⟨_, .closed _ rfl, v, rfl, h, q⟩
theorem number_s (n : Int) (b : Bool) : DetS pr 60 [.int .i64 n, .bool b] (IsVp fun v => (b = true → rgM n) → VK 2 v) := by
 refine dets_of_body k60.has rfl ?_
 repeat' ((conv => whnf); first | refine And.intro (by first | omega | (simp <;> omega) | (simp [roomB] <;> omega) | fail) ?_ | refine And.intro rfl ?_ | refine recO (map_at (by assumption)) ?_ | refine recOm (by omega) (fun x hx hm => ?_) | ((first | refine recAd (fun h => ?_) (fun h => ?_) | refine recAe (fun h => ?_) (fun h => ?_) | refine recAn (fun h => ?_) (fun h => ?_) | refine recNot (fun h => ?_) (fun h => ?_) | refine recA (fun h => ?_) (fun h => ?_)) <;> (try simp at h) <;> (try (exfalso; omega))))
 all_goals ((conv => whnf); first | exact vpR ⟨0, 0, bs []⟩ vs0 (fun _ => vk0 _) | exact vpR ⟨2, n, bs []⟩ vs0 (fun h => vkI (h (by first | assumption | simp_all))))
theorem moment_s (n : Int) : DetS pr 110 [.int .i64 n] (IsVp (VK 4)) := by
 refine dets_of_body k110.has rfl ?_
 repeat' ((conv => whnf); first | refine And.intro (by first | omega | (simp <;> omega) | (simp [roomB] <;> omega) | fail) ?_ | refine And.intro rfl ?_ | refine recO (map_at (by assumption)) ?_ | refine recOm (by omega) (fun x hx hm => ?_) | ((first | refine recAd (fun h => ?_) (fun h => ?_) | refine recAe (fun h => ?_) (fun h => ?_) | refine recAn (fun h => ?_) (fun h => ?_) | refine recNot (fun h => ?_) (fun h => ?_) | refine recA (fun h => ?_) (fun h => ?_)) <;> (try simp at h) <;> (try (exfalso; omega))))
 all_goals ((conv => whnf); first | exact vpR ⟨0, 0, bs []⟩ vs0 (vk0 _) | exact vpR ⟨4, n, bs []⟩ vs0 (vkM (by unfold tRg; omega)))
def arK (op : Int) (a b : V) : Int := if op = 4 then (if a.kind = 4 then 4 else 2) else if op = 5 then (if a.kind = 4 ∧ b.kind = 2 then 4 else 2) else 2
theorem arith_s (op : Int) (a b : V) : DetS pr 64 [.int .i64 op, .agg (valC a), .agg (valC b)] (IsVp (VK (arK op a b))) := by
 refine dets_of_body k64.has rfl ?_
 repeat' ((conv => whnf); first | ((first | refine DetS.use (xAdd_d _ _) (fun r hr => ?_) | refine DetS.draw (xAdd_d _ _) (fun r hr => ?_)); obtain ⟨m, b, rfl, hm⟩ := hr) | ((first | refine DetS.use (xSub_d _ _) (fun r hr => ?_) | refine DetS.draw (xSub_d _ _) (fun r hr => ?_)); obtain ⟨m, b, rfl, hm⟩ := hr) | ((first | refine DetS.use (xMul_d _ _) (fun r hr => ?_) | refine DetS.draw (xMul_d _ _) (fun r hr => ?_)); obtain ⟨m, b, rfl, hm⟩ := hr) | ((first | refine DetS.use (xDiv_d _ _) (fun r hr => ?_) | refine DetS.draw (xDiv_d _ _) (fun r hr => ?_)); obtain ⟨m, b, rfl, hm⟩ := hr) | ((first | refine DetS.use (xMod_d _ _) (fun r hr => ?_) | refine DetS.draw (xMod_d _ _) (fun r hr => ?_)); obtain ⟨m, b, rfl, hm⟩ := hr) | ((first | refine DetS.use (number_s _ _) (fun r hr => ?_) | refine DetS.draw (number_s _ _) (fun r hr => ?_)); obtain ⟨v, rfl, hvs, hvk⟩ := hr) | ((first | refine DetS.use (moment_s _) (fun r hr => ?_) | refine DetS.draw (moment_s _) (fun r hr => ?_)); obtain ⟨v, rfl, hvs, hvk⟩ := hr) | refine And.intro (by first | omega | (simp <;> omega) | (simp [roomB] <;> omega) | fail) ?_ | refine And.intro rfl ?_ | refine recO (map_at (by assumption)) ?_ | refine recOm (by omega) (fun x hx hm => ?_) | ((first | refine recAd (fun h => ?_) (fun h => ?_) | refine recAe (fun h => ?_) (fun h => ?_) | refine recAn (fun h => ?_) (fun h => ?_) | refine recNot (fun h => ?_) (fun h => ?_) | refine recA (fun h => ?_) (fun h => ?_)) <;> (try simp at h) <;> (try (exfalso; omega))))
 all_goals ((conv => whnf); first | exact vpR v hvs (by have := hvk hm; unfold arK; simp_all) | exact vpR v hvs (by unfold arK; simp_all))
theorem vC_at' {l : List V} {k : Nat} {v : V} (h : l[k]? = some v) : (vC l)[k]? = some (valC v) := vC_at h
def ap1K (op : Int) (a v : V) : Prop := if op = 20 then (a.kind = 4 → validB a = true → VK 2 v) else if op = 2 then VK 1 v else VK 2 v
def ap2K (op : Int) (a b v : V) : Prop := if op ≤ 8 then VK (arK op a b) v else if op = 9 then VK 3 v else VK 1 v
def apK (n : Nod) (l : List V) (v : V) : Prop := match l with
 | [a] => ap1K n.op a v
 | [a, b] => ap2K n.op a b v
 | _ => True
theorem apk20 {n : Nod} {a v : V} (h : n.op = 20) (k : a.kind = 4 → validB a = true → VK 2 v) : apK n [a] v := by
 show ap1K n.op a v
 unfold ap1K; rw [if_pos h]; exact k
theorem apk1 {op : Int} {a v : V} (h : op ≠ 20) (h2 : op ≠ 2) (k : VK 2 v) : apK (opN op) [a] v := by
 show ap1K op a v
 unfold ap1K; rw [if_neg h, if_neg h2]; exact k
theorem apk2 {op : Int} {a v : V} (h : op = 2) (k : VK 1 v) : apK (opN op) [a] v := by
 show ap1K op a v
 unfold ap1K; rw [if_neg (by omega), if_pos h]; exact k
theorem apkA {op : Int} {a b v : V} (h : op ≤ 8) (k : VK (arK op a b) v) : apK (opN op) [a, b] v := by
 show ap2K op a b v
 unfold ap2K; rw [if_pos h]; exact k
theorem apkC {op : Int} {a b v : V} (h : op = 9) (k : VK 3 v) : apK (opN op) [a, b] v := by
 show ap2K op a b v
 unfold ap2K; rw [if_neg (by omega), if_pos h]; exact k
theorem apkB {op : Int} {a b v : V} (h : 10 ≤ op) (k : VK 1 v) : apK (opN op) [a, b] v := by
 show ap2K op a b v
 unfold ap2K; rw [if_neg (by omega), if_neg (by omega)]; exact k
theorem valid4 {a : V} (h : a.kind = 4) (v : validB a = true) : tRg a.num := by
 unfold validB at v
 rw [if_neg (by omega), if_neg (by omega), if_neg (by omega), if_neg (by omega), if_pos h] at v
 simp at v
 exact v.1
theorem rgL {n : Nat} (h : n ≤ 64) : rgM (n : Int) := by unfold rgM; omega
def apG (n : Nod) (l : List V) (r : AVal) : Prop := ∃ v : V, r = .agg (valC v) ∧ VS v ∧ (n.op = 12 → ∀ a b, l = [a, b] → v = boV (decide (valCmp a b < 0))) ∧ apK n l v
theorem apG.pub {n : Nod} {l : List V} {v : V} (h : VS v) (h12 : n.op = 12 → ∀ a b, l = [a, b] → v = boV (decide (valCmp a b < 0))) (hk : apK n l v) {H : List AObj} : ∃ r, Pub H 0 [] (.agg [.int .i64 v.kind, .int .i64 v.num, .str v.str]) r ∧ apG n l r := ⟨_, .closed _ rfl, v, rfl, h, h12, hk⟩
theorem apply_s {n : Nod} (g : Gd n) (e1 e2 : Bool) {l : List V} (hl : (l.length : Int) = arN n) (hv : ∀ v ∈ l, VS v) {zs : List Zon} (hz : ZsOk zs) (hzn : n.op = 20 → zHas zs n.name = true) (hsp : isSp n.op = false) (hc : n.op ≠ 1) :
  DetS pr 30 [.agg (nodC n), .list e1 3 (vC l), .list e2 3 (mC zonC zs)] (apG n l) := by
 revert hl hzn hsp hc
 refine g.cs (C := fun n => (l.length : Int) = arN n → (n.op = 20 → zHas zs n.name = true) → isSp n.op = false → n.op ≠ 1 → DetS pr 30 [.agg (nodC n), .list e1 3 (vC l), .list e2 3 (mC zonC zs)] (apG n l)) (fun v hv hl hz hs hc => by cases hs) (fun s h1 h2 h3 hl hz hs hc => absurd rfl hc) (fun s hs hl hzn hsp hc => ?_) (fun op ho hl hzn hsp hc => ?_)
 ·match l, hl with
  | [a], _ =>
   refine dets_of_body k30.has rfl ?_
   repeat' ((conv => whnf); first | ((first | refine DetS.use (find_t e2 hz.len (hzn rfl)) (fun r hr => ?_) | refine DetS.draw (find_t e2 hz.len (hzn rfl)) (fun r hr => ?_)); obtain ⟨z, hzm, rfl⟩ := hr) | ((first | refine DetS.use (day_t (hz.vd _ hzm) _) (fun r hr => ?_) | refine DetS.draw (day_t (hz.vd _ hzm) _) (fun r hr => ?_)); obtain ⟨q1, q2, rfl, hq⟩ := hr) | ((first | refine DetS.use (number_s _ _) (fun r hr => ?_) | refine DetS.draw (number_s _ _) (fun r hr => ?_)); obtain ⟨v, rfl, hvs, hvk⟩ := hr) | refine And.intro (by first | omega | (simp <;> omega) | (simp [roomB] <;> omega) | fail) ?_ | refine And.intro rfl ?_ | refine recO (map_at (by assumption)) ?_ | refine recOm (by omega) (fun x hx hm => ?_) | ((first | refine recAd (fun h => ?_) (fun h => ?_) | refine recAe (fun h => ?_) (fun h => ?_) | refine recAn (fun h => ?_) (fun h => ?_) | refine recNot (fun h => ?_) (fun h => ?_) | refine recA (fun h => ?_) (fun h => ?_)) <;> (try simp at h) <;> (try (exfalso; omega))))
   all_goals ((conv => whnf); exact apG.pub hvs (fun h => by cases h) (apk20 rfl fun h1 h2 => hvk fun _ => hq (valid4 h1 h2)))
 ·by_cases h1 : op = 2 ∨ op = 3 ∨ op = 16 ∨ op = 19
  ·rw [arN1 (by omega)] at hl
   match l, hl with
   | [a], _ =>
    have va : a.str.size ≤ 64 := hv a (by simp)
    refine dets_of_body k30.has rfl ?_
    repeat' ((conv => whnf); first | ((first | refine DetS.use (DetS.of (value_Truth_spec _)) (fun r hr => ?_) | refine DetS.draw (DetS.of (value_Truth_spec _)) (fun r hr => ?_)); obtain rfl := hr) | ((first | refine DetS.use (boolean_d _) (fun r hr => ?_) | refine DetS.draw (boolean_d _) (fun r hr => ?_)); obtain rfl := hr) | ((first | refine DetS.use (xSub_d _ _) (fun r hr => ?_) | refine DetS.draw (xSub_d _ _) (fun r hr => ?_)); obtain ⟨m, b, rfl, hm⟩ := hr) | ((first | refine DetS.use (number_s _ _) (fun r hr => ?_) | refine DetS.draw (number_s _ _) (fun r hr => ?_)); obtain ⟨v, rfl, hvs, hvk⟩ := hr) | refine And.intro (by first | omega | (simp <;> omega) | (simp [roomB] <;> omega) | fail) ?_ | refine And.intro rfl ?_ | refine recO (map_at (by assumption)) ?_ | refine recOm (by omega) (fun x hx hm => ?_) | ((first | refine recAd (fun h => ?_) (fun h => ?_) | refine recAe (fun h => ?_) (fun h => ?_) | refine recAn (fun h => ?_) (fun h => ?_) | refine recNot (fun h => ?_) (fun h => ?_) | refine recA (fun h => ?_) (fun h => ?_)) <;> (try simp at h) <;> (try (exfalso; omega))))
    all_goals ((conv => whnf); (try dsimp only [opN] at *); first | exact apG.pub hvs (fun h => absurd (show op = 12 from h) (by omega)) (apk1 (by omega) (by omega) (hvk hm)) | exact apG.pub hvs (fun h => absurd (show op = 12 from h) (by omega)) (apk1 (by omega) (by omega) (hvk fun _ => rgL va)) | exact apG.pub (v := boV _) vs0 (fun h => absurd (show op = 12 from h) (by omega)) (apk2 (by omega) (vkB _)) | (exfalso; simp [isSp] at hsp; omega))
  have h3 : op ≠ 17 := fun h => by subst h; cases hsp
  have hb4 : 4 ≤ op ∧ op ≤ 15 ∨ op = 18 := by omega
  rw [arN2 (by omega)] at hl
  match l, hl with
  | [a, b], _ =>
   have va : a.str.size ≤ 64 := hv a (by simp)
   have vb : b.str.size ≤ 64 := hv b (by simp)
   have hsp2 : isSp op = false := hsp
   simp [isSp] at hsp2
   refine dets_of_body k30.has rfl ?_
   repeat' ((conv => whnf); first | ((first | refine DetS.use (DetS.of (value_Compare_spec _ _)) (fun r hr => ?_) | refine DetS.draw (DetS.of (value_Compare_spec _ _)) (fun r hr => ?_)); obtain rfl := hr) | ((first | refine DetS.use (boolean_d _) (fun r hr => ?_) | refine DetS.draw (boolean_d _) (fun r hr => ?_)); obtain rfl := hr) | ((first | refine DetS.use (arith_s _ _ _) (fun r hr => ?_) | refine DetS.draw (arith_s _ _ _) (fun r hr => ?_)); obtain ⟨v, rfl, hvs, hvk⟩ := hr) | refine And.intro (show a.str.size + b.str.size ≤ 2 ^ 62 by omega) ?_ | refine And.intro (by first | omega | (simp <;> omega) | (simp [roomB] <;> omega) | fail) ?_ | refine And.intro rfl ?_ | refine recO (map_at (by assumption)) ?_ | refine recOm (by omega) (fun x hx hm => ?_) | ((first | refine recAd (fun h => ?_) (fun h => ?_) | refine recAe (fun h => ?_) (fun h => ?_) | refine recAn (fun h => ?_) (fun h => ?_) | refine recNot (fun h => ?_) (fun h => ?_) | refine recA (fun h => ?_) (fun h => ?_)) <;> (try simp at h) <;> (try (exfalso; omega))))
   all_goals ((conv => whnf); (try dsimp only [opN] at *); first | exact apG.pub hvs (fun h => absurd (show op = 12 from h) (by omega)) (apkA (by omega) hvk) | exact apG.pub (v := boV _) vs0 (fun h => absurd (show op = 12 from h) (by omega)) (apkB (by omega) (vkB _)) | exact apG.pub (v := boV _) vs0 (fun _ a b e => by cases e; rfl) (apkB (by omega) (vkB _)) | exact apG.pub (v := ⟨0, 0, bs []⟩) vs0 (fun h => absurd (show op = 12 from h) (by omega)) (apkC (by omega) (vk0 _)) | (have hs : (a.str ++ b.str).size ≤ 64 := by first | assumption | (rw [ByteArray.size_append]; omega)); exact apG.pub (v := ⟨3, 0, a.str ++ b.str⟩) hs (fun h => absurd (show op = 12 from h) (by omega)) (apkC (by omega) (vkS hs)))
end Go.AW

namespace Go.AW
variable [Draws]
attribute [local irreducible] ACalls CallE CallS Gp
set_option maxRecDepth 20000
set_option maxHeartbeats 4000000
theorem fits_t (x : Kd) (k : Int) : DetS pr 101 [.agg (kC x), .int .i64 k] (fun r => r = .bool (kft x k)) := by
 refine dets_of_body k101.has rfl ?_
 repeat' ((conv => whnf); first | refine And.intro (by first | omega | (simp <;> omega) | (simp [roomB] <;> omega) | fail) ?_ | refine And.intro rfl ?_ | refine recO (map_at (by assumption)) ?_ | refine recOm (by omega) (fun x hx hm => ?_) | ((first | refine recAd (fun h => ?_) (fun h => ?_) | refine recAe (fun h => ?_) (fun h => ?_) | refine recAn (fun h => ?_) (fun h => ?_) | refine recNot (fun h => ?_) (fun h => ?_) | refine recA (fun h => ?_) (fun h => ?_)) <;> (try simp at h) <;> (try (exfalso; omega))))
 all_goals ((conv => whnf); exact retB (by simp [kft, *]))
theorem common_t (x y : Kd) : DetS pr 102 [.agg (kC x), .agg (kC y)] (fun r => r = .tuple [.int .i64 (kcm x y).1, .bool (kcm x y).2]) := by
 suffices h : DetS pr 102 [.agg (kC x), .agg (kC y)] (fun r => ∃ (k : Int) (b : Bool), r = .tuple [.int .i64 k, .bool b] ∧ (k, b) = kcm x y) from h.mono fun r ⟨k, b, h1, h2⟩ => by rw [h1, ← h2]
 refine dets_of_body k102.has rfl ?_
 repeat' ((conv => whnf); first | ((first | refine DetS.use (fits_t _ _) (fun r hr => ?_) | refine DetS.draw (fits_t _ _) (fun r hr => ?_)); obtain rfl := hr) | refine And.intro (by first | omega | (simp <;> omega) | (simp [roomB] <;> omega) | fail) ?_ | refine And.intro rfl ?_ | refine recO (map_at (by assumption)) ?_ | refine recOm (by omega) (fun x hx hm => ?_) | ((first | refine recAd (fun h => ?_) (fun h => ?_) | refine recAe (fun h => ?_) (fun h => ?_) | refine recAn (fun h => ?_) (fun h => ?_) | refine recNot (fun h => ?_) (fun h => ?_) | refine recA (fun h => ?_) (fun h => ?_)) <;> (try simp at h) <;> (try (exfalso; omega))))
 all_goals ((conv => whnf); exact ⟨_, pub2 (.closed _ rfl) (.closed _ rfl), _, _, rfl, by simp [kcm, *]⟩)
theorem typed1_t (c : Kd) (H : List AObj) : ACalls pr 100 ([.agg (kC c)] ++ []) H (fun r H' => r = .bool c.2 ∧ H' = H) := by
 refine ACalls.pure rfl (acalls_of_body k100.has ?_)
 conv => whnf
 exact .closed _ rfl
theorem idxOf_any' {α : Type} (p : α → Bool) (l : List α) : decide (idxOf p l 0 ≥ 0) = l.any p := by
 rw [Bool.eq_iff_iff, ← idxOf_any p l 0 (Int.le_refl _)]; simp
theorem contK_t (e : Bool) (l : List Kd) (hl : l.length ≤ 1000) (H : List AObj) : ACalls pr 99 [.list e 2 (mC kC l), .fn 100 []] H (fun r H' => r = .bool (l.any Prod.snd) ∧ H' = H) := by
 refine acalls_of_body k99.has ?_
 (conv => whnf); refine ACalls.use (idxK_t _ _ Prod.snd _ l (fun c _ => typed1_t c _) e (by omega)) ?_
 conv => whnf
 refine ⟨?_, rfl⟩
 rw [← idxOf_any']
theorem rkb2 {H : List AObj} {k : Int} {n b : Bool} {t : Kd} (h1 : (k, n) = t) (h2 : b = true) : ∃ r, Pub H 0 [] (.tuple [.agg [.int .i64 k, .bool n], .bool b]) r ∧ r = .tuple [.agg (kC t), .bool true] := ⟨_, pub2 (.closed _ rfl) (.closed _ rfl), by rw [h2, ← h1]; rfl⟩
theorem typed_t {n : Nod} (g : Gd n) (e : Bool) {l : List Kd} (hl : (l.length : Int) = arN n) {cs : List Col} {k : Kd} (hk : fK cs n l = some k) (h1 : n.op ≠ 1) :
  DetS pr 54 [.agg (nodC n), .list e 2 (mC kC l)] (fun r => r = .tuple [.agg (kC k), .bool true]) := by
 revert hl hk h1
 refine g.cs (C := fun n => (l.length : Int) = arN n → fK cs n l = some k → n.op ≠ 1 → DetS pr 54 [.agg (nodC n), .list e 2 (mC kC l)] (fun r => r = .tuple [.agg (kC k), .bool true])) (fun v hv hl hk hc => ?_) (fun s h1 h2 h3 hl hk hc => absurd rfl hc) (fun s hs hl hk hc => ?_) (fun op ho hl hk hc => ?_)
 ·obtain rfl : (v.kind, v.kind == 0) = k := Option.some.inj hk
  obtain rfl : l = [] := by
   have : (l.length : Int) = 0 := hl
   exact List.length_eq_zero_iff.1 (by omega)
  refine dets_of_body k54.has rfl ?_
  repeat' ((conv => whnf); first | refine CallE.of (contK_t _ _ (by simp) _) ?_ | refine And.intro (by first | omega | (simp <;> omega) | (simp [roomB] <;> omega) | fail) ?_ | refine And.intro rfl ?_ | refine recO (map_at (by assumption)) ?_ | refine recOm (by omega) (fun x hx hm => ?_) | ((first | refine recAd (fun h => ?_) (fun h => ?_) | refine recAe (fun h => ?_) (fun h => ?_) | refine recAn (fun h => ?_) (fun h => ?_) | refine recNot (fun h => ?_) (fun h => ?_) | refine recA (fun h => ?_) (fun h => ?_)) <;> (try simp at h) <;> (try (exfalso; omega))))
  all_goals ((conv => whnf); exact rkb2 rfl rfl)
 ·have ht := fK_inv hk (by decide : (2 : Int) ≤ 20)
  replace ht : tyO 20 l = (k, true) := ht
  match l, hl with
  | [a], _ =>
   refine dets_of_body k54.has rfl ?_
   repeat' ((conv => whnf); first | refine CallE.of (contK_t _ _ (by simp) _) ?_ | ((first | refine DetS.use (fits_t _ _) (fun r hr => ?_) | refine DetS.draw (fits_t _ _) (fun r hr => ?_)); obtain rfl := hr) | refine And.intro (by first | omega | (simp <;> omega) | (simp [roomB] <;> omega) | fail) ?_ | refine And.intro rfl ?_ | refine recO (map_at (by assumption)) ?_ | refine recOm (by omega) (fun x hx hm => ?_) | ((first | refine recAd (fun h => ?_) (fun h => ?_) | refine recAe (fun h => ?_) (fun h => ?_) | refine recAn (fun h => ?_) (fun h => ?_) | refine recNot (fun h => ?_) (fun h => ?_) | refine recA (fun h => ?_) (fun h => ?_)) <;> (try simp at h) <;> (try (exfalso; omega))))
   all_goals ((conv => whnf); exact rkb2 (by simp_all [tyO]) (by simp_all [tyO]))
 ·have ht := fK_inv hk (show (2 : Int) ≤ op from ho.1)
  replace ht : tyO op l = (k, true) := ht
  clear hk
  by_cases h1 : op = 2 ∨ op = 3 ∨ op = 16 ∨ op = 19
  ·rw [arN1 (by omega)] at hl
   match l, hl with
   | [a], _ =>
    rcases h1 with rfl | rfl | rfl | rfl
    all_goals refine dets_of_body k54.has rfl ?_
    repeat' ((conv => whnf); first | refine CallE.of (contK_t _ _ (by simp) _) ?_ | ((first | refine DetS.use (fits_t _ _) (fun r hr => ?_) | refine DetS.draw (fits_t _ _) (fun r hr => ?_)); obtain rfl := hr) | refine And.intro (by first | omega | (simp <;> omega) | (simp [roomB] <;> omega) | fail) ?_ | refine And.intro rfl ?_ | refine recO (map_at (by assumption)) ?_ | refine recOm (by omega) (fun x hx hm => ?_) | ((first | refine recAd (fun h => ?_) (fun h => ?_) | refine recAe (fun h => ?_) (fun h => ?_) | refine recAn (fun h => ?_) (fun h => ?_) | refine recNot (fun h => ?_) (fun h => ?_) | refine recA (fun h => ?_) (fun h => ?_)) <;> (try simp at h) <;> (try (exfalso; omega))))
    all_goals ((conv => whnf); exact rkb2 (by simp_all [tyO]) (by simp_all [tyO]))
  by_cases h3 : op = 17
  ·subst h3
   have hl : (l.length : Int) = 3 := hl
   match l, hl with
   | [a, b, c], _ =>
    refine dets_of_body k54.has rfl ?_
    repeat' ((conv => whnf); first | refine CallE.of (contK_t _ _ (by simp) _) ?_ | ((first | refine DetS.use (fits_t _ _) (fun r hr => ?_) | refine DetS.draw (fits_t _ _) (fun r hr => ?_)); obtain rfl := hr) | ((first | refine DetS.use (common_t _ _) (fun r hr => ?_) | refine DetS.draw (common_t _ _) (fun r hr => ?_)); obtain rfl := hr) | refine And.intro (by first | omega | (simp <;> omega) | (simp [roomB] <;> omega) | fail) ?_ | refine And.intro rfl ?_ | refine recO (map_at (by assumption)) ?_ | refine recOm (by omega) (fun x hx hm => ?_) | ((first | refine recAd (fun h => ?_) (fun h => ?_) | refine recAe (fun h => ?_) (fun h => ?_) | refine recAn (fun h => ?_) (fun h => ?_) | refine recNot (fun h => ?_) (fun h => ?_) | refine recA (fun h => ?_) (fun h => ?_)) <;> (try simp at h) <;> (try (exfalso; omega))))
    all_goals ((conv => whnf); first | exact rkb2 (by simp_all [tyO]) (by simp_all [tyO]) | (exfalso; simp_all [tyO]; done))
  have hb4 : op = 4 ∨ op = 5 ∨ op = 6 ∨ op = 7 ∨ op = 8 ∨ op = 9 ∨ op = 10 ∨ op = 11 ∨ op = 12 ∨ op = 13 ∨ op = 14 ∨ op = 15 ∨ op = 18 := by omega
  rw [arN2 (by omega)] at hl
  match l, hl with
  | [a, b], _ =>
   rcases hb4 with rfl | rfl | rfl | rfl | rfl | rfl | rfl | rfl | rfl | rfl | rfl | rfl | rfl
   all_goals refine dets_of_body k54.has rfl ?_
   repeat' ((conv => whnf); first | refine CallE.of (contK_t _ _ (by simp) _) ?_ | ((first | refine DetS.use (fits_t _ _) (fun r hr => ?_) | refine DetS.draw (fits_t _ _) (fun r hr => ?_)); obtain rfl := hr) | ((first | refine DetS.use (common_t _ _) (fun r hr => ?_) | refine DetS.draw (common_t _ _) (fun r hr => ?_)); obtain rfl := hr) | refine And.intro (by first | omega | (simp <;> omega) | (simp [roomB] <;> omega) | fail) ?_ | refine And.intro rfl ?_ | refine recO (map_at (by assumption)) ?_ | refine recOm (by omega) (fun x hx hm => ?_) | ((first | refine recAd (fun h => ?_) (fun h => ?_) | refine recAe (fun h => ?_) (fun h => ?_) | refine recAn (fun h => ?_) (fun h => ?_) | refine recNot (fun h => ?_) (fun h => ?_) | refine recA (fun h => ?_) (fun h => ?_)) <;> (try simp at h) <;> (try (exfalso; omega))))
   all_goals ((conv => whnf); first | exact rkb2 (by simp_all [tyO]) (by simp_all [tyO]) | (exfalso; simp_all [tyO]; done))
end Go.AW

namespace Go.AW
variable [Draws]
attribute [local irreducible] ACalls CallE CallS Gp
set_option maxRecDepth 20000
set_option maxHeartbeats 4000000
structure ETy (cs : List Col) (zs : List Zon) (e : List Nod) (kf : Kd) : Prop where
 len : e.length ≤ 256
 hh : ∃ hf : Int, stk fH e [] = some [hf]
 gd : ∀ n ∈ e, Gd n
 zn : ∀ n ∈ e, n.op = 20 → zHas zs n.name = true
 kk : stk (fK cs) e [] = some [kf]
theorem check_t [Gls] (e1 e2 e3 : Bool) {cs : List Col} {zs : List Zon} {e : List Nod} {kf : Kd} (he : ETy cs zs e kf) (hc : cs.length ≤ 100000) (hv : vldC cs = 0) (hz : ZsOk zs) (H : List AObj) :
  ACalls pr 51 [.list e1 6 (mC nodC e), .list e2 3 (mC colC cs), .list e3 3 (mC zonC zs)] H (fun r H' => r = .int .i64 0 ∧ H' = H) := by
 obtain ⟨hf, hs⟩ := he.hh
 have hzl := hz.len
 refine ACalls.pure rfl (acalls_of_body k51.has ?_)
 (conv => whnf); refine ACalls.use (val_t e1 e he.len hs _) ?_
 (conv => whnf); refine ACalls.use (schema_Validate_spec e2 cs (by omega) _) ?_
 rw [hv]
 conv => whnf
 refine ⟨fun m ρ H1 => ∃ k : Nat, k + m = zs.length ∧ H1 = [] ∧ Sv 34 [(22, .list e3 3 (mC zonC zs)), (23, .int .i64 zs.length), (24, .int .i64 k)] ρ, zs.length, [], ?_, ?_⟩
 ·exact ⟨0, Nat.zero_add _, rfl, Sv.intro rfl ⟨rfl, intEq (by rw [mC_length]), rfl, trivial⟩⟩
 rintro m ρ H1 ⟨k, hk, rfl, d, rfl⟩
 (conv => whnf); refine recA (fun hlt => ?_) (fun hlt => ?_)
 ·simp at hlt
  obtain ⟨z, hzk, _, hm⟩ := get_drop (l := zs) (k := k) (by omega)
  (conv => whnf); refine And.intro (by omega) ?_
  (conv => whnf); refine recO (mC_at hzk) ?_
  (conv => whnf); refine ACalls.use ((zvalid_t (hz.vd z hm)).a _) ?_
  conv => whnf
  refine ⟨m - 1, by omega, Gp.cut (H := []) rfl trivial rfl rfl ?_ fun ρ1 h => ⟨k + 1, by omega, rfl, h⟩⟩
  exact ⟨rfl, rfl, intEq (nx1 (by omega)), trivial⟩
 ·conv => whnf
  exact .closed _ rfl
theorem lentD {α : Type} {f : α → List AVal} (hf : ∀ x, (f x).all AVal.isPure = true) {sz : Nat} {st : List α} {D r : Nat} (hD : D ≤ st.length) (hr : r ≤ D) {H : List AObj} (ho : H[0]? = some (.arr sz (mC f st))) : Lent H (.sl 0 st.length (0 + ((r : Nat) : Int).toNat) (D - ((r : Nat) : Int).toNat)) (.list false sz (mC f ((st.take D).drop r))) := by
 have := Lent.sl 0 st.length (0 + ((r : Nat) : Int).toNat) (D - ((r : Nat) : Int).toNat) sz (mC f st) ho (mC_length _ _).symm (mC_pure hf st)
 rwa [show ((mC f st).drop (0 + ((r : Nat) : Int).toNat)).take (D - ((r : Nat) : Int).toNat) = mC f ((st.take D).drop r) from by rw [Nat.zero_add, Int.toNat_natCast, mC, mC, ← List.map_drop, ← List.map_take, List.drop_take]] at this
theorem type_t [Gls] (e1 e2 e3 : Bool) {cs : List Col} {zs : List Zon} {e : List Nod} {kf : Kd} (he : ETy cs zs e kf) (hc : cs.length ≤ 100000) (hv : vldC cs = 0) (hz : ZsOk zs) (H : List AObj) :
  ACalls pr 25 [.list e1 6 (mC nodC e), .list e2 3 (mC colC cs), .list e3 3 (mC zonC zs)] H (fun r H' => r = .tuple [.int .i64 kf.1, .bool kf.2, .int .i64 0] ∧ H' = H) := by
 have hel := he.len
 refine ACalls.pure rfl (acalls_of_body k25.has ?_)
 (conv => whnf); refine ACalls.use (check_t e1 e2 e3 he hc hv hz _) ?_
 conv => whnf
 refine ⟨fun m ρ H1 => ∃ (k : Nat) (st : List Kd) (D : Nat), k + m = e.length ∧ stk (fK cs) (e.drop k) (st.take D) = some [kf] ∧ D ≤ st.length ∧ st.length ≤ k ∧ H1 = [.arr 2 (mC kC st)] ∧ Sv 105 [(0, .list e1 6 (mC nodC e)), (1, .list e2 3 (mC colC cs)), (2, .list e3 3 (mC zonC zs)), (10, .sl 0 st.length 0 D), (26, .list e1 6 (mC nodC e)), (27, .int .i64 e.length), (28, .int .i64 k)] ρ, e.length, [(10, 2)], ?_, ?_⟩
 ·exact ⟨0, [], 0, by omega, he.kk, Nat.le_refl _, Nat.le_refl _, rfl, Sv.intro rfl ⟨rfl, rfl, rfl, rfl, rfl, intEq (by rw [mC_length]), rfl, trivial⟩⟩
 rintro m ρ H1 ⟨k, st, D, hk, hD, hDl, hst, rfl, d, rfl⟩
 have hn : (mC kC st).length = st.length := mC_length _ _
 have hb : Nat.beq st.length (mC kC st).length = true := by rw [hn]; exact Nat.beq_refl _
 (conv => whnf); refine recA (fun hlt => ?_) (fun hlt => ?_)
 ·simp at hlt
  obtain ⟨n, hnk, hdk, hm⟩ := get_drop (l := e) (k := k) (by omega)
  rw [hdk] at hD
  obtain ⟨y, ha, hy, hD2⟩ := stk_inv hD
  have gd := he.gd n hm
  have hlD : (st.take D).length = D := by simp; omega
  rw [hlD] at ha hy hD2
  have a0 := gd.ar3
  obtain ⟨a, hna⟩ : ∃ a : Nat, arN n = a := ⟨(arN n).toNat, by omega⟩
  rw [hna] at ha hy hD2
  simp only [Int.toNat_natCast] at ha hy hD2
  (conv => whnf); refine And.intro (by omega) ?_
  (conv => whnf); refine recO (mC_at hnk) ?_
  (conv => whnf); refine recT (hb) ?_
  (conv => whnf); refine ACalls.use ((arity_t n).a _) ?_
  rw [hna]
  have hw : IntKind.i64.wrap ((D : Int) - a) = ((D - a : Nat) : Int) := by rw [wrapI _ (by omega) (by omega)]; omega
  conv => whnf
  rw [hw]
  obtain ⟨r, hrr⟩ : ∃ r, r = D - a := ⟨_, rfl⟩
  rw [← hrr] at hy hD2
  rw [← hrr]
  have hdl : (((st.take D).drop r).length : Int) = arN n := by rw [List.length_drop, hlD]; omega
  by_cases h1 : n.op = 1
  ·have hci : ∃ c, 0 ≤ colIdx cs n.name ∧ cs[(colIdx cs n.name).toNat]? = some c ∧ y = (c.kind, c.nul) := by
    unfold fK at hy
    rw [if_neg (by omega), if_pos h1] at hy
    split at hy
    ·rename_i h0
     cases hc : cs[(colIdx cs n.name).toNat]? with
     | none => rw [hc] at hy; cases hy
     | some c => rw [hc] at hy; cases hy; exact ⟨c, h0, rfl, rfl⟩
    ·cases hy
   obtain ⟨c, hc0, hcc, rfl⟩ := hci
   (conv => whnf); refine recT (by rw [h1]; rfl) ?_
   (conv => whnf); refine ACalls.use (schema_Index_spec e2 cs (by omega) n.name _) ?_
   (conv => whnf); refine recF (by simpa using hc0) ?_
   (conv => whnf); refine And.intro hc0 ?_
   (conv => whnf); refine recO (mC_at hcc) ?_
   (conv => whnf); refine And.intro hc0 ?_
   (conv => whnf); refine recO (mC_at hcc) ?_
   (conv => whnf); refine recT (hb) ?_
   (conv => whnf); refine And.intro (by omega) ?_
   (conv => whnf); refine recT (hb) ?_
   obtain ⟨q1, q2, q3⟩ := stP_take (show r ≤ D by omega) hDl (c.kind, c.nul)
   (conv => whnf); refine recA (fun hfit => ?_) (fun hfit => ?_)
   ·replace hfit : (Nat.ble (0 + 0 + (((r : Nat) : Int).toNat - 0) + 1) (mC kC st).length && true) = true := hfit
    rw [hn, Bool.and_true, Nat.ble_eq] at hfit
    have hfit2 : r + 1 ≤ st.length := by omega
    have hcc : (mC kC st).take (0 + 0 + (((r : Nat) : Int).toNat - 0)) ++ [kC (c.kind, c.nul)] ++ (mC kC st).drop (0 + 0 + (((r : Nat) : Int).toNat - 0) + 1) = mC kC (stP st r (c.kind, c.nul)) := by
     rw [show 0 + 0 + (((r : Nat) : Int).toNat - 0) = r by omega, stP, if_pos hfit2]; simp [mC, List.map_take, List.map_drop]
    have hll : (stP st r (c.kind, c.nul)).length = st.length := by rw [stP, if_pos hfit2]; simp; omega
    conv => whnf
    refine ⟨m - 1, by omega, Gp.cut (H := [.arr 2 (mC kC (stP st r (c.kind, c.nul)))]) (by rw [← hcc]; rfl) ⟨lowP (kC_pure _), trivial⟩ rfl rfl ?_ fun ρ1 hh => ⟨k + 1, stP st r (c.kind, c.nul), r + 1, by omega, by rw [q1]; exact hD2, by omega, by omega, rfl, hh⟩⟩
    exact ⟨rfl, rfl, rfl, by rw [hll, show r + 1 = ((r : Nat) : Int).toNat - 0 + 1 by omega]; rfl, rfl, rfl, intEq (nx1 (by omega)), trivial⟩
   ·replace hfit : (Nat.ble (0 + 0 + (((r : Nat) : Int).toNat - 0) + 1) (mC kC st).length && true) = false := hfit
    have hf2 : st.length < r + 1 := by
     rw [Bool.and_true, hn] at hfit
     exact Nat.lt_of_not_le fun hc => by rw [Nat.ble_eq_true_of_le (show 0 + 0 + (((r : Nat) : Int).toNat - 0) + 1 ≤ st.length by omega)] at hfit; cases hfit
    (conv => whnf); refine recT (hb) ?_
    (conv => whnf); refine And.intro (⟨by simp [roomB]; omega, by simp [roomB]; omega, rfl, by rw [hn]; omega⟩) ?_
    conv => whnf
    have hss : stP st r (c.kind, c.nul) = st ++ [(c.kind, c.nul)] := by rw [stP, if_neg (by omega)]
    have hcc : mC kC st ++ [kC (c.kind, c.nul)] = mC kC (stP st r (c.kind, c.nul)) := by rw [hss]; simp [mC]
    have hll : (stP st r (c.kind, c.nul)).length = r + 1 := by rw [hss]; simp; omega
    have hcl : (mC kC st ++ [kC (c.kind, c.nul)]).length = r + 1 := by rw [hcc, mC_length, hll]
    refine ⟨m - 1, by omega, Gp.cut (H := [.arr 2 (mC kC (stP st r (c.kind, c.nul)))]) (by rw [← hcc]; rfl) ⟨lowP (kC_pure _), trivial⟩ rfl rfl ?_ fun ρ1 hh => ⟨k + 1, stP st r (c.kind, c.nul), r + 1, by omega, by rw [q1]; exact hD2, by omega, by omega, rfl, hh⟩⟩
    exact ⟨rfl, rfl, rfl, slEq (by rw [hll]; exact hcl) hcl, rfl, rfl, intEq (nx1 (by omega)), trivial⟩
  have hop : n.op ≠ 21 := fun h => by have := gd.op; omega
  by_cases h20 : n.op = 20
  ·obtain ⟨rz, ⟨z, hzm, rfl⟩, hfz⟩ := find_t e3 hz.len (he.zn n hm h20)
   (conv => whnf); refine recF (by simpa using h1) ?_
   (conv => whnf); refine recF (by simpa using hop) ?_
   (conv => whnf); refine recT (by simpa using h20) ?_
   (conv => whnf); refine ACalls.use (hfz _) ?_
   (conv => whnf); refine recT (hb) ?_
   (conv => whnf); refine And.intro (by omega) ?_
   conv => whnf
   refine ⟨_, ACalls.bor rfl (((typed_t gd false hdl hy h1).a []).mono fun _ _ h => h.1) (.cons (.same _ rfl) (.cons (lentD (fun _ => rfl) hDl (by omega) rfl) .nil)), ?_⟩
   (conv => whnf); refine recT (hb) ?_
   (conv => whnf); refine And.intro (by omega) ?_
   (conv => whnf); refine recT (hb) ?_
   obtain ⟨q1, q2, q3⟩ := stP_take (show r ≤ D by omega) hDl y
   (conv => whnf); refine recA (fun hfit => ?_) (fun hfit => ?_)
   ·replace hfit : (Nat.ble (0 + 0 + (((r : Nat) : Int).toNat - 0) + 1) (mC kC st).length && true) = true := hfit
    rw [hn, Bool.and_true, Nat.ble_eq] at hfit
    have hfit2 : r + 1 ≤ st.length := by omega
    have hcc : (mC kC st).take (0 + 0 + (((r : Nat) : Int).toNat - 0)) ++ [kC y] ++ (mC kC st).drop (0 + 0 + (((r : Nat) : Int).toNat - 0) + 1) = mC kC (stP st r y) := by
     rw [show 0 + 0 + (((r : Nat) : Int).toNat - 0) = r by omega, stP, if_pos hfit2]; simp [mC, List.map_take, List.map_drop]
    have hll : (stP st r y).length = st.length := by rw [stP, if_pos hfit2]; simp; omega
    conv => whnf
    refine ⟨m - 1, by omega, Gp.cut (H := [.arr 2 (mC kC (stP st r y))]) (by rw [← hcc]; rfl) ⟨lowP (kC_pure _), trivial⟩ rfl rfl ?_ fun ρ1 hh => ⟨k + 1, stP st r y, r + 1, by omega, by rw [q1]; exact hD2, by omega, by omega, rfl, hh⟩⟩
    exact ⟨rfl, rfl, rfl, by rw [hll, show r + 1 = ((r : Nat) : Int).toNat - 0 + 1 by omega]; rfl, rfl, rfl, intEq (nx1 (by omega)), trivial⟩
   ·replace hfit : (Nat.ble (0 + 0 + (((r : Nat) : Int).toNat - 0) + 1) (mC kC st).length && true) = false := hfit
    have hf2 : st.length < r + 1 := by
     rw [Bool.and_true, hn] at hfit
     exact Nat.lt_of_not_le fun hc => by rw [Nat.ble_eq_true_of_le (show 0 + 0 + (((r : Nat) : Int).toNat - 0) + 1 ≤ st.length by omega)] at hfit; cases hfit
    (conv => whnf); refine recT (hb) ?_
    (conv => whnf); refine And.intro (⟨by simp [roomB]; omega, by simp [roomB]; omega, rfl, by rw [hn]; omega⟩) ?_
    conv => whnf
    have hss : stP st r y = st ++ [y] := by rw [stP, if_neg (by omega)]
    have hcc : mC kC st ++ [kC y] = mC kC (stP st r y) := by rw [hss]; simp [mC]
    have hll : (stP st r y).length = r + 1 := by rw [hss]; simp; omega
    have hcl : (mC kC st ++ [kC y]).length = r + 1 := by rw [hcc, mC_length, hll]
    refine ⟨m - 1, by omega, Gp.cut (H := [.arr 2 (mC kC (stP st r y))]) (by rw [← hcc]; rfl) ⟨lowP (kC_pure _), trivial⟩ rfl rfl ?_ fun ρ1 hh => ⟨k + 1, stP st r y, r + 1, by omega, by rw [q1]; exact hD2, by omega, by omega, rfl, hh⟩⟩
    exact ⟨rfl, rfl, rfl, slEq (by rw [hll]; exact hcl) hcl, rfl, rfl, intEq (nx1 (by omega)), trivial⟩
  ·(conv => whnf); refine recF (by simpa using h1) ?_
   (conv => whnf); refine recF (by simpa using hop) ?_
   (conv => whnf); refine recF (by simpa using h20) ?_
   (conv => whnf); refine recT (hb) ?_
   (conv => whnf); refine And.intro (by omega) ?_
   conv => whnf
   refine ⟨_, ACalls.bor rfl (((typed_t gd false hdl hy h1).a []).mono fun _ _ h => h.1) (.cons (.same _ rfl) (.cons (lentD (fun _ => rfl) hDl (by omega) rfl) .nil)), ?_⟩
   (conv => whnf); refine recT (hb) ?_
   (conv => whnf); refine And.intro (by omega) ?_
   (conv => whnf); refine recT (hb) ?_
   obtain ⟨q1, q2, q3⟩ := stP_take (show r ≤ D by omega) hDl y
   (conv => whnf); refine recA (fun hfit => ?_) (fun hfit => ?_)
   ·replace hfit : (Nat.ble (0 + 0 + (((r : Nat) : Int).toNat - 0) + 1) (mC kC st).length && true) = true := hfit
    rw [hn, Bool.and_true, Nat.ble_eq] at hfit
    have hfit2 : r + 1 ≤ st.length := by omega
    have hcc : (mC kC st).take (0 + 0 + (((r : Nat) : Int).toNat - 0)) ++ [kC y] ++ (mC kC st).drop (0 + 0 + (((r : Nat) : Int).toNat - 0) + 1) = mC kC (stP st r y) := by
     rw [show 0 + 0 + (((r : Nat) : Int).toNat - 0) = r by omega, stP, if_pos hfit2]; simp [mC, List.map_take, List.map_drop]
    have hll : (stP st r y).length = st.length := by rw [stP, if_pos hfit2]; simp; omega
    conv => whnf
    refine ⟨m - 1, by omega, Gp.cut (H := [.arr 2 (mC kC (stP st r y))]) (by rw [← hcc]; rfl) ⟨lowP (kC_pure _), trivial⟩ rfl rfl ?_ fun ρ1 hh => ⟨k + 1, stP st r y, r + 1, by omega, by rw [q1]; exact hD2, by omega, by omega, rfl, hh⟩⟩
    exact ⟨rfl, rfl, rfl, by rw [hll, show r + 1 = ((r : Nat) : Int).toNat - 0 + 1 by omega]; rfl, rfl, rfl, intEq (nx1 (by omega)), trivial⟩
   ·replace hfit : (Nat.ble (0 + 0 + (((r : Nat) : Int).toNat - 0) + 1) (mC kC st).length && true) = false := hfit
    have hf2 : st.length < r + 1 := by
     rw [Bool.and_true, hn] at hfit
     exact Nat.lt_of_not_le fun hc => by rw [Nat.ble_eq_true_of_le (show 0 + 0 + (((r : Nat) : Int).toNat - 0) + 1 ≤ st.length by omega)] at hfit; cases hfit
    (conv => whnf); refine recT (hb) ?_
    (conv => whnf); refine And.intro (⟨by simp [roomB]; omega, by simp [roomB]; omega, rfl, by rw [hn]; omega⟩) ?_
    conv => whnf
    have hss : stP st r y = st ++ [y] := by rw [stP, if_neg (by omega)]
    have hcc : mC kC st ++ [kC y] = mC kC (stP st r y) := by rw [hss]; simp [mC]
    have hll : (stP st r y).length = r + 1 := by rw [hss]; simp; omega
    have hcl : (mC kC st ++ [kC y]).length = r + 1 := by rw [hcc, mC_length, hll]
    refine ⟨m - 1, by omega, Gp.cut (H := [.arr 2 (mC kC (stP st r y))]) (by rw [← hcc]; rfl) ⟨lowP (kC_pure _), trivial⟩ rfl rfl ?_ fun ρ1 hh => ⟨k + 1, stP st r y, r + 1, by omega, by rw [q1]; exact hD2, by omega, by omega, rfl, hh⟩⟩
    exact ⟨rfl, rfl, rfl, slEq (by rw [hll]; exact hcl) hcl, rfl, rfl, intEq (nx1 (by omega)), trivial⟩
 ·simp at hlt
  have hk2 : k = e.length := by omega
  subst hk2
  rw [List.drop_length] at hD
  have hD1 : st.take D = [kf] := Option.some.inj hD
  have hlD : (st.take D).length = D := by simp; omega
  obtain rfl : D = 1 := by rw [hD1] at hlD; exact hlD.symm
  obtain ⟨kk, rest, rfl⟩ : ∃ kk rest, st = kk :: rest := by
   cases st with
   | nil => simp at hDl
   | cons x xs => exact ⟨x, xs, rfl⟩
  obtain rfl : kk = kf := by simpa using hD1
  repeat' ((conv => whnf); first | refine recT hb ?_ | refine And.intro (by first | decide | omega) ?_)
  all_goals (conv => whnf)
  exact pub3 (.closed _ rfl) (.closed _ rfl) (.closed _ rfl)
end Go.AW

namespace Go.AW
variable [Draws]
attribute [local irreducible] ACalls CallE CallS Gp
set_option maxRecDepth 20000
set_option maxHeartbeats 4000000
theorem cC_pure (cs : List Col) : pureEs (cC cs) = true := by simp [pureEs, cC, colC, AVal.isPure]
theorem cloneC_raw (f : Bool) (cs : List Col) (hne : cs ≠ []) (hl : cs.length ≤ 1000) : ACalls pr 238 [.list f 3 (cC cs)] [] (fun r H' => r = .sl 0 cs.length 0 cs.length ∧ H' = [.arr 3 (cC cs)]) := by
 have hn := cC_length cs
 obtain ⟨c, cs', rfl⟩ : ∃ c cs', cs = c :: cs' := by
  cases cs with
  | nil => exact absurd rfl hne
  | cons c cs' => exact ⟨c, cs', rfl⟩
 refine acalls_of_body k238.has ?_
 (conv => whnf); refine And.intro (fun h => by cases h) ?_
 (conv => whnf); refine And.intro (⟨by simp [roomB, cC] at hl ⊢; omega, by simp [roomB, cC] at hl ⊢; omega, .inr rfl⟩) ?_
 conv => whnf
 exact ⟨slEq (by simp [cC]) (by simp [cC]), rfl⟩
theorem cloneC_t (f : Bool) (cs : List Col) (hne : cs ≠ []) (hl : cs.length ≤ 1000) (H : List AObj) : ACalls pr 238 [.list f 3 (cC cs)] H (fun r H' => r = .list false 3 (cC cs) ∧ H' = H) :=
 ACalls.frz1 rfl (cloneC_raw f cs hne hl) (cC_length cs).symm (cC_pure cs)
theorem zoned_t (x : Bool) {zs : List Zon} (hz : ZsOk zs) (H : List AObj) : ACalls pr 138 [.list x 3 (mC zonC zs)] H (fun r H' => r = .int .i64 0 ∧ H' = H) := by
 have hzl := hz.len
 refine ACalls.pure rfl (acalls_of_body k138.has ?_)
 conv => whnf
 refine ⟨fun m ρ H1 => ∃ k : Nat, k + m = zs.length ∧ H1 = [] ∧ Sv 18 [(6, .list x 3 (mC zonC zs)), (7, .int .i64 zs.length), (8, .int .i64 k)] ρ, zs.length, [], ?_, ?_⟩
 ·exact ⟨0, Nat.zero_add _, rfl, Sv.intro rfl ⟨rfl, intEq (by rw [mC_length]), rfl, trivial⟩⟩
 rintro m ρ H1 ⟨k, hk, rfl, d, rfl⟩
 (conv => whnf); refine recA (fun hlt => ?_) (fun hlt => ?_)
 ·simp at hlt
  obtain ⟨z, hzk, _, hm⟩ := get_drop (l := zs) (k := k) (by omega)
  (conv => whnf); refine And.intro (by omega) ?_
  (conv => whnf); refine recO (mC_at hzk) ?_
  (conv => whnf); refine ACalls.use ((zvalid_t (hz.vd z hm)).a _) ?_
  conv => whnf
  refine ⟨m - 1, by omega, Gp.cut (H := []) rfl trivial rfl rfl ?_ fun ρ1 h => ⟨k + 1, by omega, rfl, h⟩⟩
  exact ⟨rfl, rfl, intEq (nx1 (by omega)), trivial⟩
 ·conv => whnf
  exact .closed _ rfl
theorem condition_t [Gls] (e1 e2 e3 : Bool) {cs : List Col} {zs : List Zon} {e : List Nod} {kf : Kd} (he : ETy cs zs e kf) (hk : kf.1 = 1 ∨ kf.1 = 0) (hc : cs.length ≤ 100000) (hv : vldC cs = 0) (hz : ZsOk zs) (H : List AObj) :
  ACalls pr 239 [.list e1 6 (mC nodC e), .list e2 3 (mC colC cs), .list e3 3 (mC zonC zs)] H (fun r H' => r = .int .i64 0 ∧ H' = H) := by
 obtain ⟨kk, kn⟩ := kf
 refine ACalls.pure rfl (acalls_of_body k239.has ?_)
 (conv => whnf); refine ACalls.use (type_t e1 e2 e3 he hc hv hz _) ?_
 rcases hk with rfl | rfl
 ·conv => whnf
  exact .closed _ rfl
 ·conv => whnf
  exact .closed _ rfl
def ordN : ByteArray := bs [111, 114, 100, 101, 114, 115]
def spC : Option (List Nod) → List AVal
 | none => [.int .i64 0, .str ordN, .nil, .nil, .nil, .nil]
 | some e => [.int .i64 1, .str (bs []), .nil, .nil, .nil, .list false 6 (mC nodC e)]
theorem sp_pure (s : Option (List Nod)) : (spC s).all AVal.isPure = true := by cases s <;> rfl
theorem qshaped_t [Gls] (s : Option (List Nod)) (H : List AObj) : ACalls pr 176 [.agg (spC s)] H (fun r H' => r = .bool true ∧ H' = H) := by
 cases s with
 | none =>
  refine ACalls.pure rfl (acalls_of_body k176.has ?_)
  (conv => whnf); refine recO Gls.us ?_
  (conv => whnf); refine And.intro (by decide) ?_
  conv => whnf
  exact .closed _ rfl
 | some e =>
  refine ACalls.pure rfl (acalls_of_body k176.has ?_)
  (conv => whnf); refine recO Gls.us ?_
  (conv => whnf); refine And.intro (by decide) ?_
  conv => whnf
  exact .closed _ rfl
theorem source_t [Gls] (b : Bool) (H : List AObj) : ACalls pr 178 [.str ordN, .bool b] H (fun r H' => r = .int .i64 0 ∧ H' = H) := by
 have h1 : qualB ordN = true := by decide
 have h2 : resB ordN = false := by decide
 refine ACalls.pure rfl (acalls_of_body k178.has ?_)
 cases b
 all_goals
  (conv => whnf); refine ACalls.use (schema_IsQualified_spec ordN (by decide) _) ?_
  rw [h1]
  (conv => whnf); refine ACalls.use ((reserved_t ordN).a _) ?_
  rw [h2]
  conv => whnf
  exact .closed _ rfl
def SpOk (cs : List Col) (zs : List Zon) (s : Option (List Nod)) : Prop := ∀ e, s = some e → ∃ kf, ETy cs zs e kf ∧ (kf.1 = 1 ∨ kf.1 = 0)
theorem vstep_t [Gls] {cs : List Col} {zs : List Zon} {s : Option (List Nod)} (hs : SpOk cs zs s) (H : List AObj) : ACalls pr 137 [.agg (spC s)] H (fun r H' => r = .int .i64 0 ∧ H' = H) := by
 cases s with
 | none =>
  refine ACalls.pure rfl (acalls_of_body k137.has ?_)
  (conv => whnf); refine ACalls.use (qshaped_t none _) ?_
  (conv => whnf); refine ACalls.use (source_t false _) ?_
  conv => whnf
  exact .closed _ rfl
 | some e =>
  obtain ⟨kf, he, _⟩ := hs e rfl
  obtain ⟨hf, hh⟩ := he.hh
  refine ACalls.pure rfl (acalls_of_body k137.has ?_)
  (conv => whnf); refine ACalls.use (qshaped_t (some e) _) ?_
  (conv => whnf); refine ACalls.use (val_t false e he.len hh _) ?_
  conv => whnf
  exact .closed _ rfl
end Go.AW

namespace Go.AW
variable [Draws]
attribute [local irreducible] ACalls CallE CallS Gp
set_option maxRecDepth 20000
set_option maxHeartbeats 4000000
structure RlR where
 name : ByteArray
 fc : Bool
 cols : List Col
 rows : List Ent
def rlC (r : RlR) : List AVal := [.str r.name, .list r.fc 3 (cC r.cols), .nil, .list false 2 (eC r.rows)]
def rlN (nm : ByteArray) (r : RlR) : Bool := r.name.data.toList == nm.data.toList
theorem idxR_t (g : FuncId) (caps : List AVal) (p : RlR → Bool) (H : List AObj) (cs : List RlR) (hg : ∀ c ∈ cs, ACalls pr g ([.agg (rlC c)] ++ caps) H (fun r H' => r = .bool (p c) ∧ H' = H)) (ex : Bool) (hl : cs.length ≤ 1000000) :
  ACalls pr 90 [.list ex 4 (mC rlC cs), .fn g caps] H (fun r H' => r = .int .i64 (idxOf p cs 0) ∧ H' = H) := by
 refine acalls_of_body k90.has ?_
 conv => whnf
 refine ⟨fun m ρ H1 => ∃ k : Nat, k + m = cs.length ∧ idxOf p (cs.drop k) k = idxOf p cs 0 ∧ H1 = H ∧
  Sv 19 [(0, .list ex 4 (mC rlC cs)), (1, .fn g caps), (7, .int .i64 cs.length), (8, .int .i64 k)] ρ, cs.length, [], ?_, ?_⟩
 ·exact ⟨0, by omega, rfl, rfl, Sv.intro rfl ⟨rfl, rfl, intEq (by rw [mC_length]), rfl, trivial⟩⟩
 rintro m ρ H1 ⟨k, hk, hr, rfl, d, rfl⟩
 (conv => whnf); refine recA (fun hlt => ?_) (fun hlt => ?_)
 ·simp at hlt
  obtain ⟨c, hc, hd, hcm⟩ := get_drop hlt
  rw [hd] at hr
  (conv => whnf); refine And.intro (by omega) ?_
  (conv => whnf); refine recO (mC_at hc) ?_
  (conv => whnf); refine ACalls.use (hg c hcm) ?_
  (conv => whnf); refine recA (fun hp => ?_) (fun hp => ?_)
  ·conv => whnf
   refine ⟨intEq ?_, rfl⟩
   rw [← hr, idxOf, if_pos (show p c = true from hp)]
  ·conv => whnf
   refine ⟨m - 1, by omega, Gp.keep rfl ?_ fun ρ1 h => ⟨k + 1, by omega, ?_, rfl, h⟩⟩
   ·exact ⟨rfl, rfl, rfl, intEq (wrapI ((k : Int) + 1) (by omega) (by omega)), trivial⟩
   ·rw [← hr, idxOf, if_neg (by rw [show p c = false from hp]; simp)]; rfl
 ·simp at hlt
  conv => whnf
  rw [List.drop_eq_nil_of_le hlt] at hr
  exact ⟨intEq hr, rfl⟩
theorem tfind1_t (z : RlR) (nm : ByteArray) (o : AObj) : ACalls pr 198 ([.agg (rlC z)] ++ [.ptr 0 1 0 0]) [.arr 1 [[.str nm]], o] (fun r H' => r = .bool (rlN nm z) ∧ H' = [.arr 1 [[.str nm]], o]) := by
 refine ACalls.drop rfl (acalls_of_body k198.has ?_)
 conv => whnf
 exact ⟨rfl, _, rfl⟩
theorem tfind_t (x : Bool) {r0 : RlR} {R : List RlR} (hl : R.length ≤ 1000) (hn : r0.name = ordN) (H : List AObj) : ACalls pr 139 [.list x 4 (mC rlC (r0 :: R)), .str ordN] H (fun r H' => r = .tuple [.agg (rlC r0), .bool true] ∧ H' = H) := by
 have h0 : idxOf (rlN ordN) (r0 :: R) 0 = 0 := by
  rw [idxOf, if_pos (by unfold rlN; rw [hn]; exact beq_self_eq_true _)]
 refine ACalls.pure rfl (acalls_of_body k139.has ?_)
 (conv => whnf); refine ACalls.use (idxR_t _ _ (rlN ordN) _ (r0 :: R) (fun c _ => tfind1_t c ordN _) x (by simp; omega)) ?_
 rw [h0]
 repeat ((conv => whnf); refine And.intro (by decide) ?_)
 conv => whnf
 exact pub2 (.closed _ rfl) (.closed _ rfl)
theorem tOp0_t (fc e3 : Bool) (cs : List Col) (hne : cs ≠ []) (hl : cs.length ≤ 1000) (zs : List Zon) (H : List AObj) :
  ACalls pr 199 [.nil, .agg (spC none), .list fc 3 (cC cs), .list e3 3 (mC zonC zs)] H (fun r H' => r = .tuple [.list false 3 (cC cs), .int .i64 0] ∧ H' = H) := by
 refine ACalls.pure rfl (acalls_of_body k199.has ?_)
 (conv => whnf); refine ACalls.use (cloneC_t fc cs hne hl _) ?_
 conv => whnf
 exact pub2 (.closed _ rfl) (.closed _ rfl)
structure CsOk (cs : List Col) : Prop where
 ne : cs ≠ []
 len : cs.length ≤ 1000
 vd : vldC cs = 0
theorem tOp1_t [Gls] (fc e3 : Bool) {cs : List Col} (hcs : CsOk cs) {zs : List Zon} (hz : ZsOk zs) {e : List Nod} (hs : SpOk cs zs (some e)) (H : List AObj) :
  ACalls pr 199 [.list fc 3 (cC cs), .agg (spC (some e)), .nil, .list e3 3 (mC zonC zs)] H (fun r H' => r = .tuple [.list false 3 (cC cs), .int .i64 0] ∧ H' = H) := by
 obtain ⟨kf, he, hk⟩ := hs e rfl
 have hl := hcs.len
 refine ACalls.pure rfl (acalls_of_body k199.has ?_)
 conv => whnf
 refine ⟨_, cloneC_t fc cs hcs.ne hl _, ?_⟩
 conv => whnf
 refine ⟨_, condition_t false fc e3 he hk (by omega) hcs.vd hz _, ?_⟩
 conv => whnf
 exact pub2 (.closed _ rfl) (.closed _ rfl)
theorem tStep0_t [Gls] (fc e3 : Bool) {cs : List Col} (hcs : CsOk cs) {zs : List Zon} (hz : ZsOk zs) (H : List AObj) :
  ACalls pr 140 [.nil, .agg (spC none), .list fc 3 (cC cs), .list e3 3 (mC zonC zs)] H (fun r H' => r = .tuple [.list false 3 (cC cs), .int .i64 0] ∧ H' = H) := by
 have hl := hcs.len
 refine ACalls.pure rfl (acalls_of_body k140.has ?_)
 (conv => whnf); refine ACalls.use (vstep_t (cs := cs) (zs := zs) (s := none) (fun e h => by cases h) _) ?_
 (conv => whnf); refine ACalls.use (schema_Validate_spec fc cs (by omega) _) ?_
 rw [hcs.vd]
 (conv => whnf); refine ACalls.use (zoned_t e3 hz _) ?_
 (conv => whnf); refine ACalls.use (tOp0_t fc e3 cs hcs.ne hl zs _) ?_
 conv => whnf
 exact pub2 (.closed _ rfl) (.closed _ rfl)
theorem tStep1_t [Gls] (fc e3 : Bool) {cs : List Col} (hcs : CsOk cs) {zs : List Zon} (hz : ZsOk zs) {e : List Nod} (hs : SpOk cs zs (some e)) (H : List AObj) :
  ACalls pr 140 [.list fc 3 (cC cs), .agg (spC (some e)), .nil, .list e3 3 (mC zonC zs)] H (fun r H' => r = .tuple [.list false 3 (cC cs), .int .i64 0] ∧ H' = H) := by
 have hl := hcs.len
 refine ACalls.pure rfl (acalls_of_body k140.has ?_)
 (conv => whnf); refine ACalls.use (vstep_t hs _) ?_
 (conv => whnf); refine ACalls.use (schema_Validate_spec fc cs (by omega) _) ?_
 rw [hcs.vd]
 (conv => whnf); refine ACalls.use (zoned_t e3 hz _) ?_
 (conv => whnf); refine ACalls.use (tOp1_t fc e3 hcs hz hs _) ?_
 conv => whnf
 exact pub2 (.closed _ rfl) (.closed _ rfl)
structure QOk (cs : List Col) (zs : List Zon) (q : List (Option (List Nod))) : Prop where
 n1 : 1 ≤ q.length
 n2 : q.length ≤ 16
 sp : ∀ s ∈ q, SpOk cs zs s
 fst : ∀ k s, q[k]? = some s → (s = none ↔ k = 0)
theorem qvalid_t [Gls] (x : Bool) {cs : List Col} {zs : List Zon} {q : List (Option (List Nod))} (hq : QOk cs zs q) (H : List AObj) :
  ACalls pr 87 [.list x 6 (mC spC q)] H (fun r H' => r = .int .i64 0 ∧ H' = H) := by
 have h1 := hq.n1
 have h2 := hq.n2
 refine ACalls.pure rfl (acalls_of_body k87.has ?_)
 (conv => whnf); refine recF (by simp; omega) ?_
 (conv => whnf); refine recF (by simp; omega) ?_
 conv => whnf
 refine ⟨fun m ρ H1 => ∃ k : Nat, k + m = q.length ∧ H1 = [] ∧ Sv 33 [(14, .list x 6 (mC spC q)), (15, .int .i64 q.length), (16, .int .i64 k)] ρ, q.length, [], ?_, ?_⟩
 ·exact ⟨0, Nat.zero_add _, rfl, Sv.intro rfl ⟨rfl, intEq (by rw [mC_length]), rfl, trivial⟩⟩
 rintro m ρ H1 ⟨k, hk, rfl, d, rfl⟩
 (conv => whnf); refine recA (fun hlt => ?_) (fun hlt => ?_)
 ·simp at hlt
  obtain ⟨s, hsk, _, hm⟩ := get_drop (l := q) (k := k) (by omega)
  have hf := hq.fst k s hsk
  (conv => whnf); refine And.intro (by omega) ?_
  (conv => whnf); refine recO (mC_at hsk) ?_
  cases s with
  | none =>
   obtain rfl : k = 0 := hf.1 rfl
   (conv => whnf); refine ACalls.use (vstep_t (hq.sp _ hm) _) ?_
   conv => whnf
   refine ⟨m - 1, by omega, Gp.cut (H := []) rfl trivial rfl rfl ?_ fun ρ1 h => ⟨0 + 1, by omega, rfl, h⟩⟩
   exact ⟨rfl, rfl, intEq (nx1 (by omega)), trivial⟩
  | some e =>
   have hk0 : k ≠ 0 := fun h => by cases hf.2 h
   (conv => whnf); refine ACalls.use (vstep_t (hq.sp _ hm) _) ?_
   (conv => whnf); refine recF (by simp; omega) ?_
   conv => whnf
   refine ⟨m - 1, by omega, Gp.cut (H := []) rfl trivial rfl rfl ?_ fun ρ1 h => ⟨k + 1, by omega, rfl, h⟩⟩
   exact ⟨rfl, rfl, intEq (nx1 (by omega)), trivial⟩
 ·conv => whnf
  exact .closed _ rfl
end Go.AW

namespace Go.AW
variable [Draws]
attribute [local irreducible] ACalls CallE CallS Gp
set_option maxRecDepth 20000
set_option maxHeartbeats 4000000
structure RsOk (cs : List Col) (r0 : RlR) (R : List RlR) : Prop where
 len : R.length ≤ 1000
 nm : r0.name = ordN
 cl : r0.cols = cs
 cv : ∀ r ∈ r0 :: R, CsOk r.cols
 tb : ∀ r ∈ r0 :: R, TbOk r.cols r.rows
def colsE (cs : List Col) (n : Nat) : List (List AVal) := List.replicate n [.list false 3 (cC cs)]
theorem colsE_succ (cs : List Col) (n : Nat) : colsE cs (n + 1) = colsE cs n ++ [[.list false 3 (cC cs)]] := List.replicate_succ'
theorem colsE_len (cs : List Col) (n : Nat) : (colsE cs n).length = n := List.length_replicate
theorem colsE_pure (cs : List Col) (n : Nat) : pureEs (colsE cs n) = true := by
 simp only [pureEs, List.all_eq_true]
 intro e he
 rw [List.eq_of_mem_replicate he]
 exact fun a ha => by simp at ha; rw [ha]; rfl
theorem tQuery_t [Gls] (x1 x2 x3 : Bool) {cs : List Col} {zs : List Zon} {q : List (Option (List Nod))} (hq : QOk cs zs q) (hcs : CsOk cs) (hz : ZsOk zs) {r0 : RlR} {R : List RlR} (hr : RsOk cs r0 R) (H : List AObj) :
  ACalls pr 88 [.list x1 6 (mC spC q), .list x2 4 (mC rlC (r0 :: R)), .list x3 3 (mC zonC zs)] H (fun r H' => r = .tuple [.list false 1 (colsE cs q.length), .int .i64 0] ∧ H' = H) := by
 have hrl := hr.len
 have h16 := hq.n2
 have hRl : (r0 :: R).length = R.length + 1 := rfl
 refine ACalls.pure rfl (acalls_of_body k88.has ?_)
 (conv => whnf); refine ACalls.use (qvalid_t x1 hq _) ?_
 conv => whnf
 refine ⟨fun m ρ H1 => ∃ k : Nat, k + m = (r0 :: R).length ∧ H1 = [] ∧ Sv 81 [(0, .list x1 6 (mC spC q)), (1, .list x2 4 (mC rlC (r0 :: R))), (2, .list x3 3 (mC zonC zs)), (26, .list x2 4 (mC rlC (r0 :: R))), (27, .int .i64 (r0 :: R).length), (28, .int .i64 k)] ρ, (r0 :: R).length, [], ?_, ?_⟩
 ·exact ⟨0, Nat.zero_add _, rfl, Sv.intro rfl ⟨rfl, rfl, rfl, rfl, intEq (by rw [mC_length]), rfl, trivial⟩⟩
 rintro m ρ H1 ⟨k, hk, rfl, d, rfl⟩
 (conv => whnf); refine recA (fun hlt => ?_) (fun hlt => ?_)
 ·simp at hlt
  obtain ⟨r, hrk, _, hm⟩ := get_drop (l := r0 :: R) (k := k) (by simp; omega)
  have hc := hr.cv r hm
  have hcl := hc.len
  (conv => whnf); refine And.intro (by omega) ?_
  (conv => whnf); refine recO (mC_at hrk) ?_
  (conv => whnf); refine ACalls.use (schema_Validate_spec r.fc r.cols (by omega) _) ?_
  rw [hc.vd]
  conv => whnf
  refine ⟨m - 1, by omega, Gp.cut (H := []) rfl trivial rfl rfl ?_ fun ρ1 h => ⟨k + 1, by omega, rfl, h⟩⟩
  exact ⟨rfl, rfl, rfl, rfl, rfl, intEq (nx1 (by simp at hk; omega)), trivial⟩
 (conv => whnf); refine ACalls.use (zoned_t x3 hz _) ?_
 conv => whnf
 refine ⟨fun m ρ H1 => ∃ k : Nat, k + m = q.length ∧ H1 = [.arr 1 (colsE cs k)] ∧ Sv 81 [(1, .list x2 4 (mC rlC (r0 :: R))), (2, .list x3 3 (mC zonC zs)), (13, .sl 0 k 0 k), (14, if k = 0 then .nil else .list false 3 (cC cs)), (44, .list x1 6 (mC spC q)), (45, .int .i64 q.length), (46, .int .i64 k)] ρ, q.length, [(13, 1)], ?_, ?_⟩
 ·exact ⟨0, Nat.zero_add _, rfl, Sv.intro rfl ⟨rfl, rfl, rfl, rfl, rfl, intEq (by rw [mC_length]), rfl, trivial⟩⟩
 rintro m ρ H1 ⟨k, hk, rfl, d, rfl⟩
 have hb : Nat.beq k (colsE cs k).length = true := by rw [colsE_len]; exact Nat.beq_refl _
 (conv => whnf); refine recA (fun hlt => ?_) (fun hlt => ?_)
 ·simp at hlt
  obtain ⟨s, hsk, _, hm⟩ := get_drop (l := q) (k := k) (by omega)
  have hf := hq.fst k s hsk
  have hcc : colsE cs k ++ [[AVal.list false 3 (cC cs)]] = colsE cs (k + 1) := (colsE_succ cs k).symm
  have hcl : (colsE cs k ++ [[AVal.list false 3 (cC cs)]]).length = k + 1 := by rw [hcc, colsE_len]
  (conv => whnf); refine And.intro (by omega) ?_
  (conv => whnf); refine recO (mC_at hsk) ?_
  cases s with
  | none =>
   obtain rfl : k = 0 := hf.1 rfl
   rw [if_pos rfl]
   (conv => whnf); refine ACalls.use (tfind_t x2 hrl hr.nm _) ?_
   rw [show rlC r0 = [.str r0.name, .list r0.fc 3 (cC cs), .nil, .list false 2 (eC r0.rows)] by rw [rlC, hr.cl]]
   (conv => whnf); refine ACalls.use (tStep0_t r0.fc x3 hcs hz _) ?_
   (conv => whnf); refine And.intro (⟨by simp [roomB], by simp [roomB], rfl, by rw [colsE_len]⟩) ?_
   conv => whnf
   refine ⟨m - 1, by omega, Gp.cut (H := [.arr 1 (colsE cs (0 + 1))]) rfl ⟨lowP (colsE_pure _ _), trivial⟩ rfl rfl ?_ fun ρ1 h => ⟨0 + 1, by omega, rfl, h⟩⟩
   exact ⟨rfl, rfl, rfl, rfl, rfl, rfl, intEq (nx1 (by omega)), trivial⟩
  | some e =>
   have hk0 : k ≠ 0 := fun h => by cases hf.2 h
   rw [if_neg hk0]
   (conv => whnf); refine ACalls.use (tStep1_t false x3 hcs hz (hq.sp _ hm) _) ?_
   (conv => whnf); refine recT (hb) ?_
   (conv => whnf); refine And.intro (⟨by simp [roomB]; omega, by simp [roomB]; omega, rfl, by rw [colsE_len]⟩) ?_
   conv => whnf
   refine ⟨m - 1, by omega, Gp.cut (H := [.arr 1 (colsE cs (k + 1))]) (by rw [← hcc]; rfl) ⟨lowP (colsE_pure _ _), trivial⟩ rfl rfl ?_ fun ρ1 h => ⟨k + 1, by omega, rfl, h⟩⟩
   exact ⟨rfl, rfl, slEq hcl hcl, by rw [if_neg (by omega)]; rfl, rfl, rfl, intEq (nx1 (by omega)), trivial⟩
 ·simp at hlt
  obtain rfl : k = q.length := by omega
  conv => whnf
  exact pub2 (pubF rfl (colsE_len _ _).symm (colsE_len _ _).symm (colsE_pure _ _)) (.closed _ rfl)
theorem evalid_t {r : RlR} (hc : CsOk r.cols) (ht : TbOk r.cols r.rows) (H : List AObj) : ACalls pr 89 [.agg (rlC r)] H (fun r H' => r = .int .i64 0 ∧ H' = H) := by
 have hcl := hc.len
 obtain ⟨ht, hrw⟩ := ht
 have hb0 : bagB r.rows = 0 := by unfold tabB at ht; simp at ht; exact ht.1
 have hlen := bag_len hb0
 refine ACalls.pure rfl (acalls_of_body k89.has ?_)
 (conv => whnf); refine ACalls.use (schema_Validate_spec r.fc r.cols (by omega) _) ?_
 rw [hc.vd]
 (conv => whnf); refine ACalls.use (bag_Validate_spec false r.rows _) ?_
 rw [hb0]
 (conv => whnf); refine ACalls.use (bag_IsTable_spec false r.rows _) ?_
 rw [ht]
 conv => whnf
 refine ⟨fun m ρ H1 => ∃ k : Nat, k + m = r.rows.length ∧ H1 = [.arr 4 [rlC r]] ∧ Sv 40 [(1, .ptr 0 1 0 0), (25, .list false 2 (eC r.rows)), (26, .int .i64 r.rows.length), (27, .int .i64 k)] ρ, r.rows.length, [], ?_, ?_⟩
 ·exact ⟨0, Nat.zero_add _, rfl, Sv.intro rfl ⟨rfl, rfl, intEq (by rw [eC_length]), rfl, trivial⟩⟩
 rintro m ρ H1 ⟨k, hk, rfl, d, rfl⟩
 (conv => whnf); refine recA (fun hlt => ?_) (fun hlt => ?_)
 ·simp at hlt
  obtain ⟨e, hek, _, hm⟩ := get_drop (l := r.rows) (k := k) (by omega)
  have h0 := hrw e hm
  have hel : e.row.length ≤ 1000000 := by
   unfold chkRow at h0
   split at h0
   ·omega
   ·cases h0
  (conv => whnf); refine And.intro (by omega) ?_
  (conv => whnf); refine recO (eC_at hek) ?_
  (conv => whnf); refine ACalls.use (schema_CheckRow_spec r.fc false r.cols e.row hel _) ?_
  rw [h0]
  conv => whnf
  refine ⟨m - 1, by omega, Gp.cut (H := [.arr 4 [rlC r]]) rfl ⟨rfl, trivial⟩ rfl rfl ?_ fun ρ1 h => ⟨k + 1, by omega, rfl, h⟩⟩
  exact ⟨rfl, rfl, rfl, intEq (nx1 (by omega)), trivial⟩
 ·conv => whnf
  exact .closed _ rfl
theorem eC_snoc (l : List Ent) (e : Ent) : eC (l ++ [e]) = eC l ++ [entC e] := by simp [eC]
theorem copied_t (x : Bool) (l : List Ent) (hl : l.length ≤ 100000) (hr : ∀ e ∈ l, e.row.length ≤ 1000000) (H : List AObj) : ACalls pr 204 [.list x 2 (eC l)] H (fun r H' => r = .list false 2 (eC l) ∧ H' = H) := by
 refine ACalls.pure rfl (acalls_of_body k204.has ?_)
 conv => whnf
 refine ⟨fun m ρ H1 => ∃ k : Nat, k + m = l.length ∧ H1 = [.arr 2 (eC (l.take k))] ∧ Sv 23 [(3, .sl 0 k 0 k), (6, .list x 2 (eC l)), (7, .int .i64 l.length), (8, .int .i64 k)] ρ, l.length, [(3, 2)], ?_, ?_⟩
 ·exact ⟨0, Nat.zero_add _, rfl, Sv.intro rfl ⟨rfl, rfl, intEq (by rw [eC_length]), rfl, trivial⟩⟩
 rintro m ρ H1 ⟨k, hk, rfl, d, rfl⟩
 have hkl : (eC (l.take k)).length = k := by rw [eC_length, List.length_take]; omega
 have hb : Nat.beq k (eC (l.take k)).length = true := by rw [hkl]; exact Nat.beq_refl _
 (conv => whnf); refine recA (fun hlt => ?_) (fun hlt => ?_)
 ·simp at hlt
  obtain ⟨e, hek, _, hm⟩ := get_drop (l := l) (k := k) (by omega)
  have hcc : eC (l.take k) ++ [entC e] = eC (l.take (k + 1)) := by rw [take_succ' hek, eC_snoc]
  have hcl : (eC (l.take k) ++ [entC e]).length = k + 1 := by rw [List.length_append, hkl]; rfl
  (conv => whnf); refine And.intro (by omega) ?_
  (conv => whnf); refine recO (eC_at hek) ?_
  conv => whnf
  refine ⟨_, CloneV_spec false e.row (hr e hm) _, ?_⟩
  (conv => whnf); refine recT (hb) ?_
  (conv => whnf); refine And.intro (⟨by simp [roomB]; omega, by simp [roomB]; omega, rfl, hkl.symm⟩) ?_
  conv => whnf
  refine ⟨m - 1, by omega, Gp.cut (H := [.arr 2 (eC (l.take (k + 1)))]) (by rw [← hcc]; rfl) ⟨lowP (pureEs_eC _), trivial⟩ rfl rfl ?_ fun ρ1 h => ⟨k + 1, by omega, rfl, h⟩⟩
  exact ⟨slEq hcl hcl, rfl, rfl, intEq (nx1 (by omega)), trivial⟩
 ·simp at hlt
  obtain rfl : k = l.length := by omega
  rw [List.take_length] at hkl ⊢
  conv => whnf
  exact pubF rfl hkl.symm hkl.symm (pureEs_eC _)
end Go.AW

namespace Go.AW
variable [Draws]
attribute [local irreducible] ACalls CallE CallS Gp
set_option maxRecDepth 20000
set_option maxHeartbeats 8000000
def zEq (v : V) : Bool := ((0 : Int) == v.kind && ((0 : Int) == v.num && ((bs []).data.toList == v.str.data.toList && true)))
def vN : V := ⟨0, 0, bs []⟩
theorem idxV_t (e : Bool) (l : List V) (hl : l.length ≤ 1000) (H : List AObj) : ACalls pr 59 [.list e 3 (vC l), .agg (valC vN)] H (fun r H' => r = .int .i64 (idxOf zEq l 0) ∧ H' = H) := by
 refine ACalls.pure rfl (acalls_of_body k59.has ?_)
 conv => whnf
 refine ⟨fun m ρ H1 => ∃ k : Nat, k + m = l.length ∧ idxOf zEq (l.drop k) k = idxOf zEq l 0 ∧ H1 = [.arr 3 [valC vN]] ∧ Sv 19 [(0, .list e 3 (vC l)), (3, .ptr 0 1 0 0), (7, .int .i64 l.length), (8, .int .i64 k)] ρ, l.length, [], ?_, ?_⟩
 ·exact ⟨0, Nat.zero_add _, rfl, rfl, Sv.intro rfl ⟨rfl, rfl, intEq (by rw [vC_length]), rfl, trivial⟩⟩
 rintro m ρ H1 ⟨k, hk, hr, rfl, d, rfl⟩
 (conv => whnf); refine recA (fun hlt => ?_) (fun hlt => ?_)
 ·simp at hlt
  obtain ⟨c, hc, hd, _⟩ := get_drop (l := l) (k := k) (by omega)
  rw [hd] at hr
  (conv => whnf); refine And.intro (by omega) ?_
  (conv => whnf); refine recO (vC_at hc) ?_
  (conv => whnf); refine recA (fun hp => ?_) (fun hp => ?_)
  ·conv => whnf
   refine pubI ?_
   rw [← hr, idxOf, if_pos (show zEq c = true from hp)]
  ·conv => whnf
   refine ⟨m - 1, by omega, Gp.keep rfl ?_ fun ρ1 h => ⟨k + 1, by omega, ?_, rfl, h⟩⟩
   ·exact ⟨rfl, rfl, rfl, intEq (wrapI ((k : Int) + 1) (by omega) (by omega)), trivial⟩
   ·rw [← hr, idxOf, if_neg (by rw [show zEq c = false from hp]; simp)]; rfl
 ·simp at hlt
  conv => whnf
  rw [List.drop_eq_nil_of_le (by omega)] at hr
  exact pubI hr
theorem contV_t (e : Bool) (l : List V) (hl : l.length ≤ 1000) (H : List AObj) : ACalls pr 29 [.list e 3 (vC l), .agg (valC vN)] H (fun r H' => r = .bool (l.any zEq) ∧ H' = H) := by
 refine ACalls.pure rfl (acalls_of_body k29.has ?_)
 (conv => whnf); refine ACalls.use (idxV_t e l hl _) ?_
 conv => whnf
 exact pubB (by rw [← idxOf_any'])
def spP (n : Nod) (l : List V) (v : V) : Prop := (∀ H, ACalls pr 28 [.agg (nodC n), .list false 3 (vC l)] H (fun r H' => r = .tuple [.agg (valC v), .bool (isSp n.op)] ∧ H' = H)) ∧ (n.op = 14 → ∀ a b, l = [a, b] → v = lgV a b 0) ∧ ((∀ w ∈ l, VS w) → VS n.v → VS v) ∧ (n.op = 0 → v = n.v) ∧ spK n l v
open Classical in
noncomputable def spV (n : Nod) (l : List V) : V := if h : ∃ v, spP n l v then Classical.choose h else vN
theorem spV_t (n : Nod) (l : List V) (hl : (l.length : Int) = arN n) : spP n l (spV n l) := by
 have h : ∃ v, spP n l v := by
  obtain ⟨r, ⟨v, rfl, h1, h2, h0, hk⟩, h3⟩ := special_d n false l hl
  exact ⟨v, h3, h1, h2, h0, hk⟩
 unfold spV
 rw [dif_pos h]
 exact Classical.choose_spec h
def apP (zs : List Zon) (n : Nod) (l : List V) (v : V) : Prop := (∀ H, ACalls pr 30 [.agg (nodC n), .list false 3 (vC l), .list false 3 (mC zonC zs)] H (fun r H' => r = .agg (valC v) ∧ H' = H)) ∧ VS v ∧ (n.op = 12 → ∀ a b, l = [a, b] → v = boV (decide (valCmp a b < 0))) ∧ apK n l v
open Classical in
noncomputable def apV (zs : List Zon) (n : Nod) (l : List V) : V := if h : ∃ v, apP zs n l v then Classical.choose h else vN
theorem apV_t {zs : List Zon} (hz : ZsOk zs) {n : Nod} (g : Gd n) {l : List V} (hl : (l.length : Int) = arN n) (hv : ∀ v ∈ l, VS v) (hzn : n.op = 20 → zHas zs n.name = true) (hsp : isSp n.op = false) (hc : n.op ≠ 1) : apP zs n l (apV zs n l) := by
 have h : ∃ v, apP zs n l v := by
  obtain ⟨r, ⟨v, rfl, h1, h12, hk⟩, h3⟩ := apply_s g false false hl hv hz hzn hsp hc
  exact ⟨v, h3, h1, h12, hk⟩
 unfold apV
 rw [dif_pos h]
 exact Classical.choose_spec h
def mpR (l : List (Col × V)) : List (AVal × AVal) := l.foldl (fun m p => mput 2 (.str p.1.name) (.agg (valC p.2)) m) []
theorem mpR_snoc (l : List (Col × V)) (p : Col × V) : mpR (l ++ [p]) = mput 2 (.str p.1.name) (.agg (valC p.2)) (mpR l) := by unfold mpR; rw [List.foldl_append]; rfl
def MOk (m : List (AVal × AVal)) : Prop := ∀ kv ∈ m, ∃ (s : ByteArray) (v : V), kv = (.str s, .agg (valC v)) ∧ VS v
theorem MOk.put : ∀ {m : List (AVal × AVal)}, MOk m → ∀ (s : ByteArray) (v : V), VS v → MOk (mput 2 (.str s) (.agg (valC v)) m)
 | [], _, s, v, hv => fun kv hk => by simp [mput] at hk; exact ⟨s, v, hk, hv⟩
 | kv :: m, h, s, v, hv => by
  obtain ⟨s', v', e, hv'⟩ := h kv (List.mem_cons_self ..)
  subst e
  have ht := MOk.put (m := m) (fun x hx => h x (List.mem_cons_of_mem _ hx)) s v hv
  have e2 : mput 2 (.str s) (.agg (valC v)) ((.str s', .agg (valC v')) :: m) = match some (s.data.toList == s'.data.toList) with | some true => (.str s', .agg (valC v)) :: m | _ => (.str s', .agg (valC v')) :: mput 2 (.str s) (.agg (valC v)) m := rfl
  rw [e2]
  cases hb : (s.data.toList == s'.data.toList)
  ·intro x hx
   rcases List.mem_cons.1 hx with rfl | hx
   ·exact ⟨s', v', rfl, hv'⟩
   ·exact ht x hx
  ·intro x hx
   rcases List.mem_cons.1 hx with rfl | hx
   ·exact ⟨s', v, rfl, hv⟩
   ·exact h x (List.mem_cons_of_mem _ hx)
theorem MOk.key {m : List (AVal × AVal)} (h : MOk m) (s : ByteArray) : keyOk 2 (.str s) m = true := by
 unfold keyOk
 simp only [Bool.and_eq_true, List.all_eq_true]
 refine ⟨rfl, fun kv hk => ?_⟩
 obtain ⟨s', v, e, _⟩ := h kv hk
 subst e; rfl
theorem MOk.find : ∀ {m : List (AVal × AVal)}, MOk m → ∀ (s : ByteArray) (x : AVal), mfind 2 (.str s) m = some x → ∃ v, x = .agg (valC v) ∧ VS v
 | [], _, s, x, hx => by cases hx
 | kv :: m, h, s, x, hx => by
  obtain ⟨s', v', e, hv'⟩ := h kv (List.mem_cons_self ..)
  subst e
  have ht := MOk.find (m := m) (fun x hx => h x (List.mem_cons_of_mem _ hx)) s x
  have e2 : mfind 2 (.str s) ((.str s', .agg (valC v')) :: m) = match some (s.data.toList == s'.data.toList) with | some true => some (.agg (valC v')) | _ => mfind 2 (.str s) m := rfl
  rw [e2] at hx
  cases hb : (s.data.toList == s'.data.toList)
  ·rw [hb] at hx; exact ht hx
  ·rw [hb] at hx; cases hx; exact ⟨v', rfl, hv'⟩
theorem MOk.closed {m : List (AVal × AVal)} (h : MOk m) : (m.all fun kv => kv.2.closed) = true := by
 rw [List.all_eq_true]
 intro kv hk
 obtain ⟨s', v, e, _⟩ := h kv hk
 subst e; rfl
def nmV (m : List (AVal × AVal)) (s : ByteArray) : V := match mfind 2 (.str s) m with
 | some (.agg [.int _ k, .int _ n, .str t]) => ⟨k, n, t⟩
 | _ => vN
theorem nmV_t {m : List (AVal × AVal)} (h : MOk m) (s : ByteArray) : ((mfind 2 (.str s) m = none ∧ nmV m s = vN) ∨ mfind 2 (.str s) m = some (.agg (valC (nmV m s)))) ∧ VS (nmV m s) := by
 unfold nmV
 cases hm : mfind 2 (.str s) m with
 | none => exact ⟨.inl ⟨rfl, rfl⟩, vs0⟩
 | some x =>
  obtain ⟨v, rfl, hv⟩ := h.find s x hm
  exact ⟨.inr rfl, hv⟩
noncomputable def evN (zs : List Zon) (m : List (AVal × AVal)) (n : Nod) (l : List V) : V := if n.op = 1 then nmV m n.name else if isSp n.op = false ∧ l.any zEq = false then apV zs n l else spV n l
noncomputable def fV (zs : List Zon) (m : List (AVal × AVal)) (n : Nod) (l : List V) : Option V := some (evN zs m n l)
noncomputable def evE (zs : List Zon) (m : List (AVal × AVal)) (e : List Nod) : V := match stk (fV zs m) e [] with
 | some [v] => v
 | _ => vN
theorem evE_t {cs : List Col} {zs : List Zon} (m : List (AVal × AVal)) {e : List Nod} {kf : Kd} (he : ETy cs zs e kf) : stk (fV zs m) e [] = some [evE zs m e] := by
 obtain ⟨y, hy⟩ := (Lv.of he.kk).total (fV zs m) (fun n l => ⟨_, rfl⟩)
 have h := hy []
 unfold evE
 rw [h]; rfl
theorem valid64 {v : V} (h : validB v = true) : VS v := by
 have h0 : ∀ s : ByteArray, s.data.toList = [] → s.size ≤ 64 := fun s hs => by
  show s.data.size ≤ 64
  rw [← Array.length_toList, hs]; decide
 unfold validB at h
 unfold VS
 (repeat' split at h) <;> simp at h
 ·exact h0 _ (by simp [h.2])
 ·exact h0 _ (by simp [h.2])
 ·exact h0 _ (by simp [h.2])
 ·exact h.2
 ·exact h0 _ (by simp [h.2])
theorem chkGo_valid : ∀ (cs : List Col) (rs : List V), rs.length = cs.length → chkGo cs rs = 0 → ∀ v ∈ rs, validB v = true
 | [], [], _, _, v, h => by cases h
 | c :: cs, r :: rs, hl, h, v, hv => by
  rw [chkGo] at h
  split at h
  ·cases h
  ·rename_i h1
   split at h
   ·cases h
   ·rcases List.mem_cons.1 hv with rfl | hv
    ·simpa using h1
    ·exact chkGo_valid cs rs (by simpa using hl) h v hv
theorem chkRow_ok {cs : List Col} {rs : List V} (h : chkRow cs rs = 0) : rs.length = cs.length ∧ ∀ v ∈ rs, VS v := by
 unfold chkRow at h
 split at h
 ·rename_i hl
  exact ⟨hl, fun v hv => valid64 (chkGo_valid cs rs hl h v hv)⟩
 ·cases h
def eO : AObj := .arr 3 [[.int .i64 0, .int .i64 0, .str (bs [])]]
theorem lentI {α : Type} {f : α → List AVal} (hf : ∀ x, (f x).all AVal.isPure = true) {sz id : Nat} {st : List α} {D r : Nat} (hD : D ≤ st.length) (hr : r ≤ D) {H : List AObj} (ho : H[id]? = some (.arr sz (mC f st))) : Lent H (.sl id st.length (0 + ((r : Nat) : Int).toNat) (D - ((r : Nat) : Int).toNat)) (.list false sz (mC f ((st.take D).drop r))) := by
 have := Lent.sl id st.length (0 + ((r : Nat) : Int).toNat) (D - ((r : Nat) : Int).toNat) sz (mC f st) ho (mC_length _ _).symm (mC_pure hf st)
 rwa [show ((mC f st).drop (0 + ((r : Nat) : Int).toNat)).take (D - ((r : Nat) : Int).toNat) = mC f ((st.take D).drop r) from by rw [Nat.zero_add, Int.toNat_natCast, mC, mC, ← List.map_drop, ← List.map_take, List.drop_take]] at this
theorem eval_t [Gls] (e1 e2 e4 : Bool) {cs : List Col} (hcs : CsOk cs) {zs : List Zon} (hz : ZsOk zs) {e : List Nod} {kf : Kd} (he : ETy cs zs e kf) {row : List V} (hrow : chkRow cs row = 0) (H : List AObj) :
  ACalls pr 9 [.list e1 6 (mC nodC e), .list e2 3 (cC cs), .list e4 3 (vC row), .list false 3 (mC zonC zs)] H (fun r H' => r = .tuple [.agg (valC (evE zs (mpR (cs.zip row)) e)), .int .i64 0] ∧ H' = H) := by
 have hel := he.len
 have hcl := hcs.len
 obtain ⟨hrl, hrv⟩ := chkRow_ok hrow
 have hzl : (cs.zip row).length = cs.length := by simp; omega
 have hmo : ∀ k, MOk (mpR ((cs.zip row).take k)) := by
  intro k
  induction k with
  | zero => intro kv hk; simp [mpR] at hk
  | succ k ih =>
   cases hk : (cs.zip row)[k]? with
   | none =>
    have hge := List.getElem?_eq_none_iff.1 hk
    rw [show (cs.zip row).take (k + 1) = (cs.zip row).take k by rw [List.take_of_length_le (by omega), List.take_of_length_le (by omega)]]
    exact ih
   | some p =>
    rw [take_succ' hk, mpR_snoc]
    exact ih.put _ _ (hrv _ (List.of_mem_zip (List.mem_of_getElem? hk)).2)
 refine ACalls.pure rfl (acalls_of_body k9.has ?_)
 (conv => whnf); refine ACalls.use (type_t e1 e2 false he (by omega) hcs.vd hz _) ?_
 (conv => whnf); refine ACalls.use (schema_CheckRow_spec e2 e4 cs row (by omega) _) ?_
 rw [hrow]
 conv => whnf
 refine ⟨fun m ρ H1 => ∃ k : Nat, k + m = cs.length ∧ H1 = [eO, .map (mpR ((cs.zip row).take k))] ∧ Sv 110 [(0, .list e1 6 (mC nodC e)), (1, .list e2 3 (cC cs)), (2, .list e4 3 (vC row)), (3, .list false 3 (mC zonC zs)), (8, .ptr 0 1 0 0), (14, .mp 1), (44, .list e2 3 (cC cs)), (45, .int .i64 cs.length), (46, .int .i64 k)] ρ, cs.length, [], ?_, ?_⟩
 ·exact ⟨0, Nat.zero_add _, rfl, Sv.intro rfl ⟨rfl, rfl, rfl, rfl, rfl, rfl, rfl, intEq (by rw [cC_length]), rfl, trivial⟩⟩
 rintro m ρ H1 ⟨k, hk, rfl, d, rfl⟩
 (conv => whnf); refine recA (fun hlt => ?_) (fun hlt => ?_)
 ·simp at hlt
  obtain ⟨c, hck, _, hm⟩ := get_drop (l := cs) (k := k) (by omega)
  obtain ⟨v, hvk, _, hvm⟩ := get_drop (l := row) (k := k) (by omega)
  have hzk : (cs.zip row)[k]? = some (c, v) := by rw [List.getElem?_zip_eq_some]; exact ⟨hck, hvk⟩
  (conv => whnf); refine And.intro (by omega) ?_
  (conv => whnf); refine recO (cC_at hck) ?_
  (conv => whnf); refine And.intro (by omega) ?_
  (conv => whnf); refine recO (vC_at hvk) ?_
  (conv => whnf); refine recT ((hmo k).key c.name) ?_
  conv => whnf
  refine ⟨m - 1, by omega, Gp.cut (H := [eO, .map (mpR ((cs.zip row).take (k + 1)))]) (by rw [take_succ' hzk, mpR_snoc]; rfl) ⟨rfl, (hmo (k + 1)).closed, trivial⟩ rfl rfl ?_ fun ρ1 h => ⟨k + 1, by omega, rfl, h⟩⟩
  exact ⟨rfl, rfl, rfl, rfl, rfl, rfl, rfl, rfl, intEq (nx1 (by omega)), trivial⟩
 simp at hlt
 obtain rfl : k = cs.length := by omega
 have hmk := hmo cs.length
 rw [List.take_of_length_le (by omega)] at hmk
 rw [List.take_of_length_le (by omega)]
 obtain ⟨kvs, hkv⟩ : ∃ kvs, kvs = mpR (cs.zip row) := ⟨_, rfl⟩
 rw [← hkv] at hmk
 rw [← hkv]
 have hkl := hmk.closed
 have hfin := evE_t kvs he
 conv => whnf
 refine ⟨fun m ρ H1 => ∃ (k : Nat) (st : List V) (D : Nat), k + m = e.length ∧ stk (fV zs kvs) (e.drop k) (st.take D) = some [evE zs kvs e] ∧ D ≤ st.length ∧ st.length ≤ k ∧ (∀ v ∈ st, VS v) ∧ H1 = [eO, .map kvs, .arr 3 (vC st)] ∧ Sv 110 [(3, .list false 3 (mC zonC zs)), (8, .ptr 0 1 0 0), (14, .mp 1), (17, .sl 2 st.length 0 D), (59, .list e1 6 (mC nodC e)), (60, .int .i64 e.length), (61, .int .i64 k)] ρ, e.length, [(17, 3)], ?_, ?_⟩
 ·exact ⟨0, [], 0, by omega, hfin, Nat.le_refl _, Nat.le_refl _, fun v h => by simp at h, rfl, Sv.intro rfl ⟨rfl, rfl, rfl, rfl, rfl, intEq (by rw [mC_length]), rfl, trivial⟩⟩
 rintro m ρ H1 ⟨k, st, D, hk, hD, hDl, hst, hvs, rfl, d, rfl⟩
 have hn : (vC st).length = st.length := vC_length _
 have hb : Nat.beq st.length (vC st).length = true := by rw [hn]; exact Nat.beq_refl _
 (conv => whnf); refine recA (fun hlt => ?_) (fun hlt => ?_)
 ·simp at hlt
  obtain ⟨n, hnk, hdk, hm⟩ := get_drop (l := e) (k := k) (by omega)
  rw [hdk] at hD
  obtain ⟨y, ha, hy, hD2⟩ := stk_inv hD
  have gd := he.gd n hm
  have hlD : (st.take D).length = D := by simp; omega
  rw [hlD] at ha hy hD2
  have a0 := gd.ar3
  obtain ⟨a, hna⟩ : ∃ a : Nat, arN n = a := ⟨(arN n).toNat, by omega⟩
  rw [hna] at ha hy hD2
  simp only [Int.toNat_natCast] at ha hy hD2
  (conv => whnf); refine And.intro (by omega) ?_
  (conv => whnf); refine recO (mC_at hnk) ?_
  (conv => whnf); refine recT (hb) ?_
  (conv => whnf); refine ACalls.use ((arity_t n).a _) ?_
  rw [hna]
  have hw : IntKind.i64.wrap ((D : Int) - a) = ((D - a : Nat) : Int) := by rw [wrapI _ (by omega) (by omega)]; omega
  conv => whnf
  rw [hw]
  obtain ⟨r, hrr⟩ : ∃ r, r = D - a := ⟨_, rfl⟩
  rw [← hrr] at hy hD2
  rw [← hrr]
  have hdl : (((st.take D).drop r).length : Int) = arN n := by rw [List.length_drop, hlD]; omega
  have hlv : ∀ v ∈ (st.take D).drop r, VS v := fun v hv => hvs v (List.mem_of_mem_take (List.mem_of_mem_drop hv))
  have hcv : VS n.v := by
   by_cases h0 : n.op = 0
   ·exact valid64 (gd.cst h0).2
   ·rw [gd.z h0]; exact vs0
  obtain ⟨sp1, sp2, sp3, _⟩ := spV_t n ((st.take D).drop r) hdl
  have hyv : evN zs kvs n ((st.take D).drop r) = y := Option.some.inj hy
  (conv => whnf); refine recT (hb) ?_
  (conv => whnf); refine And.intro (by omega) ?_
  (conv => whnf); refine ACalls.use (ACalls.bor rfl ((sp1 []).mono fun _ _ h => h.1) (.cons (.same _ rfl) (.cons (lentI (f := valC) (fun _ => rfl) hDl (by omega) rfl) .nil))) ?_
  have hyS : VS y := by
   rw [← hyv]
   unfold evN
   split
   ·exact (nmV_t hmk n.name).2
   ·rename_i h1
    split
    ·rename_i h2
     exact (apV_t hz gd hdl hlv (he.zn n hm) h2.1 h1).2.1
    ·exact sp3 hlv hcv
  have hvs2 : ∀ v ∈ stP st r y, VS v := fun v hv => by
   unfold stP at hv
   split at hv
   ·simp only [List.mem_append, List.mem_singleton] at hv
    rcases hv with (hv | rfl) | hv
    ·exact hvs v (List.mem_of_mem_take hv)
    ·exact hyS
    ·exact hvs v (List.mem_of_mem_drop hv)
   ·simp only [List.mem_append, List.mem_singleton] at hv
    rcases hv with hv | rfl
    ·exact hvs v hv
    ·exact hyS
  by_cases h1 : n.op = 1
  ·have hyn : nmV kvs n.name = y := by rw [← hyv, evN, if_pos h1]
   (conv => whnf); refine recT (by rw [h1]; rfl) ?_
   (conv => whnf); refine recT (hmk.key n.name) ?_
   rcases (nmV_t hmk n.name).1 with ⟨hm0, hy0⟩ | hm0
   ·rw [hyn] at hy0
    (conv => whnf); refine recN hm0 ?_
    rw [show (AVal.agg [.int .i64 0, .int .i64 0, .str { data := { toList := [] } }]) = .agg (valC y) by rw [hy0]; rfl]
    (conv => whnf); refine recT (hb) ?_
    (conv => whnf); refine And.intro (by omega) ?_
    (conv => whnf); refine recT (hb) ?_
    obtain ⟨q1, q2, q3⟩ := stP_take (show r ≤ D by omega) hDl y
    (conv => whnf); refine recA (fun hfit => ?_) (fun hfit => ?_)
    ·replace hfit : (Nat.ble (0 + 0 + (((r : Nat) : Int).toNat - 0) + 1) (vC st).length && true) = true := hfit
     rw [hn, Bool.and_true, Nat.ble_eq] at hfit
     have hfit2 : r + 1 ≤ st.length := by omega
     have hcc : (vC st).take (0 + 0 + (((r : Nat) : Int).toNat - 0)) ++ [valC y] ++ (vC st).drop (0 + 0 + (((r : Nat) : Int).toNat - 0) + 1) = vC (stP st r y) := by
      rw [show 0 + 0 + (((r : Nat) : Int).toNat - 0) = r by omega, stP, if_pos hfit2]; simp [vC, List.map_take, List.map_drop]
     have hll : (stP st r y).length = st.length := by rw [stP, if_pos hfit2]; simp; omega
     conv => whnf
     refine ⟨m - 1, by omega, Gp.cut (H := [eO, .map kvs, .arr 3 (vC (stP st r y))]) (by rw [← hcc]; rfl) ⟨rfl, hkl, lowP (pureEs_vC _), trivial⟩ rfl rfl ?_ fun ρ1 hh => ⟨k + 1, stP st r y, r + 1, by omega, by rw [q1]; exact hD2, by omega, by omega, hvs2, rfl, hh⟩⟩
     exact ⟨rfl, rfl, rfl, by rw [hll, show r + 1 = ((r : Nat) : Int).toNat - 0 + 1 by omega]; rfl, rfl, rfl, intEq (nx1 (by omega)), trivial⟩
    ·replace hfit : (Nat.ble (0 + 0 + (((r : Nat) : Int).toNat - 0) + 1) (vC st).length && true) = false := hfit
     have hf2 : st.length < r + 1 := by
      rw [Bool.and_true, hn] at hfit
      exact Nat.lt_of_not_le fun hc => by rw [Nat.ble_eq_true_of_le (show 0 + 0 + (((r : Nat) : Int).toNat - 0) + 1 ≤ st.length by omega)] at hfit; cases hfit
     (conv => whnf); refine recT (hb) ?_
     (conv => whnf); refine And.intro (⟨by simp [roomB]; omega, by simp [roomB]; omega, rfl, by rw [hn]; omega⟩) ?_
     conv => whnf
     have hss : stP st r y = st ++ [y] := by rw [stP, if_neg (by omega)]
     have hcc : vC st ++ [valC y] = vC (stP st r y) := by rw [hss]; simp [vC]
     have hll : (stP st r y).length = r + 1 := by rw [hss]; simp; omega
     have hcl : (vC st ++ [valC y]).length = r + 1 := by rw [hcc, vC_length, hll]
     refine ⟨m - 1, by omega, Gp.cut (H := [eO, .map kvs, .arr 3 (vC (stP st r y))]) (by rw [← hcc]; rfl) ⟨rfl, hkl, lowP (pureEs_vC _), trivial⟩ rfl rfl ?_ fun ρ1 hh => ⟨k + 1, stP st r y, r + 1, by omega, by rw [q1]; exact hD2, by omega, by omega, hvs2, rfl, hh⟩⟩
     exact ⟨rfl, rfl, rfl, slEq (by rw [hll]; exact hcl) hcl, rfl, rfl, intEq (nx1 (by omega)), trivial⟩
   ·rw [hyn] at hm0
    (conv => whnf); refine recO hm0 ?_
    (conv => whnf); refine recT (hb) ?_
    (conv => whnf); refine And.intro (by omega) ?_
    (conv => whnf); refine recT (hb) ?_
    obtain ⟨q1, q2, q3⟩ := stP_take (show r ≤ D by omega) hDl y
    (conv => whnf); refine recA (fun hfit => ?_) (fun hfit => ?_)
    ·replace hfit : (Nat.ble (0 + 0 + (((r : Nat) : Int).toNat - 0) + 1) (vC st).length && true) = true := hfit
     rw [hn, Bool.and_true, Nat.ble_eq] at hfit
     have hfit2 : r + 1 ≤ st.length := by omega
     have hcc : (vC st).take (0 + 0 + (((r : Nat) : Int).toNat - 0)) ++ [valC y] ++ (vC st).drop (0 + 0 + (((r : Nat) : Int).toNat - 0) + 1) = vC (stP st r y) := by
      rw [show 0 + 0 + (((r : Nat) : Int).toNat - 0) = r by omega, stP, if_pos hfit2]; simp [vC, List.map_take, List.map_drop]
     have hll : (stP st r y).length = st.length := by rw [stP, if_pos hfit2]; simp; omega
     conv => whnf
     refine ⟨m - 1, by omega, Gp.cut (H := [eO, .map kvs, .arr 3 (vC (stP st r y))]) (by rw [← hcc]; rfl) ⟨rfl, hkl, lowP (pureEs_vC _), trivial⟩ rfl rfl ?_ fun ρ1 hh => ⟨k + 1, stP st r y, r + 1, by omega, by rw [q1]; exact hD2, by omega, by omega, hvs2, rfl, hh⟩⟩
     exact ⟨rfl, rfl, rfl, by rw [hll, show r + 1 = ((r : Nat) : Int).toNat - 0 + 1 by omega]; rfl, rfl, rfl, intEq (nx1 (by omega)), trivial⟩
    ·replace hfit : (Nat.ble (0 + 0 + (((r : Nat) : Int).toNat - 0) + 1) (vC st).length && true) = false := hfit
     have hf2 : st.length < r + 1 := by
      rw [Bool.and_true, hn] at hfit
      exact Nat.lt_of_not_le fun hc => by rw [Nat.ble_eq_true_of_le (show 0 + 0 + (((r : Nat) : Int).toNat - 0) + 1 ≤ st.length by omega)] at hfit; cases hfit
     (conv => whnf); refine recT (hb) ?_
     (conv => whnf); refine And.intro (⟨by simp [roomB]; omega, by simp [roomB]; omega, rfl, by rw [hn]; omega⟩) ?_
     conv => whnf
     have hss : stP st r y = st ++ [y] := by rw [stP, if_neg (by omega)]
     have hcc : vC st ++ [valC y] = vC (stP st r y) := by rw [hss]; simp [vC]
     have hll : (stP st r y).length = r + 1 := by rw [hss]; simp; omega
     have hcl : (vC st ++ [valC y]).length = r + 1 := by rw [hcc, vC_length, hll]
     refine ⟨m - 1, by omega, Gp.cut (H := [eO, .map kvs, .arr 3 (vC (stP st r y))]) (by rw [← hcc]; rfl) ⟨rfl, hkl, lowP (pureEs_vC _), trivial⟩ rfl rfl ?_ fun ρ1 hh => ⟨k + 1, stP st r y, r + 1, by omega, by rw [q1]; exact hD2, by omega, by omega, hvs2, rfl, hh⟩⟩
     exact ⟨rfl, rfl, rfl, slEq (by rw [hll]; exact hcl) hcl, rfl, rfl, intEq (nx1 (by omega)), trivial⟩
  by_cases h2 : isSp n.op = true
  ·have hyn : spV n ((st.take D).drop r) = y := by rw [← hyv, evN, if_neg h1, if_neg (by rw [h2]; simp)]
   rw [hyn, h2]
   (conv => whnf); refine recF (by simpa using h1) ?_
   (conv => whnf); refine recT (hb) ?_
   (conv => whnf); refine And.intro (by omega) ?_
   (conv => whnf); refine recT (hb) ?_
   obtain ⟨q1, q2, q3⟩ := stP_take (show r ≤ D by omega) hDl y
   (conv => whnf); refine recA (fun hfit => ?_) (fun hfit => ?_)
   ·replace hfit : (Nat.ble (0 + 0 + (((r : Nat) : Int).toNat - 0) + 1) (vC st).length && true) = true := hfit
    rw [hn, Bool.and_true, Nat.ble_eq] at hfit
    have hfit2 : r + 1 ≤ st.length := by omega
    have hcc : (vC st).take (0 + 0 + (((r : Nat) : Int).toNat - 0)) ++ [valC y] ++ (vC st).drop (0 + 0 + (((r : Nat) : Int).toNat - 0) + 1) = vC (stP st r y) := by
     rw [show 0 + 0 + (((r : Nat) : Int).toNat - 0) = r by omega, stP, if_pos hfit2]; simp [vC, List.map_take, List.map_drop]
    have hll : (stP st r y).length = st.length := by rw [stP, if_pos hfit2]; simp; omega
    conv => whnf
    refine ⟨m - 1, by omega, Gp.cut (H := [eO, .map kvs, .arr 3 (vC (stP st r y))]) (by rw [← hcc]; rfl) ⟨rfl, hkl, lowP (pureEs_vC _), trivial⟩ rfl rfl ?_ fun ρ1 hh => ⟨k + 1, stP st r y, r + 1, by omega, by rw [q1]; exact hD2, by omega, by omega, hvs2, rfl, hh⟩⟩
    exact ⟨rfl, rfl, rfl, by rw [hll, show r + 1 = ((r : Nat) : Int).toNat - 0 + 1 by omega]; rfl, rfl, rfl, intEq (nx1 (by omega)), trivial⟩
   ·replace hfit : (Nat.ble (0 + 0 + (((r : Nat) : Int).toNat - 0) + 1) (vC st).length && true) = false := hfit
    have hf2 : st.length < r + 1 := by
     rw [Bool.and_true, hn] at hfit
     exact Nat.lt_of_not_le fun hc => by rw [Nat.ble_eq_true_of_le (show 0 + 0 + (((r : Nat) : Int).toNat - 0) + 1 ≤ st.length by omega)] at hfit; cases hfit
    (conv => whnf); refine recT (hb) ?_
    (conv => whnf); refine And.intro (⟨by simp [roomB]; omega, by simp [roomB]; omega, rfl, by rw [hn]; omega⟩) ?_
    conv => whnf
    have hss : stP st r y = st ++ [y] := by rw [stP, if_neg (by omega)]
    have hcc : vC st ++ [valC y] = vC (stP st r y) := by rw [hss]; simp [vC]
    have hll : (stP st r y).length = r + 1 := by rw [hss]; simp; omega
    have hcl : (vC st ++ [valC y]).length = r + 1 := by rw [hcc, vC_length, hll]
    refine ⟨m - 1, by omega, Gp.cut (H := [eO, .map kvs, .arr 3 (vC (stP st r y))]) (by rw [← hcc]; rfl) ⟨rfl, hkl, lowP (pureEs_vC _), trivial⟩ rfl rfl ?_ fun ρ1 hh => ⟨k + 1, stP st r y, r + 1, by omega, by rw [q1]; exact hD2, by omega, by omega, hvs2, rfl, hh⟩⟩
    exact ⟨rfl, rfl, rfl, slEq (by rw [hll]; exact hcl) hcl, rfl, rfl, intEq (nx1 (by omega)), trivial⟩
  have h2f : isSp n.op = false := by simpa using h2
  rw [h2f]
  (conv => whnf); refine recF (by simpa using h1) ?_
  (conv => whnf); refine ACalls.use (ACalls.bor rfl ((contV_t false ((st.take D).drop r) (by omega) []).mono fun _ _ h => h.1) (.cons (lentI (f := valC) (fun _ => rfl) hDl (by omega) rfl) (.cons (.same _ rfl) .nil))) ?_
  cases h3 : ((st.take D).drop r).any zEq
  ·have hyn : apV zs n ((st.take D).drop r) = y := by rw [← hyv, evN, if_neg h1, if_pos ⟨h2f, h3⟩]
   obtain ⟨ap1, _⟩ := apV_t hz gd hdl hlv (he.zn n hm) h2f h1
   rw [hyn] at ap1
   (conv => whnf); refine ACalls.use (ACalls.bor rfl ((ap1 []).mono fun _ _ h => h.1) (.cons (.same _ rfl) (.cons (lentI (f := valC) (fun _ => rfl) hDl (by omega) rfl) (.cons (.same _ rfl) .nil)))) ?_
   (conv => whnf); refine recT (hb) ?_
   (conv => whnf); refine And.intro (by omega) ?_
   (conv => whnf); refine recT (hb) ?_
   obtain ⟨q1, q2, q3⟩ := stP_take (show r ≤ D by omega) hDl y
   (conv => whnf); refine recA (fun hfit => ?_) (fun hfit => ?_)
   ·replace hfit : (Nat.ble (0 + 0 + (((r : Nat) : Int).toNat - 0) + 1) (vC st).length && true) = true := hfit
    rw [hn, Bool.and_true, Nat.ble_eq] at hfit
    have hfit2 : r + 1 ≤ st.length := by omega
    have hcc : (vC st).take (0 + 0 + (((r : Nat) : Int).toNat - 0)) ++ [valC y] ++ (vC st).drop (0 + 0 + (((r : Nat) : Int).toNat - 0) + 1) = vC (stP st r y) := by
     rw [show 0 + 0 + (((r : Nat) : Int).toNat - 0) = r by omega, stP, if_pos hfit2]; simp [vC, List.map_take, List.map_drop]
    have hll : (stP st r y).length = st.length := by rw [stP, if_pos hfit2]; simp; omega
    conv => whnf
    refine ⟨m - 1, by omega, Gp.cut (H := [eO, .map kvs, .arr 3 (vC (stP st r y))]) (by rw [← hcc]; rfl) ⟨rfl, hkl, lowP (pureEs_vC _), trivial⟩ rfl rfl ?_ fun ρ1 hh => ⟨k + 1, stP st r y, r + 1, by omega, by rw [q1]; exact hD2, by omega, by omega, hvs2, rfl, hh⟩⟩
    exact ⟨rfl, rfl, rfl, by rw [hll, show r + 1 = ((r : Nat) : Int).toNat - 0 + 1 by omega]; rfl, rfl, rfl, intEq (nx1 (by omega)), trivial⟩
   ·replace hfit : (Nat.ble (0 + 0 + (((r : Nat) : Int).toNat - 0) + 1) (vC st).length && true) = false := hfit
    have hf2 : st.length < r + 1 := by
     rw [Bool.and_true, hn] at hfit
     exact Nat.lt_of_not_le fun hc => by rw [Nat.ble_eq_true_of_le (show 0 + 0 + (((r : Nat) : Int).toNat - 0) + 1 ≤ st.length by omega)] at hfit; cases hfit
    (conv => whnf); refine recT (hb) ?_
    (conv => whnf); refine And.intro (⟨by simp [roomB]; omega, by simp [roomB]; omega, rfl, by rw [hn]; omega⟩) ?_
    conv => whnf
    have hss : stP st r y = st ++ [y] := by rw [stP, if_neg (by omega)]
    have hcc : vC st ++ [valC y] = vC (stP st r y) := by rw [hss]; simp [vC]
    have hll : (stP st r y).length = r + 1 := by rw [hss]; simp; omega
    have hcl : (vC st ++ [valC y]).length = r + 1 := by rw [hcc, vC_length, hll]
    refine ⟨m - 1, by omega, Gp.cut (H := [eO, .map kvs, .arr 3 (vC (stP st r y))]) (by rw [← hcc]; rfl) ⟨rfl, hkl, lowP (pureEs_vC _), trivial⟩ rfl rfl ?_ fun ρ1 hh => ⟨k + 1, stP st r y, r + 1, by omega, by rw [q1]; exact hD2, by omega, by omega, hvs2, rfl, hh⟩⟩
    exact ⟨rfl, rfl, rfl, slEq (by rw [hll]; exact hcl) hcl, rfl, rfl, intEq (nx1 (by omega)), trivial⟩
  ·have hyn : spV n ((st.take D).drop r) = y := by rw [← hyv, evN, if_neg h1, if_neg (by rw [h3]; simp)]
   rw [hyn]
   (conv => whnf); refine recT (hb) ?_
   (conv => whnf); refine And.intro (by omega) ?_
   (conv => whnf); refine recT (hb) ?_
   obtain ⟨q1, q2, q3⟩ := stP_take (show r ≤ D by omega) hDl y
   (conv => whnf); refine recA (fun hfit => ?_) (fun hfit => ?_)
   ·replace hfit : (Nat.ble (0 + 0 + (((r : Nat) : Int).toNat - 0) + 1) (vC st).length && true) = true := hfit
    rw [hn, Bool.and_true, Nat.ble_eq] at hfit
    have hfit2 : r + 1 ≤ st.length := by omega
    have hcc : (vC st).take (0 + 0 + (((r : Nat) : Int).toNat - 0)) ++ [valC y] ++ (vC st).drop (0 + 0 + (((r : Nat) : Int).toNat - 0) + 1) = vC (stP st r y) := by
     rw [show 0 + 0 + (((r : Nat) : Int).toNat - 0) = r by omega, stP, if_pos hfit2]; simp [vC, List.map_take, List.map_drop]
    have hll : (stP st r y).length = st.length := by rw [stP, if_pos hfit2]; simp; omega
    conv => whnf
    refine ⟨m - 1, by omega, Gp.cut (H := [eO, .map kvs, .arr 3 (vC (stP st r y))]) (by rw [← hcc]; rfl) ⟨rfl, hkl, lowP (pureEs_vC _), trivial⟩ rfl rfl ?_ fun ρ1 hh => ⟨k + 1, stP st r y, r + 1, by omega, by rw [q1]; exact hD2, by omega, by omega, hvs2, rfl, hh⟩⟩
    exact ⟨rfl, rfl, rfl, by rw [hll, show r + 1 = ((r : Nat) : Int).toNat - 0 + 1 by omega]; rfl, rfl, rfl, intEq (nx1 (by omega)), trivial⟩
   ·replace hfit : (Nat.ble (0 + 0 + (((r : Nat) : Int).toNat - 0) + 1) (vC st).length && true) = false := hfit
    have hf2 : st.length < r + 1 := by
     rw [Bool.and_true, hn] at hfit
     exact Nat.lt_of_not_le fun hc => by rw [Nat.ble_eq_true_of_le (show 0 + 0 + (((r : Nat) : Int).toNat - 0) + 1 ≤ st.length by omega)] at hfit; cases hfit
    (conv => whnf); refine recT (hb) ?_
    (conv => whnf); refine And.intro (⟨by simp [roomB]; omega, by simp [roomB]; omega, rfl, by rw [hn]; omega⟩) ?_
    conv => whnf
    have hss : stP st r y = st ++ [y] := by rw [stP, if_neg (by omega)]
    have hcc : vC st ++ [valC y] = vC (stP st r y) := by rw [hss]; simp [vC]
    have hll : (stP st r y).length = r + 1 := by rw [hss]; simp; omega
    have hcl : (vC st ++ [valC y]).length = r + 1 := by rw [hcc, vC_length, hll]
    refine ⟨m - 1, by omega, Gp.cut (H := [eO, .map kvs, .arr 3 (vC (stP st r y))]) (by rw [← hcc]; rfl) ⟨rfl, hkl, lowP (pureEs_vC _), trivial⟩ rfl rfl ?_ fun ρ1 hh => ⟨k + 1, stP st r y, r + 1, by omega, by rw [q1]; exact hD2, by omega, by omega, hvs2, rfl, hh⟩⟩
    exact ⟨rfl, rfl, rfl, slEq (by rw [hll]; exact hcl) hcl, rfl, rfl, intEq (nx1 (by omega)), trivial⟩
 ·simp at hlt
  have hk2 : k = e.length := by omega
  subst hk2
  rw [List.drop_length] at hD
  have hD1 : st.take D = [evE zs kvs e] := Option.some.inj hD
  have hlD : (st.take D).length = D := by simp; omega
  obtain rfl : D = 1 := by rw [hD1] at hlD; exact hlD.symm
  obtain ⟨kk, rest, rfl⟩ : ∃ kk rest, st = kk :: rest := by
   cases st with
   | nil => simp at hDl
   | cons x xs => exact ⟨x, xs, rfl⟩
  have hkk : kk = evE zs kvs e := by simpa using hD1
  repeat' ((conv => whnf); first | refine recT hb ?_ | refine And.intro (by first | decide | omega) ?_)
  all_goals (conv => whnf)
  rw [← hkk]
  exact pub2 (.closed _ rfl) (.closed _ rfl)
end Go.AW

namespace Go.AW
variable [Draws]
attribute [local irreducible] ACalls CallE CallS Gp
set_option maxRecDepth 20000
set_option maxHeartbeats 8000000
noncomputable def kpB (cs : List Col) (zs : List Zon) (e : List Nod) (x : Ent) : Bool := truth (evE zs (mpR (cs.zip x.row)) e) == 1
noncomputable def kpF (cs : List Col) (zs : List Zon) (e : List Nod) (l : List Ent) : List Ent := l.filter (kpB cs zs e)
theorem where_t [Gls] (r : RlR) {cs : List Col} (hcl : r.cols = cs) (hcs : CsOk cs) {zs : List Zon} (hz : ZsOk zs) {e : List Nod} {kf : Kd} (he : ETy cs zs e kf) (ht : TbOk cs r.rows) (H : List AObj) :
  ACalls pr 205 [.agg (spC (some e)), .agg (rlC r), .list false 3 (mC zonC zs)] H (fun q H' => q = .tuple [.list false 2 (eC (kpF cs zs e r.rows)), .int .i64 0] ∧ H' = H) := by
 have hb0 : bagB r.rows = 0 := by have := ht.1; unfold tabB at this; simp at this; exact this.1
 have hlen := bag_len hb0
 have hrl : ∀ x ∈ r.rows, x.row.length ≤ 1000000 := fun x hx => by
  have := (chkRow_ok (ht.2 x hx)).1
  have := hcs.len
  omega
 refine ACalls.pure rfl (acalls_of_body k205.has ?_)
 conv => whnf
 refine ⟨fun m ρ H1 => ∃ k : Nat, k + m = r.rows.length ∧ H1 = [.arr 6 [spC (some e)], .arr 4 [rlC r], .arr 2 (eC (kpF cs zs e (r.rows.take k)))] ∧ Sv 44 [(2, .list false 3 (mC zonC zs)), (3, .ptr 0 1 0 0), (4, .ptr 1 1 0 0), (8, .sl 2 (kpF cs zs e (r.rows.take k)).length 0 (kpF cs zs e (r.rows.take k)).length), (14, .list false 2 (eC r.rows)), (15, .int .i64 r.rows.length), (16, .int .i64 k)] ρ, r.rows.length, [(8, 2)], ?_, ?_⟩
 ·exact ⟨0, Nat.zero_add _, rfl, Sv.intro rfl ⟨rfl, rfl, rfl, rfl, rfl, intEq (by rw [eC_length]), rfl, trivial⟩⟩
 rintro m ρ H1 ⟨k, hk, rfl, d, rfl⟩
 obtain ⟨X, hX⟩ : ∃ X, X = kpF cs zs e (r.rows.take k) := ⟨_, rfl⟩
 have hXl : X.length ≤ 4096 := by
  rw [hX]
  exact Nat.le_trans (List.length_filter_le _ _) (by rw [List.length_take]; omega)
 rw [← hX]
 have hxl : (eC X).length = X.length := eC_length _
 have hb : Nat.beq X.length (eC X).length = true := by rw [hxl]; exact Nat.beq_refl _
 (conv => whnf); refine recA (fun hlt => ?_) (fun hlt => ?_)
 ·simp at hlt
  obtain ⟨x, hxk, _, hm⟩ := get_drop (l := r.rows) (k := k) (by omega)
  have hev := eval_t false r.fc false hcs hz he (ht.2 x hm)
  have htk : r.rows.take (k + 1) = r.rows.take k ++ [x] := take_succ' hxk
  (conv => whnf); refine And.intro (by omega) ?_
  (conv => whnf); refine recO (eC_at hxk) ?_
  conv => whnf
  rw [hcl]
  refine ACalls.use (hev _) ?_
  (conv => whnf); refine ACalls.use (value_Truth_spec (evE zs (mpR (cs.zip x.row)) e) _) ?_
  (conv => whnf); refine recA (fun h1 => ?_) (fun h1 => ?_)
  ·have hk1 : kpF cs zs e (r.rows.take (k + 1)) = X ++ [x] := by
    rw [htk, kpF, List.filter_append, ← kpF, ← hX, List.filter_cons_of_pos (by exact h1)]; rfl
   have hcc : eC X ++ [entC x] = eC (X ++ [x]) := (eC_snoc _ _).symm
   have hcl2 : (eC X ++ [entC x]).length = (X ++ [x]).length := by rw [hcc, eC_length]
   (conv => whnf); refine recT (hb) ?_
   (conv => whnf); refine And.intro (⟨by simp [roomB]; omega, by simp [roomB]; omega, rfl, hxl.symm⟩) ?_
   conv => whnf
   refine ⟨m - 1, by omega, Gp.cut (H := [.arr 6 [spC (some e)], .arr 4 [rlC r], .arr 2 (eC (X ++ [x]))]) (by rw [← hcc]; rfl) ⟨rfl, rfl, lowP (pureEs_eC _), trivial⟩ rfl rfl ?_ fun ρ1 h => ⟨k + 1, by omega, by rw [hk1], by rw [hk1]; exact h⟩⟩
   exact ⟨rfl, rfl, rfl, slEq hcl2 hcl2, rfl, rfl, intEq (nx1 (by omega)), trivial⟩
  ·have hk1 : kpF cs zs e (r.rows.take (k + 1)) = X := by
    rw [htk, kpF, List.filter_append, ← kpF, ← hX, List.filter_cons_of_neg (by rw [show kpB cs zs e x = false from h1]; simp)]; simp
   conv => whnf
   refine ⟨m - 1, by omega, Gp.cut (H := [.arr 6 [spC (some e)], .arr 4 [rlC r], .arr 2 (eC X)]) rfl ⟨rfl, rfl, lowP (pureEs_eC _), trivial⟩ rfl rfl ?_ fun ρ1 h => ⟨k + 1, by omega, by rw [hk1], by rw [hk1]; exact h⟩⟩
   exact ⟨rfl, rfl, rfl, rfl, rfl, rfl, intEq (nx1 (by omega)), trivial⟩
 ·simp at hlt
  obtain rfl : k = r.rows.length := by omega
  rw [List.take_length] at hX
  conv => whnf
  refine Ghost.none (n := 44) (live := [(8, .list false 2 (eC X))]) rfl ⟨pubF rfl hxl.symm hxl.symm (pureEs_eC _), trivial⟩ ?_
  rintro ρ ⟨dd, rfl⟩
  (conv => whnf); refine ACalls.use (copied_t false X (by omega) (fun x hx => hrl x (by rw [hX] at hx; exact (List.mem_filter.1 hx).1)) _) ?_
  conv => whnf
  rw [hX]
  exact pub2 (.closed _ rfl) (.closed _ rfl)
def rlA (cs : List Col) (l : List Ent) : List AVal := [.str (bs []), .list false 3 (cC cs), .nil, .list false 2 (eC l)]
def rlZ : List AVal := [.str (bs []), .nil, .nil, .nil]
def rlA' (cs : List Col) (l : List Ent) : RlR := ⟨bs [], false, cs, l⟩
theorem oper0_t {r : RlR} {cs : List Col} (hcl : r.cols = cs) (hcs : CsOk cs) (ht : TbOk cs r.rows) (zs : List Zon) (H : List AObj) :
  ACalls pr 143 [.agg (spC none), .agg rlZ, .agg (rlC r), .list false 3 (mC zonC zs)] H (fun q H' => q = .tuple [.list false 2 (eC r.rows), .int .i64 0] ∧ H' = H) := by
 have hb0 : bagB r.rows = 0 := by have := ht.1; unfold tabB at this; simp at this; exact this.1
 have hlen := bag_len hb0
 have hrl : ∀ x ∈ r.rows, x.row.length ≤ 1000000 := fun x hx => by
  have := (chkRow_ok (ht.2 x hx)).1
  have := hcs.len
  omega
 refine ACalls.pure rfl (acalls_of_body k143.has ?_)
 (conv => whnf); refine ACalls.use (copied_t false r.rows (by omega) hrl _) ?_
 conv => whnf
 exact pub2 (.closed _ rfl) (.closed _ rfl)
theorem oper1_t [Gls] {cs : List Col} (hcs : CsOk cs) {zs : List Zon} (hz : ZsOk zs) {e : List Nod} {kf : Kd} (he : ETy cs zs e kf) {l : List Ent} (ht : TbOk cs l) (H : List AObj) :
  ACalls pr 143 [.agg (spC (some e)), .agg (rlA cs l), .agg rlZ, .list false 3 (mC zonC zs)] H (fun q H' => q = .tuple [.list false 2 (eC (kpF cs zs e l)), .int .i64 0] ∧ H' = H) := by
 refine ACalls.pure rfl (acalls_of_body k143.has ?_)
 (conv => whnf); refine ACalls.use (where_t (rlA' cs l) rfl hcs hz he ht _) ?_
 conv => whnf
 exact pub2 (.closed _ rfl) (.closed _ rfl)
theorem eStep0_t [Gls] {r : RlR} {cs : List Col} (hcl : r.cols = cs) (hcs : CsOk cs) (ht : TbOk cs r.rows) {zs : List Zon} (hz : ZsOk zs) (H : List AObj) :
  ACalls pr 92 [.agg (spC none), .agg rlZ, .agg (rlC r), .list false 3 (mC zonC zs)] H (fun q H' => q = .tuple [.agg (rlA cs r.rows), .int .i64 0] ∧ H' = H) := by
 subst hcl
 refine ACalls.pure rfl (acalls_of_body k92.has ?_)
 (conv => whnf); refine ACalls.use (tStep0_t r.fc false hcs hz _) ?_
 (conv => whnf); refine ACalls.use (evalid_t hcs ht _) ?_
 (conv => whnf); refine ACalls.use (oper0_t rfl hcs ht zs _) ?_
 conv => whnf
 exact pub2 (.closed _ rfl) (.closed _ rfl)
theorem eStep1_t [Gls] {cs : List Col} (hcs : CsOk cs) {zs : List Zon} (hz : ZsOk zs) {e : List Nod} {kf : Kd} (he : ETy cs zs e kf) (hs : SpOk cs zs (some e)) {l : List Ent} (ht : TbOk cs l) (H : List AObj) :
  ACalls pr 92 [.agg (spC (some e)), .agg (rlA cs l), .agg rlZ, .list false 3 (mC zonC zs)] H (fun q H' => q = .tuple [.agg (rlA cs (kpF cs zs e l)), .int .i64 0] ∧ H' = H) := by
 refine ACalls.pure rfl (acalls_of_body k92.has ?_)
 (conv => whnf); refine ACalls.use (tStep1_t false false hcs hz hs _) ?_
 (conv => whnf); refine ACalls.use (evalid_t (r := rlA' cs l) hcs ht _) ?_
 (conv => whnf); refine ACalls.use (oper1_t hcs hz he ht _) ?_
 conv => whnf
 exact pub2 (.closed _ rfl) (.closed _ rfl)
noncomputable def rwQ (cs : List Col) (zs : List Zon) (l : List Ent) : List (Option (List Nod)) → List Ent
 | [] => l
 | none :: q => rwQ cs zs l q
 | some e :: q => rwQ cs zs (kpF cs zs e l) q
theorem rwQ_snoc (cs : List Col) (zs : List Zon) (q : List (Option (List Nod))) (s : Option (List Nod)) : ∀ l, rwQ cs zs l (q ++ [s]) = rwQ cs zs (rwQ cs zs l q) [s] := by
 induction q with
 | nil => intro l; rfl
 | cons x q ih => intro l; cases x <;> exact ih _
theorem rwQ_ok {cs : List Col} (zs : List Zon) (q : List (Option (List Nod))) : ∀ {l : List Ent}, TbOk cs l → TbOk cs (rwQ cs zs l q) := by
 induction q with
 | nil => intro l h; exact h
 | cons x q ih =>
  intro l h
  cases x with
  | none => exact ih h
  | some e => exact ih (h.filter _)
noncomputable def lvE (cs : List Col) (zs : List Zon) (l : List Ent) (q : List (Option (List Nod))) : Nat → List (List AVal)
 | 0 => []
 | k + 1 => lvE cs zs l q k ++ [rlA cs (rwQ cs zs l (q.take (k + 1)))]
theorem lvE_len (cs : List Col) (zs : List Zon) (l : List Ent) (q : List (Option (List Nod))) : ∀ k, (lvE cs zs l q k).length = k
 | 0 => rfl
 | k + 1 => by rw [lvE, List.length_append, lvE_len cs zs l q k]; rfl
theorem lvE_pure (cs : List Col) (zs : List Zon) (l : List Ent) (q : List (Option (List Nod))) : ∀ k, pureEs (lvE cs zs l q k) = true
 | 0 => rfl
 | k + 1 => by
  have ih := lvE_pure cs zs l q k
  rw [lvE, pureEs, List.all_append, Bool.and_eq_true]
  exact ⟨ih, rfl⟩
theorem efind1_t (z : RlR) (o1 o2 o3 : AObj) : ACalls pr 91 ([.agg (rlC z)] ++ [.ptr 2 1 0 0]) [o1, o2, .arr 6 [spC none], o3] (fun r H' => r = .bool (rlN ordN z) ∧ H' = [o1, o2, .arr 6 [spC none], o3]) := by
 refine ACalls.drop rfl (acalls_of_body k91.has ?_)
 conv => whnf
 exact ⟨rfl, _, rfl⟩
noncomputable def inpC (cs : List Col) (zs : List Zon) (l : List Ent) (q : List (Option (List Nod))) (k : Nat) : List AVal := if k = 0 then rlZ else rlA cs (rwQ cs zs l (q.take k))
theorem inpC_pure (cs : List Col) (zs : List Zon) (l : List Ent) (q : List (Option (List Nod))) (k : Nat) : pureEs [inpC cs zs l q k] = true := by
 unfold inpC
 split <;> rfl
theorem levels_t [Gls] (x1 x2 : Bool) {cs : List Col} {zs : List Zon} {q : List (Option (List Nod))} (hq : QOk cs zs q) (hcs : CsOk cs) (hz : ZsOk zs) {r0 : RlR} {R : List RlR} (hr : RsOk cs r0 R) (H : List AObj) :
  ACalls pr 50 [.list x1 6 (mC spC q), .list x2 4 (mC rlC (r0 :: R)), .list false 3 (mC zonC zs)] H (fun r H' => r = .tuple [.list false 4 (lvE cs zs r0.rows q q.length), .int .i64 0] ∧ H' = H) := by
 have hrl := hr.len
 have h16 := hq.n2
 have hRl : (r0 :: R).length = R.length + 1 := rfl
 have ht0 : TbOk cs r0.rows := by rw [← hr.cl]; exact hr.tb r0 (List.mem_cons_self ..)
 have h0 : idxOf (rlN ordN) (r0 :: R) 0 = 0 := by
  rw [idxOf, if_pos (by unfold rlN; rw [hr.nm]; exact beq_self_eq_true _)]
 refine ACalls.pure rfl (acalls_of_body k50.has ?_)
 (conv => whnf); refine ACalls.use (tQuery_t x1 x2 false hq hcs hz hr _) ?_
 conv => whnf
 refine ⟨fun m ρ H1 => ∃ k : Nat, k + m = (r0 :: R).length ∧ H1 = [] ∧ Sv 75 [(0, .list x1 6 (mC spC q)), (1, .list x2 4 (mC rlC (r0 :: R))), (2, .list false 3 (mC zonC zs)), (30, .list x2 4 (mC rlC (r0 :: R))), (31, .int .i64 (r0 :: R).length), (32, .int .i64 k)] ρ, (r0 :: R).length, [], ?_, ?_⟩
 ·exact ⟨0, Nat.zero_add _, rfl, Sv.intro rfl ⟨rfl, rfl, rfl, rfl, intEq (by rw [mC_length]), rfl, trivial⟩⟩
 rintro m ρ H1 ⟨k, hk, rfl, d, rfl⟩
 (conv => whnf); refine recA (fun hlt => ?_) (fun hlt => ?_)
 ·simp at hlt
  obtain ⟨r, hrk, _, hm⟩ := get_drop (l := r0 :: R) (k := k) (by simp; omega)
  (conv => whnf); refine And.intro (by omega) ?_
  (conv => whnf); refine recO (mC_at hrk) ?_
  (conv => whnf); refine ACalls.use (evalid_t (hr.cv r hm) (hr.tb r hm) _) ?_
  conv => whnf
  refine ⟨m - 1, by omega, Gp.cut (H := []) rfl trivial rfl rfl ?_ fun ρ1 h => ⟨k + 1, by omega, rfl, h⟩⟩
  exact ⟨rfl, rfl, rfl, rfl, rfl, intEq (nx1 (by omega)), trivial⟩
 conv => whnf
 refine ⟨fun m ρ H1 => ∃ k : Nat, k + m = q.length ∧ H1 = [.arr 4 [inpC cs zs r0.rows q k], .arr 4 (lvE cs zs r0.rows q k)] ∧ Sv 75 [(1, .list x2 4 (mC rlC (r0 :: R))), (2, .list false 3 (mC zonC zs)), (13, .sl 1 k 0 k), (14, .ptr 0 1 0 0), (42, .list x1 6 (mC spC q)), (43, .int .i64 q.length), (44, .int .i64 k)] ρ, q.length, [(13, 4)], ?_, ?_⟩
 ·exact ⟨0, Nat.zero_add _, rfl, Sv.intro rfl ⟨rfl, rfl, rfl, rfl, rfl, intEq (by rw [mC_length]), rfl, trivial⟩⟩
 rintro m ρ H1 ⟨k, hk, rfl, d, rfl⟩
 have hll := lvE_len cs zs r0.rows q k
 have hb : Nat.beq k (lvE cs zs r0.rows q k).length = true := by rw [hll]; exact Nat.beq_refl _
 (conv => whnf); refine recA (fun hlt => ?_) (fun hlt => ?_)
 ·simp at hlt
  obtain ⟨s, hsk, _, hm⟩ := get_drop (l := q) (k := k) (by omega)
  have hf := hq.fst k s hsk
  have htk : q.take (k + 1) = q.take k ++ [s] := take_succ' hsk
  have hcl : (lvE cs zs r0.rows q k ++ [rlA cs (rwQ cs zs r0.rows (q.take (k + 1)))]).length = k + 1 := lvE_len cs zs r0.rows q (k + 1)
  have hin : inpC cs zs r0.rows q (k + 1) = rlA cs (rwQ cs zs r0.rows (q.take (k + 1))) := by rw [inpC, if_neg (by omega)]
  (conv => whnf); refine And.intro (by omega) ?_
  (conv => whnf); refine recO (mC_at hsk) ?_
  cases s with
  | none =>
   obtain rfl : k = 0 := hf.1 rfl
   have hrw : rwQ cs zs r0.rows (q.take (0 + 1)) = r0.rows := by rw [htk]; rfl
   have hlv : lvE cs zs r0.rows q (0 + 1) = lvE cs zs r0.rows q 0 ++ [rlA cs r0.rows] := by
    show _ ++ [rlA cs (rwQ cs zs r0.rows (q.take (0 + 1)))] = _
    rw [hrw]
   rw [hrw] at hcl hin
   (conv => whnf); refine ACalls.use (idxR_t _ _ (rlN ordN) _ (r0 :: R) (fun c _ => efind1_t c _ _ _) x2 (by simp; omega)) ?_
   rw [h0]
   repeat ((conv => whnf); refine And.intro (by decide) ?_)
   conv => whnf
   refine ACalls.use (eStep0_t hr.cl hcs ht0 hz _) ?_
   repeat ((conv => whnf); first | refine And.intro rfl ?_ | refine And.intro (⟨by simp [roomB], by simp [roomB], rfl, rfl⟩) ?_)
   conv => whnf
   refine ⟨m - 1, by omega, Gp.cut (H := [.arr 4 [inpC cs zs r0.rows q (0 + 1)], .arr 4 (lvE cs zs r0.rows q (0 + 1))]) (by rw [hin, hlv]; rfl) ⟨lowP (inpC_pure _ _ _ _ _), lowP (lvE_pure _ _ _ _ _), trivial⟩ rfl rfl ?_ fun ρ1 h => ⟨0 + 1, by omega, rfl, h⟩⟩
   exact ⟨rfl, rfl, slEq hcl hcl, rfl, rfl, rfl, intEq (nx1 (by omega)), trivial⟩
  | some e =>
   have hk0 : k ≠ 0 := fun h => by cases hf.2 h
   obtain ⟨kf, he, hkf⟩ := hq.sp _ hm e rfl
   have hrw : rwQ cs zs r0.rows (q.take (k + 1)) = kpF cs zs e (rwQ cs zs r0.rows (q.take k)) := by rw [htk, rwQ_snoc]; rfl
   have hi0 : inpC cs zs r0.rows q k = rlA cs (rwQ cs zs r0.rows (q.take k)) := by rw [inpC, if_neg hk0]
   have hlv : lvE cs zs r0.rows q (k + 1) = lvE cs zs r0.rows q k ++ [rlA cs (kpF cs zs e (rwQ cs zs r0.rows (q.take k)))] := by
    show _ ++ [rlA cs (rwQ cs zs r0.rows (q.take (k + 1)))] = _
    rw [hrw]
   rw [hi0]
   rw [hrw] at hcl hin
   (conv => whnf); refine ACalls.use (eStep1_t hcs hz he (hq.sp _ hm) (rwQ_ok zs (q.take k) ht0) _) ?_
   (conv => whnf); refine recT (hb) ?_
   (conv => whnf); refine And.intro (⟨by simp [roomB]; omega, by simp [roomB]; omega, rfl, hll.symm⟩) ?_
   repeat ((conv => whnf); refine And.intro rfl ?_)
   conv => whnf
   refine ⟨m - 1, by omega, Gp.cut (H := [.arr 4 [inpC cs zs r0.rows q (k + 1)], .arr 4 (lvE cs zs r0.rows q (k + 1))]) (by rw [hin, hlv]; rfl) ⟨lowP (inpC_pure _ _ _ _ _), lowP (lvE_pure _ _ _ _ _), trivial⟩ rfl rfl ?_ fun ρ1 h => ⟨k + 1, by omega, rfl, h⟩⟩
   exact ⟨rfl, rfl, slEq hcl hcl, rfl, rfl, rfl, intEq (nx1 (by omega)), trivial⟩
 ·simp at hlt
  obtain rfl : k = q.length := by omega
  conv => whnf
  exact pub2 (pubF rfl hll.symm hll.symm (lvE_pure _ _ _ _ _)) (.closed _ rfl)
theorem equery_t [Gls] (x1 x2 : Bool) {cs : List Col} {zs : List Zon} {q : List (Option (List Nod))} (hq : QOk cs zs q) (hcs : CsOk cs) (hz : ZsOk zs) {r0 : RlR} {R : List RlR} (hr : RsOk cs r0 R) (H : List AObj) :
  ACalls pr 23 [.list x1 6 (mC spC q), .list x2 4 (mC rlC (r0 :: R)), .list false 3 (mC zonC zs)] H (fun r H' => r = .tuple [.agg (rlA cs (rwQ cs zs r0.rows q)), .int .i64 0] ∧ H' = H) := by
 have h1 := hq.n1
 have h16 := hq.n2
 obtain ⟨k, hk⟩ : ∃ k, q.length = k + 1 := ⟨q.length - 1, by omega⟩
 have hlast : (lvE cs zs r0.rows q q.length)[((q.length : Int) - 1).toNat]? = some (rlA cs (rwQ cs zs r0.rows q)) := by
  rw [show ((q.length : Int) - 1).toNat = k by omega, hk, lvE, List.getElem?_append_right (by rw [lvE_len]; exact Nat.le_refl _), lvE_len, Nat.sub_self, ← hk, List.take_length]
  rfl
 refine ACalls.pure rfl (acalls_of_body k23.has ?_)
 (conv => whnf); refine ACalls.use (levels_t x1 x2 hq hcs hz hr _) ?_
 conv => whnf
 rw [lvE_len, wrapI _ (by omega) (by omega)]
 (conv => whnf); refine And.intro (by omega) ?_
 (conv => whnf); refine recO hlast ?_
 conv => whnf
 exact pub2 (.closed _ rfl) (.closed _ rfl)
end Go.AW

namespace Go.AW
variable [Draws]
attribute [local irreducible] ACalls CallE CallS Gp
set_option maxRecDepth 20000
set_option maxHeartbeats 4000000
inductive VTs : List V → List Kd → Prop where
 | nil : VTs [] []
 | cons {v : V} {k : Kd} {l : List V} {lk : List Kd} (h : VK k.1 v) (hs : VTs l lk) : VTs (v :: l) (k :: lk)
theorem VTs.len {l : List V} {lk : List Kd} (h : VTs l lk) : l.length = lk.length := by induction h with
 | nil => rfl
 | cons _ _ ih => simp [ih]
theorem VTs.val {l : List V} {lk : List Kd} (h : VTs l lk) : ∀ v ∈ l, validB v = true := by
 induction h with
 | nil => intro v hv; cases hv
 | cons h _ ih =>
  intro v hv
  rcases List.mem_cons.1 hv with rfl | hv
  ·exact h.1
  ·exact ih v hv
theorem VTs.drop {l : List V} {lk : List Kd} (h : VTs l lk) (n : Nat) : VTs (l.drop n) (lk.drop n) := by
 induction h generalizing n with
 | nil => simp; exact .nil
 | cons h hs ih =>
  cases n with
  | zero => exact .cons h hs
  | succ n => exact ih n
theorem VTs.take {l : List V} {lk : List Kd} (h : VTs l lk) (n : Nat) : VTs (l.take n) (lk.take n) := by
 induction h generalizing n with
 | nil => simp; exact .nil
 | cons h hs ih =>
  cases n with
  | zero => exact .nil
  | succ n => exact .cons h (ih n)
theorem VTs.snoc {l : List V} {lk : List Kd} (h : VTs l lk) {v : V} {k : Kd} (hk : VK k.1 v) : VTs (l ++ [v]) (lk ++ [k]) := by
 induction h with
 | nil => exact .cons hk .nil
 | cons h _ ih => exact .cons h ih
theorem vk_b3 {v : V} (h : v = boV true ∨ v = boV false ∨ v = ⟨0, 0, bs []⟩) : VK 1 v := by
 rcases h with rfl | rfl | rfl
 ·exact vkB _
 ·exact vkB _
 ·exact vk0 _
theorem vk_mono {j k : Int} {v : V} (h : VK j v) (e : j = k ∨ j = 0) : VK k v := by
 refine ⟨h.1, ?_⟩
 rcases e with rfl | rfl
 ·exact h.2
 ·exact .inr (h.2.elim id id)
theorem zEq_kind {v : V} (h : validB v = true) (hk : v.kind = 0) : zEq v = true := by
 obtain ⟨k, n, s⟩ := v
 subst hk
 unfold validB at h
 rw [if_pos rfl] at h
 simp at h
 unfold zEq
 simp only [h.1, h.2]
 rfl
theorem nz_kind {l : List V} (h : l.any zEq = false) {v : V} (hv : v ∈ l) (hg : validB v = true) : v.kind ≠ 0 := by
 intro hk
 have := List.any_eq_false.1 h v hv
 exact this (zEq_kind hg hk)
theorem kft_iff {a : Kd} {k : Int} (h : kft a k = true) : a.1 = k ∨ a.1 = 0 := by unfold kft at h; simpa using h
theorem kcm_fit {a b : Kd} (h : (kcm a b).2 = true) : (a.1 = (kcm a b).1 ∨ a.1 = 0) ∧ (b.1 = (kcm a b).1 ∨ b.1 = 0) := by
 unfold kcm at *
 by_cases h0 : (a.1 == 0) = true
 ·rw [if_pos h0] at h ⊢
  exact ⟨.inr (by simpa using h0), .inl rfl⟩
 ·rw [if_neg h0] at h ⊢
  exact ⟨.inl rfl, kft_iff h⟩
theorem ty4 (a b : Kd) : tyO 4 [a, b] = (if a.1 = 4 then ((4, true), kft b 2) else ((2, true), kft a 2 && kft b 2)) := rfl
theorem ty5 (a b : Kd) : tyO 5 [a, b] = (if b.1 = 4 then ((2, a.2 || b.2), kft a 4) else if a.1 = 4 then ((4, true), kft b 2) else ((2, true), kft a 2 && kft b 2)) := rfl
theorem ty2 (op : Int) (a b : Kd) : tyO op [a, b] = (if op = 4 then (if a.1 = 4 then ((4, true), kft b 2) else ((2, true), kft a 2 && kft b 2))
 else if op = 5 then (if b.1 = 4 then ((2, a.2 || b.2), kft a 4) else if a.1 = 4 then ((4, true), kft b 2) else ((2, true), kft a 2 && kft b 2))
 else if 6 ≤ op ∧ op ≤ 8 then ((2, true), kft a 2 && kft b 2)
 else if op = 9 then ((3, true), kft a 3 && kft b 3)
 else if 10 ≤ op ∧ op ≤ 13 then ((1, a.2 || b.2), (kcm a b).2)
 else if op = 14 ∨ op = 15 then ((1, a.2 || b.2), kft a 1 && kft b 1)
 else (((kcm a b).1, a.2 && b.2), (kcm a b).2)) := rfl
theorem node_vk {cs : List Col} {zs : List Zon} (hz : ZsOk zs) {m : List (AVal × AVal)} {n : Nod} (g : Gd n) (hzn : n.op = 20 → zHas zs n.name = true) {l : List V} {lk : List Kd} (hl : (l.length : Int) = arN n) (ht : VTs l lk) {k : Kd}
  (hk : fK cs n lk = some k) (hm : n.op = 1 → VK k.1 (nmV m n.name)) : VK k.1 (evN zs m n l) := by
 have hval := ht.val
 have hop := g.op
 unfold evN
 by_cases h1 : n.op = 1
 ·rw [if_pos h1]; exact hm h1
 rw [if_neg h1]
 obtain ⟨_, _, _, s0, s1, s2, s3, s4⟩ := spV_t n l hl
 unfold fK at hk
 by_cases h0 : n.op = 0
 ·rw [if_pos h0] at hk
  cases hk
  rw [if_neg (by rintro ⟨h, _⟩; rw [h0] at h; cases h), s0 h0]
  exact ⟨(g.cst h0).2, .inl rfl⟩
 rw [if_neg h0, if_neg h1] at hk
 split at hk
 case isFalse => cases hk
 rename_i hty
 cases hk
 have hkd : ∀ {v : V} {q : Kd} {j : Int}, VK q.1 v → v.kind ≠ 0 → kft q j = true → v.kind = j := fun h h2 h3 => by
  rcases h.2 with h4 | h4
  ·rcases kft_iff h3 with h5 | h5
   ·omega
   ·rw [h5] at h4; exact absurd h4 h2
  ·exact absurd h4 h2
 by_cases hs : isSp n.op = false
 ·by_cases hn : l.any zEq = false
  ·rw [if_pos ⟨hs, hn⟩]
   have hap := (apV_t hz g hl (fun v hv => valid64 (hval v hv)) hzn hs h1).2.2.2
   have hnk : ∀ v ∈ l, v.kind ≠ 0 := fun v hv => nz_kind hn hv (hval v hv)
   have hop2 : n.op = 2 ∨ n.op = 3 ∨ n.op = 19 ∨ n.op = 20 ∨ n.op = 4 ∨ n.op = 5 ∨ (6 ≤ n.op ∧ n.op ≤ 8) ∨ n.op = 9 ∨ (10 ≤ n.op ∧ n.op ≤ 13) := by
    simp [isSp] at hs
    omega
   generalize apV zs n l = v at hap
   by_cases hu : n.op = 2 ∨ n.op = 3 ∨ n.op = 19 ∨ n.op = 20
   ·have hl1 : l.length = 1 := by unfold arN at hl; (repeat' split at hl) <;> omega
    match l, lk, ht, hl1 with
    | [a], [ka], ht, _ =>
     cases ht with
     | cons ha _ =>
      have hna := hnk a (List.mem_cons_self ..)
      have hap : ap1K n.op a v := hap
      unfold ap1K at hap
      rcases hu with h | h | h | h <;> rw [h] at hap hty ⊢
      ·exact hap
      ·exact hap
      ·exact hap
      ·exact hap (hkd ha hna hty) ha.1
   ·have hb : 4 ≤ n.op ∧ n.op ≤ 13 := by omega
    have hl2 : l.length = 2 := by unfold arN at hl; (repeat' split at hl) <;> omega
    match l, lk, ht, hl2 with
    | [a, b], [ka, kb], ht, _ =>
     cases ht with
     | cons ha ht =>
      cases ht with
      | cons hb' _ =>
       have hna := hnk a (List.mem_cons_self ..)
       have hnb := hnk b (by simp)
       have hap : ap2K n.op a b v := hap
       unfold ap2K at hap
       by_cases h4 : n.op = 4
       ·rw [h4] at hap hty ⊢
        have hap : VK (arK 4 a b) v := hap
        unfold arK at hap
        rw [if_pos rfl] at hap
        rw [ty4] at hty ⊢
        by_cases hka : ka.1 = 4
        ·rw [if_pos hka] at hty ⊢
         have : a.kind = 4 := (ha.2.resolve_right hna).trans hka
         rwa [if_pos this] at hap
        ·rw [if_neg hka] at hty ⊢
         simp only [Bool.and_eq_true] at hty
         have := hkd ha hna hty.1
         rwa [if_neg (by omega)] at hap
       by_cases h5 : n.op = 5
       ·rw [h5] at hap hty ⊢
        have hap : VK (arK 5 a b) v := hap
        unfold arK at hap
        rw [if_neg (by decide), if_pos rfl] at hap
        rw [ty5] at hty ⊢
        by_cases hkb : kb.1 = 4
        ·rw [if_pos hkb] at hty ⊢
         have : b.kind = 4 := (hb'.2.resolve_right hnb).trans hkb
         rwa [if_neg (by omega)] at hap
        ·rw [if_neg hkb] at hty ⊢
         by_cases hka : ka.1 = 4
         ·rw [if_pos hka] at hty ⊢
          have h6 : a.kind = 4 := (ha.2.resolve_right hna).trans hka
          have := hkd hb' hnb hty
          rwa [if_pos ⟨h6, this⟩] at hap
         ·rw [if_neg hka] at hty ⊢
          simp only [Bool.and_eq_true] at hty
          have := hkd ha hna hty.1
          rwa [if_neg (by omega)] at hap
       have hty1 : (tyO n.op [ka, kb]).1.1 = if n.op ≤ 8 then 2 else if n.op = 9 then 3 else 1 := by
        rw [ty2, if_neg h4, if_neg h5]
        by_cases h8 : n.op ≤ 8
        ·rw [if_pos (by omega), if_pos h8]
        rw [if_neg (by omega), if_neg h8]
        by_cases h9 : n.op = 9
        ·rw [if_pos h9, if_pos h9]
        rw [if_neg h9, if_neg h9, if_pos (by omega)]
       rw [hty1]
       by_cases h8 : n.op ≤ 8
       ·rw [if_pos h8] at hap ⊢
        unfold arK at hap
        rwa [if_neg h4, if_neg h5] at hap
       ·rw [if_neg h8] at hap ⊢
        by_cases h9 : n.op = 9
        ·rwa [if_pos h9] at hap ⊢
        ·rwa [if_neg h9] at hap ⊢
  ·rw [if_neg (fun h => hn h.2), s4 hs]
   exact vk0 _
 ·rw [if_neg (fun h => hs h.1)]
  have hop2 : n.op = 14 ∨ n.op = 15 ∨ n.op = 16 ∨ n.op = 17 ∨ n.op = 18 := by
   simp [isSp] at hs
   omega
  generalize spV n l = v at s1 s2 s3
  by_cases h16 : n.op = 16
  ·have hl1 : l.length = 1 := by unfold arN at hl; (repeat' split at hl) <;> omega
   match l, lk, ht, hl1 with
   | [a], [ka], ht, _ =>
    have := vk_b3 (s1 (by omega))
    rw [h16]
    exact this
  by_cases h17 : n.op = 17
  ·have hl1 : l.length = 3 := by unfold arN at hl; (repeat' split at hl) <;> omega
   match l, lk, ht, hl1 with
   | [a, b, c], [ka, kb, kc], ht, _ =>
    cases ht with
    | cons ha ht =>
     cases ht with
     | cons hb ht =>
      cases ht with
      | cons hc _ =>
       have hty : ((kcm kb kc).2 && kft ka 1) = true := hty
       simp only [Bool.and_eq_true] at hty
       show VK (kcm kb kc).1 v
       obtain ⟨e1, e2⟩ := kcm_fit hty.1
       rcases s2 h17 a b c rfl with rfl | rfl
       ·exact vk_mono hb e1
       ·exact vk_mono hc e2
  have hl1 : l.length = 2 := by unfold arN at hl; (repeat' split at hl) <;> omega
  match l, lk, ht, hl1 with
  | [a, b], [ka, kb], ht, _ =>
   cases ht with
   | cons ha ht =>
    cases ht with
    | cons hb _ =>
     by_cases h18 : n.op = 18
     ·rw [h18] at hty ⊢
      have hty : (kcm ka kb).2 = true := hty
      show VK (kcm ka kb).1 v
      obtain ⟨e1, e2⟩ := kcm_fit hty
      rcases s3 h18 a b rfl with rfl | ⟨_, rfl⟩
      ·exact vk_mono ha e1
      ·exact vk_mono hb e2
     ·have := vk_b3 (s1 (by omega))
      have h145 : n.op = 14 ∨ n.op = 15 := by omega
      rcases h145 with h | h <;> rw [h] <;> exact this
end Go.AW

namespace Go.AW
variable [Draws]
attribute [local irreducible] ACalls CallE CallS Gp
set_option maxRecDepth 20000
set_option maxHeartbeats 4000000
theorem stk_vk {cs : List Col} {zs : List Zon} (hz : ZsOk zs) {m : List (AVal × AVal)} : ∀ (e : List Nod) (s : List V) (sk t : List Kd), VTs s sk → stk (fK cs) e sk = some t → (∀ n ∈ e, Gd n) → (∀ n ∈ e, n.op = 20 → zHas zs n.name = true) →
  (∀ n ∈ e, n.op = 1 → ∀ l k, fK cs n l = some k → VK k.1 (nmV m n.name)) → ∃ r, stk (fV zs m) e s = some r ∧ VTs r t
 | [], s, sk, t, hs, h, _, _, _ => by cases h; exact ⟨s, rfl, hs⟩
 | n :: e, s, sk, t, hs, h, hg, hzn, hc => by
  have hlen := hs.len
  have har := (hg n (List.mem_cons_self ..)).ar3
  rw [stk] at h
  split at h
  case isFalse => cases h
  rename_i hle
  cases hk : fK cs n (sk.drop (sk.length - (arN n).toNat)) with
  | none => rw [hk] at h; cases h
  | some k =>
   rw [hk] at h
   have hd := hs.drop (s.length - (arN n).toNat)
   have hv := node_vk hz (m := m) (hg n (List.mem_cons_self ..)) (hzn n (List.mem_cons_self ..)) (l := s.drop (s.length - (arN n).toNat)) (by rw [List.length_drop]; omega) (by rw [← hlen] at hk; exact hd) (by rw [← hlen] at hk; exact hk) (fun h1 => hc n (List.mem_cons_self ..) h1 _ _ hk)
   have hs2 := (hs.take (s.length - (arN n).toNat)).snoc hv
   rw [← hlen] at h
   obtain ⟨r, h1, h2⟩ := stk_vk hz e _ _ t hs2 h (fun m hm => hg m (List.mem_cons_of_mem _ hm)) (fun m hm => hzn m (List.mem_cons_of_mem _ hm)) fun m hm => hc m (List.mem_cons_of_mem _ hm)
   refine ⟨r, ?_, h2⟩
   rw [stk, if_pos (by omega)]
   exact h1
theorem eval_vk {cs : List Col} {zs : List Zon} (hz : ZsOk zs) {m : List (AVal × AVal)} {e : List Nod} {kf : Kd} (he : ETy cs zs e kf) (hc : ∀ n ∈ e, n.op = 1 → ∀ l k, fK cs n l = some k → VK k.1 (nmV m n.name)) : VK kf.1 (evE zs m e) := by
 obtain ⟨r, h1, h2⟩ := stk_vk hz e [] [] [kf] .nil he.kk he.gd he.zn hc
 rw [evE_t m he] at h1
 cases h1
 cases h2 with
 | cons h _ => exact h
inductive Rls {α β : Type} (R : α → β → Prop) : List α → List β → Prop where
 | nil : Rls R [] []
 | cons {a : α} {b : β} {l : List α} {m : List β} (h : R a b) (hs : Rls R l m) : Rls R (a :: l) (b :: m)
section
variable {α β : Type} {R : α → β → Prop}
theorem Rls.len {l : List α} {m : List β} (h : Rls R l m) : l.length = m.length := by induction h with
 | nil => rfl
 | cons _ _ ih => simp [ih]
theorem Rls.drop {l : List α} {m : List β} (h : Rls R l m) (n : Nat) : Rls R (l.drop n) (m.drop n) := by
 induction h generalizing n with
 | nil => simp; exact .nil
 | cons h hs ih =>
  cases n with
  | zero => exact .cons h hs
  | succ n => exact ih n
theorem Rls.take {l : List α} {m : List β} (h : Rls R l m) (n : Nat) : Rls R (l.take n) (m.take n) := by
 induction h generalizing n with
 | nil => simp; exact .nil
 | cons h hs ih =>
  cases n with
  | zero => exact .nil
  | succ n => exact .cons h (ih n)
theorem Rls.snoc {l : List α} {m : List β} (h : Rls R l m) {a : α} {b : β} (hk : R a b) : Rls R (l ++ [a]) (m ++ [b]) := by
 induction h with
 | nil => exact .cons hk .nil
 | cons h _ ih => exact .cons h ih
end
def parN : List ByteArray := [bs [120, 97], bs [120, 98]]
def sbN (A B : List Nod) (n : Nod) : List Nod := if n.op = 1 ∧ idxOf (eqS n.name) parN 0 = 0 then A else if n.op = 1 ∧ idxOf (eqS n.name) parN 0 = 1 then B else [n]
def sbE (A B : List Nod) (e : List Nod) : List Nod := (e.map (sbN A B)).flatten
theorem sbE_cons (A B : List Nod) (n : Nod) (e : List Nod) : sbE A B (n :: e) = sbN A B n ++ sbE A B e := rfl
theorem stk_sub {α β : Type} {f : Nod → List α → Option α} {g : Nod → List β → Option β} {R : α → β → Prop} {A B : List Nod} : ∀ (e : List Nod) (s : List α) (s' t' : List β), Rls R s s' → stk g e s' = some t' → (∀ n ∈ e, 0 ≤ arN n) →
  (∀ n ∈ e, n.op = 1 → ∀ l k', g n l = some k' → (idxOf (eqS n.name) parN 0 = 0 ∧ ∃ x, Lv f A x ∧ R x k') ∨ (idxOf (eqS n.name) parN 0 = 1 ∧ ∃ x, Lv f B x ∧ R x k')) →
  (∀ n ∈ e, n.op ≠ 1 → ∀ l l' k', Rls R l l' → (l.length : Int) = arN n → g n l' = some k' → ∃ k, f n l = some k ∧ R k k') → ∃ t, stk f (sbE A B e) s = some t ∧ Rls R t t'
 | [], s, s', t', hs, h, _, _, _ => by cases h; exact ⟨s, rfl, hs⟩
 | n :: e, s, s', t', hs, h, ha, h1, h2 => by
  have hlen := hs.len
  have har := ha n (List.mem_cons_self ..)
  rw [stk] at h
  split at h
  case isFalse => cases h
  rename_i hle
  cases hk : g n (s'.drop (s'.length - (arN n).toNat)) with
  | none => rw [hk] at h; cases h
  | some k' =>
   rw [hk] at h
   rw [sbE_cons, stk_append]
   by_cases ho : n.op = 1
   ·have hz : arN n = 0 := by unfold arN; rw [if_neg (by omega), if_pos (.inr ho)]
    have hz2 : s'.length - (arN n).toNat = s'.length := by rw [hz]; rfl
    rw [hz2, List.take_length] at h
    rcases h1 n (List.mem_cons_self ..) ho _ _ hk with ⟨hi, x, hx, hr⟩ | ⟨hi, x, hx, hr⟩
    ·rw [sbN, if_pos ⟨ho, hi⟩, hx s]
     exact stk_sub e _ _ t' (hs.snoc hr) h (fun m hm => ha m (List.mem_cons_of_mem _ hm)) (fun m hm => h1 m (List.mem_cons_of_mem _ hm)) fun m hm => h2 m (List.mem_cons_of_mem _ hm)
    ·rw [sbN, if_neg (by omega), if_pos ⟨ho, hi⟩, hx s]
     exact stk_sub e _ _ t' (hs.snoc hr) h (fun m hm => ha m (List.mem_cons_of_mem _ hm)) (fun m hm => h1 m (List.mem_cons_of_mem _ hm)) fun m hm => h2 m (List.mem_cons_of_mem _ hm)
   ·rw [sbN, if_neg (fun h => ho h.1), if_neg (fun h => ho h.1)]
    obtain ⟨k, hk1, hk2⟩ := h2 n (List.mem_cons_self ..) ho (s.drop (s.length - (arN n).toNat)) _ _ (by rw [hlen]; exact hs.drop _) (by rw [List.length_drop]; omega) hk
    have he : stk f [n] s = some (s.take (s.length - (arN n).toNat) ++ [k]) := by
     rw [stk, if_pos (by omega), hk1]; rfl
    rw [he]
    exact stk_sub e _ _ t' (by rw [hlen]; exact (hs.take _).snoc hk2) h (fun m hm => ha m (List.mem_cons_of_mem _ hm)) (fun m hm => h1 m (List.mem_cons_of_mem _ hm)) fun m hm => h2 m (List.mem_cons_of_mem _ hm)
theorem kft_rel {a a' : Kd} (h : a.1 = a'.1) (k : Int) : kft a k = kft a' k := by unfold kft; rw [h]
theorem kcm_rel {a a' b b' : Kd} (h : a.1 = a'.1) (g : b.1 = b'.1) : kcm a b = kcm a' b' := by unfold kcm; rw [h, g, kft_rel g]
theorem ty_rel (op : Int) {l l' : List Kd} (h : Rls (fun a b : Kd => a.1 = b.1) l l') : (tyO op l).2 = (tyO op l').2 ∧ (tyO op l).1.1 = (tyO op l').1.1 := by
 match l, l', h with
 | [], [], _ => exact ⟨rfl, rfl⟩
 | [a], [a'], .cons h _ =>
  unfold tyO
  simp only [kft_rel h]
  (repeat' split) <;> exact ⟨rfl, rfl⟩
 | [a, b], [a', b'], .cons h (.cons g _) =>
  rw [ty2, ty2]
  simp only [kft_rel h, kft_rel g, kcm_rel h g, h, g]
  (repeat' split) <;> exact ⟨rfl, rfl⟩
 | [a, b, c], [a', b', c'], .cons h (.cons g (.cons i _)) =>
  show ((kcm b c).2 && kft a 1) = ((kcm b' c').2 && kft a' 1) ∧ (kcm b c).1 = (kcm b' c').1
  rw [kcm_rel g i, kft_rel h]
  exact ⟨rfl, rfl⟩
 | a :: b :: c :: d :: l, l', h =>
  have hl := h.len
  match l', hl with
  | a' :: b' :: c' :: d' :: l', _ => exact ⟨rfl, rfl⟩
end Go.AW

namespace Go.AW
variable [Draws]
attribute [local irreducible] ACalls CallE CallS Gp
set_option maxRecDepth 20000
set_option maxHeartbeats 4000000
def parC (kb : Int) : List Col := [⟨bs [120, 97], 2, true⟩, ⟨bs [120, 98], kb, true⟩]
theorem eqB {a b : ByteArray} (h : (a.data.toList == b.data.toList) = true) : b = a := by
 have h := eq_of_beq h
 cases a with | mk a => cases b with | mk b => exact congrArg ByteArray.mk (Array.toList_inj.1 h.symm)
theorem par_in {kb : Int} {s : ByteArray} (h : 0 ≤ colIdx (parC kb) s) : (s = bs [120, 97] ∧ colIdx (parC kb) s = 0) ∨ (s = bs [120, 98] ∧ colIdx (parC kb) s = 1) := by
 unfold colIdx parC at *
 simp only [idxOf] at *
 split at h
 ·rename_i h1; exact .inl ⟨eqB h1, by rw [if_pos h1]⟩
 split at h
 ·rename_i h0 h1; exact .inr ⟨eqB h1, by rw [if_neg h0, if_pos h1]; rfl⟩
 ·omega
theorem par_fK {kb : Int} {n : Nod} {l : List Kd} {k : Kd} (ho : n.op = 1) (h : fK (parC kb) n l = some k) : (n.name = bs [120, 97] ∧ idxOf (eqS n.name) parN 0 = 0 ∧ k = (2, true)) ∨ (n.name = bs [120, 98] ∧ idxOf (eqS n.name) parN 0 = 1 ∧ k = (kb, true)) := by
 unfold fK at h
 rw [if_neg (by omega), if_pos ho] at h
 split at h
 case isFalse => cases h
 rename_i hi
 rcases par_in hi with ⟨h1, h2⟩ | ⟨h1, h2⟩
 ·rw [h2] at h
  cases h
  exact .inl ⟨h1, by rw [h1]; decide, rfl⟩
 ·rw [h2] at h
  cases h
  exact .inr ⟨h1, by rw [h1]; decide, rfl⟩
theorem stk_nodes0 {α : Type} {f : Nod → List α → Option α} : ∀ (e : List Nod) (s t : List α), stk f e s = some t → ∀ n ∈ e, ∃ l x, f n l = some x
 | [], _, _, _, n, hn => by cases hn
 | m :: e, s, t, h, n, hn => by
  rw [stk] at h
  split at h
  ·cases hx : f m (s.drop (s.length - (arN m).toNat)) with
   | none => rw [hx] at h; cases h
   | some x =>
    rw [hx] at h
    rcases List.mem_cons.1 hn with rfl | hn
    ·exact ⟨_, x, hx⟩
    ·exact stk_nodes0 e _ t h n hn
  ·cases h
def fHu (_ : Nod) (l : List Int) : Option Int := some (hgt l)
theorem hgt_ge : ∀ (l : List Int) (h : Int), h ≤ l.foldl (fun h x => max h (1 + x)) h ∧ ∀ x ∈ l, x ≤ l.foldl (fun h x => max h (1 + x)) h
 | [], h => ⟨Int.le_refl _, fun x hx => by cases hx⟩
 | y :: l, h => by
  obtain ⟨h1, h2⟩ := hgt_ge l (max h (1 + y))
  refine ⟨Int.le_trans (by omega) h1, fun x hx => ?_⟩
  rcases List.mem_cons.1 hx with rfl | hx
  ·exact Int.le_trans (by omega) h1
  ·exact h2 x hx
theorem fHu_up : ∀ (e : List Nod) (s t : List Int), stk fHu e s = some t → ∀ x ∈ s, ∃ y ∈ t, x ≤ y
 | [], s, t, h, x, hx => by cases h; exact ⟨x, hx, Int.le_refl _⟩
 | n :: e, s, t, h, x, hx => by
  rw [stk] at h
  split at h
  case isFalse => cases h
  rename_i hle
  have h : stk fHu e (s.take (s.length - (arN n).toNat) ++ [hgt (s.drop (s.length - (arN n).toNat))]) = some t := h
  rw [← List.take_append_drop (s.length - (arN n).toNat) s] at hx
  rcases List.mem_append.1 hx with hx | hx
  ·exact fHu_up e _ t h x (List.mem_append_left _ hx)
  ·obtain ⟨y, hy, hxy⟩ := fHu_up e _ t h (hgt (s.drop (s.length - (arN n).toNat))) (List.mem_append_right _ (List.mem_singleton.2 rfl))
   exact ⟨y, hy, Int.le_trans ((hgt_ge _ 1).2 x hx) hxy⟩
theorem fHx_of : ∀ (e : List Nod) (s t : List Int), stk fHu e s = some t → (∀ y ∈ t, y ≤ 64) → (∀ n ∈ e, Gd n) → stk fH e s = some t
 | [], _, _, h, _, _ => h
 | n :: e, s, t, h, ht, hg => by
  rw [stk] at h ⊢
  split at h
  case isFalse => cases h
  rename_i hle
  have h : stk fHu e (s.take (s.length - (arN n).toNat) ++ [hgt (s.drop (s.length - (arN n).toNat))]) = some t := h
  obtain ⟨y, hy, hxy⟩ := fHu_up e _ t h (hgt (s.drop (s.length - (arN n).toNat))) (List.mem_append_right _ (List.mem_singleton.2 rfl))
  have h64 := ht y hy
  have hf : fH n (s.drop (s.length - (arN n).toNat)) = some (hgt (s.drop (s.length - (arN n).toNat))) := by
   unfold fH
   rw [if_pos ⟨hg n (List.mem_cons_self ..), by omega⟩]
  rw [if_pos hle, hf]
  exact fHx_of e _ t h ht fun m hm => hg m (List.mem_cons_of_mem _ hm)
theorem fHu_of : ∀ (e : List Nod) (s t : List Int), stk fH e s = some t → stk fHu e s = some t
 | [], _, _, h => h
 | n :: e, s, t, h => by
  rw [stk] at h ⊢
  split at h
  case isFalse => cases h
  rename_i hle
  rw [if_pos hle]
  unfold fH at h
  split at h
  ·exact fHu_of e _ t h
  ·cases h
def gF (ha hb : Int) (n : Nod) (l : List Int) : Option Int := if n.op = 1 ∧ idxOf (eqS n.name) parN 0 = 0 then some ha else if n.op = 1 ∧ idxOf (eqS n.name) parN 0 = 1 then some hb else some (hgt l)
theorem rls_eq {α : Type} {l m : List α} (h : Rls (fun a b => a = b) l m) : l = m := by induction h with
 | nil => rfl
 | cons h _ ih => rw [h, ih]
theorem gd_arN {n : Nod} (g : Gd n) : 0 ≤ arN n := g.ar3.1
theorem sbE_mem {A B : List Nod} : ∀ {e : List Nod} {n : Nod}, n ∈ sbE A B e → n ∈ A ∨ n ∈ B ∨ (n ∈ e ∧ ¬ (n.op = 1 ∧ idxOf (eqS n.name) parN 0 = 0) ∧ ¬ (n.op = 1 ∧ idxOf (eqS n.name) parN 0 = 1))
 | [], n, h => by cases h
 | m :: e, n, h => by
  rw [sbE_cons] at h
  rcases List.mem_append.1 h with h | h
  ·unfold sbN at h
   split at h
   ·exact .inl h
   ·split at h
    ·exact .inr (.inl h)
    ·rename_i h1 h2
     cases List.mem_singleton.1 h
     exact .inr (.inr ⟨List.mem_cons_self .., h1, h2⟩)
  ·rcases sbE_mem h with h | h | ⟨h, h1, h2⟩
   ·exact .inl h
   ·exact .inr (.inl h)
   ·exact .inr (.inr ⟨List.mem_cons_of_mem _ h, h1, h2⟩)
section
variable {kb : Int} {a b body : List Nod} {ka kbk kf : Kd} {cs : List Col} {zs : List Zon}
theorem ety_sub (ha : ETy cs zs a ka) (hb : ETy cs zs b kbk) (hB : ETy (parC kb) zs body kf) (h1 : ka.1 = 2) (h2 : kbk.1 = kb) {x y H : Int} (hx : stk fH a [] = some [x]) (hy : stk fH b [] = some [y]) (hH : stk (gF x y) body [] = some [H]) (h64 : H ≤ 64)
  (hlen : (sbE a b body).length ≤ 256) : ∃ k, k.1 = kf.1 ∧ ETy cs zs (sbE a b body) k := by
 have hgd : ∀ n ∈ sbE a b body, Gd n := fun n hn => by
  rcases sbE_mem hn with h | h | h
  ·exact ha.gd n h
  ·exact hb.gd n h
  ·exact hB.gd n h.1
 have hcol : ∀ n ∈ body, n.op = 1 → (n.name = bs [120, 97] ∧ idxOf (eqS n.name) parN 0 = 0) ∨ (n.name = bs [120, 98] ∧ idxOf (eqS n.name) parN 0 = 1) := fun n hn ho => by
  obtain ⟨l, k, hk⟩ := stk_nodes0 body _ _ hB.kk n hn
  rcases par_fK ho hk with h | h
  ·exact .inl ⟨h.1, h.2.1⟩
  ·exact .inr ⟨h.1, h.2.1⟩
 obtain ⟨t, ht, hr⟩ := stk_sub (f := fHu) (g := gF x y) (R := fun a b => a = b) (A := a) (B := b) body [] [] [H] .nil hH (fun n hn => gd_arN (hB.gd n hn))
  (fun n hn ho l k hk => by
   rcases hcol n hn ho with ⟨_, h⟩ | ⟨_, h⟩
   ·refine .inl ⟨h, x, .of (fHu_of _ _ _ hx), ?_⟩
    unfold gF at hk
    rw [if_pos ⟨ho, h⟩] at hk
    cases hk; rfl
   ·refine .inr ⟨h, y, .of (fHu_of _ _ _ hy), ?_⟩
    unfold gF at hk
    rw [if_neg (by omega), if_pos ⟨ho, h⟩] at hk
    cases hk; rfl)
  (fun n hn ho l l' k hl _ hk => by
   obtain rfl := rls_eq hl
   unfold gF at hk
   rw [if_neg (fun h => ho h.1), if_neg (fun h => ho h.1)] at hk
   exact ⟨k, hk, rfl⟩)
 obtain rfl := rls_eq hr
 obtain ⟨t, ht2, hr2⟩ := stk_sub (f := fK cs) (g := fK (parC kb)) (R := fun a b : Kd => a.1 = b.1) (A := a) (B := b) body [] [] [kf] .nil hB.kk (fun n hn => gd_arN (hB.gd n hn))
  (fun n hn ho l k hk => by
   rcases par_fK ho hk with ⟨_, h, rfl⟩ | ⟨_, h, rfl⟩
   ·exact .inl ⟨h, ka, .of ha.kk, h1⟩
   ·exact .inr ⟨h, kbk, .of hb.kk, h2⟩)
  (fun n hn ho l l' k hl _ hk => by
   unfold fK at hk ⊢
   by_cases h0 : n.op = 0
   ·rw [if_pos h0] at hk ⊢; exact ⟨k, hk, rfl⟩
   rw [if_neg h0, if_neg ho] at hk ⊢
   obtain ⟨e1, e2⟩ := ty_rel n.op hl
   rw [e1]
   split at hk
   ·rename_i h; rw [if_pos h]; cases hk; exact ⟨_, rfl, e2⟩
   ·cases hk)
 cases hr2 with
 | cons h hs =>
  cases hs
  rename_i k
  refine ⟨k, h, hlen, ⟨H, fHx_of _ _ _ ht (fun y hy => by cases List.mem_singleton.1 hy; exact h64) hgd⟩, hgd, fun n hn h20 => ?_, ht2⟩
  rcases sbE_mem hn with h | h | h
  ·exact ha.zn n h h20
  ·exact hb.zn n h h20
  ·exact hB.zn n h.1 h20
theorem eval_sub {m : List (AVal × AVal)} (ha : ETy cs zs a ka) (hb : ETy cs zs b kbk) (hB : ETy (parC kb) zs body kf) : evE zs m (sbE a b body) = evE zs (mpR ((parC kb).zip [evE zs m a, evE zs m b])) body := by
 obtain ⟨t, ht, hr⟩ := stk_sub (f := fV zs m) (g := fV zs (mpR ((parC kb).zip [evE zs m a, evE zs m b]))) (R := fun a b => a = b) (A := a) (B := b) body [] [] [evE zs (mpR ((parC kb).zip [evE zs m a, evE zs m b])) body] .nil (evE_t _ hB) (fun n hn => gd_arN (hB.gd n hn))
  (fun n hn ho l k hk => by
   obtain ⟨l2, k2, hk2⟩ := stk_nodes0 body _ _ hB.kk n hn
   unfold fV evN at hk
   rw [if_pos ho] at hk
   cases hk
   rcases par_fK ho hk2 with ⟨h0, h, _⟩ | ⟨h0, h, _⟩
   ·exact .inl ⟨h, _, .of (evE_t m ha), by rw [h0]; rfl⟩
   ·exact .inr ⟨h, _, .of (evE_t m hb), by rw [h0]; rfl⟩)
  (fun n hn ho l l' k hl _ hk => by
   obtain rfl := rls_eq hl
   unfold fV evN at hk ⊢
   rw [if_neg ho] at hk ⊢
   exact ⟨k, hk, rfl⟩)
 obtain rfl := rls_eq hr
 unfold evE
 rw [ht]; rfl
end
theorem chk_par {kb : Int} (hk : 1 ≤ kb ∧ kb ≤ 4) {x y : V} (hx : VK 2 x) (hy : VK kb y) : chkRow (parC kb) [x, y] = 0 := by
 have hbad : ∀ (c : Col) (v : V), c.nul = true → (v.kind = c.kind ∨ v.kind = 0) → badB c v = false := fun c v hn h => by
  unfold badB
  rw [hn]
  rcases h with h | h <;> simp [h]
 show chkGo (parC kb) [x, y] = 0
 unfold parC
 rw [chkGo, if_neg (by rw [hx.1]; decide), if_neg (by rw [hbad _ _ rfl hx.2]; decide), chkGo, if_neg (by rw [hy.1]; decide), if_neg (by rw [hbad _ _ rfl hy.2]; decide)]
 rfl
end Go.AW

namespace Go.AW
variable [Draws]
attribute [local irreducible] ACalls CallE CallS Gp
set_option maxRecDepth 20000
set_option maxHeartbeats 4000000
structure Trm where
 nodes : List Nod
 h : Int
def trC (t : Trm) : List AVal := [.list false 6 (mC nodC t.nodes), .int .i64 t.h]
def trN (l : List Trm) : List Nod := (l.map Trm.nodes).flatten
def putT (n : Nod) (l : List Trm) : Trm := ⟨trN l ++ [n], hgt (l.map Trm.h)⟩
def fTm (n : Nod) (l : List Trm) : Option Trm := if (putT n l).nodes.length ≤ 256 ∧ (putT n l).h ≤ 64 then some (putT n l) else none
theorem trN_append (a b : List Trm) : trN (a ++ b) = trN a ++ trN b := by unfold trN; rw [List.map_append, List.flatten_append]
theorem fTm_run : ∀ (e : List Nod) (T : List Trm) (t : List Int), stk fHu e (T.map Trm.h) = some t → (∀ y ∈ t, y ≤ 64) → (trN T).length + e.length ≤ 256 →
  ∃ T', stk fTm e T = some T' ∧ T'.map Trm.h = t ∧ trN T' = trN T ++ e
 | [], T, t, h, _, _ => by cases h; exact ⟨T, rfl, rfl, (List.append_nil _).symm⟩
 | n :: e, T, t, h, ht, hl => by
  rw [stk] at h
  rw [List.length_map] at h
  split at h
  case isFalse => cases h
  rename_i hle
  have h : stk fHu e ((T.map Trm.h).take (T.length - (arN n).toNat) ++ [hgt ((T.map Trm.h).drop (T.length - (arN n).toNat))]) = some t := h
  obtain ⟨y, hy, hxy⟩ := fHu_up e _ t h _ (List.mem_append_right _ (List.mem_singleton.2 rfl))
  have h64 := ht y hy
  have hs : trN T = trN (T.take (T.length - (arN n).toNat)) ++ trN (T.drop (T.length - (arN n).toNat)) := by rw [← trN_append, List.take_append_drop]
  have hsl := congrArg List.length hs
  rw [List.length_append] at hsl
  rw [List.length_cons] at hl
  have hp : fTm n (T.drop (T.length - (arN n).toNat)) = some (putT n (T.drop (T.length - (arN n).toNat))) := by
   unfold fTm
   rw [if_pos]
   refine ⟨?_, ?_⟩
   ·show (trN (T.drop (T.length - (arN n).toNat)) ++ [n]).length ≤ 256
    rw [List.length_append, List.length_singleton]; omega
   ·show hgt ((T.drop (T.length - (arN n).toNat)).map Trm.h) ≤ 64
    rw [List.map_drop]; omega
  have hN : trN (T.take (T.length - (arN n).toNat) ++ [putT n (T.drop (T.length - (arN n).toNat))]) = trN T ++ [n] := by
   rw [trN_append, hs, List.append_assoc]
   show _ ++ ((trN (T.drop (T.length - (arN n).toNat)) ++ [n]) ++ []) = _
   rw [List.append_nil]
  obtain ⟨T', h1, h2, h3⟩ := fTm_run e (T.take (T.length - (arN n).toNat) ++ [putT n (T.drop (T.length - (arN n).toNat))]) t (by
   rw [List.map_append, List.map_take]
   show stk fHu e (_ ++ [hgt ((T.drop (T.length - (arN n).toNat)).map Trm.h)]) = _
   rw [List.map_drop]; exact h) ht (by rw [hN, List.length_append, List.length_singleton]; omega)
  refine ⟨T', ?_, h2, by rw [h3, hN, List.append_assoc]; rfl⟩
  rw [stk, if_pos hle, hp]
  exact h1
theorem fTm_self {e : List Nod} {H : Int} (h : stk fHu e [] = some [H]) (h64 : H ≤ 64) (hl : e.length ≤ 256) : stk fTm e [] = some [⟨e, H⟩] := by
 obtain ⟨T', h1, h2, h3⟩ := fTm_run e [] [H] h (fun y hy => by cases List.mem_singleton.1 hy; exact h64) (by show 0 + _ ≤ _; omega)
 match T', h2 with
 | [t], h2 =>
  have e1 : t.h = H := by simpa using h2
  have e2 : t.nodes = e := by simpa [trN] using h3
  rw [h1, ← e1, ← e2]
theorem fTm_app {a b : List Nod} {x y : Trm} (ha : stk fTm a [] = some [x]) (hb : stk fTm b [] = some [y]) : stk fTm (a ++ b) [] = some [x, y] := by
 rw [stk_append, ha]
 exact stk_frame fTm [x] b [] [y] hb
end Go.AW

namespace Go.AW
variable [Draws]
attribute [local irreducible] ACalls
section
variable {E : Env} {P : Program} {C : Nat → Nat} {τ : Nat → Option Loc} {ρ : List AVal} {H : List AObj} {a : Act} {w : World} {ops : Array Oper} {is : List AIns}
def Opn (P : Program) (is : List AIns) (ps : List (List Nat)) (ρ : List AVal) (H : List AObj) (K : List AVal → List AObj → Prop) : Prop :=
 ∃ I : (Nat → Bool) → List AVal → List AObj → Prop, I (fun _ => false) ρ H ∧
  (∀ (L : Nat → Bool) (ρ : List AVal) (H : List AObj) (j : Nat) (i : AIns), L j = false → (∀ p ∈ ps.getD j [], L p = true) → is[j]? = some i → I L ρ H → ∃ v H', YieldsE P i ρ H v H' ∧ I (fun k => if k = j then true else L k) (putV ρ i.dst v) H') ∧
  (∀ (L : Nat → Bool) (ρ : List AVal) (H : List AObj), (∀ j, j < is.length → L j = true) → I L ρ H → K ρ H)
theorem opn_any {ob : List Nat} {Q : AExit → List AVal → List AObj → Prop} {I : (Nat → Bool) → List AVal → List AObj → Prop} (hcl : compList P ob ops ops.toList = some is) (hpreds : predsOk (predsL ops) 0 = true)
  (hstep : ∀ (L : Nat → Bool) (ρ : List AVal) (H : List AObj) (j : Nat) (i : AIns), L j = false → (∀ p ∈ (predsL ops).getD j [], L p = true) → is[j]? = some i → I L ρ H → ∃ v H', YieldsE P i ρ H v H' ∧ I (fun k => if k = j then true else L k) (putV ρ i.dst v) H')
  (hend : ∀ (L : Nat → Bool) (ρ : List AVal) (H : List AObj), (∀ j, j < is.length → L j = true) → I L ρ H → Q .normal ρ H) :
  ∀ (f : Nat) (listed : Array Bool) (ρ : List AVal) (H : List AObj) (C : Nat → Nat) (τ : Nat → Option Loc) (a : Act) (w : World), listed.size = ops.size → I (fun k => listed.getD k false) ρ H → unl listed is.length = f → SA E C τ ρ H a w → Go.wpAny P .any ops (QR E Q) f listed a w := by
 have hlen : is.length = ops.size := by rw [compList_length _ _ hcl]; simp
 intro f
 induction f with
 | zero =>
  refine fun listed ρ H C τ a w hsz hI hu hs => ⟨?_, ρ, H, C, τ, hend _ ρ H (unl_zero _ hu) hI, hs⟩
  refine List.eq_nil_iff_forall_not_mem.2 fun j hj => ?_
  obtain ⟨hun, o, ho, _⟩ := mem_ready.1 hj
  have hjn : j < is.length := by rw [hlen]; exact (Array.getElem?_eq_some_iff.1 ho).1
  have := unl_zero _ hu j hjn
  rw [getD_both hun] at this
  cases this
 | succ f ih =>
  refine fun listed ρ H C τ a w hsz hI hu hs => ⟨fun h0 => ?_, fun j hj => ?_⟩
  ·obtain ⟨j, hjn, hun, hbel⟩ := unl_pos is.length (by omega : 0 < unl listed is.length)
   have hjo : j < ops.size := by rw [← hlen]; exact hjn
   have : j ∈ Region.ready .any ops listed := by
    refine mem_ready.2 ⟨getD_in (by rw [hsz]; exact hjo) hun, ops[j], Array.getElem?_eq_getElem hjo, fun e he hb => hbel _ ?_⟩
    have := predsOk_spec _ 0 hpreds j _ (predsAt hjo) e.on (List.mem_map.2 ⟨e, List.mem_filter.2 ⟨by simpa using he, hb⟩, rfl⟩)
    omega
   rw [h0] at this
   cases this
  ·obtain ⟨hun, o, ho, hall⟩ := mem_ready.1 hj
   have hjo : j < ops.size := (Array.getElem?_eq_some_iff.1 ho).1
   obtain ⟨i, hi, hcomp⟩ := compList_get ops.toList is hcl j o (by simpa using ho)
   have hjl : j < listed.size := by rw [hsz]; exact hjo
   have hu' : unl (listed.setIfInBounds j true) is.length = f := by
    have := (unl_set (j := j) (listed := listed) hjl (getD_both hun) is.length).1 (by rw [hlen]; exact hjo)
    omega
   have hoe : ops[j] = o := by have := Array.getElem?_eq_getElem hjo; rw [ho] at this; cases this; rfl
   have hset : (fun k => (listed.setIfInBounds j true).getD k false) = (fun k => if k = j then true else listed.getD k false) := by
    funext k
    rw [getD_set hjl]
    by_cases e : k = j
    ·subst e; simp
    ·rw [if_neg e, if_neg (Ne.symm e)]
   obtain ⟨v, H', hy, hI'⟩ := hstep _ ρ H j i (getD_both hun) (fun p hp => by
    rw [List.getD_eq_getElem?_getD, predsAt hjo, hoe] at hp
    obtain ⟨e, he, rfl⟩ := List.mem_map.1 hp
    have := List.mem_filter.1 he
    exact hall e (by simpa using this.1) this.2) hi hI
   rw [← hset] at hI'
   obtain ⟨ao, hao, rfl⟩ := compIns_parts hcomp
   unfold wpOp
   simp only [ho]
   rcases hy with ⟨hg, hy⟩ | ⟨hg, rfl, rfl⟩
   ·rw [wanted_of_guardV hs hg]
    simp only [if_true]
    refine .inl ?_
    unfold Oper.wp
    refine upon_of_opRes (op_sound (K := fun u H1 => u = v ∧ H1 = H') hao hs (hy _ ⟨rfl, rfl⟩)) fun u w' hout => ?_
    obtain ⟨v', C', τ', H1, ⟨rfl, rfl⟩, hrel, hsa⟩ := hout
    obtain ⟨ρ2, hk2, hsa2⟩ := hsa.putO hrel o.dst (k := fun x => x = putV ρ o.dst v') (by rw [putK_eq])
    subst hk2
    exact ih _ _ _ C' τ' _ w' (by simp [hsz]) hI' hu' hsa2
   ·rw [wanted_of_guardV hs hg]
    simp only [Bool.false_eq_true, if_false]
    obtain ⟨ρ2, hk2, hsa2⟩ := hs.putO rel_skip o.dst (k := fun x => x = putV ρ o.dst (.tuple [])) (by rw [putK_eq])
    subst hk2
    exact ih _ _ _ C τ _ w (by simp [hsz]) hI' hu' hsa2
theorem opn_sound {ob : List Nat} {id : Nat} {Q : AExit → List AVal → List AObj → Prop} (hcl : compList P ob ops ops.toList = some is) (hm : P.follows .mixedOrders = true) (hpreds : predsOk (predsL ops) 0 = true)
  (h : Opn P is (predsL ops) ρ H (Q .normal)) (hs : SA E C τ ρ H a w) : (Code.region id ops true).wp P (QR E Q) a w := by
 obtain ⟨I, h0, hstep, hend⟩ := h
 obtain ⟨st, s1⟩ := hs.st.same (w' := { w with drawn := w.drawn + 1 }) rfl rfl rfl rfl
 have hs' := hs.go st s1
 refine wp_region_any hm ?_
 have hlen : is.length = ops.size := by rw [compList_length _ _ hcl]; simp
 have := opn_any (E := E) (Q := Q) hcl hpreds hstep hend is.length (Array.replicate ops.size false) ρ H C τ a _ (by simp) (by
  have : (fun k => (Array.replicate ops.size false).getD k false) = fun _ => false := by funext k; exact getD_replicate_false _ _
  rw [this]; exact h0) (unl_replicate _ _) hs'
 rw [hlen] at this
 exact this
theorem acalls_of_wp {f : FuncId} {fn : Go.Func} {c : Go.Code} {m : Nat} {rs : List ARes} {args : List AVal} {Q : AVal → List AObj → Prop} (hfn : P.funcs[f]? = some fn) (hbody : fn.body = some c) (hname : (fn.name == "runtime.NumGoroutine") = false) (hnt : fn.ntmps = m) (hres : compRes P fn.results.toList = some rs)
  (h : ∀ (E : Env) (C : Nat → Nat) (τ : Nat → Option Loc) (a : Act) (w : World), E.H0 = H → SA E C τ (args ++ List.replicate (m - args.length) (.tuple [])) H a w → c.wp P (QR E fun e ρ' H' => match e with
   | .exit _ => False
   | _ => resK ρ' H' rs fun vs => tupK vs fun v => Q v H') a w) : ACalls P f args H Q := by
 unfold ACalls
 intro C τ w vs hw hl hr
 have hcall : (callFunc f vs).run P w = .ok (.enter f vs) w := by
  simp only [callFunc, Sem.run_bind, run_program, Result.andThen_ok, hfn, hname, Bool.false_eq_true, if_false, hbody, Option.isNone_some, Sem.run_pure]
 unfold CallsX
 rw [hcall]
 let E : Env := ⟨w, PrCall τ H w, C, τ, H, fun b hb hn => Classical.byContradiction fun ho => hn ⟨hb, ho⟩⟩
 have hsa : SA E C τ (args ++ List.replicate (m - args.length) (.tuple [])) H { tmps := vs ++ Array.replicate (fn.ntmps - vs.size) undef, defers := [] } w := by
  refine ⟨St.start hw, Step.refl, fun t => ?_, by simp [hl, hnt], rfl⟩
  rw [getT_append_replicate]
  simp only [Array.getD_eq_getD_getElem?]
  by_cases ht : t < args.length
  ·rw [dif_pos ht, Array.getElem?_append_left (by omega), Array.getElem?_eq_getElem (by omega)]
   exact hr t _ _ (List.getElem?_eq_getElem ht) (Array.getElem?_eq_getElem (by omega))
  ·rw [dif_neg ht, Array.getElem?_append_right (by omega)]
   split
   ·rename_i h2
    rw [Array.getElem?_replicate, if_pos (by omega)]
    exact rel_skip
   ·exact .undef _
 refine calls_of_wp hfn hbody (wp_mono (h E C τ _ w rfl hsa) fun e a' w' hq => ?_)
 have fin : ∀ (ρ' : List AVal) (H' : List AObj) (C' : Nat → Nat) (τ' : Nat → Option Loc), (resK ρ' H' rs fun vs => tupK vs fun v => Q v H') → SA E C' τ' ρ' H' a' w' →
   a'.defers = [] ∧ ∃ v, (results fn a'.tmps).run P w' = .ok v w' ∧ ∃ v2 r C' τ' H', Ending.returned v = .returned v2 ∧ Q r H' ∧ Rel C' w' τ' H' r v2 ∧ St w (PrCall τ H w) C' τ' H' w' ∧ Step C τ H w C' τ' H' w' := by
  intro ρ' H' C' τ' hk hs
  refine ⟨hs.defers, ?_⟩
  obtain ⟨xs, us, h1, h2, h3, h4⟩ := run_results hs fn.results.toList rs _ hres hk
  have hm : (fn.results.mapM (resOne a'.tmps)).run P w' = .ok us.toArray w' := by
   rw [Array.mapM_eq_mapM_toList, Sem.run_map, h2]; rfl
  have hrun : (results fn a'.tmps).run P w' = .ok (if h : us.toArray.size = 1 then us.toArray[0] else .tuple us.toArray) w' := by
   rw [results_eq, Sem.run_bind, hm]
   rfl
  refine ⟨_, hrun, ?_⟩
  unfold tupK at h1
  split at h1
  ·rename_i v
   have hu : us.length = 1 := by rw [← h3]; rfl
   obtain ⟨u, rfl⟩ := List.length_eq_one_iff.1 hu
   exact ⟨_, v, C', τ', H', rfl, h1, h4 0 v u rfl rfl, hs.st, hs.step⟩
  ·rename_i hne
   have hu : ¬ us.toArray.size = 1 := by
    intro hu
    simp at hu
    rw [← h3] at hu
    obtain ⟨v, hv⟩ := List.length_eq_one_iff.1 hu
    exact hne v hv
   refine ⟨_, _, C', τ', H', rfl, h1, ?_, hs.st, hs.step⟩
   rw [dif_neg hu]
   exact .tuple _ _ (by simpa using h3) fun i c v hc hv => h4 i c v hc (by simpa using hv)
 cases e with
 | normal => obtain ⟨ρ', H', C', τ', hk, hs⟩ := hq; exact fin ρ' H' C' τ' hk hs
 | ret => obtain ⟨ρ', H', C', τ', hk, hs⟩ := hq; exact fin ρ' H' C' τ' hk hs
 | exit id => obtain ⟨_, _, _, _, hk, _⟩ := hq; exact hk.elim
 | _ => exact hq.elim
theorem acalls_opn {f : FuncId} {fn : Go.Func} {x y : Go.Code} {ax ay : ACode} {i2 m : Nat} {ob : List Nat} {rs : List ARes} {args : List AVal} {Q : AVal → List AObj → Prop} (hfn : P.funcs[f]? = some fn) (hbody : fn.body = some (.seq x (.seq y (.seq (.region i2 ops true) .ret)))) (hname : (fn.name == "runtime.NumGoroutine") = false) (hnt : fn.ntmps = m) (hres : compRes P fn.results.toList = some rs)
  (hx : comp P ob x = some ax) (hy : comp P ob y = some ay) (hcl : compList P ob ops ops.toList = some is) (hm : P.follows .mixedOrders = true) (hpreds : predsOk (predsL ops) 0 = true)
  (h : awp P (H.map AObj.olen) (.seq ax ay) (fun e ρ' H' => match e with
   | .normal => Opn P is (predsL ops) ρ' H' (fun ρ2 H2 => resK ρ2 H2 rs fun vs => tupK vs fun v => Q v H2)
   | _ => False) (args ++ List.replicate (m - args.length) (.tuple [])) H) : ACalls P f args H Q := by
 refine acalls_of_wp hfn hbody hname hnt hres fun E C τ a w hE hs => ?_
 rw [awp_seq] at h
 subst hE
 refine wp_seq (wp_mono (code_sound (E := E) (fun id ops is Q C τ ρ H a w h1 h2 h3 h4 => draw_sound h1 h2 h3 h4) x ax _ C τ _ _ _ w hx h hs) fun e a' w' hq => ?_)
 cases e with
 | normal =>
  obtain ⟨ρ', H', C', τ', hk, hs'⟩ := hq
  refine wp_seq (wp_mono (code_sound (E := E) (fun id ops is Q C τ ρ H a w h1 h2 h3 h4 => draw_sound h1 h2 h3 h4) y ay _ C' τ' _ H' _ w' hy hk hs') fun e a2 w2 hq => ?_)
  cases e with
  | normal =>
   obtain ⟨ρ2, H2, C2, τ2, hk2, hs2⟩ := hq
   refine wp_seq (wp_mono (opn_sound (E := E) (Q := fun e ρ' H' => match e with
    | .normal => resK ρ' H' rs fun vs => tupK vs fun v => Q v H'
    | _ => False) hcl hm hpreds hk2 hs2) fun e a3 w3 hq => ?_)
   cases e with
   | normal => exact wp_ret hq
   | exit id => obtain ⟨_, _, _, _, hk, _⟩ := hq; exact hk.elim
   | ret => obtain ⟨_, _, _, _, hk, _⟩ := hq; exact hk.elim
   | _ => exact hq.elim
  | exit id => obtain ⟨_, _, _, _, hk, _⟩ := hq; exact hk.elim
  | ret => obtain ⟨_, _, _, _, hk, _⟩ := hq; exact hk.elim
  | _ => exact hq.elim
 | exit id => obtain ⟨_, _, _, _, hk, _⟩ := hq; exact hk.elim
 | ret => obtain ⟨_, _, _, _, hk, _⟩ := hq; exact hk.elim
 | _ => exact hq.elim
end
end Go.AW

namespace Go.AW
variable [Draws]
attribute [local irreducible] ACalls
set_option maxRecDepth 100000
structure KO (i : Nat) where
 a1 : ACode
 a2 : ACode
 is : List AIns
 ps : List (List Nat)
 m : Nat
 rs : List ARes
 ok : ∀ (args : List AVal) (H : List AObj) (Q : AVal → List AObj → Prop), awp pr (H.map AObj.olen) (.seq a1 a2) (fun e ρ' H' => match e with
   | .normal => Opn pr is ps ρ' H' (fun ρ2 H2 => resK ρ2 H2 rs fun vs => tupK vs fun v => Q v H2)
   | _ => False) (args ++ List.replicate (m - args.length) (.tuple [])) H → ACalls pr i args H Q
theorem og {α : Type} {x : Option α} {z : α} (h : x.isSome = true) : x = some (x.getD z) := by
 cases x with
 | none => cases h
 | some y => rfl
noncomputable def ko (i : Nat) (ob : List Nat) (f : Go.Func) (hf : Proofs.Tryz.prog.funcs[i]? = some f) {x y : Go.Code} {i2 : Nat} {ops : Array Oper} (hb : f.body = some (.seq x (.seq y (.seq (.region i2 ops true) .ret))) := by rfl)
  {d1 d2 : Option ACode} {d3 : Option (List AIns)} {ps : List (List Nat)} {r : Option (List ARes)} {m : Nat}
  (h1 : comp Proofs.Tryz.prog ob x = d1 := by with_unfolding_all (conv => lhs; reduce; dsimp only [↓inL,Int.reduceNegSucc]))
  (h2 : comp Proofs.Tryz.prog ob y = d2 := by with_unfolding_all (conv => lhs; reduce; dsimp only [↓inL,Int.reduceNegSucc]))
  (h3 : compList Proofs.Tryz.prog ob ops ops.toList = d3 := by with_unfolding_all (conv => lhs; reduce; dsimp only [↓inL,Int.reduceNegSucc]))
  (h4 : predsL ops = ps := by with_unfolding_all (conv => lhs; reduce))
  (hr : compRes Proofs.Tryz.prog f.results.toList = r := by with_unfolding_all (conv => lhs; reduce)) (hm : f.ntmps = m := by with_unfolding_all (conv => lhs; reduce; dsimp only [])) (hn : (f.name == "runtime.NumGoroutine") = false := by rfl)
  (g1 : d1.isSome = true := by rfl) (g2 : d2.isSome = true := by rfl) (g3 : d3.isSome = true := by rfl) (g4 : predsOk ps 0 = true := by rfl) (ht : r.isSome = true := by rfl) (hf2 : Proofs.Tryz.prog.follows .mixedOrders = true := by rfl) : KO i :=
 ⟨d1.getD .skip, d2.getD .skip, d3.getD [], ps, m, r.getD [], by
  rw [prE0]
  intro args H Q h
  exact acalls_opn hf hb hn hm (hr.trans (og ht)) (h1.trans (og g1)) (h2.trans (og g2)) (h3.trans (og g3)) hf2 (by rw [h4]; exact g4) (by rw [h4]; exact h)⟩
noncomputable def k132 := ko 132 [15, 17] Proofs.Tryz.f132 Proofs.Tryz.func132
end Go.AW

namespace Go.AW
variable [Draws]
attribute [local irreducible] ACalls
set_option maxRecDepth 100000
set_option maxHeartbeats 4000000
def Sk (es : List (AVal × AVal)) : Prop := ∀ kv ∈ es, ∃ b, kv.1 = .str b
theorem Sk.put {es : List (AVal × AVal)} (h : Sk es) (k : ByteArray) (v : AVal) : Sk (mput 2 (.str k) v es) := by
 induction es with
 | nil => intro kv hk; simp [mput] at hk; subst hk; exact ⟨_, rfl⟩
 | cons kv r ih =>
  obtain ⟨b, hb⟩ := h kv (List.mem_cons_self ..)
  intro x hx
  rw [mput] at hx
  split at hx
  ·rcases List.mem_cons.1 hx with rfl | hx
   ·exact ⟨b, hb⟩
   ·exact h x (List.mem_cons_of_mem _ hx)
  ·rcases List.mem_cons.1 hx with rfl | hx
   ·exact ⟨b, hb⟩
   ·exact ih (fun y hy => h y (List.mem_cons_of_mem _ hy)) x hx
theorem Sk.ok {es : List (AVal × AVal)} (h : Sk es) (k : ByteArray) : keyOk 2 (.str k) es = true := by
 unfold keyOk
 rw [Bool.and_eq_true]
 refine ⟨rfl, List.all_eq_true.2 fun kv hk => ?_⟩
 obtain ⟨b, hb⟩ := h kv hk
 rw [hb]; rfl
theorem Sk.find {es : List (AVal × AVal)} (h : Sk es) (k : ByteArray) (v : AVal) : mfind 2 (.str k) (mput 2 (.str k) v es) = some v := by
 induction es with
 | nil => simp [mput, mfind, eqCell]
 | cons kv r ih =>
  obtain ⟨b, hb⟩ := h kv (List.mem_cons_self ..)
  have := ih fun y hy => h y (List.mem_cons_of_mem _ hy)
  cases e : (k.data.toList == b.data.toList) <;> simp [mput, mfind, hb, eqCell, e, this]
theorem Sk.other {es : List (AVal × AVal)} (h : Sk es) (k j : ByteArray) (v : AVal) (hkj : (k.data.toList == j.data.toList) = false) : mfind 2 (.str k) (mput 2 (.str j) v es) = mfind 2 (.str k) es := by
 induction es with
 | nil => simp [mput, mfind, eqCell, hkj]
 | cons kv r ih =>
  obtain ⟨b, hb⟩ := h kv (List.mem_cons_self ..)
  have := ih fun y hy => h y (List.mem_cons_of_mem _ hy)
  cases e : (j.data.toList == b.data.toList) with
  | false => cases e2 : (k.data.toList == b.data.toList) <;> simp [mput, mfind, hb, eqCell, e, e2, this]
  | true =>
   have hb2 : (k.data.toList == b.data.toList) = false := by rw [← eq_of_beq e]; exact hkj
   simp [mput, mfind, hb, eqCell, e, hb2]
theorem ms_yield {ρ : List AVal} {H : List AObj} {m : Nat} {k : ByteArray} {es : List (AVal × AVal)} (h5 : getT ρ 5 = .mp m) (hm : H[m]? = some (.map es)) (hk : Sk es) (x : AOpd) :
  YieldsO pr (.mapSet 2 (.t 5) (.c (.str k)) x) ρ H (.tuple []) (H.set m (.map (mput 2 (.str k) (ev ρ x) es))) := by
 intro K hK
 show evK ρ (.t 5) fun v => evK ρ (.c _) fun u => evK ρ x fun y => _
 simp only [evK_eq]
 rw [show ev ρ (.t 5) = .mp m from h5]
 show objK H m _
 refine idxA_intro hm ?_
 show chkA _ _
 refine (chkA_iff _ _).2 ⟨hk.ok k, ?_⟩
 rw [setO_eq]
 exact hK
def whB : ByteArray := bs [119, 104, 101, 114, 101]
def stF : AVal := .fn 159 [.ptr 1 1 0 0]
def stV : AVal := .fn 161 [.ptr 1 1 0 0]
def b2n (b : Bool) : Nat := if b then 1 else 0
structure InvS (o : AObj) (p : AVal) (L : Nat → Bool) (ρ : List AVal) (H : List AObj) : Prop where
 len : ρ.length = 23
 s1 : getT ρ 1 = .ptr 1 1 0 0
 s3 : getT ρ 3 = stF
 s6 : L 1 = true → getT ρ 6 = stV
 s14 : L 16 = true → getT ρ 14 = stF
 s16 : L 19 = true → getT ρ 16 = stF
 s22 : L 29 = true → getT ρ 22 = getT ρ 5
 s2 : L 30 = true → getT ρ 2 = getT ρ 5
 c0 : L 2 = true ∨ L 29 = true ∨ L 30 = true → L 0 = true
 hp : ∃ G, H = o :: .arr 1 [[p]] :: G ∧ G.length = b2n (L 0) + b2n (L 17) + b2n (L 20) ∧
  (L 0 = true → ∃ m es, getT ρ 5 = .mp (m + 2) ∧ G[m]? = some (.map es) ∧ Sk es ∧ (L 2 = true → mfind 2 (.str whB) es = some stV))
theorem InvS.pure {o : AObj} {p : AVal} {L : Nat → Bool} {ρ : List AVal} {H : List AObj} (h : InvS o p L ρ H) (j d : Nat) (v : AVal) (hd : ¬ (d = 1 ∨ d = 3 ∨ d = 5 ∨ d = 6 ∨ d = 14 ∨ d = 16 ∨ d = 22 ∨ d = 2))
  (hj : ¬ (j = 0 ∨ j = 1 ∨ j = 2 ∨ j = 16 ∨ j = 17 ∨ j = 19 ∨ j = 20 ∨ j = 29 ∨ j = 30)) : InvS o p (fun k => if k = j then true else L k) (putV ρ (some d) v) H := by
 have g : ∀ t, d ≠ t → getT (putV ρ (some d) v) t = getT ρ t := fun t ht => getT_putV (by simpa using ht)
 have l : ∀ k, j ≠ k → (if k = j then true else L k) = L k := fun k hk => if_neg (Ne.symm hk)
 obtain ⟨G, h1, h2, h3⟩ := h.hp
 refine ⟨by rw [putV_length]; exact h.len, ?_, ?_, ?_, ?_, ?_, ?_, ?_, ?_, G, h1, ?_, ?_⟩
 ·rw [g _ (by omega)]; exact h.s1
 ·rw [g _ (by omega)]; exact h.s3
 ·rw [g _ (by omega), l _ (by omega)]; exact h.s6
 ·rw [g _ (by omega), l _ (by omega)]; exact h.s14
 ·rw [g _ (by omega), l _ (by omega)]; exact h.s16
 ·rw [g _ (by omega), g _ (by omega), l _ (by omega)]; exact h.s22
 ·rw [g _ (by omega), g _ (by omega), l _ (by omega)]; exact h.s2
 ·rw [l _ (by omega), l _ (by omega), l _ (by omega), l _ (by omega)]; exact h.c0
 ·rw [l _ (by omega), l _ (by omega), l _ (by omega)]; exact h2
 ·rw [g _ (by omega), l _ (by omega), l _ (by omega)]; exact h3
theorem InvS.put {o : AObj} {p : AVal} {L : Nat → Bool} {ρ : List AVal} {H : List AObj} (h : InvS o p L ρ H) (j : Nat) (h0 : L 0 = true) (k : ByteArray) (x : AOpd) (hk : (whB.data.toList == k.data.toList) = false)
  (hj : ¬ (j = 0 ∨ j = 1 ∨ j = 2 ∨ j = 16 ∨ j = 17 ∨ j = 19 ∨ j = 20 ∨ j = 29 ∨ j = 30)) : ∃ v H', YieldsE pr ⟨none, .mapSet 2 (.t 5) (.c (.str k)) x, none⟩ ρ H v H' ∧ InvS o p (fun k => if k = j then true else L k) (putV ρ none v) H' := by
 have l : ∀ k, j ≠ k → (if k = j then true else L k) = L k := fun k hk => if_neg (Ne.symm hk)
 obtain ⟨G, h1, h2, h3⟩ := h.hp
 obtain ⟨m, es, g1, g2, g3, g4⟩ := h3 h0
 refine ⟨_, _, .inl ⟨rfl, ms_yield g1 (by rw [h1]; exact g2) g3 x⟩, h.len, h.s1, h.s3, ?_, ?_, ?_, ?_, ?_, ?_, G.set m (.map (mput 2 (.str k) (ev ρ x) es)), by rw [h1]; rfl, ?_, ?_⟩
 ·rw [l _ (by omega)]; exact h.s6
 ·rw [l _ (by omega)]; exact h.s14
 ·rw [l _ (by omega)]; exact h.s16
 ·rw [l _ (by omega)]; exact h.s22
 ·rw [l _ (by omega)]; exact h.s2
 ·rw [l _ (by omega), l _ (by omega), l _ (by omega), l _ (by omega)]; exact h.c0
 ·rw [l _ (by omega), l _ (by omega), l _ (by omega), List.length_set]; exact h2
 ·intro _
  refine ⟨m, _, g1, List.getElem?_set_self (List.getElem?_eq_some_iff.1 g2).1, g3.put _ _, ?_⟩
  rw [l _ (by omega), g3.other _ _ _ hk]
  exact g4
theorem getT_put {ρ : List AVal} {d : Nat} {v : AVal} (h : d < ρ.length) : getT (putV ρ (some d) v) d = v := by
 show getT (setT ρ d v) d = v
 rw [getT_setT, if_pos ⟨rfl, h⟩]
theorem snocI {H : List AObj} {o : AObj} {n : Nat} {k : Nat → List AObj → Prop} (h : k (n + H.length) (H ++ [o])) : snocK H o n k := by rw [snocK_eq]; exact h
theorem fq127_t (n : Int) (H : List AObj) : ACalls pr 159 [.int .i64 n, .ptr 1 1 0 0] H (fun r H' => r = .fn 160 [.ptr H.length 1 0 0, .ptr 1 1 0 0] ∧ H' = H ++ [.arr 1 [[.int .i64 n]]]) := by
 refine acalls_of_body k159.has ?_
 conv => whnf
 refine snocI ?_
 conv => whnf
 rw [Nat.zero_add]
 exact ⟨rfl, rfl⟩
end Go.AW

