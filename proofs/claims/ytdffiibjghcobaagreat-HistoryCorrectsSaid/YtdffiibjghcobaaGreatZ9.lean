/-
  An abstract machine over the model, the code of functions on it, and their contracts: what the claim needs.
  No condition: definitions, plain laws, contracts over any program that has this code.
-/
import Derived.Test.YtdffiibjghcobaaGreatZ8
set_option linter.all false
namespace Go.AW
variable [Draws]
open Go.Sort
attribute [local irreducible] ACalls
theorem sortEg_of {P : Program} {ρ : Go.Shelf.Ren} (L : Go.Proofs.SlLaysF0.n6 P ρ) (aE : ∀ w, (isAgg (ρ.t 24)).run P w = .ok true w) (zE : ∀ w, (Go.sizeOf (ρ.t 24)).run P w = .ok 2 w) {g : FuncId}
  (eg : ∀ args w, (callFunc g args).run P w = .ok (.enter g args) w)
  (hg : ∀ x y : Ent, x.row.length ≤ 1000 → @ACalls upD P g [.agg (entC x), .agg (entC y)] [] (fun r _ => r = .int .i64 (rowsCmp x.row y.row))) :
  SortE P (ρ.f 6) g := by
 intro l hne hl hr H i0 ho
 have hm := subL_map l hr
 have hcells : (subL l hr).map (fun e => entC e.1) = eC l := by
  have := congrArg (List.map entC) hm
  rw [List.map_map] at this
  exact this
 have hlen : (subL l hr).length = l.length := by rw [← List.length_map (f := fun e : EntS => e.1), hm]
 have main := sort_spec (P := P) L (k := 2) (by decide) aE zE (cells := fun e : EntS => entC e.1) (fun _ => rfl) (fun x c hc => by
  simp [entC] at hc
  rcases hc with rfl | rfl
  ·simp [AVal.isPure]
  ·rfl) (cmp := fun a b => rowsCmp a.1.row b.1.row) swo_rows (g := g) eg (fun x y => hg x.1 y.1 (by have := x.2; omega))
  (es := subL l hr) (fun h => by rw [h] at hm; exact hne hm.symm) (by omega) (i0 := i0) (by rw [hcells]; exact ho)
 rw [hlen] at main
 refine main.mono ?_
 rintro r H' ⟨rfl, es', ⟨hp, hs⟩, rfl⟩
 refine ⟨rfl, es'.map (fun e => e.1), by have := hp.map (fun e : EntS => e.1); rwa [hm] at this, ?_, ?_⟩
 ·refine List.pairwise_iff_getElem.2 fun i j hi hj hij => ?_
  rw [List.length_map] at hi hj
  have := hs i j es'[i] es'[j] hij (List.getElem?_eq_getElem hi) (List.getElem?_eq_getElem hj)
  replace this : 0 ≤ rowsCmp (es'[j]).1.row (es'[i]).1.row := this
  rw [rowsCmp_anti] at this
  simp only [List.getElem_map]
  omega
 ·rw [eC, List.map_map]; rfl

theorem enters_has {P : Program} {f : FuncId} {a : AFunc} {ob : List Nat} (h : Has P f ob a) : ∀ args w, (callFunc f args).run P w = .ok (.enter f args) w := by
 obtain ⟨fn, c, h1, h2, h3, _⟩ := h
 exact Go.Proofs.enters_of h1 h2 h3

theorem sortE_I {P : Program} {ρ : Go.Shelf.Ren} (L : Go.Proofs.SlLaysF0.n6 P ρ) (aE : ∀ w, (isAgg (ρ.t 24)).run P w = .ok true w) (zE : ∀ w, (Go.sizeOf (ρ.t 24)).run P w = .ok 2 w) (F : F_z0m P) : SortE P (ρ.f 6) F.id :=
 sortEg_of L aE zE (enters_has F.has) fun x y hx => by letI : Draws := upD; exact (Intervals_1_spec F x y (by omega) []).mono fun _ _ h => h.1

end Go.AW

