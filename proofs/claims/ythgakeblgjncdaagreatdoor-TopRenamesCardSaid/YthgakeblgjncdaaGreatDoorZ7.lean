/-
  An abstract machine over the model, the code of functions on it, and their contracts: what the claim needs.
  No condition: definitions, plain laws, contracts over any program that has this code.
-/
import Derived.Test.YthgakeblgjncdaaGreatDoorZ6
set_option linter.all false
namespace Go.AW
variable [Draws]
attribute [local irreducible] ACalls CallE CallS Gp lpI
set_option maxRecDepth 100000
set_option maxHeartbeats 4000000
theorem obp4 {H : List AObj} {ids : List Nat} {a b c d a1 b1 c1 d1 : AVal} (h1 : Pub H 0 ids a a1 ∧ a1.isCell = true) (h2 : Pub H 0 ids b b1 ∧ b1.isCell = true) (h3 : Pub H 0 ids c c1 ∧ c1.isCell = true) (h4 : Pub H 0 ids d d1 ∧ d1.isCell = true) : ObP H ids (.arr 4 [[a, b, c, d]]) (.arr 4 [[a1, b1, c1, d1]]) :=
 .map 4 _ _ rfl (fun i e e1 g1 g2 => by
  match i, g1, g2 with
  | 0, rfl, rfl => rfl
  | i + 1, g1, _ => cases g1) fun i j e e1 x x1 g1 g2 g3 g4 => by
  match i, g1, g2 with
  | 0, rfl, rfl =>
   match j, g3, g4 with
   | 0, rfl, rfl => exact h1
   | 1, rfl, rfl => exact h2
   | 2, rfl, rfl => exact h3
   | 3, rfl, rfl => exact h4
   | j + 4, g3, _ => cases g3
  | i + 1, g1, _ => cases g1
def kRW : List (List AVal) := [[.list true 3 (vC (kRow 0)), .int .i64 1], [.list true 3 (vC (kRow 1)), .int .i64 1]]
def kRel : List AVal := [.str ordN, .list true 3 (cC ordC), .nil, .list false 2 kRW]
theorem wkT {sz : Nat} {es : List (List AVal)} (h : ∀ e ∈ es, ∀ c ∈ e, c.isCell = true) : WkD (.list true sz es) (.list false sz es) :=
 .list true false sz es es (fun h => by cases h) rfl (fun i e f h1 h2 => by rw [h1] at h2; cases h2; rfl) (fun i j f c h1 h2 => h f (List.mem_of_getElem? h1) c (List.mem_of_getElem? h2)) fun i j e f d c h1 h2 h3 h4 => by
  rw [h1] at h2; cases h2
  rw [h3] at h4; cases h4
  exact .refl _
theorem kQuery [Gls] (H : List AObj) : ACalls pr 20 [.list false 6 (mC spC [none, some e0]), .list true 4 [kRel], .nil] H (fun r H' => r = .tuple [.agg (rlA ordC [kEnt 1]), .int .i64 0] ∧ H' = H) := by
 have hr : RsOk ordC ⟨ordN, true, ordC, [kEnt 0, kEnt 1]⟩ [] := ⟨by decide, rfl, rfl, fun r hr => by simp at hr; subst hr; exact ordOk, fun r hr => by simp at hr; subst hr; exact ⟨by decide, by decide⟩⟩
 have h := equery_t false true q0_ok ordOk zs0_ok hr H
 rw [kRows] at h
 refine h.weakD (.cons (.refl _) (.cons ?_ (.cons (.nil false 3) .nil)))
 refine .list true true 4 _ _ (fun h => h) rfl (fun i e f h1 h2 => ?_) (fun i j f c h1 h2 => ?_) fun i j e f d c h1 h2 h3 h4 => ?_
 ·match i, h1, h2 with
  | 0, rfl, rfl => rfl
  | i + 1, h1, _ => cases h1
 ·match i, h1 with
  | 0, rfl =>
   match j, h2 with
   | 0, rfl => rfl
   | 1, rfl => rfl
   | 2, rfl => rfl
   | 3, rfl => rfl
   | j + 4, h2 => cases h2
  | i + 1, h1 => cases h1
 ·match i, h1, h2 with
  | 0, rfl, rfl =>
   match j, h3, h4 with
   | 0, rfl, rfl => exact .refl _
   | 1, rfl, rfl => exact .refl _
   | 2, rfl, rfl => exact .refl _
   | 3, rfl, rfl =>
    refine .list false false 2 _ _ (fun h => h) rfl (fun i e f h1 h2 => ?_) (fun i j f c h1 h2 => ?_) fun i j e f d c h1 h2 h3 h4 => ?_
    ·match i, h1, h2 with
     | 0, rfl, rfl => rfl
     | 1, rfl, rfl => rfl
     | i + 2, h1, _ => cases h1
    ·match i, h1 with
     | 0, rfl =>
      match j, h2 with
      | 0, rfl => rfl
      | 1, rfl => rfl
      | j + 2, h2 => cases h2
     | 1, rfl =>
      match j, h2 with
      | 0, rfl => rfl
      | 1, rfl => rfl
      | j + 2, h2 => cases h2
     | i + 2, h1 => cases h1
    ·match i, h1, h2 with
     | 0, rfl, rfl =>
      match j, h3, h4 with
      | 0, rfl, rfl => exact wkT (fun e he c hc => AVal.isCell_of_isPure (List.all_eq_true.1 (List.all_eq_true.1 (pureEs_vC (kRow 0)) e he) c hc))
      | 1, rfl, rfl => exact .refl _
      | j + 2, h3, _ => cases h3
     | 1, rfl, rfl =>
      match j, h3, h4 with
      | 0, rfl, rfl => exact wkT (fun e he c hc => AVal.isCell_of_isPure (List.all_eq_true.1 (List.all_eq_true.1 (pureEs_vC (kRow 1)) e he) c hc))
      | 1, rfl, rfl => exact .refl _
      | j + 2, h3, _ => cases h3
     | i + 2, h1, _ => cases h1
   | j + 4, h3, _ => cases h3
  | i + 1, h1, _ => cases h1
theorem known_t [Gls] (H : List AObj) : ACalls pr 10 [] H (fun r H' => r = .bool true ∧ H' = H) := by
 refine ACalls.pure rfl (acalls_of_body k10.has ?_)
 repeat' (first | refine lpS _ _ _ _ ?_ | refine lpE _ _ _ _ ?_ | ((conv => whnf); first | refine usH rfl relations_raw ?_ | refine usQ rfl (parse_t _) ?_ | refine recT (by decide) ?_ | refine recF (by decide) ?_ | refine And.intro (by first | exact rfl | decide | omega | ((conv => whnf); exact ⟨by decide, rfl⟩)) ?_ | refine lpU _ _ _ _ 60 ?_))
 conv => whnf
 refine .mk (Gp.some (n := 73) (live := [(1, .ptr 0 1 0 0), (4, .list false 6 (mC spC [none, some e0])), (6, .int .i64 0)]) (H1 := [.arr 4 [kRel]]) [1] (by simp) ⟨⟨_, rfl, obp4 ⟨.closed _ rfl, rfl⟩ ⟨.closed _ rfl, rfl⟩ ⟨.closed _ rfl, rfl⟩ ⟨.frz 2 2 0 2 2 kRW rfl rfl rfl (by simp), rfl⟩⟩, trivial⟩ rfl ⟨.keepP 1 1 0 0 0 rfl, .closed _ rfl, .closed _ rfl, trivial⟩ ?_)
 rintro ρ ⟨dd, rfl⟩
 repeat' (first | refine lpS _ _ _ _ ?_ | refine lpE _ _ _ _ ?_ | ((conv => whnf); first | refine usQ rfl (kQuery _) ?_ | exact .closed _ rfl | refine recT (by decide) ?_ | refine recF (by decide) ?_ | refine And.intro (by first | exact rfl | decide | omega | ((conv => whnf); exact ⟨by decide, rfl⟩)) ?_ | refine lpU _ _ _ _ 60 ?_))
end Go.AW

namespace Go.AW
variable [Draws]
theorem lawTR [Gls] (g1 g2 : Bool) (l m : List Int) (n : Int) :
  ACalls pr 3 [.list g1 1 (iC l), .list g2 1 (iC m), .int .i64 n] [] (fun r _ => r = .bool true) := law_r known_t g1 g2 l m n
#print axioms lawTR
end Go.AW


namespace Go.AW
variable [Draws]
open Go.RowKit Go.ChangeShapes
section
variable {P : Program} {w : World}
theorem rd_global {g : Nat} {cs : List Value} {xs : List AVal} (hc : ∀ i, w.cell? ⟨g, i, none⟩ = cs[i]?) (hl : xs.length = cs.length) (hcell : ∀ a ∈ xs, a.isCell = true)
  (hr : ∀ (i : Nat) (a : AVal) (c : Value), xs[i]? = some a → cs[i]? = some c → Rd (allC w) w a c) : Rd (allC w) w (.cptr xs 0) (.pointer (some ⟨g, 0, none⟩)) := by
 have key := Rd.cptr (C := allC w) (w := w) xs 0 g 0 (fun j => (cs[j]?).getD .nilIface) ?_ (fun j hj => ?_) (fun j d hd => hcell d (List.mem_of_getElem? hd)) (fun j d hd => ?_)
 ·exact key
 ·rw [Nat.zero_add]
  cases hn : xs.length with
  | zero => exact Nat.zero_le _
  | succ n =>
   have hv : w.cell? ⟨g, n, none⟩ = some cs[n] := by rw [hc, List.getElem?_eq_getElem]
   exact allC_cell hv
 ·rw [Nat.zero_add, hc, List.getElem?_eq_getElem (by omega)]; rfl
 ·have hj := (List.getElem?_eq_some_iff.1 hd).1
  have hcj : cs[j]? = some cs[j] := List.getElem?_eq_getElem (by omega)
  rw [hcj]
  exact hr j d _ hd hcj
theorem gl_strs {n : String} {g : Nat} {t e : TypeId} {ss : List ByteArray} (hg : P.globalNamed n = some g) (hty : (P.globals[g]?).map (·.type) = some t) (ht : P.underlying t = some (.slice e)) (he : P.underlying e = some .string) (hce : P.cellsOf e = 1)
  (h : Lib.VarReads P w n (.slice (ChangeShapes.strs ss) [])) (hss : ss ≠ []) : Rd (allC w) w (.cptr [.list false 1 (ss.map fun s => [AVal.str s])] 0) (.pointer (some ⟨g, 0, none⟩)) := by
 obtain ⟨g', t', cs, fuel, p, hg', ht', hvar, hd⟩ := h
 obtain rfl := Option.some.inj (hg.symm.trans hg')
 obtain rfl := Option.some.inj (hty.symm.trans ht')
 rcases open_strings ht he hce hd with ⟨_, h1⟩ | ⟨⟨b, off, spot⟩, len, cap, us, h1, _, h3, h4, h5, h6, h7, h8⟩
 ·cases (Prod.mk.inj h1).1
 ·have hinj : ∀ (a c : List ByteArray), (ChangeShapes.strs a : List (DataW Unit)) = ChangeShapes.strs c → a = c := by
   intro a
   induction a with
   | nil => intro c hc; cases c with | nil => rfl | cons y c => cases hc
   | cons x a ih =>
    intro c hc
    cases c with
    | nil => cases hc
    | cons y c =>
     simp only [ChangeShapes.strs, List.map_cons, List.cons.injEq, DataW.lit.injEq, Lit.string.injEq] at hc
     have h1 : x = y := by
      have := hc.1
      cases x with | mk x => cases y with | mk y => simp only [Array.toList_inj] at this; rw [this]
     rw [h1, ih c hc.2]
  have he := (Prod.mk.inj h6).1
  injection he with e1 e2
  have hus : us.take len = ss := (hinj _ _ e1).symm
  have hd0 : us.drop len = [] := hinj _ [] e2.symm
  have hlen : us.length ≤ len := by
   have := congrArg List.length hd0
   simp at this; omega
  simp only [if_true] at h5
  have hue : us = ss := by rw [← hus, List.take_of_length_le hlen]
  subst hue
  have hpos : 0 < us.length := List.length_pos_iff.2 hss
  have hsp : spot = none := World.cell?_spot (h7 0 hpos)
  subst hsp
  have hcell : ∀ i, i < us.length → w.cell? ⟨b, off + i, none⟩ = some (.string (us.getD i ByteArray.empty)) := fun i hi => by
   have := h7 i hi
   rwa [WideShapes.add_plain] at this
  have hll : len = us.length := by omega
  refine rd_global (cs := cs.toList) (fun i => by rw [World.var?_cell hg hvar i]; simp) (by rw [h1]; rfl) (fun a ha => by simp at ha; subst ha; rfl) fun i a c ha hc => ?_
  rw [h1] at hc
  cases i with
  | succ i => cases ha
  | zero =>
   cases ha; cases hc
   have key := Rd.list (C := allC w) (w := w) false 1 (us.map fun s => [AVal.str s]) b off cap (fun i _ => .string (us.getD i ByteArray.empty)) (by simp) (by simp; omega) (fun e he => by obtain ⟨_, _, rfl⟩ := List.mem_map.1 he; rfl) ?_ ?_ ?_ ?_
   ·rw [List.length_map, ← hll] at key; exact key
   ·have := allC_cell (hcell (us.length - 1) (by omega))
    simp; omega
   ·intro i j hi hj
    have : j = 0 := by omega
    subst this
    rw [Nat.mul_one, Nat.add_zero]
    exact hcell i (by simpa using hi)
   ·intro i j e d he hd
    simp only [List.getElem?_map, Option.map_eq_some_iff] at he
    obtain ⟨s, _, rfl⟩ := he
    cases j with
    | zero => cases hd; rfl
    | succ j => cases hd
   ·intro i j e d he hd
    simp only [List.getElem?_map, Option.map_eq_some_iff] at he
    obtain ⟨s, hs, rfl⟩ := he
    cases j with
    | zero =>
     cases hd
     rw [List.getD_eq_getElem?_getD, hs]
     exact .str _
    | succ j => cases hd
omit [Draws] in
theorem flat_rows {m : Nat} : ∀ (rows : List (List Value)) (cs : List Value), cs.length = rows.length * m → (∀ i, i < rows.length → (cs.drop (i * m)).take m = rows.getD i []) → cs = rows.flatten
 | [], cs, h, _ => List.length_eq_zero_iff.1 (by simpa using h)
 | r :: rows, cs, h, hr => by
  have h0 := hr 0 (by simp)
  simp only [Nat.zero_mul, List.drop_zero, List.getD_cons_zero] at h0
  have ih := flat_rows (m := m) rows (cs.drop m) (by rw [List.length_drop, h, List.length_cons, Nat.succ_mul]; omega) fun i hi => by
   have := hr (i + 1) (by simp; omega)
   rw [List.drop_drop, show m + i * m = (i + 1) * m by rw [Nat.succ_mul]; omega, this]
   rfl
  rw [List.flatten_cons, ← ih, ← h0, List.take_append_drop]
theorem gl_bools {n : String} {g : Nat} {t e b : TypeId} {ss : List (List Bool)} {fs : Array Field} {k m : Nat} (hg : P.globalNamed n = some g) (hty : (P.globals[g]?).map (·.type) = some t) (ht : P.underlying t = some (.array k e)) (he : P.underlying e = some (.struct fs)) (hfs : fs.toList.length = m) (hfo : ∀ (j : Nat) (f : Field), fs.toList[j]? = some f → f.offset = j ∧ f.type = b) (hb : P.underlying b = some .bool)
  (hcb : P.cellsOf b = 1) (hce : P.cellsOf e = m) (hct : P.cellsOf t = k * m) (h : Lib.VarReads P w n (.agg (ss.map fun l => .agg (l.map fun b => .lit (.bool b))))) : Rd (allC w) w (.cptr (ss.flatten.map AVal.bool) 0) (.pointer (some ⟨g, 0, none⟩)) := by
 obtain ⟨g', t', cs, fuel, p, hg', ht', hvar, hd⟩ := h
 obtain rfl := Option.some.inj (hg.symm.trans hg')
 obtain rfl := Option.some.inj (hty.symm.trans ht')
 obtain ⟨xs, m1, _, hx, hl, hxl, hxs⟩ := DataW.trod_array ht hd
 have e1 := (Prod.mk.inj hx).1
 injection e1 with e1
 have hsl : ss.length = k := by have := congrArg List.length e1; simpa [hxl] using this
 have hcs : cs.toList = (ss.map fun l => l.map Value.bool).flatten := by
  refine flat_rows (m := m) _ _ (by rw [hl, hct, List.length_map, hsl]) fun i hi => ?_
  rw [List.length_map, hsl] at hi
  have h1 := hxs i hi
  rw [List.getElem?_eq_getElem (by omega), hce] at h1
  have hi' : i < ss.length := by omega
  have e2 : (xs[i]'(by omega)).1 = .agg (ss[i].map fun b => .lit (.bool b)) := by
   have := congrArg (·[i]?) e1
   simp only [List.getElem?_map, List.getElem?_eq_getElem hi', List.getElem?_eq_getElem (show i < xs.length by omega), Option.map_some, Option.some.injEq] at this
   exact this.symm
  obtain ⟨ys, m2, _, hy, hyl, hyn, hys⟩ := DataW.trod_struct he h1
  have hfz : fs.size = m := by simpa using hfs
  rw [hfz] at hyn
  rw [hy] at e2
  injection e2 with e2
  have hrl : ss[i].length = m := by have := congrArg List.length e2; simp [hyn] at this; omega
  rw [hce] at hyl
  have : (List.take m (List.drop (i * m) cs.toList)) = ss[i].map Value.bool := by
   apply List.ext_getElem?
   intro j
   by_cases hj : j < m
   ·have hfj : fs[j]? = some (fs[j]'(by omega)) := Array.getElem?_eq_getElem (by omega)
    have h2 := hys j _ hfj
    obtain ⟨f1, f2⟩ := hfo j _ (by rw [Array.getElem?_toList]; exact hfj)
    rw [f1, f2] at h2
    rw [List.getElem?_eq_getElem (by omega), hcb] at h2
    obtain ⟨b', hb1, hb2⟩ := DataW.trod_bool hb h2
    have e3 : (ys[j]'(by omega)).1 = .lit (.bool (ss[i][j]'(by omega))) := by
     have := congrArg (·[j]?) e2
     simp only [List.getElem?_map, List.getElem?_eq_getElem (show j < ss[i].length by omega), List.getElem?_eq_getElem (show j < ys.length by omega), Option.map_some, Option.some.injEq] at this
     exact this
    rw [hb2] at e3
    simp only [DataW.lit.injEq, Lit.bool.injEq] at e3
    have h3 : (List.take m (List.drop (i * m) cs.toList))[j]? = some (.bool b') := by
     have := congrArg (·[0]?) hb1
     rw [List.getElem?_take_of_lt (by omega), List.getElem?_drop] at this
     simpa using this
    rw [h3, e3, List.getElem?_map, List.getElem?_eq_getElem (show j < ss[i].length by omega)]
    rfl
   ·rw [List.getElem?_eq_none (by rw [hyl]; omega), List.getElem?_eq_none (by rw [List.length_map]; omega)]
  rw [this, List.getD_eq_getElem?_getD, List.getElem?_map, List.getElem?_eq_getElem hi']
  rfl
 have hfl : (ss.map fun l => l.map Value.bool).flatten = ss.flatten.map Value.bool := by rw [List.map_flatten]
 rw [hfl] at hcs
 refine rd_global (cs := cs.toList) (fun i => by rw [World.var?_cell hg hvar i]; simp) (by rw [hcs, List.length_map, List.length_map]) (fun a ha => by obtain ⟨_, _, rfl⟩ := List.mem_map.1 ha; rfl) fun i a c ha hc => ?_
 rw [hcs] at hc
 simp only [List.getElem?_map, Option.map_eq_some_iff] at ha hc
 obtain ⟨b1, g1, rfl⟩ := ha
 obtain ⟨b2, g2, rfl⟩ := hc
 rw [g1] at g2; cases g2
 exact .bool _
end
set_option maxRecDepth 100000 in
theorem lifted_of_laid {H : Type} {enc : TypeId × Value → H} {C : Checked} {os : Os} {f : FuncId} {fn : Func} {s : ChangeSpec} {F : Stop.Interp} {laid : List (String × DataW Unit)} {ob : List Nat} {af : AFunc} {n tb : Nat} {shs : List (Bool × List Sh)}
  (own : ownKnob C.prog.godebug = none) (started : os.Started) (noInit : C.prog.inits.idxOf? f = none) (hfn : C.prog.funcs[f]? = some fn)
  (witness : ∃ (w : World) (tape : Tape) (i : Input), w.os = os ∧ (w.forCall tape i).Shaped C.prog ∧ i.vars = [] ∧ Input.okWide C.prog (w.forCall tape i) .any w.heap.size f i ∧
   (OpenSpec.ofChange s).preRow enc C.prog fn [] false laid (w.forCall tape i).memory i.args ∧ ({} : Assume).holds C.prog (lone (Frame.enter C.prog f i.args .normal) [] (w.forCall tape i)))
  (laidO : laidOutB C.prog = true) (hread : (fn.params.toList.all fun t => C.prog.readableRec t && decide (t < C.prog.types.size)) = true)
  (hs : ∀ (ds : List (DataW H)), ds.length = fn.params.size → s.fn H ds = { results := [.lit (.bool true)], args := ds }) (hvars : s.vars = [])
  (hres : fn.resultTypes = #[tb]) (htb : C.prog.underlying tb = some .bool) (hsh : paramShs C.prog n fn.params.toList = some shs) (hhas : Has C.prog f ob af)
  (hlaw : ∀ ys, ArgsOk shs ys → ACalls C.prog f ys [] (fun r _ => r = .bool true))
  (hgl : ∀ W, laidMetH C.prog laid W → ∀ (g : Nat) (cs : List AVal), Draws.gl g = some cs → Rd (allC W) W (.cptr cs 0) (.pointer (some ⟨g, 0, none⟩))) :
  ReturnsInHanded {} C os f .any ((OpenSpec.ofChange s).preRow enc C.prog fn [] false laid) (((OpenSpec.ofChange s).at F).post enc C.prog fn false true false false) := by
 refine returnsInHanded_of_row (C := C) (s := OpenSpec.ofChange s) own started noInit hfn witness ?_
 intro W base args ds gs before hval hW _ _ _ hL _ _
 have hW' := hW
 obtain ⟨p, q, hA, hV, rfl, _, _⟩ := hW
 rw [show (OpenSpec.ofChange s).vars = [] from hvars] at hV
 obtain ⟨rfl, rfl⟩ := trodVars_none hV
 obtain ⟨ys, has, hlen, hrel⟩ := open_args (τ := fun _ => none) (n := n) fn.params.toList args.toList ds p shs hsh (fun j t v h1 h2 => hval j t v (by simpa using h1) (by simpa using h2)) hA
 obtain ⟨fn', c, hfn', hname, hbody, _⟩ := hhas
 have e : fn' = fn := Option.some.inj (hfn'.symm.trans hfn)
 subst e
 have hlds : ds.length = fn'.params.size := by
  have : ∀ (ts : List TypeId) (vs : List Value) (ds : List (DataW H)) (ps : List MemPlace), DataW.TrodAll enc C.prog W 0 (fun _ => true) true ts vs ds ps → ds.length = ts.length := by
   intro ts
   induction ts with
   | nil => intro vs ds ps h; obtain ⟨_, rfl, _⟩ := trodAll_nil h; rfl
   | cons t ts ih =>
    intro vs ds ps h
    obtain ⟨_, _, _, _, _, _, _, rfl, _, _, h2⟩ := trodAll_cons h
    simp [ih _ _ _ h2]
  simpa using this _ _ _ _ hA
 refine (calls_of_law hfn hname hbody (by simpa using hlen) (fun i a v h1 h2 => hrel i a v h1 (by simpa using h2)) (hlaw ys has) (hgl W hL)).mono fun e W' ⟨he, bel⟩ => ?_
 subst he
 have hs' : ((OpenSpec.ofChange s).at F).fn H ds = { results := [.lit (.bool true)], args := ds } := hs ds hlds
 refine ⟨_, rfl, ds, [], _, [], p, [], hW', ?_, ?_, ?_, bel.frame _, fun h => by cases h⟩
 ·rw [List.append_nil, hs', hres]
  exact trodAll_mk1 (shut_bool htb _)
 ·rw [List.append_nil, hs']
  refine trodAll_below laidO bel _ _ _ _ (fun t ht => ?_) hA
  have := List.all_eq_true.1 hread t ht
  simpa using this
 ·rw [List.append_nil, hs', show ((OpenSpec.ofChange s).at F).vars = [] from hvars]
  rfl
end Go.AW

