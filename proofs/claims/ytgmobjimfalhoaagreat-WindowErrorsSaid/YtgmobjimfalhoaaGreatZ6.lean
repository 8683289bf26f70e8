/-
  An abstract machine over the model, the code of functions on it, and their contracts: what the claim needs.
  No condition: definitions, plain laws, contracts over any program that has this code.
-/
import Derived.Test.YtgmobjimfalhoaaGreatZ5
set_option linter.all false
namespace Go.AW
variable [Draws]
open Go.RowKit
inductive Sh where
  | bool
  | int (k : IntKind)
  | str
  | slice (fs : List Sh)

def shapeFields (P : Program) (sh : TypeId → Option (List Sh)) : List Field → Nat → Option (List Sh)
  | [], _ => some []
  | f :: r, off => if f.offset = off then match sh f.type, shapeFields P sh r (off + P.cellsOf f.type) with
      | some a, some b => if a.length = P.cellsOf f.type then some (a ++ b) else none
      | _, _ => none
    else none

def shapeOf (P : Program) : Nat → TypeId → Option (List Sh)
  | 0, _ => none
  | n + 1, t => match P.underlying t with
    | some .bool => some [.bool]
    | some (.int k) => some [.int k]
    | some .string => some [.str]
    | some (.slice e) => match shapeOf P n e with
      | some l => if l.length = P.cellsOf e ∧ P.cellsOf e ≠ 0 then some [.slice l] else none
      | none => none
    | some (.struct fs) => match shapeFields P (shapeOf P n) fs.toList 0 with
      | some l => if l.length = P.cellsOf t then some l else none
      | none => none
    | _ => none

inductive ShOk : Sh → AVal → Prop where
  | bool (b : Bool) : ShOk .bool (.bool b)
  | int (k : IntKind) (n : Int) (h : (Lit.int k n).wf = true) : ShOk (.int k) (.int k n)
  | str (s : ByteArray) (h : s.size ≤ maxLen) : ShOk .str (.str s)
  | list (fs : List Sh) (es : List (List AVal)) (hb : es.length ≤ maxLen) (hl : ∀ e ∈ es, e.length = fs.length)
      (h : ∀ (e : List AVal) (i : Nat) (f : Sh) (d : AVal), e ∈ es → fs[i]? = some f → e[i]? = some d → ShOk f d) : ShOk (.slice fs) (.list false fs.length es)

def allC (w : World) (b : Nat) : Nat :=
  match w.heap[b]? with
  | some (.cells cells _ _) => cells.size
  | _ => 0

theorem allC_cell {w : World} {b i : Nat} {v : Value} (h : w.cell? ⟨b, i, none⟩ = some v) : i < allC w b := by
  unfold World.cell? at h
  unfold allC
  simp only [] at h
  split at h
  · rename_i hh
    rw [hh]
    simp only []
    exact (Array.getElem?_eq_some_iff.1 h).1
  · cases h

theorem ShOk.isCell {s : Sh} {a : AVal} (h : ShOk s a) : a.isCell = true := by cases h <;> rfl

section
variable {H : Type} {enc : TypeId × Value → H} {P : Program} {w : World} {spare : Nat → Bool} {held : Bool}
theorem cells?_get {a : Addr} {n : Nat} {cs : List Value} (h : w.cells? 0 a n = some cs) : cs.length = n ∧ ∀ i, i < n → w.cell? (a.add i) = cs[i]? := by
  unfold World.cells? at h
  rw [if_pos (Nat.zero_le _)] at h
  exact ⟨by simpa using Go.mapM_some_length h, fun i hi => Go.mapM_some_get h i i (by simp [hi])⟩

def RdAll (w : World) (shs : List Sh) (cs : List Value) : Prop :=
  ∃ asv : List AVal, asv.length = cs.length ∧ shs.length = cs.length ∧ (∀ (i : Nat) (s : Sh) (a : AVal), shs[i]? = some s → asv[i]? = some a → ShOk s a) ∧
    ∀ (i : Nat) (a : AVal) (c : Value), asv[i]? = some a → cs[i]? = some c → Rd (allC w) w a c

theorem RdAll.one {s : Sh} {a : AVal} {c : Value} (h : ShOk s a) (hr : Rd (allC w) w a c) : RdAll w [s] [c] := by
  refine ⟨[a], rfl, rfl, fun i s' a' h1 h2 => ?_, fun i a' c' h1 h2 => ?_⟩
  · cases i with
    | zero => simp at h1 h2; subst h1 h2; exact h
    | succ i => simp at h1
  · cases i with
    | zero => simp at h1 h2; subst h1 h2; exact hr
    | succ i => simp at h1

theorem RdAll.append {s1 s2 : List Sh} {c1 c2 : List Value} (h1 : RdAll w s1 c1) (h2 : RdAll w s2 c2) : RdAll w (s1 ++ s2) (c1 ++ c2) := by
  obtain ⟨a1, l1, m1, o1, r1⟩ := h1
  obtain ⟨a2, l2, m2, o2, r2⟩ := h2
  refine ⟨a1 ++ a2, by simp [l1, l2], by simp [m1, m2], fun i s a hs ha => ?_, fun i a c ha hc => ?_⟩
  · by_cases hi : i < c1.length
    · rw [List.getElem?_append_left (by omega)] at hs ha
      exact o1 i s a hs ha
    · rw [List.getElem?_append_right (by omega)] at hs ha
      rw [m1] at hs; rw [l1] at ha
      exact o2 _ s a hs ha
  · by_cases hi : i < c1.length
    · rw [List.getElem?_append_left (by omega)] at ha hc
      exact r1 i a c ha hc
    · rw [List.getElem?_append_right (by omega)] at ha hc
      rw [l1] at ha
      exact r2 _ a c ha hc

theorem RdAll.nil : RdAll w [] [] := ⟨[], rfl, rfl, fun i s a h => by simp at h, fun i a c h => by simp at h⟩

theorem open_fields {sh : TypeId → Option (List Sh)} (tr : Field → List Value → Prop) (htr : ∀ (f : Field) (cs : List Value) (l : List Sh), tr f cs → sh f.type = some l → RdAll w l cs) (cs : List Value) :
    ∀ (fs : List Field) (off : Nat) (l : List Sh), shapeFields P sh fs off = some l → (∀ f ∈ fs, tr f ((cs.drop f.offset).take (P.cellsOf f.type))) → off + l.length = cs.length → RdAll w l (cs.drop off)
  | [], off, l, h, _, hl => by
    simp only [shapeFields, Option.some.injEq] at h; subst h
    have : cs.drop off = [] := List.drop_eq_nil_of_le (by simp at hl; omega)
    rw [this]; exact .nil
  | f :: r, off, l, h, ht, hl => by
    simp only [shapeFields] at h
    split at h
    case isFalse => cases h
    rename_i ho
    split at h
    case h_2 => cases h
    rename_i a b h1 h2
    split at h
    case isFalse => cases h
    rename_i hlen
    cases h
    have hf := htr f _ _ (ht f (by simp)) h1
    have hr := open_fields tr htr cs r _ _ h2 (fun g hg => ht g (by simp [hg])) (by simp at hl; omega)
    rw [ho] at hf
    have := hf.append hr
    rwa [← List.drop_drop, List.take_append_drop] at this

theorem open_shape : ∀ (n : Nat) (fuel : Nat) (t : TypeId) (cs : List Value) (x : DataW H × List MemPlace) (l : List Sh), shapeOf P n t = some l → DataW.trod enc P w 0 spare held fuel t cs = some x → RdAll w l cs
  | 0, _, _, _, _, _, h, _ => by simp [shapeOf] at h
  | n + 1, fuel, t, cs, x, l, h, ht => by
    unfold shapeOf at h
    split at h
    · rename_i hu
      cases h
      cases fuel with
      | zero => simp [DataW.trod] at ht
      | succ m =>
        unfold DataW.trod at ht
        rw [hu] at ht
        split at ht <;> simp_all
        exact .one (.bool _) (.bool _)
    · rename_i k hu
      cases h
      cases fuel with
      | zero => simp [DataW.trod] at ht
      | succ m =>
        unfold DataW.trod at ht
        rw [hu] at ht
        split at ht <;> simp_all
        obtain ⟨⟨rfl, hw⟩, _⟩ := ht
        exact .one (.int _ _ hw) (.int _ _)
    · rename_i hu
      cases h
      cases fuel with
      | zero => simp [DataW.trod] at ht
      | succ m =>
        unfold DataW.trod at ht
        rw [hu] at ht
        split at ht <;> simp_all
        exact .one (.str _ ht.1) (.str _)
    · rename_i e hu
      split at h
      case h_2 => cases h
      rename_i fs hfs
      split at h
      case isFalse => cases h
      rename_i hlen'
      cases h
      have hlen := hlen'.1
      rcases DataW.trod_slice hu ht with ⟨rfl, _⟩ | ⟨a, len, cap, elems, rest, m, rfl, rfl, _, _, hl, hm, hel, hcell, _, _⟩
      · have hes : ShOk (.slice fs) (.list false fs.length []) := .list fs [] (Nat.zero_le _) (by simp) (by simp)
        exact .one hes (.list0 _ _ _ _ (by simp))
      · obtain ⟨b, off, spot⟩ := a
        have each : ∀ i, i < len → ∃ cells, w.cells? 0 ((Addr.mk b off spot).add (i * P.cellsOf e)) (P.cellsOf e) = some cells ∧ RdAll w fs cells := by
          intro i hi
          have h1 := hcell i hi
          rw [List.getElem?_eq_getElem (by omega), Option.bind_eq_some_iff] at h1
          obtain ⟨cells, h2, h3⟩ := h1
          exact ⟨cells, h2, open_shape n m e cells _ fs hfs h3⟩
        by_cases h0 : len = 0
        · subst h0
          have hes : ShOk (.slice fs) (.list false fs.length []) := .list fs [] (Nat.zero_le _) (by simp) (by simp)
          exact .one hes (.list0 _ _ _ _ (by simp))
        · by_cases hz : P.cellsOf e = 0
          · exact absurd hz hlen'.2
          · have hspot : spot = none := by
              obtain ⟨cells, h1, _⟩ := each 0 (by omega)
              obtain ⟨h2, h3⟩ := cells?_get h1
              have h4 := h3 0 (by omega)
              rw [List.getElem?_eq_getElem (by omega)] at h4
              have := World.cell?_spot h4
              simpa [Addr.add] using this
            subst hspot
            
            have hch : ∃ F : Nat → List AVal, ∀ i, i < len → (F i).length = fs.length ∧ (∀ (j : Nat) (s : Sh) (a : AVal), fs[j]? = some s → (F i)[j]? = some a → ShOk s a) ∧
                ∃ cells : List Value, cells.length = fs.length ∧ (∀ j, j < fs.length → w.cell? ⟨b, off + i * fs.length + j, none⟩ = cells[j]?) ∧ ∀ (j : Nat) (a : AVal) (c : Value), (F i)[j]? = some a → cells[j]? = some c → Rd (allC w) w a c := by
              refine ⟨fun i => if hi : i < len then Classical.choose (each i hi).choose_spec.2 else [], fun i hi => ?_⟩
              obtain ⟨h1, h2, h3, h4⟩ := Classical.choose_spec (each i hi).choose_spec.2
              have hc := (each i hi).choose_spec.1
              obtain ⟨h5, h6⟩ := cells?_get hc
              simp only [dif_pos hi]
              refine ⟨by omega, h3, (each i hi).choose, by omega, fun j hj => ?_, h4⟩
              rw [← h6 j (by omega)]
              rw [WideShapes.add_plain, WideShapes.add_plain, hlen]
            obtain ⟨F, hF⟩ := hch
            have hget : ∀ (i : Nat) (e' : List AVal), ((List.range len).map F)[i]? = some e' → i < len ∧ e' = F i := by
              intro i e' he
              by_cases hi : i < len
              · simp [hi] at he; exact ⟨hi, he.symm⟩
              · simp [hi] at he
            refine .one (a := .list false fs.length ((List.range len).map F)) (.list _ _ (by simp; omega) (fun e' he' => ?_) fun e' i f d he' hf hd => ?_) ?_
            · obtain ⟨i, hi, rfl⟩ := List.mem_map.1 he'
              exact (hF i (by simpa using hi)).1
            · obtain ⟨i', hi', rfl⟩ := List.mem_map.1 he'
              exact (hF i' (by simpa using hi')).2.1 i f d hf hd
            · have hcellv : ∀ i j, i < len → j < fs.length → ∃ v, w.cell? ⟨b, off + i * fs.length + j, none⟩ = some v := by
                intro i j hi hj
                obtain ⟨_, _, cells, h1, h2, _⟩ := hF i hi
                exact ⟨cells[j], by rw [h2 j hj, List.getElem?_eq_getElem (by omega)]⟩
              have := Rd.list (C := allC w) (w := w) false fs.length ((List.range len).map F) b off cap (fun i j => (w.cell? ⟨b, off + i * fs.length + j, none⟩).getD .nilIface) (by simp) (by simpa using hl)
                (fun e' he' => by obtain ⟨i, hi, rfl⟩ := List.mem_map.1 he'; exact (hF i (by simpa using hi)).1) ?_ ?_ ?_ ?_
              · simpa using this
              · obtain ⟨v, hv⟩ := hcellv (len - 1) (fs.length - 1) (by omega) (by omega)
                have h1 := allC_cell hv
                simp only [List.length_map, List.length_range]
                have h2 : len * fs.length = (len - 1) * fs.length + fs.length := by
                  rw [← Nat.succ_mul]; congr 1; omega
                omega
              · intro i j hi hj
                obtain ⟨v, hv⟩ := hcellv i j (by simpa using hi) hj
                rw [hv]; rfl
              · intro i j e' d he hd
                obtain ⟨hi, rfl⟩ := hget i e' he
                have hj : j < fs.length := by rw [← (hF i hi).1]; exact (List.getElem?_eq_some_iff.1 hd).1
                exact ((hF i hi).2.1 j _ d (List.getElem?_eq_getElem hj) hd).isCell
              · intro i j e' d he hd
                obtain ⟨hi, rfl⟩ := hget i e' he
                have hj : j < fs.length := by rw [← (hF i hi).1]; exact (List.getElem?_eq_some_iff.1 hd).1
                obtain ⟨_, _, cells, h1, h2, h3⟩ := hF i hi
                refine h3 j d _ hd ?_
                rw [← h2 j hj]
                obtain ⟨v, hv⟩ := hcellv i j hi hj
                rw [hv]; rfl
    · rename_i fs hu
      split at h
      case h_2 => cases h
      rename_i l' hl'
      split at h
      case isFalse => cases h
      rename_i hll
      cases h
      obtain ⟨xs, m, rfl, _, hlen, hxs, hf⟩ := DataW.trod_struct hu ht
      have := open_fields (P := P) (w := w) (sh := shapeOf P n) (fun f cs => ∃ y, DataW.trod enc P w 0 spare held m f.type cs = some y) (fun f cs l' ⟨y, hy⟩ hl => open_shape n m f.type cs y l' hl hy) cs fs.toList 0 _ hl' ?_ ?_
      · simpa using this
      · intro f hfm
        obtain ⟨i, hi, he⟩ := List.getElem_of_mem hfm
        have h1 := hf i f (by rw [← he]; simp)
        exact ⟨xs[i]'(by simp at hi; omega), by rw [h1]; exact List.getElem?_eq_getElem _⟩
      · omega
    · cases h

end
end Go.AW

namespace Go.AW
variable [Draws]
open Go.RowKit Go.ChangeShapes
def paramSh (P : Program) (n : Nat) (t : TypeId) : Option (Bool × List Sh) :=
  match P.underlying t with
  | some (.struct _) => (shapeOf P n t).map fun l => (true, l)
  | some (.array _ _) => none
  | _ => match shapeOf P n t with
    | some [s] => some (false, [s])
    | _ => none

def ArgOk : Bool × List Sh → AVal → Prop
  | (true, l), a => ∃ asv, a = .agg asv ∧ asv.length = l.length ∧ ∀ (i : Nat) (s : Sh) (c : AVal), l[i]? = some s → asv[i]? = some c → ShOk s c
  | (false, l), a => ∃ s, l = [s] ∧ ShOk s a

def ArgsOk : List (Bool × List Sh) → List AVal → Prop
  | [], [] => True
  | p :: ps, a :: asv => ArgOk p a ∧ ArgsOk ps asv
  | _, _ => False

def paramShs (P : Program) (n : Nat) : List TypeId → Option (List (Bool × List Sh))
  | [] => some []
  | t :: ts => match paramSh P n t, paramShs P n ts with
    | some p, some ps => some (p :: ps)
    | _, _ => none

section
variable {H : Type} {enc : TypeId × Value → H} {P : Program} {w : World} {τ : Nat → Option Loc}
theorem open_arg {n : Nat} {t : TypeId} {v : Value} {d : DataW H} {ps : List MemPlace} {p : Bool × List Sh} {base : Nat} (hp : paramSh P n t = some p) (hv : Value.okWide P w .any base t v)
    (h : DataW.Trod enc P w 0 (fun _ => true) true t v d ps) : ∃ a, ArgOk p a ∧ Rel (allC w) w τ [] a v := by
  obtain ⟨fuel, hf⟩ := h
  unfold paramSh at hp
  split at hp
  · rename_i fs hu
    simp only [Option.map_eq_some_iff] at hp
    obtain ⟨l, hl, rfl⟩ := hp
    obtain ⟨asv, h1, h2, h3, h4⟩ := open_shape n fuel t _ _ l hl hf
    unfold Value.okWide at hv
    rw [hu] at hv
    obtain ⟨cs, rfl, _⟩ := hv
    simp only [Value.cells] at h1 h2 h4
    exact ⟨.agg asv, ⟨asv, rfl, by omega, h3⟩, .agg asv cs (by simpa using h1) fun i c v hc hv => .rd (h4 i c v hc (by simpa using hv))⟩
  · cases hp
  · rename_i hns hna
    split at hp
    case h_2 => cases hp
    rename_i s hl
    cases hp
    obtain ⟨asv, h1, h2, h3, h4⟩ := open_shape n fuel t _ _ _ hl hf
    have hvc : v.cells.toList = [v] := by
      have : ∀ cs, v ≠ .agg cs := by
        rintro cs rfl
        unfold Value.okWide at hv
        split at hv
        · rename_i fs hu; exact hns fs hu
        · rename_i k e hu; exact hna k e hu
        · unfold Cell.okWide at hv
          split at hv <;> simp_all [Cell.ok]
      cases v <;> first | rfl | exact absurd rfl (this _)
    rw [hvc] at h1 h2 h4
    obtain ⟨a, rfl⟩ := List.length_eq_one_iff.1 h1
    exact ⟨a, ⟨s, rfl, h3 0 s a rfl rfl⟩, .rd (h4 0 a v rfl rfl)⟩

theorem open_args {n : Nat} {base : Nat} : ∀ (ts : List TypeId) (vs : List Value) (ds : List (DataW H)) (ps : List MemPlace) (shs : List (Bool × List Sh)), paramShs P n ts = some shs →
    (∀ (j : Nat) (t : TypeId) (v : Value), ts[j]? = some t → vs[j]? = some v → Value.okWide P w .any base t v) →
    DataW.TrodAll enc P w 0 (fun _ => true) true ts vs ds ps → ∃ asv, ArgsOk shs asv ∧ asv.length = vs.length ∧ ∀ (i : Nat) (a : AVal) (v : Value), asv[i]? = some a → vs[i]? = some v → Rel (allC w) w τ [] a v
  | [], vs, ds, ps, shs, hs, hv, h => by
    obtain ⟨rfl, rfl, rfl⟩ := trodAll_nil h
    simp only [paramShs, Option.some.injEq] at hs; subst hs
    exact ⟨[], trivial, rfl, fun i a v h => by simp at h⟩
  | t :: ts, vs, ds, ps, shs, hs, hv, h => by
    obtain ⟨v, vs', d, ds', p, q, rfl, rfl, rfl, h1, h2⟩ := trodAll_cons h
    simp only [paramShs] at hs
    split at hs
    case h_2 => cases hs
    rename_i sh shs' e1 e2
    cases hs
    obtain ⟨a, ha, hr⟩ := open_arg (τ := τ) e1 (hv 0 t v rfl rfl) h1
    obtain ⟨asv, has, hl, hrs⟩ := open_args ts vs' ds' q shs' e2 (fun j t' v' ht hv' => hv (j + 1) t' v' (by simpa using ht) (by simpa using hv')) h2
    refine ⟨a :: asv, ⟨ha, has⟩, by simp [hl], fun i a' v' h1 h2 => ?_⟩
    cases i with
    | zero => simp at h1 h2; subst h1 h2; exact hr
    | succ i => exact hrs i a' v' (by simpa using h1) (by simpa using h2)

theorem trodAll_below (hl : laidOutB P = true) {W W' : World} (hb : Below W.heap.size W W') : ∀ (ts : List TypeId) (vs : List Value) (ds : List (DataW H)) (ps : List MemPlace),
    (∀ t ∈ ts, P.readableRec t = true ∧ t < P.types.size) → DataW.TrodAll enc P W 0 (fun _ => true) true ts vs ds ps →
    DataW.TrodAll enc P W' 0 (fun b => decide (b < W.heap.size)) true ts vs ds ps
  | [], vs, ds, ps, _, h => by obtain ⟨rfl, rfl, rfl⟩ := trodAll_nil h; exact trodAll_mk0
  | t :: ts, vs, ds, ps, hr, h => by
    obtain ⟨v, vs', d, ds', p, q, rfl, rfl, rfl, h1, h2⟩ := trodAll_cons h
    have hlt : ∀ x ∈ p, x.block < W.heap.size := by obtain ⟨m, hm⟩ := h1; exact DataW.trod_lt m _ _ _ hm
    exact trodAll_cons_mk (Below.trod hl (hr t (by simp)).1 (hr t (by simp)).2 h1 hb hlt) (trodAll_below hl hb ts vs' ds' q (fun t' ht => hr t' (by simp [ht])) h2)

theorem calls_of_law {f : FuncId} {fn : Func} {c : Code} {args : Array Value} {asv : List AVal} (hfn : P.funcs[f]? = some fn) (hname : (fn.name == "runtime.NumGoroutine") = false) (hbody : fn.body = some c)
    (hlen : asv.length = args.size) (hrel : ∀ (i : Nat) (a : AVal) (v : Value), asv[i]? = some a → args[i]? = some v → Rel (allC w) w (fun _ => none) [] a v)
    (hlaw : ACalls P f asv [] (fun r _ => r = .bool true)) :
    Calls P f args w fun e w' => e = .returned (.bool true) ∧ Below w.heap.size w w' := by
  have hwf : WF (allC w) (fun _ => none) [] w := by
    refine ⟨fun id o h => by simp at h, fun id o h => by simp at h, fun id o l h => by simp at h, fun id l h => by simp at h, fun i j li lj h => by simp at h, fun b hb => ?_⟩
    unfold allC at hb
    split at hb
    · rename_i h
      exact lt_of_heap h
    · omega
  have h := hlaw (allC w) (fun _ => none) w args hwf hlen hrel
  have hcall : (callFunc f args).run P w = .ok (.enter f args) w := by
    simp only [callFunc, Sem.run_bind, run_program, Result.andThen_ok, hfn, hname, Bool.false_eq_true, if_false, hbody, Option.isNone_some, Sem.run_pure]
  unfold CallsX at h
  rw [hcall] at h
  refine Calls.mono h fun e w' => ?_
  rintro ⟨v, r, C', τ', H', rfl, rfl, hr, hst, hstep⟩
  refine ⟨?_, hst.fr.os, hst.fr.tape, hst.fr.output, hst.fr.size, fun k hk => hst.fr.prot k ⟨hk, ?_⟩⟩
  · cases hr with
    | rd hr => cases hr; rfl
  · rintro ⟨id, l, h1, _⟩
    exact absurd h1 (Nat.not_lt_zero _)

set_option maxRecDepth 100000 in

theorem lifted_of_law {C : Checked} {os : Os} {f : FuncId} {fn : Func} {s : ChangeSpec} {ob : List Nat} {af : AFunc} {n tb : Nat} {shs : List (Bool × List Sh)}
    (own : ownKnob C.prog.godebug = none) (started : os.Started) (noInit : C.prog.inits.idxOf? f = none) (hfn : C.prog.funcs[f]? = some fn)
    (witness : ∃ (w : World) (tape : Tape) (i : Input), w.os = os ∧ (w.forCall tape i).Shaped C.prog ∧ i.vars = [] ∧ Input.okWide C.prog (w.forCall tape i) .any w.heap.size f i ∧
      s.pre6 enc C.prog fn [] false (w.forCall tape i).memory i.args ∧ ({} : Assume).holds C.prog (lone (Frame.enter C.prog f i.args .normal) [] (w.forCall tape i)))
    (laid : laidOutB C.prog = true) (hread : (fn.params.toList.all fun t => C.prog.readableRec t && decide (t < C.prog.types.size)) = true)
    (hs : ∀ (ds : List (DataW H)), ds.length = fn.params.size → s.fn H ds = { results := [.lit (.bool true)], args := ds }) (hvars : s.vars = [])
    (hres : fn.resultTypes = #[tb]) (htb : C.prog.underlying tb = some .bool) (hsh : paramShs C.prog n fn.params.toList = some shs) (hhas : Has C.prog f ob af)
    (hlaw : ∀ asv, ArgsOk shs asv → ACalls C.prog f asv [] (fun r _ => r = .bool true)) :
    ReturnsInHanded {} C os f .any (s.pre6 enc C.prog fn [] false) (s.post enc C.prog fn false true false false) := by
  refine returnsInHanded_of_change (C := C) own started noInit hfn witness ?_
  intro W base args ds gs before hval hW _ _
  have hW' := hW
  obtain ⟨p, q, hA, hV, rfl, _, _⟩ := hW
  rw [hvars] at hV
  obtain ⟨rfl, rfl⟩ := trodVars_none hV
  obtain ⟨asv, has, hlen, hrel⟩ := open_args (τ := fun _ => none) (n := n) fn.params.toList args.toList ds p shs hsh (fun j t v h1 h2 => hval j t v (by simpa using h1) (by simpa using h2)) hA
  obtain ⟨fn', c, hfn', hname, hbody, _⟩ := hhas
  have e : fn' = fn := Option.some.inj (hfn'.symm.trans hfn)
  subst e
  have hlds : ds.length = fn'.params.size := by
    have : ∀ (ts : List TypeId) (vs : List Value) (ds : List (DataW H)) (ps : List MemPlace), DataW.TrodAll enc C.prog W 0 (fun _ => true) true ts vs ds ps → ds.length = ts.length := by
      intro ts
      induction ts with
      | nil => intro vs ds ps h; obtain ⟨_, rfl, _⟩ := trodAll_nil h; rfl
      | cons t ts ih =>
        intro vs ds ps h
        obtain ⟨_, _, _, _, _, _, _, rfl, _, _, h2⟩ := trodAll_cons h
        simp [ih _ _ _ h2]
    simpa using this _ _ _ _ hA
  refine (calls_of_law hfn hname hbody (by simpa using hlen) (fun i a v h1 h2 => hrel i a v h1 (by simpa using h2)) (hlaw asv has)).mono fun e W' ⟨he, bel⟩ => ?_
  subst he
  refine ⟨_, rfl, ds, [], _, [], p, [], hW', ?_, ?_, ?_, bel.frame _, fun h => by cases h⟩
  · rw [List.append_nil, hs ds hlds, hres]
    exact trodAll_mk1 (shut_bool htb _)
  · rw [List.append_nil, hs ds hlds]
    refine trodAll_below laid bel _ _ _ _ (fun t ht => ?_) hA
    have := List.all_eq_true.1 hread t ht
    simpa using this
  · rw [List.append_nil, hs ds hlds, hvars]
    rfl

end
theorem argsOk_cons {p : Bool × List Sh} {ps : List (Bool × List Sh)} {asv : List AVal} (h : ArgsOk (p :: ps) asv) : ∃ a as', asv = a :: as' ∧ ArgOk p a ∧ ArgsOk ps as' := by
  cases asv with
  | nil => exact h.elim
  | cons a asv => exact ⟨a, asv, rfl, h.1, h.2⟩

theorem argsOk_nil {asv : List AVal} (h : ArgsOk [] asv) : asv = [] := by
  cases asv with
  | nil => rfl
  | cons a asv => exact h.elim

theorem argOk_int {k : IntKind} {a : AVal} (h : ArgOk (false, [.int k]) a) : ∃ n, a = .int k n ∧ (Lit.int k n).wf = true := by
  obtain ⟨s, h1, h2⟩ := h
  cases h1
  cases h2 with
  | int _ n h => exact ⟨n, rfl, h⟩

def CellsOk : List Sh → List AVal → Prop
  | [], [] => True
  | s :: ss, a :: asv => ShOk s a ∧ CellsOk ss asv
  | _, _ => False

theorem cellsOk_of : ∀ (l : List Sh) (asv : List AVal), asv.length = l.length → (∀ (i : Nat) (s : Sh) (c : AVal), l[i]? = some s → asv[i]? = some c → ShOk s c) → CellsOk l asv
  | [], [], _, _ => trivial
  | s :: l, a :: asv, hl, h => ⟨h 0 s a rfl rfl, cellsOk_of l asv (by simpa using hl) fun i s c h1 h2 => h (i + 1) s c (by simpa using h1) (by simpa using h2)⟩
  | [], _ :: _, hl, _ => by simp at hl
  | _ :: _, [], hl, _ => by simp at hl

theorem shOk_slice {fs : List Sh} {a : AVal} (h : ShOk (.slice fs) a) : ∃ es, a = .list false fs.length es ∧ es.length ≤ maxLen ∧ ∀ e ∈ es, CellsOk fs e := by
  cases h with
  | list _ es hb hl h => exact ⟨es, rfl, hb, fun e he => cellsOk_of _ _ (hl e he) fun i s c h1 h2 => h e i s c he h1 h2⟩

theorem argOk_slice {fs : List Sh} {a : AVal} (h : ArgOk (false, [.slice fs]) a) : ∃ es, a = .list false fs.length es ∧ es.length ≤ maxLen ∧ ∀ e ∈ es, CellsOk fs e := by
  obtain ⟨s, h1, h2⟩ := h
  cases h1
  exact shOk_slice h2

theorem list_image {α β : Type} {g : α → β} {W : α → Prop} : ∀ (l : List β), (∀ x ∈ l, ∃ a, x = g a ∧ W a) → ∃ m : List α, l = m.map g ∧ ∀ a ∈ m, W a
  | [], _ => ⟨[], rfl, by simp⟩
  | x :: l, h => by
    obtain ⟨a, rfl, ha⟩ := h x (by simp)
    obtain ⟨m, rfl, hm⟩ := list_image l fun y hy => h y (by simp [hy])
    exact ⟨a :: m, rfl, fun b hb => by rcases List.mem_cons.1 hb with rfl | hb; exact ha; exact hm b hb⟩

theorem cellsOk_int {k : IntKind} {e : List AVal} (h : CellsOk [.int k] e) : ∃ n, e = [.int k n] ∧ (Lit.int k n).wf = true := by
  match e, h with
  | [a], h =>
    obtain ⟨h1, _⟩ := h
    cases h1
    rename_i n hn
    exact ⟨n, rfl, hn⟩

theorem argOk_ints {k : IntKind} {a : AVal} (h : ArgOk (false, [.slice [.int k]]) a) : ∃ l : List Int, a = .list false 1 (l.map fun n => [.int k n]) ∧ l.length ≤ maxLen ∧ ∀ n ∈ l, (Lit.int k n).wf = true := by
  obtain ⟨es, rfl, hl, h⟩ := argOk_slice h
  obtain ⟨m, rfl, hm⟩ := list_image (g := fun n => [AVal.int k n]) (W := fun n => (Lit.int k n).wf = true) es fun e he => cellsOk_int (h e he)
  exact ⟨m, rfl, by simpa using hl, hm⟩

end Go.AW

namespace Go.AW
variable [Draws]
attribute [local irreducible] ACalls
structure V where
  kind : Int
  num : Int
  str : ByteArray

def valC (v : V) : List AVal := [.int .i64 v.kind, .int .i64 v.num, .str v.str]

def validB (v : V) : Bool :=
  if v.kind = 0 then v.num == 0 && v.str.data.toList == []
  else if v.kind = 1 then (v.num == 0 || v.num == 1) && v.str.data.toList == []
  else if v.kind = 2 then decide (-1073741824 ≤ v.num) && decide (v.num ≤ 1073741824) && v.str.data.toList == []
  else if v.kind = 3 then v.num == 0 && decide (v.str.size ≤ 64)
  else if v.kind = 4 then decide (0 ≤ v.num) && decide (v.num ≤ 575999999) && v.str.data.toList == []
  else false

set_option maxRecDepth 20000 in
theorem value_Valid_spec {P : Program} (F : F_value_Valid P) (v : V) (H : List AObj) :
    ACalls P F.id [.agg (valC v)] H (fun r H' => r = .bool (validB v) ∧ H' = H) := by
  refine ACalls.pure rfl (acalls_of_body F.has ?_)
  repeat' ((conv => whnf); refine recA (fun _ => ?_) (fun _ => ?_))
  all_goals (conv => whnf)
  all_goals refine pubB ?_
  all_goals (simp_all [validB, bs_nil]; try omega)

set_option maxRecDepth 20000 in
theorem ref1_Valid_spec {P : Program} (F : F_warehouseref1_Valid P) (v : V) (H : List AObj) :
    ACalls P F.id [.agg (valC v)] H (fun r H' => r = .bool (validB v) ∧ H' = H) := by
  refine ACalls.pure rfl (acalls_of_body F.has ?_)
  repeat' ((conv => whnf); refine recA (fun _ => ?_) (fun _ => ?_))
  all_goals (conv => whnf)
  all_goals refine pubB ?_
  all_goals (simp_all [validB, bs_nil]; try omega)

def cmpI (a b : Int) : Int := if a < b then -1 else if b < a then 1 else 0

def cmpS (a b : List UInt8) : Int := if Op.bytesLess a b then -1 else if a = b then 0 else 1

theorem isNaN_int_spec {P : Program} (F : F_cmp_isNaN_int P) (a : Int) (H : List AObj) :
    ACalls P F.id [.int .i64 a] H (fun r H' => r = .bool false ∧ H' = H) := by
  refine ACalls.pure rfl (acalls_of_body F.has ?_)
  conv => whnf
  exact pubB (by simp)

theorem isNaN_string_spec {P : Program} (F : F_cmp_isNaN_string P) (a : ByteArray) (H : List AObj) :
    ACalls P F.id [.str a] H (fun r H' => r = .bool false ∧ H' = H) := by
  refine ACalls.pure rfl (acalls_of_body F.has ?_)
  conv => whnf
  exact pubB (by simp)

theorem cmpCompare_int_spec {P : Program} (F : F_cmp_Compare_int P) (a b : Int) (H : List AObj) :
    ACalls P F.id [.int .i64 a, .int .i64 b] H (fun r H' => r = .int .i64 (cmpI a b) ∧ H' = H) := by
  refine ACalls.pure rfl (acalls_of_body F.has ?_)
  conv => whnf
  refine (isNaN_int_spec F.cmp_isNaN_int _ _).use ?_
  conv => whnf
  refine (isNaN_int_spec F.cmp_isNaN_int _ _).use ?_
  repeat' ((conv => whnf); refine recA (fun _ => ?_) (fun _ => ?_))
  all_goals (conv => whnf)
  all_goals refine pubI ?_
  all_goals (simp_all [cmpI]; try omega)

theorem cmpCompare_string_spec {P : Program} (F : F_cmp_Compare_string P) (a b : ByteArray) (H : List AObj) :
    ACalls P F.id [.str a, .str b] H (fun r H' => r = .int .i64 (cmpS a.data.toList b.data.toList) ∧ H' = H) := by
  refine ACalls.pure rfl (acalls_of_body F.has ?_)
  conv => whnf
  refine (isNaN_string_spec F.cmp_isNaN_string _ _).use ?_
  conv => whnf
  refine (isNaN_string_spec F.cmp_isNaN_string _ _).use ?_
  repeat' ((conv => whnf); refine recA (fun _ => ?_) (fun _ => ?_))
  all_goals (conv => whnf)
  all_goals refine pubI ?_
  all_goals (simp_all [cmpS])

def orI : List Int → Int
  | [] => 0
  | x :: xs => if x = 0 then orI xs else x

def valCmp (a b : V) : Int := orI [cmpI a.kind b.kind, cmpI a.num b.num, cmpS a.str.data.toList b.str.data.toList]

theorem orI_drop (l : List Int) (k : Nat) (h : ∀ j, j < k → l.getD j 0 = 0) : orI l = orI (l.drop k) := by
  induction k generalizing l with
  | zero => rfl
  | succ k ih =>
    cases l with
    | nil => rfl
    | cons x xs =>
      have h0 := h 0 (by omega)
      simp at h0
      subst h0
      simp only [orI, if_true, List.drop_succ_cons]
      exact ih xs fun j hj => by have := h (j + 1) (by omega); simpa using this

theorem getElem?_getD {l : List Int} {k : Nat} (h : k < l.length) : l[k]? = some (l.getD k 0) := by
  rw [List.getD_eq_getElem?_getD, List.getElem?_eq_getElem h]; rfl

theorem orI_at (l : List Int) (k : Nat) (h : ∀ j, j < k → l.getD j 0 = 0) (hk : k < l.length) (hne : l.getD k 0 ≠ 0) : orI l = l.getD k 0 := by
  rw [orI_drop l k h, List.drop_eq_getElem_cons hk]
  rw [List.getD_eq_getElem?_getD, List.getElem?_eq_getElem hk] at hne ⊢
  simp only [Option.getD_some] at hne ⊢
  simp [orI, hne]

theorem orI_all (l : List Int) (h : ∀ j, j < l.length → l.getD j 0 = 0) : orI l = 0 := by
  rw [orI_drop l l.length h, List.drop_length]; rfl

set_option maxRecDepth 20000 in
theorem cmpOr_spec {P : Program} (F : F_cmp_Or_int P) (l : List Int) (hl : l.length ≤ 1000000) (H : List AObj) :
    ACalls P F.id [.list true 1 (l.map fun x => [.int .i64 x])] H (fun r H' => r = .int .i64 (orI l) ∧ H' = H) := by
  refine ACalls.pure rfl (acalls_of_body F.has ?_)
  conv => whnf
  refine ⟨fun n ρ H => ∃ k : Nat, k + n = l.length ∧ (∀ j, j < k → l.getD j 0 = 0) ∧ H = [] ∧
    Sv 18 [(0, .list true 1 (l.map fun x => [.int .i64 x])), (2, .int .i64 0), (3, .int .i64 0), (6, .list true 1 (l.map fun x => [.int .i64 x])), (7, .int .i64 (l.map fun x => [AVal.int .i64 x]).length), (8, .int .i64 k)] ρ, l.length, [], ⟨0, by simp, by simp, rfl, Sv.intro rfl ⟨rfl, rfl, rfl, rfl, rfl, rfl, trivial⟩⟩, ?_⟩
  rintro n ρ H ⟨k, hk, hz, rfl, d, rfl⟩
  conv => whnf
  refine recA (fun hlt => ?_) (fun hlt => ?_)
  · simp at hlt
    conv => whnf
    refine ⟨by omega, ?_⟩
    conv => whnf
    refine recO (e := [AVal.int .i64 (l.getD k 0)]) ?_ ?_
    · rw [List.getElem?_map, getElem?_getD (by omega)]; rfl
    (conv => whnf); refine recA (fun hne => ?_) (fun hne => ?_)
    · conv => whnf
      refine pubI ?_
      rw [orI_at l k hz (by omega) (by simpa using hne)]
    · conv => whnf
      have e := wrapI ((k : Int) + 1) (by omega) (by omega)
      refine ⟨n - 1, by omega, Gp.keep rfl ?_ fun ρ1 h => ⟨k + 1, by omega, fun j hj => ?_, rfl, h⟩⟩
      · exact ⟨rfl, rfl, rfl, rfl, rfl, intEq e, trivial⟩
      rcases Nat.lt_succ_iff_lt_or_eq.1 hj with h | rfl
      · exact hz j h
      · simpa using hne
  · conv => whnf
    refine pubI ?_
    simp at hlt
    rw [orI_all l fun j hj => hz j (by omega)]

theorem numbers_spec {P : Program} (F : F_warehouseref1_numbers P) (a b : Int) (H : List AObj) :
    ACalls P F.id [.int .i64 a, .int .i64 b] H (fun r H' => r = .int .i64 (cmpI a b) ∧ H' = H) := by
  refine ACalls.pure rfl (acalls_of_body F.has ?_)
  repeat' ((conv => whnf); refine recA (fun _ => ?_) (fun _ => ?_))
  all_goals (conv => whnf)
  all_goals refine pubI ?_
  all_goals (simp_all [cmpI]; try omega)

set_option maxRecDepth 20000 in
theorem value_Compare_spec {P : Program} (F : F_value_Compare P) (a b : V) (H : List AObj) :
    ACalls P F.id [.agg (valC a), .agg (valC b)] H (fun r H' => r = .int .i64 (valCmp a b) ∧ H' = H) := by
  refine ACalls.pure rfl (acalls_of_body F.has ?_)
  conv => whnf
  refine ⟨_, cmpCompare_int_spec F.cmp_Compare_int a.kind b.kind _, ?_⟩
  conv => whnf
  refine ⟨_, cmpCompare_int_spec F.cmp_Compare_int a.num b.num _, ?_⟩
  conv => whnf
  refine ⟨_, cmpCompare_string_spec F.cmp_Compare_string a.str b.str _, ?_⟩
  conv => whnf
  refine ⟨_, cmpOr_spec F.cmp_Or_int [_, _, _] (by simp) _, ?_⟩
  conv => whnf
  exact pubI rfl

set_option maxRecDepth 20000 in
theorem ref1_Compare_spec {P : Program} (F : F_warehouseref1_Compare P) (a b : V) (H : List AObj) :
    ACalls P F.id [.agg (valC a), .agg (valC b)] H (fun r H' => r = .int .i64 (valCmp a b) ∧ H' = H) := by
  refine ACalls.pure rfl (acalls_of_body F.has ?_)
  repeat' ((conv => whnf); first | refine recA (fun _ => ?_) (fun _ => ?_) | refine ACalls.use (numbers_spec F.warehouseref1_numbers _ _ _) ?_)
  all_goals (conv => whnf)
  all_goals refine pubI ?_
  all_goals simp_all [valCmp, orI, cmpS]

end Go.AW

namespace Go.AW
variable [Draws]
attribute [local irreducible] ACalls
def bC (l : List Int) : List (List AVal) := l.map fun n => [.int .u8 n]

def u8 (n : Int) : Int := IntKind.u8.wrap n

def w4 (n : Int) : List Int := [u8 (n.fdiv (2 ^ 24)), u8 (n.fdiv (2 ^ 16)), u8 (n.fdiv (2 ^ 8)), u8 n]

theorem bC_append (a b : List Int) : bC (a ++ b) = bC a ++ bC b := List.map_append

theorem bC_length (l : List Int) : (bC l).length = l.length := List.length_map ..

theorem roomB_le {n : Nat} (h : n ≤ 1000000000) : n ≤ roomB := Nat.le_trans h (by show _ ≤ 1099511627776; omega)

theorem roomB_le1 {n : Nat} (h : n ≤ 1000000000) : n * 1 ≤ roomB := roomB_le (by omega)

theorem ACalls.retH {P : Program} {f : FuncId} {args : List AVal} {H H1 : List AObj} {R : AVal} {Q : AVal → List AObj → Prop} (h : ACalls P f args H (fun r H' => r = R ∧ H' = H1)) (hq : Q R H1) : ACalls P f args H Q :=
  h.mono fun r H' ⟨h1, h2⟩ => by subst h1 h2; exact hq

set_option maxRecDepth 20000 in
theorem word_spec {P : Program} (F : F_value_word P) (H : List AObj) (id : Nat) (es : List (List AVal)) (n : Int) (ho : H[id]? = some (.arr 1 es)) (hl : es.length ≤ 1000000) :
    ACalls P F.id [.sl id es.length 0 es.length, .int .i64 n] H (fun r H' => r = .sl id (es ++ bC (w4 n)).length 0 (es ++ bC (w4 n)).length ∧ H' = H.set id (.arr 1 (es ++ bC (w4 n)))) := by
  refine acalls_of_body F.has ?_
  repeat' ((conv => whnf); first | refine And.intro (by decide) ?_ | refine recO ho ?_ | refine recT (Nat.beq_refl _) ?_)
  conv => whnf
  refine And.intro ⟨?_, ?_, rfl, rfl⟩ ?_
  · exact roomB_le1 (by simp; omega)
  · exact roomB_le (by simp; omega)
  rw [setO_eq]
  conv => whnf
  exact ⟨rfl, rfl⟩

def bytesI (s : ByteArray) : List Int := s.data.toList.map fun b => (b.toNat : Int)

def encV (v : V) : List Int :=
  u8 v.kind :: (if v.kind = 1 then [u8 v.num] else if v.kind = 2 then w4 (IntKind.i64.wrap (v.num + 1073741824)) else if v.kind = 4 then w4 v.num else if v.kind = 3 then u8 v.str.size :: bytesI v.str else [])

def encK (rs : List V) (k : Nat) : List Int := u8 rs.length :: (rs.take k).flatMap encV

def encB (rs : List V) : List Int := u8 rs.length :: rs.flatMap encV

def encR (rs : List V) : AVal :=
  if 12 < rs.length then .tuple [.nil, .int .i64 2] else if rs.all validB then .tuple [.list false 1 (bC (encB rs)), .int .i64 0] else .tuple [.nil, .int .i64 8]

theorem encV_len (v : V) (h : validB v = true) : (encV v).length ≤ 66 := by
  unfold encV validB at *
  split <;> (try split) <;> (try split) <;> (try split) <;> simp_all [w4, bytesI]

theorem valid_str (v : V) (h : validB v = true) : (byteCells v.str.data.toList).length ≤ 64 := by
  simp only [byteCells, List.length_map]
  unfold validB at h
  split at h <;> (try split at h) <;> (try split at h) <;> (try split at h) <;> (try split at h) <;> simp_all

theorem encK_len (rs : List V) (k : Nat) (h : (rs.take k).all validB = true) : (encK rs k).length ≤ 1 + 66 * k := by
  simp only [encK, List.length_cons]
  have : ∀ l : List V, l.all validB = true → (l.flatMap encV).length ≤ 66 * l.length := by
    intro l hl
    induction l with
    | nil => simp
    | cons v l ih =>
      simp only [List.all_cons, Bool.and_eq_true] at hl
      have := encV_len v hl.1
      have := ih hl.2
      simp only [List.flatMap_cons, List.length_append, List.length_cons]; omega
  have := this _ h
  have h2 : (rs.take k).length ≤ k := List.length_take_le ..
  have h3 : 66 * (rs.take k).length ≤ 66 * k := Nat.mul_le_mul_left _ h2
  omega

theorem pureEs_bC (l : List Int) : pureEs (bC l) = true := by simp [pureEs, bC, AVal.isPure]

theorem pub_int {H1 : List AObj} {n : Nat} {ids : List Nat} {k : IntKind} {a b : Int} (h : a = b) : Pub H1 n ids (.int k a) (.int k b) := by subst h; exact .closed _ rfl

theorem pub2 {H1 : List AObj} {n : Nat} {ids : List Nat} {a b r s : AVal} (h1 : Pub H1 n ids a r) (h2 : Pub H1 n ids b s) : Pub H1 n ids (.tuple [a, b]) (.tuple [r, s]) := by
  refine .tuple _ _ rfl fun i v t h3 h4 => ?_
  rcases i with _ | _ | i
  · cases h3; cases h4; exact h1
  · cases h3; cases h4; exact h2
  · simp at h3

theorem ObP.of_eq {H : List AObj} {ids : List Nat} {esz : Nat} {es es1 : List (List AVal)} (he : es = es1) (h : pureEs es1 = true) : ObP H ids (.arr esz es) (.arr esz es1) := by subst he; exact .same _ _ h

theorem pubF {H1 : List AObj} {n : Nat} {id ep len sz : Nat} {es : List (List AVal)} (ho : H1[id]? = some (.arr sz es)) (he : ep = es.length) (hl : len = es.length) (hp : pureEs es = true) : Pub H1 n [] (.sl id ep 0 len) (.list false sz es) := by
  subst hl he
  have := Pub.frz (n := n) (ids := []) id es.length 0 es.length sz es ho rfl hp (by simp)
  rwa [List.drop_zero, List.take_length] at this

def encS (ex : Bool) (rs : List V) (k : Nat) : List (Nat × AVal) := [(4, .sl 0 (bC (encK rs k)).length 0 (bC (encK rs k)).length), (14, .list ex 3 (rs.map valC)), (15, .int .i64 (rs.map valC).length), (16, .int .i64 k)]

set_option maxRecDepth 20000 in
theorem encode_list {P : Program} (F : F_value_Encode P) (ex : Bool) (rs : List V) (H : List AObj) :
    ACalls P F.id [.list ex 3 (rs.map valC)] H (fun r H' => r = encR rs ∧ H' = H) := by
  refine ACalls.pure rfl (acalls_of_body F.has ?_)
  (conv => whnf); refine recA (fun hlt => ?_) (fun hlt => ?_)
  · conv => whnf
    simp at hlt
    rw [show encR rs = .tuple [.nil, .int .i64 2] from if_pos (by omega)]
    exact pub2 (.closed _ rfl) (.closed _ rfl)
  conv => whnf
  simp at hlt
  refine ⟨fun n ρ H => ∃ k : Nat, k + n = rs.length ∧ (rs.take k).all validB = true ∧ H = [.arr 1 (bC (encK rs k))] ∧
    Sv 67 (encS ex rs k) ρ, rs.length, [], ⟨0, by simp, by simp, ?_, ?_⟩, ?_⟩
  · simp [encK, bC, u8]
  · exact Sv.intro rfl ⟨rfl, rfl, rfl, rfl, trivial⟩
  rintro n ρ H ⟨k, hk, hz, rfl, d, rfl⟩
  conv => whnf
  refine recA (fun hlt2 => ?_) (fun hlt2 => ?_)
  · simp at hlt2
    conv => whnf
    refine ⟨by omega, ?_⟩
    conv => whnf
    refine recO (e := valC rs[k]) ?_ ?_
    · rw [List.getElem?_map, List.getElem?_eq_getElem (by omega)]; rfl
    conv => whnf
    have hb : (bC (encK rs k)).length ≤ 1000 := by rw [bC_length]; exact Nat.le_trans (encK_len rs k hz) (by omega)
    have hsnoc : rs.take (k + 1) = rs.take k ++ [rs[k]] := by rw [List.take_add_one, List.getElem?_eq_getElem (by omega)]; rfl
    have hmem : rs[k] ∈ rs := List.getElem_mem _
    generalize rs[k] = v at hsnoc hmem ⊢
    refine (value_Valid_spec F.value_Valid v _).use ?_
    (conv => whnf); refine recA (fun hv => ?_) (fun hv => ?_)
    · conv => whnf
      have hall : rs.all validB = false := by
        apply Bool.eq_false_iff.2
        intro hall
        rw [List.all_eq_true.1 hall v hmem] at hv
        cases hv
      rw [show encR rs = .tuple [.nil, .int .i64 8] by unfold encR; rw [if_neg (by omega), hall]; rfl]
      exact pub2 (.closed _ rfl) (.closed _ rfl)
    have hz2 : (rs.take (k + 1)).all validB = true := by rw [hsnoc]; simp at hv; simp [hz, hv]
    have hsz : (byteCells v.str.data.toList).length ≤ 64 := valid_str v (by simpa using hv)
    have hkey : bC (encK rs (k + 1)) = bC (encK rs k) ++ bC (encV v) := by rw [← bC_append]; congr 1; simp [encK, hsnoc]
    have e1 := wrapI ((k : Int) + 1) (by omega) (by omega)
    repeat' ((conv => whnf); first
      | refine recT (Nat.beq_refl _) ?_
      | refine And.intro ⟨roomB_le1 (by simp; omega), roomB_le (by simp; omega), rfl, rfl⟩ ?_
      | refine recA (fun _ => ?_) (fun _ => ?_)
      | refine ACalls.retH (word_spec F.value_word _ _ _ _ (by rfl) (by simp; omega)) ?_)
    all_goals (conv => whnf)
    all_goals refine ⟨n - 1, by omega, Gp.one 0 1 (bC (encK rs (k + 1))) ?_ (pureEs_bC _) rfl ?_ fun ρ1 h => ⟨k + 1, by omega, hz2, rfl, h⟩⟩
    all_goals try (refine ⟨pubSl (k := 0) rfl rfl ?_ ?_, .closed _ rfl, .closed _ rfl, pub_int e1, trivial⟩)
    all_goals (rw [hkey]; simp_all [encV, bC, u8, w4, bytesI, byteCells])
  · conv => whnf
    simp at hlt2
    have e : rs.take k = rs := List.take_of_length_le hlt2
    rw [e] at hz
    have e2 : encK rs k = encB rs := by simp [encK, encB, e]
    rw [show encR rs = .tuple [.list false 1 (bC (encB rs)), .int .i64 0] by unfold encR; rw [if_neg (by omega), hz]; rfl, e2]
    have := Pub.frz (H1 := [.arr 1 (bC (encB rs))]) (n := 0) (ids := []) 0 (bC (encB rs)).length 0 (bC (encB rs)).length 1 (bC (encB rs)) rfl rfl (pureEs_bC _) (by simp)
    rw [List.drop_zero, List.take_length] at this
    exact pub2 this (.closed _ rfl)

end Go.AW

namespace Go.AW
variable [Draws]
attribute [local irreducible] ACalls
def and64 (a b : Int) : Int := IntKind.i64.wrap (BitVec.ofInt IntKind.i64.bits a &&& BitVec.ofInt IntKind.i64.bits b).toNat

theorem and64_mask (a : Int) (k : Nat) (hk : k ≤ 62) : and64 a (2 ^ k - 1) = a % 2 ^ k := by
  have h1 : BitVec.ofInt 64 ((2 : Int) ^ k - 1) = BitVec.ofNat 64 (2 ^ k - 1) := by
    have h2 : 1 ≤ 2 ^ k := Nat.one_le_two_pow
    rw [show ((2 : Int) ^ k - 1) = ((2 ^ k - 1 : Nat) : Int) by rw [Int.ofNat_sub h2]; simp, BitVec.ofInt_natCast]
  have h3 : (2 : Nat) ^ k ≤ 2 ^ 62 := Nat.pow_le_pow_right (by omega) hk
  have h4 : 1 ≤ 2 ^ k := Nat.one_le_two_pow
  show IntKind.i64.wrap ((BitVec.ofInt 64 a &&& BitVec.ofInt 64 (2 ^ k - 1)).toNat : Int) = _
  rw [h1, BitVec.toNat_and, BitVec.toNat_ofNat, Nat.mod_eq_of_lt (a := 2 ^ k - 1) (by omega), Nat.and_two_pow_sub_one_eq_mod, BitVec.toNat_ofInt]
  have h5 : ((a % ((2 ^ 64 : Nat) : Int)).toNat % 2 ^ k : Nat) < 2 ^ k := Nat.mod_lt _ (by omega)
  rw [wrapI _ (by omega) (by omega)]
  have h6 : 0 ≤ a % ((2 ^ 64 : Nat) : Int) := Int.emod_nonneg _ (by omega)
  rw [Int.natCast_emod, Int.toNat_of_nonneg h6]
  simp only [Int.natCast_pow]
  have : ((2 : Nat) : Int) ^ 64 = 2 ^ k * 2 ^ (64 - k) := by rw [← Int.pow_add]; congr 1; omega
  rw [show ((2 : Nat) : Int) ^ 64 = ((2 : Int)) ^ k * 2 ^ (64 - k) from this]
  exact Int.emod_emod_of_dvd a ⟨_, rfl⟩

theorem and_ffff (a : Int) : and64 a 65535 = a % 65536 := and64_mask a 16 (by omega)

theorem and_1 (a : Int) : and64 a 1 = a % 2 := and64_mask a 1 (by omega)

theorem and_3 (a : Int) : and64 a 3 = a % 4 := and64_mask a 2 (by omega)

theorem and_7 (a : Int) : and64 a 7 = a % 8 := and64_mask a 3 (by omega)

theorem and_15 (a : Int) : and64 a 15 = a % 16 := and64_mask a 4 (by omega)

theorem and_31 (a : Int) : and64 a 31 = a % 32 := and64_mask a 5 (by omega)

def iC (l : List Int) : List (List AVal) := l.map fun n => [.int .i64 n]

theorem iC_length (l : List Int) : (iC l).length = l.length := List.length_map ..

theorem iC_get {l : List Int} {k : Nat} (h : k < l.length) : (iC l)[k]? = some [.int .i64 (l.getD k 0)] := by
  rw [iC, List.getElem?_map, getElem?_getD h]; rfl

def atV (l : List Int) (i : Int) : Int :=
  if l.length = 0 then and64 i 65535 else IntKind.i64.wrap (and64 (l.getD ((and64 i 65535).tmod l.length).toNat 0) 65535 + IntKind.i64.wrap ((and64 i 65535).tdiv l.length))

set_option maxRecDepth 20000 in
theorem At_spec {P : Program} (F : F_warehousebase_At P) (ex : Bool) (l : List Int) (i : Int) (H : List AObj) :
    ACalls P F.id [.list ex 1 (iC l), .int .i64 i] H (fun r H' => r = .int .i64 (atV l i) ∧ H' = H) := by
  refine ACalls.pure rfl (acalls_of_body F.has ?_)
  (conv => whnf); refine recA (fun h0 => ?_) (fun h0 => ?_)
  · conv => whnf
    refine pubI ?_
    simp [iC_length] at h0
    simp [atV, h0, and64]
  · simp [iC_length] at h0
    have hb := and_ffff i
    have h1 : 0 ≤ (and64 i 65535).tmod l.length := by rw [hb]; exact Int.tmod_nonneg _ (by omega)
    have h2 : (and64 i 65535).tmod l.length < l.length := Int.tmod_lt_of_pos _ (by have := List.length_pos_iff.2 h0; omega)
    conv => whnf
    refine And.intro (by simpa [iC_length] using h0) ?_
    conv => whnf
    refine And.intro (by simp only [iC_length]; exact h1) ?_
    conv => whnf
    refine recO (e := [.int .i64 (l.getD ((and64 i 65535).tmod l.length).toNat 0)]) ?_ ?_
    · show (iC l)[((and64 i 65535).tmod ((iC l).length : Nat)).toNat]? = _
      rw [iC_length]
      exact iC_get (by omega)
    conv => whnf
    refine And.intro (by simpa [iC_length] using h0) ?_
    conv => whnf
    refine pubI ?_
    simp [atV, h0, and64, iC_length]

def shrI (a : Int) (k : Nat) : Int := a.fdiv (2 ^ (min k IntKind.i64.bits))

theorem shrI_eq (a : Int) (k : Nat) (hk : k ≤ 64) : shrI a k = a / 2 ^ k := by
  unfold shrI
  rw [Nat.min_eq_left (show k ≤ IntKind.i64.bits from hk)]
  exact Int.fdiv_eq_ediv_of_nonneg _ (Int.pow_nonneg (by omega))

def w64 (n : Int) : Int := IntKind.i64.wrap n

def momN (n : Int) : Int :=
  if (n / 256) % 16 = 0 then [0, 1, 575999999, 575999998, 1439, 1440].getD (n % 6).toNat 0
  else 144000 + (n / 8) % 4 * 1440 + n % 7 * 200 + (n / 32) % 2 * 1439 - 600

def momentV (n : Int) : Int := momN (n % 65536)

theorem getD_cells (l : List Int) (k : Nat) (h : k < l.length) : (l.map fun n => [AVal.int .i64 n])[k]? = some [.int .i64 (l.getD k 0)] := by
  rw [List.getElem?_map, getElem?_getD h]; rfl

set_option maxRecDepth 20000 in
theorem Moment_spec {P : Program} (F : F_warehousebase_Moment P) (n : Int) (H : List AObj) :
    ACalls P F.id [.int .i64 n] H (fun r H' => r = .int .i64 (momentV n) ∧ H' = H) := by
  refine ACalls.pure rfl (acalls_of_body F.has ?_)
  have hn := and_ffff n
  have e8 := shrI_eq (and64 n 65535) 8 (by omega)
  have e3 := shrI_eq (and64 n 65535) 3 (by omega)
  have e5 := shrI_eq (and64 n 65535) 5 (by omega)
  have a8 := and_15 (shrI (and64 n 65535) 8)
  have a3 := and_3 (shrI (and64 n 65535) 3)
  have a5 := and_1 (shrI (and64 n 65535) 5)
  rw [e8] at a8; rw [e3] at a3; rw [e5] at a5
  rw [hn] at a8 a3 a5
  have m6 : (and64 n 65535).tmod 6 = (n % 65536) % 6 := by rw [hn]; exact Int.tmod_eq_emod_of_nonneg (by omega)
  have m7 : (and64 n 65535).tmod 7 = (n % 65536) % 7 := by rw [hn]; exact Int.tmod_eq_emod_of_nonneg (by omega)
  (conv => whnf); refine And.intro (by decide) ?_
  (conv => whnf); refine recA (fun h0 => ?_) (fun h0 => ?_)
  · replace h0 : (and64 (shrI (and64 n 65535) 8) 15 == 0) = true := h0
    rw [e8, hn, a8] at h0
    simp at h0
    (conv => whnf); refine And.intro (by decide) ?_
    (conv => whnf); refine And.intro (show 0 ≤ (and64 n 65535).tmod 6 by omega) ?_
    conv => whnf
    refine recO (e := [.int .i64 (momentV n)]) ?_ ?_
    · show (([0, 1, 575999999, 575999998, 1439, 1440] : List Int).map fun n => [AVal.int .i64 n])[((and64 n 65535).tmod 6).toNat]? = _
      rw [m6, getD_cells _ _ (by simp; omega)]
      simp [momentV, momN, h0]
    conv => whnf
    exact pubI rfl
  · replace h0 : (and64 (shrI (and64 n 65535) 8) 15 == 0) = false := h0
    rw [e8, hn, a8] at h0
    simp at h0
    repeat' ((conv => whnf); refine And.intro (by decide) ?_)
    conv => whnf
    refine pubI ?_
    show w64 (w64 (w64 (w64 (144000 + w64 (and64 (shrI (and64 n 65535) 3) 3 * 1440)) + w64 ((and64 n 65535).tmod 7 * 200)) + w64 (and64 (shrI (and64 n 65535) 5) 1 * 1439)) - 600) = momentV n
    rw [e3, e5, hn, a3, a5]
    rw [hn] at m7
    rw [m7]
    have q : ¬ (n % 65536 / 256) % 16 = 0 := by simpa using h0
    simp only [w64, momentV, momN]
    rw [if_neg q]
    have b3 : 0 ≤ n % 65536 / 2 ^ 3 % 4 ∧ n % 65536 / 2 ^ 3 % 4 ≤ 3 := by omega
    have b5 : 0 ≤ n % 65536 / 2 ^ 5 % 2 ∧ n % 65536 / 2 ^ 5 % 2 ≤ 1 := by omega
    have b7 : 0 ≤ n % 65536 % 7 ∧ n % 65536 % 7 ≤ 6 := by omega
    rw [wrapI (n % 65536 / 2 ^ 3 % 4 * 1440) (by omega) (by omega), wrapI (n % 65536 % 7 * 200) (by omega) (by omega), wrapI (n % 65536 / 2 ^ 5 % 2 * 1439) (by omega) (by omega)]
    rw [wrapI (144000 + _) (by omega) (by omega), wrapI (_ + n % 65536 % 7 * 200) (by omega) (by omega), wrapI (_ + n % 65536 / 2 ^ 5 % 2 * 1439) (by omega) (by omega), wrapI _ (by omega) (by omega)]
    rfl

theorem momN_bounds (n : Int) : 0 ≤ momentV n ∧ momentV n ≤ 575999999 := by
  unfold momentV
  generalize hm : n % 65536 = m
  have hm0 : 0 ≤ m := by omega
  unfold momN
  split
  · have : m % 6 = 0 ∨ m % 6 = 1 ∨ m % 6 = 2 ∨ m % 6 = 3 ∨ m % 6 = 4 ∨ m % 6 = 5 := by omega
    rcases this with h | h | h | h | h | h <;> rw [h] <;> decide
  · omega

def txtV (n : Int) : ByteArray := [bs [97], bs [98], bs [99], bs [], bs [105, 116, 39, 115], bs [97, 32, 98]].getD (n % 6).toNat (bs [])

def intN (n : Int) : Int := if (n / 256) % 32 = 0 then 1073741824 - n % 2 else if (n / 256) % 32 = 1 then n % 4 - 1073741824 else n % 7 - 2

def valueV (kind n : Int) : V :=
  if kind = 1 then ⟨1, (n % 65536) % 2, bs []⟩ else if kind = 2 then ⟨2, intN (n % 65536), bs []⟩ else if kind = 3 then ⟨3, 0, txtV (n % 65536)⟩ else if kind = 4 then ⟨4, momentV (n % 65536), bs []⟩ else ⟨0, 0, bs []⟩

theorem pubV {H1 : List AObj} {n : Nat} {ids : List Nat} {a b : Int} {s : ByteArray} {v : V} (h1 : a = v.kind) (h2 : b = v.num) (h3 : s = v.str) : Pub H1 n ids (.agg [.int .i64 a, .int .i64 b, .str s]) (.agg (valC v)) := by
  subst h1 h2 h3; exact .closed _ rfl

set_option maxRecDepth 20000 in
theorem Value_spec {P : Program} (F : F_warehousebase_Value P) (k n : Int) (H : List AObj) :
    ACalls P F.id [.int .i64 k, .int .i64 n] H (fun r H' => r = .agg (valC (valueV k n)) ∧ H' = H) := by
  refine ACalls.pure rfl (acalls_of_body F.has ?_)
  have hn := and_ffff n
  have e8 := shrI_eq (and64 n 65535) 8 (by omega)
  have a8 := and_31 (shrI (and64 n 65535) 8)
  have a1 := and_1 (and64 n 65535)
  have a3 := and_3 (and64 n 65535)
  rw [e8] at a8
  rw [hn] at a8 a1 a3
  have m6 : (and64 n 65535).tmod 6 = (n % 65536) % 6 := by rw [hn]; exact Int.tmod_eq_emod_of_nonneg (by omega)
  have m7 : (and64 n 65535).tmod 7 = (n % 65536) % 7 := by rw [hn]; exact Int.tmod_eq_emod_of_nonneg (by omega)
  (conv => whnf); refine recA (fun h1 => ?_) (fun h1 => ?_)
  · simp at h1
    subst h1
    conv => whnf
    refine pubV (v := valueV 1 n) rfl ?_ rfl
    show and64 (and64 n 65535) 1 = _
    rw [hn, a1]; rfl
  simp at h1
  (conv => whnf); refine recA (fun h2 => ?_) (fun h2 => ?_)
  · simp at h2
    subst h2
    (conv => whnf); refine And.intro (by decide) ?_
    (conv => whnf); refine And.intro (by decide) ?_
    (conv => whnf); refine recA (fun h0 => ?_) (fun h0 => ?_)
    · replace h0 : (and64 (shrI (and64 n 65535) 8) 31 == 0) = true := h0
      rw [e8, hn, a8] at h0
      conv => whnf
      refine pubV (v := valueV 2 n) rfl ?_ rfl
      show w64 (1073741824 - and64 (and64 n 65535) 1) = intN (n % 65536)
      have h0 : n % 65536 / 256 % 32 = 0 := by simpa using h0
      rw [hn, a1, w64, wrapI _ (by omega) (by omega), intN, if_pos h0]
    · replace h0 : (and64 (shrI (and64 n 65535) 8) 31 == 0) = false := h0
      rw [e8, hn, a8] at h0
      have h0 : ¬ n % 65536 / 256 % 32 = 0 := by simpa using h0
      (conv => whnf); refine recA (fun h5 => ?_) (fun h5 => ?_)
      · replace h5 : (and64 (shrI (and64 n 65535) 8) 31 == 1) = true := h5
        rw [e8, hn, a8] at h5
        have h5 : n % 65536 / 256 % 32 = 1 := by simpa using h5
        conv => whnf
        refine pubV (v := valueV 2 n) rfl ?_ rfl
        show w64 (and64 (and64 n 65535) 3 - 1073741824) = intN (n % 65536)
        rw [hn, a3, w64, wrapI _ (by omega) (by omega), intN, if_neg h0, if_pos h5]
      · replace h5 : (and64 (shrI (and64 n 65535) 8) 31 == 1) = false := h5
        rw [e8, hn, a8] at h5
        have h5 : ¬ n % 65536 / 256 % 32 = 1 := by simpa using h5
        conv => whnf
        refine pubV (v := valueV 2 n) rfl ?_ rfl
        show w64 ((and64 n 65535).tmod 7 - 2) = intN (n % 65536)
        rw [m7, w64, wrapI _ (by omega) (by omega), intN, if_neg h0, if_neg h5]
  simp at h2
  (conv => whnf); refine recA (fun h3 => ?_) (fun h3 => ?_)
  · simp at h3
    subst h3
    (conv => whnf); refine And.intro (by decide) ?_
    (conv => whnf); refine And.intro (show 0 ≤ (and64 n 65535).tmod 6 by omega) ?_
    conv => whnf
    refine recO (e := [.str (txtV (n % 65536))]) ?_ ?_
    · show (([bs [97], bs [98], bs [99], bs [], bs [105, 116, 39, 115], bs [97, 32, 98]]).map fun s => [AVal.str s])[((and64 n 65535).tmod 6).toNat]? = _
      rw [m6, List.getElem?_map, List.getElem?_eq_getElem (show (n % 65536 % 6).toNat < _ by simp; omega)]
      simp only [Option.map_some, txtV]
      rw [List.getD_eq_getElem?_getD, List.getElem?_eq_getElem (show (n % 65536 % 6).toNat < _ by simp; omega)]
      rfl
    conv => whnf
    exact pubV (v := valueV 3 n) rfl rfl rfl
  simp at h3
  (conv => whnf); refine recA (fun h4 => ?_) (fun h4 => ?_)
  · simp at h4
    subst h4
    conv => whnf
    refine ACalls.use (Moment_spec F.warehousebase_Moment _ _) ?_
    conv => whnf
    refine pubV (v := valueV 4 n) rfl ?_ rfl
    show momentV (and64 n 65535) = _
    rw [hn]; rfl
  simp at h4
  conv => whnf
  have e : valueV k n = ⟨0, 0, bs []⟩ := by unfold valueV; rw [if_neg h1, if_neg h2, if_neg h3, if_neg h4]
  rw [e]
  exact .closed _ rfl

theorem valueV_valid (k n : Int) : validB (valueV k n) = true := by
  unfold valueV
  split
  · have := Int.emod_emod_of_dvd n (show (2 : Int) ∣ 65536 from ⟨32768, rfl⟩)
    rw [this]
    have : n % 2 = 0 ∨ n % 2 = 1 := by omega
    rcases this with h | h <;> rw [h] <;> decide
  split
  · have h : -1073741824 ≤ intN (n % 65536) ∧ intN (n % 65536) ≤ 1073741824 := by
      unfold intN
      split
      · omega
      split <;> omega
    simp [validB, h, bs_nil]
  split
  · have : n % 65536 % 6 = 0 ∨ n % 65536 % 6 = 1 ∨ n % 65536 % 6 = 2 ∨ n % 65536 % 6 = 3 ∨ n % 65536 % 6 = 4 ∨ n % 65536 % 6 = 5 := by omega
    unfold txtV
    rcases this with h | h | h | h | h | h <;> rw [h] <;> decide
  split
  · have h := momN_bounds (n % 65536)
    simp [validB, h, bs_nil]
  · decide

end Go.AW

namespace Go.AW
variable [Draws]
attribute [local irreducible] ACalls
def vC (rs : List V) : List (List AVal) := rs.map valC

theorem vC_length (l : List V) : (vC l).length = l.length := List.length_map ..

theorem vC_append (a b : List V) : vC (a ++ b) = vC a ++ vC b := List.map_append

theorem pureEs_vC (l : List V) : pureEs (vC l) = true := by simp [pureEs, vC, valC, AVal.isPure]

theorem roomMul {n b : Nat} (h : n ≤ 1000000) (hb : b ≤ 1000000) : n * b ≤ roomB :=
  Nat.le_trans (Nat.mul_le_mul h hb) (by show 1000000 * 1000000 ≤ 1099511627776; omega)

theorem vC_at {l : List V} {k : Nat} {x : V} (h : l[k]? = some x) : (vC l)[k]? = some (valC x) := by
  rw [vC, List.getElem?_map, h]; rfl

theorem get_drop {α : Type} {l : List α} {k : Nat} (h : k < l.length) : ∃ x, l[k]? = some x ∧ l.drop k = x :: l.drop (k + 1) ∧ x ∈ l :=
  ⟨l[k], List.getElem?_eq_getElem h, List.drop_eq_getElem_cons h, List.getElem_mem h⟩

def rowsCmp : List V → List V → Int
  | [], [] => 0
  | [], _ :: _ => -1
  | _ :: _, [] => 1
  | x :: xs, y :: ys => if valCmp x y = 0 then rowsCmp xs ys else valCmp x y

set_option maxRecDepth 20000 in
theorem CompareFunc_spec {P : Program} (F : F_slices_CompareFunc_LValue_Value P) (g : FuncId) (hg : ∀ (a b : V) (H : List AObj), ACalls P g [.agg (valC a), .agg (valC b)] H (fun r H' => r = .int .i64 (valCmp a b) ∧ H' = H))
    (e1 e2 : Bool) (a b : List V) (ha : a.length ≤ 1000000) (H : List AObj) :
    ACalls P F.id [.list e1 3 (vC a), .list e2 3 (vC b), .fn g []] H (fun r H' => r = .int .i64 (rowsCmp a b) ∧ H' = H) := by
  refine ACalls.pure rfl (acalls_of_body F.has ?_)
  conv => whnf
  refine ⟨fun m ρ H => ∃ k : Nat, k + m = a.length ∧ rowsCmp (a.drop k) (b.drop k) = rowsCmp a b ∧ H = [] ∧
    Sv 39 [(0, .list e1 3 (vC a)), (1, .list e2 3 (vC b)), (2, .fn g []), (11, .list e1 3 (vC a)), (12, .int .i64 a.length), (13, .int .i64 k)] ρ, a.length, [], ?_, ?_⟩
  · exact ⟨0, by omega, rfl, rfl, Sv.intro rfl ⟨rfl, rfl, rfl, rfl, intEq (by rw [vC_length]), rfl, trivial⟩⟩
  rintro m ρ H ⟨k, hk, hr, rfl, d, rfl⟩
  (conv => whnf); refine recA (fun hlt => ?_) (fun hlt => ?_)
  · simp at hlt
    conv => whnf
    refine And.intro (by omega) ?_
    obtain ⟨x, hx, hda, _⟩ := get_drop hlt
    rw [hda] at hr
    (conv => whnf); refine recO (vC_at hx) ?_
    (conv => whnf); refine recA (fun hlt2 => ?_) (fun hlt2 => ?_)
    · simp [vC_length] at hlt2
      conv => whnf
      rw [List.drop_eq_nil_of_le hlt2] at hr
      exact pubI hr
    simp [vC_length] at hlt2
    conv => whnf
    refine And.intro (by omega) ?_
    obtain ⟨y, hy, hdb, _⟩ := get_drop hlt2
    rw [hdb] at hr
    (conv => whnf); refine recO (vC_at hy) ?_
    conv => whnf
    refine ACalls.use (hg x y _) ?_
    (conv => whnf); refine recA (fun hne => ?_) (fun hne => ?_)
    · conv => whnf
      refine pubI ?_
      rw [← hr, rowsCmp, if_neg (by simpa using hne)]
    · conv => whnf
      refine ⟨m - 1, by omega, Gp.none rfl ?_ fun ρ1 h => ⟨k + 1, by omega, ?_, rfl, h⟩⟩
      · exact ⟨.closed _ rfl, .closed _ rfl, .closed _ rfl, .closed _ rfl, .closed _ rfl, pub_int (wrapI ((k : Int) + 1) (by omega) (by omega)), trivial⟩
      · rw [← hr, rowsCmp, if_pos (by simpa using hne)]
  · simp at hlt
    rw [List.drop_eq_nil_of_le hlt] at hr
    (conv => whnf); refine recA (fun hlt2 => ?_) (fun hlt2 => ?_)
    · simp [vC_length] at hlt2
      conv => whnf
      have hdb : b.drop k = b[k]'(by omega) :: b.drop (k + 1) := List.drop_eq_getElem_cons (by omega)
      rw [hdb] at hr
      exact pubI hr
    · simp [vC_length] at hlt2
      conv => whnf
      rw [List.drop_eq_nil_of_le (by omega)] at hr
      exact pubI hr

theorem value_CompareRows_spec {P : Program} (F : F_value_CompareRows P) (e1 e2 : Bool) (a b : List V) (ha : a.length ≤ 1000000) (H : List AObj) :
    ACalls P F.id [.list e1 3 (vC a), .list e2 3 (vC b)] H (fun r H' => r = .int .i64 (rowsCmp a b) ∧ H' = H) := by
  refine ACalls.pure rfl (acalls_of_body F.has ?_)
  conv => whnf
  refine ACalls.use (CompareFunc_spec F.slices_CompareFunc_LValue_Value _ (value_Compare_spec F.value_Compare) e1 e2 a b ha _) ?_
  conv => whnf
  exact .closed _ rfl

set_option maxRecDepth 20000 in
theorem ref1_CompareRows_spec {P : Program} (F : F_warehouseref1_CompareRows P) (e1 e2 : Bool) (a b : List V) (ha : a.length ≤ 1000000) (H : List AObj) :
    ACalls P F.id [.list e1 3 (vC a), .list e2 3 (vC b)] H (fun r H' => r = .int .i64 (rowsCmp a b) ∧ H' = H) := by
  refine ACalls.pure rfl (acalls_of_body F.has ?_)
  conv => whnf
  refine ⟨fun m ρ H => ∃ k : Nat, k + m = a.length ∧ k ≤ b.length ∧ rowsCmp (a.drop k) (b.drop k) = rowsCmp a b ∧ H = [] ∧
    Sv 36 [(0, .list e1 3 (vC a)), (1, .list e2 3 (vC b)), (5, .int .i64 k)] ρ, a.length, [], ?_, ?_⟩
  · exact ⟨0, by omega, by omega, rfl, rfl, Sv.intro rfl ⟨rfl, rfl, rfl, trivial⟩⟩
  rintro m ρ H ⟨k, hk, hkb, hr, rfl, d, rfl⟩
  have fin : a.length ≤ k ∨ b.length ≤ k → cmpI (vC a).length (vC b).length = rowsCmp a b := by
    intro h
    rw [vC_length, vC_length, ← hr]
    by_cases h1 : a.length ≤ k
    · rw [List.drop_eq_nil_of_le h1]
      by_cases h2 : b.length ≤ k
      · rw [List.drop_eq_nil_of_le h2]
        have : a.length = b.length := by omega
        simp [cmpI, rowsCmp, this]
      · rw [show b.drop k = b[k]'(by omega) :: b.drop (k + 1) from List.drop_eq_getElem_cons (by omega), rowsCmp, cmpI, if_pos (by omega)]
    · rw [show a.drop k = a[k]'(by omega) :: a.drop (k + 1) from List.drop_eq_getElem_cons (by omega), List.drop_eq_nil_of_le (show b.length ≤ k by omega), rowsCmp, cmpI, if_neg (by omega), if_pos (by omega)]
  (conv => whnf); refine recA (fun hlt => ?_) (fun hlt => ?_)
  · simp [vC_length] at hlt
    (conv => whnf); refine recA (fun hlt2 => ?_) (fun hlt2 => ?_)
    · simp [vC_length] at hlt2
      conv => whnf
      refine And.intro (by omega) ?_
      obtain ⟨x, hx, hda, _⟩ := get_drop hlt
      obtain ⟨y, hy, hdb, _⟩ := get_drop hlt2
      rw [hda, hdb] at hr
      (conv => whnf); refine recO (vC_at hx) ?_
      conv => whnf
      refine And.intro (by omega) ?_
      (conv => whnf); refine recO (vC_at hy) ?_
      conv => whnf
      refine ⟨_, ref1_Compare_spec F.warehouseref1_Compare x y _, ?_⟩
      (conv => whnf); refine recA (fun hne => ?_) (fun hne => ?_)
      · conv => whnf
        refine pubI ?_
        rw [← hr, rowsCmp, if_neg (by simpa using hne)]
      · conv => whnf
        refine ⟨m - 1, by omega, Gp.none rfl ?_ fun ρ1 h => ⟨k + 1, by omega, by omega, ?_, rfl, h⟩⟩
        · exact ⟨.closed _ rfl, .closed _ rfl, pub_int (wrapI ((k : Int) + 1) (by omega) (by omega)), trivial⟩
        · rw [← hr, rowsCmp, if_pos (by simpa using hne)]
    · simp [vC_length] at hlt2
      conv => whnf
      refine ACalls.use (numbers_spec F.warehouseref1_numbers _ _ _) ?_
      conv => whnf
      exact pubI (fin (.inr hlt2))
  · simp [vC_length] at hlt
    conv => whnf
    refine ACalls.use (numbers_spec F.warehouseref1_numbers _ _ _) ?_
    conv => whnf
    exact pubI (fin (.inl hlt))

theorem ref1_SameRow_spec {P : Program} (F : F_warehouseref1_SameRow P) (e1 e2 : Bool) (a b : List V) (ha : a.length ≤ 1000000) (H : List AObj) :
    ACalls P F.id [.list e1 3 (vC a), .list e2 3 (vC b)] H (fun r H' => r = .bool (rowsCmp a b == 0) ∧ H' = H) := by
  refine ACalls.pure rfl (acalls_of_body F.has ?_)
  conv => whnf
  refine ACalls.use (ref1_CompareRows_spec F.warehouseref1_CompareRows e1 e2 a b ha _) ?_
  conv => whnf
  exact .closed _ rfl

end Go.AW

namespace Go.AW
variable [Draws]
attribute [local irreducible] ACalls
def Byt (l : List Int) : Prop := ∀ x ∈ l, 0 ≤ x ∧ x ≤ 255

def num (l : List Int) : Int := l.foldl (fun n x => n * 256 + x) 0

def strOf (l : List Int) : ByteArray := ⟨(l.map fun n => UInt8.ofNat n.toNat).toArray⟩

theorem bytesOf_bC : ∀ (l : List Int), bytesOf (bC l) = some (l.map fun n => UInt8.ofNat n.toNat)
  | [] => rfl
  | x :: l => by
    show (bytesOf (bC l)).map (UInt8.ofNat x.toNat :: ·) = _
    rw [bytesOf_bC l]; rfl

def decW (l : List Int) (k n : Int) : V × Int :=
  if l.length = 0 then (⟨0, 0, bs []⟩, 0)
  else if k = 0 then (⟨0, 0, bs []⟩, 1)
  else if k = 1 ∧ 2 ≤ l.length then (⟨1, n, bs []⟩, 2)
  else if k = 2 ∧ 5 ≤ l.length then (⟨2, num ((l.take 5).drop 1) - 1073741824, bs []⟩, 5)
  else if k = 4 ∧ 5 ≤ l.length then (⟨4, num ((l.take 5).drop 1), bs []⟩, 5)
  else if k = 3 ∧ 2 ≤ l.length ∧ 2 + n ≤ l.length then (⟨3, 0, strOf ((l.take (2 + n).toNat).drop 2)⟩, 2 + n)
  else (⟨0, 0, bs []⟩, 0)

def decV (l : List Int) : V × Int := decW l (l.getD 0 0) (l.getD 1 0)

theorem decW_0 {l : List Int} {n : Int} (h : 1 ≤ l.length) : decW l 0 n = (⟨0, 0, bs []⟩, 1) := by
  unfold decW; rw [if_neg (by omega), if_pos (Eq.refl (0 : Int))]

theorem decW_1 {l : List Int} {n : Int} (h : 2 ≤ l.length) : decW l 1 n = (⟨1, n, bs []⟩, 2) := by
  unfold decW; rw [if_neg (by omega), if_neg (by omega), if_pos ⟨Eq.refl (1 : Int), h⟩]

theorem decW_2 {l : List Int} {n : Int} (h : 5 ≤ l.length) : decW l 2 n = (⟨2, num ((l.take 5).drop 1) - 1073741824, bs []⟩, 5) := by
  unfold decW; rw [if_neg (by omega), if_neg (by omega), if_neg (by omega), if_pos ⟨Eq.refl (2 : Int), h⟩]

theorem decW_4 {l : List Int} {n : Int} (h : 5 ≤ l.length) : decW l 4 n = (⟨4, num ((l.take 5).drop 1), bs []⟩, 5) := by
  unfold decW; rw [if_neg (by omega), if_neg (by omega), if_neg (by omega), if_neg (by omega), if_pos ⟨Eq.refl (4 : Int), h⟩]

theorem decW_3 {l : List Int} {n : Int} (h : 2 ≤ l.length) (h2 : 2 + n ≤ l.length) : decW l 3 n = (⟨3, 0, strOf ((l.take (2 + n).toNat).drop 2)⟩, 2 + n) := by
  unfold decW; rw [if_neg (by omega), if_neg (by omega), if_neg (by omega), if_neg (by omega), if_neg (by omega), if_pos ⟨Eq.refl (3 : Int), h, h2⟩]

theorem Byt.sub {l m : List Int} (h : Byt l) (hm : ∀ x ∈ m, x ∈ l) : Byt m := fun x hx => h x (hm x hx)

theorem Byt.drop {l : List Int} (h : Byt l) (k : Nat) : Byt (l.drop k) := h.sub fun _ hx => List.mem_of_mem_drop hx

theorem Byt.take {l : List Int} (h : Byt l) (k : Nat) : Byt (l.take k) := h.sub fun _ hx => List.mem_of_mem_take hx

def decN : Nat → List Int → Option (List V × List Int)
  | 0, l => some ([], l)
  | n + 1, l => if (decV l).2 = 0 ∨ validB (decV l).1 = false then none else match decN n (l.drop (decV l).2.toNat) with
    | some (rs, r) => some ((decV l).1 :: rs, r)
    | none => none

theorem decN_succ (n : Nat) (l : List Int) : decN (n + 1) l = if (decV l).2 = 0 ∨ validB (decV l).1 = false then none else match decN n (l.drop (decV l).2.toNat) with
    | some (rs, r) => some ((decV l).1 :: rs, r)
    | none => none := rfl

end Go.AW

namespace Go.AW
variable [Draws]
attribute [local irreducible] ACalls
theorem bl_irrefl : ∀ (a : List UInt8), Op.bytesLess a a = false
  | [] => rfl
  | x :: a => by simp [Op.bytesLess, bl_irrefl a]

theorem bl_tri : ∀ (a b : List UInt8), Op.bytesLess a b = true ∨ a = b ∨ Op.bytesLess b a = true
  | [], [] => .inr (.inl rfl)
  | [], _ :: _ => .inl rfl
  | _ :: _, [] => .inr (.inr rfl)
  | x :: a, y :: b => by
    simp only [Op.bytesLess, Bool.or_eq_true, decide_eq_true_eq, Bool.and_eq_true, beq_iff_eq, List.cons.injEq]
    rcases (show x < y ∨ x = y ∨ y < x from by rcases Nat.lt_trichotomy x.toNat y.toNat with h | h | h; exact .inl h; exact .inr (.inl (UInt8.toNat_inj.1 h)); exact .inr (.inr h)) with h | h | h
    · exact .inl (.inl h)
    · subst h
      rcases bl_tri a b with h | h | h
      · exact .inl (.inr ⟨rfl, h⟩)
      · exact .inr (.inl ⟨rfl, h⟩)
      · exact .inr (.inr (.inr ⟨rfl, h⟩))
    · exact .inr (.inr (.inl h))

theorem bl_trans : ∀ (a b c : List UInt8), Op.bytesLess a b = true → Op.bytesLess b c = true → Op.bytesLess a c = true
  | _, [], _, h, _ => by cases ‹List UInt8› <;> simp [Op.bytesLess] at h
  | _, _ :: _, [], _, h => by simp [Op.bytesLess] at h
  | [], _ :: _, _ :: _, _, _ => rfl
  | x :: a, y :: b, z :: c, h1, h2 => by
    simp only [Op.bytesLess, Bool.or_eq_true, decide_eq_true_eq, Bool.and_eq_true, beq_iff_eq] at *
    rcases h1 with h1 | ⟨rfl, h1⟩
    · rcases h2 with h2 | ⟨rfl, h2⟩
      · exact .inl (UInt8.lt_trans h1 h2)
      · exact .inl h1
    · rcases h2 with h2 | ⟨rfl, h2⟩
      · exact .inl h2
      · exact .inr ⟨rfl, bl_trans a b c h1 h2⟩

structure IsCmp {α : Type} (c : α → α → Int) : Prop where
  vals : ∀ a b, c a b = -1 ∨ c a b = 0 ∨ c a b = 1
  anti : ∀ a b, c b a = - c a b
  zero : ∀ a b, c a b = 0 ↔ a = b
  trans : ∀ a b d, c a b < 0 → c b d < 0 → c a d < 0

theorem IsCmp.ltle {α : Type} {c : α → α → Int} (h : IsCmp c) {a b d : α} (h1 : c a b < 0) (h2 : c b d ≤ 0) : c a d < 0 := by
  by_cases e : c b d = 0
  · rw [← (h.zero b d).1 e]; exact h1
  · exact h.trans a b d h1 (by omega)

theorem IsCmp.le {α : Type} {c : α → α → Int} (h : IsCmp c) {a b d : α} (h1 : c a b ≤ 0) (h2 : c b d ≤ 0) : c a d ≤ 0 := by
  by_cases e : c a b = 0
  · rw [(h.zero a b).1 e]; exact h2
  · have := h.ltle (a := a) (by omega) h2; omega

theorem isCmp_int : IsCmp cmpI := by
  refine ⟨fun a b => ?_, fun a b => ?_, fun a b => ?_, fun a b d => ?_⟩ <;> unfold cmpI <;> (repeat' split) <;> omega

theorem isCmp_str : IsCmp cmpS := by
  have asym : ∀ a b, Op.bytesLess a b = true → Op.bytesLess b a = true → False := fun a b h1 h2 => by
    have := bl_trans a b a h1 h2
    rw [bl_irrefl] at this; cases this
  refine ⟨fun a b => ?_, fun a b => ?_, fun a b => ?_, fun a b d => ?_⟩
  · unfold cmpS; split
    · simp
    · split <;> simp
  · unfold cmpS
    rcases bl_tri a b with h | h | h
    · have hb : Op.bytesLess b a = false := by cases hb : Op.bytesLess b a with | false => rfl | true => exact (asym a b h hb).elim
      have hne : ¬ b = a := by rintro rfl; rw [bl_irrefl] at h; cases h
      simp [h, hb, hne]
    · subst h; simp [bl_irrefl]
    · have hb : Op.bytesLess a b = false := by cases hb : Op.bytesLess a b with | false => rfl | true => exact (asym a b hb h).elim
      have hne : ¬ a = b := by rintro rfl; rw [bl_irrefl] at h; cases h
      simp [h, hb, hne]
  · unfold cmpS
    split
    · rename_i h
      refine ⟨fun h => by omega, ?_⟩
      rintro rfl
      rw [bl_irrefl] at h; cases h
    · split <;> simp [*]
  · unfold cmpS
    intro h1 h2
    have e1 : Op.bytesLess a b = true := by
      revert h1
      split
      · intro _; assumption
      · split <;> intro h <;> omega
    have e2 : Op.bytesLess b d = true := by
      revert h2
      split
      · intro _; assumption
      · split <;> intro h <;> omega
    rw [if_pos (bl_trans a b d e1 e2)]; omega

theorem isCmp_val : IsCmp valCmp := by
  have I := isCmp_int
  have S := isCmp_str
  refine ⟨fun a b => ?_, fun a b => ?_, fun a b => ?_, fun a b d => ?_⟩
  · have := I.vals a.kind b.kind; have := I.vals a.num b.num; have := S.vals a.str.data.toList b.str.data.toList
    simp only [valCmp, orI]; (repeat' split) <;> omega
  · have := I.anti a.kind b.kind; have := I.anti a.num b.num; have := S.anti a.str.data.toList b.str.data.toList
    simp only [valCmp, orI]; (repeat' split) <;> omega
  · have h1 := I.zero a.kind b.kind; have h2 := I.zero a.num b.num; have h3 := S.zero a.str.data.toList b.str.data.toList
    constructor
    · intro h
      simp only [valCmp, orI] at h
      have e1 : cmpI a.kind b.kind = 0 := by revert h; (repeat' split) <;> omega
      have e2 : cmpI a.num b.num = 0 := by revert h; (repeat' split) <;> omega
      have e3 : cmpS a.str.data.toList b.str.data.toList = 0 := by revert h; (repeat' split) <;> omega
      obtain ⟨ak, an, ⟨⟨asv⟩⟩⟩ := a
      obtain ⟨bk, bn, ⟨⟨bl⟩⟩⟩ := b
      have q1 := h1.1 e1; have q2 := h2.1 e2; have q3 := h3.1 e3
      simp only at q1 q2 q3
      subst q1 q2 q3; rfl
    · rintro rfl
      simp only [valCmp, orI]
      rw [if_pos (h1.2 rfl), if_pos (h2.2 rfl), if_pos (h3.2 rfl)]
  · intro h1 h2
    have a1 := I.trans a.kind b.kind d.kind; have a2 := I.trans a.num b.num d.num; have a3 := S.trans a.str.data.toList b.str.data.toList d.str.data.toList
    have v1 := I.vals a.kind b.kind; have v2 := I.vals b.kind d.kind; have v3 := I.vals a.num b.num; have v4 := I.vals b.num d.num
    have z1 := I.zero a.kind b.kind; have z2 := I.zero b.kind d.kind; have z3 := I.zero a.num b.num; have z4 := I.zero b.num d.num
    have z5 := I.zero a.kind d.kind; have z6 := I.zero a.num d.num
    simp only [valCmp, orI] at *
    by_cases k1 : a.kind = b.kind <;> by_cases k2 : b.kind = d.kind <;> by_cases n1 : a.num = b.num <;> by_cases n2 : b.num = d.num <;> simp_all <;> (repeat' split) <;> omega

end Go.AW

namespace Go.AW
variable [Draws]
attribute [local irreducible] ACalls
structure Col where
  name : ByteArray
  kind : Int
  nul : Bool

def colC (c : Col) : List AVal := [.str c.name, .int .i64 c.kind, .bool c.nul]

def cC (cs : List Col) : List (List AVal) := cs.map colC

theorem cC_length (l : List Col) : (cC l).length = l.length := List.length_map ..

theorem cC_at {l : List Col} {k : Nat} {x : Col} (h : l[k]? = some x) : (cC l)[k]? = some (colC x) := by
  rw [cC, List.getElem?_map, h]; rfl

def idxOf {α : Type} (p : α → Bool) : List α → Int → Int
  | [], _ => -1
  | c :: cs, i => if p c then i else idxOf p cs (i + 1)

end Go.AW

namespace Go.AW
variable [Draws]
attribute [local irreducible] ACalls
theorem ACalls.frz1 {P : Program} {f : FuncId} {args : List AVal} {n sz : Nat} {es : List (List AVal)} {H : List AObj} (ha : args.all AVal.closed = true) (h : ACalls P f args [] (fun r H1 => r = .sl 0 n 0 n ∧ H1 = [.arr sz es]))
    (hn : n = es.length) (hp : pureEs es = true) : ACalls P f args H (fun r H' => r = .list false sz es ∧ H' = H) := by
  refine ACalls.pure ha (h.mono ?_)
  rintro r H1 ⟨rfl, rfl⟩
  exact pubF rfl hn hn hp

theorem ACalls.own1 {P : Program} {f : FuncId} {args : List AVal} {n sz : Nat} {es : List (List AVal)} {H : List AObj} (ha : args.all AVal.closed = true) (h : ACalls P f args [] (fun r H1 => r = .sl 0 n 0 n ∧ H1 = [.arr sz es]))
    (hp : pureEs es = true) : ACalls P f args H (fun r H' => r = .sl H.length n 0 n ∧ H' = H ++ [.arr sz es]) := by
  refine ACalls.lift ha h ?_
  rintro r H1 ⟨rfl, rfl⟩
  exact ⟨[0], _, [.arr sz es], pubSl (k := 0) rfl (Nat.add_zero _).symm rfl rfl, by simp, rfl, fun k id hk => by
    cases k with
    | zero => simp at hk; subst hk; exact ⟨rfl, sz, _, rfl, hp⟩
    | succ k => simp at hk, rfl, rfl⟩

def fillUp {α : Type} (W : List α) (z : α) (k : Nat) : List α := W.take k ++ List.replicate (W.length - k) z

theorem fillUp_length {α : Type} (W : List α) (z : α) (k : Nat) (h : k ≤ W.length) : (fillUp W z k).length = W.length := by simp [fillUp]; omega

theorem fillUp_zero {α : Type} (W : List α) (z : α) : fillUp W z 0 = List.replicate W.length z := by simp [fillUp]

theorem fillUp_all {α : Type} (W : List α) (z : α) : fillUp W z W.length = W := by simp [fillUp]

theorem fillUp_set {α : Type} (W : List α) (z : α) (k : Nat) (x : α) (h : W[k]? = some x) : (fillUp W z k).set k x = fillUp W z (k + 1) := by
  have hk := (List.getElem?_eq_some_iff.1 h).1
  unfold fillUp
  obtain ⟨m, hm⟩ : ∃ m, W.length - k = m + 1 := ⟨W.length - k - 1, by omega⟩
  have h1 : (W.take k).length = k := by simp; omega
  rw [hm, List.replicate_succ, List.set_append_right _ _ (by omega), h1, Nat.sub_self, List.set_cons_zero, List.take_add_one, h, show W.length - (k + 1) = m by omega]
  simp

theorem fillUp_get {α : Type} (W : List α) (z : α) (k : Nat) (hk : k < W.length) : (fillUp W z k)[k]? = some z := by
  have h1 : (W.take k).length = k := by simp; omega
  rw [fillUp, List.getElem?_append_right (by omega), h1, Nat.sub_self]
  obtain ⟨m, hm⟩ : ∃ m, W.length - k = m + 1 := ⟨W.length - k - 1, by omega⟩
  rw [hm, List.replicate_succ]; rfl

def zV : V := ⟨0, 0, bs []⟩

def cellV (c : Col) (n : Int) : V := if c.nul = true ∧ n.tmod 4 = 0 then zV else valueV c.kind (w64 (n.tdiv 4))

set_option maxRecDepth 20000 in
theorem Cell_spec {P : Program} (F : F_warehousebase_Cell P) (c : Col) (n : Int) (H : List AObj) :
    ACalls P F.id [.agg (colC c), .int .i64 n] H (fun r H' => r = .agg (valC (cellV c n)) ∧ H' = H) := by
  refine ACalls.pure rfl (acalls_of_body F.has ?_)
  (conv => whnf); refine recA (fun h => ?_) (fun hf => ?_)
  · (conv => whnf); refine And.intro (by decide) ?_
    (conv => whnf); refine recA (fun h2 => ?_) (fun hf2 => ?_)
    · conv => whnf
      exact pubV (v := cellV c n) (by rw [cellV, if_pos ⟨h, by simpa using h2⟩]; rfl) (by rw [cellV, if_pos ⟨h, by simpa using h2⟩]; rfl) (by rw [cellV, if_pos ⟨h, by simpa using h2⟩]; rfl)
    · (conv => whnf); refine And.intro (by decide) ?_
      (conv => whnf); refine ACalls.use (Value_spec F.warehousebase_Value _ _ _) ?_
      conv => whnf
      have : cellV c n = valueV c.kind (w64 (n.tdiv 4)) := by rw [cellV, if_neg (by intro h; simp [h.2] at hf2)]
      rw [this]
      exact pubV rfl rfl rfl
  · (conv => whnf); refine And.intro (by decide) ?_
    (conv => whnf); refine ACalls.use (Value_spec F.warehousebase_Value _ _ _) ?_
    conv => whnf
    have : cellV c n = valueV c.kind (w64 (n.tdiv 4)) := by rw [cellV, if_neg (by rw [hf]; simp)]
    rw [this]
    exact pubV rfl rfl rfl

def rowC : List Col → List Int → Int → List V
  | [], _, _ => []
  | c :: cs, l, i => cellV c (atV l i) :: rowC cs l (i + 1)

theorem rowC_length : ∀ (cs : List Col) (l : List Int) (i : Int), (rowC cs l i).length = cs.length
  | [], _, _ => rfl
  | c :: cs, l, i => by simp [rowC, rowC_length cs]

theorem rowC_get : ∀ (cs : List Col) (l : List Int) (i : Int) (k : Nat) (c : Col), cs[k]? = some c → (rowC cs l i)[k]? = some (cellV c (atV l (i + k)))
  | [], _, _, k, c, h => by simp at h
  | c0 :: cs, l, i, 0, c, h => by simp at h; subst h; simp [rowC]
  | c0 :: cs, l, i, k + 1, c, h => by
    have := rowC_get cs l (i + 1) k c (by simpa using h)
    rw [rowC, List.getElem?_cons_succ, this, show i + 1 + (k : Int) = i + ((k + 1 : Nat) : Int) by omega]

theorem setEs_vC (l : List V) (k : Nat) (v : V) : setEs (vC l) k (valC v) = vC (l.set k v) := by rw [setEs_eq]; simp [vC]

set_option maxRecDepth 20000 in
theorem Row_raw {P : Program} (F : F_warehousebase_Row P) (e1 e2 : Bool) (cs : List Col) (l : List Int) (i : Int) (hc : cs.length ≤ 1000) (hi : 0 ≤ i ∧ i ≤ 1000000) :
    ACalls P F.id [.list e1 3 (cC cs), .list e2 1 (iC l), .int .i64 i] [] (fun r H' => r = .sl 0 cs.length 0 cs.length ∧ H' = [.arr 3 (vC (rowC cs l i))]) := by
  refine acalls_of_body F.has ?_
  conv => whnf
  refine And.intro ⟨by omega, by omega, by rw [cC_length]; show (cs.length : Int) * 32 ≤ 1099511627776; omega, by rw [cC_length]; show (cs.length : Int) ≤ 1099511627776; omega⟩ ?_
  conv => whnf
  refine ⟨fun m ρ H => ∃ k : Nat, k + m = cs.length ∧ H = [.arr 3 (vC (fillUp (rowC cs l i) zV k))] ∧ Sv 32 [(0, .list e1 3 (cC cs)), (1, .list e2 1 (iC l)), (2, .int .i64 i), (7, .sl 0 cs.length 0 cs.length), (8, .int .i64 k)] ρ, cs.length, [], ?_, ?_⟩
  · refine ⟨0, by omega, ?_, Sv.intro rfl ⟨rfl, rfl, rfl, slEq ?_ ?_, rfl, trivial⟩⟩
    · rw [fillUp_zero, rowC_length]
      simp [vC, cC_length]; exact .inr rfl
    · simp [cC_length]
    · simp [cC_length]
  rintro m ρ H ⟨k, hk, rfl, d, rfl⟩
  (conv => whnf); refine recA (fun hlt => ?_) (fun hlt => ?_)
  · simp [cC_length] at hlt
    obtain ⟨c, hcc, _, _⟩ := get_drop hlt
    have hw := rowC_get cs l i k c hcc
    have hlen : (vC (fillUp (rowC cs l i) zV k)).length = cs.length := by rw [vC_length, fillUp_length _ _ _ (by rw [rowC_length]; omega), rowC_length]
    conv => whnf
    refine And.intro (by omega) ?_
    (conv => whnf); refine recO (cC_at hcc) ?_
    conv => whnf
    refine ⟨_, At_spec F.warehousebase_At e2 l _ _, ?_⟩
    conv => whnf
    refine ⟨_, Cell_spec F.warehousebase_Cell c _ _, ?_⟩
    (conv => whnf); refine recT (by rw [hlen]; exact Nat.beq_refl _) ?_
    conv => whnf
    refine And.intro ⟨by omega, by omega⟩ ?_
    (conv => whnf); refine recT (by rw [hlen]; exact Nat.beq_refl _) ?_
    conv => whnf
    have hidx : (vC (fillUp (rowC cs l i) zV k))[0 + (k : Int).toNat]? = some (valC zV) := by
      rw [Nat.zero_add, Int.toNat_natCast]
      exact vC_at (fillUp_get _ _ _ (by rw [rowC_length]; omega))
    refine recO hidx ?_
    conv => whnf
    have e1 := wrapI ((k : Int) + 1) (by omega) (by omega)
    have e2 : IntKind.i64.wrap (i + k) = i + k := wrapI _ (by omega) (by omega)
    refine ⟨m - 1, by omega, Gp.keep rfl ?_ fun ρ1 h => ⟨k + 1, by omega, ?_, h⟩⟩
    · exact ⟨rfl, rfl, rfl, rfl, intEq e1, trivial⟩
    · rw [← fillUp_set _ _ _ _ hw, ← setEs_vC]
      show [AObj.arr 3 (setEs (vC (fillUp (rowC cs l i) zV k)) (0 + (k : Int).toNat) (valC (cellV c (atV l (IntKind.i64.wrap (i + k))))))] = _
      rw [e2, Nat.zero_add, Int.toNat_natCast]
  · simp [cC_length] at hlt
    have : k = cs.length := by omega
    subst this
    conv => whnf
    refine ⟨rfl, ?_⟩
    rw [← rowC_length cs l i, fillUp_all]

end Go.AW

namespace Go.AW
variable [Draws]
attribute [local irreducible] ACalls
theorem u8_eq (n : Int) : u8 n = n % 256 := by
  show IntKind.u8.wrap n = _
  simp [IntKind.wrap, IntKind.signed, IntKind.bits]

theorem num_w4 (x : Int) (h0 : 0 ≤ x) (h1 : x < 4294967296) : num (w4 x) = x := by
  simp only [num, w4, List.foldl_cons, List.foldl_nil, u8_eq]
  rw [Int.fdiv_eq_ediv_of_nonneg _ (by omega), Int.fdiv_eq_ediv_of_nonneg _ (by omega), Int.fdiv_eq_ediv_of_nonneg _ (by omega)]
  omega

theorem byt_u8 (n : Int) : 0 ≤ u8 n ∧ u8 n ≤ 255 := by rw [u8_eq]; omega

theorem byt_encV (v : V) : Byt (encV v) := by
  intro x hx
  unfold encV at hx
  rcases List.mem_cons.1 hx with rfl | hx
  · exact byt_u8 _
  · split at hx
    · rcases List.mem_singleton.1 hx with rfl; exact byt_u8 _
    split at hx
    · simp [w4] at hx; rcases hx with rfl | rfl | rfl | rfl <;> exact byt_u8 _
    split at hx
    · simp [w4] at hx; rcases hx with rfl | rfl | rfl | rfl <;> exact byt_u8 _
    split at hx
    · rcases List.mem_cons.1 hx with rfl | hx
      · exact byt_u8 _
      · obtain ⟨b, _, rfl⟩ := List.mem_map.1 hx
        have := b.toNat_lt
        omega
    · simp at hx

theorem byt_encB (rs : List V) : Byt (encB rs) := by
  intro x hx
  rcases List.mem_cons.1 hx with rfl | hx
  · exact byt_u8 _
  · obtain ⟨v, _, hv⟩ := List.mem_flatMap.1 hx
    exact byt_encV v x hv

theorem strOf_bytesI (s : ByteArray) : strOf (bytesI s) = s := by
  obtain ⟨⟨l⟩⟩ := s
  simp only [strOf, bytesI, List.map_map]
  congr
  rw [List.map_congr_left (g := id)]
  · simp
  · intro b _
    simp

theorem V.ext' {a b : V} (h1 : a.kind = b.kind) (h2 : a.num = b.num) (h3 : a.str = b.str) : a = b := by
  cases a; cases b; simp_all

theorem str_nil {s : ByteArray} (h : s.data.toList = []) : s = bs [] := by
  obtain ⟨⟨l⟩⟩ := s
  simp at h
  subst h; rfl

theorem decV_enc (v : V) (hv : validB v = true) (t : List Int) : decV (encV v ++ t) = (v, ((encV v).length : Int)) := by
  unfold validB at hv
  split at hv
  · rename_i hk
    simp at hv
    have hs := str_nil (show v.str.data.toList = [] by simp [hv.2])
    have e : encV v = [0] := by simp [encV, hk, u8_eq]
    rw [e]
    show decW ([0] ++ t) 0 _ = _
    rw [decW_0 (by simp)]
    rw [show v = ⟨0, 0, bs []⟩ from V.ext' hk hv.1 hs]; rfl
  split at hv
  · rename_i hk
    simp at hv
    have hs := str_nil (show v.str.data.toList = [] by simp [hv.2])
    have e : encV v = [1, v.num] := by
      have : u8 v.num = v.num := by rw [u8_eq]; omega
      simp [encV, hk, this, u8_eq]
    rw [e]
    show decW ([1, v.num] ++ t) 1 v.num = _
    rw [decW_1 (by simp)]
    rw [show v = ⟨1, v.num, bs []⟩ from V.ext' hk rfl hs]; rfl
  split at hv
  · rename_i hk
    simp at hv
    have hs := str_nil (show v.str.data.toList = [] by simp [hv.2])
    have e : encV v = 2 :: w4 (v.num + 1073741824) := by
      simp only [encV, hk]
      rw [if_neg (by decide), if_pos trivial, wrapI (v.num + 1073741824) (by omega) (by omega)]
      simp [u8_eq]
    rw [e]
    show decW ((2 :: w4 (v.num + 1073741824)) ++ t) 2 _ = _
    rw [decW_2 (by simp [w4])]
    have : (((2 :: w4 (v.num + 1073741824)) ++ t).take 5).drop 1 = w4 (v.num + 1073741824) := by simp [w4]
    rw [this, num_w4 _ (by omega) (by omega)]
    rw [show v = ⟨2, v.num, bs []⟩ from V.ext' hk rfl hs]
    simp [w4]
  split at hv
  · rename_i hk
    simp at hv
    have e : encV v = 3 :: (v.str.size : Int) :: bytesI v.str := by
      have : u8 (v.str.size : Int) = v.str.size := by rw [u8_eq]; omega
      simp only [encV, hk]
      rw [if_neg (by decide), if_neg (by decide), if_neg (by decide), if_pos trivial, this]
      simp [u8_eq]
    have hlen : (bytesI v.str).length = v.str.size := by simp [bytesI]
    rw [e]
    show decW ((3 :: (v.str.size : Int) :: bytesI v.str) ++ t) 3 (v.str.size : Int) = _
    rw [decW_3 (by simp) (by simp [hlen]; omega)]
    have : (((3 :: (v.str.size : Int) :: bytesI v.str) ++ t).take (2 + (v.str.size : Int)).toNat).drop 2 = bytesI v.str := by
      rw [show (2 + (v.str.size : Int)).toNat = v.str.size + 1 + 1 by omega]
      simp [← hlen]
    rw [this, strOf_bytesI]
    rw [show (⟨3, 0, v.str⟩ : V) = v from V.ext' hk.symm hv.1.symm rfl]
    simp [hlen]; omega
  split at hv
  · rename_i hk
    simp at hv
    have hs := str_nil (show v.str.data.toList = [] by simp [hv.2])
    have e : encV v = 4 :: w4 v.num := by
      simp only [encV, hk]
      rw [if_neg (by decide), if_neg (by decide), if_pos trivial]
      simp [u8_eq]
    rw [e]
    show decW ((4 :: w4 v.num) ++ t) 4 _ = _
    rw [decW_4 (by simp [w4])]
    have : (((4 :: w4 v.num) ++ t).take 5).drop 1 = w4 v.num := by simp [w4]
    rw [this, num_w4 _ (by omega) (by omega)]
    rw [show v = ⟨4, v.num, bs []⟩ from V.ext' hk rfl hs]
    simp [w4]
  · cases hv

theorem encV_pos (v : V) : 0 < (encV v).length := by simp [encV]

theorem decN_enc : ∀ (rs : List V) (t : List Int), (∀ v ∈ rs, validB v = true) → decN rs.length (rs.flatMap encV ++ t) = some (rs, t)
  | [], t, _ => rfl
  | v :: rs, t, h => by
    have hv := h v (by simp)
    have e : (v :: rs).flatMap encV ++ t = encV v ++ (rs.flatMap encV ++ t) := by simp
    rw [e, List.length_cons, decN_succ, decV_enc v hv]
    have := encV_pos v
    rw [if_neg (by rw [hv]; simp only [Bool.true_eq_false, or_false]; omega)]
    simp only [Int.toNat_natCast, List.drop_left]
    rw [decN_enc rs t fun w hw => h w (by simp [hw])]

theorem encB_prefix {rs ss : List V} (hr : rs.length ≤ 12) (hs : ss.length ≤ 12) (hrv : ∀ v ∈ rs, validB v = true) (hsv : ∀ v ∈ ss, validB v = true) {t : List Int} (h : encB ss = encB rs ++ t) : rs = ss := by
  have e1 : u8 (rs.length : Int) = rs.length := by rw [u8_eq]; omega
  have e2 : u8 (ss.length : Int) = ss.length := by rw [u8_eq]; omega
  simp only [encB, e1, e2, List.cons_append, List.cons.injEq] at h
  obtain ⟨h1, h2⟩ := h
  have hl : ss.length = rs.length := by omega
  have d1 := decN_enc rs t hrv
  have d2 := decN_enc ss [] hsv
  rw [List.append_nil, h2, hl, d1] at d2
  simp at d2
  exact d2.1

theorem rowsCmp_zero : ∀ (a b : List V), rowsCmp a b = 0 ↔ a = b
  | [], [] => by simp [rowsCmp]
  | [], _ :: _ => by simp [rowsCmp]
  | _ :: _, [] => by simp [rowsCmp]
  | x :: a, y :: b => by
    have hz := isCmp_val.zero x y
    rw [rowsCmp]
    by_cases h : valCmp x y = 0
    · rw [if_pos h, rowsCmp_zero a b, hz.1 h]; simp
    · rw [if_neg h]
      constructor
      · intro h2; exact absurd h2 h
      · intro h2; simp at h2; exact absurd (hz.2 h2.1) h

def u8L (l : List Int) : List UInt8 := l.map fun n => UInt8.ofNat n.toNat

theorem u8L_inj : ∀ {l m : List Int}, Byt l → Byt m → u8L l = u8L m → l = m
  | [], [], _, _, _ => rfl
  | [], _ :: _, _, _, h => by simp [u8L] at h
  | _ :: _, [], _, _, h => by simp [u8L] at h
  | x :: l, y :: m, hl, hm, h => by
    simp only [u8L, List.map_cons, List.cons.injEq] at h
    have hx := hl x (by simp)
    have hy := hm y (by simp)
    have h1 := congrArg UInt8.toNat h.1
    simp only [UInt8.toNat_ofNat'] at h1
    rw [Nat.mod_eq_of_lt (by omega), Nat.mod_eq_of_lt (by omega)] at h1
    rw [show x = y by omega, u8L_inj (fun z hz => hl z (by simp [hz])) (fun z hz => hm z (by simp [hz])) h.2]

end Go.AW

namespace Go.AW
variable [Draws]
attribute [local irreducible] ACalls
def pickL {α : Type} (z : α) (l : List α) (is : List Int) : List α := is.map fun i => if 0 ≤ i ∧ i < (l.length : Int) then l.getD i.toNat z else z

theorem pickL_length {α : Type} (z : α) (l : List α) (is : List Int) : (pickL z l is).length = is.length := by simp [pickL]

theorem pickL_in {α : Type} (z : α) (l : List α) (is : List Int) (k : Nat) (i : Int) (x : α) (h : is[k]? = some i) (h0 : 0 ≤ i) (hx : l[i.toNat]? = some x) : (pickL z l is)[k]? = some x := by
  have hi := (List.getElem?_eq_some_iff.1 hx).1
  rw [pickL, List.getElem?_map, h, Option.map_some, if_pos ⟨h0, by omega⟩, List.getD_eq_getElem?_getD, hx]; rfl

theorem pickL_out {α : Type} (z : α) (l : List α) (is : List Int) (k : Nat) (i : Int) (h : is[k]? = some i) (h0 : ¬ (0 ≤ i ∧ i < (l.length : Int))) : (pickL z l is)[k]? = some z := by
  rw [pickL, List.getElem?_map, h, Option.map_some, if_neg h0]

theorem fillUp_skip {α : Type} (W : List α) (z : α) (k : Nat) (h : W[k]? = some z) : fillUp W z k = fillUp W z (k + 1) := by
  rw [← fillUp_set W z k z h]
  have hg := fillUp_get W z k (List.getElem?_eq_some_iff.1 h).1
  obtain ⟨hl, he⟩ := List.getElem?_eq_some_iff.1 hg
  conv => lhs; rw [← List.set_getElem_self hl]
  rw [he]

theorem iC_at {l : List Int} {k : Nat} {x : Int} (h : l[k]? = some x) : (iC l)[k]? = some [.int .i64 x] := by simp [iC, h]

set_option maxRecDepth 20000 in
theorem pick_Value_raw {P : Program} (F : F_schema_pick_Value P) (e1 e2 : Bool) (r : List V) (is : List Int) (hr : r.length ≤ 1000000) (hl : is.length ≤ 1000000) :
    ACalls P F.id [.list e1 3 (vC r), .list e2 1 (iC is)] [] (fun q H' => q = .sl 0 is.length 0 is.length ∧ H' = [.arr 3 (vC (pickL zV r is))]) := by
  refine acalls_of_body F.has ?_
  conv => whnf
  refine And.intro ⟨by omega, by omega, by rw [iC_length]; show (is.length : Int) * 32 ≤ 1099511627776; omega, by rw [iC_length]; show (is.length : Int) ≤ 1099511627776; omega⟩ ?_
  conv => whnf
  refine ⟨fun m ρ H => ∃ k : Nat, k + m = is.length ∧ H = [.arr 3 (vC (fillUp (pickL zV r is) zV k))] ∧ Sv 35 [(0, .list e1 3 (vC r)), (5, .sl 0 is.length 0 is.length), (11, .list e2 1 (iC is)), (12, .int .i64 is.length), (13, .int .i64 k)] ρ, is.length, [], ?_, ?_⟩
  · refine ⟨0, by omega, ?_, Sv.intro rfl ⟨rfl, slEq ?_ ?_, rfl, intEq (by rw [iC_length]), rfl, trivial⟩⟩
    · rw [fillUp_zero, pickL_length]
      simp [vC, iC_length]; exact .inr rfl
    · simp [iC_length]
    · simp [iC_length]
  rintro m ρ H ⟨k, hk, rfl, d, rfl⟩
  (conv => whnf); refine recA (fun hlt => ?_) (fun hlt => ?_)
  · simp at hlt
    obtain ⟨i, hi, _, _⟩ := get_drop hlt
    have hlen : (vC (fillUp (pickL zV r is) zV k)).length = is.length := by rw [vC_length, fillUp_length _ _ _ (by rw [pickL_length]; omega), pickL_length]
    have e1 := wrapI ((k : Int) + 1) (by omega) (by omega)
    conv => whnf
    refine And.intro (by omega) ?_
    (conv => whnf); refine recO (iC_at hi) ?_
    conv => whnf
    refine recA (fun h0 => ?_) (fun h0 => ?_)
    · replace h0 : decide (i ≥ 0) = true := h0
      simp at h0
      (conv => whnf); refine recA (fun h1 => ?_) (fun h1 => ?_)
      · replace h1 : decide (i < ((vC r).length : Int)) = true := h1
        simp [vC_length] at h1
        obtain ⟨x, hx, _, _⟩ := get_drop (l := r) (k := i.toNat) (by omega)
        have hw := pickL_in zV r is k i x hi h0 hx
        conv => whnf
        refine And.intro h0 ?_
        (conv => whnf); refine recO (vC_at hx) ?_
        (conv => whnf); refine recT (by rw [hlen]; exact Nat.beq_refl _) ?_
        conv => whnf
        refine And.intro ⟨by omega, by omega⟩ ?_
        (conv => whnf); refine recT (by rw [hlen]; exact Nat.beq_refl _) ?_
        conv => whnf
        have hidx : (vC (fillUp (pickL zV r is) zV k))[0 + (k : Int).toNat]? = some (valC zV) := by
          rw [Nat.zero_add, Int.toNat_natCast]
          exact vC_at (fillUp_get _ _ _ (by rw [pickL_length]; omega))
        refine recO hidx ?_
        conv => whnf
        refine ⟨m - 1, by omega, Gp.keep rfl ?_ fun ρ1 h => ⟨k + 1, by omega, ?_, h⟩⟩
        · exact ⟨rfl, rfl, rfl, rfl, intEq e1, trivial⟩
        · rw [← fillUp_set _ _ _ _ hw, ← setEs_vC]
          show [AObj.arr 3 (setEs (vC (fillUp (pickL zV r is) zV k)) (0 + (k : Int).toNat) (valC x))] = _
          rw [Nat.zero_add, Int.toNat_natCast]
      · replace h1 : decide (i < ((vC r).length : Int)) = false := h1
        simp [vC_length] at h1
        conv => whnf
        refine ⟨m - 1, by omega, Gp.keep rfl ?_ fun ρ1 h => ⟨k + 1, by omega, ?_, h⟩⟩
        · exact ⟨rfl, rfl, rfl, rfl, intEq e1, trivial⟩
        · rw [← fillUp_skip _ _ _ (pickL_out zV r is k i hi (by omega))]
    · replace h0 : decide (i ≥ 0) = false := h0
      simp at h0
      conv => whnf
      refine ⟨m - 1, by omega, Gp.keep rfl ?_ fun ρ1 h => ⟨k + 1, by omega, ?_, h⟩⟩
      · exact ⟨rfl, rfl, rfl, rfl, intEq e1, trivial⟩
      · rw [← fillUp_skip _ _ _ (pickL_out zV r is k i hi (by omega))]
  · simp at hlt
    have : k = is.length := by omega
    subst this
    conv => whnf
    refine ⟨rfl, ?_⟩
    rw [← pickL_length zV r is, fillUp_all]

theorem pick_Value_spec {P : Program} (F : F_schema_pick_Value P) (e1 e2 : Bool) (r : List V) (is : List Int) (hr : r.length ≤ 1000000) (hl : is.length ≤ 1000000) (H : List AObj) :
    ACalls P F.id [.list e1 3 (vC r), .list e2 1 (iC is)] H (fun q H' => q = .list false 3 (vC (pickL zV r is)) ∧ H' = H) :=
  ACalls.frz1 (by simp [AVal.closed, AVal.isPure]) (pick_Value_raw F e1 e2 r is hr hl) (by rw [vC_length, pickL_length]) (pureEs_vC _)

theorem schema_Pick_spec {P : Program} (F : F_schema_Pick P) (e1 e2 : Bool) (r : List V) (is : List Int) (hr : r.length ≤ 1000000) (hl : is.length ≤ 1000000) (H : List AObj) :
    ACalls P F.id [.list e1 3 (vC r), .list e2 1 (iC is)] H (fun q H' => q = .list false 3 (vC (pickL zV r is)) ∧ H' = H) := by
  refine ACalls.pure (by simp [AVal.closed, AVal.isPure]) (acalls_of_body F.has ?_)
  (conv => whnf); refine ACalls.use (pick_Value_spec F.schema_pick_Value e1 e2 r is hr hl _) ?_
  conv => whnf
  exact .closed _ rfl

set_option maxRecDepth 20000 in
theorem ref5_Pick_raw {P : Program} (F : F_warehouseref5_Pick P) (e1 e2 : Bool) (r : List V) (is : List Int) (hr : r.length ≤ 1000000) (hl : is.length ≤ 1000000) :
    ACalls P F.id [.list e1 3 (vC r), .list e2 1 (iC is)] [] (fun q H' => q = .sl 0 is.length 0 is.length ∧ H' = [.arr 3 (vC (pickL zV r is))]) := by
  refine acalls_of_body F.has ?_
  conv => whnf
  refine And.intro ⟨by omega, by omega, by rw [iC_length]; show (is.length : Int) * 32 ≤ 1099511627776; omega, by rw [iC_length]; show (is.length : Int) ≤ 1099511627776; omega⟩ ?_
  conv => whnf
  refine ⟨fun m ρ H => ∃ k : Nat, k + m = is.length ∧ H = [.arr 3 (vC (fillUp (pickL zV r is) zV k))] ∧ Sv 41 [(0, .list e1 3 (vC r)), (1, .list e2 1 (iC is)), (5, .sl 0 is.length 0 is.length), (6, .int .i64 k)] ρ, is.length, [], ?_, ?_⟩
  · refine ⟨0, by omega, ?_, Sv.intro rfl ⟨rfl, rfl, slEq ?_ ?_, rfl, trivial⟩⟩
    · rw [fillUp_zero, pickL_length]
      simp [vC, iC_length]; exact .inr rfl
    · simp [iC_length]
    · simp [iC_length]
  rintro m ρ H ⟨k, hk, rfl, d, rfl⟩
  (conv => whnf); refine recA (fun hlt => ?_) (fun hlt => ?_)
  · simp [iC_length] at hlt
    obtain ⟨i, hi, _, _⟩ := get_drop hlt
    have hlen : (vC (fillUp (pickL zV r is) zV k)).length = is.length := by rw [vC_length, fillUp_length _ _ _ (by rw [pickL_length]; omega), pickL_length]
    have e1 := wrapI ((k : Int) + 1) (by omega) (by omega)
    conv => whnf
    refine And.intro (by omega) ?_
    (conv => whnf); refine recO (iC_at hi) ?_
    conv => whnf
    refine recA (fun h0 => ?_) (fun h0 => ?_)
    · replace h0 : decide (i ≥ 0) = true := h0
      simp at h0
      conv => whnf
      refine And.intro (by omega) ?_
      (conv => whnf); refine recO (iC_at hi) ?_
      (conv => whnf); refine recA (fun h1 => ?_) (fun h1 => ?_)
      · replace h1 : decide (i < ((vC r).length : Int)) = true := h1
        simp [vC_length] at h1
        obtain ⟨x, hx, _, _⟩ := get_drop (l := r) (k := i.toNat) (by omega)
        have hw := pickL_in zV r is k i x hi h0 hx
        conv => whnf
        refine And.intro (by omega) ?_
        (conv => whnf); refine recO (iC_at hi) ?_
        (conv => whnf); refine And.intro h0 ?_
        (conv => whnf); refine recO (vC_at hx) ?_
        (conv => whnf); refine recT (by rw [hlen]; exact Nat.beq_refl _) ?_
        conv => whnf
        refine And.intro ⟨by omega, by omega⟩ ?_
        (conv => whnf); refine recT (by rw [hlen]; exact Nat.beq_refl _) ?_
        conv => whnf
        have hidx : (vC (fillUp (pickL zV r is) zV k))[0 + (k : Int).toNat]? = some (valC zV) := by
          rw [Nat.zero_add, Int.toNat_natCast]
          exact vC_at (fillUp_get _ _ _ (by rw [pickL_length]; omega))
        refine recO hidx ?_
        conv => whnf
        refine ⟨m - 1, by omega, Gp.keep rfl ?_ fun ρ1 h => ⟨k + 1, by omega, ?_, h⟩⟩
        · exact ⟨rfl, rfl, rfl, intEq e1, trivial⟩
        · rw [← fillUp_set _ _ _ _ hw, ← setEs_vC]
          show [AObj.arr 3 (setEs (vC (fillUp (pickL zV r is) zV k)) (0 + (k : Int).toNat) (valC x))] = _
          rw [Nat.zero_add, Int.toNat_natCast]
      · replace h1 : decide (i < ((vC r).length : Int)) = false := h1
        simp [vC_length] at h1
        conv => whnf
        refine ⟨m - 1, by omega, Gp.keep rfl ?_ fun ρ1 h => ⟨k + 1, by omega, ?_, h⟩⟩
        · exact ⟨rfl, rfl, rfl, intEq e1, trivial⟩
        · rw [← fillUp_skip _ _ _ (pickL_out zV r is k i hi (by omega))]
    · replace h0 : decide (i ≥ 0) = false := h0
      simp at h0
      conv => whnf
      refine ⟨m - 1, by omega, Gp.keep rfl ?_ fun ρ1 h => ⟨k + 1, by omega, ?_, h⟩⟩
      · exact ⟨rfl, rfl, rfl, intEq e1, trivial⟩
      · rw [← fillUp_skip _ _ _ (pickL_out zV r is k i hi (by omega))]
  · simp [iC_length] at hlt
    have : k = is.length := by omega
    subst this
    conv => whnf
    refine ⟨rfl, ?_⟩
    rw [← pickL_length zV r is, fillUp_all]

theorem ref5_Pick_spec {P : Program} (F : F_warehouseref5_Pick P) (e1 e2 : Bool) (r : List V) (is : List Int) (hr : r.length ≤ 1000000) (hl : is.length ≤ 1000000) (H : List AObj) :
    ACalls P F.id [.list e1 3 (vC r), .list e2 1 (iC is)] H (fun q H' => q = .list false 3 (vC (pickL zV r is)) ∧ H' = H) :=
  ACalls.frz1 (by simp [AVal.closed, AVal.isPure]) (ref5_Pick_raw F e1 e2 r is hr hl) (by rw [vC_length, pickL_length]) (pureEs_vC _)

end Go.AW

namespace Go.AW
variable [Draws]
attribute [local irreducible] ACalls
theorem pureEs_iC (l : List Int) : pureEs (iC l) = true := by simp [pureEs, iC, AVal.isPure]

theorem Ghost.one {n : Nat} {live : List (Nat × AVal)} {ρ : List AVal} {H : List AObj} {I : List AVal → List AObj → Prop} (id : Nat) (sz : Nat) (es : List (List AVal)) (ho : H[id]? = .some (.arr sz es)) (hp : pureEs es = true) (hl : ρ.length = n) (h : SvPub H [id] ρ live) (hI : ∀ ρ1, Sv n live ρ1 → I ρ1 [.arr sz es]) : Ghost [] ρ H I :=
  ⟨Gp.one id sz es ho hp hl h hI⟩

end Go.AW

namespace Go.AW
variable [Draws]
attribute [local irreducible] ACalls
def eqS (s t : ByteArray) : Bool := s.data.toList == t.data.toList

theorem idxOf_any {α : Type} (p : α → Bool) : ∀ (l : List α) (i : Int), 0 ≤ i → (idxOf p l i ≥ 0 ↔ l.any p = true)
  | [], i, h => by simp [idxOf]
  | c :: cs, i, h => by
    rw [idxOf]
    split
    · simp_all
    · rw [idxOf_any p cs (i + 1) (by omega)]; simp_all

end Go.AW

namespace Go.AW
variable [Draws]
attribute [local irreducible] ACalls
structure Ent where
  row : List V
  cnt : Int

def entC (e : Ent) : List AVal := [.list false 3 (vC e.row), .int .i64 e.cnt]

def eC (l : List Ent) : List (List AVal) := l.map entC

theorem eC_length (l : List Ent) : (eC l).length = l.length := List.length_map ..

theorem eC_append (a b : List Ent) : eC (a ++ b) = eC a ++ eC b := List.map_append

theorem pureEs_eC (l : List Ent) : pureEs (eC l) = true := by simp [pureEs, eC, entC, AVal.isPure]

theorem eC_at {l : List Ent} {k : Nat} {x : Ent} (h : l[k]? = some x) : (eC l)[k]? = some (entC x) := by
  rw [eC, List.getElem?_map, h]; rfl

def fitB (e : Ent) : Int := if 12 < e.row.length ∨ e.cnt < -65536 ∨ 65536 < e.cnt then 2 else if e.row.all validB then 0 else 8

theorem fitB_zero (e : Ent) (h : fitB e = 0) : e.row.length ≤ 12 ∧ -65536 ≤ e.cnt ∧ e.cnt ≤ 65536 ∧ ∀ v ∈ e.row, validB v = true := by
  unfold fitB at h
  split at h
  · cases h
  · split at h
    · rename_i h1 h2
      exact ⟨by omega, by omega, by omega, by simpa using h2⟩
    · cases h

set_option maxRecDepth 20000 in
theorem formed_spec {P : Program} (F : F_bag_formed P) (x : Ent) (H : List AObj) :
    ACalls P F.id [.agg (entC x)] H (fun r H' => r = .int .i64 (fitB x) ∧ H' = H) := by
  refine ACalls.pure (by simp [AVal.closed, entC, AVal.isPure]) (acalls_of_body F.has ?_)
  (conv => whnf); refine recA (fun h0 => ?_) (fun h0 => ?_)
  · simp [vC_length] at h0
    conv => whnf
    exact pubI (by rw [fitB, if_pos (by omega)])
  simp [vC_length] at h0
  (conv => whnf); refine recA (fun h1 => ?_) (fun h1 => ?_)
  · simp at h1
    conv => whnf
    exact pubI (by rw [fitB, if_pos (by omega)])
  simp at h1
  (conv => whnf); refine recA (fun h2 => ?_) (fun h2 => ?_)
  · simp at h2
    conv => whnf
    exact pubI (by rw [fitB, if_pos (by omega)])
  simp at h2
  have hR : fitB x = if x.row.all validB then 0 else 8 := by rw [fitB, if_neg (by omega)]
  conv => whnf
  refine ⟨fun m ρ H1 => ∃ k : Nat, k + m = x.row.length ∧ (x.row.drop k).all validB = x.row.all validB ∧ H1 = [.arr 2 [entC x]] ∧
    Sv 30 [(20, .list false 3 (vC x.row)), (21, .int .i64 x.row.length), (22, .int .i64 k)] ρ, x.row.length, [], ?_, ?_⟩
  · exact ⟨0, by omega, rfl, rfl, Sv.intro rfl ⟨rfl, intEq (by rw [vC_length]), rfl, trivial⟩⟩
  rintro m ρ H1 ⟨k, hk, hr, rfl, d, rfl⟩
  (conv => whnf); refine recA (fun hlt => ?_) (fun hlt => ?_)
  · simp at hlt
    obtain ⟨v, hv, hd, _⟩ := get_drop hlt
    rw [hd, List.all_cons] at hr
    conv => whnf
    refine And.intro (by omega) ?_
    (conv => whnf); refine recO (vC_at hv) ?_
    conv => whnf
    refine ACalls.use (value_Valid_spec F.value_Valid v _) ?_
    (conv => whnf); refine recA (fun h => ?_) (fun hf => ?_)
    · replace h : (!(validB v)) = true := h
      conv => whnf
      exact pubI (by rw [hR, ← hr, if_neg (by simp_all)])
    · replace hf : (!(validB v)) = false := hf
      conv => whnf
      refine ⟨m - 1, by omega, Gp.one 0 2 [entC x] rfl (by simp [pureEs, entC, AVal.isPure]) rfl ?_ fun ρ1 h => ⟨k + 1, by omega, ?_, rfl, h⟩⟩
      · exact ⟨.closed _ rfl, .closed _ rfl, pub_int (wrapI ((k : Int) + 1) (by omega) (by omega)), trivial⟩
      · rw [← hr]; simp_all
  · simp at hlt
    conv => whnf
    rw [List.drop_eq_nil_of_le hlt] at hr
    exact pubI (by rw [hR, ← hr]; rfl)

theorem small_spec {P : Program} (F : F_warehouseref6_small P) (n : Int) (H : List AObj) :
    ACalls P F.id [.int .i64 n] H (fun r H' => r = .bool (decide (-65536 ≤ n) && decide (n ≤ 65536)) ∧ H' = H) := by
  refine ACalls.pure rfl (acalls_of_body F.has ?_)
  (conv => whnf); refine recA (fun h => ?_) (fun h => ?_)
  · simp at h
    conv => whnf
    exact pubB (by simp [h])
  · simp at h
    conv => whnf
    exact pubB (by simp; omega)

set_option maxRecDepth 20000 in
theorem fits_spec {P : Program} (F : F_warehouseref6_fits P) (x : Ent) (H : List AObj) :
    ACalls P F.id [.agg (entC x)] H (fun r H' => r = .int .i64 (fitB x) ∧ H' = H) := by
  refine ACalls.pure (by simp [AVal.closed, entC, AVal.isPure]) (acalls_of_body F.has ?_)
  (conv => whnf); refine recA (fun h0 => ?_) (fun h0 => ?_)
  · simp [vC_length] at h0
    conv => whnf
    exact pubI (by rw [fitB, if_pos (by omega)])
  simp [vC_length] at h0
  (conv => whnf); refine ACalls.use (small_spec F.warehouseref6_small _ _) ?_
  (conv => whnf); refine recA (fun h1 => ?_) (fun h1 => ?_)
  · replace h1 : (!(decide (-65536 ≤ x.cnt) && decide (x.cnt ≤ 65536))) = true := h1
    simp at h1
    conv => whnf
    exact pubI (by rw [fitB, if_pos (by omega)])
  replace h1 : (!(decide (-65536 ≤ x.cnt) && decide (x.cnt ≤ 65536))) = false := h1
  simp at h1
  have hR : fitB x = if x.row.all validB then 0 else 8 := by rw [fitB, if_neg (by omega)]
  conv => whnf
  refine ⟨fun m ρ H1 => ∃ k : Nat, k + m = x.row.length ∧ (x.row.drop k).all validB = x.row.all validB ∧ H1 = [.arr 2 [entC x]] ∧
    Sv 28 [(1, .ptr 0 1 0 0), (3, .int .i64 k)] ρ, x.row.length, [], ?_, ?_⟩
  · exact ⟨0, by omega, rfl, rfl, Sv.intro rfl ⟨rfl, rfl, trivial⟩⟩
  rintro m ρ H1 ⟨k, hk, hr, rfl, d, rfl⟩
  (conv => whnf); refine recA (fun hlt => ?_) (fun hlt => ?_)
  · simp [vC_length] at hlt
    obtain ⟨v, hv, hd, _⟩ := get_drop hlt
    rw [hd, List.all_cons] at hr
    conv => whnf
    refine And.intro (by omega) ?_
    (conv => whnf); refine recO (vC_at hv) ?_
    conv => whnf
    refine ACalls.use (ref1_Valid_spec F.warehouseref1_Valid v _) ?_
    (conv => whnf); refine recA (fun h => ?_) (fun hf => ?_)
    · replace h : (!(validB v)) = true := h
      conv => whnf
      exact pubI (by rw [hR, ← hr, if_neg (by simp_all)])
    · replace hf : (!(validB v)) = false := hf
      conv => whnf
      refine ⟨m - 1, by omega, Gp.keep rfl ?_ fun ρ1 h => ⟨k + 1, by omega, ?_, rfl, h⟩⟩
      · exact ⟨rfl, intEq (wrapI ((k : Int) + 1) (by omega) (by omega)), trivial⟩
      · rw [← hr]; simp_all
  · simp [vC_length] at hlt
    conv => whnf
    rw [List.drop_eq_nil_of_le hlt] at hr
    exact pubI (by rw [hR, ← hr]; rfl)

def notB : Option (List V) → List V → Bool
  | some q, r => decide (rowsCmp q r ≥ 0)
  | none, _ => false

def bvGo : List Ent → Option (List V) → Int
  | [], _ => 0
  | e :: es, p => if fitB e ≠ 0 then fitB e else if e.cnt = 0 then 8 else if notB p e.row = true then 14 else bvGo es (some e.row)

def bagB (b : List Ent) : Int := if 4096 < b.length then 2 else bvGo b none

def prevR (b : List Ent) : Nat → Option (List V)
  | 0 => none
  | k + 1 => (b[k]?).map Ent.row

theorem prevR_succ {b : List Ent} {k : Nat} {x : Ent} (h : b[k]? = some x) : prevR b (k + 1) = some x.row := by rw [prevR, h]; rfl

set_option maxRecDepth 20000 in
theorem bag_Validate_spec {P : Program} (F : F_bag_Validate P) (ex : Bool) (b : List Ent) (H : List AObj) :
    ACalls P F.id [.list ex 2 (eC b)] H (fun r H' => r = .int .i64 (bagB b) ∧ H' = H) := by
  refine ACalls.pure (by simp [AVal.closed, AVal.isPure]) (acalls_of_body F.has ?_)
  (conv => whnf); refine recA (fun h0 => ?_) (fun h0 => ?_)
  · simp [eC_length] at h0
    conv => whnf
    exact pubI (by rw [bagB, if_pos (by omega)])
  simp [eC_length] at h0
  have hR : bagB b = bvGo b none := by rw [bagB, if_neg (by omega)]
  conv => whnf
  refine ⟨fun m ρ H1 => ∃ k : Nat, k + m = b.length ∧ bvGo (b.drop k) (prevR b k) = bagB b ∧ (∀ q, prevR b k = some q → q.length ≤ 12) ∧ H1 = [] ∧
    Sv 39 [(0, .list ex 2 (eC b)), (9, .list ex 2 (eC b)), (10, .int .i64 b.length), (11, .int .i64 k)] ρ, b.length, [], ?_, ?_⟩
  · exact ⟨0, by omega, hR.symm, fun q h => (by cases h), rfl, Sv.intro rfl ⟨rfl, rfl, intEq (by rw [eC_length]), rfl, trivial⟩⟩
  rintro m ρ H1 ⟨k, hk, hr, hq, rfl, d, rfl⟩
  (conv => whnf); refine recA (fun hlt => ?_) (fun hlt => ?_)
  · simp at hlt
    obtain ⟨x, hx, hd, _⟩ := get_drop hlt
    rw [hd, bvGo] at hr
    have ew := wrapI ((k : Int) + 1) (by omega) (by omega)
    conv => whnf
    refine And.intro (by omega) ?_
    (conv => whnf); refine recO (eC_at hx) ?_
    conv => whnf
    refine ACalls.use (formed_spec F.bag_formed x _) ?_
    (conv => whnf); refine recA (fun h => ?_) (fun h => ?_)
    · replace h : (!(fitB x == 0)) = true := h
      simp at h
      conv => whnf
      exact pubI (by rw [← hr, if_pos h])
    replace h : (!(fitB x == 0)) = false := h
    simp at h
    obtain ⟨g1, g2, g3, g4⟩ := fitB_zero x h
    rw [if_neg (by simp [h])] at hr
    (conv => whnf); refine recA (fun hz => ?_) (fun hz => ?_)
    · replace hz : (x.cnt == 0) = true := hz
      simp at hz
      conv => whnf
      exact pubI (by rw [← hr, if_pos hz])
    replace hz : (x.cnt == 0) = false := hz
    simp at hz
    rw [if_neg hz] at hr
    (conv => whnf); refine recA (fun hp => ?_) (fun hp => ?_)
    · replace hp : decide ((k : Int) > 0) = true := hp
      simp at hp
      obtain ⟨j, rfl⟩ : ∃ j, k = j + 1 := ⟨k - 1, by omega⟩
      obtain ⟨y, hy, _, _⟩ := get_drop (l := b) (k := j) (by omega)
      have ej := wrapI (((j + 1 : Nat) : Int) - 1) (by omega) (by omega)
      have hy2 : (eC b)[(IntKind.i64.wrap (((j + 1 : Nat) : Int) - 1)).toNat]? = some (entC y) := by
        rw [ej, show ((((j + 1 : Nat) : Int) - 1).toNat) = j by omega]; exact eC_at hy
      rw [prevR_succ hy] at hq hr
      have hql := hq _ rfl
      (conv => whnf); refine And.intro (by rw [ej]; omega) ?_
      (conv => whnf); refine recO hy2 ?_
      conv => whnf
      refine ⟨_, value_CompareRows_spec F.value_CompareRows false false y.row x.row (by omega) _, ?_⟩
      (conv => whnf); refine recA (fun hc => ?_) (fun hc => ?_)
      · replace hc : decide (rowsCmp y.row x.row ≥ 0) = true := hc
        conv => whnf
        exact pubI (by rw [← hr, if_pos (show notB (some y.row) x.row = true from hc)])
      · replace hc : decide (rowsCmp y.row x.row ≥ 0) = false := hc
        conv => whnf
        rw [if_neg (by rw [show notB (some y.row) x.row = false from hc]; simp)] at hr
        refine ⟨m - 1, by omega, Gp.none rfl ?_ fun ρ1 h => ⟨j + 1 + 1, by omega, ?_, ?_, rfl, h⟩⟩
        · exact ⟨.closed _ rfl, .closed _ rfl, .closed _ rfl, pub_int ew, trivial⟩
        · rw [prevR_succ hx]; exact hr
        · rw [prevR_succ hx]; intro q hq2; cases hq2; exact g1
    · replace hp : decide ((k : Int) > 0) = false := hp
      simp at hp
      subst hp
      conv => whnf
      rw [if_neg (by simp [prevR, notB])] at hr
      refine ⟨m - 1, by omega, Gp.none rfl ?_ fun ρ1 h => ⟨0 + 1, by omega, ?_, ?_, rfl, h⟩⟩
      · exact ⟨.closed _ rfl, .closed _ rfl, .closed _ rfl, pub_int ew, trivial⟩
      · rw [prevR_succ hx]; exact hr
      · rw [prevR_succ hx]; intro q hq2; cases hq2; exact g1
  · simp at hlt
    conv => whnf
    rw [List.drop_eq_nil_of_le hlt] at hr
    exact pubI hr

set_option maxRecDepth 20000 in
theorem ref6_Validate_spec {P : Program} (F : F_warehouseref6_Validate P) (ex : Bool) (b : List Ent) (H : List AObj) :
    ACalls P F.id [.list ex 2 (eC b)] H (fun r H' => r = .int .i64 (bagB b) ∧ H' = H) := by
  refine ACalls.pure (by simp [AVal.closed, AVal.isPure]) (acalls_of_body F.has ?_)
  (conv => whnf); refine recA (fun h0 => ?_) (fun h0 => ?_)
  · simp [eC_length] at h0
    conv => whnf
    exact pubI (by rw [bagB, if_pos (by omega)])
  simp [eC_length] at h0
  have hR : bagB b = bvGo b none := by rw [bagB, if_neg (by omega)]
  conv => whnf
  refine ⟨fun m ρ H1 => ∃ k : Nat, k + m = b.length ∧ bvGo (b.drop k) (prevR b k) = bagB b ∧ (∀ q, prevR b k = some q → q.length ≤ 12) ∧ H1 = [] ∧
    Sv 45 [(0, .list ex 2 (eC b)), (3, .int .i64 k)] ρ, b.length, [], ?_, ?_⟩
  · exact ⟨0, by omega, hR.symm, fun q h => (by cases h), rfl, Sv.intro rfl ⟨rfl, rfl, trivial⟩⟩
  rintro m ρ H1 ⟨k, hk, hr, hq, rfl, d, rfl⟩
  (conv => whnf); refine recA (fun hlt => ?_) (fun hlt => ?_)
  · simp [eC_length] at hlt
    obtain ⟨x, hx, hd, _⟩ := get_drop hlt
    rw [hd, bvGo] at hr
    have ew := wrapI ((k : Int) + 1) (by omega) (by omega)
    conv => whnf
    refine And.intro (by omega) ?_
    (conv => whnf); refine recO (eC_at hx) ?_
    conv => whnf
    refine ACalls.use (fits_spec F.warehouseref6_fits x _) ?_
    (conv => whnf); refine recA (fun h => ?_) (fun h => ?_)
    · replace h : (!(fitB x == 0)) = true := h
      simp at h
      conv => whnf
      exact pubI (by rw [← hr, if_pos h])
    replace h : (!(fitB x == 0)) = false := h
    simp at h
    obtain ⟨g1, g2, g3, g4⟩ := fitB_zero x h
    rw [if_neg (by simp [h])] at hr
    (conv => whnf); refine And.intro (by omega) ?_
    (conv => whnf); refine recO (eC_at hx) ?_
    (conv => whnf); refine recA (fun hz => ?_) (fun hz => ?_)
    · replace hz : (x.cnt == 0) = true := hz
      simp at hz
      conv => whnf
      exact pubI (by rw [← hr, if_pos hz])
    replace hz : (x.cnt == 0) = false := hz
    simp at hz
    rw [if_neg hz] at hr
    (conv => whnf); refine recA (fun hp => ?_) (fun hp => ?_)
    · replace hp : decide ((k : Int) > 0) = true := hp
      simp at hp
      obtain ⟨j, rfl⟩ : ∃ j, k = j + 1 := ⟨k - 1, by omega⟩
      obtain ⟨y, hy, _, _⟩ := get_drop (l := b) (k := j) (by omega)
      have ej := wrapI (((j + 1 : Nat) : Int) - 1) (by omega) (by omega)
      have hy2 : (eC b)[(IntKind.i64.wrap (((j + 1 : Nat) : Int) - 1)).toNat]? = some (entC y) := by
        rw [ej, show ((((j + 1 : Nat) : Int) - 1).toNat) = j by omega]; exact eC_at hy
      rw [prevR_succ hy] at hq hr
      have hql := hq _ rfl
      (conv => whnf); refine And.intro (by rw [ej]; omega) ?_
      (conv => whnf); refine recO hy2 ?_
      (conv => whnf); refine And.intro (by omega) ?_
      (conv => whnf); refine recO (eC_at hx) ?_
      conv => whnf
      refine ⟨_, ref1_CompareRows_spec F.warehouseref1_CompareRows false false y.row x.row (by omega) _, ?_⟩
      (conv => whnf); refine recA (fun hc => ?_) (fun hc => ?_)
      · replace hc : decide (rowsCmp y.row x.row ≥ 0) = true := hc
        conv => whnf
        exact pubI (by rw [← hr, if_pos (show notB (some y.row) x.row = true from hc)])
      · replace hc : decide (rowsCmp y.row x.row ≥ 0) = false := hc
        conv => whnf
        rw [if_neg (by rw [show notB (some y.row) x.row = false from hc]; simp)] at hr
        refine ⟨m - 1, by omega, Gp.none rfl ?_ fun ρ1 h => ⟨j + 1 + 1, by omega, ?_, ?_, rfl, h⟩⟩
        · exact ⟨.closed _ rfl, pub_int ew, trivial⟩
        · rw [prevR_succ hx]; exact hr
        · rw [prevR_succ hx]; intro q hq2; cases hq2; exact g1
    · replace hp : decide ((k : Int) > 0) = false := hp
      simp at hp
      subst hp
      conv => whnf
      rw [if_neg (by simp [prevR, notB])] at hr
      refine ⟨m - 1, by omega, Gp.none rfl ?_ fun ρ1 h => ⟨0 + 1, by omega, ?_, ?_, rfl, h⟩⟩
      · exact ⟨.closed _ rfl, pub_int ew, trivial⟩
      · rw [prevR_succ hx]; exact hr
      · rw [prevR_succ hx]; intro q hq2; cases hq2; exact g1
  · simp [eC_length] at hlt
    conv => whnf
    rw [List.drop_eq_nil_of_le hlt] at hr
    exact pubI hr

end Go.AW

namespace Go.AW
variable [Draws]
theorem ACalls.weakR {P : Program} {f : FuncId} {args : List AVal} {H : List AObj} {Q Q' : AVal → List AObj → Prop} (h : ACalls P f args H Q) (hq : ∀ r H', Q r H' → ∃ r', Wk r r' ∧ Q' r' H') : ACalls P f args H Q' := by
  intro C τ w vs hw hl hr
  have h := h C τ w vs hw hl hr
  unfold CallsX at h ⊢
  split at h
  · exact Calls.mono h fun e w' ⟨v, r, C', τ', H', h1, h2, h3, h4⟩ => by
      obtain ⟨r', hk, hq'⟩ := hq _ _ h2
      exact ⟨v, r', C', τ', H', h1, hq', h3.weak hk, h4⟩
  · obtain ⟨v, r, C', τ', H', h1, h2, h3, h4⟩ := h
    obtain ⟨r', hk, hq'⟩ := hq _ _ h2
    exact ⟨v, r', C', τ', H', h1, hq', h3.weak hk, h4⟩
  · exact h

end Go.AW

namespace Go.AW
variable [Draws]
attribute [local irreducible] ACalls
set_option maxRecDepth 20000 in
theorem CloneV_spec {P : Program} (F : F_slices_Clone_LValue_Value P) (ex : Bool) (cs : List V) (hl : cs.length ≤ 1000000) (H : List AObj) :
    ACalls P F.id [.list ex 3 (vC cs)] H (fun r H' => r = .list false 3 (vC cs) ∧ H' = H) := by
  have h0 : ACalls P F.id [.list ex 3 (vC cs)] [] (fun r H1 => ∃ r', Pub H1 0 [] r r' ∧ ((r' = .nil ∧ cs = []) ∨ r' = .list false 3 (vC cs))) := by
    refine acalls_of_body F.has ?_
    conv => whnf
    refine And.intro (fun h => ?_) ?_
    · conv => whnf
      exact ⟨.nil, .closed _ rfl, .inl ⟨rfl, by simpa [vC] using h⟩⟩
    · conv => whnf
      refine And.intro ⟨roomMul (by simp [vC_length]; omega) (by omega), roomB_le (by simp [vC_length]; omega), .inr rfl⟩ ?_
      conv => whnf
      have key : List.replicate 0 [AVal.int .i64 0, .int .i64 0, .str (bs [])] ++ vC cs = vC cs := by simp
      refine ⟨_, pubF (es := vC cs) ?_ ?_ ?_ (pureEs_vC _), .inr rfl⟩
      · rw [← key]; rfl
      · exact congrArg List.length key
      · exact congrArg List.length key
  refine ACalls.weakR (ACalls.lift0 (by simp [AVal.closed, AVal.isPure]) h0) ?_
  rintro r H' ⟨h, rfl⟩
  rcases h with ⟨rfl, rfl⟩ | rfl
  · exact ⟨_, .nil false 3, rfl, rfl⟩
  · exact ⟨_, .refl _, rfl, rfl⟩

def smallB (n : Int) : Bool := decide (-65536 ≤ n) && decide (n ≤ 65536)

set_option maxRecDepth 20000 in
theorem done_spec {P : Program} (F : F_bag_done P) (O : List Ent) :
    ACalls P F.id [.sl 0 O.length 0 O.length] [.arr 2 (eC O)]
      (fun r H' => H' = [.arr 2 (eC O)] ∧ ((4096 < O.length ∧ r = .tuple [.nil, .int .i64 2]) ∨ (O.length ≤ 4096 ∧ r = .tuple [.sl 0 O.length 0 O.length, .int .i64 0]))) := by
  refine acalls_of_body F.has ?_
  (conv => whnf); refine recT (by rw [eC_length]; exact Nat.beq_refl _) ?_
  (conv => whnf); refine recA (fun h => ?_) (fun h => ?_)
  · simp at h
    conv => whnf
    exact ⟨rfl, .inl ⟨by omega, rfl⟩⟩
  · simp at h
    conv => whnf
    exact ⟨rfl, .inr ⟨by omega, rfl⟩⟩

def mrg : List Ent → List Ent → List Ent
  | [], b => b
  | x :: a, [] => x :: a
  | x :: a, y :: b => if rowsCmp x.row y.row < 0 then x :: mrg a (y :: b) else if 0 < rowsCmp x.row y.row then y :: mrg (x :: a) b else ⟨x.row, x.cnt + y.cnt⟩ :: mrg a b
termination_by a b => a.length + b.length

theorem mrg_nil (b : List Ent) : mrg [] b = b := by rw [mrg]

theorem mrg_nil2 (a : List Ent) : mrg a [] = a := by
  cases a with
  | nil => rw [mrg]
  | cons x a => rw [mrg]

theorem mrg_cons (x y : Ent) (a b : List Ent) : mrg (x :: a) (y :: b) = if rowsCmp x.row y.row < 0 then x :: mrg a (y :: b) else if 0 < rowsCmp x.row y.row then y :: mrg (x :: a) b else ⟨x.row, x.cnt + y.cnt⟩ :: mrg a b := by rw [mrg]

def nzB (e : Ent) : Bool := !(e.cnt == 0)

def resR (l : List Ent) : AVal :=
  if (l.all fun e => smallB e.cnt) = true ∧ (l.filter nzB).length ≤ 4096 then .tuple [.list false 2 (eC (l.filter nzB)), .int .i64 0] else .tuple [.nil, .int .i64 2]

def EntOk (e : Ent) : Prop := e.row.length ≤ 12 ∧ -65536 ≤ e.cnt ∧ e.cnt ≤ 65536

theorem resR_bad (l : List Ent) (h : (l.all fun e => smallB e.cnt) = false) : resR l = .tuple [.nil, .int .i64 2] := by
  rw [resR, if_neg (by simp [h])]

theorem mrgA {a b a1 : List Ent} {x : Ent} (ha : a = x :: a1) (h : b = [] ∨ ∃ y b1, b = y :: b1 ∧ rowsCmp x.row y.row < 0) : mrg a b = x :: mrg a1 b := by
  subst ha
  rcases h with rfl | ⟨y, b1, rfl, h⟩
  · rw [mrg_nil2, mrg_nil2]
  · rw [mrg_cons, if_pos h]

theorem mrgB {a b b1 : List Ent} {y : Ent} (hb : b = y :: b1) (h : a = [] ∨ ∃ x a1, a = x :: a1 ∧ 0 < rowsCmp x.row y.row) : mrg a b = y :: mrg a b1 := by
  subst hb
  rcases h with rfl | ⟨x, a1, rfl, h⟩
  · rw [mrg_nil, mrg_nil]
  · rw [mrg_cons, if_neg (by omega), if_pos h]

theorem mrgC {a b a1 b1 : List Ent} {x y : Ent} (ha : a = x :: a1) (hb : b = y :: b1) (h : rowsCmp x.row y.row = 0) : mrg a b = ⟨x.row, x.cnt + y.cnt⟩ :: mrg a1 b1 := by
  subst ha hb
  rw [mrg_cons, if_neg (by omega), if_neg (by omega)]

theorem tailE (es : List Ent) : List.drop (1 : Int).toNat (List.take (eC es).length (eC es)) = eC (es.drop 1) := by
  rw [List.take_length]; simp [eC]

theorem pubL {H1 : List AObj} {n : Nat} {ids : List Nat} {f : Bool} {sz : Nat} {X Y : List (List AVal)} (h : X = Y) : Pub H1 n ids (.list f sz X) (.list f sz Y) := by subst h; exact .closed _ rfl

end Go.AW

namespace Go.AW
variable [Draws]
attribute [local irreducible] ACalls
theorem mrg_length : ∀ (a b : List Ent), (mrg a b).length ≤ a.length + b.length
  | [], b => by rw [mrg_nil]; omega
  | x :: a, [] => by rw [mrg_nil2]; omega
  | x :: a, y :: b => by
    rw [mrg_cons]
    have h1 := mrg_length a (y :: b)
    have h2 := mrg_length (x :: a) b
    have h3 := mrg_length a b
    split
    · simp at h1 ⊢; omega
    split
    · simp at h2 ⊢; omega
    · simp; omega
termination_by a b => a.length + b.length

end Go.AW

namespace Go.AW
variable [Draws]
attribute [local irreducible] ACalls
theorem obPush (O : List Ent) (row : List V) (c : Int) (n : Nat) (H : List AObj) (h1 : H[1]? = some (.arr 3 (vC row))) (hn : n = row.length) :
    ObP H [0] (.arr 2 (eC O ++ [[.sl 1 n 0 n, .int .i64 c]])) (.arr 2 (eC (O ++ [⟨row, c⟩]))) := by
  have hp : Pub H 0 [0] (.sl 1 n 0 n) (.list false 3 (vC row)) := by
    have h := Pub.frz (n := 0) (ids := [0]) 1 (vC row).length 0 (vC row).length 3 (vC row) h1 rfl (pureEs_vC _) (by simp)
    rw [List.drop_zero, List.take_length, vC_length, ← hn] at h
    exact h
  have hcell : ∀ (e : Ent) (j : Nat) (d d1 : AVal), (entC e)[j]? = some d → (entC e)[j]? = some d1 → Pub H 0 [0] d d1 ∧ d1.isCell = true := by
    intro e j d d1 h2 h3
    rcases j with _ | _ | j
    · cases h2; cases h3; exact ⟨.closed _ rfl, rfl⟩
    · cases h2; cases h3; exact ⟨.closed _ rfl, rfl⟩
    · simp [entC] at h2
  have hi : ∀ (i : Nat) (e e1 : List AVal), (eC O ++ [[.sl 1 n 0 n, .int .i64 c]])[i]? = some e → (eC (O ++ [⟨row, c⟩]))[i]? = some e1 →
      (∃ x : Ent, e = entC x ∧ e1 = entC x) ∨ (e = [.sl 1 n 0 n, .int .i64 c] ∧ e1 = entC ⟨row, c⟩) := by
    intro i e e1 h2 h3
    rw [eC_append] at h3
    by_cases hlt : i < (eC O).length
    · rw [List.getElem?_append_left hlt] at h2 h3
      rw [eC, List.getElem?_map] at h2 h3
      rcases hO : O[i]? with _ | x
      · rw [hO] at h2; cases h2
      · rw [hO] at h2 h3
        cases h2; cases h3
        exact .inl ⟨x, rfl, rfl⟩
    · rw [List.getElem?_append_right (by omega)] at h2 h3
      rcases hk : i - (eC O).length with _ | k
      · rw [hk] at h2 h3
        simp at h2; simp [eC] at h3
        exact .inr ⟨h2.symm, h3.symm⟩
      · rw [hk] at h2; simp at h2
  refine .map 2 _ _ (by simp [eC]) (fun i e e1 h2 h3 => ?_) (fun i j e e1 d d1 h2 h3 h4 h5 => ?_)
  · rcases hi i e e1 h2 h3 with ⟨x, rfl, rfl⟩ | ⟨rfl, rfl⟩ <;> rfl
  · rcases hi i e e1 h2 h3 with ⟨x, rfl, rfl⟩ | ⟨rfl, rfl⟩
    · exact hcell x j d d1 h4 h5
    · rcases j with _ | _ | j
      · cases h4; cases h5; exact ⟨hp, rfl⟩
      · cases h4; cases h5; exact ⟨.closed _ rfl, rfl⟩
      · simp at h4

theorem filter_le_of_prefix (pre l : List Ent) (h : ∃ t, l = pre ++ t) : (pre.filter nzB).length ≤ (l.filter nzB).length := by
  obtain ⟨t, rfl⟩ := h
  rw [List.filter_append, List.length_append]; omega

set_option maxRecDepth 20000 in
theorem ref6_result_spec {P : Program} (F : F_warehouseref6_result P) (ex : Bool) (l : List Ent) (hl : l.length ≤ 100000) (hr : ∀ e ∈ l, e.row.length ≤ 1000) (H : List AObj) :
    ACalls P F.id [.list ex 2 (eC l)] H (fun r H' => r = resR l ∧ H' = H) := by
  refine ACalls.pure (by simp [AVal.closed, AVal.isPure]) (acalls_of_body F.has ?_)
  conv => whnf
  refine ⟨fun m ρ H => ∃ k : Nat, k + m = l.length ∧ ((l.take k).all fun e => smallB e.cnt) = true ∧ ((l.take k).filter nzB).length ≤ 4096 ∧ H = [.arr 2 (eC ((l.take k).filter nzB))] ∧
      Sv 46 [(0, .list ex 2 (eC l)), (4, .sl 0 ((l.take k).filter nzB).length 0 ((l.take k).filter nzB).length), (5, .int .i64 k)] ρ, l.length, [(4, 2)], ?_, ?_⟩
  · exact ⟨0, by omega, rfl, by simp, by rfl, Sv.intro rfl ⟨rfl, rfl, rfl, trivial⟩⟩
  rintro m ρ H ⟨k, hk, hP, hO, rfl, d, rfl⟩
  (conv => whnf); refine recA (fun hlt => ?_) (fun hlt => ?_)
  · simp [eC_length] at hlt
    obtain ⟨x, hx, hxd, hxm⟩ := get_drop hlt
    have ew := wrapI ((k : Int) + 1) (by omega) (by omega)
    have hxr := hr x hxm
    have hT : l.take (k + 1) = l.take k ++ [x] := by rw [List.take_add_one, hx]; rfl
    have hl2 : l = l.take k ++ x :: l.drop (k + 1) := by rw [← hxd, List.take_append_drop]
    conv => whnf
    refine And.intro (by omega) ?_
    (conv => whnf); refine recO (eC_at hx) ?_
    (conv => whnf); refine recA (fun hz => ?_) (fun hz => ?_)
    · replace hz : (x.cnt == 0) = true := hz
      simp at hz
      have hF : (l.take (k + 1)).filter nzB = (l.take k).filter nzB := by rw [hT, List.filter_append]; simp [nzB, hz]
      conv => whnf
      refine ⟨m - 1, by omega, Gp.keep rfl ?_ fun ρ1 h => ⟨k + 1, by omega, ?_, ?_, ?_, h⟩⟩
      · exact ⟨rfl, by rw [hF]; rfl, intEq ew, trivial⟩
      · rw [hT, List.all_append, hP]; simp [smallB, hz]
      · rw [hF]; exact hO
      · rw [hF]
    replace hz : (x.cnt == 0) = false := hz
    simp at hz
    conv => whnf
    refine And.intro (by omega) ?_
    (conv => whnf); refine recO (eC_at hx) ?_
    conv => whnf
    refine ACalls.use (small_spec F.warehouseref6_small _ _) ?_
    (conv => whnf); refine recA (fun hs => ?_) (fun hs => ?_)
    · replace hs : (!(smallB x.cnt)) = true := hs
      simp at hs
      conv => whnf
      rw [resR_bad l (by rw [hl2]; simp [hs])]
      exact pub2 (.closed _ rfl) (.closed _ rfl)
    replace hs : (!(smallB x.cnt)) = false := hs
    simp at hs
    have hF : (l.take (k + 1)).filter nzB = (l.take k).filter nzB ++ [x] := by rw [hT, List.filter_append]; simp [nzB, hz]
    (conv => whnf); refine recT (by rw [eC_length]; exact Nat.beq_refl _) ?_
    (conv => whnf); refine recA (fun hq => ?_) (fun hq => ?_)
    · replace hq : ((((l.take k).filter nzB).length : Int) == 4096) = true := hq
      simp at hq
      conv => whnf
      have h3 := filter_le_of_prefix (l.take (k + 1)) l ⟨l.drop (k + 1), (List.take_append_drop _ _).symm⟩
      rw [hF, List.length_append] at h3
      rw [resR, if_neg (by simp at h3; omega)]
      exact pub2 (.closed _ rfl) (.closed _ rfl)
    · replace hq : ((((l.take k).filter nzB).length : Int) == 4096) = false := hq
      simp at hq
      conv => whnf
      refine And.intro (by omega) ?_
      (conv => whnf); refine recO (eC_at hx) ?_
      (conv => whnf); refine And.intro ⟨roomMul (by rw [vC_length]; omega) (by omega), roomB_le (by rw [vC_length]; omega)⟩ ?_
      (conv => whnf); refine And.intro (by omega) ?_
      (conv => whnf); refine recO (eC_at hx) ?_
      (conv => whnf); refine recT (by rw [eC_length]; exact Nat.beq_refl _) ?_
      (conv => whnf); refine And.intro ⟨roomMul (by simp; omega) (by omega), roomB_le (by simp; omega), rfl, by rw [eC_length]⟩ ?_
      conv => whnf
      refine And.intro (by (conv => whnf); try rfl) ?_
      conv => whnf
      refine And.intro (by (conv => whnf); refine And.intro (by omega) ?_; (conv => whnf); refine recO (eC_at hx) ?_; (conv => whnf); try rfl) ?_
      conv => whnf
      have hFl : (eC ((l.take k).filter nzB) ++ [[AVal.sl 1 (vC x.row).length 0 (vC x.row).length, .int .i64 x.cnt]]).length = ((l.take (k + 1)).filter nzB).length := by
        rw [hF]; simp [eC_length]
      refine ⟨m - 1, by omega, Gp.some (H1 := [.arr 2 (eC ((l.take k).filter nzB ++ [x]))]) [0] (by simp) ?_ rfl ?_ fun ρ1 h => ⟨k + 1, by omega, ?_, ?_, ?_, h⟩⟩
      · exact ⟨⟨_, rfl, obPush ((l.take k).filter nzB) x.row x.cnt (vC x.row).length _ rfl (vC_length _)⟩, trivial⟩
      · exact ⟨.closed _ rfl, pubSl (k := 0) rfl rfl hFl hFl, pub_int ew, trivial⟩
      · rw [hT, List.all_append, hP]; simp [hs]
      · rw [hF, List.length_append]; simp; omega
      · rw [hF]
  · simp [eC_length] at hlt
    have hT : l.take k = l := List.take_of_length_le hlt
    conv => whnf
    rw [hT] at hP hO ⊢
    rw [resR, if_pos ⟨hP, hO⟩]
    exact pub2 (pubF rfl (eC_length _).symm (eC_length _).symm (pureEs_eC _)) (.closed _ rfl)

theorem resR_cases (l : List Ent) : resR l = .tuple [.nil, .int .i64 2] ∨ resR l = .tuple [.list false 2 (eC (l.filter nzB)), .int .i64 0] := by
  unfold resR
  split
  · exact .inr rfl
  · exact .inl rfl

end Go.AW

namespace Go.AW
variable [Draws]
attribute [local irreducible] ACalls
structure Grp where
  n : Int
  vals : List Ent

def oneB (e : Ent) : Bool := match e.row with
  | [v] => !(v.kind == 0)
  | _ => false

def rowsB (n : Int) : Bool := decide (-268435456 ≤ n) && decide (n ≤ 268435456)

def grpB (g : Grp) : Int := if rowsB g.n = false then 1 else if bagB g.vals ≠ 0 then bagB g.vals else if g.vals.all oneB then 0 else 8

end Go.AW

namespace Go.AW
variable [Draws]
section
variable {P : Program} {C : Nat → Nat} {τ : Nat → Option Loc} {H : List AObj} {w : World}
inductive WkD : AVal → AVal → Prop where
  | refl (a : AVal) : WkD a a
  | nil (x : Bool) (sz : Nat) : WkD .nil (.list x sz [])
  | list (x y : Bool) (sz : Nat) (es fs : List (List AVal)) (h : y = true → x = true) (hl : es.length = fs.length)
      (hl2 : ∀ (i : Nat) (e f : List AVal), es[i]? = some e → fs[i]? = some f → e.length = f.length)
      (hcell : ∀ (i j : Nat) (f : List AVal) (c : AVal), fs[i]? = some f → f[j]? = some c → c.isCell = true)
      (hc : ∀ (i j : Nat) (e f : List AVal) (d c : AVal), es[i]? = some e → fs[i]? = some f → e[j]? = some d → f[j]? = some c → WkD d c) : WkD (.list x sz es) (.list y sz fs)
  | agg (asv bs : List AVal) (hl : asv.length = bs.length) (h : ∀ (i : Nat) (a b : AVal), asv[i]? = some a → bs[i]? = some b → WkD a b) : WkD (.agg asv) (.agg bs)
  | tuple (asv bs : List AVal) (hl : asv.length = bs.length) (h : ∀ (i : Nat) (a b : AVal), asv[i]? = some a → bs[i]? = some b → WkD a b) : WkD (.tuple asv) (.tuple bs)

theorem Rd.weakD {a b : AVal} {v : Value} (h : Rd C w a v) (hw : WkD a b) : Rd C w b v := by
  induction hw generalizing v with
  | refl => exact h
  | nil x sz => cases h; exact .list0 x sz none 0 (fun _ => rfl)
  | list x y sz es fs hxy hl hl2 hcell hc ih =>
    have hsome : ∀ {i : Nat} {f : List AVal}, fs[i]? = some f → ∃ e, es[i]? = some e ∧ e.length = f.length := fun {i f} hf => by
      have hi : i < es.length := by have := (List.getElem?_eq_some_iff.1 hf).1; omega
      exact ⟨es[i], List.getElem?_eq_getElem hi, hl2 i _ _ (List.getElem?_eq_getElem hi) hf⟩
    cases h with
    | list0 _ _ a cap hx =>
      cases fs with
      | nil => exact .list0 y sz a cap fun hy => hx (hxy hy)
      | cons f fs => simp at hl
    | list _ _ _ b off cap vs hx hcap hsz hC hcl hp hrd =>
      rw [hl]
      refine .list y sz fs b off cap vs (fun hy => by rw [← hl]; exact hx (hxy hy)) (by omega) (fun f hf => ?_) (by rw [← hl]; exact hC) (fun i j hi hj => hcl i j (by omega) hj) hcell (fun i j f c hf hcc => ?_)
      · obtain ⟨i, hi, rfl⟩ := List.getElem_of_mem hf
        obtain ⟨e, he, hle⟩ := hsome (List.getElem?_eq_getElem hi)
        rw [← hle]; exact hsz e (List.mem_of_getElem? he)
      · obtain ⟨e, he, hle⟩ := hsome hf
        have hj : j < e.length := by have := (List.getElem?_eq_some_iff.1 hcc).1; omega
        exact ih i j e f e[j] c he hf (List.getElem?_eq_getElem hj) hcc (hrd i j e e[j] he (List.getElem?_eq_getElem hj))
  | agg => cases h
  | tuple => cases h

theorem Rel.weakD {a b : AVal} {v : Value} (h : Rel C w τ H a v) (hw : WkD a b) : Rel C w τ H b v := by
  induction hw generalizing v with
  | refl => exact h
  | nil x sz =>
    cases h with
    | rd h => exact .rd (h.weakD (.nil x sz))
  | list x y sz es fs hxy hl hl2 hcell hc ih =>
    cases h with
    | rd h => exact .rd (h.weakD (.list x y sz es fs hxy hl hl2 hcell hc))
  | agg asv bs hl h2 ih =>
    cases h with
    | rd h => cases h
    | agg _ vs hlv hv =>
      refine .agg bs vs (by omega) fun i c u hc hu => ?_
      have hi : i < asv.length := by have := (List.getElem?_eq_some_iff.1 hc).1; omega
      exact ih i asv[i] c (List.getElem?_eq_getElem hi) hc (hv i asv[i] u (List.getElem?_eq_getElem hi) hu)
  | tuple asv bs hl h2 ih =>
    cases h with
    | rd h => cases h
    | tuple _ vs hlv hv =>
      refine .tuple bs vs (by omega) fun i c u hc hu => ?_
      have hi : i < asv.length := by have := (List.getElem?_eq_some_iff.1 hc).1; omega
      exact ih i asv[i] c (List.getElem?_eq_getElem hi) hc (hv i asv[i] u (List.getElem?_eq_getElem hi) hu)

def WksD (asv bs : List AVal) : Prop := asv.length = bs.length ∧ ∀ (i : Nat) (a b : AVal), asv[i]? = some a → bs[i]? = some b → WkD a b

theorem WksD.nil : WksD [] [] := ⟨rfl, fun i a b h => by simp at h⟩

theorem WksD.cons {a b : AVal} {asv bs : List AVal} (h : WkD a b) (hs : WksD asv bs) : WksD (a :: asv) (b :: bs) := by
  refine ⟨by simp [hs.1], fun i x y hx hy => ?_⟩
  cases i with
  | zero => simp at hx hy; subst hx hy; exact h
  | succ i => exact hs.2 i x y (by simpa using hx) (by simpa using hy)

theorem WkD.tuples {asv bs : List AVal} (h : WksD asv bs) : WkD (.tuple asv) (.tuple bs) := .tuple asv bs h.1 h.2

theorem ACalls.weakD {f : FuncId} {args bs : List AVal} {Q : AVal → List AObj → Prop} (h : ACalls P f bs H Q) (hw : WksD args bs) : ACalls P f args H Q := by
  intro C τ w vs hwf hl hr
  refine h C τ w vs hwf (by rw [← hw.1]; exact hl) fun i b v hb hv => ?_
  have hi : i < args.length := by have := (List.getElem?_eq_some_iff.1 hb).1; have := hw.1; omega
  exact (hr i args[i] v (List.getElem?_eq_getElem hi) hv).weakD (hw.2 i args[i] b (List.getElem?_eq_getElem hi) hb)

theorem ACalls.weakRD {f : FuncId} {args : List AVal} {Q Q' : AVal → List AObj → Prop} (h : ACalls P f args H Q) (hq : ∀ r H', Q r H' → ∃ r', WkD r r' ∧ Q' r' H') : ACalls P f args H Q' := by
  intro C τ w vs hw hl hr
  have h := h C τ w vs hw hl hr
  unfold CallsX at h ⊢
  split at h
  · exact Calls.mono h fun e w' ⟨v, r, C', τ', H', h1, h2, h3, h4⟩ => by
      obtain ⟨r', hk, hq'⟩ := hq _ _ h2
      exact ⟨v, r', C', τ', H', h1, hq', h3.weakD hk, h4⟩
  · obtain ⟨v, r, C', τ', H', h1, h2, h3, h4⟩ := h
    obtain ⟨r', hk, hq'⟩ := hq _ _ h2
    exact ⟨v, r', C', τ', H', h1, hq', h3.weakD hk, h4⟩
  · exact h

end
end Go.AW

namespace Go.AW
variable [Draws]
attribute [local irreducible] ACalls
def sumE (a b : List Ent) : Int :=
  if bagB a ≠ 0 then bagB a else if bagB b ≠ 0 then bagB b else if ((mrg a b).all fun e => smallB e.cnt) = true ∧ ((mrg a b).filter nzB).length ≤ 4096 then 0 else 2

def sumL (a b : List Ent) : List Ent := (mrg a b).filter nzB

def mrgE (a b : Grp) : Int := if rowsB (a.n + b.n) = false then 2 else sumE a.vals b.vals

def mrgG (a b : Grp) : Grp := if mrgE a b = 0 then ⟨a.n + b.n, sumL a.vals b.vals⟩ else ⟨0, []⟩

def GrpOk (g : Grp) : Prop := -1000000000 ≤ g.n ∧ g.n ≤ 1000000000

end Go.AW

namespace Go.AW
variable [Draws]
attribute [local irreducible] ACalls
def oneG (v : V) (c : Int) : Grp := ⟨c, if v.kind ≠ 0 ∧ c ≠ 0 then [⟨[v], c⟩] else []⟩

def preE (g : Grp) (v : V) (c : Int) : Int := if grpB g ≠ 0 then grpB g else if validB v = false then 8 else if smallB c = false then 1 else 0

def addGE (g : Grp) (v : V) (c : Int) : Int := if preE g v c ≠ 0 then preE g v c else mrgE g (oneG v c)

def addGG (g : Grp) (v : V) (c : Int) : Grp := if preE g v c ≠ 0 then ⟨0, []⟩ else mrgG g (oneG v c)

theorem grpB_ok {g : Grp} (h : grpB g = 0) : GrpOk g ∧ rowsB g.n = true ∧ bagB g.vals = 0 ∧ g.vals.all oneB = true := by
  unfold grpB at h
  split at h
  · cases h
  rename_i h1
  split at h
  · rename_i h2; exact absurd h h2
  rename_i h2
  split at h
  · rename_i h3
    simp [rowsB] at h1
    exact ⟨⟨by omega, by omega⟩, by simp [rowsB, h1], by simpa using h2, h3⟩
  · cases h

end Go.AW

namespace Go.AW
variable [Draws]
attribute [local irreducible] ACalls
def numV (n : Int) : V := if n < -1073741824 ∨ 1073741824 < n then zV else ⟨2, n, bs []⟩

def num0 (e : Ent) : Int := (e.row.getD 0 zV).num

def totGo : List Ent → Int → Int → Int × Int
  | [], s, c => (s, c)
  | e :: es, s, c => totGo es (w64 (s + w64 (num0 e * e.cnt))) (w64 (c + e.cnt))

end Go.AW

namespace Go.AW
variable [Draws]
attribute [local irreducible] ACalls
theorem ref17_number_spec {P : Program} (F : F_warehouseref17_number P) (n : Int) (H : List AObj) :
    ACalls P F.id [.int .i64 n] H (fun r H' => r = .agg (valC (numV n)) ∧ H' = H) := by
  refine ACalls.pure rfl (acalls_of_body F.has ?_)
  (conv => whnf); refine recA (fun h => ?_) (fun h => ?_)
  · simp at h
    conv => whnf
    rw [numV, if_pos (by omega)]
    exact .closed _ rfl
  simp at h
  (conv => whnf); refine recA (fun h2 => ?_) (fun h2 => ?_)
  · simp at h2
    conv => whnf
    rw [numV, if_pos (by omega)]
    exact .closed _ rfl
  · simp at h2
    conv => whnf
    rw [numV, if_neg (by omega)]
    exact .closed _ rfl

end Go.AW

namespace Go.AW
variable [Draws]
attribute [local irreducible] ACalls
set_option maxRecDepth 20000 in
theorem IndexFuncE_spec {P : Program} (F : F_slices_IndexFunc_LEntry_Entry P) (g : FuncId) (caps : List AVal) (p : Ent → Bool) (H : List AObj) (cs : List Ent) (hg : ∀ c ∈ cs, ACalls P g ([.agg (entC c)] ++ caps) H (fun r H' => r = .bool (p c) ∧ H' = H))
    (ex : Bool) (hl : cs.length ≤ 1000000) :
    ACalls P F.id [.list ex 2 (eC cs), .fn g caps] H (fun r H' => r = .int .i64 (idxOf p cs 0) ∧ H' = H) := by
  refine acalls_of_body F.has ?_
  conv => whnf
  refine ⟨fun m ρ H1 => ∃ k : Nat, k + m = cs.length ∧ idxOf p (cs.drop k) k = idxOf p cs 0 ∧ H1 = H ∧
    Sv 19 [(0, .list ex 2 (eC cs)), (1, .fn g caps), (7, .int .i64 cs.length), (8, .int .i64 k)] ρ, cs.length, [], ?_, ?_⟩
  · exact ⟨0, by omega, rfl, rfl, Sv.intro rfl ⟨rfl, rfl, intEq (by rw [eC_length]), rfl, trivial⟩⟩
  rintro m ρ H1 ⟨k, hk, hr, rfl, d, rfl⟩
  (conv => whnf); refine recA (fun hlt => ?_) (fun hlt => ?_)
  · simp at hlt
    obtain ⟨c, hc, hd, hmem⟩ := get_drop hlt
    rw [hd] at hr
    conv => whnf
    refine And.intro (by omega) ?_
    (conv => whnf); refine recO (eC_at hc) ?_
    conv => whnf
    refine ACalls.use (hg c hmem) ?_
    (conv => whnf); refine recA (fun h => ?_) (fun hf => ?_)
    · conv => whnf
      refine ⟨intEq ?_, rfl⟩
      rw [← hr, idxOf, if_pos h]
    · conv => whnf
      refine ⟨m - 1, by omega, Gp.keep rfl ?_ fun ρ1 h => ⟨k + 1, by omega, ?_, rfl, h⟩⟩
      · exact ⟨rfl, rfl, rfl, intEq (wrapI ((k : Int) + 1) (by omega) (by omega)), trivial⟩
      · rw [← hr, idxOf, if_neg (by rw [hf]; simp)]; rfl
  · simp at hlt
    conv => whnf
    rw [List.drop_eq_nil_of_le hlt] at hr
    exact ⟨intEq hr, rfl⟩

def posB (e : Ent) : Bool := decide (e.cnt > 0)

def notInt (e : Ent) : Bool := !((e.row.getD 0 zV).kind == 2)

end Go.AW

namespace Go.AW
variable [Draws]
attribute [local irreducible] ACalls
set_option maxRecDepth 20000 in
theorem CloneE_raw {P : Program} (F : F_slices_Clone_LEntry_Entry P) (ex : Bool) (l : List Ent) (hl : l.length ≤ 1000000) :
    ACalls P F.id [.list ex 2 (eC l)] [] (fun r H' => (r = .nil ∧ l = [] ∧ H' = []) ∨ (r = .sl 0 l.length 0 l.length ∧ H' = [.arr 2 (eC l)])) := by
  refine acalls_of_body F.has ?_
  conv => whnf
  refine And.intro (fun h => ?_) ?_
  · conv => whnf
    exact .inl ⟨rfl, by simpa [eC] using h, rfl⟩
  · conv => whnf
    refine And.intro ⟨roomMul (by simp [eC_length]; omega) (by omega), roomB_le (by simp [eC_length]; omega), .inr rfl⟩ ?_
    conv => whnf
    refine .inr ⟨slEq ?_ ?_, rfl⟩
    · simp [eC_length]
    · simp [eC_length]

end Go.AW

namespace Go.AW
variable [Draws]
attribute [local irreducible] ACalls
theorem Gp.two {n : Nat} {live : List (Nat × AVal)} {ρ : List AVal} {H : List AObj} {I : List AVal → List AObj → Prop} (a b : Nat) (hab : a ≠ b) (s1 s2 : Nat) (e1 e2 : List (List AVal)) (h1 : H[a]? = .some (.arr s1 e1)) (h2 : H[b]? = .some (.arr s2 e2))
    (p1 : pureEs e1 = true) (p2 : pureEs e2 = true) (hl : ρ.length = n) (h : SvPub H [a, b] ρ live) (hI : ∀ ρ1, Sv n live ρ1 → I ρ1 [.arr s1 e1, .arr s2 e2]) : Gp [] ρ H I :=
  Gp.some (H1 := [.arr s1 e1, .arr s2 e2]) [a, b] (by simp [hab]) ⟨⟨_, h1, .same _ _ p1⟩, ⟨_, h2, .same _ _ p2⟩, trivial⟩ hl h hI

def row0 (e : Ent) : V := e.row.getD 0 zV

def presV (l : List Ent) : List V := (l.filter posB).map row0

def floorV (s c : Int) : Int := if s.tmod c < 0 then w64 (w64 (s.tdiv c) - 1) else w64 (s.tdiv c)

def resE (f : Int) (g : Grp) : Int := if f < 1 ∨ 7 < f then 1 else if grpB g ≠ 0 then grpB g else if (f = 3 ∨ f = 7) ∧ g.vals.any notInt = true then 7 else 0

def resV0 (f : Int) (g : Grp) : V :=
  if f = 1 then numV g.n else if f = 2 then numV (totGo g.vals 0 0).2 else if f = 6 then numV (presV g.vals).length
  else if f = 4 then (presV g.vals).head?.getD zV else if f = 5 then (presV g.vals).getLast?.getD zV
  else if f = 3 then (if g.vals = [] then zV else numV (totGo g.vals 0 0).1)
  else if 0 < (totGo g.vals 0 0).2 then numV (floorV (totGo g.vals 0 0).1 (totGo g.vals 0 0).2) else zV

def resV (f : Int) (g : Grp) : V := if resE f g ≠ 0 then zV else resV0 f g

end Go.AW

namespace Go.AW
variable [Draws]
theorem rowsCmp_vals : ∀ (a b : List V), rowsCmp a b = -1 ∨ rowsCmp a b = 0 ∨ rowsCmp a b = 1
  | [], [] => .inr (.inl rfl)
  | [], _ :: _ => .inl rfl
  | _ :: _, [] => .inr (.inr rfl)
  | x :: xs, y :: ys => by
    rw [rowsCmp]
    split
    · exact rowsCmp_vals xs ys
    · exact isCmp_val.vals x y

theorem rowsCmp_anti : ∀ (a b : List V), rowsCmp b a = - rowsCmp a b
  | [], [] => rfl
  | [], _ :: _ => rfl
  | _ :: _, [] => rfl
  | x :: xs, y :: ys => by
    rw [rowsCmp, rowsCmp, isCmp_val.anti x y]
    by_cases h : valCmp x y = 0
    · rw [if_pos h, if_pos (by omega), rowsCmp_anti xs ys]
    · rw [if_neg h, if_neg (by omega)]

theorem rowsCmp_trans : ∀ (a b d : List V), rowsCmp a b < 0 → rowsCmp b d < 0 → rowsCmp a d < 0
  | [], _, [], _, h2 => by
    rename_i b _
    cases b with
    | nil => exact h2
    | cons y ys => rw [rowsCmp] at h2; omega
  | [], _, _ :: _, _, _ => by rw [rowsCmp]; omega
  | x :: xs, [], _, h1, _ => by rw [rowsCmp] at h1; omega
  | x :: xs, y :: ys, [], _, h2 => by rw [rowsCmp] at h2; omega
  | x :: xs, y :: ys, z :: zs, h1, h2 => by
    rw [rowsCmp] at h1 h2 ⊢
    by_cases e1 : valCmp x y = 0
    · rw [if_pos e1] at h1
      have hxy := (isCmp_val.zero x y).1 e1
      subst hxy
      by_cases e2 : valCmp x z = 0
      · rw [if_pos e2] at h2 ⊢; exact rowsCmp_trans xs ys zs h1 h2
      · rw [if_neg e2] at h2 ⊢; exact h2
    · rw [if_neg e1] at h1
      by_cases e2 : valCmp y z = 0
      · have hyz := (isCmp_val.zero y z).1 e2
        subst hyz
        rw [if_neg e1]; exact h1
      · rw [if_neg e2] at h2
        have := isCmp_val.trans x y z h1 h2
        rw [if_neg (by omega)]; exact this

theorem isCmp_rows : IsCmp rowsCmp := ⟨rowsCmp_vals, rowsCmp_anti, rowsCmp_zero, rowsCmp_trans⟩

def cntL : List Ent → List V → Int
  | [], _ => 0
  | e :: l, r => (if rowsCmp e.row r = 0 then e.cnt else 0) + cntL l r

def Srt (l : List Ent) : Prop := l.Pairwise fun x y => rowsCmp x.row y.row < 0

theorem cntL_zero : ∀ (l : List Ent) (r : List V), (∀ e ∈ l, rowsCmp e.row r ≠ 0) → cntL l r = 0
  | [], _, _ => rfl
  | e :: l, r, h => by rw [cntL, if_neg (h e (List.mem_cons_self ..)), cntL_zero l r fun e he => h e (List.mem_cons_of_mem _ he)]; rfl

theorem cntL_above {l : List Ent} {r : List V} (h : ∀ e ∈ l, rowsCmp r e.row < 0) : cntL l r = 0 :=
  cntL_zero l r fun e he hz => by have := h e he; rw [rowsCmp_anti] at this; omega

theorem cntL_head {x : Ent} {l : List Ent} (h : Srt (x :: l)) : cntL (x :: l) x.row = x.cnt := by
  rw [cntL, if_pos ((rowsCmp_zero _ _).2 rfl), cntL_above (List.pairwise_cons.1 h).1]; omega

theorem cntL_append : ∀ (a b : List Ent) (r : List V), cntL (a ++ b) r = cntL a r + cntL b r
  | [], b, r => by simp [cntL]
  | e :: a, b, r => by rw [List.cons_append, cntL, cntL, cntL_append a b r]; omega

theorem cntL_mem : ∀ {l : List Ent} {e : Ent}, Srt l → e ∈ l → cntL l e.row = e.cnt
  | x :: l, e, hs, he => by
    rcases List.mem_cons.1 he with rfl | he
    · exact cntL_head hs
    · have h1 := (List.pairwise_cons.1 hs).1 e he
      rw [cntL, if_neg (by omega), cntL_mem (List.pairwise_cons.1 hs).2 he]; omega

theorem bag_ext : ∀ (a b : List Ent), Srt a → Srt b → (∀ e ∈ a, e.cnt ≠ 0) → (∀ e ∈ b, e.cnt ≠ 0) → (∀ r, cntL a r = cntL b r) → a = b
  | [], [], _, _, _, _, _ => rfl
  | [], y :: b, _, hb, _, nb, h => by
    have := h y.row
    rw [cntL_head hb] at this
    exact absurd this.symm (nb y (List.mem_cons_self ..))
  | x :: a, [], ha, _, na, _, h => by
    have := h x.row
    rw [cntL_head ha] at this
    exact absurd this (na x (List.mem_cons_self ..))
  | x :: a, y :: b, ha, hb, na, nb, h => by
    have ax := (List.pairwise_cons.1 ha).1
    have bx := (List.pairwise_cons.1 hb).1
    rcases rowsCmp_vals x.row y.row with hc | hc | hc
    · have h1 := h x.row
      rw [cntL_head ha, cntL_above (l := y :: b) (fun e he => by
        rcases List.mem_cons.1 he with rfl | he
        · omega
        · exact rowsCmp_trans _ _ _ (by omega) (bx e he))] at h1
      exact absurd h1 (na x (List.mem_cons_self ..))
    · have hr := (rowsCmp_zero _ _).1 hc
      have hcnt : x.cnt = y.cnt := by
        have h1 := h x.row
        rw [cntL_head ha] at h1
        rw [h1, hr, cntL_head hb]
      have hxy : x = y := by cases x; cases y; simp only at hr hcnt; subst hr hcnt; rfl
      subst hxy
      have := bag_ext a b (List.pairwise_cons.1 ha).2 (List.pairwise_cons.1 hb).2 (fun e he => na e (List.mem_cons_of_mem _ he)) (fun e he => nb e (List.mem_cons_of_mem _ he))
        (fun r => by have h1 := h r; rw [cntL, cntL] at h1; omega)
      rw [this]
    · have hc' : rowsCmp y.row x.row < 0 := by rw [rowsCmp_anti]; omega
      have h1 := h y.row
      rw [cntL_head hb, cntL_above (l := x :: a) (fun e he => by
        rcases List.mem_cons.1 he with rfl | he
        · omega
        · exact rowsCmp_trans _ _ _ hc' (ax e he))] at h1
      exact absurd h1.symm (nb y (List.mem_cons_self ..))

theorem cntL_mrg : ∀ (a b : List Ent) (r : List V), cntL (mrg a b) r = cntL a r + cntL b r
  | [], b, r => by rw [mrg_nil, cntL]; omega
  | x :: a, [], r => by rw [mrg_nil2, cntL]; simp [cntL]
  | x :: a, y :: b, r => by
    rw [mrg_cons]
    split
    · have e1 : cntL (x :: a) r = (if rowsCmp x.row r = 0 then x.cnt else 0) + cntL a r := rfl
      rw [cntL, cntL_mrg a (y :: b) r, e1]; omega
    split
    · have e1 : cntL (y :: b) r = (if rowsCmp y.row r = 0 then y.cnt else 0) + cntL b r := rfl
      rw [cntL, cntL_mrg (x :: a) b r, e1]; omega
    · have hr : x.row = y.row := (rowsCmp_zero _ _).1 (by have := rowsCmp_vals x.row y.row; omega)
      rw [cntL, cntL_mrg a b r, cntL, cntL]
      simp only [hr]
      split <;> omega
termination_by a b => a.length + b.length

theorem mem_mrg : ∀ (a b : List Ent) (e : Ent), e ∈ mrg a b → (∃ x ∈ a, x.row = e.row) ∨ ∃ y ∈ b, y.row = e.row
  | [], b, e, h => by rw [mrg_nil] at h; exact .inr ⟨e, h, rfl⟩
  | x :: a, [], e, h => by rw [mrg_nil2] at h; exact .inl ⟨e, h, rfl⟩
  | x :: a, y :: b, e, h => by
    rw [mrg_cons] at h
    have la : ∀ {e : Ent}, (∃ x ∈ a, x.row = e.row) → ∃ z ∈ x :: a, z.row = e.row := fun ⟨z, h1, h2⟩ => ⟨z, List.mem_cons_of_mem _ h1, h2⟩
    have lb : ∀ {e : Ent}, (∃ x ∈ b, x.row = e.row) → ∃ z ∈ y :: b, z.row = e.row := fun ⟨z, h1, h2⟩ => ⟨z, List.mem_cons_of_mem _ h1, h2⟩
    split at h
    · rcases List.mem_cons.1 h with rfl | h
      · exact .inl ⟨e, List.mem_cons_self .., rfl⟩
      · exact (mem_mrg a (y :: b) e h).imp la id
    split at h
    · rcases List.mem_cons.1 h with rfl | h
      · exact .inr ⟨e, List.mem_cons_self .., rfl⟩
      · exact (mem_mrg (x :: a) b e h).imp id lb
    · rcases List.mem_cons.1 h with rfl | h
      · exact .inl ⟨x, List.mem_cons_self .., rfl⟩
      · exact (mem_mrg a b e h).imp la lb
termination_by a b => a.length + b.length

theorem srt_mrg : ∀ (a b : List Ent), Srt a → Srt b → Srt (mrg a b)
  | [], b, _, hb => by rw [mrg_nil]; exact hb
  | x :: a, [], ha, _ => by rw [mrg_nil2]; exact ha
  | x :: a, y :: b, ha, hb => by
    have ax := (List.pairwise_cons.1 ha).1
    have bx := (List.pairwise_cons.1 hb).1
    have ha' := (List.pairwise_cons.1 ha).2
    have hb' := (List.pairwise_cons.1 hb).2
    rw [mrg_cons]
    split
    · rename_i hc
      refine List.pairwise_cons.2 ⟨fun e he => ?_, srt_mrg a (y :: b) ha' hb⟩
      rcases mem_mrg a (y :: b) e he with ⟨z, hz, hzr⟩ | ⟨z, hz, hzr⟩
      · rw [← hzr]; exact ax z hz
      · rw [← hzr]
        rcases List.mem_cons.1 hz with rfl | hz
        · exact hc
        · exact rowsCmp_trans _ _ _ hc (bx z hz)
    split
    · rename_i hc0 hc
      have hc' : rowsCmp y.row x.row < 0 := by rw [rowsCmp_anti]; omega
      refine List.pairwise_cons.2 ⟨fun e he => ?_, srt_mrg (x :: a) b ha hb'⟩
      rcases mem_mrg (x :: a) b e he with ⟨z, hz, hzr⟩ | ⟨z, hz, hzr⟩
      · rw [← hzr]
        rcases List.mem_cons.1 hz with rfl | hz
        · exact hc'
        · exact rowsCmp_trans _ _ _ hc' (ax z hz)
      · rw [← hzr]; exact bx z hz
    · have hr : x.row = y.row := (rowsCmp_zero _ _).1 (by have := rowsCmp_vals x.row y.row; omega)
      refine List.pairwise_cons.2 ⟨fun e he => ?_, srt_mrg a b ha' hb'⟩
      rcases mem_mrg a b e he with ⟨z, hz, hzr⟩ | ⟨z, hz, hzr⟩
      · rw [← hzr]; exact ax z hz
      · rw [← hzr]; show rowsCmp x.row z.row < 0; rw [hr]; exact bx z hz
termination_by a b => a.length + b.length

theorem srt_filter {l : List Ent} (p : Ent → Bool) (h : Srt l) : Srt (l.filter p) := List.Pairwise.filter p h

theorem fitB_iff (e : Ent) : fitB e = 0 ↔ e.row.length ≤ 12 ∧ smallB e.cnt = true ∧ e.row.all validB = true := by
  simp only [smallB, Bool.and_eq_true, decide_eq_true_eq]
  unfold fitB
  constructor
  · intro h
    split at h
    · cases h
    · split at h
      · rename_i h1 h2; exact ⟨by omega, ⟨by omega, by omega⟩, h2⟩
      · cases h
  · rintro ⟨h1, ⟨h2, h3⟩, h4⟩
    rw [if_neg (by omega), if_pos h4]

theorem bvGo_iff : ∀ (l : List Ent) (p : Option (List V)), bvGo l p = 0 ↔ (∀ e ∈ l, fitB e = 0 ∧ e.cnt ≠ 0) ∧ Srt l ∧ ∀ q, p = some q → ∀ e ∈ l, rowsCmp q e.row < 0
  | [], p => ⟨fun _ => ⟨fun e h => (by simp at h), List.Pairwise.nil, fun q _ e h => by simp at h⟩, fun _ => rfl⟩
  | x :: l, p => by
    rw [bvGo]
    have nb : notB p x.row = true ↔ ∃ q, p = some q ∧ ¬ rowsCmp q x.row < 0 := by
      cases p with
      | none => simp [notB]
      | some q => simp [notB]
    constructor
    · intro h
      by_cases h1 : fitB x = 0
      · rw [if_neg (by simp [h1])] at h
        by_cases h2 : x.cnt = 0
        · rw [if_pos h2] at h; cases h
        · rw [if_neg h2] at h
          by_cases h3 : notB p x.row = true
          · rw [if_pos h3] at h; cases h
          · rw [if_neg h3] at h
            obtain ⟨g1, g2, g3⟩ := (bvGo_iff l (some x.row)).1 h
            have hp : ∀ q, p = some q → rowsCmp q x.row < 0 := fun q hq => Classical.byContradiction fun hn => h3 (nb.2 ⟨q, hq, hn⟩)
            refine ⟨fun e he => ?_, List.pairwise_cons.2 ⟨g3 _ rfl, g2⟩, fun q hq e he => ?_⟩
            · rcases List.mem_cons.1 he with rfl | he
              · exact ⟨h1, h2⟩
              · exact g1 e he
            · rcases List.mem_cons.1 he with rfl | he
              · exact hp q hq
              · exact rowsCmp_trans _ _ _ (hp q hq) (g3 _ rfl e he)
      · rw [if_pos h1] at h; exact absurd h h1
    · rintro ⟨h1, h2, h3⟩
      have hx := h1 x (List.mem_cons_self ..)
      rw [if_neg (by simp [hx.1]), if_neg hx.2, if_neg (fun h => by
        obtain ⟨q, hq, hn⟩ := nb.1 h
        exact hn (h3 q hq x (List.mem_cons_self ..)))]
      exact (bvGo_iff l (some x.row)).2 ⟨fun e he => h1 e (List.mem_cons_of_mem _ he), (List.pairwise_cons.1 h2).2, fun q hq e he => by cases hq; exact (List.pairwise_cons.1 h2).1 e he⟩

theorem bagB_iff (l : List Ent) : bagB l = 0 ↔ l.length ≤ 4096 ∧ (∀ e ∈ l, fitB e = 0 ∧ e.cnt ≠ 0) ∧ Srt l := by
  rw [bagB]
  constructor
  · intro h
    split at h
    · cases h
    · have := (bvGo_iff l none).1 h
      exact ⟨by omega, this.1, this.2.1⟩
  · rintro ⟨h1, h2, h3⟩
    rw [if_neg (by omega)]
    exact (bvGo_iff l none).2 ⟨h2, h3, fun q hq => by cases hq⟩

theorem bagB_ext {a b : List Ent} (ha : bagB a = 0) (hb : bagB b = 0) (h : ∀ r, cntL a r = cntL b r) : a = b := by
  obtain ⟨_, a2, a3⟩ := (bagB_iff a).1 ha
  obtain ⟨_, b2, b3⟩ := (bagB_iff b).1 hb
  exact bag_ext a b a3 b3 (fun e he => (a2 e he).2) (fun e he => (b2 e he).2) h

theorem resOk {l : List Ent} (hs : Srt l) (hl : (l.filter nzB).length ≤ 4096) (hf : ∀ e ∈ l, e.row.length ≤ 12 ∧ e.row.all validB = true) (hc : ∀ r, smallB (cntL l r) = true) :
    ((l.all fun e => smallB e.cnt) = true ∧ (l.filter nzB).length ≤ 4096) ∧ bagB (l.filter nzB) = 0 := by
  have hsm : ∀ e ∈ l, smallB e.cnt = true := fun e he => by rw [← cntL_mem hs he]; exact hc _
  refine ⟨⟨List.all_eq_true.2 hsm, hl⟩, (bagB_iff _).2 ⟨hl, fun e he => ?_, srt_filter _ hs⟩⟩
  obtain ⟨h1, h2⟩ := List.mem_filter.1 he
  exact ⟨(fitB_iff e).2 ⟨(hf e h1).1, hsm e h1, (hf e h1).2⟩, by simpa [nzB] using h2⟩

theorem fit_row {l : List Ent} (h : bagB l = 0) : ∀ e ∈ l, e.row.length ≤ 12 ∧ e.row.all validB = true := fun e he => by
  have := (fitB_iff e).1 (((bagB_iff l).1 h).2.1 e he).1
  exact ⟨this.1, this.2.2⟩

end Go.AW

namespace Go.AW
variable [Draws]
attribute [local irreducible] ACalls
def g0 : Grp := ⟨0, []⟩

def n5 : V := ⟨2, 5, bs []⟩

theorem n5_valid : validB n5 = true := by kernel_rfl

theorem mrg_one (v : V) (a b : Int) : mrg [⟨[v], a⟩] [⟨[v], b⟩] = [⟨[v], a + b⟩] := by
  have h : rowsCmp [v] [v] = 0 := (rowsCmp_zero _ _).2 rfl
  rw [mrg_cons, if_neg (by show ¬ rowsCmp [v] [v] < 0; omega), if_neg (by show ¬ 0 < rowsCmp [v] [v]; omega), mrg_nil]

theorem srt_one (e : Ent) : Srt [e] := List.pairwise_singleton ..

theorem bagB_one (v : V) (c : Int) (hv : validB v = true) (hc : c ≠ 0) (hs : smallB c = true) : bagB [⟨[v], c⟩] = 0 :=
  (bagB_iff _).2 ⟨by simp, fun e he => by
    rw [List.mem_singleton] at he; subst he
    exact ⟨(fitB_iff _).2 ⟨by simp, hs, by simp [hv]⟩, hc⟩, srt_one _⟩

theorem bagB_nil : bagB [] = 0 := rfl

theorem grpB_intro {g : Grp} (h1 : rowsB g.n = true) (h2 : bagB g.vals = 0) (h3 : g.vals.all oneB = true) : grpB g = 0 := by
  rw [grpB, if_neg (by simp [h1]), if_neg (by simp [h2]), if_pos h3]

theorem k1 : addGE g0 n5 2 = 0 ∧ addGG g0 n5 2 = ⟨2, [⟨[n5], 2⟩]⟩ := by
  have hp : preE g0 n5 2 = 0 := by rw [preE, if_neg (by simp [grpB_intro (g := g0) rfl rfl rfl]), if_neg (by simp [n5_valid]), if_neg (by decide)]
  have ho : oneG n5 2 = ⟨2, [⟨[n5], 2⟩]⟩ := by rw [oneG, if_pos ⟨by decide, by decide⟩]
  have hm : mrgE g0 ⟨2, [⟨[n5], 2⟩]⟩ = 0 := by
    rw [mrgE, if_neg (by decide), sumE, if_neg (by simp [g0, bagB_nil]), if_neg (by simp [bagB_one n5 2 n5_valid (by decide) (by decide)]), if_pos ⟨by simp [g0, mrg_nil, smallB], by simp [g0, mrg_nil, nzB]⟩]
  have e1 : addGE g0 n5 2 = 0 := by rw [addGE, if_neg (by simp [hp]), ho, hm]
  refine ⟨e1, ?_⟩
  rw [addGG, if_neg (by simp [hp]), ho, mrgG, if_pos hm]
  simp [g0, sumL, mrg_nil, nzB]

theorem k2 : addGE ⟨2, [⟨[n5], 2⟩]⟩ n5 (-1) = 0 ∧ addGG ⟨2, [⟨[n5], 2⟩]⟩ n5 (-1) = ⟨1, [⟨[n5], 1⟩]⟩ := by
  have hb := bagB_one n5 2 n5_valid (by decide) (by decide)
  have hp : preE ⟨2, [⟨[n5], 2⟩]⟩ n5 (-1) = 0 := by rw [preE, if_neg (by simp [grpB_intro (g := ⟨2, [⟨[n5], 2⟩]⟩) rfl hb rfl]), if_neg (by simp [n5_valid]), if_neg (by decide)]
  have ho : oneG n5 (-1) = ⟨-1, [⟨[n5], -1⟩]⟩ := by rw [oneG, if_pos ⟨by decide, by decide⟩]
  have hm : mrgE ⟨2, [⟨[n5], 2⟩]⟩ ⟨-1, [⟨[n5], -1⟩]⟩ = 0 := by
    rw [mrgE, if_neg (by decide), sumE, if_neg (by simp [hb]), if_neg (by simp [bagB_one n5 (-1) n5_valid (by decide) (by decide)]), if_pos ⟨by simp [mrg_one, smallB], by simp [mrg_one, nzB]⟩]
  have e1 : addGE ⟨2, [⟨[n5], 2⟩]⟩ n5 (-1) = 0 := by rw [addGE, if_neg (by simp [hp]), ho, hm]
  refine ⟨e1, ?_⟩
  rw [addGG, if_neg (by simp [hp]), ho, mrgG, if_pos hm]
  simp [sumL, mrg_one, nzB]

def gk : Grp := ⟨1, [⟨[n5], 1⟩]⟩

theorem gk_ok : grpB gk = 0 := grpB_intro rfl (bagB_one n5 1 n5_valid (by decide) (by decide)) rfl

theorem k3 : resE 3 gk = 0 ∧ resV 3 gk = n5 ∧ resE 1 gk = 0 ∧ resV 1 gk = ⟨2, 1, bs []⟩ := by
  have h3 : resE 3 gk = 0 := by rw [resE, if_neg (by decide), if_neg (by simp [gk_ok])]; rfl
  have h1 : resE 1 gk = 0 := by rw [resE, if_neg (by decide), if_neg (by simp [gk_ok])]; rfl
  refine ⟨h3, ?_, h1, ?_⟩
  · rw [resV, if_neg (by simp [h3])]; kernel_rfl
  · rw [resV, if_neg (by simp [h1])]; kernel_rfl

structure It where
  v : V
  c : Int

end Go.AW

namespace Go.AW
variable [Draws]
attribute [local irreducible] ACalls
def wsum (φ : List V → Int) : List Ent → Int
  | [] => 0
  | e :: l => e.cnt * φ e.row + wsum φ l

def ind (r : List V) (s : List V) : Int := if rowsCmp s r = 0 then 1 else 0

theorem cntL_wsum : ∀ (l : List Ent) (r : List V), cntL l r = wsum (ind r) l
  | [], _ => rfl
  | e :: l, r => by
    rw [cntL, wsum, cntL_wsum l r, ind]
    split <;> simp

theorem wsum_mrg (φ : List V → Int) : ∀ (a b : List Ent), wsum φ (mrg a b) = wsum φ a + wsum φ b
  | [], b => by rw [mrg_nil, wsum]; omega
  | x :: a, [] => by rw [mrg_nil2]; simp [wsum]
  | x :: a, y :: b => by
    rw [mrg_cons]
    have ex : wsum φ (x :: a) = x.cnt * φ x.row + wsum φ a := rfl
    have ey : wsum φ (y :: b) = y.cnt * φ y.row + wsum φ b := rfl
    split
    · rw [wsum, wsum_mrg φ a (y :: b), ex]; omega
    split
    · rw [wsum, wsum_mrg φ (x :: a) b, ey]; omega
    · have hr : x.row = y.row := (rowsCmp_zero _ _).1 (by have := rowsCmp_vals x.row y.row; omega)
      rw [wsum, wsum_mrg φ a b, ex, ey]
      simp only [hr, Int.add_mul]; omega
termination_by a b => a.length + b.length

theorem wsum_nz (φ : List V → Int) : ∀ (l : List Ent), wsum φ (l.filter nzB) = wsum φ l
  | [] => rfl
  | e :: l => by
    rw [List.filter_cons]
    split
    · rw [wsum, wsum, wsum_nz φ l]
    · rename_i h
      have : e.cnt = 0 := by simpa [nzB] using h
      rw [wsum, wsum_nz φ l, this]; simp

def wt (φ : List V → Int) (x : It) : Int := if x.v.kind ≠ 0 then x.c * φ [x.v] else 0

def tot (f : It → Int) : List It → Int
  | [] => 0
  | x :: l => f x + tot f l

theorem tot_append (f : It → Int) : ∀ (a b : List It), tot f (a ++ b) = tot f a + tot f b
  | [], b => by simp [tot]
  | x :: a, b => by rw [List.cons_append, tot, tot, tot_append f a b]; omega

theorem tot_bound (f : It → Int) (B : Int) (hB : 0 ≤ B) : ∀ (l : List It), (∀ x ∈ l, -B ≤ f x ∧ f x ≤ B) → -(B * l.length) ≤ tot f l ∧ tot f l ≤ B * l.length
  | [], _ => by simp [tot]
  | x :: l, h => by
    have h1 := tot_bound f B hB l fun x hx => h x (List.mem_cons_of_mem _ hx)
    have h2 := h x (List.mem_cons_self ..)
    rw [tot, List.length_cons, Int.natCast_add, Int.mul_add]
    simp only [Int.natCast_one, Int.mul_one]
    omega

structure Rep (G : Grp) (l : List It) : Prop where
  ok : grpB G = 0
  n : G.n = tot It.c l
  cnt : ∀ φ, wsum φ G.vals = tot (wt φ) l
  len : G.vals.length ≤ l.length

theorem Rep.uniq {G G' : Grp} {l l' : List It} (h : Rep G l) (h' : Rep G' l') (h1 : tot It.c l = tot It.c l') (h2 : ∀ φ, tot (wt φ) l = tot (wt φ) l') : G = G' := by
  have e : G.vals = G'.vals := bagB_ext (grpB_ok h.ok).2.2.1 (grpB_ok h'.ok).2.2.1 fun r => by rw [cntL_wsum, cntL_wsum, h.cnt, h'.cnt, h2]
  have en : G.n = G'.n := by rw [h.n, h'.n, h1]
  cases G; cases G'; simp only at e en; subst e en; rfl

def ItOk (x : It) : Prop := validB x.v = true ∧ -5 ≤ x.c ∧ x.c ≤ 5

theorem wt_bound (x : It) (h : ItOk x) (r : List V) : -5 ≤ wt (ind r) x ∧ wt (ind r) x ≤ 5 := by
  obtain ⟨_, h1, h2⟩ := h
  unfold wt ind
  split
  · split <;> omega
  · omega

theorem oneB_row {a b : Ent} (h : a.row = b.row) : oneB a = oneB b := by unfold oneB; rw [h]

theorem Rep.merge {G G' : Grp} {p q : List It} (h : Rep G p) (h' : Rep G' q) (hp : ∀ x ∈ p, ItOk x) (hq : ∀ x ∈ q, ItOk x) (hl : p.length + q.length ≤ 4096) :
    mrgE G G' = 0 ∧ Rep (mrgG G G') (p ++ q) := by
  obtain ⟨_, g1, g2, g3⟩ := grpB_ok h.ok
  obtain ⟨_, k1, k2, k3⟩ := grpB_ok h'.ok
  have hpq : ∀ x ∈ p ++ q, ItOk x := fun x hx => (List.mem_append.1 hx).elim (hp x) (hq x)
  have hn := tot_bound It.c 5 (by omega) (p ++ q) fun x hx => (hpq x hx).2
  rw [tot_append, List.length_append] at hn
  have hc : ∀ r, cntL (mrg G.vals G'.vals) r = tot (wt (ind r)) (p ++ q) := fun r => by rw [cntL_wsum, wsum_mrg, h.cnt, h'.cnt, tot_append]
  have hcs : ∀ r, smallB (cntL (mrg G.vals G'.vals) r) = true := fun r => by
    have := tot_bound (wt (ind r)) 5 (by omega) (p ++ q) fun x hx => wt_bound x (hpq x hx) r
    rw [List.length_append] at this
    rw [hc, smallB]; simp; omega
  have hml := mrg_length G.vals G'.vals
  have hl1 := h.len
  have hl2 := h'.len
  have hfl := List.length_filter_le nzB (mrg G.vals G'.vals)
  have hs := srt_mrg _ _ ((bagB_iff _).1 g2).2.2 ((bagB_iff _).1 k2).2.2
  have hrow : ∀ e ∈ mrg G.vals G'.vals, (e.row.length ≤ 12 ∧ e.row.all validB = true) ∧ oneB e = true := fun e he => by
    rcases mem_mrg _ _ e he with ⟨x, hx, hxr⟩ | ⟨x, hx, hxr⟩
    · exact ⟨hxr ▸ fit_row g2 x hx, oneB_row hxr ▸ List.all_eq_true.1 g3 x hx⟩
    · exact ⟨hxr ▸ fit_row k2 x hx, oneB_row hxr ▸ List.all_eq_true.1 k3 x hx⟩
  obtain ⟨r1, r2⟩ := resOk hs (by omega) (fun e he => (hrow e he).1) hcs
  have hrows : rowsB (G.n + G'.n) = true := by rw [h.n, h'.n, rowsB]; simp; omega
  have hE : mrgE G G' = 0 := by
    rw [mrgE, if_neg (by simp [hrows]), sumE, if_neg (by simp [g2]), if_neg (by simp [k2]), if_pos r1]
  have hG : mrgG G G' = ⟨G.n + G'.n, sumL G.vals G'.vals⟩ := by rw [mrgG, if_pos hE]
  refine ⟨hE, ?_⟩
  rw [hG]
  refine ⟨grpB_intro hrows r2 (List.all_eq_true.2 fun e he => (hrow e (List.mem_filter.1 he).1).2), ?_, fun φ => ?_, ?_⟩
  · rw [tot_append, ← h.n, ← h'.n]
  · show wsum φ ((mrg G.vals G'.vals).filter nzB) = _
    rw [wsum_nz, wsum_mrg, h.cnt, h'.cnt, tot_append]
  · rw [List.length_append]
    show ((mrg G.vals G'.vals).filter nzB).length ≤ _
    omega

theorem Rep.nil : Rep g0 [] := ⟨grpB_intro rfl rfl rfl, rfl, fun _ => rfl, Nat.le_refl _⟩

theorem Rep.one (x : It) (h : ItOk x) : Rep (oneG x.v x.c) [x] := by
  obtain ⟨hv, h1, h2⟩ := h
  have hsm : smallB x.c = true := by simp [smallB]; omega
  have hr : rowsB x.c = true := by simp [rowsB]; omega
  by_cases hx : x.v.kind ≠ 0 ∧ x.c ≠ 0
  · have ho : oneG x.v x.c = ⟨x.c, [⟨[x.v], x.c⟩]⟩ := by rw [oneG, if_pos hx]
    rw [ho]
    refine ⟨grpB_intro hr (bagB_one _ _ hv hx.2 hsm) (by simp [oneB, hx.1]), by simp [tot], fun φ => ?_, by simp⟩
    simp only [tot, wsum, wt]; rw [if_pos hx.1]
  · have ho : oneG x.v x.c = ⟨x.c, []⟩ := by rw [oneG, if_neg hx]
    rw [ho]
    refine ⟨grpB_intro hr rfl rfl, by simp [tot], fun φ => ?_, by simp⟩
    simp only [tot, wsum, wt]
    split
    · rename_i hk
      have : x.c = 0 := Classical.byContradiction fun hn => hx ⟨hk, hn⟩
      rw [this]; simp
    · rfl

theorem Rep.add {G : Grp} {p : List It} {x : It} (h : Rep G p) (hp : ∀ x ∈ p, ItOk x) (hx : ItOk x) (hl : p.length + 1 ≤ 4096) :
    addGE G x.v x.c = 0 ∧ Rep (addGG G x.v x.c) (p ++ [x]) := by
  have hsm : smallB x.c = true := by have := hx.2; simp [smallB]; omega
  have hpre : preE G x.v x.c = 0 := by rw [preE, if_neg (by simp [h.ok]), if_neg (by simp [hx.1]), if_neg (by simp [hsm])]
  have hm := h.merge (Rep.one x hx) hp (fun y hy => by rw [List.mem_singleton] at hy; subst hy; exact hx) (by simpa using hl)
  rw [addGE, addGG, if_neg (by simp [hpre]), if_neg (by simp [hpre])]
  exact hm

end Go.AW

namespace Go.AW
variable [Draws]
attribute [local irreducible] ACalls
def pureO : AObj → Bool
  | .arr _ es => pureEs es
  | .iter _ _ => true
  | .map kvs => kvs.all fun kv => kv.2.isPure

theorem gpO_of {H : List AObj} {ids : List Nat} : ∀ (is : List Nat) (r : List AObj), is.length = r.length → (∀ (k id : Nat) (o : AObj), is[k]? = some id → r[k]? = some o → H[id]? = some o ∧ pureO o = true) → gpO H ids is r
  | [], [], _, _ => trivial
  | [], _ :: _, h, _ => by simp at h
  | _ :: _, [], h, _ => by simp at h
  | id :: is, o :: r, hl, h => by
    obtain ⟨h1, h2⟩ := h 0 id o rfl rfl
    refine ⟨⟨o, h1, ?_⟩, gpO_of is r (by simpa using hl) fun k id o h1 h2 => h (k + 1) id o (by simpa using h1) (by simpa using h2)⟩
    cases o with
    | arr s es => exact .same s es h2
    | iter s p => exact .iter s p
    | map kvs => exact .mp kvs h2

theorem Gp.first {n : Nat} {live : List (Nat × AVal)} {ρ : List AVal} {H : List AObj} {I : List AVal → List AObj → Prop} (k : Nat) (H1 : List AObj) (hk : H.take k = H1) (hn : H1.length = k) (hp : H1.all pureO = true)
    (hl : ρ.length = n) (h : SvPub H (List.range k) ρ live) (hI : ∀ ρ1, Sv n live ρ1 → I ρ1 H1) : Gp [] ρ H I := by
  refine Gp.some (H1 := H1) (List.range k) List.nodup_range (gpO_of _ _ (by simp [hn]) fun j id o h1 h2 => ?_) hl h hI
  have hj := (List.getElem?_eq_some_iff.1 h2).1
  rw [List.getElem?_range (by omega)] at h1
  cases h1
  refine ⟨?_, List.all_eq_true.1 hp o (List.mem_of_getElem? h2)⟩
  rw [← hk, List.getElem?_take] at h2
  rwa [if_pos (by omega)] at h2

end Go.AW

namespace Go.AW
variable [Draws]
def BItem (x : It) : Prop := validB x.v = true ∧ 0 ≤ x.c ∧ x.c ≤ 5 ∧ (x.v.kind ≠ 0 → x.v.kind = 2 ∧ -1073741824 ≤ x.v.num ∧ x.v.num ≤ 1073741824)

theorem BItem.ok {x : It} (h : BItem x) : ItOk x := ⟨h.1, by have := h.2.1; omega, h.2.2.1⟩

end Go.AW

namespace Go.AW
variable [Draws]
attribute [local irreducible] ACalls
def w2 (n : Int) : List Int := [u8 (n.fdiv (2 ^ 8)), u8 n]

end Go.AW

namespace Go.AW
variable [Draws]
attribute [local irreducible] ACalls
structure Rec where
  del : Bool
  seq : Int
  row : List V

structure Fil where
  id : ByteArray
  src : ByteArray
  recs : List Rec

end Go.AW

