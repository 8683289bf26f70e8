/-
  An abstract machine over the model, the code of functions on it, and their contracts: what the claim needs.
  No condition: definitions, plain laws, contracts over any program that has this code.
-/
import Derived.Test.YtjfjpaggdmafeaaGreatDoorZ4
set_option linter.all false



namespace Go.AW
variable [Draws]
inductive Ifl : AVal → Prop where
 | bool (b : Bool) : Ifl (.bool b)
 | int (k : IntKind) (n : Int) : Ifl (.int k n)
 | str (s : ByteArray) : Ifl (.str s)
 | nil : Ifl .nil
 | list (x : Bool) (sz : Nat) (es : List (List AVal)) (h1 : ∀ e ∈ es, ∃ (j : Nat) (k : IntKind) (n : Int), e[j]? = some (.int k n)) (h2 : ∀ e ∈ es, ∀ d ∈ e, Ifl d) : Ifl (.list x sz es)
 | agg (cs : List AVal) (h : ∀ c ∈ cs, Ifl c) : Ifl (.agg cs)
 | tuple (cs : List AVal) (h : ∀ c ∈ cs, Ifl c) : Ifl (.tuple cs)
def noI : AVal → Bool
 | .str _ | .nil | .list _ _ _ => true
 | _ => false
section
variable {P : Program} {C C1 C2 : Nat → Nat} {τ τ1 : Nat → Option Loc} {H H1 : List AObj} {w w' : World}
theorem Rd.lend (hC : ∀ b, C1 b ≤ C2 b ∨ ∀ i k n, i < C1 b → w'.cell? ⟨b, i, none⟩ ≠ some (.int k n)) {a : AVal} {v : Value} (h : Rd C1 w' a v) (hi : Ifl a) : Rd C2 w' a v := by
 induction h with
 | junk => cases hi
 | bool b => exact .bool b
 | int k n => exact .int k n
 | str s => exact .str s
 | nil => exact .nil
 | list0 x sz a cap hx => exact .list0 x sz a cap hx
 | list x sz es b off cap vs hx hcap hsz hb hcell hp hrd ih =>
  cases hi with
  | list _ _ _ h1 h2 =>
   cases es with
   | nil => exact .list0 x sz _ cap fun e => by rw [hx e]; rfl
   | cons e es =>
    rcases hC b with h | h
    ·exact .list x sz (e :: es) b off cap vs hx hcap hsz (Nat.le_trans hb h) hcell hp fun i j e' d he hd => ih i j e' d he hd (h2 e' (List.mem_of_getElem? he) d (List.mem_of_getElem? hd))
    ·exfalso
     obtain ⟨j, k, n, hj⟩ := h1 e (List.mem_cons_self ..)
     have hjl : j < sz := by rw [← hsz e (List.mem_cons_self ..)]; exact (List.getElem?_eq_some_iff.1 hj).1
     have hv := hrd 0 j e _ rfl hj
     have hc := hcell 0 j (by simp) hjl
     generalize vs 0 j = u at hv hc
     cases hv
     refine h (off + 0 * sz + j) k n ?_ hc
     rw [List.length_cons, Nat.succ_mul] at hb
     omega
 | cptr => cases hi
 | fn => cases hi
 | nilm => cases hi
 | nilp => cases hi
theorem Rel.lend (hC : ∀ b, C1 b ≤ C2 b ∨ ∀ i k n, i < C1 b → w'.cell? ⟨b, i, none⟩ ≠ some (.int k n)) {a : AVal} {v : Value} (h : Rel C1 w' τ1 H1 a v) (hi : Ifl a) : Rel C2 w' τ H a v := by
 induction h with
 | rd h => exact .rd (h.lend hC hi)
 | agg cs vs hl h ih =>
  cases hi with
  | agg _ h2 => exact .agg cs vs hl fun i c u h1 h3 => ih i c u h1 h3 (h2 c (List.mem_of_getElem? h1))
 | tuple cs vs hl h ih =>
  cases hi with
  | tuple _ h2 => exact .tuple cs vs hl fun i c u h1 h3 => ih i c u h1 h3 (h2 c (List.mem_of_getElem? h1))
 | undef => cases hi
 | sl => cases hi
 | ptr => cases hi
 | it => cases hi
 | mp => cases hi
 | mt => cases hi
 | slc => cases hi
 | fn => cases hi
 | _ => cases hi
open Classical in
theorem ACalls.lend {f : FuncId} {args bs : List AVal} {R : AVal} (hI : Ifl R) (hno : ∀ (id sz : Nat) (es : List (List AVal)), H[id]? = some (.arr sz es) → ∀ e ∈ es, ∀ d ∈ e, noI d = true)
  (h : ACalls P f bs [] (fun r _ => r = R)) (hl : Lents H args bs) : ACalls P f args H (fun r H' => r = R ∧ H' = H) := by
 intro C τ w vs hw hlen hr
 have hw0 : WF (commit C τ H []) τ [] w := by
  refine ⟨fun id o h => by simp at h, fun id o h => by simp at h, fun id o l h => by simp at h, fun id l h => by simp at h, fun i j li lj h => by simp at h, fun b hb => ?_, fun g cs hg => (hw.gls g cs hg).mono (fun b => commit_le hw b) fun _ _ _ => rfl⟩
  by_cases hex : ∃ id l, id < H.length ∧ τ id = some l ∧ l.b = b
  ·obtain ⟨id, l, h1, h2, rfl⟩ := hex
   exact hw.locLt h1 h2
  ·rw [commit_other fun id l h1 _ h2 h3 => hex ⟨id, l, h1, h2, h3⟩] at hb
   exact hw.lt b hb
 have hc := h (commit C τ H []) τ w vs hw0 (by rw [← hl.1]; exact hlen) fun i b v hb hv => by
  have hi : i < args.length := by have := (List.getElem?_eq_some_iff.1 hb).1; have := hl.1; omega
  exact (hl.2 i args[i] b (List.getElem?_eq_getElem hi) hb).rel hw (hr i args[i] v (List.getElem?_eq_getElem hi) hv)
 have fin : ∀ (e : Ending) (w' : World), (∃ v r C' τ' H', e = .returned v ∧ r = R ∧ Rel C' w' τ' H' r v ∧ St w (PrCall τ [] w) C' τ' H' w' ∧ Step (commit C τ H []) τ [] w C' τ' H' w') →
   ∃ v r C' τ' H', e = .returned v ∧ (r = R ∧ H' = H) ∧ Rel C' w' τ' H' r v ∧ St w (PrCall τ H w) C' τ' H' w' ∧ Step C τ H w C' τ' H' w' := by
  rintro e w' ⟨v, r, C1, τ1, H1, rfl, rfl, hrel, hst, hstep⟩
  have hheap : ∀ b, b < w.heap.size → w'.heap[b]? = w.heap[b]? := fun b hb => hst.fr.prot b ⟨hb, by rintro ⟨id, l, h, _⟩; simp at h⟩
  obtain ⟨C2, hC2⟩ : ∃ C2 : Nat → Nat, C2 = fun b => if Owned τ H b then C b else C1 b := ⟨_, rfl⟩
  have ho : ∀ b, Owned τ H b → C2 b = C b := fun b hb => by rw [hC2]; exact if_pos hb
  have hn : ∀ b, ¬ Owned τ H b → C2 b = C1 b := fun b hb => by rw [hC2]; exact if_neg hb
  have hcm : ∀ b, ¬ Owned τ H b → commit C τ H [] b = C b := fun b hb => commit_other fun id l h1 _ h2 h3 => hb ⟨id, l, h1, h2, h3⟩
  have step : Step C τ H w C2 τ H w' := by
   refine ⟨fun b => ?_, fun b i hi => cell_heap (hheap b (hw.lt b (by omega))), fun _ o h => ⟨o, h, o.after_refl _⟩, hst.fr.size, fun b hb => ?_⟩
   ·by_cases hb : Owned τ H b
    ·rw [ho b hb]; exact Nat.le_refl _
    ·rw [hn b hb, ← hcm b hb]; exact hstep.le b
   ·by_cases hb2 : Owned τ H b
    ·exact ho b hb2
    ·rw [hn b hb2, hstep.old b hb]; exact hcm b hb2
  have hwf : WF C2 τ H w' := by
   refine ⟨hw.ok, hw.virt, fun id o l h1 h2 => (hw.objs id o l h1 h2).mono step (hheap _ (hw.locLt (List.getElem?_eq_some_iff.1 h1).1 h2)), fun id l h1 h2 => ?_, hw.inj, fun b hb => ?_, hw.glsS step⟩
   ·rw [ho l.b ⟨id, l, h1, h2, rfl⟩]; exact hw.comm id l h1 h2
   ·by_cases hb2 : Owned τ H b
    ·rw [ho b hb2] at hb
     have := hw.lt b hb
     have := hst.fr.size
     omega
    ·rw [hn b hb2] at hb
     exact hst.wf.lt b hb
  refine ⟨v, r, C2, τ, H, rfl, ⟨rfl, rfl⟩, hrel.lend (fun b => ?_) hI, ⟨hwf, ⟨hst.fr.os, hst.fr.tape, hst.fr.output, hst.fr.size, fun b hb => hheap b hb.1, hst.fr.drawn⟩, fun b ho hp => hp.2 ho, fun b hp => hp.1⟩, step⟩
  by_cases hb : Owned τ H b
  ·right
   obtain ⟨id, l, h1, h2, rfl⟩ := hb
   have hlt := hw.locLt h1 h2
   intro i k n hi hcl
   rw [hstep.old _ hlt] at hi
   rw [cell_heap (hheap _ hlt)] at hcl
   by_cases ha : ∃ sz es, H[id]? = some (.arr sz es)
   ·obtain ⟨sz, es, ha⟩ := ha
    rw [commit_at hw (by simp) ha h2] at hi
    have hsz : 0 < sz := by
     rcases Nat.eq_zero_or_pos sz with h | h
     ·rw [h] at hi; simp at hi
     ·exact h
    have hq : i / sz < es.length := Nat.div_lt_of_lt_mul (by rw [Nat.mul_comm]; exact hi)
    have he : es[i / sz]? = some es[i / sz] := List.getElem?_eq_getElem hq
    have hel := ((hw.ok _ _ ha) _ (List.mem_of_getElem? he)).1
    have hm : i % sz < es[i / sz].length := by rw [hel]; exact Nat.mod_lt _ hsz
    have hd := List.getElem?_eq_getElem hm
    obtain ⟨_, u, hu, hru⟩ := hw.reads ha h2 he (i % sz) _ hd
    rw [show i / sz * sz + i % sz = i by rw [Nat.mul_comm]; exact Nat.div_add_mod i sz] at hu
    rw [hcl] at hu
    cases hu
    have hnd := hno id sz es ha _ (List.mem_of_getElem? he) _ (List.mem_of_getElem? hd)
    generalize es[i / sz][i % sz] = d at hru hnd
    cases hru with
    | rd h => cases h <;> cases hnd
    | undef => cases hnd
   ·have : commit C τ H [] l.b = C l.b := by
     unfold commit
     rw [dif_neg]
     rintro ⟨id2, sz, es, l2, _, h4, h5, h6⟩
     have := hw.inj id2 id l2 l (List.getElem?_eq_some_iff.1 h4).1 h1 h5 h2 h6
     subst this
     exact ha ⟨sz, es, h4⟩
    rw [this, hw.comm id l h1 h2] at hi
    omega
  ·left
   rw [hn b hb]
   exact Nat.le_refl _
 unfold CallsX at hc ⊢
 split at hc
 ·exact Calls.mono hc fun e w' hh => fin e w' hh
 ·exact fin _ _ hc
 ·exact hc
inductive Nol : AVal → Prop where
 | bool (b : Bool) : Nol (.bool b)
 | int (k : IntKind) (n : Int) : Nol (.int k n)
 | str (s : ByteArray) : Nol (.str s)
 | nil : Nol .nil
 | sl (id ep off len : Nat) : Nol (.sl id ep off len)
 | agg (cs : List AVal) (h : ∀ c ∈ cs, Nol c) : Nol (.agg cs)
 | tuple (cs : List AVal) (h : ∀ c ∈ cs, Nol c) : Nol (.tuple cs)
def flatC : AVal → Bool
 | .bool _ | .int _ _ | .str _ | .nil => true
 | _ => false
theorem Rel.nol {a : AVal} {v : Value} (h : Rel C1 w τ H a v) (hi : Nol a) : Rel C2 w τ H a v := by
 induction h with
 | rd h =>
  cases hi with
  | bool => cases h; exact .rd (.bool _)
  | int => cases h; exact .rd (.int _ _)
  | str => cases h; exact .rd (.str _)
  | nil => cases h; exact .rd .nil
  | sl => cases h
  | agg => cases h
  | tuple => cases h
 | sl id ep off len a cap esz es ho hep h => exact .sl id ep off len a cap esz es ho hep h
 | agg cs vs hl h ih =>
  cases hi with
  | agg _ h2 => exact .agg cs vs hl fun i c u h1 h3 => ih i c u h1 h3 (h2 c (List.mem_of_getElem? h1))
 | tuple cs vs hl h ih =>
  cases hi with
  | tuple _ h2 => exact .tuple cs vs hl fun i c u h1 h3 => ih i c u h1 h3 (h2 c (List.mem_of_getElem? h1))
 | _ => cases hi
theorem Rel.flatC {a : AVal} {v : Value} (h : Rel C1 w τ H a v) (hi : flatC a = true) : Rel C2 w τ1 H1 a v := by
 cases a <;> first | (cases hi; done) | skip
 all_goals
  cases h with
  | rd h => cases h; first | exact .rd (.bool _) | exact .rd (.int _ _) | exact .rd (.str _) | exact .rd .nil
theorem Rel.narrow0 {a : AVal} {v : Value} (h : Rel C1 w τ [] a v) : Rel C1 w τ H a v := by
 induction h with
 | rd h => exact .rd h
 | undef v => exact .undef v
 | agg cs vs hl h ih => exact .agg cs vs hl fun i c u h1 h3 => ih i c u h1 h3
 | tuple cs vs hl h ih => exact .tuple cs vs hl fun i c u h1 h3 => ih i c u h1 h3
 | fn f cs vs hl h ih => exact .fn f cs vs hl fun i c u h1 h3 => ih i c u h1 h3
 | fnb f cs vs hl h ih => exact .fnb f cs vs hl fun i c u h1 h3 => ih i c u h1 h3
 | sl _ _ _ _ _ _ _ _ ho => simp at ho
 | ptr _ _ _ _ _ _ _ ho => simp at ho
 | it _ _ _ _ ho => simp at ho
 | mp _ _ _ ho => simp at ho
 | mt _ _ _ _ _ ho => simp at ho
 | slc _ _ _ _ _ _ _ _ ho => simp at ho
open Classical in
theorem ACalls.lendF {f : FuncId} {args bs : List AVal} {R0 R : AVal} {sz : Nat} {es : List (List AVal)} (hflat : ∀ e ∈ es, ∀ d ∈ e, Go.AW.flatC d = true) (hpub : Pub [AObj.arr sz es] 0 [] R0 R) (hnol : Nol R0)
  (h : ACalls P f bs [] (fun r H' => r = R0 ∧ H' = [AObj.arr sz es])) (hl : Lents H args bs) : ACalls P f args H (fun r H' => r = R ∧ H' = H) := by
 intro C τ w vs hw hlen hr
 have hw0 : WF (commit C τ H []) τ [] w := by
  refine ⟨fun id o h => by simp at h, fun id o h => by simp at h, fun id o l h => by simp at h, fun id l h => by simp at h, fun i j li lj h => by simp at h, fun b hb => ?_, fun g cs hg => (hw.gls g cs hg).mono (fun b => commit_le hw b) fun _ _ _ => rfl⟩
  by_cases hex : ∃ id l, id < H.length ∧ τ id = some l ∧ l.b = b
  ·obtain ⟨id, l, h1, h2, rfl⟩ := hex
   exact hw.locLt h1 h2
  ·rw [commit_other fun id l h1 _ h2 h3 => hex ⟨id, l, h1, h2, h3⟩] at hb
   exact hw.lt b hb
 have hc := h (commit C τ H []) τ w vs hw0 (by rw [← hl.1]; exact hlen) fun i b v hb hv => by
  have hi : i < args.length := by have := (List.getElem?_eq_some_iff.1 hb).1; have := hl.1; omega
  exact (hl.2 i args[i] b (List.getElem?_eq_getElem hi) hb).rel hw (hr i args[i] v (List.getElem?_eq_getElem hi) hv)
 have fin : ∀ (e : Ending) (w' : World), (∃ v r C' τ' H', e = .returned v ∧ (r = R0 ∧ H' = [AObj.arr sz es]) ∧ Rel C' w' τ' H' r v ∧ St w (PrCall τ [] w) C' τ' H' w' ∧ Step (commit C τ H []) τ [] w C' τ' H' w') →
   ∃ v r C' τ' H', e = .returned v ∧ (r = R ∧ H' = H) ∧ Rel C' w' τ' H' r v ∧ St w (PrCall τ H w) C' τ' H' w' ∧ Step C τ H w C' τ' H' w' := by
  rintro e w' ⟨v, r, C1, τ1, H1, rfl, ⟨rfl, rfl⟩, hrel, hst, hstep⟩
  have hheap : ∀ b, b < w.heap.size → w'.heap[b]? = w.heap[b]? := fun b hb => hst.fr.prot b ⟨hb, by rintro ⟨id, l, h, _⟩; simp at h⟩
  have hfresh : ∀ l, τ1 0 = some l → w.heap.size ≤ l.b := fun l hl => by
   refine Nat.le_of_not_lt fun hlt => ?_
   exact hst.own l.b ⟨0, l, by simp, hl, rfl⟩ ⟨hlt, by rintro ⟨id, l, h, _⟩; simp at h⟩
  obtain ⟨C2, hC2⟩ : ∃ C2 : Nat → Nat, C2 = fun b => if Owned τ H b then C b else C1 b := ⟨_, rfl⟩
  have ho : ∀ b, Owned τ H b → C2 b = C b := fun b hb => by rw [hC2]; exact if_pos hb
  have hn : ∀ b, ¬ Owned τ H b → C2 b = C1 b := fun b hb => by rw [hC2]; exact if_neg hb
  have hcm : ∀ b, ¬ Owned τ H b → commit C τ H [] b = C b := fun b hb => commit_other fun id l h1 _ h2 h3 => hb ⟨id, l, h1, h2, h3⟩
  have hlt : ∀ b, Owned τ H b → b < w.heap.size := fun b ⟨id, l, h1, h2, h3⟩ => by rw [← h3]; exact hw.locLt h1 h2
  have step2 : Step C τ H w C2 τ H w' := by
   refine ⟨fun b => ?_, fun b i hi => cell_heap (hheap b (hw.lt b (by omega))), fun _ o h => ⟨o, h, o.after_refl _⟩, hst.fr.size, fun b hb => ?_⟩
   ·by_cases hb : Owned τ H b
    ·rw [ho b hb]; exact Nat.le_refl _
    ·rw [hn b hb, ← hcm b hb]; exact hstep.le b
   ·by_cases hb2 : Owned τ H b
    ·exact ho b hb2
    ·rw [hn b hb2, hstep.old b hb]; exact hcm b hb2
  have hlt2 : ∀ b, 0 < C2 b → b < w'.heap.size := fun b hb => by
   by_cases hb2 : Owned τ H b
   ·have := hlt b hb2
    have := hst.fr.size
    omega
   ·rw [hn b hb2] at hb
    exact hst.wf.lt b hb
  have wf2 : WF C2 τ1 [AObj.arr sz es] w' := by
   refine ⟨hst.wf.ok, hst.wf.virt, fun id o l h1 h2 => ?_, fun id l h1 h2 => ?_, hst.wf.inj, hlt2, hw.glsS step2⟩
   ·have hob := hst.wf.objs id o l h1 h2
    cases id with
    | succ id => cases h1
    | zero =>
     cases h1
     obtain ⟨e1, cells, elem, fz, e2, e3, e4, e5⟩ := hob
     refine ⟨e1, cells, elem, fz, e2, e3, e4, fun i j e d he hd => ?_⟩
     obtain ⟨u, hu, hru⟩ := e5 i j e d he hd
     exact ⟨u, hu, hru.flatC (hflat e (List.mem_of_getElem? he) d (List.mem_of_getElem? hd))⟩
   ·cases id with
    | succ id => simp at h1
    | zero =>
     have hno : ¬ Owned τ H l.b := fun hb => by
      have := hlt _ hb
      have := hfresh l h2
      omega
     rw [hn _ hno]
     exact hst.wf.comm 0 l h1 h2
  obtain ⟨C3, hC3⟩ : ∃ C3, C3 = commit C2 τ1 [AObj.arr sz es] [] := ⟨_, rfl⟩
  have hrel3 : Rel C3 w' τ [] R v := by
   have := pub_rel (n := 0) (ids := []) (τ2 := τ) (H2 := []) wf2 (fun k id h => by simp at h) (fun k id o h => by simp at h) hpub (hrel.nol hnol)
   rw [hC3]; exact this
  have hle3 : ∀ b, C2 b ≤ C3 b := fun b => by rw [hC3]; exact commit_le wf2 b
  have hoth : ∀ b, b < w.heap.size → C3 b = C2 b := fun b hb => by
   rw [hC3]
   exact commit_other fun id l h1 _ h2 h3 => by
    cases id with
    | succ id => simp at h1
    | zero =>
     have := hfresh l h2
     omega
  have step3 : Step C τ H w C3 τ H w' := ⟨fun b => Nat.le_trans (step2.le b) (hle3 b), step2.cell, step2.obj, step2.grow, fun b hb => by rw [hoth b hb]; exact step2.old b hb⟩
  have hwf3 : WF C3 τ H w' := by
   refine ⟨hw.ok, hw.virt, fun id o l h1 h2 => (hw.objs id o l h1 h2).mono step3 (hheap _ (hw.locLt (List.getElem?_eq_some_iff.1 h1).1 h2)), fun id l h1 h2 => ?_, hw.inj, fun b hb => ?_, hw.glsS step3⟩
   ·rw [hoth _ (hw.locLt h1 h2), ho l.b ⟨id, l, h1, h2, rfl⟩]; exact hw.comm id l h1 h2
   ·by_cases hb2 : ∃ l, τ1 0 = some l ∧ l.b = b
    ·obtain ⟨l, h1, rfl⟩ := hb2
     exact hst.wf.locLt (id := 0) (by simp) h1
    ·refine hlt2 b ?_
     rw [hC3, commit_other fun id l h1 _ h2 h3 => by
      cases id with
      | succ id => simp at h1
      | zero => exact hb2 ⟨l, h2, h3⟩] at hb
     exact hb
  refine ⟨v, R, C3, τ, H, rfl, ⟨rfl, rfl⟩, hrel3.narrow0, ⟨hwf3, ⟨hst.fr.os, hst.fr.tape, hst.fr.output, hst.fr.size, fun b hb => hheap b hb.1, hst.fr.drawn⟩, fun b ho hp => hp.2 ho, fun b hp => hp.1⟩, step3⟩
 unfold CallsX at hc ⊢
 split at hc
 ·exact Calls.mono hc fun e w' hh => fin e w' hh
 ·exact fin _ _ hc
 ·exact hc
theorem ACalls.liftU {f : FuncId} {args args0 : List AVal} {Q0 Q : AVal → List AObj → Prop} (hlen0 : args0.length = args.length) (ha : ∀ (i : Nat) (a : AVal), args[i]? = some a → a = .undef ∨ (a.closed = true ∧ args0[i]? = some a)) (h : ACalls P f args [] Q0)
  (hq : ∀ r H1, Q0 r H1 → ∃ ids r' Hn, Pub H1 H.length ids r r' ∧ ids.Nodup ∧ ids.length = Hn.length ∧ (∀ (k id : Nat), ids[k]? = some id → Hn[k]? = H1[id]? ∧ ∃ esz es, H1[id]? = some (.arr esz es) ∧ pureEs es = true) ∧ Q r' (H ++ Hn)) :
  ACalls P f args0 H Q := by
 intro C τ w vs hw hl hr
 have hw0 : WF C τ [] w := ⟨fun id o h => by simp at h, fun id o h => by simp at h, fun id o l h => by simp at h, fun id l h => by simp at h, fun i j li lj h => by simp at h, hw.lt, hw.gls⟩
 have hr0 : ∀ (i : Nat) (a : AVal) (v : Value), args[i]? = some a → vs[i]? = some v → Rel C w τ [] a v := fun i a v h1 h2 => by
  rcases ha i a h1 with rfl | ⟨hcl, h0⟩
  ·exact .undef v
  ·exact (hr i a v h0 h2).closed hcl (fun _ => Nat.le_refl _) (fun _ _ _ => rfl)
 have hc := h C τ w vs hw0 (by rw [← hlen0]; exact hl) hr0
 have fin : ∀ (e : Ending) (w' : World), (∃ v r C' τ' H', e = .returned v ∧ Q0 r H' ∧ Rel C' w' τ' H' r v ∧ St w (PrCall τ [] w) C' τ' H' w' ∧ Step C τ [] w C' τ' H' w') →
   ∃ v r C' τ' H', e = .returned v ∧ Q r H' ∧ Rel C' w' τ' H' r v ∧ St w (PrCall τ H w) C' τ' H' w' ∧ Step C τ H w C' τ' H' w' := by
  rintro e w' ⟨v, r, C1, τ1, H1, he, hq0, hrel, hst, hstep⟩
  obtain ⟨ids, r', Hn, hpub, hnd, hlen, hkeep, hQ⟩ := hq r H1 hq0
  have prall : ∀ b, b < w.heap.size → PrCall τ [] w b := fun b hb => ⟨hb, by rintro ⟨id, l, h, _⟩; simp at h⟩
  have hheap : ∀ b, b < w.heap.size → w'.heap[b]? = w.heap[b]? := fun b hb => hst.fr.prot b (prall b hb)
  have hnew : ∀ id l, id < H1.length → τ1 id = some l → w.heap.size ≤ l.b := fun id l h1 h2 => by
   rcases Nat.lt_or_ge l.b w.heap.size with h3 | h3
   ·exact absurd (prall _ h3) (hst.own _ ⟨id, l, h1, h2, rfl⟩)
   ·exact h3
  let τ2 : Nat → Option Loc := fun i => if i < H.length then τ i else match ids[i - H.length]? with
   | some id => τ1 id
   | none => none
  have hτ : ∀ i, i < H.length → τ2 i = τ i := fun i hi => by simp only [τ2, if_pos hi]
  have hτn : ∀ k id, ids[k]? = some id → τ2 (H.length + k) = τ1 id := fun k id hk => by
   simp only [τ2, if_neg (by omega : ¬ H.length + k < H.length), Nat.add_sub_cancel_left, hk]
  have hidlt : ∀ k id, ids[k]? = some id → id < H1.length := fun k id hk => by
   obtain ⟨_, esz, es, h1, _⟩ := hkeep k id hk
   exact (List.getElem?_eq_some_iff.1 h1).1
  have getn : ∀ k, (H ++ Hn)[H.length + k]? = Hn[k]? := fun k => by rw [List.getElem?_append_right (by omega), Nat.add_sub_cancel_left]
  have hC2 : ∀ b, b < w.heap.size → commit C1 τ1 H1 ids b = C b := fun b hb => by
   rw [commit_other fun id l h1 _ h2 h3 => by have := hnew id l h1 h2; omega]
   exact hstep.old b hb
  have step : Step C τ H w (commit C1 τ1 H1 ids) τ2 (H ++ Hn) w' := by
   refine ⟨fun b => Nat.le_trans (hstep.le b) (commit_le hst.wf b), fun b i hi => hstep.cell b i hi, fun id o ho => ?_, hstep.grow, hC2⟩
   have hi := (List.getElem?_eq_some_iff.1 ho).1
   exact ⟨o, by rw [List.getElem?_append_left hi]; exact ho, by rw [hτ id hi]; exact o.after_refl _⟩
  
  have split : ∀ i, i < (H ++ Hn).length → i < H.length ∨ ∃ k id, i = H.length + k ∧ ids[k]? = some id := fun i hi => by
   rcases Nat.lt_or_ge i H.length with h1 | h1
   ·exact .inl h1
   ·have hk : i - H.length < ids.length := by rw [List.length_append] at hi; omega
    exact .inr ⟨i - H.length, ids[i - H.length], by omega, List.getElem?_eq_getElem hk⟩
  refine ⟨v, r', commit C1 τ1 H1 ids, τ2, H ++ Hn, he, hQ, pub_rel hst.wf (fun k id hk => ⟨fun esz es he => ⟨es, by rw [getn, (hkeep k id hk).1]; exact he, rfl⟩, hτn k id hk⟩) (fun k id o hk h1 hm => by obtain ⟨_, esz, es, g2, _⟩ := hkeep k id hk; rw [g2] at h1; cases h1; cases hm) hpub hrel, ⟨⟨?_, ?_, ?_, ?_, ?_, ?_, hw.glsS step⟩, ?_, ?_, ?_⟩, step⟩
  ·intro i o ho
   rcases split i (List.getElem?_eq_some_iff.1 ho).1 with h1 | ⟨k, id, rfl, hk⟩
   ·rw [List.getElem?_append_left h1] at ho; exact hw.ok i o ho
   ·rw [getn, (hkeep k id hk).1] at ho; exact hst.wf.ok id o ho
  ·intro i o ho ht
   rcases split i (List.getElem?_eq_some_iff.1 ho).1 with h1 | ⟨k, id, rfl, hk⟩
   ·rw [List.getElem?_append_left h1] at ho; rw [hτ i h1] at ht; exact hw.virt i o ho ht
   ·rw [getn, (hkeep k id hk).1] at ho; rw [hτn k id hk] at ht; exact hst.wf.virt id o ho ht
  ·intro i o l ho ht
   rcases split i (List.getElem?_eq_some_iff.1 ho).1 with h1 | ⟨k, id, rfl, hk⟩
   ·rw [List.getElem?_append_left h1] at ho; rw [hτ i h1] at ht
    exact (hw.objs i o l ho ht).mono step (hheap _ (hw.locLt h1 ht))
   ·obtain ⟨g1, esz, es, g2, g3⟩ := hkeep k id hk
    rw [getn, g1, g2] at ho; cases ho
    rw [hτn k id hk] at ht
    obtain ⟨a1, cells, elem, fz, a2, a3, a4, a5⟩ := hst.wf.objs id _ l g2 ht
    refine ⟨a1, cells, elem, fz, a2, a3, a4, fun i j e d hi hd => ?_⟩
    obtain ⟨x, hx1, hx2⟩ := a5 i j e d hi hd
    exact ⟨x, hx1, .rd ((hx2.pure (pureEs_get g3 hi hd)).mono (commit_le hst.wf) (fun _ _ _ => rfl))⟩
  ·intro i l hi ht
   rcases split i hi with h1 | ⟨k, id, rfl, hk⟩
   ·rw [hτ i h1] at ht
    rw [hC2 _ (hw.locLt h1 ht)]; exact hw.comm i l h1 ht
   ·rw [hτn k id hk] at ht
    have hlt := hidlt k id hk
    rw [commit_other fun id' l' h1 h2 h3 h4 => h2 (by
     have := hst.wf.inj id' id l' l h1 hlt h3 ht h4
     subst this; exact List.mem_of_getElem? hk)]
    exact hst.wf.comm id l hlt ht
  ·intro i j li lj hi hj hti htj hb
   rcases split i hi with h1 | ⟨k, id, rfl, hk⟩ <;> rcases split j hj with h2 | ⟨k', id', rfl, hk'⟩
   ·rw [hτ i h1] at hti; rw [hτ j h2] at htj; exact hw.inj i j li lj h1 h2 hti htj hb
   ·rw [hτ i h1] at hti; rw [hτn k' id' hk'] at htj
    have := hw.locLt h1 hti; have := hnew id' lj (hidlt k' id' hk') htj; omega
   ·rw [hτn k id hk] at hti; rw [hτ j h2] at htj
    have := hw.locLt h2 htj; have := hnew id li (hidlt k id hk) hti; omega
   ·rw [hτn k id hk] at hti; rw [hτn k' id' hk'] at htj
    have e := hst.wf.inj id id' li lj (hidlt k id hk) (hidlt k' id' hk') hti htj hb
    subst e
    have hki := (List.getElem?_eq_some_iff.1 hk)
    have hki' := (List.getElem?_eq_some_iff.1 hk')
    have hne := List.pairwise_iff_getElem.1 hnd
    rcases Nat.lt_trichotomy k k' with h3 | h3 | h3
    ·exact absurd (hki.2.trans hki'.2.symm) (hne k k' hki.1 hki'.1 h3)
    ·omega
    ·exact absurd (hki'.2.trans hki.2.symm) (hne k' k hki'.1 hki.1 h3)
  ·intro b hb
   by_cases h1 : ∃ id l, id < H1.length ∧ τ1 id = some l ∧ l.b = b
   ·obtain ⟨id, l, h1, h2, rfl⟩ := h1
    exact hst.wf.locLt h1 h2
   ·rw [commit_other fun id l g1 _ g2 g3 => h1 ⟨id, l, g1, g2, g3⟩] at hb
    exact hst.wf.lt b hb
  ·exact ⟨hst.fr.os, hst.fr.tape, hst.fr.output, hst.fr.size, fun b hb => hheap b hb.1, hst.fr.drawn⟩
  ·rintro b ⟨i, l, hi, ht, rfl⟩ hp
   rcases split i hi with h1 | ⟨k, id, rfl, hk⟩
   ·rw [hτ i h1] at ht; exact hp.2 ⟨i, l, h1, ht, rfl⟩
   ·rw [hτn k id hk] at ht
    have := hnew id l (hidlt k id hk) ht; have := hp.1; omega
  ·exact fun b hb => hb.1
 unfold CallsX at hc ⊢
 split at hc
 ·exact Calls.mono hc fun e w' hh => fin e w' hh
 ·exact fin _ _ hc
 ·exact hc
theorem ACalls.pureU {f : FuncId} {a : AVal} {args : List AVal} {R : AVal} (ha : args.all AVal.closed = true) (h : ACalls P f (.undef :: args) [] (fun r H1 => Pub H1 0 [] r R)) :
  ACalls P f (a :: args) H (fun r H' => r = R ∧ H' = H) :=
 ACalls.liftU (args := .undef :: args) (args0 := a :: args) (Q := fun r H' => r = R ∧ H' = H) rfl (fun i x hx => by
  cases i with
  | zero => cases hx; exact .inl rfl
  | succ i => exact .inr ⟨List.all_eq_true.1 ha x (List.mem_of_getElem? hx), hx⟩) h fun r H1 hp => ⟨[], R, [], hp.any, List.nodup_nil, rfl, fun k id h => by simp at h, ⟨rfl, by simp⟩⟩
end
end Go.AW

namespace Go.AW
variable [Draws]
attribute [local irreducible] ACalls
set_option maxRecDepth 20000
theorem clL {H1 : List AObj} {n : Nat} {ids : List Nat} (f : Bool) (z : Nat) (y : List (List AVal)) : Pub H1 n ids (.list f z y) (.list f z y) := .closed _ rfl
theorem zV_valid : validB zV = true := by decide
theorem Row_frz (e1 e2 : Bool) (cs : List Col) (l : List Int) (i : Int) (hc : cs.length ≤ 1000) (hi : 0 ≤ i ∧ i ≤ 1000000) (H : List AObj) :
  ACalls pr 8 [.list e1 3 (cC cs), .list e2 1 (iC l), .int .i64 i] H (fun r H' => r = .list false 3 (vC (rowC cs l i)) ∧ H' = H) :=
 ACalls.frz1 (by simp [AVal.closed, AVal.isPure]) (Row_raw e1 e2 cs l i hc hi) (by rw [vC_length, rowC_length]) (pureEs_vC _)
def cntG (l : List Int) (i : Int) : Int := if (atV l (5 * i + 4)).tmod 5 = 0 then 1 + ((atV l (5 * i + 4)).tdiv 5).tmod 3 else 1
def entG (cs : List Col) (l : List Int) (i : Nat) : Ent := ⟨rowC cs l (5 * (i : Int)), cntG l i⟩
def rowsG (cs : List Col) (l : List Int) (n : Nat) : List Ent := (List.range n).map (entG cs l)
theorem rowsG_length (cs : List Col) (l : List Int) (n : Nat) : (rowsG cs l n).length = n := by simp [rowsG]
theorem rowsG_snoc (cs : List Col) (l : List Int) (n : Nat) : rowsG cs l (n + 1) = rowsG cs l n ++ [entG cs l n] := by simp [rowsG, List.range_succ]
theorem atV_nn (l : List Int) (i : Int) : 0 ≤ atV l i ∧ atV l i ≤ 200000 := by
 have h0 : 0 ≤ and64 i 65535 ∧ and64 i 65535 ≤ 65535 := by rw [and_ffff]; omega
 unfold atV
 split
 ·omega
 ·rename_i h
  generalize hx : l.getD ((and64 i 65535).tmod l.length).toNat 0 = x
  have h1 : 0 ≤ and64 x 65535 ∧ and64 x 65535 ≤ 65535 := by rw [and_ffff]; omega
  have h2 : 0 ≤ (and64 i 65535).tdiv l.length ∧ (and64 i 65535).tdiv l.length ≤ 65535 := by
   have e : (and64 i 65535).tdiv l.length = (and64 i 65535) / (l.length : Int) := Int.tdiv_eq_ediv_of_nonneg h0.1
   rw [e]
   refine ⟨Int.ediv_nonneg h0.1 (by omega), ?_⟩
   exact Int.le_trans (Int.ediv_le_self _ h0.1) h0.2
  rw [wrapI ((and64 i 65535).tdiv l.length) (by omega) (by omega), wrapI _ (by omega) (by omega)]
  omega
theorem cntG_pos (l : List Int) (i : Int) : 1 ≤ cntG l i ∧ cntG l i ≤ 3 := by
 have h := atV_nn l (5 * i + 4)
 unfold cntG
 split
 ·have e1 : (atV l (5 * i + 4)).tdiv 5 = atV l (5 * i + 4) / 5 := Int.tdiv_eq_ediv_of_nonneg h.1
  have e2 : (atV l (5 * i + 4) / 5).tmod 3 = (atV l (5 * i + 4) / 5) % 3 := Int.tmod_eq_emod_of_nonneg (by omega)
  rw [e1, e2]; omega
 ·omega
set_option maxRecDepth 20000 in
theorem cellV_valid (c : Col) (n : Int) : validB (cellV c n) = true := by
 unfold cellV
 split
 ·exact zV_valid
 ·exact valueV_valid _ _
theorem rowC_valid : ∀ (cs : List Col) (l : List Int) (i : Int), (rowC cs l i).all validB = true
 | [], _, _ => rfl
 | c :: cs, l, i => by rw [rowC, List.all_cons, cellV_valid, rowC_valid cs]; rfl
theorem sumP_mem {l : List Ent} {e : Ent} (h : e ∈ (sumP l).1) : e.cnt ≠ 0 ∧ ∃ x ∈ l, x.row = e.row := by
 unfold sumP resP at h
 split at h
 ·obtain ⟨h1, h2⟩ := List.mem_filter.1 h
  exact ⟨by simpa [nzB] using h2, mem_srtM _ _ e h1⟩
 ·cases h
theorem cntL_pos : ∀ (l : List Ent), (∀ e ∈ l, 0 < e.cnt) → ∀ r, 0 ≤ cntL l r
 | [], _, r => by simp [cntL]
 | e :: l, h, r => by
  have h1 := cntL_pos l (fun x hx => h x (List.mem_cons_of_mem _ hx)) r
  have h2 := h e (List.mem_cons_self ..)
  rw [cntL]; split <;> omega
def clOk (c : Col) : Prop := 1 ≤ c.kind ∧ c.kind ≤ 4
theorem valueV_kind {k : Int} (n : Int) (h : 1 ≤ k ∧ k ≤ 4) : (valueV k n).kind = k := by
 obtain rfl | rfl | rfl | rfl : k = 1 ∨ k = 2 ∨ k = 3 ∨ k = 4 := by omega
 all_goals rfl
theorem cellV_fit {c : Col} (h : clOk c) (n : Int) : badB c (cellV c n) = false := by
 unfold cellV badB
 split
 ·rename_i h1
  simp [zV, h1.1]
 ·have := valueV_kind (w64 (n.tdiv 4)) h
  unfold clOk at h
  simp [this]
  omega
theorem rowC_chk : ∀ (cs : List Col) (l : List Int) (i : Int), (∀ c ∈ cs, clOk c) → chkGo cs (rowC cs l i) = 0
 | [], _, _, _ => rfl
 | c :: cs, l, i, h => by
  rw [rowC, chkGo, if_neg (by rw [cellV_valid]; decide), if_neg (by rw [cellV_fit (h c (List.mem_cons_self ..))]; decide)]
  exact rowC_chk cs l (i + 1) fun x hx => h x (List.mem_cons_of_mem _ hx)
def tabG (cs : List Col) (l : List Int) (n : Nat) : List Ent := (norP (rowsG cs l n)).1
def TbOk (cs : List Col) (b : List Ent) : Prop := tabB b = true ∧ ∀ e ∈ b, chkRow cs e.row = 0
theorem tabG_ok (cs : List Col) (h : ∀ c ∈ cs, clOk c) (l : List Int) (n : Nat) : TbOk cs (tabG cs l n) := by
 have hg := norP_good (rowsG cs l n)
 have hmem : ∀ e ∈ tabG cs l n, e.cnt ≠ 0 ∧ (∃ x ∈ rowsG cs l n, x.row = e.row) ∧ 0 ≤ cntL (tabG cs l n) e.row := by
  intro e he
  unfold tabG norP at he
  split at he
  ·cases he
  ·rename_i h
   have et : tabG cs l n = (sumP (rowsG cs l n)).1 := by rw [tabG, norP, if_neg h]
   rw [et]
   obtain ⟨h1, h2⟩ := sumP_mem he
   refine ⟨h1, h2, ?_⟩
   by_cases h0 : (sumP (rowsG cs l n)).2 = 0
   ·rw [sumP_cnt h0]
    exact cntL_pos _ (fun x hx => by
     obtain ⟨i, _, rfl⟩ := List.mem_map.1 hx
     have := cntG_pos l i
     show 0 < cntG l i
     omega) _
   ·have : (sumP (rowsG cs l n)).1 = [] := by
     unfold sumP resP at h0 ⊢
     split at h0
     ·exact absurd rfl h0
     ·rename_i h3; rw [if_neg h3]
    rw [this] at he; cases he
 have hb : bagB (tabG cs l n) = 0 := hg.1
 refine ⟨?_, fun e he => ?_⟩
 ·unfold tabB
  rw [hb]
  simp only [BEq.rfl, Bool.true_and, List.all_eq_true]
  intro e he
  obtain ⟨h1, _, h3⟩ := hmem e he
  have h4 : cntL (tabG cs l n) e.row = e.cnt := cntL_mem (bag_srt hb) he
  unfold posE
  simp; omega
 ·obtain ⟨_, ⟨x, hx, hxe⟩, _⟩ := hmem e he
  obtain ⟨i, _, rfl⟩ := List.mem_map.1 hx
  rw [← hxe]
  show chkRow cs (rowC cs l (5 * (i : Int))) = 0
  rw [chkRow, if_pos (rowC_length _ _ _)]
  exact rowC_chk cs l _ h
theorem TbOk.filter {cs : List Col} {b : List Ent} (h : TbOk cs b) (p : Ent → Bool) : TbOk cs (b.filter p) := by
 obtain ⟨h1, h2⟩ := h
 unfold tabB at h1
 simp only [Bool.and_eq_true, beq_iff_eq, List.all_eq_true] at h1
 obtain ⟨hb, hp⟩ := h1
 refine ⟨?_, fun e he => h2 e (List.mem_filter.1 he).1⟩
 have hb2 := (bagB_iff b).1 hb
 unfold tabB
 simp only [Bool.and_eq_true, beq_iff_eq, List.all_eq_true]
 refine ⟨(bagB_iff _).2 ⟨Nat.le_trans (List.length_filter_le _ _) hb2.1, fun e he => hb2.2.1 e (List.mem_filter.1 he).1, hb2.2.2.filter _⟩, fun e he => hp e (List.mem_filter.1 he).1⟩
end Go.AW

namespace Go.AW
variable [Draws]
attribute [local irreducible] ACalls CallE CallS Gp
set_option maxRecDepth 20000
set_option maxHeartbeats 2000000
def rgM (n : Int) : Prop := -1073741824 ≤ n ∧ n ≤ 1073741824
def IsNB (r : AVal) : Prop := ∃ (m : Int) (b : Bool), r = .tuple [.int .i64 m, .bool b] ∧ (b = true → rgM m)
def IsVv (r : AVal) : Prop := ∃ v : V, r = .agg (valC v)
def IsSm (n : Int) (r : AVal) : Prop := ∃ b : Bool, r = .bool b ∧ (b = true → rgM n)
theorem isNBf {n : Int} {H : List AObj} : ∃ r, Pub H 0 [] (.tuple [.int .i64 n, .bool false]) r ∧ IsNB r := ⟨_, pub2 (.closed _ rfl) (.closed _ rfl), _, _, rfl, fun h => by cases h⟩
theorem isNB {n : Int} {b : Bool} (h : b = true → rgM n) {H : List AObj} : ∃ r, Pub H 0 [] (.tuple [.int .i64 n, .bool b]) r ∧ IsNB r := ⟨_, pub2 (.closed _ rfl) (.closed _ rfl), _, _, rfl, h⟩
theorem isVv (a b : Int) (s : ByteArray) {H : List AObj} : ∃ r, Pub H 0 [] (.agg [.int .i64 a, .int .i64 b, .str s]) r ∧ IsVv r := ⟨_, .closed _ rfl, ⟨a, b, s⟩, rfl⟩
theorem isSm {n : Int} {b : Bool} (h : b = true → rgM n) {H : List AObj} : ∃ r, Pub H 0 [] (.bool b) r ∧ IsSm n r := ⟨_, .closed _ rfl, b, rfl, h⟩
theorem small_d (n : Int) : DetS pr 103 [.int .i64 n] (IsSm n) := by
 refine dets_of_body k103.has rfl ?_
 repeat' ((conv => whnf); first | refine And.intro (by first | omega | (simp <;> omega) | (simp [roomB] <;> omega) | fail) ?_ | refine And.intro rfl ?_ | refine recO (map_at (by assumption)) ?_ | refine recOm (by omega) (fun x hx hm => ?_) | ((first | refine recAd (fun h => ?_) (fun h => ?_) | refine recAe (fun h => ?_) (fun h => ?_) | refine recAn (fun h => ?_) (fun h => ?_) | refine recNot (fun h => ?_) (fun h => ?_) | refine recA (fun h => ?_) (fun h => ?_)) <;> (try simp at h) <;> (try (exfalso; omega))))
 all_goals ((conv => whnf); exact isSm (fun h => by unfold rgM; simp_all <;> omega))
theorem checked_d (n : Int) : DetS pr 104 [.int .i64 n] IsNB := by
 refine dets_of_body k104.has rfl ?_
 repeat' ((conv => whnf); first | ((first | refine DetS.use (small_d _) (fun r hr => ?_) | refine DetS.draw (small_d _) (fun r hr => ?_)); obtain ⟨b, rfl, hb⟩ := hr) | refine And.intro (by first | omega | (simp <;> omega) | (simp [roomB] <;> omega) | fail) ?_ | refine And.intro rfl ?_ | refine recO (map_at (by assumption)) ?_ | refine recOm (by omega) (fun x hx hm => ?_) | ((first | refine recAd (fun h => ?_) (fun h => ?_) | refine recAe (fun h => ?_) (fun h => ?_) | refine recAn (fun h => ?_) (fun h => ?_) | refine recNot (fun h => ?_) (fun h => ?_) | refine recA (fun h => ?_) (fun h => ?_)) <;> (try simp at h) <;> (try (exfalso; omega))))
 all_goals ((conv => whnf); first | exact isNBf | exact isNB (fun _ => hb (by assumption)))
theorem xAdd_d (a b : Int) : DetS pr 111 [.int .i64 a, .int .i64 b] IsNB := by
 refine dets_of_body k111.has rfl ?_
 repeat' ((conv => whnf); first | ((first | refine DetS.use (small_d _) (fun r hr => ?_) | refine DetS.draw (small_d _) (fun r hr => ?_)); obtain ⟨b, rfl, hb⟩ := hr) | ((first | refine DetS.use (checked_d _) (fun r hr => ?_) | refine DetS.draw (checked_d _) (fun r hr => ?_)); obtain ⟨m, b, rfl, hb⟩ := hr) | refine And.intro (by first | omega | (simp <;> omega) | (simp [roomB] <;> omega) | fail) ?_ | refine And.intro rfl ?_ | refine recO (map_at (by assumption)) ?_ | refine recOm (by omega) (fun x hx hm => ?_) | ((first | refine recAd (fun h => ?_) (fun h => ?_) | refine recAe (fun h => ?_) (fun h => ?_) | refine recAn (fun h => ?_) (fun h => ?_) | refine recNot (fun h => ?_) (fun h => ?_) | refine recA (fun h => ?_) (fun h => ?_)) <;> (try simp at h) <;> (try (exfalso; omega))))
 all_goals ((conv => whnf); first | exact isNBf | exact isNB hb)
theorem xSub_d (a b : Int) : DetS pr 61 [.int .i64 a, .int .i64 b] IsNB := by
 refine dets_of_body k61.has rfl ?_
 repeat' ((conv => whnf); first | ((first | refine DetS.use (small_d _) (fun r hr => ?_) | refine DetS.draw (small_d _) (fun r hr => ?_)); obtain ⟨b, rfl, hb⟩ := hr) | ((first | refine DetS.use (checked_d _) (fun r hr => ?_) | refine DetS.draw (checked_d _) (fun r hr => ?_)); obtain ⟨m, b, rfl, hb⟩ := hr) | refine And.intro (by first | omega | (simp <;> omega) | (simp [roomB] <;> omega) | fail) ?_ | refine And.intro rfl ?_ | refine recO (map_at (by assumption)) ?_ | refine recOm (by omega) (fun x hx hm => ?_) | ((first | refine recAd (fun h => ?_) (fun h => ?_) | refine recAe (fun h => ?_) (fun h => ?_) | refine recAn (fun h => ?_) (fun h => ?_) | refine recNot (fun h => ?_) (fun h => ?_) | refine recA (fun h => ?_) (fun h => ?_)) <;> (try simp at h) <;> (try (exfalso; omega))))
 all_goals ((conv => whnf); first | exact isNBf | exact isNB hb)
theorem xMul_d (a b : Int) : DetS pr 112 [.int .i64 a, .int .i64 b] IsNB := by
 refine dets_of_body k112.has rfl ?_
 repeat' ((conv => whnf); first | ((first | refine DetS.use (small_d _) (fun r hr => ?_) | refine DetS.draw (small_d _) (fun r hr => ?_)); obtain ⟨b, rfl, hb⟩ := hr) | ((first | refine DetS.use (checked_d _) (fun r hr => ?_) | refine DetS.draw (checked_d _) (fun r hr => ?_)); obtain ⟨m, b, rfl, hb⟩ := hr) | refine And.intro (by first | omega | (simp <;> omega) | (simp [roomB] <;> omega) | fail) ?_ | refine And.intro rfl ?_ | refine recO (map_at (by assumption)) ?_ | refine recOm (by omega) (fun x hx hm => ?_) | ((first | refine recAd (fun h => ?_) (fun h => ?_) | refine recAe (fun h => ?_) (fun h => ?_) | refine recAn (fun h => ?_) (fun h => ?_) | refine recNot (fun h => ?_) (fun h => ?_) | refine recA (fun h => ?_) (fun h => ?_)) <;> (try simp at h) <;> (try (exfalso; omega))))
 all_goals ((conv => whnf); first | exact isNBf | exact isNB hb)
theorem div_bd {a b : Int} (ha : rgM a) (hb : rgM b) (h0 : b ≠ 0) : rgM (a.tdiv b) ∧ (a.tmod b).natAbs < b.natAbs ∧ (a.tmod b ≠ 0 → rgM (a.tdiv b - 1)) := by
 unfold rgM at *
 have hq : (a.tdiv b).natAbs = a.natAbs / b.natAbs := Int.natAbs_tdiv a b
 have hm : (a.tmod b).natAbs = a.natAbs % b.natAbs := Int.natAbs_tmod a b
 have hb1 : 0 < b.natAbs := by omega
 have h1 := Nat.div_le_self a.natAbs b.natAbs
 have h2 := Nat.mod_lt a.natAbs hb1
 refine ⟨by omega, by omega, fun hr => ?_⟩
 have h3 : 2 ≤ b.natAbs := by
  refine Nat.lt_of_not_le fun h => ?_
  have : b.natAbs = 1 := by omega
  rw [this, Nat.mod_one] at hm
  omega
 have h4 : a.natAbs / b.natAbs ≤ a.natAbs / 2 := Nat.div_le_div_left h3 (by decide)
 omega
theorem rgW {x : Int} (h : rgM x) : rgM (IntKind.i64.wrap x) := by unfold rgM at *; rw [wrapI x (by omega) (by omega)]; exact h
theorem rgE {x : Int} (h : rgM x) : IntKind.i64.wrap x = x := by unfold rgM at h; exact wrapI x (by omega) (by omega)
def IsDv (r : AVal) : Prop := ∃ (q m : Int) (o : Bool), r = .tuple [.int .i64 q, .int .i64 m, .bool o] ∧ (o = true → rgM q ∧ rgM m)
theorem xdF {q m : Int} {H : List AObj} : ∃ r, Pub H 0 [] (.tuple [.int .i64 q, .int .i64 m, .bool false]) r ∧ IsDv r := ⟨_, pub3 (.closed _ rfl) (.closed _ rfl) (.closed _ rfl), _, _, _, rfl, fun h => by cases h⟩
theorem xdT {q m : Int} {H : List AObj} (h : rgM q ∧ rgM m) : ∃ r, Pub H 0 [] (.tuple [.int .i64 q, .int .i64 m, .bool true]) r ∧ IsDv r := ⟨_, pub3 (.closed _ rfl) (.closed _ rfl) (.closed _ rfl), _, _, _, rfl, fun _ => h⟩
theorem xd1 {a b : Int} (ha : rgM a) (hb : rgM b) (h0 : ¬ b = 0) : rgM (IntKind.i64.wrap (a.tdiv b)) ∧ rgM (a.tmod b) := by
 obtain ⟨d1, d2, d3⟩ := div_bd ha hb h0
 refine ⟨rgW d1, ?_⟩
 unfold rgM at *; omega
theorem xd2 {a b : Int} (ha : rgM a) (hb : rgM b) (h0 : ¬ b = 0) (h1 : ¬ a.tmod b = 0) (h2 : ¬ (a.tmod b < 0 ↔ b < 0)) : rgM (IntKind.i64.wrap (IntKind.i64.wrap (a.tdiv b) - 1)) ∧ rgM (IntKind.i64.wrap (a.tmod b + b)) := by
 obtain ⟨d1, d2, d3⟩ := div_bd ha hb h0
 rw [rgE d1]
 refine ⟨rgW (d3 h1), rgW ?_⟩
 unfold rgM at *
 by_cases hb0 : b < 0
 ·have : ¬ a.tmod b < 0 := fun h => h2 ⟨fun _ => hb0, fun _ => h⟩
  omega
 ·have : a.tmod b < 0 := Decidable.byContradiction fun h => h2 ⟨fun g => absurd g h, fun g => absurd g hb0⟩
  omega
theorem xdiv_d (a b : Int) : DetS pr 149 [.int .i64 a, .int .i64 b] IsDv := by
 refine dets_of_body k149.has rfl ?_
 repeat' ((conv => whnf); first | ((first | refine DetS.use (small_d a) (fun r hr => ?_) | refine DetS.draw (small_d a) (fun r hr => ?_)); obtain ⟨c, rfl, hc⟩ := hr) | ((first | refine DetS.use (small_d b) (fun r hr => ?_) | refine DetS.draw (small_d b) (fun r hr => ?_)); obtain ⟨d, rfl, hd⟩ := hr) | refine And.intro (by first | omega | (simp <;> omega) | (simp [roomB] <;> omega) | fail) ?_ | refine And.intro rfl ?_ | refine recO (map_at (by assumption)) ?_ | refine recOm (by omega) (fun x hx hm => ?_) | ((first | refine recAd (fun h => ?_) (fun h => ?_) | refine recAe (fun h => ?_) (fun h => ?_) | refine recAn (fun h => ?_) (fun h => ?_) | refine recNot (fun h => ?_) (fun h => ?_) | refine recA (fun h => ?_) (fun h => ?_)) <;> (try simp at h) <;> (try (exfalso; omega))))
 all_goals ((conv => whnf); first | exact xdF | exact xdT (xd1 (hc (by assumption)) (hd (by assumption)) (by assumption)) | exact xdT (xd2 (hc (by assumption)) (hd (by assumption)) (by assumption) (by assumption) (by assumption)))
theorem xDiv_d (a b : Int) : DetS pr 113 [.int .i64 a, .int .i64 b] IsNB := by
 refine dets_of_body k113.has rfl ?_
 repeat' ((conv => whnf); first | ((first | refine DetS.use (xdiv_d _ _) (fun r hr => ?_) | refine DetS.draw (xdiv_d _ _) (fun r hr => ?_)); obtain ⟨q, m, b, rfl, hb⟩ := hr) | refine And.intro (by first | omega | (simp <;> omega) | (simp [roomB] <;> omega) | fail) ?_ | refine And.intro rfl ?_ | refine recO (map_at (by assumption)) ?_ | refine recOm (by omega) (fun x hx hm => ?_) | ((first | refine recAd (fun h => ?_) (fun h => ?_) | refine recAe (fun h => ?_) (fun h => ?_) | refine recAn (fun h => ?_) (fun h => ?_) | refine recNot (fun h => ?_) (fun h => ?_) | refine recA (fun h => ?_) (fun h => ?_)) <;> (try simp at h) <;> (try (exfalso; omega))))
 all_goals ((conv => whnf); exact isNB (fun h => (hb h).1))
theorem xMod_d (a b : Int) : DetS pr 114 [.int .i64 a, .int .i64 b] IsNB := by
 refine dets_of_body k114.has rfl ?_
 repeat' ((conv => whnf); first | ((first | refine DetS.use (xdiv_d _ _) (fun r hr => ?_) | refine DetS.draw (xdiv_d _ _) (fun r hr => ?_)); obtain ⟨q, m, b, rfl, hb⟩ := hr) | refine And.intro (by first | omega | (simp <;> omega) | (simp [roomB] <;> omega) | fail) ?_ | refine And.intro rfl ?_ | refine recO (map_at (by assumption)) ?_ | refine recOm (by omega) (fun x hx hm => ?_) | ((first | refine recAd (fun h => ?_) (fun h => ?_) | refine recAe (fun h => ?_) (fun h => ?_) | refine recAn (fun h => ?_) (fun h => ?_) | refine recNot (fun h => ?_) (fun h => ?_) | refine recA (fun h => ?_) (fun h => ?_)) <;> (try simp at h) <;> (try (exfalso; omega))))
 all_goals ((conv => whnf); exact isNB (fun h => (hb h).2))
def boV (b : Bool) : V := ⟨1, if b then 1 else 0, bs []⟩
theorem boV_valid (b : Bool) : validB (boV b) = true := by cases b <;> decide
theorem boolean_d (b : Bool) : DetS pr 57 [.bool b] (fun r => r = .agg (valC (boV b))) := by
 refine dets_of_body k57.has rfl ?_
 repeat' ((conv => whnf); first | refine And.intro (by first | omega | (simp <;> omega) | (simp [roomB] <;> omega) | fail) ?_ | refine And.intro rfl ?_ | refine recO (map_at (by assumption)) ?_ | refine recOm (by omega) (fun x hx hm => ?_) | ((first | refine recAd (fun h => ?_) (fun h => ?_) | refine recAe (fun h => ?_) (fun h => ?_) | refine recAn (fun h => ?_) (fun h => ?_) | refine recNot (fun h => ?_) (fun h => ?_) | refine recA (fun h => ?_) (fun h => ?_)) <;> (try simp at h) <;> (try (exfalso; omega))))
 all_goals ((conv => whnf); subst b; exact ⟨_, .closed _ rfl, rfl⟩)
theorem number_d (n : Int) (b : Bool) : DetS pr 60 [.int .i64 n, .bool b] IsVv := by
 refine dets_of_body k60.has rfl ?_
 repeat' ((conv => whnf); first | refine And.intro (by first | omega | (simp <;> omega) | (simp [roomB] <;> omega) | fail) ?_ | refine And.intro rfl ?_ | refine recO (map_at (by assumption)) ?_ | refine recOm (by omega) (fun x hx hm => ?_) | ((first | refine recAd (fun h => ?_) (fun h => ?_) | refine recAe (fun h => ?_) (fun h => ?_) | refine recAn (fun h => ?_) (fun h => ?_) | refine recNot (fun h => ?_) (fun h => ?_) | refine recA (fun h => ?_) (fun h => ?_)) <;> (try simp at h) <;> (try (exfalso; omega))))
 all_goals ((conv => whnf); exact isVv _ _ _)
theorem moment_d (n : Int) : DetS pr 110 [.int .i64 n] IsVv := by
 refine dets_of_body k110.has rfl ?_
 repeat' ((conv => whnf); first | refine And.intro (by first | omega | (simp <;> omega) | (simp [roomB] <;> omega) | fail) ?_ | refine And.intro rfl ?_ | refine recO (map_at (by assumption)) ?_ | refine recOm (by omega) (fun x hx hm => ?_) | ((first | refine recAd (fun h => ?_) (fun h => ?_) | refine recAe (fun h => ?_) (fun h => ?_) | refine recAn (fun h => ?_) (fun h => ?_) | refine recNot (fun h => ?_) (fun h => ?_) | refine recA (fun h => ?_) (fun h => ?_)) <;> (try simp at h) <;> (try (exfalso; omega))))
 all_goals ((conv => whnf); exact isVv _ _ _)
def lgV (a b : V) (d : Int) : V := if truth a = d ∨ truth b = d then boV (d == 1) else if truth a < 0 ∨ truth b < 0 then ⟨0, 0, bs []⟩ else boV (d == 0)
theorem logic_d (a b : V) (d : Int) : DetS pr 56 [.agg (valC a), .agg (valC b), .int .i64 d] (fun r => r = .agg (valC (lgV a b d))) := by
 suffices h : DetS pr 56 [.agg (valC a), .agg (valC b), .int .i64 d] (fun r => ∃ v, r = .agg (valC v) ∧ v = lgV a b d) from h.mono fun r ⟨v, h1, h2⟩ => by rw [h1, h2]
 refine dets_of_body k56.has rfl ?_
 repeat' ((conv => whnf); first | ((first | refine DetS.use (DetS.of (value_Truth_spec _)) (fun r hr => ?_) | refine DetS.draw (DetS.of (value_Truth_spec _)) (fun r hr => ?_)); obtain rfl := hr) | ((first | refine DetS.use (boolean_d _) (fun r hr => ?_) | refine DetS.draw (boolean_d _) (fun r hr => ?_)); obtain rfl := hr) | refine And.intro (by first | omega | (simp <;> omega) | (simp [roomB] <;> omega) | fail) ?_ | refine And.intro rfl ?_ | refine recO (map_at (by assumption)) ?_ | refine recOm (by omega) (fun x hx hm => ?_) | ((first | refine recAd (fun h => ?_) (fun h => ?_) | refine recAe (fun h => ?_) (fun h => ?_) | refine recAn (fun h => ?_) (fun h => ?_) | refine recNot (fun h => ?_) (fun h => ?_) | refine recA (fun h => ?_) (fun h => ?_)) <;> (try simp at h) <;> (try (exfalso; omega))))
 all_goals ((conv => whnf); first | exact ⟨_, .closed _ rfl, boV _, rfl, by unfold lgV; (repeat' split) <;> first | rfl | omega⟩ | exact ⟨_, .closed _ rfl, ⟨0, 0, bs []⟩, rfl, by unfold lgV; (repeat' split) <;> first | rfl | omega⟩)
theorem lgV_and (a b : V) : truth (lgV a b 0) = 1 ↔ truth a = 1 ∧ truth b = 1 := by
 have h1 : truth (boV true) = 1 := by decide
 have h0 : truth (boV false) = 0 := by decide
 have hz : truth ⟨0, 0, bs []⟩ = -1 := by decide
 have ht : ∀ v : V, truth v = -1 ∨ truth v = 0 ∨ truth v = 1 := fun v => by
  unfold truth
  split
  ·rename_i h
   have := h.2
   unfold validB at this
   rw [if_neg (by omega), if_pos h.1] at this
   simp at this
   omega
  ·exact .inl rfl
 have ha := ht a
 have hb := ht b
 unfold lgV
 split
 ·rw [show ((0 : Int) == 1) = false from rfl, h0]; omega
 ·split
  ·rw [hz]; omega
  ·rw [show ((0 : Int) == 0) = true from rfl, h1]; omega
def isSp (op : Int) : Bool := op == 0 || op == 14 || op == 15 || op == 16 || op == 17 || op == 18
theorem bo3 (b : Bool) : boV b = boV true ∨ boV b = boV false ∨ boV b = ⟨0, 0, bs []⟩ := by cases b <;> simp
theorem lg3 (a b : V) (d : Int) : lgV a b d = boV true ∨ lgV a b d = boV false ∨ lgV a b d = ⟨0, 0, bs []⟩ := by
 unfold lgV
 (repeat' split) <;> first | exact bo3 _ | exact .inr (.inr rfl)
def spK (n : Nod) (l : List V) (v : V) : Prop := (n.op = 14 ∨ n.op = 15 ∨ n.op = 16 → v = boV true ∨ v = boV false ∨ v = ⟨0, 0, bs []⟩) ∧ (n.op = 17 → ∀ a b c, l = [a, b, c] → v = b ∨ v = c) ∧ (n.op = 18 → ∀ a b, l = [a, b] → v = a ∨ (a.kind = 0 ∧ v = b)) ∧ (isSp n.op = false → v = ⟨0, 0, bs []⟩)
def spG (n : Nod) (l : List V) (r : AVal) : Prop := ∃ v : V, r = .tuple [.agg (valC v), .bool (isSp n.op)] ∧ (n.op = 14 → ∀ a b, l = [a, b] → v = lgV a b 0) ∧ ((∀ w ∈ l, w.str.size ≤ 64) → n.v.str.size ≤ 64 → v.str.size ≤ 64) ∧ (n.op = 0 → v = n.v) ∧ spK n l v
theorem bo64 (b : Bool) : (boV b).str.size ≤ 64 := (by decide : (0 : Nat) ≤ 64)
theorem lg64 (a b : V) (d : Int) : (lgV a b d).str.size ≤ 64 := by unfold lgV; (repeat' split) <;> first | exact bo64 _ | exact (by decide : (0 : Nat) ≤ 64)
theorem spR {H : List AObj} {n : Nod} {l : List V} (v : V) {b : Bool} (hb : b = isSp n.op) (h : n.op = 14 → ∀ a b, l = [a, b] → v = lgV a b 0) (hs : (∀ w ∈ l, w.str.size ≤ 64) → n.v.str.size ≤ 64 → v.str.size ≤ 64) (h0 : n.op = 0 → v = n.v := by first | (intro _; rfl) | (intro h; exfalso; omega)) (hk : spK n l v := by refine ⟨fun h => ?_, fun h => ?_, fun h => ?_, fun h => ?_⟩ <;> first | rfl | (exfalso; omega) | (exfalso; unfold isSp at h; simp [*] at h; done) | exact lg3 _ _ _ | exact bo3 _ | exact .inr (.inr rfl) | (intro a b c e; subst e; simp_all; done) | (intro a b e; subst e; simp_all; done)) : ∃ r, Pub H 0 [] (.tuple [.agg (valC v), .bool b]) r ∧ spG n l r := ⟨_, pub2 (.closed _ rfl) (.closed _ rfl), v, by rw [hb], h, hs, h0, hk⟩
theorem special_d (n : Nod) (e : Bool) (l : List V) (hl : (l.length : Int) = arN n) : DetS pr 28 [.agg (nodC n), .list e 3 (vC l)] (spG n l) := by
 have h1 : n.op = 16 → l.length = 1 := fun h => by unfold arN at hl; simp [h] at hl; omega
 have h2 : n.op = 14 ∨ n.op = 15 ∨ n.op = 18 → l.length = 2 := fun h => by unfold arN at hl; (repeat' split at hl) <;> omega
 have h3 : n.op = 17 → l.length = 3 := fun h => by unfold arN at hl; simp [h] at hl; omega
 refine dets_of_body k28.has rfl ?_
 repeat' ((conv => whnf); first | ((first | refine DetS.use (DetS.of (value_Truth_spec _)) (fun r hr => ?_) | refine DetS.draw (DetS.of (value_Truth_spec _)) (fun r hr => ?_)); obtain rfl := hr) | ((first | refine DetS.use (boolean_d _) (fun r hr => ?_) | refine DetS.draw (boolean_d _) (fun r hr => ?_)); obtain rfl := hr) | ((first | refine DetS.use (logic_d _ _ _) (fun r hr => ?_) | refine DetS.draw (logic_d _ _ _) (fun r hr => ?_)); obtain rfl := hr) | refine And.intro (by first | omega | (simp <;> omega) | (simp [roomB] <;> omega) | fail) ?_ | refine And.intro rfl ?_ | refine recO (map_at (by assumption)) ?_ | refine recOm (by omega) (fun x hx hm => ?_) | ((first | refine recAd (fun h => ?_) (fun h => ?_) | refine recAe (fun h => ?_) (fun h => ?_) | refine recAn (fun h => ?_) (fun h => ?_) | refine recNot (fun h => ?_) (fun h => ?_) | refine recA (fun h => ?_) (fun h => ?_)) <;> (try simp at h) <;> (try (exfalso; omega))))
 all_goals ((conv => whnf); first | exact spR _ (by unfold isSp; simp [*]) (fun h => absurd h (by omega)) (fun hl hn => by first | exact hl _ (by assumption) | exact hn | exact lg64 _ _ _ | exact bo64 _ | exact (by decide : (0 : Nat) ≤ 64)) | exact spR _ (by unfold isSp; simp [*]) (by intro _ a b e; subst e; simp_all) (fun hl hn => by first | exact hl _ (by assumption) | exact hn | exact lg64 _ _ _ | exact bo64 _ | exact (by decide : (0 : Nat) ≤ 64)) | exact spR ⟨0, 0, bs []⟩ (by unfold isSp; simp [*]) (fun h => absurd h (by omega)) (fun hl hn => by first | exact hl _ (by assumption) | exact hn | exact lg64 _ _ _ | exact bo64 _ | exact (by decide : (0 : Nat) ≤ 64)))
end Go.AW

namespace Go.AW
variable [Draws]
attribute [local irreducible] ACalls CallE CallS Gp
set_option maxRecDepth 20000
set_option maxHeartbeats 4000000
theorem lowP {n sz : Nat} {es : List (List AVal)} (h : pureEs es = true) : (AObj.arr sz es).lowO n := by
 show (es.all fun e => e.all (AVal.lowC n)) = true
 rw [List.all_eq_true]
 intro e he
 rw [List.all_eq_true]
 intro d hd
 have := List.all_eq_true.1 (List.all_eq_true.1 h e he) d hd
 cases d <;> simp_all [AVal.isPure, AVal.lowC]
theorem lentS {H : List AObj} {id n sz : Nat} {es : List (List AVal)} (ho : H[id]? = some (.arr sz es)) (hn : n = es.length) (hp : pureEs es = true) : Lent H (.sl id n 0 n) (.list false sz es) := by
 have := Lent.sl (H := H) id n 0 n sz es ho hn hp
 rwa [show (es.drop 0).take n = es from by rw [List.drop_zero, List.take_of_length_le (by omega)]] at this
theorem sbeq {n : Nat} {es : List (List AVal)} (h : n = es.length) : Nat.beq n es.length = true := by rw [h]; exact Nat.beq_refl _
theorem quo0 {n : Int} (h0 : 0 ≤ n) (h1 : n ≤ 100000000) {k : Int} (hk : 1 ≤ k) : 0 ≤ IntKind.i64.wrap (n.tdiv k) ∧ IntKind.i64.wrap (n.tdiv k) ≤ n := by
 rw [Int.tdiv_eq_ediv_of_nonneg h0]
 have h2 : 0 ≤ n / k := Int.ediv_nonneg h0 (by omega)
 have h3 : n / k ≤ n := Int.ediv_le_self _ h0
 rw [wrapI _ (by omega) (by omega)]
 exact ⟨h2, h3⟩
theorem modI {n : Int} {m : Nat} (h0 : 0 ≤ n) (h1 : 1 ≤ m) : 0 ≤ n.tmod m ∧ n.tmod m < m := ⟨Int.tmod_nonneg _ h0, Int.tmod_lt_of_pos _ (by omega)⟩
theorem posA {at' : Int} (h0 : 0 ≤ at') (h9 : at' ≤ 100000000) {k j : Int} (hk : 0 ≤ k) (hk3 : k ≤ 3) (hj : 0 ≤ j) (hj3 : j ≤ 3) : IntKind.i64.wrap (IntKind.i64.wrap (k * at') + j) = k * at' + j := by
 have h1 : 0 ≤ k * at' := Int.mul_nonneg hk h0
 have h2 : k * at' ≤ 3 * at' := Int.mul_le_mul_of_nonneg_right hk3 h0
 rw [wrapI (k * at') (by omega) (by omega), wrapI _ (by omega) (by omega)]
theorem posF {at' A : Int} (h0 : 0 ≤ at') (h9 : at' ≤ 100000000) (hA : 3 * at' + 3 ≤ A) {k j : Int} (hk : 0 ≤ k) (hk3 : k ≤ 3) (hj : 0 ≤ j) (hj3 : j ≤ 3) : 0 ≤ IntKind.i64.wrap (IntKind.i64.wrap (k * at') + j) ∧ IntKind.i64.wrap (IntKind.i64.wrap (k * at') + j) ≤ A := by
 have h1 : 0 ≤ k * at' := Int.mul_nonneg hk h0
 have h2 : k * at' ≤ 3 * at' := Int.mul_le_mul_of_nonneg_right hk3 h0
 rw [posA h0 h9 hk hk3 hj hj3]
 omega
theorem pick3 {n : Int} (h0 : 0 ≤ n) (h3 : n < 3) (a b c : ByteArray) : ∃ s, [[AVal.str a], [AVal.str b], [AVal.str c]][n.toNat]? = some [.str s] ∧ (s = a ∨ s = b ∨ s = c) := by
 obtain h | h | h : n = 0 ∨ n = 1 ∨ n = 2 := by omega
 all_goals subst h
 ·exact ⟨a, rfl, .inl rfl⟩
 ·exact ⟨b, rfl, .inr (.inl rfl)⟩
 ·exact ⟨c, rfl, .inr (.inr rfl)⟩
theorem nx1 {k : Nat} (h : k ≤ 10000000) : IntKind.i64.wrap ((k : Int) + 1) = ((k + 1 : Nat) : Int) := by rw [wrapI _ (by omega) (by omega)]; omega
theorem eqc_t {P : Program} {f : FuncId} {vs : List AVal} {R R' : AVal} (h : DetS P f vs (fun r => r = R)) (e : R = R') : DetS P f vs (fun r => r = R') := by rwa [← e]
theorem retB {H : List AObj} {b c : Bool} (h : b = c) : ∃ r, Pub H 0 [] (.bool b) r ∧ r = .bool c := ⟨_, .closed _ rfl, by rw [h]⟩
theorem retI {H : List AObj} {b c : Int} (h : b = c) : ∃ r, Pub H 0 [] (.int .i64 b) r ∧ r = .int .i64 c := ⟨_, .closed _ rfl, by rw [h]⟩
theorem retV {H : List AObj} {a b : Int} {s : ByteArray} {v : V} (h : (⟨a, b, s⟩ : V) = v) : ∃ r, Pub H 0 [] (.agg [.int .i64 a, .int .i64 b, .str s]) r ∧ r = .agg (valC v) := ⟨_, .closed _ rfl, by rw [← h]; rfl⟩
theorem retKB {H : List AObj} {k : Int} {n b : Bool} {t : Kd} {c : Bool} (h : ((k, n), b) = (t, c)) : ∃ r, Pub H 0 [] (.tuple [.agg [.int .i64 k, .bool n], .bool b]) r ∧ r = .tuple [.agg (kC t), .bool c] := ⟨_, pub2 (.closed _ rfl) (.closed _ rfl), by cases h; rfl⟩
theorem Gd.cs {n : Nod} (g : Gd n) {C : Nod → Prop} (h0 : ∀ v, validB v = true → C ⟨0, v, bs [], 0⟩) (h1 : ∀ s, nameB s = true → resB s = false → s.size ≤ 24 → C ⟨1, ⟨0, 0, bs []⟩, s, 0⟩) (h2 : ∀ s, s ∈ zNm → C ⟨20, ⟨0, 0, bs []⟩, s, 0⟩) (h3 : ∀ op, 2 ≤ op ∧ op ≤ 19 → C ⟨op, ⟨0, 0, bs []⟩, bs [], 0⟩) : C n := by
 obtain ⟨op, v, nm, ar⟩ := n
 obtain rfl : ar = 0 := g.ar
 have ho : 0 ≤ op ∧ op ≤ 20 := g.op
 by_cases e0 : op = 0
 ·subst e0
  obtain ⟨rfl, hv⟩ := g.cst rfl
  exact h0 v hv
 obtain rfl : v = ⟨0, 0, bs []⟩ := g.z e0
 by_cases e1 : op = 1
 ·subst e1
  obtain ⟨a, b, c⟩ := g.col rfl
  exact h1 nm a b c
 by_cases e2 : op = 20
 ·subst e2
  exact h2 nm (g.day rfl)
 obtain rfl : nm = bs [] := g.nm e1 e2
 exact h3 op ⟨by omega, by omega⟩
theorem reserved7_t (s : ByteArray) : DetS pr 150 [.str s] (fun r => r = .bool (resB s)) := by
 refine dets_of_body k150.has rfl ?_
 (conv => whnf); refine CallE.of (Has_spec true resW (by decide) s _) ?_
 conv => whnf
 exact retB rfl
theorem isColumn8_t (s : ByteArray) : DetS pr 116 [.str s] (fun r => r = .bool (nameB s && !resB s)) := by
 refine dets_of_body k116.has rfl ?_
 (conv => whnf); refine CallE.of (ref5_IsName_spec s _) ?_
 (conv => whnf); refine recA (fun h => ?_) (fun h => ?_)
 ·(conv => whnf); refine DetS.use (reserved7_t s) (fun r hr => ?_)
  subst hr
  conv => whnf
  exact retB (by rw [h]; rfl)
 ·conv => whnf
  exact retB (by rw [h]; rfl)
theorem isRef8_t (s : ByteArray) (hs : s.size ≤ 1000000) : DetS pr 117 [.str s] (fun r => r = .bool (qualB s && !resB s)) := by
 refine dets_of_body k117.has rfl ?_
 (conv => whnf); refine CallE.of (ref5_IsQualified_spec s hs _) ?_
 (conv => whnf); refine recA (fun h => ?_) (fun h => ?_)
 ·(conv => whnf); refine DetS.use (reserved7_t s) (fun r hr => ?_)
  subst hr
  conv => whnf
  exact retB (by rw [h]; rfl)
 ·conv => whnf
  exact retB (by rw [h]; rfl)
theorem zNm_ok {s : ByteArray} (h : s ∈ zNm) : s.size ≤ 1000000 ∧ (qualB s && !resB s) = true := by
 simp only [zNm, List.mem_cons, List.mem_nil_iff, or_false] at h
 rcases h with rfl | rfl | rfl <;> decide
theorem arity8_t (n : Nod) : DetS pr 34 [.agg (nodC n)] (fun r => r = .int .i64 (arN n)) := by
 suffices h : DetS pr 34 [.agg (nodC n)] (fun r => ∃ m, r = .int .i64 m ∧ m = arN n) from h.mono fun r ⟨m, h1, h2⟩ => by rw [h1, h2]
 refine dets_of_body k34.has rfl ?_
 repeat' ((conv => whnf); first | refine And.intro (by first | omega | (simp <;> omega) | (simp [roomB] <;> omega) | fail) ?_ | refine And.intro rfl ?_ | refine recO (map_at (by assumption)) ?_ | refine recOm (by omega) (fun x hx hm => ?_) | ((first | refine recAd (fun h => ?_) (fun h => ?_) | refine recAe (fun h => ?_) (fun h => ?_) | refine recAn (fun h => ?_) (fun h => ?_) | refine recNot (fun h => ?_) (fun h => ?_) | refine recA (fun h => ?_) (fun h => ?_)) <;> (try simp at h) <;> (try (exfalso; omega))))
 all_goals ((conv => whnf); exact ⟨_, .closed _ rfl, _, rfl, by unfold arN; (repeat' split) <;> omega⟩)
theorem formed8_t {n : Nod} (g : Gd n) : DetS pr 65 [.agg (nodC n)] (fun r => r = .bool true) := by
 refine g.cs (C := fun n => DetS pr 65 [.agg (nodC n)] (fun r => r = .bool true)) (fun v hv => ?_) (fun s h1 h2 h3 => ?_) (fun s hs => ?_) (fun op ho => ?_)
 ·refine dets_of_body k65.has rfl ?_
  repeat' ((conv => whnf); first | refine CallE.of (ref1_Valid_spec v _) ?_ | refine And.intro (by first | omega | (simp <;> omega) | (simp [roomB] <;> omega) | fail) ?_ | refine And.intro rfl ?_ | refine recO (map_at (by assumption)) ?_ | refine recOm (by omega) (fun x hx hm => ?_) | ((first | refine recAd (fun h => ?_) (fun h => ?_) | refine recAe (fun h => ?_) (fun h => ?_) | refine recAn (fun h => ?_) (fun h => ?_) | refine recNot (fun h => ?_) (fun h => ?_) | refine recA (fun h => ?_) (fun h => ?_)) <;> (try simp at h) <;> (try (exfalso; omega))))
  all_goals ((conv => whnf); exact retB (by first | rfl | assumption | simp_all))
 ·refine dets_of_body k65.has rfl ?_
  repeat' ((conv => whnf); first | ((first | refine DetS.use (isColumn8_t _) (fun r hr => ?_) | refine DetS.draw (isColumn8_t _) (fun r hr => ?_)); obtain rfl := hr) | refine And.intro (by first | omega | (simp <;> omega) | (simp [roomB] <;> omega) | fail) ?_ | refine And.intro rfl ?_ | refine recO (map_at (by assumption)) ?_ | refine recOm (by omega) (fun x hx hm => ?_) | ((first | refine recAd (fun h => ?_) (fun h => ?_) | refine recAe (fun h => ?_) (fun h => ?_) | refine recAn (fun h => ?_) (fun h => ?_) | refine recNot (fun h => ?_) (fun h => ?_) | refine recA (fun h => ?_) (fun h => ?_)) <;> (try simp at h) <;> (try (exfalso; omega))))
  all_goals ((conv => whnf); exact retB (by rw [h1, h2]; rfl))
 ·have hz := zNm_ok hs
  refine dets_of_body k65.has rfl ?_
  repeat' ((conv => whnf); first | ((first | refine DetS.use (isRef8_t _ hz.1) (fun r hr => ?_) | refine DetS.draw (isRef8_t _ hz.1) (fun r hr => ?_)); obtain rfl := hr) | refine And.intro (by first | omega | (simp <;> omega) | (simp [roomB] <;> omega) | fail) ?_ | refine And.intro rfl ?_ | refine recO (map_at (by assumption)) ?_ | refine recOm (by omega) (fun x hx hm => ?_) | ((first | refine recAd (fun h => ?_) (fun h => ?_) | refine recAe (fun h => ?_) (fun h => ?_) | refine recAn (fun h => ?_) (fun h => ?_) | refine recNot (fun h => ?_) (fun h => ?_) | refine recA (fun h => ?_) (fun h => ?_)) <;> (try simp at h) <;> (try (exfalso; omega))))
  all_goals ((conv => whnf); exact retB hz.2)
 ·have ha : 0 ≤ arN ⟨op, ⟨0, 0, bs []⟩, bs [], 0⟩ := (opN_gd ho).ar3.1
  refine dets_of_body k65.has rfl ?_
  repeat' ((conv => whnf); first | ((first | refine DetS.use (arity8_t ⟨op, ⟨0, 0, bs []⟩, bs [], 0⟩) (fun r hr => ?_) | refine DetS.draw (arity8_t ⟨op, ⟨0, 0, bs []⟩, bs [], 0⟩) (fun r hr => ?_)); obtain rfl := hr) | refine And.intro (by first | omega | (simp <;> omega) | (simp [roomB] <;> omega) | fail) ?_ | refine And.intro rfl ?_ | refine recO (map_at (by assumption)) ?_ | refine recOm (by omega) (fun x hx hm => ?_) | ((first | refine recAd (fun h => ?_) (fun h => ?_) | refine recAe (fun h => ?_) (fun h => ?_) | refine recAn (fun h => ?_) (fun h => ?_) | refine recNot (fun h => ?_) (fun h => ?_) | refine recA (fun h => ?_) (fun h => ?_)) <;> (try simp at h) <;> (try (exfalso; omega))))
  all_goals ((conv => whnf); exact retB (by first | rfl | assumption | simp_all))
theorem hgt_eq (l : List Int) : hgt l = 1 + l.foldl max 0 := by
 suffices ∀ (l : List Int) (a : Int), l.foldl (fun h x => max h (1 + x)) (1 + a) = 1 + l.foldl max a from this l 0
 intro l
 induction l with
 | nil => intro a; rfl
 | cons x l ih =>
  intro a
  show l.foldl _ (max (1 + a) (1 + x)) = 1 + l.foldl max (max a x)
  rw [← ih]
  congr 1
  omega
theorem raise8_t (st : List Int) (D : Nat) (hD : D ≤ st.length) (hl : st.length ≤ 1000) (a : Nat) (h1 : a ≤ D) (h64 : hgt ((st.take D).drop (D - a)) ≤ 64) :
  ACalls pr 66 [.sl 0 st.length 0 D, .int .i64 a] [.arr 1 (iC st)] (fun r H' => r = .tuple [.int .i64 (hgt ((st.take D).drop (D - a))), .sl 0 st.length 0 (D - a)] ∧ H' = [.arr 1 (iC st)]) := by
 have hw : IntKind.i64.wrap ((D : Int) - a) = (D : Int) - a := wrapI _ (by omega) (by omega)
 have hn := iC_length st
 have hb : Nat.beq st.length (iC st).length = true := by rw [hn]; exact Nat.beq_refl _
 have hL : ((st.take D).drop (D - a)).length = a := by simp; omega
 have hge : ∀ (l : List Int) (x : Int), x ≤ l.foldl max x := by
  intro l
  induction l with
  | nil => intro x; exact Int.le_refl _
  | cons y l ih => intro x; exact Int.le_trans (by omega) (ih (max x y))
 refine acalls_of_body k66.has ?_
 (conv => whnf); refine recT (hb) ?_
 conv => whnf
 rw [hw]
 refine ⟨fun m ρ H1 => ∃ (k : Nat), k + m = a ∧ H1 = [.arr 1 (iC st)] ∧ Sv 31 [(0, .sl 0 st.length 0 D), (6, .int .i64 ((((st.take D).drop (D - a)).take k).foldl max 0)), (7, .int .i64 ((D : Int) - a)), (8, .int .i64 ((D : Int) - a + k))] ρ, a, [], ?_, ?_⟩
 ·exact ⟨0, by omega, rfl, Sv.intro rfl ⟨rfl, rfl, rfl, intEq (by simp), trivial⟩⟩
 rintro m ρ H1 ⟨k, hk, rfl, d, rfl⟩
 (conv => whnf); refine recT (hb) ?_
 (conv => whnf); refine recA (fun hlt => ?_) (fun hlt => ?_)
 ·simp at hlt
  (conv => whnf); refine recT (hb) ?_
  (conv => whnf); refine And.intro (by omega) ?_
  (conv => whnf); refine recT (hb) ?_
  obtain ⟨y, hy⟩ : ∃ y, ((st.take D).drop (D - a))[k]? = some y := ⟨_, List.getElem?_eq_getElem (by omega)⟩
  have hy2 : st[((D : Int) - a + k).toNat]? = some y := by
   rw [List.getElem?_drop, List.getElem?_take] at hy
   rw [show ((D : Int) - a + k).toNat = D - a + k by omega]
   split at hy
   ·exact hy
   ·cases hy
  have hg : (iC st)[0 + ((D : Int) - a + k).toNat]? = some [.int .i64 y] := by
   rw [Nat.zero_add, iC, List.getElem?_map, hy2]; rfl
  (conv => whnf); refine recO (hg) ?_
  conv => whnf
  refine ⟨m - 1, by omega, Gp.keep rfl ?_ fun ρ1 hh => ⟨k + 1, by omega, rfl, hh⟩⟩
  refine ⟨rfl, intEq ?_, rfl, intEq (by rw [wrapI _ (by omega) (by omega)]; omega), trivial⟩
  rw [take_succ' hy, List.foldl_append]
  show _ = max _ y
  generalize (((st.take D).drop (D - a)).take k).foldl max 0 = z
  split <;> omega
 ·simp at hlt
  obtain rfl : k = a := by omega
  (conv => whnf); refine recT (hb) ?_
  (conv => whnf); refine And.intro (by omega) ?_
  conv => whnf
  refine ⟨?_, rfl⟩
  have e1 : ((st.take D).drop (D - k)).take k = (st.take D).drop (D - k) := List.take_of_length_le (by omega)
  have e2 := hge ((st.take D).drop (D - k)) 0
  rw [hgt_eq] at h64 ⊢
  rw [e1, wrapI _ (by omega) (by omega), Int.add_comm, show ((D : Int) - k).toNat - 0 = D - k by omega]
theorem stk_inv {α : Type} {f : Nod → List α → Option α} {n : Nod} {e : List Nod} {s t : List α} (h : stk f (n :: e) s = some t) : ∃ x, (arN n).toNat ≤ s.length ∧ f n (s.drop (s.length - (arN n).toNat)) = some x ∧ stk f e (s.take (s.length - (arN n).toNat) ++ [x]) = some t := by
 rw [stk] at h
 split at h
 ·rename_i hl
  cases hf : f n (s.drop (s.length - (arN n).toNat)) with
  | none => rw [hf] at h; cases h
  | some x => rw [hf] at h; exact ⟨x, hl, rfl, h⟩
 ·cases h
theorem fH_inv {n : Nod} {l : List Int} {x : Int} (h : fH n l = some x) : Gd n ∧ hgt l ≤ 64 ∧ x = hgt l := by
 unfold fH at h
 split at h
 ·rename_i hg; cases h; exact ⟨hg.1, hg.2, rfl⟩
 ·cases h
def stP {α : Type} (st : List α) (r : Nat) (x : α) : List α := if r + 1 ≤ st.length then st.take r ++ [x] ++ st.drop (r + 1) else st ++ [x]
theorem stP_take {α : Type} {st : List α} {D r : Nat} (hr : r ≤ D) (hD : D ≤ st.length) (x : α) : (stP st r x).take (r + 1) = (st.take D).take r ++ [x] ∧ r + 1 ≤ (stP st r x).length ∧ (stP st r x).length ≤ st.length + 1 := by
 have e : (st.take D).take r = st.take r := by rw [List.take_take, Nat.min_eq_left hr]
 rw [e]
 unfold stP
 split
 ·have h1 : (st.take r ++ [x]).length = r + 1 := by simp; omega
  refine ⟨by rw [← h1, List.take_left], by simp; omega, by simp; omega⟩
 ·have h1 : r = st.length := by omega
  subst h1
  refine ⟨by rw [List.take_length, List.take_of_length_le (by simp)], by simp, by simp⟩
theorem val8_t (x : Bool) (e : List Nod) (hl : e.length ≤ 256) {hf : Int} (hs : stk fH e [] = some [hf]) :
  DetS pr 31 [.list x 6 (mC nodC e)] (fun r => r = .int .i64 0) := by
 refine dets_of_body k31.has rfl ?_
 (conv => whnf); refine recA (fun h1 => ?_) (fun h1 => ?_)
 ·exfalso; simp at h1; omega
 conv => whnf
 refine ⟨fun m ρ H1 => ∃ (k : Nat) (st : List Int) (D : Nat), k + m = e.length ∧ stk fH (e.drop k) (st.take D) = some [hf] ∧ D ≤ st.length ∧ st.length ≤ k ∧ H1 = [.arr 1 (iC st)] ∧ Sv 51 [(0, .list x 6 (mC nodC e)), (3, .sl 0 st.length 0 D), (4, .int .i64 k)] ρ, e.length, [(3, 1)],
  fun i ρ H1 => i = 0 ∧ ∃ (st : List Int), 1 ≤ st.length ∧ H1 = [.arr 1 (iC st)] ∧ Sv 51 [(3, .sl 0 st.length 0 1)] ρ, ?_, ?_, ?_⟩
 ·exact ⟨0, [], 0, by omega, hs, Nat.le_refl _, Nat.le_refl _, rfl, Sv.intro rfl ⟨rfl, rfl, rfl, trivial⟩⟩
 ·rintro m ρ H1 ⟨k, st, D, hk, hD, hDl, hst, rfl, d, rfl⟩
  have hn := iC_length st
  have hb : Nat.beq st.length (iC st).length = true := by rw [hn]; exact Nat.beq_refl _
  (conv => whnf); refine recA (fun hlt => ?_) (fun hlt => ?_)
  ·simp at hlt
   obtain ⟨n, hnk, hdk, hm⟩ := get_drop (l := e) (k := k) (by omega)
   rw [hdk] at hD
   obtain ⟨y, ha, hy, hD2⟩ := stk_inv hD
   obtain ⟨gd, h64, rfl⟩ := fH_inv hy
   have hlD : (st.take D).length = D := by simp; omega
   rw [hlD] at ha h64 hD2
   have a0 := gd.ar3
   obtain ⟨a, hna⟩ : ∃ a : Nat, arN n = a := ⟨(arN n).toNat, by omega⟩
   rw [hna] at ha h64 hD2
   simp only [Int.toNat_natCast] at ha h64 hD2
   (conv => whnf); refine And.intro (by omega) ?_
   (conv => whnf); refine recO (mC_at hnk) ?_
   (conv => whnf); refine DetS.use (formed8_t gd) (fun r hr => ?_)
   subst hr
   (conv => whnf); refine And.intro (by omega) ?_
   (conv => whnf); refine recO (mC_at hnk) ?_
   (conv => whnf); refine DetS.use (arity8_t n) (fun r hr => ?_)
   subst hr
   (conv => whnf); refine recT (hb) ?_
   (conv => whnf); refine recF (by rw [hna]; simp; omega) ?_
   (conv => whnf); refine And.intro (by omega) ?_
   (conv => whnf); refine recO (mC_at hnk) ?_
   (conv => whnf); refine DetS.use (arity8_t n) (fun r hr => ?_)
   subst hr
   rw [hna]
   (conv => whnf); refine CallE.of (raise8_t st D hDl (by omega) a ha h64) ?_
   (conv => whnf); refine recF (by simpa using h64) ?_
   (conv => whnf); refine recT (hb) ?_
   obtain ⟨r, hrr⟩ : ∃ r, r = D - a := ⟨_, rfl⟩
   obtain ⟨h, hhh⟩ : ∃ h, h = hgt ((st.take D).drop (D - a)) := ⟨_, rfl⟩
   rw [← hhh, ← hrr] at hD2
   rw [← hhh, ← hrr]
   obtain ⟨q1, q2, q3⟩ := stP_take (show r ≤ D by omega) hDl h
   (conv => whnf); refine recA (fun hfit => ?_) (fun hfit => ?_)
   ·replace hfit : (Nat.ble (0 + r + 1) (iC st).length && true) = true := hfit
    simp at hfit
    have hcc : (iC st).take (0 + r) ++ [[AVal.int .i64 h]] ++ (iC st).drop (0 + r + 1) = iC (stP st r h) := by
     rw [Nat.zero_add, stP, if_pos (by omega)]; simp [iC, List.map_take, List.map_drop]
    have hll : (stP st r h).length = st.length := by rw [stP, if_pos (by omega)]; simp; omega
    conv => whnf
    refine ⟨m - 1, by omega, Gp.keep rfl ?_ fun ρ1 hh => ⟨k + 1, stP st r h, r + 1, by omega, by rw [q1]; exact hD2, by omega, by omega, ?_, hh⟩⟩
    ·exact ⟨rfl, by rw [hll]; rfl, intEq (nx1 (by omega)), trivial⟩
    ·rw [← hcc]; rfl
   ·replace hfit : (Nat.ble (0 + r + 1) (iC st).length && true) = false := hfit
    have hf2 : st.length < r + 1 := by
     rw [Bool.and_true, Nat.zero_add, hn] at hfit
     exact Nat.lt_of_not_le fun hc => by rw [(Nat.ble_eq ▸ hc : Nat.ble (r + 1) st.length = true)] at hfit; cases hfit
    (conv => whnf); refine recT (hb) ?_
    (conv => whnf); refine And.intro (⟨by simp [roomB]; omega, by simp [roomB]; omega, rfl, by rw [hn]; omega⟩) ?_
    conv => whnf
    have hss : stP st r h = st ++ [h] := by rw [stP, if_neg (by omega)]
    rw [hss] at q1
    have hcc : iC st ++ [[AVal.int .i64 h]] = iC (st ++ [h]) := by simp [iC]
    have hcl : (iC st ++ [[AVal.int .i64 h]]).length = (st ++ [h]).length := by rw [hcc, iC_length]
    have hrd : (st ++ [h]).length = r + 1 := by simp; omega
    refine ⟨m - 1, by omega, Gp.keep rfl ?_ fun ρ1 hh => ⟨k + 1, st ++ [h], r + 1, by omega, by rw [q1]; exact hD2, by omega, by omega, ?_, hh⟩⟩
    ·exact ⟨rfl, slEq hcl (by rw [hcl, hrd]), intEq (nx1 (by omega)), trivial⟩
    ·rw [← hcc]
  ·simp at hlt
   have hk2 : k = e.length := by omega
   subst hk2
   rw [List.drop_length] at hD
   have hD1 : st.take D = [hf] := Option.some.inj hD
   have hlD : (st.take D).length = D := by simp; omega
   obtain rfl : D = 1 := by rw [hD1] at hlD; exact hlD.symm
   conv => whnf
   refine Gp.keep rfl ?_ fun ρ1 hh => ⟨rfl, st, hDl, rfl, hh⟩
   exact ⟨rfl, trivial⟩
 ·rintro i ρ1 H1 ⟨rfl, st, hD, rfl, d, rfl⟩
  have hn := iC_length st
  have hb : Nat.beq st.length (iC st).length = true := by rw [hn]; exact Nat.beq_refl _
  (conv => whnf); refine recT (hb) ?_
  conv => whnf
  exact retI rfl
end Go.AW

namespace Go.AW
variable [Draws]
attribute [local irreducible] ACalls CallE CallS Gp
set_option maxRecDepth 20000
set_option maxHeartbeats 4000000
def zVd (z : Zon) : Prop := z.shifts.length ≤ 64 ∧ (-840 ≤ z.off ∧ z.off ≤ 840) ∧ (∀ s ∈ z.shifts, 1 ≤ s.at' ∧ s.at' ≤ 575999999 ∧ -840 ≤ s.off ∧ s.off ≤ 840) ∧ ∀ (k : Nat) (s t : Sft), z.shifts[k]? = some s → z.shifts[k + 1]? = some t → s.at' < t.at'
def zwB (n : Int) : Bool := decide (-840 ≤ n) && decide (n ≤ 840)
theorem zwB_t {n : Int} (h : -840 ≤ n ∧ n ≤ 840) : zwB n = true := by unfold zwB; simp; exact h
theorem within4_t (n : Int) : DetS pr 69 [.int .i64 n] (fun r => r = .bool (zwB n)) := by
 refine dets_of_body k69.has rfl ?_
 repeat' ((conv => whnf); first | refine And.intro (by first | omega | (simp <;> omega) | (simp [roomB] <;> omega) | fail) ?_ | refine And.intro rfl ?_ | refine recO (map_at (by assumption)) ?_ | refine recOm (by omega) (fun x hx hm => ?_) | ((first | refine recAd (fun h => ?_) (fun h => ?_) | refine recAe (fun h => ?_) (fun h => ?_) | refine recAn (fun h => ?_) (fun h => ?_) | refine recNot (fun h => ?_) (fun h => ?_) | refine recA (fun h => ?_) (fun h => ?_)) <;> (try simp at h) <;> (try (exfalso; omega))))
 all_goals ((conv => whnf); exact retB (by unfold zwB; simp; omega))
theorem validate4_t {z : Zon} (hz : zVd z) : DetS pr 33 [.agg (zonC z)] (fun r => r = .int .i64 0) := by
 obtain ⟨h64, ho, hs, hp⟩ := hz
 refine dets_of_body k33.has rfl ?_
 (conv => whnf); refine recF (by rw [mC_length]; simp; omega) ?_
 (conv => whnf); refine DetS.use (within4_t _) (fun r hr => ?_)
 subst hr
 (conv => whnf); rw [zwB_t ho]
 conv => whnf
 refine ⟨fun m ρ H1 => ∃ k : Nat, k + m = (z.shifts).length ∧ H1 = [.arr 3 [zonC z]] ∧ Sv 53 [(1, .ptr 0 1 0 0), (3, .int .i64 k)] ρ, (z.shifts).length, [], fun i ρ H1 => i = 0 ∧ H1 = [.arr 3 [zonC z]] ∧ Sv 53 [(1, .ptr 0 1 0 0)] ρ, ?_, ?_, ?_⟩
 ·exact ⟨0, Nat.zero_add _, rfl, Sv.intro rfl ⟨rfl, rfl, trivial⟩⟩
 ·rintro m ρ H1 ⟨k, hk, rfl, d, rfl⟩
  have hw : 0 < k → IntKind.i64.wrap ((k : Int) - 1) = (k : Int) - 1 := fun _ => wrapI _ (by omega) (by omega)
  (conv => whnf); refine recA (fun hlt => ?_) (fun hlt => ?_)
  ·simp at hlt
   obtain ⟨s, hsk, _, hm⟩ := get_drop (l := z.shifts) (k := k) (by omega)
   obtain ⟨s1, s2, s3⟩ := hs s hm
   (conv => whnf); refine And.intro (by omega) ?_
   (conv => whnf); refine recO (mC_at hsk) ?_
   (conv => whnf); refine recF (by simp; omega) ?_
   (conv => whnf); refine recF (by simp; omega) ?_
   (conv => whnf); refine DetS.use (within4_t _) (fun r hr => ?_)
   subst hr
   (conv => whnf); rw [zwB_t s3]
   conv => whnf
   refine recA (fun h0 => ?_) (fun h0 => ?_)
   ·simp at h0
    obtain ⟨p, hpk, _, hpm⟩ := get_drop (l := z.shifts) (k := k - 1) (by omega)
    have hlt2 := hp (k - 1) p s hpk (by rw [show k - 1 + 1 = k by omega]; exact hsk)
    conv => whnf
    rw [hw h0]
    refine And.intro (by omega) ?_
    (conv => whnf); refine recO (mC_at (show z.shifts[((k : Int) - 1).toNat]? = some p by rw [show ((k : Int) - 1).toNat = k - 1 by omega]; exact hpk)) ?_
    (conv => whnf); refine recF (by simp; omega) ?_
    conv => whnf
    refine ⟨m - 1, by omega, Gp.cut (H := [.arr 3 [zonC z]]) rfl ⟨rfl, trivial⟩ rfl rfl ?_ fun ρ1 h => ⟨k + 1, by omega, rfl, h⟩⟩
    exact ⟨rfl, intEq (nx1 (by omega)), trivial⟩
   ·conv => whnf
    refine ⟨m - 1, by omega, Gp.cut (H := [.arr 3 [zonC z]]) rfl ⟨rfl, trivial⟩ rfl rfl ?_ fun ρ1 h => ⟨k + 1, by omega, rfl, h⟩⟩
    exact ⟨rfl, intEq (nx1 (by omega)), trivial⟩
  ·conv => whnf
   refine Gp.cut (H := [.arr 3 [zonC z]]) rfl ⟨rfl, trivial⟩ rfl rfl ?_ fun ρ1 h => ⟨rfl, rfl, h⟩
   exact ⟨rfl, trivial⟩
 ·rintro i ρ1 H1 ⟨rfl, rfl, d, rfl⟩
  conv => whnf
  exact retI rfl
def zHas (zs : List Zon) (nm : ByteArray) : Bool := zs.any fun z => z.name.data.toList == nm.data.toList
theorem zone9_t (x : Bool) (zs : List Zon) (hl : zs.length ≤ 100000) (nm : ByteArray) (hh : zHas zs nm = true) :
  DetS pr 72 [.list x 3 (mC zonC zs), .str nm] (fun r => ∃ z : Zon, r = .tuple [.agg (zonC z), .bool true]) := by
 refine dets_of_body k72.has rfl ?_
 conv => whnf
 refine ⟨fun m ρ H1 => ∃ k : Nat, k + m = (zs).length ∧ zHas (zs.drop k) nm = true ∧ H1 = [.arr 3 [[.str (bs []), .int .i64 0, .nil]]] ∧ Sv 25 [(0, .list x 3 (mC zonC zs)), (1, .str nm), (4, .ptr 0 1 0 0), (6, .int .i64 k)] ρ, (zs).length, [], fun i ρ H1 => False, ?_, ?_, ?_⟩
 ·exact ⟨0, Nat.zero_add _, hh, rfl, Sv.intro rfl ⟨rfl, rfl, rfl, rfl, trivial⟩⟩
 ·rintro m ρ H1 ⟨k, hk, ha, rfl, d, rfl⟩
  have hkl : k < zs.length := by
   refine Nat.lt_of_not_le fun hc => ?_
   rw [List.drop_eq_nil_of_le hc] at ha
   cases ha
  obtain ⟨z, hz, hzd, _⟩ := get_drop (l := zs) (k := k) hkl
  rw [hzd, zHas, List.any_cons] at ha
  (conv => whnf); refine recT (by simp; omega) ?_
  (conv => whnf); refine And.intro (by omega) ?_
  (conv => whnf); refine recO (mC_at hz) ?_
  (conv => whnf); refine recA (fun h => ?_) (fun h => ?_)
  ·(conv => whnf); refine And.intro (by omega) ?_
   (conv => whnf); refine recO (mC_at hz) ?_
   conv => whnf
   exact ⟨_, pub2 (.closed _ rfl) (.closed _ rfl), z, rfl⟩
  ·replace h : (z.name.data.toList == nm.data.toList) = false := h
   rw [h, Bool.false_or] at ha
   conv => whnf
   refine ⟨m - 1, by omega, Gp.cut (H := [.arr 3 [[.str (bs []), .int .i64 0, .nil]]]) rfl ⟨rfl, trivial⟩ rfl rfl ?_ fun ρ1 h => ⟨k + 1, by omega, ha, rfl, h⟩⟩
   exact ⟨rfl, rfl, rfl, intEq (nx1 (by omega)), trivial⟩
 ·rintro i ρ1 H1 h
  exact h.elim
theorem fits9_t (x : Kd) (k : Int) : DetS pr 71 [.agg (kC x), .int .i64 k] (fun r => r = .bool (kft x k)) := by
 refine dets_of_body k71.has rfl ?_
 repeat' ((conv => whnf); first | refine And.intro (by first | omega | (simp <;> omega) | (simp [roomB] <;> omega) | fail) ?_ | refine And.intro rfl ?_ | refine recO (map_at (by assumption)) ?_ | refine recOm (by omega) (fun x hx hm => ?_) | ((first | refine recAd (fun h => ?_) (fun h => ?_) | refine recAe (fun h => ?_) (fun h => ?_) | refine recAn (fun h => ?_) (fun h => ?_) | refine recNot (fun h => ?_) (fun h => ?_) | refine recA (fun h => ?_) (fun h => ?_)) <;> (try simp at h) <;> (try (exfalso; omega))))
 all_goals ((conv => whnf); exact retB (by simp [kft, *]))
theorem common9_t (x y : Kd) : DetS pr 70 [.agg (kC x), .agg (kC y)] (fun r => r = .tuple [.int .i64 (kcm x y).1, .bool (kcm x y).2]) := by
 suffices h : DetS pr 70 [.agg (kC x), .agg (kC y)] (fun r => ∃ (k : Int) (b : Bool), r = .tuple [.int .i64 k, .bool b] ∧ (k, b) = kcm x y) from h.mono fun r ⟨k, b, h1, h2⟩ => by rw [h1, ← h2]
 refine dets_of_body k70.has rfl ?_
 repeat' ((conv => whnf); first | ((first | refine DetS.use (fits9_t _ _) (fun r hr => ?_) | refine DetS.draw (fits9_t _ _) (fun r hr => ?_)); obtain rfl := hr) | refine And.intro (by first | omega | (simp <;> omega) | (simp [roomB] <;> omega) | fail) ?_ | refine And.intro rfl ?_ | refine recO (map_at (by assumption)) ?_ | refine recOm (by omega) (fun x hx hm => ?_) | ((first | refine recAd (fun h => ?_) (fun h => ?_) | refine recAe (fun h => ?_) (fun h => ?_) | refine recAn (fun h => ?_) (fun h => ?_) | refine recNot (fun h => ?_) (fun h => ?_) | refine recA (fun h => ?_) (fun h => ?_)) <;> (try simp at h) <;> (try (exfalso; omega))))
 all_goals ((conv => whnf); exact ⟨_, pub2 (.closed _ rfl) (.closed _ rfl), _, _, rfl, by simp [kcm, *]⟩)
theorem unary9_t (op : Int) (x : Kd) : DetS pr 73 [.int .i64 op, .agg (kC x)] (fun r => r = .tuple [.agg (kC (tyO op [x]).1), .bool (tyO op [x]).2]) := by
 suffices h : DetS pr 73 [.int .i64 op, .agg (kC x)] (fun r => ∃ (k : Kd) (b : Bool), r = .tuple [.agg (kC k), .bool b] ∧ (k, b) = tyO op [x]) from h.mono fun r ⟨k, b, h1, h2⟩ => by rw [h1, ← h2]
 refine dets_of_body k73.has rfl ?_
 repeat' ((conv => whnf); first | ((first | refine DetS.use (fits9_t _ _) (fun r hr => ?_) | refine DetS.draw (fits9_t _ _) (fun r hr => ?_)); obtain rfl := hr) | refine And.intro (by first | omega | (simp <;> omega) | (simp [roomB] <;> omega) | fail) ?_ | refine And.intro rfl ?_ | refine recO (map_at (by assumption)) ?_ | refine recOm (by omega) (fun x hx hm => ?_) | ((first | refine recAd (fun h => ?_) (fun h => ?_) | refine recAe (fun h => ?_) (fun h => ?_) | refine recAn (fun h => ?_) (fun h => ?_) | refine recNot (fun h => ?_) (fun h => ?_) | refine recA (fun h => ?_) (fun h => ?_)) <;> (try simp at h) <;> (try (exfalso; omega))))
 all_goals ((conv => whnf); exact ⟨_, pub2 (.closed _ rfl) (.closed _ rfl), (_, _), _, rfl, by simp [tyO, *]⟩)
def kbG (p : Kd × Bool) (r : AVal) : Prop := ∃ (k : Kd) (b : Bool), r = .tuple [.agg (kC k), .bool b] ∧ b = p.2 ∧ (b = true → k = p.1)
theorem rkb {H : List AObj} {k : Int} {n b : Bool} {p : Kd × Bool} (h1 : b = p.2) (h2 : b = true → (k, n) = p.1) : ∃ r, Pub H 0 [] (.tuple [.agg [.int .i64 k, .bool n], .bool b]) r ∧ kbG p r := ⟨_, pub2 (.closed _ rfl) (.closed _ rfl), (k, n), b, rfl, h1, h2⟩
theorem rkk {H : List AObj} {k : Int} {n : Bool} {c : Int} {t : Kd} (h1 : (k, n) = t) (h2 : c = 0) : ∃ r, Pub H 0 [] (.tuple [.agg [.int .i64 k, .bool n], .int .i64 c]) r ∧ ∃ (t' : Kd) (b : Int), r = .tuple [.agg (kC t'), .int .i64 b] ∧ t' = t ∧ b = 0 := ⟨_, pub2 (.closed _ rfl) (.closed _ rfl), (k, n), c, rfl, h1, h2⟩
theorem diff9_t (x y : Kd) : DetS pr 119 [.agg (kC x), .agg (kC y)] (kbG (tyO 5 [x, y])) := by
 refine dets_of_body k119.has rfl ?_
 repeat' ((conv => whnf); first | ((first | refine DetS.use (fits9_t _ _) (fun r hr => ?_) | refine DetS.draw (fits9_t _ _) (fun r hr => ?_)); obtain rfl := hr) | refine And.intro (by first | omega | (simp <;> omega) | (simp [roomB] <;> omega) | fail) ?_ | refine And.intro rfl ?_ | refine recO (map_at (by assumption)) ?_ | refine recOm (by omega) (fun x hx hm => ?_) | ((first | refine recAd (fun h => ?_) (fun h => ?_) | refine recAe (fun h => ?_) (fun h => ?_) | refine recAn (fun h => ?_) (fun h => ?_) | refine recNot (fun h => ?_) (fun h => ?_) | refine recA (fun h => ?_) (fun h => ?_)) <;> (try simp at h) <;> (try (exfalso; omega))))
 all_goals ((conv => whnf); exact ⟨_, pub2 (.closed _ rfl) (.closed _ rfl), (_, _), _, rfl, by by_cases q1 : y.1 = 4 <;> by_cases q2 : x.1 = 4 <;> by_cases q3 : x.1 = 0 <;> simp_all [tyO, kft], by by_cases q1 : y.1 = 4 <;> by_cases q2 : x.1 = 4 <;> by_cases q3 : x.1 = 0 <;> simp_all [tyO, kft]⟩)
theorem binary9_t {op : Int} (ho : 4 ≤ op ∧ op ≤ 15 ∨ op = 18) (x y : Kd) : DetS pr 74 [.int .i64 op, .agg (kC x), .agg (kC y)] (kbG (tyO op [x, y])) := by
 obtain rfl | rfl | rfl | rfl | rfl | rfl | rfl | rfl | rfl | rfl | rfl | rfl | rfl : op = 4 ∨ op = 5 ∨ op = 6 ∨ op = 7 ∨ op = 8 ∨ op = 9 ∨ op = 10 ∨ op = 11 ∨ op = 12 ∨ op = 13 ∨ op = 14 ∨ op = 15 ∨ op = 18 := by omega
 all_goals refine dets_of_body k74.has rfl ?_
 repeat' ((conv => whnf); first | ((first | refine DetS.use (fits9_t _ _) (fun r hr => ?_) | refine DetS.draw (fits9_t _ _) (fun r hr => ?_)); obtain rfl := hr) | ((first | refine DetS.use (common9_t _ _) (fun r hr => ?_) | refine DetS.draw (common9_t _ _) (fun r hr => ?_)); obtain rfl := hr) | ((first | refine DetS.use (diff9_t x y) (fun r hr => ?_) | refine DetS.draw (diff9_t x y) (fun r hr => ?_)); obtain ⟨k, b, rfl, hb⟩ := hr) | refine And.intro (by first | omega | (simp <;> omega) | (simp [roomB] <;> omega) | fail) ?_ | refine And.intro rfl ?_ | refine recO (map_at (by assumption)) ?_ | refine recOm (by omega) (fun x hx hm => ?_) | ((first | refine recAd (fun h => ?_) (fun h => ?_) | refine recAe (fun h => ?_) (fun h => ?_) | refine recAn (fun h => ?_) (fun h => ?_) | refine recNot (fun h => ?_) (fun h => ?_) | refine recA (fun h => ?_) (fun h => ?_)) <;> (try simp at h) <;> (try (exfalso; omega))))
 all_goals ((conv => whnf); first | exact ⟨_, pub2 (.closed _ rfl) (.closed _ rfl), (_, _), _, rfl, hb⟩ | exact rkb (by simp_all [tyO]) (by simp_all [tyO]))
theorem fK_inv {cs : List Col} {n : Nod} {l : List Kd} {k : Kd} (h : fK cs n l = some k) (h2 : 2 ≤ n.op) : tyO n.op l = (k, true) := by
 unfold fK at h
 rw [if_neg (by omega), if_neg (by omega)] at h
 split at h
 ·rename_i q
  cases h
  rw [← q]
 ·cases h
theorem node9_t {n : Nod} (g : Gd n) (x : List Kd) (hx : (x.length : Int) = arN n) {cs : List Col} {k : Kd} (hk : fK cs n x = some k) (e1 e2 e3 : Bool) {zs : List Zon} (hc : cs.length ≤ 100000) (hzl : zs.length ≤ 100000) (hzn : ∀ s ∈ zNm, zHas zs s = true) :
  DetS pr 35 [.agg (nodC n), .list e1 2 (mC kC x), .list e2 3 (mC colC cs), .list e3 3 (mC zonC zs)] (fun r => r = .tuple [.agg (kC k), .int .i64 0]) := by
 suffices h : DetS pr 35 [.agg (nodC n), .list e1 2 (mC kC x), .list e2 3 (mC colC cs), .list e3 3 (mC zonC zs)] (fun r => ∃ (t : Kd) (b : Int), r = .tuple [.agg (kC t), .int .i64 b] ∧ t = k ∧ b = 0) from h.mono fun r ⟨t, b, h1, h2, h3⟩ => by rw [h1, h2, h3]
 revert hx hk
 refine g.cs (C := fun n => (x.length : Int) = arN n → fK cs n x = some k → DetS pr 35 [.agg (nodC n), .list e1 2 (mC kC x), .list e2 3 (mC colC cs), .list e3 3 (mC zonC zs)] (fun r => ∃ (t : Kd) (b : Int), r = .tuple [.agg (kC t), .int .i64 b] ∧ t = k ∧ b = 0)) (fun v hv hx hk => ?_) (fun s h1 h2 h3 hx hk => ?_) (fun s hs hx hk => ?_) (fun op ho hx hk => ?_)
 ·obtain rfl : (v.kind, v.kind == 0) = k := Option.some.inj hk
  refine dets_of_body k35.has rfl ?_
  repeat' ((conv => whnf); first | refine And.intro (by first | omega | (simp <;> omega) | (simp [roomB] <;> omega) | fail) ?_ | refine And.intro rfl ?_ | refine recO (map_at (by assumption)) ?_ | refine recOm (by omega) (fun x hx hm => ?_) | ((first | refine recAd (fun h => ?_) (fun h => ?_) | refine recAe (fun h => ?_) (fun h => ?_) | refine recAn (fun h => ?_) (fun h => ?_) | refine recNot (fun h => ?_) (fun h => ?_) | refine recA (fun h => ?_) (fun h => ?_)) <;> (try simp at h) <;> (try (exfalso; omega))))
  all_goals ((conv => whnf); exact rkk rfl rfl)
 ·have hk2 : (if 0 ≤ colIdx cs s then (cs[(colIdx cs s).toNat]?).map fun c => (c.kind, c.nul) else none) = some k := hk
  have h0 : 0 ≤ colIdx cs s := Classical.byContradiction fun hn => by rw [if_neg hn] at hk2; cases hk2
  rw [if_pos h0] at hk2
  cases hci : cs[(colIdx cs s).toNat]? with
  | none => rw [hci] at hk2; cases hk2
  | some c =>
   rw [hci] at hk2
   obtain rfl : (c.kind, c.nul) = k := Option.some.inj hk2
   refine dets_of_body k35.has rfl ?_
   repeat' ((conv => whnf); first | ((first | refine DetS.use (DetS.of (ref5_Index_spec e2 cs (by omega) s)) (fun r hr => ?_) | refine DetS.draw (DetS.of (ref5_Index_spec e2 cs (by omega) s)) (fun r hr => ?_)); obtain rfl := hr) | refine recO (map_at hci) ?_ | refine And.intro (by first | omega | (simp <;> omega) | (simp [roomB] <;> omega) | fail) ?_ | refine And.intro rfl ?_ | refine recO (map_at (by assumption)) ?_ | refine recOm (by omega) (fun x hx hm => ?_) | ((first | refine recAd (fun h => ?_) (fun h => ?_) | refine recAe (fun h => ?_) (fun h => ?_) | refine recAn (fun h => ?_) (fun h => ?_) | refine recNot (fun h => ?_) (fun h => ?_) | refine recA (fun h => ?_) (fun h => ?_)) <;> (try simp at h) <;> (try (exfalso; omega))))
   all_goals ((conv => whnf); exact rkk rfl rfl)
 ·have ht := fK_inv hk (by decide : (2 : Int) ≤ 20)
  match x, hx with
  | [a], _ =>
   refine dets_of_body k35.has rfl ?_
   repeat' ((conv => whnf); first | ((first | refine DetS.use (zone9_t e3 zs hzl s (hzn s hs)) (fun r hr => ?_) | refine DetS.draw (zone9_t e3 zs hzl s (hzn s hs)) (fun r hr => ?_)); obtain ⟨z, rfl⟩ := hr) | (((first | refine DetS.use (unary9_t _ _) (fun r hr => ?_) | refine DetS.draw (unary9_t _ _) (fun r hr => ?_)); obtain rfl := hr); rw [ht]) | refine And.intro (by first | omega | (simp <;> omega) | (simp [roomB] <;> omega) | fail) ?_ | refine And.intro rfl ?_ | refine recO (map_at (by assumption)) ?_ | refine recOm (by omega) (fun x hx hm => ?_) | ((first | refine recAd (fun h => ?_) (fun h => ?_) | refine recAe (fun h => ?_) (fun h => ?_) | refine recAn (fun h => ?_) (fun h => ?_) | refine recNot (fun h => ?_) (fun h => ?_) | refine recA (fun h => ?_) (fun h => ?_)) <;> (try simp at h) <;> (try (exfalso; omega))))
   all_goals ((conv => whnf); exact rkk rfl rfl)
 ·have ht := fK_inv hk (show (2 : Int) ≤ op from ho.1)
  replace ht : tyO op x = (k, true) := ht
  by_cases h1 : op = 2 ∨ op = 3 ∨ op = 16 ∨ op = 19
  ·rw [arN1 (by omega)] at hx
   match x, hx with
   | [a], _ =>
    refine dets_of_body k35.has rfl ?_
    repeat' ((conv => whnf); first | (((first | refine DetS.use (unary9_t _ _) (fun r hr => ?_) | refine DetS.draw (unary9_t _ _) (fun r hr => ?_)); obtain rfl := hr); rw [ht]) | refine And.intro (by first | omega | (simp <;> omega) | (simp [roomB] <;> omega) | fail) ?_ | refine And.intro rfl ?_ | refine recO (map_at (by assumption)) ?_ | refine recOm (by omega) (fun x hx hm => ?_) | ((first | refine recAd (fun h => ?_) (fun h => ?_) | refine recAe (fun h => ?_) (fun h => ?_) | refine recAn (fun h => ?_) (fun h => ?_) | refine recNot (fun h => ?_) (fun h => ?_) | refine recA (fun h => ?_) (fun h => ?_)) <;> (try simp at h) <;> (try (exfalso; omega))))
    all_goals ((conv => whnf); exact rkk rfl rfl)
  by_cases h3 : op = 17
  ·subst h3
   have hx : (x.length : Int) = 3 := hx
   match x, hx with
   | [a, b, c], _ =>
    refine dets_of_body k35.has rfl ?_
    repeat' ((conv => whnf); first | ((first | refine DetS.use (common9_t _ _) (fun r hr => ?_) | refine DetS.draw (common9_t _ _) (fun r hr => ?_)); obtain rfl := hr) | ((first | refine DetS.use (fits9_t _ _) (fun r hr => ?_) | refine DetS.draw (fits9_t _ _) (fun r hr => ?_)); obtain rfl := hr) | refine And.intro (by first | omega | (simp <;> omega) | (simp [roomB] <;> omega) | fail) ?_ | refine And.intro rfl ?_ | refine recO (map_at (by assumption)) ?_ | refine recOm (by omega) (fun x hx hm => ?_) | ((first | refine recAd (fun h => ?_) (fun h => ?_) | refine recAe (fun h => ?_) (fun h => ?_) | refine recAn (fun h => ?_) (fun h => ?_) | refine recNot (fun h => ?_) (fun h => ?_) | refine recA (fun h => ?_) (fun h => ?_)) <;> (try simp at h) <;> (try (exfalso; omega))))
    all_goals ((conv => whnf); first | exact rkk (by simp_all [tyO]) rfl | (exfalso; simp_all [tyO]; done))
  ·have hb4 : 4 ≤ op ∧ op ≤ 15 ∨ op = 18 := by omega
   rw [arN2 (by omega)] at hx
   match x, hx with
   | [a, b], _ =>
    refine dets_of_body k35.has rfl ?_
    repeat' ((conv => whnf); first | ((first | refine DetS.use (binary9_t hb4 _ _) (fun r hr => ?_) | refine DetS.draw (binary9_t hb4 _ _) (fun r hr => ?_)); obtain ⟨t, bb, rfl, hb1, hb2⟩ := hr) | refine And.intro (by first | omega | (simp <;> omega) | (simp [roomB] <;> omega) | fail) ?_ | refine And.intro rfl ?_ | refine recO (map_at (by assumption)) ?_ | refine recOm (by omega) (fun x hx hm => ?_) | ((first | refine recAd (fun h => ?_) (fun h => ?_) | refine recAe (fun h => ?_) (fun h => ?_) | refine recAn (fun h => ?_) (fun h => ?_) | refine recNot (fun h => ?_) (fun h => ?_) | refine recA (fun h => ?_) (fun h => ?_)) <;> (try simp at h) <;> (try (exfalso; omega))))
    all_goals ((conv => whnf); first | exact rkk (by simp_all) rfl | (exfalso; simp_all; done))
end Go.AW

namespace Go.AW
variable [Draws]
attribute [local irreducible] ACalls CallE CallS Gp
set_option maxRecDepth 20000
set_option maxHeartbeats 4000000
theorem DetS.a {P : Program} {f : FuncId} {vs : List AVal} {R : AVal} (h : DetS P f vs (fun r => r = R)) (H : List AObj) : ACalls P f vs H (fun r H' => r = R ∧ H' = H) := by
 obtain ⟨r, rfl, h⟩ := h
 exact h H
def symW : List ByteArray := [bs [43, 43], bs [60, 61], bs [62, 61], bs [33, 61], bs [40], bs [41], bs [44], bs [59], bs [58], bs [124], bs [61], bs [43], bs [45], bs [42], bs [47], bs [37], bs [60], bs [62]]
def usedW : List (List Bool) := [[true, false, false, false, false], [false, false, false, false, true], [false, false, false, true, false], [false, true, false, false, false], [true, true, true, true, false], [true, true, true, true, false], [true, true, true, false, false], [true, true, true, false, false], [true, false, false, false, false], [true, false, false, false, false], [false, false, false, false, false], [false, true, false, true, false], [false, true, true, true, false]]
def mbW : List ByteArray := [bs [105, 102], bs [99, 111, 97, 108, 101, 115, 99, 101], bs [105, 115, 110, 117, 108, 108], bs [108, 101, 110, 103, 116, 104], bs [100, 97, 121]]
class Gls [Draws] : Prop where
 wd : Draws.gl 1 = some [.list false 1 (sC resW)]
 sy : Draws.gl 2 = some [.list false 1 (sC symW)]
 us : Draws.gl 4 = some (usedW.flatten.map AVal.bool)
 mb : Draws.gl 0 = some [.list false 1 (sC mbW)]
theorem reserved_t [Gls] (s : ByteArray) : DetS pr 40 [.str s] (fun r => r = .bool (resB s)) := by
 refine dets_of_body k40.has rfl ?_
 (conv => whnf); refine recO Gls.wd ?_
 (conv => whnf); refine CallE.of (Contains_spec false resW (by decide) s _) ?_
 conv => whnf
 exact retB rfl
theorem arity_t (n : Nod) : DetS pr 27 [.agg (nodC n)] (fun r => r = .int .i64 (arN n)) := by
 suffices h : DetS pr 27 [.agg (nodC n)] (fun r => ∃ m, r = .int .i64 m ∧ m = arN n) from h.mono fun r ⟨m, h1, h2⟩ => by rw [h1, h2]
 refine dets_of_body k27.has rfl ?_
 repeat' ((conv => whnf); first | refine And.intro (by first | omega | (simp <;> omega) | (simp [roomB] <;> omega) | fail) ?_ | refine And.intro rfl ?_ | refine recO (map_at (by assumption)) ?_ | refine recOm (by omega) (fun x hx hm => ?_) | ((first | refine recAd (fun h => ?_) (fun h => ?_) | refine recAe (fun h => ?_) (fun h => ?_) | refine recAn (fun h => ?_) (fun h => ?_) | refine recNot (fun h => ?_) (fun h => ?_) | refine recA (fun h => ?_) (fun h => ?_)) <;> (try simp at h) <;> (try (exfalso; omega))))
 all_goals ((conv => whnf); exact ⟨_, .closed _ rfl, _, rfl, by unfold arN; (repeat' split) <;> omega⟩)
theorem shaped_t [Gls] {n : Nod} (g : Gd n) : DetS pr 44 [.agg (nodC n)] (fun r => r = .bool true) := by
 refine g.cs (C := fun n => DetS pr 44 [.agg (nodC n)] (fun r => r = .bool true)) (fun v hv => ?_) (fun s h1 h2 h3 => ?_) (fun s hs => ?_) (fun op ho => ?_)
 ·refine dets_of_body k44.has rfl ?_
  repeat' ((conv => whnf); first | ((first | refine DetS.use (DetS.of (value_Valid_spec v)) (fun r hr => ?_) | refine DetS.draw (DetS.of (value_Valid_spec v)) (fun r hr => ?_)); obtain rfl := hr) | refine And.intro (by first | omega | (simp <;> omega) | (simp [roomB] <;> omega) | fail) ?_ | refine And.intro rfl ?_ | refine recO (map_at (by assumption)) ?_ | refine recOm (by omega) (fun x hx hm => ?_) | ((first | refine recAd (fun h => ?_) (fun h => ?_) | refine recAe (fun h => ?_) (fun h => ?_) | refine recAn (fun h => ?_) (fun h => ?_) | refine recNot (fun h => ?_) (fun h => ?_) | refine recA (fun h => ?_) (fun h => ?_)) <;> (try simp at h) <;> (try (exfalso; omega))))
  all_goals ((conv => whnf); exact retB (by first | rfl | assumption | simp_all))
 ·refine dets_of_body k44.has rfl ?_
  repeat' ((conv => whnf); first | ((first | refine DetS.use (DetS.of (schema_IsName_spec s)) (fun r hr => ?_) | refine DetS.draw (DetS.of (schema_IsName_spec s)) (fun r hr => ?_)); obtain rfl := hr) | ((first | refine DetS.use (reserved_t s) (fun r hr => ?_) | refine DetS.draw (reserved_t s) (fun r hr => ?_)); obtain rfl := hr) | refine And.intro (by first | omega | (simp <;> omega) | (simp [roomB] <;> omega) | fail) ?_ | refine And.intro rfl ?_ | refine recO (map_at (by assumption)) ?_ | refine recOm (by omega) (fun x hx hm => ?_) | ((first | refine recAd (fun h => ?_) (fun h => ?_) | refine recAe (fun h => ?_) (fun h => ?_) | refine recAn (fun h => ?_) (fun h => ?_) | refine recNot (fun h => ?_) (fun h => ?_) | refine recA (fun h => ?_) (fun h => ?_)) <;> (try simp at h) <;> (try (exfalso; omega))))
  all_goals ((conv => whnf); exact retB (by first | rfl | assumption | simp_all))
 ·have hz := zNm_ok hs
  refine dets_of_body k44.has rfl ?_
  repeat' ((conv => whnf); first | ((first | refine DetS.use (DetS.of (schema_IsQualified_spec s hz.1)) (fun r hr => ?_) | refine DetS.draw (DetS.of (schema_IsQualified_spec s hz.1)) (fun r hr => ?_)); obtain rfl := hr) | ((first | refine DetS.use (reserved_t s) (fun r hr => ?_) | refine DetS.draw (reserved_t s) (fun r hr => ?_)); obtain rfl := hr) | refine And.intro (by first | omega | (simp <;> omega) | (simp [roomB] <;> omega) | fail) ?_ | refine And.intro rfl ?_ | refine recO (map_at (by assumption)) ?_ | refine recOm (by omega) (fun x hx hm => ?_) | ((first | refine recAd (fun h => ?_) (fun h => ?_) | refine recAe (fun h => ?_) (fun h => ?_) | refine recAn (fun h => ?_) (fun h => ?_) | refine recNot (fun h => ?_) (fun h => ?_) | refine recA (fun h => ?_) (fun h => ?_)) <;> (try simp at h) <;> (try (exfalso; omega))))
  all_goals ((conv => whnf); exact retB (by first | rfl | assumption | simp_all))
 ·have ha : 0 ≤ arN ⟨op, ⟨0, 0, bs []⟩, bs [], 0⟩ := (opN_gd ho).ar3.1
  refine dets_of_body k44.has rfl ?_
  repeat' ((conv => whnf); first | ((first | refine DetS.use (arity_t ⟨op, ⟨0, 0, bs []⟩, bs [], 0⟩) (fun r hr => ?_) | refine DetS.draw (arity_t ⟨op, ⟨0, 0, bs []⟩, bs [], 0⟩) (fun r hr => ?_)); obtain rfl := hr) | refine And.intro (by first | omega | (simp <;> omega) | (simp [roomB] <;> omega) | fail) ?_ | refine And.intro rfl ?_ | refine recO (map_at (by assumption)) ?_ | refine recOm (by omega) (fun x hx hm => ?_) | ((first | refine recAd (fun h => ?_) (fun h => ?_) | refine recAe (fun h => ?_) (fun h => ?_) | refine recAn (fun h => ?_) (fun h => ?_) | refine recNot (fun h => ?_) (fun h => ?_) | refine recA (fun h => ?_) (fun h => ?_)) <;> (try simp at h) <;> (try (exfalso; omega))))
  all_goals ((conv => whnf); exact retB (by first | rfl | assumption | simp_all))
theorem hgt_snoc (l : List Int) (x : Int) : hgt (l ++ [x]) = max (hgt l) (1 + x) := by unfold hgt; rw [List.foldl_append]; rfl
theorem hgt_pos (l : List Int) : 1 ≤ hgt l := by
 rw [hgt_eq]
 have : ∀ (l : List Int) (x : Int), x ≤ l.foldl max x := by
  intro l
  induction l with
  | nil => intro x; exact Int.le_refl _
  | cons y l ih => intro x; exact Int.le_trans (by omega) (ih (max x y))
 have := this l 0
 omega
theorem hgt_take (l : List Int) (k : Nat) : hgt (l.take k) ≤ hgt l := by
 have : ∀ (l : List Int) (x : Int), x ≤ l.foldl (fun h x => max h (1 + x)) x := by
  intro l
  induction l with
  | nil => intro x; exact Int.le_refl _
  | cons y l ih => intro x; exact Int.le_trans (by omega) (ih (max x (1 + y)))
 conv => rhs; rw [← List.take_append_drop k l]
 unfold hgt
 rw [List.foldl_append]
 exact this _ _
theorem hgt_mem (l : List Int) (x : Int) (h : x ∈ l) : 1 + x ≤ hgt l := by
 obtain ⟨a, b, rfl⟩ := List.append_of_mem h
 have h1 := hgt_take (a ++ x :: b) (a.length + 1)
 have h2 : (a ++ x :: b).take (a.length + 1) = a ++ [x] := by rw [show a ++ x :: b = (a ++ [x]) ++ b by simp, show a.length + 1 = (a ++ [x]).length by simp, List.take_left]
 rw [h2, hgt_snoc] at h1
 omega
theorem val_t [Gls] (x : Bool) (e : List Nod) (hl : e.length ≤ 256) {hf : Int} (hs : stk fH e [] = some [hf]) (H : List AObj) :
  ACalls pr 19 [.list x 6 (mC nodC e)] H (fun r H' => r = .int .i64 0 ∧ H' = H) := by
 refine ACalls.pure rfl (acalls_of_body k19.has ?_)
 (conv => whnf); refine recF (by rw [mC_length]; simp; omega) ?_
 conv => whnf
 refine ⟨fun m ρ H1 => ∃ (k : Nat) (st : List Int) (D : Nat), k + m = e.length ∧ stk fH (e.drop k) (st.take D) = some [hf] ∧ D ≤ st.length ∧ st.length ≤ k ∧ (∀ y ∈ st, 1 ≤ y) ∧ H1 = [.arr 1 (iC st)] ∧ Sv 59 [(0, .list x 6 (mC nodC e)), (3, .sl 0 st.length 0 D), (13, .list x 6 (mC nodC e)), (14, .int .i64 e.length), (15, .int .i64 k)] ρ, e.length, [(3, 1)], ?_, ?_⟩
 ·exact ⟨0, [], 0, by omega, hs, Nat.le_refl _, Nat.le_refl _, fun y h => by simp at h, rfl, Sv.intro rfl ⟨rfl, rfl, rfl, intEq (by rw [mC_length]), rfl, trivial⟩⟩
 rintro m ρ H1 ⟨k, st, D, hk, hD, hDl, hst, hpos, rfl, d, rfl⟩
 have hn := iC_length st
 have hb : Nat.beq st.length (iC st).length = true := by rw [hn]; exact Nat.beq_refl _
 (conv => whnf); refine recA (fun hlt => ?_) (fun hlt => ?_)
 ·simp at hlt
  obtain ⟨n, hnk, hdk, hm⟩ := get_drop (l := e) (k := k) (by omega)
  rw [hdk] at hD
  obtain ⟨y, ha, hy, hD2⟩ := stk_inv hD
  obtain ⟨gd, h64, rfl⟩ := fH_inv hy
  have hlD : (st.take D).length = D := by simp; omega
  rw [hlD] at ha h64 hD2
  have a0 := gd.ar3
  obtain ⟨a, hna⟩ : ∃ a : Nat, arN n = a := ⟨(arN n).toNat, by omega⟩
  rw [hna] at ha h64 hD2
  simp only [Int.toNat_natCast] at ha h64 hD2
  (conv => whnf); refine And.intro (by omega) ?_
  (conv => whnf); refine recO (mC_at hnk) ?_
  (conv => whnf); refine ACalls.use ((shaped_t gd).a _) ?_
  (conv => whnf); refine ACalls.use ((arity_t n).a _) ?_
  (conv => whnf); refine recT (hb) ?_
  (conv => whnf); refine recF (by rw [hna]; simp; omega) ?_
  (conv => whnf); refine recT (hb) ?_
  (conv => whnf); refine ACalls.use ((arity_t n).a _) ?_
  rw [hna]
  have hw : IntKind.i64.wrap ((D : Int) - a) = ((D - a : Nat) : Int) := by rw [wrapI _ (by omega) (by omega)]; omega
  conv => whnf
  rw [hw]
  obtain ⟨r, hrr⟩ : ∃ r, r = D - a := ⟨_, rfl⟩
  rw [← hrr]
  (conv => whnf); refine recT (hb) ?_
  (conv => whnf); refine And.intro (by omega) ?_
  (conv => whnf); refine recT (hb) ?_
  conv => whnf
  obtain ⟨L, hLL⟩ : ∃ L, L = (st.take D).drop r := ⟨_, rfl⟩
  have hLl : L.length = a := by rw [hLL]; simp; omega
  rw [← hrr, ← hLL] at h64 hD2
  refine ⟨fun m2 ρ H1 => ∃ j : Nat, j + m2 = a ∧ H1 = [.arr 1 (iC st), .arr 6 [nodC n]] ∧ Sv 59 [(0, .list x 6 (mC nodC e)), (3, .sl 0 st.length 0 D), (6, .int .i64 r), (7, .int .i64 (hgt (L.take j))), (13, .list x 6 (mC nodC e)), (14, .int .i64 e.length), (15, .int .i64 k), (36, .sl 0 st.length r a), (37, .int .i64 a), (38, .int .i64 j)] ρ, a, [], ?_, ?_⟩
  ·exact ⟨0, by omega, rfl, Sv.intro rfl ⟨rfl, rfl, rfl, rfl, rfl, rfl, rfl, by rw [show 0 + ((r : Int)).toNat = r by omega, show D - ((r : Int)).toNat = a by omega]; rfl, intEq (by omega), rfl, trivial⟩⟩
  rintro m2 ρ H1 ⟨j, hj, rfl, d2, rfl⟩
  (conv => whnf); refine recA (fun hlt2 => ?_) (fun hlt2 => ?_)
  ·simp at hlt2
   (conv => whnf); refine recT (hb) ?_
   (conv => whnf); refine And.intro (by omega) ?_
   (conv => whnf); refine recT (hb) ?_
   obtain ⟨y, hy⟩ : ∃ y, L[j]? = some y := ⟨_, List.getElem?_eq_getElem (by omega)⟩
   have hym : y ∈ L := List.mem_of_getElem? hy
   have hy1 := hgt_mem L y hym
   have hy2 : 1 ≤ y := hpos y (by rw [hLL] at hym; exact List.mem_of_mem_take (List.mem_of_mem_drop hym))
   have hg : (iC st)[r + ((j : Nat) : Int).toNat]? = some [.int .i64 y] := by
    rw [hLL, List.getElem?_drop, List.getElem?_take] at hy
    split at hy
    ·rw [iC, List.getElem?_map, show ((j : Int)).toNat = j from rfl, hy]; rfl
    ·cases hy
   (conv => whnf); refine recO (hg) ?_
   conv => whnf
   refine ⟨m2 - 1, by omega, Gp.keep rfl ?_ fun ρ1 hh => ⟨j + 1, by omega, rfl, hh⟩⟩
   refine ⟨rfl, rfl, rfl, intEq ?_, rfl, rfl, rfl, rfl, rfl, intEq (nx1 (by omega)), trivial⟩
   rw [take_succ' hy, hgt_snoc, wrapI _ (by omega) (by omega)]
   generalize hgt (L.take j) = z
   split <;> omega
  ·simp at hlt2
   obtain rfl : j = a := by omega
   rw [show L.take j = L from List.take_of_length_le (by omega)]
   obtain ⟨h, hhh⟩ : ∃ h, h = hgt L := ⟨_, rfl⟩
   have hh1 := hgt_pos L
   rw [← hhh] at hD2 h64 hh1
   rw [← hhh]
   (conv => whnf); refine recF (by simpa using h64) ?_
   (conv => whnf); refine recT (hb) ?_
   (conv => whnf); refine And.intro (by omega) ?_
   (conv => whnf); refine recT (hb) ?_
   obtain ⟨q1, q2, q3⟩ := stP_take (show r ≤ D by omega) hDl h
   have hpos2 : ∀ y ∈ stP st r h, 1 ≤ y := fun y hy => by
    unfold stP at hy
    split at hy
    ·simp only [List.mem_append, List.mem_singleton] at hy
     rcases hy with (hy | rfl) | hy
     ·exact hpos y (List.mem_of_mem_take hy)
     ·exact hh1
     ·exact hpos y (List.mem_of_mem_drop hy)
    ·simp only [List.mem_append, List.mem_singleton] at hy
     rcases hy with hy | rfl
     ·exact hpos y hy
     ·exact hh1
   (conv => whnf); refine recA (fun hfit => ?_) (fun hfit => ?_)
   ·replace hfit : (Nat.ble (0 + 0 + (((r : Nat) : Int).toNat - 0) + 1) (iC st).length && true) = true := hfit
    rw [hn, Bool.and_true, Nat.ble_eq] at hfit
    have hfit2 : r + 1 ≤ st.length := by omega
    have hcc : (iC st).take (0 + 0 + (((r : Nat) : Int).toNat - 0)) ++ [[AVal.int .i64 h]] ++ (iC st).drop (0 + 0 + (((r : Nat) : Int).toNat - 0) + 1) = iC (stP st r h) := by
     rw [show 0 + 0 + (((r : Nat) : Int).toNat - 0) = r by omega, stP, if_pos hfit2]; simp [iC, List.map_take, List.map_drop]
    have hll : (stP st r h).length = st.length := by rw [stP, if_pos hfit2]; simp; omega
    conv => whnf
    refine ⟨m - 1, by omega, Gp.cut (H := [.arr 1 (iC (stP st r h))]) (by rw [← hcc]; rfl) ⟨lowP (pureEs_iC _), trivial⟩ rfl rfl ?_ fun ρ1 hh => ⟨k + 1, stP st r h, r + 1, by omega, by rw [q1]; exact hD2, by omega, by omega, hpos2, rfl, hh⟩⟩
    exact ⟨rfl, by rw [hll, show r + 1 = ((r : Nat) : Int).toNat - 0 + 1 by omega]; rfl, rfl, rfl, intEq (nx1 (by omega)), trivial⟩
   ·replace hfit : (Nat.ble (0 + 0 + (((r : Nat) : Int).toNat - 0) + 1) (iC st).length && true) = false := hfit
    have hf2 : st.length < r + 1 := by
     rw [Bool.and_true, hn] at hfit
     exact Nat.lt_of_not_le fun hc => by rw [Nat.ble_eq_true_of_le (show 0 + 0 + (((r : Nat) : Int).toNat - 0) + 1 ≤ st.length by omega)] at hfit; cases hfit
    (conv => whnf); refine recT (hb) ?_
    (conv => whnf); refine And.intro (⟨by simp [roomB]; omega, by simp [roomB]; omega, rfl, by rw [hn]; omega⟩) ?_
    conv => whnf
    have hss : stP st r h = st ++ [h] := by rw [stP, if_neg (by omega)]
    have hcc : iC st ++ [[AVal.int IntKind.i64 h]] = iC (stP st r h) := by rw [hss]; simp [iC]
    have hll : (stP st r h).length = r + 1 := by rw [hss]; simp; omega
    have hcl : (iC st ++ [[AVal.int IntKind.i64 h]]).length = r + 1 := by rw [hcc, iC_length, hll]
    refine ⟨m - 1, by omega, Gp.cut (H := [.arr 1 (iC (stP st r h))]) (by rw [← hcc]; rfl) ⟨lowP (pureEs_iC _), trivial⟩ rfl rfl ?_ fun ρ1 hh => ⟨k + 1, stP st r h, r + 1, by omega, by rw [q1]; exact hD2, by omega, by omega, hpos2, rfl, hh⟩⟩
    exact ⟨rfl, slEq (by rw [hcl, hll]) hcl, rfl, rfl, intEq (nx1 (by omega)), trivial⟩
 ·simp at hlt
  have hk2 : k = e.length := by omega
  subst hk2
  rw [List.drop_length] at hD
  have hD1 : st.take D = [hf] := Option.some.inj hD
  have hlD : (st.take D).length = D := by simp; omega
  obtain rfl : D = 1 := by rw [hD1] at hlD; exact hlD.symm
  (conv => whnf); refine recT (hb) ?_
  conv => whnf
  exact .closed _ rfl
end Go.AW

namespace Go.AW
variable [Draws]
attribute [local irreducible] ACalls CallE CallS Gp
set_option maxRecDepth 20000
set_option maxHeartbeats 4000000
theorem pubI0 {H : List AObj} {ids : List Nat} {a b : Int} (h : a = b) : Pub H 0 ids (.int .i64 a) (.int .i64 b) := pubI h
theorem DetS.weak {P : Program} {f : FuncId} {vs : List AVal} {S T : AVal → Prop} (h : DetS P f vs S) (hw : ∀ r, S r → ∃ r', WkD r r' ∧ T r') : DetS P f vs T := by
 obtain ⟨r, h1, h2⟩ := h
 obtain ⟨r', h3, h4⟩ := hw r h1
 exact ⟨r', h4, fun H => ACalls.weakRD (h2 H) fun r0 H0 ⟨e1, e2⟩ => by subst e1 e2; exact ⟨r', h3, rfl, rfl⟩⟩
theorem DetS.args {P : Program} {f : FuncId} {vs ws : List AVal} {S : AVal → Prop} (h : DetS P f ws S) (hw : WksD vs ws) : DetS P f vs S := by
 obtain ⟨r, h1, h2⟩ := h
 exact ⟨r, h1, fun H => ACalls.weakD (h2 H) hw⟩
theorem DetS.bor {P : Program} {f : FuncId} {vs ws : List AVal} {S : AVal → Prop} {H : List AObj} {k : AVal → List AObj → Prop} (h : DetS P f ws S) (hs : ∀ r, S r → r.scalar = true) (hl : Lents H vs ws) (hk : ∀ r, S r → k r H) : CallE P f vs H k := by
 obtain ⟨r, h1, h2⟩ := h
 exact CallE.of (ACalls.bor (hs r h1) ((h2 []).mono fun _ _ hh => hh.1) hl) (hk r h1)
structure ZsOk (zs : List Zon) : Prop where
 len : zs.length ≤ 100000
 vd : ∀ z ∈ zs, zVd z
theorem type9_t (e1 e2 e3 : Bool) {e : List Nod} (hl : e.length ≤ 256) {hf : Int} (hs : stk fH e [] = some [hf]) (hg : ∀ n ∈ e, Gd n) {cs : List Col} (hc : cs.length ≤ 100000) (hv : vldC cs = 0) {zs : List Zon} (hz : ZsOk zs) (hzn : ∀ s ∈ zNm, zHas zs s = true) {kf : Kd} (hk : stk (fK cs) e [] = some [kf]) :
  DetS pr 11 [.list e1 6 (mC nodC e), .list e2 3 (mC colC cs), .list e3 3 (mC zonC zs)] (fun r => r = .tuple [.int .i64 kf.1, .bool kf.2, .int .i64 0]) := by
 have hzl := hz.len
 refine dets_of_body k11.has rfl ?_
 (conv => whnf); refine DetS.use (val8_t e1 e hl hs) (fun r hr => ?_)
 subst hr
 (conv => whnf); refine DetS.use (DetS.of (ref5_Validate_spec e2 cs (by omega))) (fun r hr => ?_)
 subst hr
 rw [hv]
 conv => whnf
 refine ⟨fun m ρ H1 => ∃ k : Nat, k + m = (zs).length ∧ H1 = [] ∧ Sv 87 [(0, .list e1 6 (mC nodC e)), (1, .list e2 3 (mC colC cs)), (2, .list e3 3 (mC zonC zs)), (11, .int .i64 k)] ρ, (zs).length, [], fun i ρ H1 => i = 0 ∧ H1 = [] ∧ Sv 87 [(0, .list e1 6 (mC nodC e)), (1, .list e2 3 (mC colC cs)), (2, .list e3 3 (mC zonC zs))] ρ, ?_, ?_, ?_⟩
 ·exact ⟨0, Nat.zero_add _, rfl, Sv.intro rfl ⟨rfl, rfl, rfl, rfl, trivial⟩⟩
 ·rintro m ρ H1 ⟨k, hk, rfl, d, rfl⟩
  (conv => whnf); refine recA (fun hlt => ?_) (fun hlt => ?_)
  ·simp at hlt
   obtain ⟨z, hzk, _, hm⟩ := get_drop (l := zs) (k := k) (by omega)
   (conv => whnf); refine And.intro (by omega) ?_
   (conv => whnf); refine recO (mC_at hzk) ?_
   (conv => whnf); refine DetS.use (validate4_t (hz.vd z hm)) (fun r hr => ?_)
   subst hr
   conv => whnf
   refine ⟨m - 1, by omega, Gp.cut (H := []) rfl trivial rfl rfl ?_ fun ρ1 h => ⟨k + 1, by omega, rfl, h⟩⟩
   exact ⟨rfl, rfl, rfl, intEq (nx1 (by omega)), trivial⟩
  ·conv => whnf
   refine Gp.cut (H := []) rfl trivial rfl rfl ?_ fun ρ1 h => ⟨rfl, rfl, h⟩
   exact ⟨rfl, rfl, rfl, trivial⟩
 ·rintro i ρ1 H1 ⟨rfl, rfl, d, rfl⟩
  conv => whnf
  refine ⟨fun m ρ H1 => ∃ (k : Nat) (st : List Kd), k + m = e.length ∧ stk (fK cs) (e.drop k) st = some [kf] ∧ st.length ≤ k ∧ H1 = [.arr 2 (mC kC st)] ∧ Sv 87 [(0, .list e1 6 (mC nodC e)), (1, .list e2 3 (mC colC cs)), (2, .list e3 3 (mC zonC zs)), (13, .sl 0 st.length 0 st.length), (14, .int .i64 k)] ρ, e.length, [(13, 2)],
   fun i ρ H1 => i = 2 ∧ H1 = [.arr 2 (mC kC [kf])] ∧ Sv 87 [(13, .sl 0 1 0 1)] ρ, ?_, ?_, ?_⟩
  ·exact ⟨0, [], by omega, hk, Nat.le_refl _, rfl, Sv.intro rfl ⟨rfl, rfl, rfl, rfl, rfl, trivial⟩⟩
  ·rintro m ρ H1 ⟨k, st, hkm, hD, hst, rfl, d, rfl⟩
   have hb : Nat.beq st.length (mC kC st).length = true := by rw [mC_length]; exact Nat.beq_refl _
   (conv => whnf); refine recA (fun hlt => ?_) (fun hlt => ?_)
   ·simp at hlt
    obtain ⟨n, hnk, hdk, hm⟩ := get_drop (l := e) (k := k) (by omega)
    rw [hdk] at hD
    obtain ⟨y, ha, hy, hD2⟩ := stk_inv hD
    have gd := hg n hm
    have a0 := gd.ar3
    (conv => whnf); refine recT (hb) ?_
    (conv => whnf); refine And.intro (by omega) ?_
    (conv => whnf); refine recO (mC_at hnk) ?_
    (conv => whnf); refine DetS.use (arity8_t n) (fun r hr => ?_)
    subst hr
    obtain ⟨r, hr⟩ : ∃ r, r = (st.length : Int) - arN n := ⟨_, rfl⟩
    have hw : IntKind.i64.wrap ((st.length : Int) - arN n) = r := by rw [hr]; exact wrapI _ (by omega) (by omega)
    rw [show st.length - (arN n).toNat = r.toNat by omega] at hy hD2
    conv => whnf
    rw [hw]
    (conv => whnf); refine And.intro (by omega) ?_
    (conv => whnf); refine recO (mC_at hnk) ?_
    (conv => whnf); refine recT (hb) ?_
    (conv => whnf); refine And.intro (by omega) ?_
    have hdl : ((st.drop r.toNat).length : Int) = arN n := by rw [List.length_drop]; omega
    have hL : ∀ H : List AObj, H[0]? = some (.arr 2 (mC kC st)) → Lent H (.sl 0 st.length (0 + r.toNat) (st.length - r.toNat)) (.list false 2 (mC kC (st.drop r.toNat))) := fun H ho => by
     have := Lent.sl 0 st.length (0 + r.toNat) (st.length - r.toNat) 2 (mC kC st) ho (mC_length _ _).symm (kC_pure st)
     rwa [show ((mC kC st).drop (0 + r.toNat)).take (st.length - r.toNat) = mC kC (st.drop r.toNat) from by rw [Nat.zero_add, mC, ← List.map_drop, List.take_of_length_le (by simp)]; rfl] at this
    (conv => whnf); refine DetS.bor (node9_t gd (st.drop r.toNat) hdl hy false e2 e3 hc hzl hzn) (by rintro _ rfl; rfl) (.cons (.same _ rfl) (.cons (hL _ rfl) (.cons (.same _ rfl) (.cons (.same _ rfl) .nil)))) (fun q hq => ?_)
    subst hq
    repeat ((conv => whnf); refine And.intro rfl ?_)
    (conv => whnf); refine recT (hb) ?_
    (conv => whnf); refine And.intro (⟨rfl, by omega, by omega⟩) ?_
    have hcc : (mC kC st).take r.toNat ++ [kC y] = mC kC (st.take r.toNat ++ [y]) := by rw [mC_append]; simp [mC]
    have hll : (st.take r.toNat ++ [y]).length = r.toNat + 1 := by simp; omega
    (conv => whnf); refine recA (fun hr0 => ?_) (fun hr0 => ?_)
    ·simp at hr0
     (conv => whnf); refine recT (hb) ?_
     (conv => whnf); refine Or.inr ⟨⟨by omega, by simp, by simp [roomB]; omega, by simp [roomB]; omega⟩, ?_⟩
     repeat ((conv => whnf); refine And.intro rfl ?_)
     conv => whnf
     refine ⟨m - 1, by omega, Gp.one 2 2 (mC kC (st.take r.toNat ++ [y])) ?_ (kC_pure _) rfl ?_ fun ρ1 h => ⟨k + 1, st.take r.toNat ++ [y], by omega, hD2, by omega, rfl, h⟩⟩
     ·rw [← hcc]; rfl
     ·refine ⟨.closed _ rfl, .closed _ rfl, .closed _ rfl, ?_, pubI0 (nx1 (by omega)), trivial⟩
      exact pubSl (k := 0) rfl rfl (by rw [← mC_length kC, ← hcc]; rfl) (by rw [← mC_length kC, ← hcc]; rfl)
    ·simp at hr0
     have hz0 : r.toNat = 0 := by omega
     rw [hz0] at hcc hll hD2
     (conv => whnf); refine And.intro (⟨by simp [roomB], by simp [roomB], .inr rfl⟩) ?_
     repeat ((conv => whnf); refine And.intro rfl ?_)
     conv => whnf
     refine ⟨m - 1, by omega, Gp.one 2 2 (mC kC (st.take 0 ++ [y])) rfl (kC_pure _) rfl ?_ fun ρ1 h => ⟨k + 1, st.take 0 ++ [y], by omega, hD2, by omega, rfl, h⟩⟩
     refine ⟨.closed _ rfl, .closed _ rfl, .closed _ rfl, ?_, pubI0 (nx1 (by omega)), trivial⟩
     exact pubSl (k := 0) rfl rfl rfl rfl
   ·simp at hlt
    have hk2 : k = e.length := by omega
    subst hk2
    rw [List.drop_length] at hD
    obtain rfl : st = [kf] := Option.some.inj hD
    conv => whnf
    refine Gp.keep rfl ?_ fun ρ1 h => ⟨rfl, rfl, h⟩
    exact ⟨rfl, trivial⟩
  ·rintro i ρ1 H1 ⟨rfl, rfl, d, rfl⟩
   (conv => whnf); refine And.intro (by simp) ?_
   (conv => whnf); refine And.intro (by simp) ?_
   conv => whnf
   exact ⟨_, pub3 (.closed _ rfl) (.closed _ rfl) (.closed _ rfl), rfl⟩
end Go.AW

namespace Go.AW
variable [Draws]
attribute [local irreducible] ACalls CallE CallS Gp
set_option maxRecDepth 20000
set_option maxHeartbeats 8000000
theorem DetS.wk {P : Program} {f : FuncId} {vs : List AVal} {R : AVal} {S : AVal → Prop} (h : DetS P f vs (fun r => WkD r R)) (hs : S R) : DetS P f vs S := h.weak fun r hr => ⟨R, hr, hs⟩
def WkRows : List (List AVal) → List (List AVal) → Prop
 | [], [] => True
 | e :: es, f :: fs => (e.length = f.length ∧ f.all AVal.isCell = true ∧ WksD e f) ∧ WkRows es fs
 | _, _ => False
theorem WkRows.get : ∀ {es fs : List (List AVal)}, WkRows es fs → es.length = fs.length ∧ ∀ (i : Nat) (e f : List AVal), es[i]? = some e → fs[i]? = some f → e.length = f.length ∧ f.all AVal.isCell = true ∧ WksD e f
 | [], [], _ => ⟨rfl, fun i e f h => by simp at h⟩
 | e :: es, f :: fs, h => ⟨by simp [(WkRows.get h.2).1], fun i a b h1 h2 => by
   cases i with
   | zero => simp at h1 h2; subst h1 h2; exact h.1
   | succ i => exact (WkRows.get h.2).2 i a b (by simpa using h1) (by simpa using h2)⟩
 | [], _ :: _, h => h.elim
 | _ :: _, [], h => h.elim
theorem WkD.rows {x : Bool} {sz : Nat} {es fs : List (List AVal)} (h : WkRows es fs) : WkD (.list x sz es) (.list false sz fs) := by
 have hg := h.get
 have hex : ∀ {i : Nat} {f : List AVal}, fs[i]? = some f → ∃ e, es[i]? = some e := fun {i f} hf => ⟨_, List.getElem?_eq_getElem (by have := (List.getElem?_eq_some_iff.1 hf).1; omega)⟩
 refine .list x false sz es fs (fun h => by cases h) hg.1 (fun i e f he hf => (hg.2 i e f he hf).1) (fun i j f c hf hc => ?_) (fun i j e f d c he hf hd hc => (hg.2 i e f he hf).2.2.2 j d c hd hc)
 obtain ⟨e, he⟩ := hex hf
 exact List.all_eq_true.1 (hg.2 i e f he hf).2.1 c (List.mem_of_getElem? hc)
theorem WkD.lst {x : Bool} {sz : Nat} {es fs : List (List AVal)} (h : es = fs) (hp : pureEs fs = true) : WkD (.list x sz es) (.list false sz fs) := by
 subst h
 refine .list x false sz es es (fun h => by cases h) rfl (fun i e f h1 h2 => by rw [h1] at h2; cases h2; rfl) (fun i j f c hf hc => ?_) (fun i j e f d c h1 h2 h3 h4 => by rw [h1] at h2; cases h2; rw [h3] at h4; cases h4; exact .refl _)
 have := pureEs_get hp hf hc
 cases c <;> simp_all [AVal.isPure, AVal.isCell]
theorem iC_drop (k : Nat) (l : List Int) : List.drop k (iC l) = iC (l.drop k) := by rw [iC, iC, List.map_drop]
def zsV : List Zon := [⟨bs [122, 48], 60, []⟩, ⟨bs [122, 49], -300, [⟨145000, -240⟩, ⟨147000, -300⟩]⟩, ⟨bs [122, 50], 120, [⟨145450, 0⟩]⟩]
def ordC : List Col := [⟨bs [105, 100], 2, false⟩, ⟨bs [99], 3, false⟩, ⟨bs [97, 116], 4, false⟩, ⟨bs [118], 2, true⟩]
def cusC : List Col := [⟨bs [99], 3, false⟩, ⟨bs [97, 116], 4, false⟩, ⟨bs [114], 3, true⟩, ⟨bs [107], 2, false⟩]
def nlC (e : List Nod) : List AVal := [nL e]
theorem apply_t (x : Bool) (op : Int) (L : List (List Nod)) (hL : ∀ e ∈ L, e.length ≤ 1000) (hl : L.length ≤ 3) : DetR pr 14 [.int .i64 op, .list x 1 (mC nlC L)] 6 (fun es => es = mC nodC (L.flatten ++ [opN op])) := by
 refine detR_of_body k14.has ?_
 conv => whnf
 refine ⟨fun m ρ H1 => ∃ (k : Nat) (out : List Nod), k + m = L.length ∧ out = (L.take k).flatten ∧ out.length ≤ 1000 * k ∧ H1 = [.arr 6 (mC nodC out)] ∧ Sv 24 [(0, .int .i64 op), (1, .list x 1 (mC nlC L)), (5, .sl 0 out.length 0 out.length), (6, .int .i64 k)] ρ, L.length, [(5, 6)], fun i ρ H1 => i = 0 ∧ L.flatten.length ≤ 3000 ∧ H1 = [.arr 6 (mC nodC L.flatten)] ∧ Sv 24 [(0, .int .i64 op), (5, .sl 0 L.flatten.length 0 L.flatten.length)] ρ, ?_, ?_, ?_⟩
 ·exact ⟨0, [], by omega, rfl, by simp, rfl, Sv.intro rfl ⟨rfl, rfl, rfl, rfl, trivial⟩⟩
 ·rintro m ρ H1 ⟨k, out, hk, ho, ho1, rfl, d, rfl⟩
  repeat' ((conv => whnf); first | refine recT (sbeq (mC_length nodC out).symm) ?_ | refine And.intro (by have := hL _ (by assumption); exact ⟨by simp [roomB]; omega, by simp [roomB]; omega, rfl, (mC_length nodC out).symm⟩) ?_ | refine And.intro (by first | omega | (simp <;> omega) | (simp [roomB] <;> omega) | fail) ?_ | refine And.intro rfl ?_ | refine recO (map_at (by assumption)) ?_ | refine recOm (by omega) (fun x hx hm => ?_) | ((first | refine recAd (fun h => ?_) (fun h => ?_) | refine recAe (fun h => ?_) (fun h => ?_) | refine recAn (fun h => ?_) (fun h => ?_) | refine recNot (fun h => ?_) (fun h => ?_) | refine recA (fun h => ?_) (fun h => ?_)) <;> (try simp at h) <;> (try (exfalso; omega))))
  ·conv => whnf
   refine ⟨m - 1, by omega, Gp.cut (H := [.arr 6 (mC nodC (out ++ x))]) (by rw [mC_append]; rfl) ⟨lowP (mC_pure nod_pure _), trivial⟩ rfl rfl ?_ fun ρ1 h => ⟨k + 1, _, by omega, by rw [ho, take_succ' (by assumption), List.flatten_append, List.flatten_singleton], by have := hL _ (by assumption); simp; omega, rfl, h⟩⟩
   exact ⟨rfl, rfl, slEq (by simp) (by simp), intEq (nx1 (by omega)), trivial⟩
  ·have hk2 : k = L.length := by omega
   subst hk2
   rw [List.take_length] at ho
   subst ho
   conv => whnf
   refine Gp.cut (H := [.arr 6 (mC nodC L.flatten)]) rfl ⟨lowP (mC_pure nod_pure _), trivial⟩ rfl rfl ?_ fun ρ1 h => ⟨rfl, by omega, rfl, h⟩
   exact ⟨rfl, rfl, trivial⟩
 ·rintro i ρ1 H1 ⟨rfl, ho1, rfl, d, rfl⟩
  repeat' ((conv => whnf); first | refine recT (sbeq (mC_length nodC L.flatten).symm) ?_ | refine And.intro (⟨by simp [roomB, -List.length_flatten]; omega, by simp [roomB, -List.length_flatten]; omega, rfl, (mC_length nodC L.flatten).symm⟩) ?_ | refine And.intro (by first | omega | (simp <;> omega) | (simp [roomB] <;> omega) | fail) ?_ | refine And.intro rfl ?_ | refine recO (map_at (by assumption)) ?_ | refine recOm (by omega) (fun x hx hm => ?_) | ((first | refine recAd (fun h => ?_) (fun h => ?_) | refine recAe (fun h => ?_) (fun h => ?_) | refine recAn (fun h => ?_) (fun h => ?_) | refine recNot (fun h => ?_) (fun h => ?_) | refine recA (fun h => ?_) (fun h => ?_)) <;> (try simp at h) <;> (try (exfalso; omega))))
  all_goals (conv => whnf)
  exact ⟨_, _, mC nodC (L.flatten ++ [opN op]), rfl, by rw [mC_append]; rfl, by simp, mC_pure nod_pure _, rfl⟩
theorem app1_t (x : Bool) (op : Int) (e : List Nod) (h : e.length ≤ 1000) : DetR pr 14 [.int .i64 op, .list x 1 [[.list false 6 (mC nodC e)]]] 6 (fun es => es = mC nodC (e ++ [opN op])) := (apply_t x op [e] (by simpa using h) (by simp)).mono fun es h => by simpa using h
theorem app2_t (x : Bool) (op : Int) (e f : List Nod) (h : e.length ≤ 1000) (h2 : f.length ≤ 1000) : DetR pr 14 [.int .i64 op, .list x 1 [[.list false 6 (mC nodC e)], [.list false 6 (mC nodC f)]]] 6 (fun es => es = mC nodC (e ++ f ++ [opN op])) := (apply_t x op [e, f] (by simp; exact ⟨h, h2⟩) (by simp)).mono fun es h => by simpa using h
theorem app3_t (x : Bool) (op : Int) (e f g : List Nod) (h : e.length ≤ 1000) (h2 : f.length ≤ 1000) (h3 : g.length ≤ 1000) : DetR pr 14 [.int .i64 op, .list x 1 [[.list false 6 (mC nodC e)], [.list false 6 (mC nodC f)], [.list false 6 (mC nodC g)]]] 6 (fun es => es = mC nodC (e ++ f ++ g ++ [opN op])) := (apply_t x op [e, f, g] (by simp; exact ⟨h, h2, h3⟩) (by simp)).mono fun es h => by simpa using h
theorem constant_t (v : V) : DetR pr 36 [.agg (valC v)] 6 (fun es => es = mC nodC [⟨0, v, bs [], 0⟩]) := by
 refine detR_of_body k36.has ?_
 conv => whnf
 exact ⟨_, _, _, rfl, rfl, rfl, rfl, rfl⟩
def CzK (cs : List Col) : Prop := cs.length ≤ 1000 ∧ (∀ c ∈ cs, nameB c.name = true ∧ resB c.name = false ∧ c.name.size ≤ 24 ∧ 1 ≤ c.kind ∧ c.kind ≤ 4) ∧ ∀ a ∈ cs, ∀ b ∈ cs, named b.name a = true → a = b
def EOk (cs : List Col) (kind : Int) (N : Nat) (h : Int) (es : List (List AVal)) : Prop := ∃ e, es = mC nodC e ∧ ExK cs kind N h e
theorem ExK.cst {cs : List Col} {kind : Int} {v : V} (hv : validB v = true) (hk : v.kind = kind ∨ v.kind = 0) : ExK cs kind 1 1 [⟨0, v, bs [], 0⟩] :=
 ⟨(v.kind, v.kind == 0), hk, .n0 ⟨rfl, (by decide : (0 : Int) ≤ 0 ∧ (0 : Int) ≤ 20), fun _ => ⟨rfl, hv⟩, fun h => absurd rfl h, fun _ _ => rfl, fun h => by simp at h, fun h => by simp at h⟩ rfl rfl⟩
theorem idxOf_get {α : Type} (p : α → Bool) : ∀ (l : List α) (i : Int), l.any p = true → ∃ (k : Nat) (a : α), idxOf p l i = i + k ∧ l[k]? = some a ∧ p a = true
 | [], i, h => by simp at h
 | c :: cs, i, h => by
  rw [idxOf]
  by_cases hc : p c = true
  ·exact ⟨0, c, by rw [if_pos hc]; simp, rfl, hc⟩
  ·rw [List.any_cons, Bool.or_eq_true] at h
   obtain ⟨k, a, h1, h2, h3⟩ := idxOf_get p cs (i + 1) (h.resolve_left hc)
   exact ⟨k + 1, a, by rw [if_neg hc, h1]; omega, by simpa using h2, h3⟩
theorem ExK.col {cs : List Col} (hcs : CzK cs) {kind : Int} {c : Col} (hc : c ∈ cs) (hk : c.kind = kind) : ExK cs kind 1 1 [⟨1, ⟨0, 0, bs []⟩, c.name, 0⟩] := by
 obtain ⟨h1, h2, h3, h4, h5⟩ := hcs.2.1 c hc
 obtain ⟨k, a, q1, q2, q3⟩ := idxOf_get (named c.name) cs 0 (List.any_eq_true.2 ⟨c, hc, by unfold named; exact beq_self_eq_true _⟩)
 obtain rfl := hcs.2.2 a (List.mem_of_getElem? q2) c hc q3
 have hx : colIdx cs a.name = k := by unfold colIdx; omega
 refine ⟨(a.kind, a.nul), .inl hk, .n0 ⟨rfl, (by decide : (0 : Int) ≤ 1 ∧ (1 : Int) ≤ 20), fun h => by simp at h, fun _ => rfl, fun h => absurd rfl h, fun _ => ⟨h1, h2, h3⟩, fun h => by simp at h⟩ rfl ?_⟩
 show (if 0 ≤ colIdx cs a.name then (cs[(colIdx cs a.name).toNat]?).map fun c => (c.kind, c.nul) else none) = _
 rw [hx, if_pos (by omega), show ((k : Int)).toNat = k from rfl, q2]; rfl
theorem leaf_t (f : Bool) {kind : Int} (hk : 1 ≤ kind ∧ kind ≤ 4) {cs : List Col} (hcs : CzK cs) (n : Int) (h0 : 0 ≤ n) (h9 : n ≤ 100000000) :
  DetR pr 13 [.int .i64 kind, .list f 3 (cC cs), .int .i64 n] 6 (EOk cs kind 1 1) := by
 have hc := hcs.1
 have hcl := cC_length cs
 have hq := quo0 h0 h9 (k := 4) (by decide)
 refine detR_of_body k13.has ?_
 conv => whnf
 refine ⟨fun m ρ H1 => ∃ k : Nat, k + m = cs.length ∧ H1 = [] ∧ Sv 48 [(0, .int .i64 kind), (1, .list f 3 (cC cs)), (2, .int .i64 n), (7, .int .i64 k)] ρ, cs.length, [], fun i ρ H1 => i = 0 ∧ H1 = [] ∧ Sv 48 [(0, .int .i64 kind), (2, .int .i64 n)] ρ, ?_, ?_, ?_⟩
 ·exact ⟨0, by omega, rfl, Sv.intro rfl ⟨rfl, rfl, rfl, rfl, trivial⟩⟩
 ·rintro m ρ H1 ⟨k, hk, rfl, d, rfl⟩
  rcases Nat.lt_or_ge k cs.length with hkl | hkl
  ·have hb := modI (n := IntKind.i64.wrap (IntKind.i64.wrap (n.tdiv 4) + k)) (m := (cC cs).length) (by rw [wrapI _ (by omega) (by omega)]; omega) (by omega)
   repeat' ((conv => whnf); first | refine And.intro (by first | omega | (simp <;> omega) | (simp [roomB] <;> omega) | fail) ?_ | refine And.intro rfl ?_ | refine recO (map_at (by assumption)) ?_ | refine recOm (by omega) (fun x hx hm => ?_) | ((first | refine recAd (fun h => ?_) (fun h => ?_) | refine recAe (fun h => ?_) (fun h => ?_) | refine recAn (fun h => ?_) (fun h => ?_) | refine recNot (fun h => ?_) (fun h => ?_) | refine recA (fun h => ?_) (fun h => ?_)) <;> (try simp at h) <;> (try (exfalso; omega))))
   any_goals ((conv => whnf); first | (refine ⟨_, _, _, rfl, rfl, rfl, rfl, [⟨1, ⟨0, 0, bs []⟩, x.name, 0⟩], rfl, ExK.col hcs (by assumption) (by assumption)⟩) | (refine ⟨m - 1, by omega, Gp.cut (H := []) rfl trivial rfl rfl ?_ fun ρ1 h => ⟨k + 1, by omega, rfl, h⟩⟩; exact ⟨rfl, rfl, rfl, intEq (nx1 (by omega)), trivial⟩) | (refine Gp.cut (H := []) rfl trivial rfl rfl ?_ fun ρ1 h => ⟨rfl, rfl, h⟩; exact ⟨rfl, rfl, trivial⟩))
  ·repeat' ((conv => whnf); first | refine And.intro (by first | omega | (simp <;> omega) | (simp [roomB] <;> omega) | fail) ?_ | refine And.intro rfl ?_ | refine recO (map_at (by assumption)) ?_ | refine recOm (by omega) (fun x hx hm => ?_) | ((first | refine recAd (fun h => ?_) (fun h => ?_) | refine recAe (fun h => ?_) (fun h => ?_) | refine recAn (fun h => ?_) (fun h => ?_) | refine recNot (fun h => ?_) (fun h => ?_) | refine recA (fun h => ?_) (fun h => ?_)) <;> (try simp at h) <;> (try (exfalso; omega))))
   any_goals ((conv => whnf); first | (refine Gp.cut (H := []) rfl trivial rfl rfl ?_ fun ρ1 h => ⟨rfl, rfl, h⟩; exact ⟨rfl, rfl, trivial⟩))
 ·rintro i ρ1 H1 ⟨rfl, rfl, d, rfl⟩
  repeat' ((conv => whnf); first | ((first | refine DetS.use (DetS.of (Value_spec kind _)) (fun r hr => ?_) | refine DetS.draw (DetS.of (Value_spec kind _)) (fun r hr => ?_)); obtain rfl := hr) | refine DetR.own (constant_t (valueV kind _)) rfl (fun es hes hp => ?_) | refine DetR.own (constant_t ⟨0, 0, bs []⟩) rfl (fun es hes hp => ?_) | refine And.intro (by first | omega | (simp <;> omega) | (simp [roomB] <;> omega) | fail) ?_ | refine And.intro rfl ?_ | refine recO (map_at (by assumption)) ?_ | refine recOm (by omega) (fun x hx hm => ?_) | ((first | refine recAd (fun h => ?_) (fun h => ?_) | refine recAe (fun h => ?_) (fun h => ?_) | refine recAn (fun h => ?_) (fun h => ?_) | refine recNot (fun h => ?_) (fun h => ?_) | refine recA (fun h => ?_) (fun h => ?_)) <;> (try simp at h) <;> (try (exfalso; omega))))
  any_goals ((conv => whnf); first | exact ⟨_, _, _, rfl, rfl, rfl, hp, _, hes, ExK.cst (valueV_valid _ _) (.inl (valueV_kind _ hk))⟩ | exact ⟨_, _, _, rfl, rfl, rfl, hp, _, hes, ExK.cst rfl (.inr rfl)⟩)
theorem ExK.le {cs : List Col} {k : Int} {N : Nat} {h : Int} {e : List Nod} (x : ExK cs k N h e) : e.length ≤ N := by
 obtain ⟨a, ha, x⟩ := x
 exact x.len
theorem zones_t : DetS pr 10 [] (fun r => r = zoL zsV) := by
 refine DetS.wk (R := zoL zsV) ?_ rfl
 refine dets_of_body k10.has rfl ?_
 conv => whnf
 exact ⟨_, .closed _ rfl, WkD.rows (by exact ⟨⟨rfl, rfl, .cons (.refl _) (.cons (.refl _) (.cons (.nil _ _) .nil))⟩, ⟨rfl, rfl, .cons (.refl _) (.cons (.refl _) (.cons (.lst rfl rfl) .nil))⟩, ⟨rfl, rfl, .cons (.refl _) (.cons (.refl _) (.cons (.lst rfl rfl) .nil))⟩, trivial⟩)⟩
theorem zsV_ok : ZsOk zsV := by
 refine ⟨by decide, fun z hz => ?_⟩
 simp only [zsV, List.mem_cons, List.not_mem_nil, or_false] at hz
 rcases hz with rfl | rfl | rfl
 ·exact ⟨by decide, by decide, fun s h => by simp at h, fun k s t h => by simp at h⟩
 ·refine ⟨by decide, by decide, fun s h => ?_, fun k s t h h2 => ?_⟩
  ·simp only [List.mem_cons, List.not_mem_nil, or_false] at h
   rcases h with rfl | rfl <;> decide
  ·rcases k with _ | k
   ·cases h; cases h2; decide
   ·rcases k with _ | k <;> simp at h2
 ·refine ⟨by decide, by decide, fun s h => ?_, fun k s t h h2 => ?_⟩
  ·simp only [List.mem_cons, List.not_mem_nil, or_false] at h
   rcases h with rfl; decide
  ·rcases k with _ | k <;> simp at h2
theorem zsV_has : ∀ s ∈ zNm, zHas zsV s = true := by
 intro s hs
 simp only [zNm, List.mem_cons, List.not_mem_nil, or_false] at hs
 rcases hs with rfl | rfl | rfl <;> decide
theorem unknown_t (x y : Bool) {e : List Nod} {cs : List Col} (hc : cs.length ≤ 100000) (hv : vldC cs = 0) {k : Kd} {N : Nat} {h : Int} (he : Ex cs e k N h) (hN : N ≤ 256) : DetS pr 17 [.list x 6 (mC nodC e), .list y 3 (mC colC cs)] (fun r => r = .bool (k.1 == 0)) := by
 obtain ⟨h', _, _, hh⟩ := he.hh
 have := he.len
 refine dets_of_body k17.has rfl ?_
 repeat' ((conv => whnf); first | ((first | refine DetS.use (zones_t) (fun r hr => ?_) | refine DetS.draw (zones_t) (fun r hr => ?_)); obtain rfl := hr) | ((first | refine DetS.use (type9_t x y false (by omega) (hh []) he.gd hc hv zsV_ok zsV_has (he.kk [])) (fun r hr => ?_) | refine DetS.draw (type9_t x y false (by omega) (hh []) he.gd hc hv zsV_ok zsV_has (he.kk [])) (fun r hr => ?_)); obtain rfl := hr) | refine And.intro (by first | omega | (simp <;> omega) | (simp [roomB] <;> omega) | fail) ?_ | refine And.intro rfl ?_ | refine recO (map_at (by assumption)) ?_ | refine recOm (by omega) (fun x hx hm => ?_) | ((first | refine recAd (fun h => ?_) (fun h => ?_) | refine recAe (fun h => ?_) (fun h => ?_) | refine recAn (fun h => ?_) (fun h => ?_) | refine recNot (fun h => ?_) (fun h => ?_) | refine recA (fun h => ?_) (fun h => ?_)) <;> (try simp at h) <;> (try (exfalso; omega))))
 all_goals ((conv => whnf); exact retB (by simp_all))
end Go.AW

namespace Go.AW
variable [Draws]
attribute [local irreducible] ACalls CallE CallS Gp
set_option maxRecDepth 20000
set_option maxHeartbeats 8000000
def EgOk (id : FuncId) (f g : Bool) (cs : List Col) (l : List Int) (d : Int) (A : Int) (N : Nat) (h : Int) : Prop :=
 ∀ (kind v : Int), 1 ≤ kind ∧ kind ≤ 4 → (0 ≤ v ∧ v ≤ A) → DetR pr id [.int .i64 kind, .list f 3 (cC cs), .list g 1 (iC l), .int .i64 v, .int .i64 d] 6 (EOk cs kind N h)
theorem ExK.l1 {cs : List Col} {k : Int} {N : Nat} {h : Int} {e : List Nod} (x : ExK cs k N h e) (hN : N ≤ 200) : e.length ≤ 1000 := Nat.le_trans x.le (by omega)
theorem EOk.cast {cs : List Col} {k k' : Int} {N M : Nat} {h h' : Int} {es : List (List AVal)} (e : k = k') (x : EOk cs k' N h es) (hN : N ≤ M) (hh : h ≤ h') : EOk cs k M h' es := by
 subst e
 obtain ⟨e, h1, h2⟩ := x
 exact ⟨e, h1, h2.mono hN hh⟩
theorem ExK.dif2 {cs : List Col} {N : Nat} {z : Int} {e1 e2 : List Nod} {c : Kd} (y : ExK cs 4 N z e1) (x : Ex cs e2 c N z) (hh : z ≤ 63) (h1 : c.1 = 4 ∨ c.1 = 0) (h2 : ¬ c.1 = 0) : ExK cs 2 (2 * N + 1) (z + 1) (e1 ++ e2 ++ [opN 5]) := .dif (by omega) y x hh
theorem ExK.mov2 {cs : List Col} {N : Nat} {z : Int} {op : Int} {e1 e2 : List Nod} {c : Kd} (ho : op = 4 ∨ op = 5) (x : Ex cs e1 c N z) (y : ExK cs 2 N z e2) (hh : z ≤ 63) (h1 : c.1 = 4 ∨ c.1 = 0) (h2 : ¬ c.1 = 0) : ExK cs 4 (2 * N + 1) (z + 1) (e1 ++ e2 ++ [opN op]) := .mov ho (by omega) x y hh
theorem kd14 {n : Int} (h0 : 0 ≤ n) : 1 ≤ IntKind.i64.wrap (1 + n.tmod 4) ∧ IntKind.i64.wrap (1 + n.tmod 4) ≤ 4 := by
 have h1 := Int.tmod_nonneg 4 h0
 have h2 := Int.tmod_lt_of_pos n (show (0 : Int) < 4 by decide)
 rw [wrapI _ (by omega) (by omega)]
 omega
theorem logical_t (f g : Bool) {cs : List Col} (l : List Int) {d : Int} {A : Int} {N : Nat} {h : Int} (hN : N ≤ 200) (hh : h ≤ 63) (hE : EgOk 5 f g cs l (IntKind.i64.wrap (d - 1)) A N h) (at' : Int) (h0 : 0 ≤ at') (h9 : at' ≤ 100000000) (hA : 3 * at' + 3 ≤ A) :
  DetR pr 15 [.list f 3 (cC cs), .list g 1 (iC l), .int .i64 at', .int .i64 d] 6 (EOk cs 1 (3 * N + 1) (h + 1)) := by
 have hat := atV_bounds l at'
 have hkd := kd14 (quo0 hat.1 (by omega) (k := 16) (by decide)).1
 have hop : 10 ≤ IntKind.i64.wrap (10 + (atV l at').tmod 4) ∧ IntKind.i64.wrap (10 + (atV l at').tmod 4) ≤ 13 := by
  have h1 := Int.tmod_nonneg 4 hat.1
  have h2 := Int.tmod_lt_of_pos (atV l at') (show (0 : Int) < 4 by decide)
  rw [wrapI _ (by omega) (by omega)]
  omega
 refine detR_of_body k15.has ?_
 repeat' ((conv => whnf); first | ((first | refine DetS.use (DetS.of (At_spec g l _)) (fun r hr => ?_) | refine DetS.draw (DetS.of (At_spec g l _)) (fun r hr => ?_)); obtain rfl := hr) | ((first | refine DetS.use ((hE _ _ (by first | decide | exact hkd | assumption) (by first | exact posF h0 h9 hA (by decide) (by decide) (by decide) (by decide) | (apply posF h0 h9 hA <;> decide))).frz rfl) (fun r hr => ?_) | refine DetS.draw ((hE _ _ (by first | decide | exact hkd | assumption) (by first | exact posF h0 h9 hA (by decide) (by decide) (by decide) (by decide) | (apply posF h0 h9 hA <;> decide))).frz rfl) (fun r hr => ?_)); obtain ⟨es, rfl, e, rfl, he⟩ := hr) | (refine DetR.own (by first | exact app3_t true _ _ _ _ (ExK.l1 (by assumption) hN) (ExK.l1 (by assumption) hN) (ExK.l1 (by assumption) hN) | exact app2_t true _ _ _ (ExK.l1 (by assumption) hN) (ExK.l1 (by assumption) hN) | exact app1_t true _ _ (ExK.l1 (by assumption) hN)) rfl (fun es hes hp => ?_)) | refine And.intro (by first | omega | (simp <;> omega) | (simp [roomB] <;> omega) | fail) ?_ | refine And.intro rfl ?_ | refine recO (map_at (by assumption)) ?_ | refine recOm (by omega) (fun x hx hm => ?_) | ((first | refine recAd (fun h => ?_) (fun h => ?_) | refine recAe (fun h => ?_) (fun h => ?_) | refine recAn (fun h => ?_) (fun h => ?_) | refine recNot (fun h => ?_) (fun h => ?_) | refine recA (fun h => ?_) (fun h => ?_)) <;> (try simp at h) <;> (try (exfalso; omega))))
 any_goals ((conv => whnf); first | exact ⟨_, _, _, rfl, rfl, rfl, hp, _, hes, (ExK.not (by assumption) hh).mono (by omega) (by omega)⟩ | exact ⟨_, _, _, rfl, rfl, rfl, hp, _, hes, (ExK.lgc (.inl rfl) (by assumption) (by assumption) hh).mono (by omega) (by omega)⟩ | exact ⟨_, _, _, rfl, rfl, rfl, hp, _, hes, (ExK.lgc (.inr rfl) (by assumption) (by assumption) hh).mono (by omega) (by omega)⟩ | exact ⟨_, _, _, rfl, rfl, rfl, hp, _, hes, (ExK.isn (by assumption) hh).mono (by omega) (by omega)⟩ | exact ⟨_, _, _, rfl, rfl, rfl, hp, _, hes, (ExK.cmp hop (by assumption) (by assumption) hh).mono (by omega) (by omega)⟩ | fail)
theorem numeric_t (f g : Bool) {cs : List Col} (hcs : CzK cs) (hv : vldC cs = 0) (l : List Int) {d : Int} {A : Int} {N : Nat} {zz : Int} (hN : N ≤ 200) (hh : zz ≤ 63) (hE : EgOk 5 f g cs l (IntKind.i64.wrap (d - 1)) A N zz) (h1h : 1 ≤ zz) (at' : Int) (h0 : 0 ≤ at') (h9 : at' ≤ 100000000) (hA : 3 * at' + 3 ≤ A) :
  DetR pr 16 [.list f 3 (cC cs), .list g 1 (iC l), .int .i64 at', .int .i64 d] 6 (EOk cs 2 (3 * N + 1) (zz + 1)) := by
 have hat := atV_bounds l at'
 have hc := hcs.1
 have hkd : (1 : Int) ≤ 1 ∧ (1 : Int) ≤ 4 := by decide
 obtain ⟨s, hs, hs2⟩ := pick3 (n := (IntKind.i64.wrap ((atV l at').tdiv 9)).tmod 3) (Int.tmod_nonneg _ (quo0 hat.1 (by omega) (by decide)).1) (Int.tmod_lt_of_pos _ (by decide)) (bs [122, 48]) (bs [122, 49]) (bs [122, 50])
 have hb : 0 ≤ (IntKind.i64.wrap ((atV l at').tdiv 9)).tmod 3 := Int.tmod_nonneg _ (quo0 hat.1 (by omega) (by decide)).1
 have hsz : s ∈ zNm := by rcases hs2 with rfl | rfl | rfl <;> simp [zNm]
 have hop : 4 ≤ IntKind.i64.wrap (4 + (IntKind.i64.wrap ((atV l at').tdiv 9)).tmod 5) ∧ IntKind.i64.wrap (4 + (IntKind.i64.wrap ((atV l at').tdiv 9)).tmod 5) ≤ 8 := by
  have q := (quo0 hat.1 (by omega) (k := 9) (by decide)).1
  have h1 := Int.tmod_nonneg 5 q
  have h2 := Int.tmod_lt_of_pos (IntKind.i64.wrap ((atV l at').tdiv 9)) (show (0 : Int) < 5 by decide)
  rw [wrapI _ (by omega) (by omega)]
  omega
 refine detR_of_body k16.has ?_
 repeat' ((conv => whnf); first | ((first | refine DetS.use (DetS.of (At_spec g l _)) (fun r hr => ?_) | refine DetS.draw (DetS.of (At_spec g l _)) (fun r hr => ?_)); obtain rfl := hr) | refine And.intro (by first | omega | (simp <;> omega) | (simp [roomB] <;> omega) | fail) ?_ | refine And.intro rfl ?_ | refine recO (map_at (by assumption)) ?_ | refine recOm (by omega) (fun x hx hm => ?_) | ((first | refine recAd (fun h => ?_) (fun h => ?_) | refine recAe (fun h => ?_) (fun h => ?_) | refine recAn (fun h => ?_) (fun h => ?_) | refine recNot (fun h => ?_) (fun h => ?_) | refine recA (fun h => ?_) (fun h => ?_)) <;> (try simp at h) <;> (try (exfalso; omega))))
 ·repeat' ((conv => whnf); first | ((first | refine DetS.use ((hE _ _ (by first | decide | exact hkd | assumption) (by first | exact posF h0 h9 hA (by decide) (by decide) (by decide) (by decide) | (apply posF h0 h9 hA <;> decide))).frz rfl) (fun r hr => ?_) | refine DetS.draw ((hE _ _ (by first | decide | exact hkd | assumption) (by first | exact posF h0 h9 hA (by decide) (by decide) (by decide) (by decide) | (apply posF h0 h9 hA <;> decide))).frz rfl) (fun r hr => ?_)); obtain ⟨es, rfl, e, rfl, he⟩ := hr) | (refine DetR.own (by first | exact app3_t true _ _ _ _ (ExK.l1 (by assumption) hN) (ExK.l1 (by assumption) hN) (ExK.l1 (by assumption) hN) | exact app2_t true _ _ _ (ExK.l1 (by assumption) hN) (ExK.l1 (by assumption) hN) | exact app1_t true _ _ (ExK.l1 (by assumption) hN)) rfl (fun es hes hp => ?_)) | refine And.intro (by first | omega | (simp <;> omega) | (simp [roomB] <;> omega) | fail) ?_ | refine And.intro rfl ?_ | refine recO (map_at (by assumption)) ?_ | refine recOm (by omega) (fun x hx hm => ?_) | ((first | refine recAd (fun h => ?_) (fun h => ?_) | refine recAe (fun h => ?_) (fun h => ?_) | refine recAn (fun h => ?_) (fun h => ?_) | refine recNot (fun h => ?_) (fun h => ?_) | refine recA (fun h => ?_) (fun h => ?_)) <;> (try simp at h) <;> (try (exfalso; omega))))
  any_goals ((conv => whnf); first | exact ⟨_, _, _, rfl, rfl, rfl, hp, _, hes, (ExK.neg (by assumption) hh).mono (by omega) (by omega)⟩ | fail)
 ·repeat' ((conv => whnf); first | ((first | refine DetS.use ((hE _ _ (by first | decide | exact hkd | assumption) (by first | exact posF h0 h9 hA (by decide) (by decide) (by decide) (by decide) | (apply posF h0 h9 hA <;> decide))).frz rfl) (fun r hr => ?_) | refine DetS.draw ((hE _ _ (by first | decide | exact hkd | assumption) (by first | exact posF h0 h9 hA (by decide) (by decide) (by decide) (by decide) | (apply posF h0 h9 hA <;> decide))).frz rfl) (fun r hr => ?_)); obtain ⟨es, rfl, e, rfl, he⟩ := hr) | (refine DetR.own (by first | exact app3_t true _ _ _ _ (ExK.l1 (by assumption) hN) (ExK.l1 (by assumption) hN) (ExK.l1 (by assumption) hN) | exact app2_t true _ _ _ (ExK.l1 (by assumption) hN) (ExK.l1 (by assumption) hN) | exact app1_t true _ _ (ExK.l1 (by assumption) hN)) rfl (fun es hes hp => ?_)) | refine And.intro (by first | omega | (simp <;> omega) | (simp [roomB] <;> omega) | fail) ?_ | refine And.intro rfl ?_ | refine recO (map_at (by assumption)) ?_ | refine recOm (by omega) (fun x hx hm => ?_) | ((first | refine recAd (fun h => ?_) (fun h => ?_) | refine recAe (fun h => ?_) (fun h => ?_) | refine recAn (fun h => ?_) (fun h => ?_) | refine recNot (fun h => ?_) (fun h => ?_) | refine recA (fun h => ?_) (fun h => ?_)) <;> (try simp at h) <;> (try (exfalso; omega))))
  any_goals ((conv => whnf); first | exact ⟨_, _, _, rfl, rfl, rfl, hp, _, hes, (ExK.len (by assumption) hh).mono (by omega) (by omega)⟩ | fail)
 ·repeat' (first | refine idxA_intro (hs) ?_ | ((conv => whnf); first | refine And.intro hb ?_ | refine And.intro (by (conv => whnf); exact And.intro hb (idxA_intro hs rfl)) ?_ | (refine DetR.own (hE _ _ (by decide) (by first | exact posF h0 h9 hA (by decide) (by decide) (by decide) (by decide) | (apply posF h0 h9 hA <;> decide))) rfl (fun es hes hp => ?_); obtain ⟨e, rfl, he⟩ := hes; have he1 := he.le) | refine recT (sbeq (mC_length nodC e).symm) ?_ | refine And.intro (⟨by simp [roomB]; omega, by simp [roomB]; omega, rfl, rfl⟩) ?_ | refine And.intro (by omega) ?_ | refine And.intro (by first | omega | (simp <;> omega) | (simp [roomB] <;> omega) | fail) ?_ | refine And.intro rfl ?_ | refine recO (map_at (by assumption)) ?_ | refine recOm (by omega) (fun x hx hm => ?_) | ((first | refine recAd (fun h => ?_) (fun h => ?_) | refine recAe (fun h => ?_) (fun h => ?_) | refine recAn (fun h => ?_) (fun h => ?_) | refine recNot (fun h => ?_) (fun h => ?_) | refine recA (fun h => ?_) (fun h => ?_)) <;> (try simp at h) <;> (try (exfalso; omega)))))
  all_goals (conv => whnf)
  have hk : mC nodC e ++ [[.int .i64 20, .int .i64 0, .int .i64 0, .str (bs []), .str s, .int .i64 0]] = mC nodC (e ++ [⟨20, ⟨0, 0, bs []⟩, s, 0⟩]) := by rw [mC_append]; rfl
  exact ⟨_, _, _, rfl, rfl, rfl, by rw [← pureEs_iC (l := [])]; rw [pureEs_iC]; exact (congrArg pureEs hk).trans (mC_pure nod_pure _), _, hk, (ExK.day he hh hsz).mono (by omega) (by omega)⟩
 ·repeat' ((conv => whnf); first | (((first | refine DetS.use ((hE _ _ (by decide) (by first | exact posF h0 h9 hA (by decide) (by decide) (by decide) (by decide) | (apply posF h0 h9 hA <;> decide))).frz rfl) (fun r hr => ?_) | refine DetS.draw ((hE _ _ (by decide) (by first | exact posF h0 h9 hA (by decide) (by decide) (by decide) (by decide) | (apply posF h0 h9 hA <;> decide))).frz rfl) (fun r hr => ?_)); obtain ⟨es, rfl, e, rfl, ky, hky, hey⟩ := hr); have he : ExK cs 4 N zz e := ⟨ky, hky, hey⟩) | ((first | refine DetS.use (unknown_t false f (by omega) hv (by assumption) (by omega)) (fun r hr => ?_) | refine DetS.draw (unknown_t false f (by omega) hv (by assumption) (by omega)) (fun r hr => ?_)); obtain rfl := hr) | (refine DetR.own (by first | exact app3_t true _ _ _ _ (ExK.l1 (by assumption) hN) (ExK.l1 (by assumption) hN) (ExK.l1 (by assumption) hN) | exact app2_t true _ _ _ (ExK.l1 (by assumption) hN) (ExK.l1 (by assumption) hN) | exact app1_t true _ _ (ExK.l1 (by assumption) hN)) rfl (fun es hes hp => ?_)) | (refine DetR.own (leaf_t f (by first | decide | assumption) hcs _ (quo0 hat.1 (by omega) (by decide)).1 (Int.le_trans (quo0 hat.1 (by omega) (by decide)).2 (by omega))) rfl (fun es hes hp => ?_)) | refine And.intro (by first | omega | (simp <;> omega) | (simp [roomB] <;> omega) | fail) ?_ | refine And.intro rfl ?_ | refine recO (map_at (by assumption)) ?_ | refine recOm (by omega) (fun x hx hm => ?_) | ((first | refine recAd (fun h => ?_) (fun h => ?_) | refine recAe (fun h => ?_) (fun h => ?_) | refine recAn (fun h => ?_) (fun h => ?_) | refine recNot (fun h => ?_) (fun h => ?_) | refine recA (fun h => ?_) (fun h => ?_)) <;> (try simp at h) <;> (try (exfalso; omega))))
  any_goals ((conv => whnf); first | exact ⟨_, _, _, rfl, rfl, rfl, hp, EOk.cast rfl hes (by omega) (by omega)⟩ | exact ⟨_, _, _, rfl, rfl, rfl, hp, _, hes, (ExK.dif2 (by assumption) (by assumption) hh (by assumption) (by assumption)).mono (by omega) (by omega)⟩ | fail)
 ·repeat' ((conv => whnf); first | ((first | refine DetS.use ((hE _ _ (by first | decide | exact hkd | assumption) (by first | exact posF h0 h9 hA (by decide) (by decide) (by decide) (by decide) | (apply posF h0 h9 hA <;> decide))).frz rfl) (fun r hr => ?_) | refine DetS.draw ((hE _ _ (by first | decide | exact hkd | assumption) (by first | exact posF h0 h9 hA (by decide) (by decide) (by decide) (by decide) | (apply posF h0 h9 hA <;> decide))).frz rfl) (fun r hr => ?_)); obtain ⟨es, rfl, e, rfl, he⟩ := hr) | (refine DetR.own (by first | exact app3_t true _ _ _ _ (ExK.l1 (by assumption) hN) (ExK.l1 (by assumption) hN) (ExK.l1 (by assumption) hN) | exact app2_t true _ _ _ (ExK.l1 (by assumption) hN) (ExK.l1 (by assumption) hN) | exact app1_t true _ _ (ExK.l1 (by assumption) hN)) rfl (fun es hes hp => ?_)) | refine And.intro (by first | omega | (simp <;> omega) | (simp [roomB] <;> omega) | fail) ?_ | refine And.intro rfl ?_ | refine recO (map_at (by assumption)) ?_ | refine recOm (by omega) (fun x hx hm => ?_) | ((first | refine recAd (fun h => ?_) (fun h => ?_) | refine recAe (fun h => ?_) (fun h => ?_) | refine recAn (fun h => ?_) (fun h => ?_) | refine recNot (fun h => ?_) (fun h => ?_) | refine recA (fun h => ?_) (fun h => ?_)) <;> (try simp at h) <;> (try (exfalso; omega))))
  any_goals ((conv => whnf); first | exact ⟨_, _, _, rfl, rfl, rfl, hp, _, hes, (ExK.ari hop (by assumption) (by assumption) hh).mono (by omega) (by omega)⟩ | fail)
theorem expr_zero (f g : Bool) {cs : List Col} (hcs : CzK cs) (l : List Int) : EgOk 5 f g cs l 0 100000000 1 1 := by
 rintro kind at' hkd ⟨h0, h9⟩
 have hat := atV_bounds l at'
 refine detR_of_body k5.has ?_
 repeat' ((conv => whnf); first | ((first | refine DetS.use (DetS.of (At_spec g l _)) (fun r hr => ?_) | refine DetS.draw (DetS.of (At_spec g l _)) (fun r hr => ?_)); obtain rfl := hr) | (refine DetR.own (leaf_t f (by first | decide | assumption) hcs _ (quo0 hat.1 (by omega) (by decide)).1 (Int.le_trans (quo0 hat.1 (by omega) (by decide)).2 (by omega))) rfl (fun es hes hp => ?_)) | refine And.intro (by first | omega | (simp <;> omega) | (simp [roomB] <;> omega) | fail) ?_ | refine And.intro rfl ?_ | refine recO (map_at (by assumption)) ?_ | refine recOm (by omega) (fun x hx hm => ?_) | ((first | refine recAd (fun h => ?_) (fun h => ?_) | refine recAe (fun h => ?_) (fun h => ?_) | refine recAn (fun h => ?_) (fun h => ?_) | refine recNot (fun h => ?_) (fun h => ?_) | refine recA (fun h => ?_) (fun h => ?_)) <;> (try simp at h) <;> (try (exfalso; omega))))
 all_goals ((conv => whnf); exact ⟨_, _, _, rfl, rfl, rfl, hp, hes⟩)
theorem expr_step (f g : Bool) {cs : List Col} (hcs : CzK cs) (hv : vldC cs = 0) (l : List Int) {d A B : Int} {N : Nat} {zz : Int} (hN : N ≤ 200) (hh : zz ≤ 63) (h1h : 1 ≤ zz) (hd : 1 ≤ d) (hE : EgOk 5 f g cs l (IntKind.i64.wrap (d - 1)) A N zz) (hB : B ≤ 30000000) (hAB : 12 * B + 12 ≤ A) :
  EgOk 5 f g cs l d B (3 * N + 1) (zz + 1) := by
 rintro kind at' hkd ⟨h0, h9⟩
 have h9 : at' ≤ 100000000 := by omega
 have hA : 3 * at' + 3 ≤ A := by omega
 have hat := atV_bounds l at'
 have hc := hcs.1
 have hop : IntKind.i64.wrap (4 + (IntKind.i64.wrap ((atV l at').tdiv 5)).tmod 2) = 4 ∨ IntKind.i64.wrap (4 + (IntKind.i64.wrap ((atV l at').tdiv 5)).tmod 2) = 5 := by
  have q := (quo0 hat.1 (by omega) (k := 5) (by decide)).1
  have h1 := Int.tmod_nonneg 2 q
  have h2 := Int.tmod_lt_of_pos (IntKind.i64.wrap ((atV l at').tdiv 5)) (show (0 : Int) < 2 by decide)
  rw [wrapI _ (by omega) (by omega)]
  omega
 refine detR_of_body k5.has ?_
 repeat' ((conv => whnf); first | ((first | refine DetS.use (DetS.of (At_spec g l _)) (fun r hr => ?_) | refine DetS.draw (DetS.of (At_spec g l _)) (fun r hr => ?_)); obtain rfl := hr) | refine And.intro (by first | omega | (simp <;> omega) | (simp [roomB] <;> omega) | fail) ?_ | refine And.intro rfl ?_ | refine recO (map_at (by assumption)) ?_ | refine recOm (by omega) (fun x hx hm => ?_) | ((first | refine recAd (fun h => ?_) (fun h => ?_) | refine recAe (fun h => ?_) (fun h => ?_) | refine recAn (fun h => ?_) (fun h => ?_) | refine recNot (fun h => ?_) (fun h => ?_) | refine recA (fun h => ?_) (fun h => ?_)) <;> (try simp at h) <;> (try (exfalso; omega))))
 ·repeat' ((conv => whnf); first | (refine DetR.own (leaf_t f (by first | decide | assumption) hcs _ (quo0 hat.1 (by omega) (by decide)).1 (Int.le_trans (quo0 hat.1 (by omega) (by decide)).2 (by omega))) rfl (fun es hes hp => ?_)) | refine And.intro (by first | omega | (simp <;> omega) | (simp [roomB] <;> omega) | fail) ?_ | refine And.intro rfl ?_ | refine recO (map_at (by assumption)) ?_ | refine recOm (by omega) (fun x hx hm => ?_) | ((first | refine recAd (fun h => ?_) (fun h => ?_) | refine recAe (fun h => ?_) (fun h => ?_) | refine recAn (fun h => ?_) (fun h => ?_) | refine recNot (fun h => ?_) (fun h => ?_) | refine recA (fun h => ?_) (fun h => ?_)) <;> (try simp at h) <;> (try (exfalso; omega))))
  any_goals ((conv => whnf); first  | exact ⟨_, _, _, rfl, rfl, rfl, hp, EOk.cast rfl hes (by omega) (by omega)⟩ | fail)
 ·repeat' ((conv => whnf); first | ((first | refine DetS.use ((hE _ _ (by first | decide | exact hkd | assumption) (by first | exact posF h0 h9 hA (by decide) (by decide) (by decide) (by decide) | (apply posF h0 h9 hA <;> decide))).frz rfl) (fun r hr => ?_) | refine DetS.draw ((hE _ _ (by first | decide | exact hkd | assumption) (by first | exact posF h0 h9 hA (by decide) (by decide) (by decide) (by decide) | (apply posF h0 h9 hA <;> decide))).frz rfl) (fun r hr => ?_)); obtain ⟨es, rfl, e, rfl, he⟩ := hr) | (refine DetR.own (by first | exact app3_t true _ _ _ _ (ExK.l1 (by assumption) hN) (ExK.l1 (by assumption) hN) (ExK.l1 (by assumption) hN) | exact app2_t true _ _ _ (ExK.l1 (by assumption) hN) (ExK.l1 (by assumption) hN) | exact app1_t true _ _ (ExK.l1 (by assumption) hN)) rfl (fun es hes hp => ?_)) | refine And.intro (by first | omega | (simp <;> omega) | (simp [roomB] <;> omega) | fail) ?_ | refine And.intro rfl ?_ | refine recO (map_at (by assumption)) ?_ | refine recOm (by omega) (fun x hx hm => ?_) | ((first | refine recAd (fun h => ?_) (fun h => ?_) | refine recAe (fun h => ?_) (fun h => ?_) | refine recAn (fun h => ?_) (fun h => ?_) | refine recNot (fun h => ?_) (fun h => ?_) | refine recA (fun h => ?_) (fun h => ?_)) <;> (try simp at h) <;> (try (exfalso; omega))))
  any_goals ((conv => whnf); first | exact ⟨_, _, _, rfl, rfl, rfl, hp, _, hes, (ExK.iff (by assumption) (by assumption) (by assumption) hh).mono (by omega) (by omega)⟩ | fail)
 ·repeat' ((conv => whnf); first | ((first | refine DetS.use ((hE _ _ (by first | decide | exact hkd | assumption) (by first | exact posF h0 h9 hA (by decide) (by decide) (by decide) (by decide) | (apply posF h0 h9 hA <;> decide))).frz rfl) (fun r hr => ?_) | refine DetS.draw ((hE _ _ (by first | decide | exact hkd | assumption) (by first | exact posF h0 h9 hA (by decide) (by decide) (by decide) (by decide) | (apply posF h0 h9 hA <;> decide))).frz rfl) (fun r hr => ?_)); obtain ⟨es, rfl, e, rfl, he⟩ := hr) | (refine DetR.own (by first | exact app3_t true _ _ _ _ (ExK.l1 (by assumption) hN) (ExK.l1 (by assumption) hN) (ExK.l1 (by assumption) hN) | exact app2_t true _ _ _ (ExK.l1 (by assumption) hN) (ExK.l1 (by assumption) hN) | exact app1_t true _ _ (ExK.l1 (by assumption) hN)) rfl (fun es hes hp => ?_)) | refine And.intro (by first | omega | (simp <;> omega) | (simp [roomB] <;> omega) | fail) ?_ | refine And.intro rfl ?_ | refine recO (map_at (by assumption)) ?_ | refine recOm (by omega) (fun x hx hm => ?_) | ((first | refine recAd (fun h => ?_) (fun h => ?_) | refine recAe (fun h => ?_) (fun h => ?_) | refine recAn (fun h => ?_) (fun h => ?_) | refine recNot (fun h => ?_) (fun h => ?_) | refine recA (fun h => ?_) (fun h => ?_)) <;> (try simp at h) <;> (try (exfalso; omega))))
  any_goals ((conv => whnf); first | exact ⟨_, _, _, rfl, rfl, rfl, hp, _, hes, (ExK.coa (by assumption) (by assumption) hh).mono (by omega) (by omega)⟩ | fail)
 ·repeat' ((conv => whnf); first | (refine DetR.own (logical_t f g l hN hh hE _ (by have hq := posF (A := 3 * at' + 3) h0 h9 (Int.le_refl _) (k := 3) (j := 1) (by decide) (by decide) (by decide) (by decide); omega) (by have hq := posF (A := 3 * at' + 3) h0 h9 (Int.le_refl _) (k := 3) (j := 1) (by decide) (by decide) (by decide) (by decide); omega) (by have hq := posF (A := 3 * at' + 3) h0 h9 (Int.le_refl _) (k := 3) (j := 1) (by decide) (by decide) (by decide) (by decide); omega) ) rfl (fun es hes hp => ?_)) | refine And.intro (by first | omega | (simp <;> omega) | (simp [roomB] <;> omega) | fail) ?_ | refine And.intro rfl ?_ | refine recO (map_at (by assumption)) ?_ | refine recOm (by omega) (fun x hx hm => ?_) | ((first | refine recAd (fun h => ?_) (fun h => ?_) | refine recAe (fun h => ?_) (fun h => ?_) | refine recAn (fun h => ?_) (fun h => ?_) | refine recNot (fun h => ?_) (fun h => ?_) | refine recA (fun h => ?_) (fun h => ?_)) <;> (try simp at h) <;> (try (exfalso; omega))))
  any_goals ((conv => whnf); first | exact ⟨_, _, _, rfl, rfl, rfl, hp, EOk.cast (by assumption) hes (by omega) (by omega)⟩ | exact ⟨_, _, _, rfl, rfl, rfl, hp, EOk.cast rfl hes (by omega) (by omega)⟩ | fail)
 ·repeat' ((conv => whnf); first | (refine DetR.own (numeric_t f g hcs hv l hN hh hE h1h _ (by have hq := posF (A := 3 * at' + 3) h0 h9 (Int.le_refl _) (k := 3) (j := 1) (by decide) (by decide) (by decide) (by decide); omega) (by have hq := posF (A := 3 * at' + 3) h0 h9 (Int.le_refl _) (k := 3) (j := 1) (by decide) (by decide) (by decide) (by decide); omega) (by have hq := posF (A := 3 * at' + 3) h0 h9 (Int.le_refl _) (k := 3) (j := 1) (by decide) (by decide) (by decide) (by decide); omega) ) rfl (fun es hes hp => ?_)) | refine And.intro (by first | omega | (simp <;> omega) | (simp [roomB] <;> omega) | fail) ?_ | refine And.intro rfl ?_ | refine recO (map_at (by assumption)) ?_ | refine recOm (by omega) (fun x hx hm => ?_) | ((first | refine recAd (fun h => ?_) (fun h => ?_) | refine recAe (fun h => ?_) (fun h => ?_) | refine recAn (fun h => ?_) (fun h => ?_) | refine recNot (fun h => ?_) (fun h => ?_) | refine recA (fun h => ?_) (fun h => ?_)) <;> (try simp at h) <;> (try (exfalso; omega))))
  any_goals ((conv => whnf); first | exact ⟨_, _, _, rfl, rfl, rfl, hp, EOk.cast (by assumption) hes (by omega) (by omega)⟩ | exact ⟨_, _, _, rfl, rfl, rfl, hp, EOk.cast rfl hes (by omega) (by omega)⟩ | fail)
 ·repeat' ((conv => whnf); first | ((first | refine DetS.use ((hE _ _ (by first | decide | exact hkd | assumption) (by first | exact posF h0 h9 hA (by decide) (by decide) (by decide) (by decide) | (apply posF h0 h9 hA <;> decide))).frz rfl) (fun r hr => ?_) | refine DetS.draw ((hE _ _ (by first | decide | exact hkd | assumption) (by first | exact posF h0 h9 hA (by decide) (by decide) (by decide) (by decide) | (apply posF h0 h9 hA <;> decide))).frz rfl) (fun r hr => ?_)); obtain ⟨es, rfl, e, rfl, he⟩ := hr) | (refine DetR.own (by first | exact app3_t true _ _ _ _ (ExK.l1 (by assumption) hN) (ExK.l1 (by assumption) hN) (ExK.l1 (by assumption) hN) | exact app2_t true _ _ _ (ExK.l1 (by assumption) hN) (ExK.l1 (by assumption) hN) | exact app1_t true _ _ (ExK.l1 (by assumption) hN)) rfl (fun es hes hp => ?_)) | refine And.intro (by first | omega | (simp <;> omega) | (simp [roomB] <;> omega) | fail) ?_ | refine And.intro rfl ?_ | refine recO (map_at (by assumption)) ?_ | refine recOm (by omega) (fun x hx hm => ?_) | ((first | refine recAd (fun h => ?_) (fun h => ?_) | refine recAe (fun h => ?_) (fun h => ?_) | refine recAn (fun h => ?_) (fun h => ?_) | refine recNot (fun h => ?_) (fun h => ?_) | refine recA (fun h => ?_) (fun h => ?_)) <;> (try simp at h) <;> (try (exfalso; omega))))
  any_goals ((conv => whnf); first | exact ⟨_, _, _, rfl, rfl, rfl, hp, EOk.cast (k' := 3) (by assumption) ⟨_, hes, (ExK.cat (by assumption) (by assumption) hh)⟩ (by omega) (by omega)⟩ | fail)
 ·obtain rfl : kind = 4 := by omega
  repeat' ((conv => whnf); first | (refine DetR.own (hE _ _ (by decide) (by first | exact posF h0 h9 hA (by decide) (by decide) (by decide) (by decide) | (apply posF h0 h9 hA <;> decide))) rfl (fun es hes hp => ?_); obtain ⟨e, rfl, ke, hke, hey⟩ := hes; have he1 := hey.len) | (refine DetS.bor (unknown_t false f (by omega) hv hey (by omega)) (by rintro _ rfl; rfl) (.cons (lentS rfl rfl hp) (.cons (.same _ rfl) .nil)) (fun r hr => ?_); subst hr) | refine And.intro (by first | omega | (simp <;> omega) | (simp [roomB] <;> omega) | fail) ?_ | refine And.intro rfl ?_ | refine recO (map_at (by assumption)) ?_ | refine recOm (by omega) (fun x hx hm => ?_) | ((first | refine recAd (fun h => ?_) (fun h => ?_) | refine recAe (fun h => ?_) (fun h => ?_) | refine recAn (fun h => ?_) (fun h => ?_) | refine recNot (fun h => ?_) (fun h => ?_) | refine recA (fun h => ?_) (fun h => ?_)) <;> (try simp at h) <;> (try (exfalso; omega))))
  ·conv => whnf
   exact ⟨_, _, _, rfl, rfl, rfl, hp, EOk.cast rfl ⟨e, rfl, ke, hke, hey⟩ (by omega) (by omega)⟩
  conv => whnf
  refine Gp.none (live := [(0, .int .i64 4), (1, .list f 3 (cC cs)), (2, .list g 1 (iC l)), (3, .int .i64 at'), (4, .int .i64 d), (11, .int .i64 (atV l at')), (13, .int .i64 (IntKind.i64.wrap (IntKind.i64.wrap (3 * at') + 2))), (15, .list false 6 (mC nodC e))]) rfl ⟨.closed _ rfl, .closed _ rfl, .closed _ rfl, .closed _ rfl, .closed _ rfl, .closed _ rfl, .closed _ rfl, pubF rfl rfl rfl hp, trivial⟩ fun ρ1 h => ?_
  obtain ⟨dd, rfl⟩ := h
  have heK : ExK cs 4 N zz e := ⟨ke, hke, hey⟩
  repeat' ((conv => whnf); first | ((first | refine DetS.use ((hE _ _ (by first | decide | exact hkd | assumption) (by first | exact posF h0 h9 hA (by decide) (by decide) (by decide) (by decide) | (apply posF h0 h9 hA <;> decide))).frz rfl) (fun r hr => ?_) | refine DetS.draw ((hE _ _ (by first | decide | exact hkd | assumption) (by first | exact posF h0 h9 hA (by decide) (by decide) (by decide) (by decide) | (apply posF h0 h9 hA <;> decide))).frz rfl) (fun r hr => ?_)); obtain ⟨es, rfl, e, rfl, he⟩ := hr) | (refine DetR.own (by first | exact app3_t true _ _ _ _ (ExK.l1 (by assumption) hN) (ExK.l1 (by assumption) hN) (ExK.l1 (by assumption) hN) | exact app2_t true _ _ _ (ExK.l1 (by assumption) hN) (ExK.l1 (by assumption) hN) | exact app1_t true _ _ (ExK.l1 (by assumption) hN)) rfl (fun es hes hp => ?_)) | refine And.intro (by first | omega | (simp <;> omega) | (simp [roomB] <;> omega) | fail) ?_ | refine And.intro rfl ?_ | refine recO (map_at (by assumption)) ?_ | refine recOm (by omega) (fun x hx hm => ?_) | ((first | refine recAd (fun h => ?_) (fun h => ?_) | refine recAe (fun h => ?_) (fun h => ?_) | refine recAn (fun h => ?_) (fun h => ?_) | refine recNot (fun h => ?_) (fun h => ?_) | refine recA (fun h => ?_) (fun h => ?_)) <;> (try simp at h) <;> (try (exfalso; omega))))
  any_goals ((conv => whnf); exact ⟨_, _, _, rfl, rfl, rfl, hp, EOk.cast rfl ⟨_, hes, ExK.mov2 hop hey (by assumption) hh (by assumption) (by assumption)⟩ (by omega) (by omega)⟩)
theorem expr_t (f g : Bool) {cs : List Col} (hcs : CzK cs) (hv : vldC cs = 0) (l : List Int) : EgOk 5 f g cs l 3 40000 40 4 := by
 have e0 := expr_zero f g hcs l
 have e1 : EgOk 5 f g cs l 1 8000000 4 2 := expr_step f g hcs hv l (d := 1) (A := 100000000) (N := 1) (zz := 1) (by decide) (by decide) (by decide) (by decide) (by rw [show IntKind.i64.wrap (1 - 1) = 0 by decide]; exact e0) (by decide) (by decide)
 have e2 : EgOk 5 f g cs l 2 600000 13 3 := expr_step f g hcs hv l (d := 2) (A := 8000000) (N := 4) (zz := 2) (by decide) (by decide) (by decide) (by decide) (by rw [show IntKind.i64.wrap (2 - 1) = 1 by decide]; exact e1) (by decide) (by decide)
 exact expr_step f g hcs hv l (d := 3) (A := 600000) (N := 13) (zz := 3) (by decide) (by decide) (by decide) (by decide) (by rw [show IntKind.i64.wrap (3 - 1) = 2 by decide]; exact e2) (by decide) (by decide)
end Go.AW

