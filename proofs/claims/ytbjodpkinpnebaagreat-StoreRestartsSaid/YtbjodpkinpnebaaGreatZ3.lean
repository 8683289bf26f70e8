/-
  An abstract machine over the model, the code of functions on it, and their contracts: what the claim needs.
  No condition: definitions, plain laws, contracts over any program that has this code.
-/
import Derived.Test.YtbjodpkinpnebaaGreatZ2
set_option linter.all false
namespace Go.AW
variable [Draws]
inductive RenN (σ : Nat → Nat) : AVal → AVal → Prop where
 | closed (v : AVal) (h : v.closed = true) : RenN σ v v
 | sl (id ep off len : Nat) : RenN σ (.sl id ep off len) (.sl (σ id) ep off len)
 | ptr (id ep idx fld : Nat) : RenN σ (.ptr id ep idx fld) (.ptr (σ id) ep idx fld)
 | mp (id : Nat) : RenN σ (.mp id) (.mp (σ id))
 | it (id : Nat) : RenN σ (.it id) (.it (σ id))
 | agg (vs rs : List AVal) (hl : vs.length = rs.length) (h : ∀ (i : Nat) (v r : AVal),vs[i]? = some v → rs[i]? = some r → RenN σ v r) : RenN σ (.agg vs) (.agg rs)
 | tuple (vs rs : List AVal) (hl : vs.length = rs.length) (h : ∀ (i : Nat) (v r : AVal),vs[i]? = some v → rs[i]? = some r → RenN σ v r) : RenN σ (.tuple vs) (.tuple rs)
 | fn (f : FuncId) (vs rs : List AVal) (hl : vs.length = rs.length) (h : ∀ (i : Nat) (v r : AVal),vs[i]? = some v → rs[i]? = some r → RenN σ v r) : RenN σ (.fn f vs) (.fn f rs)
theorem RenN.cell {σ : Nat → Nat} {a b : AVal} (h : RenN σ a b) : a.isCell = b.isCell:=by cases h <;> rfl
inductive RenNO (σ : Nat → Nat) : AObj → AObj → Prop where
 | arr (esz : Nat) (es es1 : List (List AVal)) (hl : es1.length = es.length) (hl2 : ∀ (i : Nat) (e e1 : List AVal),es[i]? = some e → es1[i]? = some e1 → e1.length = e.length)
   (h : ∀ (i j : Nat) (e e1 : List AVal) (d d1 : AVal),es[i]? = some e → es1[i]? = some e1 → e[j]? = some d → e1[j]? = some d1 → RenN σ d d1) :
   RenNO σ (.arr esz es) (.arr esz es1)
 | iter (s : ByteArray) (p : Nat) : RenNO σ (.iter s p) (.iter s p)
 | map (kvs kvs1 : List (AVal × AVal)) (hl : kvs1.length = kvs.length) (h : ∀ (i : Nat) (e e1 : AVal × AVal),kvs[i]? = some e → kvs1[i]? = some e1 → e1.1 = e.1 ∧ RenN σ e.2 e1.2) : RenNO σ (.map kvs) (.map kvs1)
theorem AVal.closed_of_pure {v : AVal} (h : v.isPure = true) : v.closed = true:=by cases v <;> first | rfl | exact h | (simp [AVal.isPure] at h)
theorem RenNO.same {σ : Nat → Nat} {o : AObj} (h : o.clean = true) : RenNO σ o o:=by
 cases o with
 | arr esz es=>exact .arr esz es es rfl (fun i e e1 h1 h2=>by rw [h1] at h2;cases h2;rfl) fun i j e e1 d d1 h1 h2 h3 h4=>(by
   rw [h1] at h2;cases h2;rw [h3] at h4;cases h4;exact .closed _ (AVal.closed_of_pure (pureEs_get h h1 h3)))
 | iter s p=>exact .iter s p
 | map kvs=>exact .map kvs kvs rfl fun i e e1 h1 h2=>(by rw [h1] at h2;cases h2;exact ⟨rfl,.closed _ (AVal.closed_of_pure (pureKvs_get h h1))⟩)
 | bmap _ _ _=>cases h
 | mit _ _ _=>cases h
theorem RenNO.mp {σ : Nat → Nat} {x y : AObj} (h : RenNO σ x y) (hm : x.isMp = true) : y.isMp = true:=by cases h <;> exact hm
theorem RenNO.mpL {σ : Nat → Nat} {x y : AObj} (h : RenNO σ x y) (hm : y.isMp = true) : x.isMp = true:=by cases h <;> exact hm
theorem RenNO.after {σ : Nat → Nat} {o o0 o1 : AObj} {t t' : Option Loc} (h : RenNO σ o0 o1) (ha : o.after o0 t t') : o.after o1 t t':=by
 cases h with
 | iter=>exact ha
 | arr esz es es1 hl _ _ =>
  cases o with
  | iter _ _=>exact ha
  | map _=>exact ha
  | bmap _ _ _=>exact ha
  | mit _ _ _=>exact ha
  | arr z es0=>exact ⟨ha.1,by rw [hl];exact ha.2.1,by rw [hl];exact ha.2.2⟩
 | map=>cases o <;> exact ha
theorem RenNO.afterL {σ : Nat → Nat} {o o0 o1 : AObj} {t t' : Option Loc} (h : RenNO σ o0 o1) (ha : o0.after o t t') : o1.after o t t':=by
 cases h with
 | iter=>exact ha
 | arr esz es es1 hl _ _ =>
  cases o with
  | iter _ _=>exact ha
  | map _=>exact ha
  | bmap _ _ _=>exact ha
  | mit _ _ _=>exact ha
  | arr z es0=>exact ⟨ha.1,by rw [hl];exact ha.2.1,by rw [hl];exact ha.2.2⟩
 | map=>cases o <;> exact ha
theorem RenNO.ok {σ : Nat → Nat} {o0 o1 : AObj} (h : RenNO σ o0 o1) (ho : o0.ok) : o1.ok:=by
 cases h with
 | iter=>exact ho
 | map=>exact ho
 | arr esz es es1 hl hl2 hp =>
  intro e1 he1
  obtain ⟨n,hn⟩:=List.getElem?_of_mem he1
  have hnl:=(List.getElem?_eq_some_iff.1 hn).1
  have he : es[n]? = some es[n]:=List.getElem?_eq_getElem (by omega)
  obtain ⟨g1,g2⟩:=ho _ (List.mem_of_getElem? he)
  refine ⟨(hl2 n _ _ he hn).trans g1,fun d1 hd1=>?_⟩
  obtain ⟨j,hj⟩:=List.getElem?_of_mem hd1
  have hjl:=(List.getElem?_eq_some_iff.1 hj).1
  have:=hl2 n _ _ he hn
  have hd : es[n][j]? = some es[n][j]:=List.getElem?_eq_getElem (by omega)
  rw [← (hp n j _ _ _ d1 he hn hd hj).cell]
  exact g2 _ (List.mem_of_getElem? hd)
theorem RenNO.okL {σ : Nat → Nat} {o0 o1 : AObj} (h : RenNO σ o0 o1) (ho : o1.ok) : o0.ok:=by
 cases h with
 | iter=>exact ho
 | map=>exact ho
 | arr esz es es1 hl hl2 hp =>
  intro e he
  obtain ⟨n,hn⟩:=List.getElem?_of_mem he
  have hnl:=(List.getElem?_eq_some_iff.1 hn).1
  have he1 : es1[n]? = some es1[n]:=List.getElem?_eq_getElem (by omega)
  obtain ⟨g1,g2⟩:=ho _ (List.mem_of_getElem? he1)
  have hle:=hl2 n _ _ hn he1
  refine ⟨by omega,fun d hd=>?_⟩
  obtain ⟨j,hj⟩:=List.getElem?_of_mem hd
  have hjl:=(List.getElem?_eq_some_iff.1 hj).1
  have hd1 : es1[n][j]? = some es1[n][j]:=List.getElem?_eq_getElem (by omega)
  rw [(hp n j _ _ d _ hn he1 hj hd1).cell]
  exact g2 _ (List.mem_of_getElem? hd1)
section
variable {P : Program} {C C' : Nat → Nat} {τ τ' : Nat → Option Loc} {H H' : List AObj} {w w' : World}
structure SameAt (σ : Nat → Nat) (τ : Nat → Option Loc) (H : List AObj) (τ' : Nat → Option Loc) (H' : List AObj) : Prop where
 obj : ∀ (k : Nat) (x : AObj),H[k]? = some x → ∃ y,H'[σ k]? = some y ∧ RenNO σ x y
 loc : ∀ (k : Nat),k < H.length → τ' (σ k) = τ k
theorem RenN.rel {σ : Nat → Nat} {a b : AVal} (h : RenN σ a b) (s : SameAt σ τ H τ' H') : ∀ {u : Value},Rel C w τ H a u → Rel C w τ' H' b u:=by
 have lt : ∀ {k : Nat} {x : AObj},H[k]? = some x → k < H.length:=fun h=>(List.getElem?_eq_some_iff.1 h).1
 induction h with
 | closed v h=>intro u hu;exact hu.closed h (fun _=>Nat.le_refl _) (fun _ _ _=>rfl)
 | sl k ep off len =>
  intro u hu
  cases hu with
  | rd h=>cases h
  | sl _ _ _ _ a cap esz es ho hep h3 =>
   obtain ⟨y,hy,hry⟩:=s.obj k _ ho
   cases hry with
   | arr _ _ es1 hl1 _ _=>exact .sl _ ep off len a cap esz es1 hy (by omega) fun e=>by rw [s.loc k (lt ho),hl1];exact h3 (by omega)
 | ptr k ep idx fld =>
  intro u hu
  cases hu with
  | rd h=>cases h
  | ptr _ _ _ _ a esz es ho hep h3 =>
   obtain ⟨y,hy,hry⟩:=s.obj k _ ho
   cases hry with
   | arr _ _ es1 hl1 _ _=>exact .ptr _ ep idx fld a esz es1 hy (by omega) fun e=>by rw [s.loc k (lt ho)];exact h3 (by omega)
 | mp k =>
  intro u hu
  cases hu with
  | rd h=>cases h
  | mp _ o l ho hm ht =>
   obtain ⟨y,hy,hry⟩:=s.obj k _ ho
   exact .mp _ y l hy (hry.mp hm) (by rw [s.loc k (lt ho)];exact ht)
 | it k =>
  intro u hu
  cases hu with
  | rd h=>cases h
  | it _ s0 pos l ho ht =>
   obtain ⟨y,hy,hry⟩:=s.obj k _ ho
   cases hry with
   | iter=>exact .it _ s0 pos l hy (by rw [s.loc k (lt ho)];exact ht)
  | mt _ m0 c0 s0 l ho ht =>
   obtain ⟨y,hy,hry⟩:=s.obj k _ ho
   cases hry
 | agg vs rs hl h ih =>
  intro u hu
  obtain ⟨us,rfl,hl2,hr2⟩:=hu.agg_inv
  refine .agg _ _ (by omega) fun i c v hc hv=>?_
  have hi:=(List.getElem?_eq_some_iff.1 hc).1
  have hvi : vs[i]? = some vs[i]:=List.getElem?_eq_getElem (by omega)
  exact ih i _ c hvi hc (hr2 i _ v hvi hv)
 | tuple vs rs hl h ih =>
  intro u hu
  obtain ⟨us,rfl,hl2,hr2⟩:=hu.tuple_inv
  refine .tuple _ _ (by omega) fun i c v hc hv=>?_
  have hi:=(List.getElem?_eq_some_iff.1 hc).1
  have hvi : vs[i]? = some vs[i]:=List.getElem?_eq_getElem (by omega)
  exact ih i _ c hvi hc (hr2 i _ v hvi hv)
 | fn f vs rs hl h ih =>
  intro u hu
  cases hu with
  | rd h0 =>
   cases h0
   have : rs = []:=List.eq_nil_of_length_eq_zero (by simpa using hl.symm)
   subst this
   exact .rd (.fn f)
  | fn _ _ us hl2 hr2 =>
   refine .fn _ _ _ (by omega) fun i c v hc hv=>?_
   have hi:=(List.getElem?_eq_some_iff.1 hc).1
   have hvi : vs[i]? = some vs[i]:=List.getElem?_eq_getElem (by omega)
   exact ih i _ c hvi hc (hr2 i _ v hvi hv)
theorem RenN.relL {σ : Nat → Nat} {a b : AVal} (h : RenN σ a b) (hb : ∀ (k : Nat) (y : AObj),H'[σ k]? = some y → ∃ x,H[k]? = some x ∧ RenNO σ x y ∧ τ' (σ k) = τ k) : ∀ {u : Value},Rel C w τ' H' b u → Rel C w τ H a u:=by
 induction h with
 | closed v h=>intro u hu;exact hu.closed h (fun _=>Nat.le_refl _) (fun _ _ _=>rfl)
 | sl k ep off len =>
  intro u hu
  cases hu with
  | rd h=>cases h
  | sl _ _ _ _ a cap esz es ho hep h3 =>
   obtain ⟨x,hx,hrx,ht⟩:=hb k _ ho
   cases hrx with
   | arr _ es0 _ hl1 _ _=>exact .sl _ ep off len a cap esz es0 hx (by omega) fun e=>by rw [← ht,← hl1];exact h3 (by omega)
 | ptr k ep idx fld =>
  intro u hu
  cases hu with
  | rd h=>cases h
  | ptr _ _ _ _ a esz es ho hep h3 =>
   obtain ⟨x,hx,hrx,ht⟩:=hb k _ ho
   cases hrx with
   | arr _ es0 _ hl1 _ _=>exact .ptr _ ep idx fld a esz es0 hx (by omega) fun e=>by rw [← ht];exact h3 (by omega)
 | mp k =>
  intro u hu
  cases hu with
  | rd h=>cases h
  | mp _ o l ho hm ht0 =>
   obtain ⟨x,hx,hrx,ht⟩:=hb k _ ho
   exact .mp _ x l hx (hrx.mpL hm) (by rw [← ht];exact ht0)
 | it k =>
  intro u hu
  cases hu with
  | rd h=>cases h
  | it _ s0 pos l ho ht0 =>
   obtain ⟨x,hx,hrx,ht⟩:=hb k _ ho
   cases hrx with
   | iter=>exact .it _ s0 pos l hx (by rw [← ht];exact ht0)
  | mt _ m0 c0 s0 l ho ht0 =>
   obtain ⟨x,hx,hrx,ht⟩:=hb k _ ho
   cases hrx
 | agg vs rs hl h ih =>
  intro u hu
  obtain ⟨us,rfl,hl2,hr2⟩:=hu.agg_inv
  refine .agg _ _ (by omega) fun i c v hc hv=>?_
  have hi:=(List.getElem?_eq_some_iff.1 hc).1
  have hvi : rs[i]? = some rs[i]:=List.getElem?_eq_getElem (by omega)
  exact ih i c _ hc hvi (hr2 i _ v hvi hv)
 | tuple vs rs hl h ih =>
  intro u hu
  obtain ⟨us,rfl,hl2,hr2⟩:=hu.tuple_inv
  refine .tuple _ _ (by omega) fun i c v hc hv=>?_
  have hi:=(List.getElem?_eq_some_iff.1 hc).1
  have hvi : rs[i]? = some rs[i]:=List.getElem?_eq_getElem (by omega)
  exact ih i c _ hc hvi (hr2 i _ v hvi hv)
 | fn f vs rs hl h ih =>
  intro u hu
  cases hu with
  | rd h0 =>
   cases h0
   have : vs = []:=List.eq_nil_of_length_eq_zero (by simpa using hl)
   subst this
   exact .rd (.fn f)
  | fn _ _ us hl2 hr2 =>
   refine .fn _ _ _ (by omega) fun i c v hc hv=>?_
   have hi:=(List.getElem?_eq_some_iff.1 hc).1
   have hvi : rs[i]? = some rs[i]:=List.getElem?_eq_getElem (by omega)
   exact ih i c _ hc hvi (hr2 i _ v hvi hv)
theorem perm_lift {α β : Type} (f : β → α) : ∀ {l : List α} {z : List β},l.Perm (z.map f) → ∃ z0 : List β,z0.Perm z ∧ z0.map f = l
 | [],z,h=>by
  have : z = []:=List.eq_nil_of_length_eq_zero (by have:=h.length_eq;simp at this;omega)
  subst this
  exact ⟨[],.nil,rfl⟩
 | x :: l,z,h=>by
  obtain ⟨b,hb,rfl⟩:=List.mem_map.1 (h.mem_iff.1 (List.mem_cons_self ..))
  obtain ⟨z1,z2,rfl⟩:=List.append_of_mem hb
  have h2 : (f b :: l).Perm (f b :: (z1 ++ z2).map f):=by
   refine h.trans ?_
   rw [List.map_append,List.map_cons,List.map_append]
   exact List.perm_middle
  obtain ⟨z0,h3,h4⟩:=perm_lift f (List.perm_cons _ |>.1 h2)
  exact ⟨b :: z0,(List.Perm.cons _ h3).trans List.perm_middle.symm,by rw [List.map_cons,h4]⟩
theorem perm_pair {α : Type} {a b a0 : List α} (hl : a.length = b.length) (h : a0.Perm a) : ∃ b0 : List α,b0.Perm b ∧ b0.length = a0.length ∧ ∀ (i : Nat) (x y : α),a0[i]? = some x → b0[i]? = some y → ∃ j : Nat,a[j]? = some x ∧ b[j]? = some y:=by
 have e1 : (a.zip b).map Prod.fst = a:=List.map_fst_zip (by omega)
 have e2 : (a.zip b).map Prod.snd = b:=List.map_snd_zip (by omega)
 rw [← e1] at h
 obtain ⟨z0,h1,h2⟩:=perm_lift Prod.fst h
 refine ⟨z0.map Prod.snd,by rw [← e2];simpa [e2] using h1.map Prod.snd,by rw [← h2];simp,fun i x y hx hy=>?_⟩
 rw [← h2,List.getElem?_map] at hx
 rw [List.getElem?_map] at hy
 obtain ⟨p,hp,rfl⟩:=Option.map_eq_some_iff.1 hx
 obtain ⟨q,hq,rfl⟩:=Option.map_eq_some_iff.1 hy
 rw [hp] at hq;cases hq
 obtain ⟨j,hj⟩:=List.getElem?_of_mem (h1.mem_iff.1 (List.mem_of_getElem? hp))
 refine ⟨j,?_,?_⟩
 ·have:=congrArg (fun l=>l[j]?) e1
  simp only [List.getElem?_map,hj,Option.map_some] at this
  exact this.symm
 ·have:=congrArg (fun l=>l[j]?) e2
  simp only [List.getElem?_map,hj,Option.map_some] at this
  exact this.symm
theorem keys_same {a b : List (AVal × AVal)} (hl : b.length = a.length) (h : ∀ (i : Nat) (x y : AVal × AVal),a[i]? = some x → b[i]? = some y → y.1 = x.1) : (b.map fun kv=>kv.1.lit) = a.map fun kv=>kv.1.lit:=by
 apply List.ext_getElem?
 intro i
 rw [List.getElem?_map,List.getElem?_map]
 by_cases hi : i < a.length
 ·have h1 : a[i]? = some a[i]:=List.getElem?_eq_getElem hi
  have h2 : b[i]? = some b[i]:=List.getElem?_eq_getElem (by omega)
  rw [h1,h2,Option.map_some,Option.map_some,h i _ _ h1 h2]
 ·rw [List.getElem?_eq_none (by omega),List.getElem?_eq_none (by omega)]
theorem RenNO.at {σ : Nat → Nat} {x y : AObj} {l : Loc} (h : RenNO σ x y) (s : SameAt σ τ H τ' H') (ho : ObjAt C w τ H l x) : ObjAt C w τ' H' l y:=by
 cases h with
 | iter=>exact ho
 | map kvs kvs1 hl hp =>
  obtain ⟨kvs0,es,clock,pp,a1,a2,a3,a4,a5⟩:=ho
  obtain ⟨kvs2,q1,q2,q3⟩:=perm_pair hl.symm pp
  refine ⟨kvs2,es,clock,q1,a1,by omega,fun i e kv he hkv=>?_,?_,a5⟩
  ·have hi:=(List.getElem?_eq_some_iff.1 hkv).1
   have h0 : kvs0[i]? = some kvs0[i]:=List.getElem?_eq_getElem (by omega)
   obtain ⟨j,h1,h2⟩:=q3 i _ _ h0 hkv
   obtain ⟨g1,g2⟩:=hp j _ kv h1 h2
   obtain ⟨g3,g4⟩:=a3 i e _ he h0
   exact ⟨by rw [g1];exact g3,g2.rel s g4⟩
  ·rw [keys_same q2 fun i a b ha hb=>by
    obtain ⟨j,h1,h2⟩:=q3 i a b ha hb
    rw [(hp j _ _ h1 h2).1]]
   exact a4
 | arr esz es es1 hl hl2 hp =>
  obtain ⟨a1,cells,elem,fz,a2,a3,a4,a5⟩:=ho
  refine ⟨by omega,cells,elem,fz,a2,a3,a4,fun i j e1 d1 hi hd=>?_⟩
  have hil:=(List.getElem?_eq_some_iff.1 hi).1
  have hjl:=(List.getElem?_eq_some_iff.1 hd).1
  have he : es[i]? = some es[i]:=List.getElem?_eq_getElem (by omega)
  have hl3:=hl2 i _ _ he hi
  have hd0 : es[i][j]? = some es[i][j]:=List.getElem?_eq_getElem (by omega)
  obtain ⟨v,hx1,hx2⟩:=a5 i j _ _ he hd0
  exact ⟨v,hx1,(hp i j _ _ _ d1 he hi hd0 hd).rel s hx2⟩
theorem RenNO.atL {σ : Nat → Nat} {x y : AObj} {l : Loc} (h : RenNO σ x y) (hb : ∀ (k : Nat) (y : AObj),H'[σ k]? = some y → ∃ x,H[k]? = some x ∧ RenNO σ x y ∧ τ' (σ k) = τ k) (ho : ObjAt C w τ' H' l y) : ObjAt C w τ H l x:=by
 cases h with
 | iter=>exact ho
 | map kvs kvs1 hl hp =>
  obtain ⟨kvs0,es,clock,pp,a1,a2,a3,a4,a5⟩:=ho
  obtain ⟨kvs2,q1,q2,q3⟩:=perm_pair hl pp
  refine ⟨kvs2,es,clock,q1,a1,by omega,fun i e kv he hkv=>?_,?_,a5⟩
  ·have hi:=(List.getElem?_eq_some_iff.1 hkv).1
   have h0 : kvs0[i]? = some kvs0[i]:=List.getElem?_eq_getElem (by omega)
   obtain ⟨j,h1,h2⟩:=q3 i _ _ h0 hkv
   obtain ⟨g1,g2⟩:=hp j kv _ h2 h1
   obtain ⟨g3,g4⟩:=a3 i e _ he h0
   exact ⟨by rw [← g1];exact g3,g2.relL hb g4⟩
  ·rw [keys_same q2 fun i a b ha hb=>by
    obtain ⟨j,h1,h2⟩:=q3 i a b ha hb
    rw [(hp j _ _ h2 h1).1]]
   exact a4
 | arr esz es es1 hl hl2 hp =>
  obtain ⟨a1,cells,elem,fz,a2,a3,a4,a5⟩:=ho
  refine ⟨by omega,cells,elem,fz,a2,a3,a4,fun i j e d hi hd=>?_⟩
  have hil:=(List.getElem?_eq_some_iff.1 hi).1
  have hjl:=(List.getElem?_eq_some_iff.1 hd).1
  have he : es1[i]? = some es1[i]:=List.getElem?_eq_getElem (by omega)
  have hl3:=hl2 i _ _ hi he
  have hd0 : es1[i][j]? = some es1[i][j]:=List.getElem?_eq_getElem (by omega)
  obtain ⟨v,hx1,hx2⟩:=a5 i j _ _ he hd0
  exact ⟨v,hx1,(hp i j _ _ d _ hi he hd hd0).relL hb hx2⟩
def frM (ids : List Nat) (n : Nat) (k : Nat) : Nat:=match ids[k]? with
 | some id=>id
 | none=>n + (k - ids.length)
theorem frM_lt {ids : List Nat} {n k id : Nat} (h : ids[k]? = some id) : frM ids n k = id:=by unfold frM;rw [h]
theorem frM_ge {ids : List Nat} {n k : Nat} (h : ids.length ≤ k) : frM ids n k = n + (k - ids.length):=by unfold frM;rw [List.getElem?_eq_none h]
theorem ACalls.frameN {f : FuncId} {args0 args : List AVal} {Q0 Q : AVal → List AObj → Prop} {H0 : List AObj} (ids : List Nat) (hnd : ids.Nodup) (hlen : ids.length = H0.length)
  (hobj : ∀ (k id : Nat) (x : AObj),ids[k]? = some id → H0[k]? = some x → ∃ y,H[id]? = some y ∧ RenNO (frM ids H.length) x y)
  (hal : args0.length = args.length) (ha : ∀ (i : Nat) (a b : AVal),args0[i]? = some a → args[i]? = some b → RenN (frM ids H.length) a b)
  (h : ACalls P f args0 H0 Q0)
  (hq : ∀ r H1,Q0 r H1 → ids.length ≤ H1.length → ∃ r' H2,RenN (frM ids H.length) r r' ∧ H2.length = H.length + (H1.length - ids.length) ∧
   (∀ (k : Nat) (x : AObj),H1[k]? = some x → ∃ y,H2[frM ids H.length k]? = some y ∧ RenNO (frM ids H.length) x y) ∧ (∀ j,j < H.length → j ∉ ids → H2[j]? = H[j]?) ∧ Q r' H2) : ACalls P f args H Q:=by
 intro C τ w vs hw hl hr
 have σlt : ∀ {k id : Nat},ids[k]? = some id → frM ids H.length k = id:=fun h=>frM_lt h
 have idlt : ∀ {k id : Nat},ids[k]? = some id → id < H.length:=fun {k id} hk=>by
  have hk0 : k < H0.length:=by have:=(List.getElem?_eq_some_iff.1 hk).1;omega
  obtain ⟨y,hy,_⟩:=hobj k id _ hk (List.getElem?_eq_getElem hk0)
  exact (List.getElem?_eq_some_iff.1 hy).1
 have idget : ∀ {k : Nat},k < ids.length → ids[k]? = some (frM ids H.length k):=fun {k} hk=>by
  have h1 : ids[k]? = some ids[k]:=List.getElem?_eq_getElem hk
  rw [frM_lt h1];exact h1
 have σinj : ∀ k k',frM ids H.length k = frM ids H.length k' → k = k':=fun k k' e=>by
  rcases Nat.lt_or_ge k ids.length with a | a <;> rcases Nat.lt_or_ge k' ids.length with b | b
  ·have h1:=idget a
   have h2:=idget b
   rw [← e] at h2
   obtain ⟨_,e1⟩:=List.getElem?_eq_some_iff.1 h1
   obtain ⟨_,e2⟩:=List.getElem?_eq_some_iff.1 h2
   have hne:=List.pairwise_iff_getElem.1 hnd
   rcases Nat.lt_trichotomy k k' with h3 | h3 | h3
   ·exact absurd (e1.trans e2.symm) (hne k k' a b h3)
   ·exact h3
   ·exact absurd (e2.trans e1.symm) (hne k' k b a h3)
  ·have:=idlt (idget a);rw [e,frM_ge b] at this;omega
  ·have:=idlt (idget b);rw [← e,frM_ge a] at this;omega
  ·rw [frM_ge a,frM_ge b] at e;omega
 let τ0 : Nat → Option Loc:=fun k=>if k < ids.length then τ (frM ids H.length k) else none
 have t00 : ∀ {k},k < ids.length → τ0 k = τ (frM ids H.length k):=fun {k} hk=>by simp only [τ0,if_pos hk]
 have hbk : ∀ (k : Nat) (y : AObj),H[frM ids H.length k]? = some y → ∃ x,H0[k]? = some x ∧ RenNO (frM ids H.length) x y ∧ τ (frM ids H.length k) = τ0 k:=fun k y hy=>by
  have hk : k < ids.length:=by
   rcases Nat.lt_or_ge k ids.length with a | a
   ·exact a
   ·rw [frM_ge a] at hy;have:=(List.getElem?_eq_some_iff.1 hy).1;omega
  have hx : H0[k]? = some H0[k]:=List.getElem?_eq_getElem (by omega)
  obtain ⟨y',hy',hr'⟩:=hobj k _ _ (idget hk) hx
  rw [hy] at hy';cases hy'
  exact ⟨_,hx,hr',(t00 hk).symm⟩
 have hfw : ∀ {k : Nat} {x : AObj},H0[k]? = some x → k < ids.length ∧ ∃ y,H[frM ids H.length k]? = some y ∧ RenNO (frM ids H.length) x y:=fun {k x} hx=>by
  have hk : k < ids.length:=by have:=(List.getElem?_eq_some_iff.1 hx).1;omega
  exact ⟨hk,hobj k _ _ (idget hk) hx⟩
 have hw0 : WF C τ0 H0 w:=by
  refine ⟨fun k x h=>?_,fun k x h ht=>?_,fun k x l h ht=>?_,fun k l hk ht=>?_,fun i j li lj hi hj h1 h2 h3=>?_,hw.lt⟩
  ·obtain ⟨hk,y,hy,hry⟩:=hfw h
   exact hry.okL (hw.ok _ y hy)
  ·obtain ⟨hk,y,hy,hry⟩:=hfw h
   rw [t00 hk] at ht
   obtain ⟨esz,rfl⟩:=hw.virt _ y hy ht
   cases hry with
   | arr _ es0 _ hl1=>exact ⟨esz,by rw [List.length_eq_zero_iff.1 (show es0.length = 0 by simpa using hl1.symm)]⟩
  ·obtain ⟨hk,y,hy,hry⟩:=hfw h
   rw [t00 hk] at ht
   exact hry.atL hbk (hw.objs _ y l hy ht)
  ·have hk2 : k < ids.length:=by omega
   rw [t00 hk2] at ht
   exact hw.comm _ l (idlt (idget hk2)) ht
  ·have a : i < ids.length:=by omega
   have b : j < ids.length:=by omega
   rw [t00 a] at h1;rw [t00 b] at h2
   exact σinj _ _ (hw.inj _ _ li lj (idlt (idget a)) (idlt (idget b)) h1 h2 h3)
 have hr0 : ∀ (i : Nat) (a : AVal) (v : Value),args0[i]? = some a → vs[i]? = some v → Rel C w τ0 H0 a v:=fun i a v h1 h2=>by
  have hi:=(List.getElem?_eq_some_iff.1 h1).1
  have hb : args[i]? = some args[i]:=List.getElem?_eq_getElem (by omega)
  exact (ha i a _ h1 hb).relL hbk (hr i _ v hb h2)
 have hc:=h C τ0 w vs hw0 (by omega) hr0
 have hown : ∀ b,Owned τ0 H0 b → ∃ k l,k < ids.length ∧ τ (frM ids H.length k) = some l ∧ l.b = b:=fun b=>by
  rintro ⟨k,l,hk,ht,hb⟩
  have hk2 : k < ids.length:=by omega
  rw [t00 hk2] at ht
  exact ⟨k,l,hk2,ht,hb⟩
 have fin : ∀ (e : Ending) (w' : World),(∃ v r C' τ' H',e = .returned v ∧ Q0 r H' ∧ Rel C' w' τ' H' r v ∧ St w (PrCall τ0 H0 w) C' τ' H' w' ∧ Step C τ0 H0 w C' τ' H' w') →
   ∃ v r C' τ' H',e = .returned v ∧ Q r H' ∧ Rel C' w' τ' H' r v ∧ St w (PrCall τ H w) C' τ' H' w' ∧ Step C τ H w C' τ' H' w':=by
  rintro e w' ⟨v,r,C1,τ1,H1,he,hq0,hrel,hst,hstep⟩
  have hge : ids.length ≤ H1.length:=by
   rcases Nat.eq_zero_or_pos ids.length with h0 | h0
   ·omega
   ·obtain ⟨o',h1,_⟩:=hstep.obj (ids.length - 1) _ (List.getElem?_eq_getElem (show ids.length - 1 < H0.length by omega))
    have:=(List.getElem?_eq_some_iff.1 h1).1;omega
  obtain ⟨r',H2,hrr,hH2,hG,hoth,hQ⟩:=hq r H1 hq0 hge
  
  have hpr : ∀ j l,j < H.length → j ∉ ids → τ j = some l → PrCall τ0 H0 w l.b:=fun j l hj hne ht =>
   ⟨hw.locLt hj ht,fun ho=>by
    obtain ⟨k,l',hk,ht',hb⟩:=hown _ ho
    have:=hw.inj j _ l l' hj (idlt (idget hk)) ht ht' hb.symm
    exact hne (this ▸ List.mem_of_getElem? (idget hk))⟩
  have hheap : ∀ j l,j < H.length → j ∉ ids → τ j = some l → w'.heap[l.b]? = w.heap[l.b]?:=fun j l hj hne ht=>hst.fr.prot _ (hpr j l hj hne ht)
  
  have split : ∀ i,i < H2.length → (i < H.length ∧ i ∉ ids) ∨ ∃ k,i = frM ids H.length k ∧ k < H1.length:=fun i hi=>by
   rcases Nat.lt_or_ge i H.length with h1 | h1
   ·by_cases h2 : i ∈ ids
    ·obtain ⟨k,hk⟩:=List.getElem?_of_mem h2
     exact .inr ⟨k,(frM_lt hk).symm,by have:=(List.getElem?_eq_some_iff.1 hk).1;omega⟩
    ·exact .inl ⟨h1,h2⟩
   ·exact .inr ⟨ids.length + (i - H.length),by rw [frM_ge (by omega)];omega,by omega⟩
  have notboth : ∀ {i k},i < H.length → i ∉ ids → i ≠ frM ids H.length k:=fun {i k} h1 h2 e=>by
   rcases Nat.lt_or_ge k ids.length with a | a
   ·exact h2 (e ▸ List.mem_of_getElem? (idget a))
   ·rw [frM_ge a] at e;omega
  let τ2 : Nat → Option Loc:=fun i=>if i < H.length then (match ids.idxOf? i with
   | some k=>τ1 k
   | none=>τ i) else τ1 (ids.length + (i - H.length))
  have tF : ∀ k,τ2 (frM ids H.length k) = τ1 k:=fun k=>by
   rcases Nat.lt_or_ge k ids.length with a | a
   ·have h1:=idget a
    have h2 : ids.idxOf? (frM ids H.length k) = some k:=by
     rcases hx : ids.idxOf? (frM ids H.length k) with _ | k'
     ·rw [List.idxOf?_eq_none_iff] at hx
      exact absurd (List.mem_of_getElem? h1) hx
     ·obtain ⟨hk',e',_⟩:=List.idxOf?_eq_some_iff.1 hx
      have hee : ids[k']? = some (frM ids H.length k):=by rw [List.getElem?_eq_getElem hk',e']
      rw [σinj k k' (by rw [frM_lt hee])]
    show (if frM ids H.length k < H.length then _ else _) = _
    rw [if_pos (idlt h1),h2]
   ·show (if frM ids H.length k < H.length then _ else _) = _
    rw [frM_ge a,if_neg (by omega)]
    congr 1;omega
  have tO : ∀ j,j < H.length → j ∉ ids → τ2 j = τ j:=fun j hj hne=>by
   show (if j < H.length then _ else _) = _
   rw [if_pos hj,List.idxOf?_eq_none_iff.2 hne]
  have same : SameAt (frM ids H.length) τ1 H1 τ2 H2:=⟨hG,fun k _=>tF k⟩
  have step : Step C τ H w C1 τ2 H2 w':=by
   refine ⟨hstep.le,hstep.cell,fun j x hx=>?_,hstep.grow,hstep.old⟩
   have hj:=(List.getElem?_eq_some_iff.1 hx).1
   by_cases e1 : j ∈ ids
   ·obtain ⟨k,hk⟩:=List.getElem?_of_mem e1
    have hkl:=(List.getElem?_eq_some_iff.1 hk).1
    have hx0 : H0[k]? = some H0[k]:=List.getElem?_eq_getElem (by omega)
    obtain ⟨y,hy,hry⟩:=hobj k j _ hk hx0
    rw [hx] at hy;cases hy
    obtain ⟨o',h1,h2⟩:=hstep.obj k _ hx0
    obtain ⟨z,hz,hrz⟩:=hG k o' h1
    rw [frM_lt hk] at hz
    refine ⟨z,hz,?_⟩
    have t1:=tF k
    rw [frM_lt hk] at t1
    rw [t1]
    have t2:=t00 hkl
    rw [frM_lt hk] at t2
    rw [← t2]
    exact hrz.after (hry.afterL h2)
   ·exact ⟨x,by rw [hoth j hj e1];exact hx,by rw [tO j hj e1];exact x.after_refl _⟩
  have hgetF : ∀ k,k < H1.length → ∃ x,H1[k]? = some x:=fun k hk=>⟨_,List.getElem?_eq_getElem hk⟩
  refine ⟨v,r',C1,τ2,H2,he,hQ,hrr.rel same hrel,⟨⟨fun i x hx=>?_,fun i x hx ht=>?_,fun i x l hx ht=>?_,fun i l hi ht=>?_,fun i j li lj hi hj hti htj hb=>?_,hst.wf.lt⟩,
   ⟨hst.fr.os,hst.fr.tape,hst.fr.output,hst.fr.size,fun b hb=>hst.fr.prot b ⟨hb.1,?_⟩,hst.fr.drawn⟩,?_,fun b hb=>hb.1⟩,step⟩
  ·rcases split i (List.getElem?_eq_some_iff.1 hx).1 with ⟨h1,h2⟩ | ⟨k,rfl,hk⟩
   ·rw [hoth i h1 h2] at hx;exact hw.ok i x hx
   ·obtain ⟨z,hz⟩:=hgetF k hk
    obtain ⟨y,hy,hry⟩:=hG k z hz
    rw [hx] at hy;cases hy
    exact hry.ok (hst.wf.ok k z hz)
  ·rcases split i (List.getElem?_eq_some_iff.1 hx).1 with ⟨h1,h2⟩ | ⟨k,rfl,hk⟩
   ·rw [hoth i h1 h2] at hx;rw [tO i h1 h2] at ht;exact hw.virt i x hx ht
   ·obtain ⟨z,hz⟩:=hgetF k hk
    obtain ⟨y,hy,hry⟩:=hG k z hz
    rw [hx] at hy;cases hy
    rw [tF] at ht
    obtain ⟨esz,rfl⟩:=hst.wf.virt k z hz ht
    cases hry with
    | arr _ _ es1 hl1 _ _ =>
     have : es1 = []:=List.length_eq_zero_iff.1 hl1
     subst this;exact ⟨esz,rfl⟩
  ·rcases split i (List.getElem?_eq_some_iff.1 hx).1 with ⟨h1,h2⟩ | ⟨k,rfl,hk⟩
   ·rw [hoth i h1 h2] at hx;rw [tO i h1 h2] at ht
    exact (hw.objs i x l hx ht).mono step (hheap i l h1 h2 ht)
   ·obtain ⟨z,hz⟩:=hgetF k hk
    obtain ⟨y,hy,hry⟩:=hG k z hz
    rw [hx] at hy;cases hy
    rw [tF] at ht
    exact hry.at same (hst.wf.objs k z l hz ht)
  ·rcases split i hi with ⟨h1,h2⟩ | ⟨k,rfl,hk⟩
   ·rw [tO i h1 h2] at ht
    rw [hstep.old _ (hw.locLt h1 ht)];exact hw.comm i l h1 ht
   ·rw [tF] at ht;exact hst.wf.comm k l hk ht
  ·rcases split i hi with ⟨h1,h2⟩ | ⟨k,rfl,hk⟩ <;> rcases split j hj with ⟨h3,h4⟩ | ⟨k',rfl,hk'⟩
   ·rw [tO i h1 h2] at hti;rw [tO j h3 h4] at htj;exact hw.inj i j li lj h1 h3 hti htj hb
   ·rw [tO i h1 h2] at hti;rw [tF] at htj
    exact absurd (hb ▸ hpr i li h1 h2 hti) (hst.own _ ⟨k',lj,hk',htj,rfl⟩)
   ·rw [tF] at hti;rw [tO j h3 h4] at htj
    exact absurd (hb ▸ hpr j lj h3 h4 htj) (hst.own _ ⟨k,li,hk,hti,rfl⟩)
   ·rw [tF] at hti htj
    rw [hst.wf.inj k k' li lj hk hk' hti htj hb]
  ·intro ho
   obtain ⟨k,l,hk,ht,hb2⟩:=hown _ ho
   exact hb.2 ⟨_,l,idlt (idget hk),ht,hb2⟩
  ·rintro b ⟨i,l,hi,ht,rfl⟩ hp2
   rcases split i hi with ⟨h1,h2⟩ | ⟨k,rfl,hk⟩
   ·rw [tO i h1 h2] at ht;exact hp2.2 ⟨i,l,h1,ht,rfl⟩
   ·rw [tF] at ht
    refine hst.own _ ⟨k,l,hk,ht,rfl⟩ ⟨hp2.1,fun ho=>?_⟩
    obtain ⟨k2,l2,hk2,ht2,hb2⟩:=hown _ ho
    exact hp2.2 ⟨_,l2,idlt (idget hk2),ht2,hb2⟩
 unfold CallsX at hc ⊢
 split at hc
 ·exact Calls.mono hc fun e w' hh=>fin e w' hh
 ·exact fin _ _ hc
 ·exact hc
end
def RenArgs (σ : Nat → Nat) : List AVal → List AVal → Prop
 | [],[]=>True
 | a :: asv,b :: bs=>RenN σ a b ∧ RenArgs σ asv bs
 | _,_=>False
theorem RenArgs.get {σ : Nat → Nat} : ∀ {asv bs : List AVal},RenArgs σ asv bs → asv.length = bs.length ∧ ∀ (i : Nat) (a b : AVal),asv[i]? = some a → bs[i]? = some b → RenN σ a b
 | [],[],_=>⟨rfl,fun i a b h=>by simp at h⟩
 | a :: asv,b :: bs,h=>by
  obtain ⟨h1,h2⟩:=RenArgs.get h.2
  refine ⟨by simp [h1],fun i x y hx hy=>?_⟩
  cases i with
  | zero=>simp at hx hy;subst hx hy;exact h.1
  | succ i=>exact h2 i x y (by simpa using hx) (by simpa using hy)
 | [],_ :: _,h=>h.elim
 | _ :: _,[],h=>h.elim
def renH (σ : Nat → Nat) (H2 : List AObj) : Nat → List AObj → Prop
 | _,[]=>True
 | k,x :: xs=>(∃ y,H2[σ k]? = some y ∧ RenNO σ x y) ∧ renH σ H2 (k + 1) xs
theorem renH_get {σ : Nat → Nat} {H2 : List AObj} : ∀ {xs : List AObj} {k : Nat},renH σ H2 k xs → ∀ (i : Nat) (x : AObj),xs[i]? = some x → ∃ y,H2[σ (k + i)]? = some y ∧ RenNO σ x y
 | [],k,_,i,x,h=>by simp at h
 | z :: xs,k,h,i,x,hx=>by
  cases i with
  | zero=>simp at hx;subst hx;exact h.1
  | succ i =>
   have:=renH_get h.2 i x (by simpa using hx)
   rwa [show k + 1 + i = k + (i + 1) by omega] at this
def othH (ids : List Nat) (H2 : List AObj) : Nat → List AObj → Prop
 | _,[]=>True
 | j,x :: xs=>(j ∈ ids ∨ H2[j]? = some x) ∧ othH ids H2 (j + 1) xs
theorem othH_get {ids : List Nat} {H2 : List AObj} : ∀ {xs : List AObj} {j : Nat},othH ids H2 j xs → ∀ i,i < xs.length → j + i ∉ ids → H2[j + i]? = xs[i]?
 | [],j,_,i,h,_=>by simp at h
 | z :: xs,j,h,i,hi,hn=>by
  cases i with
  | zero=>exact h.1.resolve_left hn
  | succ i =>
   have:=othH_get h.2 i (by simpa using hi) (by rwa [show j + 1 + i = j + (i + 1) by omega])
   rwa [show j + 1 + i = j + (i + 1) by omega] at this
theorem ACalls.frL {P : Program} {H : List AObj} {f : FuncId} {args0 args : List AVal} {H0 H1 H2 : List AObj} {R0 R : AVal} (h : ACalls P f args0 H0 (fun r H'=>r = R0 ∧ H' = H1)) (ids : List Nat) (hnd : ids.Nodup) (hlen : ids.length = H0.length)
  (h0 : renH (frM ids H.length) H 0 H0) (ha : RenArgs (frM ids H.length) args0 args) (hR : RenN (frM ids H.length) R0 R) (hl : H2.length = H.length + (H1.length - ids.length))
  (h1 : renH (frM ids H.length) H2 0 H1) (h2 : othH ids H2 0 H) : ACalls P f args H (fun r H'=>r = R ∧ H' = H2):=by
 obtain ⟨ha1,ha2⟩:=ha.get
 refine ACalls.frameN ids hnd hlen (fun k id x hk hx=>?_) ha1 ha2 h ?_
 ·have:=renH_get h0 k x hx
  rwa [Nat.zero_add,frM_lt hk] at this
 ·rintro r G ⟨rfl,rfl⟩ _
  refine ⟨R,H2,hR,hl,fun k x hx=>?_,fun j hj hn=>?_,rfl,rfl⟩
  ·have:=renH_get h1 k x hx
   rwa [Nat.zero_add] at this
  ·have:=othH_get h2 j hj (by rwa [Nat.zero_add])
   rwa [Nat.zero_add] at this
inductive Forg : AObj → AObj → Prop where
 | refl (o : AObj) : Forg o o
 | mp (kvs kvs1 : List (AVal × AVal)) (bs : List Nat) (ck : Nat) (h : kvs.Perm kvs1) : Forg (.bmap kvs bs ck) (.map kvs1)
 | pm (kvs kvs1 : List (AVal × AVal)) (h : kvs.Perm kvs1) : Forg (.map kvs) (.map kvs1)
def ForgH (H H2 : List AObj) : Prop:=H2.length = H.length ∧ ∀ (i : Nat) (o o2 : AObj),H[i]? = some o → H2[i]? = some o2 → Forg o o2
theorem Forg.after {o o2 : AObj} (h : Forg o o2) (t : Option Loc) : o.after o2 t t:=by
 cases h with
 | refl=>exact o.after_refl t
 | mp=>rfl
 | pm=>rfl
section
variable {P : Program} {C : Nat → Nat} {τ : Nat → Option Loc} {H H2 : List AObj} {w w0 : World} {Pr : Nat → Prop}
theorem ForgH.get (h : ForgH H H2) {i : Nat} {o2 : AObj} (h2 : H2[i]? = some o2) : ∃ o,H[i]? = some o ∧ Forg o o2:=by
 have hi:=(List.getElem?_eq_some_iff.1 h2).1
 have hj : i < H.length:=by rw [← h.1];exact hi
 have h1 : H[i]? = some H[i]:=List.getElem?_eq_getElem hj
 exact ⟨_,h1,h.2 i _ _ h1 h2⟩
theorem ForgH.got (h : ForgH H H2) {i : Nat} {o : AObj} (h1 : H[i]? = some o) : ∃ o2,H2[i]? = some o2 ∧ Forg o o2:=by
 have hi:=(List.getElem?_eq_some_iff.1 h1).1
 have hj : i < H2.length:=by rw [h.1];exact hi
 have h2 : H2[i]? = some H2[i]:=List.getElem?_eq_getElem hj
 exact ⟨_,h2,h.2 i _ _ h1 h2⟩
theorem ForgH.step (h : ForgH H H2) : Step C τ H w C τ H2 w :=
 ⟨fun _=>Nat.le_refl _,fun _ _ _=>rfl,fun id o ho=>by
  obtain ⟨o2,h2,hf⟩:=h.got ho
  exact ⟨o2,h2,hf.after _⟩,Nat.le_refl _,fun _ _=>rfl⟩
theorem St.forg (hs : St w0 Pr C τ H w) (h : ForgH H H2) : St w0 Pr C τ H2 w:=by
 have s : Step C τ H w C τ H2 w:=h.step
 refine ⟨⟨fun id o2 ho=>?_,fun id o2 ho ht=>?_,fun id o2 l ho ht=>?_,fun id l hi ht=>hs.wf.comm id l (by rw [← h.1];exact hi) ht,fun i j li lj hi hj=>hs.wf.inj i j li lj (by rw [← h.1];exact hi) (by rw [← h.1];exact hj),hs.wf.lt⟩,hs.fr,
  fun b ⟨id,l,hi,ht,hb⟩=>hs.own b ⟨id,l,by rw [← h.1];exact hi,ht,hb⟩,hs.plt⟩
 ·obtain ⟨o,h1,hf⟩:=h.get ho
  cases hf with
  | refl=>exact hs.wf.ok id o2 h1
  | mp=>trivial
  | pm=>trivial
 ·obtain ⟨o,h1,hf⟩:=h.get ho
  cases hf with
  | refl=>exact hs.wf.virt id o2 h1 ht
  | mp=>obtain ⟨esz,he⟩:=hs.wf.virt id _ h1 ht;cases he
  | pm=>obtain ⟨esz,he⟩:=hs.wf.virt id _ h1 ht;cases he
 ·obtain ⟨o,h1,hf⟩:=h.get ho
  have hat:=hs.wf.objs id o l h1 ht
  cases hf with
  | refl=>exact hat.mono s rfl
  | mp kvs kvs1 bs ck hp =>
   obtain ⟨es,g1,g2,g3,gn,g4,g5,g6⟩:=hat
   exact ⟨kvs,es,ck,hp,g1,g2,fun i e kv he hkv=>⟨(g3 i e kv he hkv).1,(g3 i e kv he hkv).2.mono s⟩,gn,by rw [g4];exact g5,fun e he=>g6 _ (by rw [← g4];exact List.mem_map.2 ⟨e,he,rfl⟩)⟩
  | pm kvs kvs1 hp =>
   obtain ⟨kvs0,es,ck,hp0,g1,g2,g3,g4⟩:=hat
   exact ⟨kvs0,es,ck,hp0.trans hp,g1,g2,fun i e kv he hkv=>⟨(g3 i e kv he hkv).1,(g3 i e kv he hkv).2.mono s⟩,g4⟩
theorem ACalls.fg {f : FuncId} {args : List AVal} {Q0 Q : AVal → List AObj → Prop} (h : ACalls P f args H Q0) (hq : ∀ r H',Q0 r H' → ∃ H2,ForgH H' H2 ∧ Q r H2) : ACalls P f args H Q:=by
 intro C τ w vs hw hl hr
 have hc:=h C τ w vs hw hl hr
 have fin : ∀ (e : Ending) (w' : World),(∃ v r C' τ' H',e = .returned v ∧ Q0 r H' ∧ Rel C' w' τ' H' r v ∧ St w (PrCall τ H w) C' τ' H' w' ∧ Step C τ H w C' τ' H' w') →
   ∃ v r C' τ' H',e = .returned v ∧ Q r H' ∧ Rel C' w' τ' H' r v ∧ St w (PrCall τ H w) C' τ' H' w' ∧ Step C τ H w C' τ' H' w':=by
  rintro e w' ⟨v,r,C1,τ1,H1,rfl,hQ,hrel,hst,hstep⟩
  obtain ⟨H2,hf,hQ2⟩:=hq r H1 hQ
  exact ⟨v,r,C1,τ1,H2,rfl,hQ2,hrel.mono hf.step,hst.forg hf,hstep.trans hf.step⟩
 unfold CallsX at hc ⊢
 split at hc
 ·exact Calls.mono hc fun e w' hh=>fin e w' hh
 ·exact fin _ _ hc
 ·exact hc
end
theorem ForgH.one {H : List AObj} {id : Nat} {o0 o1 : AObj} (h : H[id]? = some o0) (hf : Forg o0 o1) : ForgH H (H.set id o1):=by
 refine ⟨by simp,fun i o o2 h1 h2=>?_⟩
 by_cases e : i = id
 ·subst e
  rw [h] at h1;cases h1
  rw [List.getElem?_set_self (List.getElem?_eq_some_iff.1 h).1] at h2
  cases h2;exact hf
 ·rw [List.getElem?_set_ne (Ne.symm e),h1] at h2
  cases h2;exact .refl _
theorem ForgH.refl (H : List AObj) : ForgH H H:=⟨rfl,fun i o o2 h1 h2=>by rw [h1] at h2;cases h2;exact .refl _⟩
inductive Bel (n : Nat) : AVal → Prop where
 | closed (v : AVal) (h : v.closed = true) : Bel n v
 | sl (id ep off len : Nat) (h : id < n) : Bel n (.sl id ep off len)
 | ptr (id ep idx fld : Nat) (h : id < n) : Bel n (.ptr id ep idx fld)
 | mp (id : Nat) (h : id < n) : Bel n (.mp id)
 | it (id : Nat) (h : id < n) : Bel n (.it id)
 | agg (cs : List AVal) (h : ∀ c ∈ cs,Bel n c) : Bel n (.agg cs)
 | tuple (cs : List AVal) (h : ∀ c ∈ cs,Bel n c) : Bel n (.tuple cs)
def AObj.Bel (n : Nat) : AObj → Prop
 | .arr _ es=>∀ e ∈ es,∀ d ∈ e,AW.Bel n d
 | .map kvs=>∀ kv ∈ kvs,AW.Bel n kv.2
 | .iter _ _=>True
 | _=>False
section
variable {P : Program} {C : Nat → Nat} {τ : Nat → Option Loc} {H K G : List AObj} {w : World}
theorem Rel.cutB {d : AVal} (h : Bel K.length d) : ∀ {v : Value},Rel C w τ (K ++ G) d v → Rel C w τ K d v:=by
 have get : ∀ {id : Nat} {o : AObj},id < K.length → (K ++ G)[id]? = some o → K[id]? = some o:=fun h1 h2=>by rwa [List.getElem?_append_left h1] at h2
 induction h with
 | closed d h=>intro v hr;exact hr.closed h (fun _=>Nat.le_refl _) (fun _ _ _=>rfl)
 | sl id ep off len h =>
  intro v hr
  cases hr with
  | rd hr=>cases hr
  | sl _ _ _ _ a cap esz es ho hep hh=>exact .sl id ep off len a cap esz es (get h ho) hep hh
 | ptr id ep idx fld h =>
  intro v hr
  cases hr with
  | rd hr=>cases hr
  | ptr _ _ _ _ a esz es ho hep hh=>exact .ptr id ep idx fld a esz es (get h ho) hep hh
 | mp id h =>
  intro v hr
  cases hr with
  | rd hr=>cases hr
  | mp _ o l ho hm ht=>exact .mp id o l (get h ho) hm ht
 | it id h =>
  intro v hr
  cases hr with
  | rd hr=>cases hr
  | it _ s pos l ho ht=>exact .it id s pos l (get h ho) ht
  | mt _ m c sn l ho ht=>exact .mt id m c sn l (get h ho) ht
 | agg cs h ih =>
  intro v hr
  obtain ⟨us,rfl,hl,hr⟩:=hr.agg_inv
  exact .agg _ _ hl fun i c u hc hu=>ih c (List.mem_of_getElem? hc) (hr i c u hc hu)
 | tuple cs h ih =>
  intro v hr
  obtain ⟨us,rfl,hl,hr⟩:=hr.tuple_inv
  exact .tuple _ _ hl fun i c u hc hu=>ih c (List.mem_of_getElem? hc) (hr i c u hc hu)
theorem Rel.narrow2 {C1 : Nat → Nat} {w1 : World} {τ1 : Nat → Option Loc} (hle : H.length ≤ K.length) {d : AVal} {v : Value} (h : Rel C1 w1 τ1 (K ++ G) d v) : (∃ v0,Rel C w τ H d v0) → Rel C1 w1 τ1 K d v:=by
 have get : ∀ {id : Nat} {o o' : AObj},H[id]? = some o → (K ++ G)[id]? = some o' → K[id]? = some o':=by
  intro id o o' h1 h2
  rw [List.getElem?_append_left (Nat.lt_of_lt_of_le (List.getElem?_eq_some_iff.1 h1).1 hle)] at h2
  exact h2
 induction h with
 | rd h=>exact fun _=>.rd h
 | undef v=>exact fun _=>.undef v
 | sl id ep off len a cap esz es ho hep h =>
  rintro ⟨v0,h0⟩
  cases h0 with
  | rd h0=>cases h0
  | sl _ _ _ _ a0 cap0 esz0 es0 ho0 hep0 h0=>exact .sl id ep off len a cap esz es (get ho0 ho) hep h
 | ptr id ep idx fld a esz es ho hep h =>
  rintro ⟨v0,h0⟩
  cases h0 with
  | rd h0=>cases h0
  | ptr _ _ _ _ a0 esz0 es0 ho0 hep0 h0=>exact .ptr id ep idx fld a esz es (get ho0 ho) hep h
 | it id s pos l ho ht =>
  rintro ⟨v0,h0⟩
  cases h0 with
  | rd h0=>cases h0
  | it _ s0 p0 l0 ho0 ht0=>exact .it id s pos l (get ho0 ho) ht
  | mt _ m0 c0 s0 l0 ho0 ht0=>exact .it id s pos l (get ho0 ho) ht
 | mt id mid ck seen l ho ht =>
  rintro ⟨v0,h0⟩
  cases h0 with
  | rd h0=>cases h0
  | it _ s0 p0 l0 ho0 ht0=>exact .mt id mid ck seen l (get ho0 ho) ht
  | mt _ m0 c0 s0 l0 ho0 ht0=>exact .mt id mid ck seen l (get ho0 ho) ht
 | slc id ep off len cap a esz es ho hep h =>
  rintro ⟨v0,h0⟩
  cases h0 with
  | rd h0=>cases h0
  | slc _ _ _ _ _ a0 esz0 es0 ho0 hep0 h0=>exact .slc id ep off len cap a esz es (get ho0 ho) hep h
 | mp id o l ho hm ht =>
  rintro ⟨v0,h0⟩
  cases h0 with
  | rd h0=>cases h0
  | mp _ o0 l0 ho0 hm0 ht0=>exact .mp id o l (get ho0 ho) hm ht
 | agg cs vs hl h ih =>
  rintro ⟨v0,h0⟩
  cases h0 with
  | rd h0=>cases h0
  | agg _ vs0 hl0 h0=>exact .agg cs vs hl fun i c u hc hu=>ih i c u hc hu ⟨_,h0 i c vs0[i]! hc (by have:=(List.getElem?_eq_some_iff.1 hc).1;rw [getElem!_pos vs0 i (by omega)];exact Array.getElem?_eq_getElem (by omega))⟩
 | tuple cs vs hl h ih =>
  rintro ⟨v0,h0⟩
  cases h0 with
  | rd h0=>cases h0
  | tuple _ vs0 hl0 h0=>exact .tuple cs vs hl fun i c u hc hu=>ih i c u hc hu ⟨_,h0 i c vs0[i]! hc (by have:=(List.getElem?_eq_some_iff.1 hc).1;rw [getElem!_pos vs0 i (by omega)];exact Array.getElem?_eq_getElem (by omega))⟩
 | fn f cs vs hl h ih =>
  rintro ⟨v0,h0⟩
  cases h0 with
  | rd h0 =>
   cases h0
   exact .fn f [] vs hl fun i c u hc=>by simp at hc
  | fn _ _ vs0 hl0 h0=>exact .fn f cs vs hl fun i c u hc hu=>ih i c u hc hu ⟨_,h0 i c vs0[i]! hc (by have:=(List.getElem?_eq_some_iff.1 hc).1;rw [getElem!_pos vs0 i (by omega)];exact Array.getElem?_eq_getElem (by omega))⟩
theorem ACalls.cut {f : FuncId} {args : List AVal} {Q : AVal → List AObj → Prop} (h : ACalls P f args H (fun r H'=>∃ K G,H' = K ++ G ∧ Q r K ∧ H.length ≤ K.length ∧ Bel K.length r ∧ ∀ (i : Nat) (o : AObj),K[i]? = some o → H[i]? = some o ∨ o.Bel K.length)) :
  ACalls P f args H Q:=by
 intro C τ w vs hw hlen hr
 have hc:=h C τ w vs hw hlen hr
 have fin : ∀ (e : Ending) (w' : World),(∃ v r C' τ' H',e = .returned v ∧ (∃ K G,H' = K ++ G ∧ Q r K ∧ H.length ≤ K.length ∧ Bel K.length r ∧ ∀ (i : Nat) (o : AObj),K[i]? = some o → H[i]? = some o ∨ o.Bel K.length) ∧ Rel C' w' τ' H' r v ∧ St w (PrCall τ H w) C' τ' H' w' ∧ Step C τ H w C' τ' H' w') →
   ∃ v r C' τ' H',e = .returned v ∧ Q r H' ∧ Rel C' w' τ' H' r v ∧ St w (PrCall τ H w) C' τ' H' w' ∧ Step C τ H w C' τ' H' w':=by
  rintro e w' ⟨v,r,C1,τ1,H1,rfl,⟨K,G,rfl,hQ,hle,hbr,hK⟩,hrel,hst,hstep⟩
  have hmem : ∀ {id : Nat} {o : AObj},K[id]? = some o → (K ++ G)[id]? = some o:=fun h=>by rw [List.getElem?_append_left (List.getElem?_eq_some_iff.1 h).1];exact h
  have hlt : ∀ {id : Nat},id < K.length → id < (K ++ G).length:=fun h=>by rw [List.length_append];omega
  have hkept : ∀ {id : Nat} {o : AObj},H[id]? = some o → ∃ o',K[id]? = some o' ∧ o.after o' (τ id) (τ1 id):=by
   intro id o ho
   obtain ⟨o',h1,h2⟩:=hstep.obj id o ho
   rw [List.getElem?_append_left (Nat.lt_of_lt_of_le (List.getElem?_eq_some_iff.1 ho).1 hle)] at h1
   exact ⟨o',h1,h2⟩
  have hτ : ∀ {id : Nat} {o : AObj},H[id]? = some o → K[id]? = some o → τ1 id = τ id:=by
   intro id o ho hk
   obtain ⟨o',h1,h2⟩:=hkept ho
   rw [hk] at h1
   cases h1
   cases o with
   | arr esz es=>exact h2.2.2 rfl
   | iter s p=>exact h2
   | map kvs=>exact h2
   | bmap kvs bs ck=>exact h2
   | mit m ck seen=>exact h2.2
  refine ⟨v,r,C1,τ1,K,rfl,hQ,hrel.cutB hbr,⟨⟨fun id o h=>hst.wf.ok id o (hmem h),fun id o h=>hst.wf.virt id o (hmem h),fun id o l h1 h2=>?_,fun id l h1=>hst.wf.comm id l (hlt h1),fun i j li lj h1 h2=>hst.wf.inj i j li lj (hlt h1) (hlt h2),hst.wf.lt⟩,
   hst.fr,fun b ⟨id,l,h1,h2,h3⟩=>hst.own b ⟨id,l,hlt h1,h2,h3⟩,hst.plt⟩,⟨hstep.le,hstep.cell,fun id o ho=>hkept ho,hstep.grow,hstep.old⟩⟩
  have hob:=hst.wf.objs id o l (hmem h1) h2
  rcases hK id o h1 with ho | hb
  ·have hob0:=hw.objs id o l ho (by rw [← hτ ho h1];exact h2)
   cases o with
   | iter s p=>exact hob
   | map kvs =>
    obtain ⟨kvs1,es,clock,pp,g1,g2,g3,g4⟩:=hob
    obtain ⟨kvs0,es0,clock0,pp0,k1,k2,k3,_⟩:=hob0
    refine ⟨kvs1,es,clock,pp,g1,g2,fun i e kv he hkv=>⟨(g3 i e kv he hkv).1,?_⟩,g4⟩
    obtain ⟨j,hj⟩:=List.getElem?_of_mem (pp0.mem_iff.2 (pp.mem_iff.1 (List.mem_of_getElem? hkv)))
    have hjl:=(List.getElem?_eq_some_iff.1 hj).1
    have hi0 : j < es0.size:=by omega
    exact (g3 i e kv he hkv).2.narrow2 hle ⟨_,(k3 j es0[j] kv (Array.getElem?_eq_getElem hi0) hj).2⟩
   | bmap kvs bs ck =>
    obtain ⟨es,g1,g2,g3,g4⟩:=hob
    obtain ⟨es0,k1,k2,k3,_⟩:=hob0
    refine ⟨es,g1,g2,fun i e kv he hkv=>⟨(g3 i e kv he hkv).1,?_⟩,g4⟩
    have hi:=(List.getElem?_eq_some_iff.1 hkv).1
    have hi0 : i < es0.size:=by omega
    exact (g3 i e kv he hkv).2.narrow2 hle ⟨_,(k3 i es0[i] kv (Array.getElem?_eq_getElem hi0) hkv).2⟩
   | mit m ck seen =>
    cases m with
    | none=>exact hob
    | some m =>
     obtain ⟨om,lm,q1,q2,q3,q4⟩:=hob
     obtain ⟨om0,lm0,p1,p2,p3,p4⟩:=hob0
     rw [List.getElem?_append_left (Nat.lt_of_lt_of_le (List.getElem?_eq_some_iff.1 p1).1 hle)] at q1
     exact ⟨om,lm,q1,q2,q3,q4⟩
   | arr esz es =>
    obtain ⟨g1,cells,elem,fz,g2,g3,g4,g5⟩:=hob
    obtain ⟨_,_,_,_,_,_,_,k5⟩:=hob0
    refine ⟨g1,cells,elem,fz,g2,g3,g4,fun i j e d he hd=>?_⟩
    obtain ⟨u,hu,hru⟩:=g5 i j e d he hd
    obtain ⟨u0,_,hru0⟩:=k5 i j e d he hd
    exact ⟨u,hu,hru.narrow2 hle ⟨u0,hru0⟩⟩
  ·cases o with
   | iter s p=>exact hob
   | bmap _ _ _=>exact hb.elim
   | mit _ _ _=>exact hb.elim
   | map kvs =>
    obtain ⟨kvs1,es,clock,pp,g1,g2,g3,g4⟩:=hob
    exact ⟨kvs1,es,clock,pp,g1,g2,fun i e kv he hkv=>⟨(g3 i e kv he hkv).1,(g3 i e kv he hkv).2.cutB (hb kv (pp.mem_iff.1 (List.mem_of_getElem? hkv)))⟩,g4⟩
   | arr esz es =>
    obtain ⟨g1,cells,elem,fz,g2,g3,g4,g5⟩:=hob
    refine ⟨g1,cells,elem,fz,g2,g3,g4,fun i j e d he hd=>?_⟩
    obtain ⟨u,hu,hru⟩:=g5 i j e d he hd
    exact ⟨u,hu,hru.cutB (hb e (List.mem_of_getElem? he) d (List.mem_of_getElem? hd))⟩
 unfold CallsX at hc ⊢
 split at hc
 ·exact Calls.mono hc fun e w' hh=>fin e w' hh
 ·exact fin _ _ hc
 ·exact hc
end
def Rng {α : Type} (l : List α) (bs seen : List Nat) (pre : List α) : Prop :=
 ∃ done : List Nat,done.Nodup ∧ (∀ i ∈ done,i < l.length) ∧ seen = done.map (fun i=>bs.getD i 0) ∧ pre = done.filterMap (fun i=>l[i]?)
section
variable {α : Type} {l : List α} {bs seen : List Nat} {pre : List α}
theorem Rng.start : Rng l bs [] []:=⟨[],by simp,by simp,rfl,rfl⟩
theorem getD_some {bs : List Nat} {i b : Nat} (h : bs[i]? = some b) : bs.getD i 0 = b:=by rw [List.getD_eq_getElem?_getD,h];rfl
theorem Rng.step (h : Rng l bs seen pre) {i b : Nat} {x : α} (hx : l[i]? = some x) (hb : bs[i]? = some b) (hn : b ∉ seen) : Rng l bs (seen ++ [b]) (pre ++ [x]):=by
 obtain ⟨done,h1,h2,rfl,rfl⟩:=h
 refine ⟨done ++ [i],?_,fun j hj=>?_,by rw [List.map_append,List.map_cons,List.map_nil,getD_some hb],by rw [List.filterMap_append];simp [hx]⟩
 ·rw [List.nodup_append]
  refine ⟨h1,by simp,fun a ha c hc=>?_⟩
  simp at hc;subst hc
  rintro rfl
  exact hn (List.mem_map.2 ⟨a,ha,getD_some hb⟩)
 ·rcases List.mem_append.1 hj with hj | hj
  ·exact h2 j hj
  ·simp at hj;subst hj;exact (List.getElem?_eq_some_iff.1 hx).1
theorem filterMap_range {l : List α} : ∀ (n : Nat),n = l.length → (List.range n).filterMap (fun i=>l[i]?) = l:=by
 induction l with
 | nil=>intro n h;subst h;rfl
 | cons x l ih =>
  intro n h
  subst h
  rw [List.length_cons,List.range_succ_eq_map,List.filterMap_cons]
  simp only [List.getElem?_cons_zero,List.filterMap_map]
  congr 1
  have:=ih _ rfl
  simpa [Function.comp_def] using this
theorem Rng.le (h : Rng l bs seen pre) : pre.length = seen.length ∧ pre.length ≤ l.length ∧ ∃ rest,(pre ++ rest).Perm l:=by
 obtain ⟨done,h1,h2,rfl,rfl⟩:=h
 have hlen : (done.filterMap (fun i=>l[i]?)).length = done.length:=by
  clear h1
  induction done with
  | nil=>rfl
  | cons i d ih =>
   have hi:=h2 i (by simp)
   rw [List.filterMap_cons,List.getElem?_eq_getElem hi]
   simp only [List.length_cons]
   rw [ih fun j hj=>h2 j (by simp [hj])]
 obtain ⟨rest,hr⟩ : ∃ rest,(done ++ rest).Perm (List.range l.length):=by
  refine ⟨(List.range l.length).filter (fun i=>!done.contains i),?_⟩
  rw [List.perm_ext_iff_of_nodup]
  ·intro a
   simp only [List.mem_append,List.mem_filter,List.mem_range,Bool.not_eq_true',List.contains_eq_mem,decide_eq_false_iff_not]
   constructor
   ·rintro (h | ⟨h,_⟩)
    ·exact h2 a h
    ·exact h
   ·intro h
    by_cases ha : a ∈ done
    ·exact .inl ha
    ·exact .inr ⟨h,ha⟩
  ·rw [List.nodup_append]
   refine ⟨h1,List.nodup_range.filter _,fun a ha c hc=>?_⟩
   simp at hc
   rintro rfl
   exact hc.2 ha
  ·exact List.nodup_range
 have hp:=hr.filterMap (fun i=>l[i]?)
 rw [List.filterMap_append,filterMap_range _ rfl] at hp
 refine ⟨by rw [hlen,List.length_map],?_,_,hp⟩
 have:=hp.length_eq
 rw [List.length_append] at this
 omega
theorem Rng.lt (h : Rng l bs seen pre) {i b : Nat} {x : α} (hx : l[i]? = some x) (hb : bs[i]? = some b) (hn : b ∉ seen) : pre.length < l.length:=by
 have:=(h.step hx hb hn).le.2.1
 simp at this;omega
theorem nodup_len : ∀ (a b : List Nat),a.Nodup → (∀ x ∈ a,x ∈ b) → a.length ≤ b.length
 | [],_,_,_=>Nat.zero_le _
 | x :: a,b,hn,hs=>by
  rw [List.nodup_cons] at hn
  have hx : x ∈ b:=hs x (by simp)
  have:=nodup_len a (b.erase x) hn.2 fun y hy=>by
   have hne : y ≠ x:=fun e=>hn.1 (e ▸ hy)
   exact (List.mem_erase_of_ne hne).2 (hs y (by simp [hy]))
  rw [List.length_erase_of_mem hx] at this
  have:=List.length_pos_of_mem hx
  simp;omega
theorem Rng.over (h : Rng l bs seen pre) (hl : bs.length = l.length) (hnd : bs.Nodup) (ho : ∀ b ∈ bs,b ∈ seen) : pre.Perm l:=by
 have hle:=h.le
 obtain ⟨rest,hr⟩:=hle.2.2
 have hge : l.length ≤ seen.length:=by
  rw [← hl]
  exact nodup_len bs seen hnd ho
 have h0 : rest = []:=by
  have:=hr.length_eq
  rw [List.length_append] at this
  exact List.eq_nil_of_length_eq_zero (by omega)
 rw [h0,List.append_nil] at hr
 exact hr
end
def HasX (P : Program) (f : FuncId) (e : Array Value → Sem Value) : Prop :=
 ∃ fn,P.funcs[f]? = some fn ∧ (fn.name == "runtime.NumGoroutine") = false ∧ fn.body = none ∧ Extern.findNext fn = none ∧ Extern.find fn = some e
theorem acalls_ext {P : Program} {f : FuncId} {e : Array Value → Sem Value} {args : List AVal} {H : List AObj} {R : AVal} (hf : HasX P f e)
  (h : ∀ (C : Nat → Nat) (τ : Nat → Option Loc) (w : World) (vs : Array Value),args.length = vs.size → (∀ (i : Nat) (a : AVal) (v : Value),args[i]? = some a → vs[i]? = some v → Rel C w τ H a v) →
   ∃ v,(e vs).run P w = .ok v w ∧ Rel C w τ H R v) : ACalls P f args H (fun r H'=>r = R ∧ H' = H):=by
 obtain ⟨fn,hfn,hname,hbody,hnext,hfind⟩:=hf
 intro C τ w vs hw hl hr
 obtain ⟨v,hrun,hrel⟩:=h C τ w vs hl hr
 have hcall : (callFunc f vs).run P w = .ok (.value v) w:=by
  simp only [callFunc,Sem.run_bind,run_program,Result.andThen_ok,hfn,hname,Bool.false_eq_true,if_false,hbody,Option.isNone_none,if_true,run_mark,hnext,hfind,hrun,Sem.run_pure]
 unfold CallsX
 rw [hcall]
 exact ⟨v,R,C,τ,H,rfl,⟨rfl,rfl⟩,hrel,St.start hw,Step.refl⟩
theorem rel_str {C : Nat → Nat} {w : World} {τ : Nat → Option Loc} {H : List AObj} {s : ByteArray} {v : Value} (h : Rel C w τ H (.str s) v) : v = .string s:=by
 cases h with
 | rd h=>cases h;rfl
theorem rel_int {C : Nat → Nat} {w : World} {τ : Nat → Option Loc} {H : List AObj} {k : IntKind} {n : Int} {v : Value} (h : Rel C w τ H (.int k n) v) : v = .int k n:=by
 cases h with
 | rd h=>cases h;rfl
theorem indexByteString_spec {P : Program} {f : FuncId} (hf : HasX P f Extern.BytealgIndexByte.indexByte) (s : ByteArray) (c : Int) (H : List AObj) :
  ACalls P f [.str s,.int .u8 c] H (fun r H'=>r = .int .i64 (Lib.indexByte s.data.toList c.toNat.toUInt8) ∧ H' = H):=by
 refine acalls_ext hf fun C τ w vs hl hr=>?_
 obtain ⟨l⟩:=vs
 match l,hl with
 | [a,b],_ =>
  cases rel_str (hr 0 _ a rfl rfl)
  cases rel_int (hr 1 _ b rfl rfl)
  exact ⟨_,Lib.run_indexByteString s c w,.rd (.int _ _)⟩
end Go.AW
namespace Go.AW
/-- A function of which only the number is known. -/
structure RawF where
 id : FuncId
def iD (d : Nat) (o : AOp) : AIns:=⟨some d,o,none⟩
def iN (o : AOp) : AIns:=⟨none,o,none⟩
def jD (d : Nat) (o : AOp) : AIns × List Nat:=(⟨some d,o,none⟩,[])
def iM (d x : Nat) : AIns:=⟨some d,.move (.t x),none⟩
def jM (d x : Nat) : AIns × List Nat:=(⟨some d,.move (.t x),none⟩,[])
def cI (n : Int) : AOpd:=.c (.int .i64 n)
def c_z0g : AFunc:=⟨41,[.tmp 2],(.seq (.region [ iD 2 (.move (.c (.bool false)))]) (.seq (.seq (.region [ iM 6 0,iD 7 (.lenS (.t 6)),iD 8 (.bin .gtr (.t 7) (cI 24))]) (.cond (.t 8) (.seq (.region [ iD 2 (.move (.c (.bool false)))]) .ret) .skip)) (.seq (.seq (.region [ iM 9 0,iD 10 (.range (.t 9))]) (.block 0 (.loop (.seq (.region [ iD 11 (.next (.t 10)),iD 12 (.extract (.t 11) 0)]) (.seq (.cond (.t 12) .skip (.exit 0)) (.block 1 (.seq (.region [ iD 13 (.extract (.t 11) 1),iD 14 (.extract (.t 11) 2),iM 3 13,iM 4 14]) (.seq (.region [ iM 15 4,iD 16 (.bin .geq (.t 15) (.c (.int .i32 97))),iM 17 16,⟨(some 18),.move (.t 4),some (some 17,true)⟩,⟨(some 19),.bin .leq (.t 18) (.c (.int .i32 122)),some (some 17,true)⟩,iD 20 (.pick (.t 17) (.t 19) (.c (.bool false))),iM 5 20]) (.seq (.region [ iM 21 5,iD 22 (.un .not (.t 21)),iM 23 22,⟨(some 24),.move (.t 3),some (some 23,true)⟩,⟨(some 25),.bin .eql (.t 24) (cI 0),some (some 23,true)⟩,⟨(some 26),.move (.t 25),some (some 23,true)⟩,⟨(some 27),.move (.t 4),some (some 26,false)⟩,⟨(some 28),.bin .neq (.t 27) (.c (.int .i32 95)),some (some 26,false)⟩,⟨(some 29),.move (.t 28),some (some 26,false)⟩,⟨(some 30),.move (.t 4),some (some 29,true)⟩,⟨(some 31),.bin .lss (.t 30) (.c (.int .i32 48)),some (some 29,true)⟩,⟨(some 32),.move (.t 31),some (some 29,true)⟩,⟨(some 33),.move (.t 4),some (some 32,false)⟩,⟨(some 34),.bin .gtr (.t 33) (.c (.int .i32 57)),some (some 32,false)⟩,⟨(some 35),.pick (.t 32) (.c (.bool true)) (.t 34),some (some 29,true)⟩,⟨(some 36),.pick (.t 29) (.t 35) (.c (.bool false)),some (some 26,false)⟩,⟨(some 37),.pick (.t 26) (.c (.bool true)) (.t 36),some (some 23,true)⟩,iD 38 (.pick (.t 23) (.t 37) (.c (.bool false)))]) (.cond (.t 38) (.seq (.region [ iD 2 (.move (.c (.bool false)))]) .ret) .skip)))))))))) (.seq (.region [ iM 39 0,iD 40 (.bin .neq (.t 39) (.c (.str (bs [])))),iM 2 40]) .ret))))⟩
structure F_z0g (P : Program) where
 id : FuncId
 has : Has P id [] c_z0g
structure F_z05 (P : Program) where
 id : FuncId
 has : HasX P id Extern.BytealgIndexByte.indexByte
def c_z1a (f_z05 : FuncId) : AFunc:=⟨8,[.tmp 4],(.seq (.region [ iD 4 (.move (cI 0))]) (.seq (.region [ iM 5 0,iM 6 1,iD 7 (.call f_z05 [(.t 5),(.t 6)]),iM 4 7]) .ret))⟩
structure F_z1a (P : Program) where
 id : FuncId
 z05 : F_z05 P
 has : Has P id [] (c_z1a z05.id)
def c_z19 (f_z1a : FuncId) (f_bytealg_IndexString : FuncId) (f_bytealg_IndexRabinKarp_string : FuncId) : AFunc:=⟨143,[.tmp 4],(.seq (.region [ iD 4 (.move (cI 0))]) (.seq (.region [ iM 14 1,iD 15 (.lenS (.t 14)),iM 5 15]) (.seq (.block 0 (.seq (.region [ iM 17 5,iD 18 (.bin .eql (.t 17) (cI 0)),iM 19 18,⟨(some 20),.move (.t 1),some (some 19,false)⟩,⟨(some 21),.move (.t 0),some (some 19,false)⟩,⟨(some 22),.bin .eql (.t 20) (.t 21),some (some 19,false)⟩,iD 23 (.pick (.t 19) (.c (.bool true)) (.t 22)),iM 16 23]) (.cond (.t 16) (.seq (.region [ iD 4 (.move (cI 0))]) .ret) (.seq (.region [ iM 25 5,iD 26 (.bin .eql (.t 25) (cI 1)),iM 24 26]) (.cond (.t 24) (.seq (.region [ iM 27 0,iM 28 1,iD 29 (.indexStr (.t 28) (cI 0)),iD 30 (.call f_z1a [(.t 27),(.t 29)]),iM 4 30]) .ret) (.seq (.region [ iM 32 5,iM 33 0,iD 34 (.lenS (.t 33)),iD 35 (.bin .geq (.t 32) (.t 34)),iM 31 35]) (.cond (.t 31) (.seq (.region [ iD 4 (.move (.c (.int .i64 (-1))))]) .ret) (.seq .stuck (.cond (.t 36) (.seq (.region [ iM 45 0,iM 46 1,iD 47 (.call f_bytealg_IndexString [(.t 45),(.t 46)]),iM 4 47]) .ret) .skip))))))))) (.seq (.region [ iM 48 1,iD 49 (.indexStr (.t 48) (cI 0)),iM 6 49]) (.seq (.region [ iM 50 1,iD 51 (.indexStr (.t 50) (cI 1)),iM 7 51]) (.seq (.region [ iD 8 (.move (cI 0))]) (.seq (.region [ iM 52 0,iD 53 (.lenS (.t 52)),iM 54 5,iD 55 (.bin .sub (.t 53) (.t 54)),iD 56 (.bin .add (.t 55) (cI 1)),iM 9 56]) (.seq (.region [ iD 10 (.move (cI 0))]) (.seq (.block 1 (.loop (.seq (.seq (.region [ iM 57 8,iM 58 9,iD 59 (.bin .lss (.t 57) (.t 58))]) (.cond (.t 59) .skip (.exit 1))) (.block 2 (.seq (.seq (.region [ iM 60 0,iM 61 8,iD 62 (.indexStr (.t 60) (.t 61)),iM 63 6,iD 64 (.bin .neq (.t 62) (.t 63))]) (.cond (.t 64) (.seq (.region [ iM 65 0,iM 66 8,iD 67 (.bin .add (.t 66) (cI 1)),iM 68 9,iD 69 (.sliceStr (.t 65) (some (.t 67)) (some (.t 68))),iM 70 6,iD 71 (.call f_z1a [(.t 69),(.t 70)]),iM 11 71]) (.seq (.seq (.region [ iM 72 11,iD 73 (.bin .lss (.t 72) (cI 0))]) (.cond (.t 73) (.seq (.region [ iD 4 (.move (.c (.int .i64 (-1))))]) .ret) .skip)) (.region [ iM 74 8,iM 75 11,iD 76 (.bin .add (.t 75) (cI 1)),iD 77 (.bin .add (.t 74) (.t 76)),iM 8 77]))) .skip)) (.seq (.seq (.region [ iM 78 0,iM 79 8,iD 80 (.bin .add (.t 79) (cI 1)),iD 81 (.indexStr (.t 78) (.t 80)),iM 82 7,iD 83 (.bin .eql (.t 81) (.t 82)),iM 84 83,⟨(some 85),.move (.t 0),some (some 84,true)⟩,⟨(some 86),.move (.t 8),some (some 84,true)⟩,⟨(some 87),.move (.t 8),some (some 84,true)⟩,⟨(some 88),.move (.t 5),some (some 84,true)⟩,⟨(some 89),.bin .add (.t 87) (.t 88),some (some 84,true)⟩,⟨(some 90),.sliceStr (.t 85) (some (.t 86)) (some (.t 89)),some (some 84,true)⟩,⟨(some 91),.move (.t 1),some (some 84,true)⟩,⟨(some 92),.bin .eql (.t 90) (.t 91),some (some 84,true)⟩,iD 93 (.pick (.t 84) (.t 92) (.c (.bool false)))]) (.cond (.t 93) (.seq (.region [ iM 94 8,iM 4 94]) .ret) .skip)) (.seq (.region [ iM 95 8,iD 96 (.bin .add (.t 95) (cI 1)),iM 8 96]) (.seq (.region [ iM 97 10,iD 98 (.bin .add (.t 97) (cI 1)),iM 10 98]) (.seq .stuck (.cond (.t 107) (.seq (.region [ iM 108 0,iM 109 8,iD 110 (.sliceStr (.t 108) (some (.t 109)) none),iM 111 1,iD 112 (.call f_bytealg_IndexString [(.t 110),(.t 111)]),iM 12 112]) (.seq (.seq (.region [ iM 113 12,iD 114 (.bin .geq (.t 113) (cI 0))]) (.cond (.t 114) (.seq (.region [ iM 115 12,iM 116 8,iD 117 (.bin .add (.t 115) (.t 116)),iM 4 117]) .ret) .skip)) (.seq (.region [ iD 4 (.move (.c (.int .i64 (-1))))]) .ret))) (.seq .stuck (.cond (.t 132) (.seq (.region [ iM 133 0,iM 134 8,iD 135 (.sliceStr (.t 133) (some (.t 134)) none),iM 136 1,iD 137 (.call f_bytealg_IndexRabinKarp_string [(.t 135),(.t 136)]),iM 13 137]) (.seq (.seq (.region [ iM 138 13,iD 139 (.bin .lss (.t 138) (cI 0))]) (.cond (.t 139) (.seq (.region [ iD 4 (.move (.c (.int .i64 (-1))))]) .ret) .skip)) (.seq (.region [ iM 140 8,iM 141 13,iD 142 (.bin .add (.t 140) (.t 141)),iM 4 142]) .ret))) .skip)))))))))))) (.seq (.region [ iD 4 (.move (.c (.int .i64 (-1))))]) .ret))))))))))⟩
structure F_z19 (P : Program) where
 id : FuncId
 z1a : F_z1a P
 bytealg_IndexString : FuncId
 bytealg_IndexRabinKarp_string : RawF
 has : Has P id [] (c_z19 z1a.id bytealg_IndexString bytealg_IndexRabinKarp_string.id)
def c_z18 (f_z19 : FuncId) : AFunc:=⟨23,[.tmp 4,.tmp 5,.tmp 6],(.seq (.region [ iD 4 (.move (.c (.str (bs [])))),iD 5 (.move (.c (.str (bs [])))),iD 6 (.move (.c (.bool false)))]) (.seq (.seq (.region [ iM 8 0,iM 9 1,iD 10 (.call f_z19 [(.t 8),(.t 9)]),iM 7 10]) (.seq (.region [ iM 11 7,iD 12 (.bin .geq (.t 11) (cI 0))]) (.cond (.t 12) (.seq (.draw [ jM 13 0,jM 14 7,jD 15 (.sliceStr (.t 13) none (some (.t 14))),jM 16 0,jM 17 7,jM 18 1,jD 19 (.lenS (.t 18)),jD 20 (.bin .add (.t 17) (.t 19)),jD 21 (.sliceStr (.t 16) (some (.t 20)) none),jM 4 15,jM 5 21,jD 6 (.move (.c (.bool true)))]) .ret) .skip))) (.seq (.region [ iM 22 0,iM 4 22,iD 5 (.move (.c (.str (bs [])))),iD 6 (.move (.c (.bool false)))]) .ret)))⟩
structure F_z18 (P : Program) where
 id : FuncId
 z19 : F_z19 P
 has : Has P id [] (c_z18 z19.id)
def c_z17 (f_z18 : FuncId) : AFunc:=⟨13,[.tmp 4,.tmp 5,.tmp 6],(.seq (.region [ iD 4 (.move (.c (.str (bs [])))),iD 5 (.move (.c (.str (bs [])))),iD 6 (.move (.c (.bool false)))]) (.seq (.region [ iM 7 0,iM 8 1,iD 9 (.call f_z18 [(.t 7),(.t 8)]),iD 10 (.extract (.t 9) 0),iD 11 (.extract (.t 9) 1),iD 12 (.extract (.t 9) 2),iM 4 10,iM 5 11,iM 6 12]) .ret))⟩
structure F_z17 (P : Program) where
 id : FuncId
 z18 : F_z18 P
 has : Has P id [] (c_z17 z18.id)
def c_z0h (f_z17 : FuncId) (f_z0g : FuncId) : AFunc:=⟨22,[.tmp 2],(.seq (.region [ iD 2 (.move (.c (.bool false)))]) (.seq (.region [ iM 7 0,iD 8 (.call f_z17 [(.t 7),(.c (.str (bs [46])))]),iM 6 8,iD 9 (.extract (.t 6) 0),iD 10 (.extract (.t 6) 1),iD 11 (.extract (.t 6) 2),iM 3 9,iM 4 10,iM 5 11]) (.seq (.region [ iM 12 3,iD 13 (.call f_z0g [(.t 12)]),iM 14 13,⟨(some 15),.move (.t 5),some (some 14,true)⟩,⟨(some 16),.un .not (.t 15),some (some 14,true)⟩,⟨(some 17),.move (.t 16),some (some 14,true)⟩,⟨(some 18),.move (.t 4),some (some 17,false)⟩,⟨(some 19),.call f_z0g [(.t 18)],some (some 17,false)⟩,⟨(some 20),.pick (.t 17) (.c (.bool true)) (.t 19),some (some 14,true)⟩,iD 21 (.pick (.t 14) (.t 20) (.c (.bool false))),iM 2 21]) .ret)))⟩
structure F_z0h (P : Program) where
 id : FuncId
 z17 : F_z17 P
 z0g : F_z0g P
 has : Has P id [] (c_z0h z17.id z0g.id)
def c_z25 : AFunc:=⟨58,[.tmp 2],(.seq (.region [ iD 2 (.move (.c (.bool false)))]) (.seq (.seq (.region [ iM 4 0,iD 5 (.lenS (.t 4)),iD 6 (.bin .lss (.t 5) (cI 1)),iM 7 6,⟨(some 8),.move (.t 0),some (some 7,false)⟩,⟨(some 9),.lenS (.t 8),some (some 7,false)⟩,⟨(some 10),.bin .gtr (.t 9) (cI 24),some (some 7,false)⟩,iD 11 (.pick (.t 7) (.c (.bool true)) (.t 10)),iM 12 11,⟨(some 13),.move (.t 0),some (some 12,false)⟩,⟨(some 14),.indexStr (.t 13) (cI 0),some (some 12,false)⟩,⟨(some 15),.bin .lss (.t 14) (.c (.int .u8 97)),some (some 12,false)⟩,iD 16 (.pick (.t 12) (.c (.bool true)) (.t 15)),iM 17 16,⟨(some 18),.move (.t 0),some (some 17,false)⟩,⟨(some 19),.indexStr (.t 18) (cI 0),some (some 17,false)⟩,⟨(some 20),.bin .gtr (.t 19) (.c (.int .u8 122)),some (some 17,false)⟩,iD 21 (.pick (.t 17) (.c (.bool true)) (.t 20))]) (.cond (.t 21) (.seq (.region [ iD 2 (.move (.c (.bool false)))]) .ret) .skip)) (.seq (.seq (.region [ iD 3 (.move (cI 0))]) (.block 0 (.loop (.seq (.seq (.region [ iM 22 3,iM 23 0,iD 24 (.lenS (.t 23)),iD 25 (.bin .lss (.t 22) (.t 24))]) (.cond (.t 25) .skip (.exit 0))) (.seq (.block 1 (.seq (.region [ iM 28 0,iM 29 3,iD 30 (.indexStr (.t 28) (.t 29)),iD 31 (.bin .geq (.t 30) (.c (.int .u8 97))),iM 32 31,⟨(some 33),.move (.t 0),some (some 32,true)⟩,⟨(some 34),.move (.t 3),some (some 32,true)⟩,⟨(some 35),.indexStr (.t 33) (.t 34),some (some 32,true)⟩,⟨(some 36),.bin .leq (.t 35) (.c (.int .u8 122)),some (some 32,true)⟩,iD 37 (.pick (.t 32) (.t 36) (.c (.bool false))),iD 38 (.un .not (.t 37)),iM 39 38,⟨(some 40),.move (.t 0),some (some 39,true)⟩,⟨(some 41),.move (.t 3),some (some 39,true)⟩,⟨(some 42),.indexStr (.t 40) (.t 41),some (some 39,true)⟩,⟨(some 43),.bin .geq (.t 42) (.c (.int .u8 48)),some (some 39,true)⟩,⟨(some 44),.move (.t 43),some (some 39,true)⟩,⟨(some 45),.move (.t 0),some (some 44,true)⟩,⟨(some 46),.move (.t 3),some (some 44,true)⟩,⟨(some 47),.indexStr (.t 45) (.t 46),some (some 44,true)⟩,⟨(some 48),.bin .leq (.t 47) (.c (.int .u8 57)),some (some 44,true)⟩,⟨(some 49),.pick (.t 44) (.t 48) (.c (.bool false)),some (some 39,true)⟩,⟨(some 50),.un .not (.t 49),some (some 39,true)⟩,iD 51 (.pick (.t 39) (.t 50) (.c (.bool false))),iM 52 51,⟨(some 53),.move (.t 0),some (some 52,true)⟩,⟨(some 54),.move (.t 3),some (some 52,true)⟩,⟨(some 55),.indexStr (.t 53) (.t 54),some (some 52,true)⟩,⟨(some 56),.bin .neq (.t 55) (.c (.int .u8 95)),some (some 52,true)⟩,iD 57 (.pick (.t 52) (.t 56) (.c (.bool false)))]) (.cond (.t 57) (.seq (.region [ iD 2 (.move (.c (.bool false)))]) .ret) .skip))) (.region [ iM 26 3,iD 27 (.bin .add (.t 26) (cI 1)),iM 3 27])))))) (.seq (.region [ iD 2 (.move (.c (.bool true)))]) .ret))))⟩
structure F_z25 (P : Program) where
 id : FuncId
 has : Has P id [] c_z25
def c_z26 (f_z25 : FuncId) : AFunc:=⟨27,[.tmp 2],(.seq (.region [ iD 2 (.move (.c (.bool false)))]) (.seq (.seq (.region [ iD 3 (.move (cI 0))]) (.block 0 (.loop (.seq (.seq (.region [ iM 4 3,iM 5 0,iD 6 (.lenS (.t 5)),iD 7 (.bin .lss (.t 4) (.t 6))]) (.cond (.t 7) .skip (.exit 0))) (.seq (.block 1 (.seq (.region [ iM 10 0,iM 11 3,iD 12 (.indexStr (.t 10) (.t 11)),iD 13 (.bin .eql (.t 12) (.c (.int .u8 46)))]) (.cond (.t 13) (.seq (.region [ iM 14 0,iM 15 3,iD 16 (.sliceStr (.t 14) none (some (.t 15))),iD 17 (.call f_z25 [(.t 16)]),iM 18 17,⟨(some 19),.move (.t 0),some (some 18,true)⟩,⟨(some 20),.move (.t 3),some (some 18,true)⟩,⟨(some 21),.bin .add (.t 20) (cI 1),some (some 18,true)⟩,⟨(some 22),.sliceStr (.t 19) (some (.t 21)) none,some (some 18,true)⟩,⟨(some 23),.call f_z25 [(.t 22)],some (some 18,true)⟩,iD 24 (.pick (.t 18) (.t 23) (.c (.bool false))),iM 2 24]) .ret) .skip))) (.region [ iM 8 3,iD 9 (.bin .add (.t 8) (cI 1)),iM 3 9])))))) (.seq (.region [ iM 25 0,iD 26 (.call f_z25 [(.t 25)]),iM 2 26]) .ret)))⟩
structure F_z26 (P : Program) where
 id : FuncId
 z25 : F_z25 P
 has : Has P id [] (c_z26 z25.id)
variable [Draws]
open Go.RowKit
inductive Sh where
 | bool
 | int (k : IntKind)
 | str
 | slice (fs : List Sh)
def shapeFields (P : Program) (sh : TypeId → Option (List Sh)) : List Field → Nat → Option (List Sh)
 | [],_=>some []
 | f :: r,off=>if f.offset = off then match sh f.type,shapeFields P sh r (off + P.cellsOf f.type) with
   | some a,some b=>if a.length = P.cellsOf f.type then some (a ++ b) else none
   | _,_=>none
  else none
def shapeOf (P : Program) : Nat → TypeId → Option (List Sh)
 | 0,_=>none
 | n + 1,t=>match P.underlying t with
  | some .bool=>some [.bool]
  | some (.int k)=>some [.int k]
  | some .string=>some [.str]
  | some (.slice e)=>match shapeOf P n e with
   | some l=>if l.length = P.cellsOf e ∧ P.cellsOf e ≠ 0 then some [.slice l] else none
   | none=>none
  | some (.struct fs)=>match shapeFields P (shapeOf P n) fs.toList 0 with
   | some l=>if l.length = P.cellsOf t then some l else none
   | none=>none
  | _=>none
inductive ShOk : Sh → AVal → Prop where
 | bool (b : Bool) : ShOk .bool (.bool b)
 | int (k : IntKind) (n : Int) (h : (Lit.int k n).wf = true) : ShOk (.int k) (.int k n)
 | str (s : ByteArray) (h : s.size ≤ maxLen) : ShOk .str (.str s)
 | list (fs : List Sh) (es : List (List AVal)) (hb : es.length ≤ maxLen) (hl : ∀ e ∈ es,e.length = fs.length)
   (h : ∀ (e : List AVal) (i : Nat) (f : Sh) (d : AVal),e ∈ es → fs[i]? = some f → e[i]? = some d → ShOk f d) : ShOk (.slice fs) (.list false fs.length es)
def allC (w : World) (b : Nat) : Nat :=
 match w.heap[b]? with
 | some (.cells cells _ _)=>cells.size
 | _=>0
theorem allC_cell {w : World} {b i : Nat} {v : Value} (h : w.cell? ⟨b,i,none⟩ = some v) : i < allC w b:=by
 unfold World.cell? at h
 unfold allC
 simp only [] at h
 split at h
 ·rename_i hh
  rw [hh]
  simp only []
  exact (Array.getElem?_eq_some_iff.1 h).1
 ·cases h
theorem ShOk.isCell {s : Sh} {a : AVal} (h : ShOk s a) : a.isCell = true:=by cases h <;> rfl
section
variable {H : Type} {enc : TypeId × Value → H} {P : Program} {w : World} {spare : Nat → Bool} {held : Bool}
theorem cells?_get {a : Addr} {n : Nat} {cs : List Value} (h : w.cells? 0 a n = some cs) : cs.length = n ∧ ∀ i,i < n → w.cell? (a.add i) = cs[i]?:=by
 unfold World.cells? at h
 rw [if_pos (Nat.zero_le _)] at h
 exact ⟨by simpa using Go.mapM_some_length h,fun i hi=>Go.mapM_some_get h i i (by simp [hi])⟩
def RdAll (w : World) (shs : List Sh) (cs : List Value) : Prop :=
 ∃ asv : List AVal,asv.length = cs.length ∧ shs.length = cs.length ∧ (∀ (i : Nat) (s : Sh) (a : AVal),shs[i]? = some s → asv[i]? = some a → ShOk s a) ∧
  ∀ (i : Nat) (a : AVal) (c : Value),asv[i]? = some a → cs[i]? = some c → Rd (allC w) w a c
theorem RdAll.one {s : Sh} {a : AVal} {c : Value} (h : ShOk s a) (hr : Rd (allC w) w a c) : RdAll w [s] [c]:=by
 refine ⟨[a],rfl,rfl,fun i s' a' h1 h2=>?_,fun i a' c' h1 h2=>?_⟩
 ·cases i with
  | zero=>simp at h1 h2;subst h1 h2;exact h
  | succ i=>simp at h1
 ·cases i with
  | zero=>simp at h1 h2;subst h1 h2;exact hr
  | succ i=>simp at h1
theorem RdAll.append {s1 s2 : List Sh} {c1 c2 : List Value} (h1 : RdAll w s1 c1) (h2 : RdAll w s2 c2) : RdAll w (s1 ++ s2) (c1 ++ c2):=by
 obtain ⟨a1,l1,m1,o1,r1⟩:=h1
 obtain ⟨a2,l2,m2,o2,r2⟩:=h2
 refine ⟨a1 ++ a2,by simp [l1,l2],by simp [m1,m2],fun i s a hs ha=>?_,fun i a c ha hc=>?_⟩
 ·by_cases hi : i < c1.length
  ·rw [List.getElem?_append_left (by omega)] at hs ha
   exact o1 i s a hs ha
  ·rw [List.getElem?_append_right (by omega)] at hs ha
   rw [m1] at hs;rw [l1] at ha
   exact o2 _ s a hs ha
 ·by_cases hi : i < c1.length
  ·rw [List.getElem?_append_left (by omega)] at ha hc
   exact r1 i a c ha hc
  ·rw [List.getElem?_append_right (by omega)] at ha hc
   rw [l1] at ha
   exact r2 _ a c ha hc
theorem RdAll.nil : RdAll w [] []:=⟨[],rfl,rfl,fun i s a h=>by simp at h,fun i a c h=>by simp at h⟩
theorem open_fields {sh : TypeId → Option (List Sh)} (tr : Field → List Value → Prop) (htr : ∀ (f : Field) (cs : List Value) (l : List Sh),tr f cs → sh f.type = some l → RdAll w l cs) (cs : List Value) :
  ∀ (fs : List Field) (off : Nat) (l : List Sh),shapeFields P sh fs off = some l → (∀ f ∈ fs,tr f ((cs.drop f.offset).take (P.cellsOf f.type))) → off + l.length = cs.length → RdAll w l (cs.drop off)
 | [],off,l,h,_,hl=>by
  simp only [shapeFields,Option.some.injEq] at h;subst h
  have : cs.drop off = []:=List.drop_eq_nil_of_le (by simp at hl;omega)
  rw [this];exact .nil
 | f :: r,off,l,h,ht,hl=>by
  simp only [shapeFields] at h
  split at h
  case isFalse=>cases h
  rename_i ho
  split at h
  case h_2=>cases h
  rename_i a b h1 h2
  split at h
  case isFalse=>cases h
  rename_i hlen
  cases h
  have hf:=htr f _ _ (ht f (by simp)) h1
  have hr:=open_fields tr htr cs r _ _ h2 (fun g hg=>ht g (by simp [hg])) (by simp at hl;omega)
  rw [ho] at hf
  have:=hf.append hr
  rwa [← List.drop_drop,List.take_append_drop] at this
theorem open_shape : ∀ (n : Nat) (fuel : Nat) (t : TypeId) (cs : List Value) (x : DataW H × List MemPlace) (l : List Sh),shapeOf P n t = some l → DataW.trod enc P w 0 spare held fuel t cs = some x → RdAll w l cs
 | 0,_,_,_,_,_,h,_=>by simp [shapeOf] at h
 | n + 1,fuel,t,cs,x,l,h,ht=>by
  unfold shapeOf at h
  split at h
  ·rename_i hu
   cases h
   cases fuel with
   | zero=>simp [DataW.trod] at ht
   | succ m =>
    unfold DataW.trod at ht
    rw [hu] at ht
    split at ht <;> simp_all
    exact .one (.bool _) (.bool _)
  ·rename_i k hu
   cases h
   cases fuel with
   | zero=>simp [DataW.trod] at ht
   | succ m =>
    unfold DataW.trod at ht
    rw [hu] at ht
    split at ht <;> simp_all
    obtain ⟨⟨rfl,hw⟩,_⟩:=ht
    exact .one (.int _ _ hw) (.int _ _)
  ·rename_i hu
   cases h
   cases fuel with
   | zero=>simp [DataW.trod] at ht
   | succ m =>
    unfold DataW.trod at ht
    rw [hu] at ht
    split at ht <;> simp_all
    exact .one (.str _ ht.1) (.str _)
  ·rename_i e hu
   split at h
   case h_2=>cases h
   rename_i fs hfs
   split at h
   case isFalse=>cases h
   rename_i hlen'
   cases h
   have hlen:=hlen'.1
   rcases DataW.trod_slice hu ht with ⟨rfl,_⟩ | ⟨a,len,cap,elems,rest,m,rfl,rfl,_,_,hl,hm,hel,hcell,_,_⟩
   ·have hes : ShOk (.slice fs) (.list false fs.length []):=.list fs [] (Nat.zero_le _) (by simp) (by simp)
    exact .one hes (.list0 _ _ _ _ (by simp))
   ·obtain ⟨b,off,spot⟩:=a
    have each : ∀ i,i < len → ∃ cells,w.cells? 0 ((Addr.mk b off spot).add (i * P.cellsOf e)) (P.cellsOf e) = some cells ∧ RdAll w fs cells:=by
     intro i hi
     have h1:=hcell i hi
     rw [List.getElem?_eq_getElem (by omega),Option.bind_eq_some_iff] at h1
     obtain ⟨cells,h2,h3⟩:=h1
     exact ⟨cells,h2,open_shape n m e cells _ fs hfs h3⟩
    by_cases h0 : len = 0
    ·subst h0
     have hes : ShOk (.slice fs) (.list false fs.length []):=.list fs [] (Nat.zero_le _) (by simp) (by simp)
     exact .one hes (.list0 _ _ _ _ (by simp))
    ·by_cases hz : P.cellsOf e = 0
     ·exact absurd hz hlen'.2
     ·have hspot : spot = none:=by
       obtain ⟨cells,h1,_⟩:=each 0 (by omega)
       obtain ⟨h2,h3⟩:=cells?_get h1
       have h4:=h3 0 (by omega)
       rw [List.getElem?_eq_getElem (by omega)] at h4
       have:=World.cell?_spot h4
       simpa [Addr.add] using this
      subst hspot
      
      have hch : ∃ F : Nat → List AVal,∀ i,i < len → (F i).length = fs.length ∧ (∀ (j : Nat) (s : Sh) (a : AVal),fs[j]? = some s → (F i)[j]? = some a → ShOk s a) ∧
        ∃ cells : List Value,cells.length = fs.length ∧ (∀ j,j < fs.length → w.cell? ⟨b,off + i * fs.length + j,none⟩ = cells[j]?) ∧ ∀ (j : Nat) (a : AVal) (c : Value),(F i)[j]? = some a → cells[j]? = some c → Rd (allC w) w a c:=by
       refine ⟨fun i=>if hi : i < len then Classical.choose (each i hi).choose_spec.2 else [],fun i hi=>?_⟩
       obtain ⟨h1,h2,h3,h4⟩:=Classical.choose_spec (each i hi).choose_spec.2
       have hc:=(each i hi).choose_spec.1
       obtain ⟨h5,h6⟩:=cells?_get hc
       simp only [dif_pos hi]
       refine ⟨by omega,h3,(each i hi).choose,by omega,fun j hj=>?_,h4⟩
       rw [← h6 j (by omega)]
       rw [WideShapes.add_plain,WideShapes.add_plain,hlen]
      obtain ⟨F,hF⟩:=hch
      have hget : ∀ (i : Nat) (e' : List AVal),((List.range len).map F)[i]? = some e' → i < len ∧ e' = F i:=by
       intro i e' he
       by_cases hi : i < len
       ·simp [hi] at he;exact ⟨hi,he.symm⟩
       ·simp [hi] at he
      refine .one (a:=.list false fs.length ((List.range len).map F)) (.list _ _ (by simp;omega) (fun e' he'=>?_) fun e' i f d he' hf hd=>?_) ?_
      ·obtain ⟨i,hi,rfl⟩:=List.mem_map.1 he'
       exact (hF i (by simpa using hi)).1
      ·obtain ⟨i',hi',rfl⟩:=List.mem_map.1 he'
       exact (hF i' (by simpa using hi')).2.1 i f d hf hd
      ·have hcellv : ∀ i j,i < len → j < fs.length → ∃ v,w.cell? ⟨b,off + i * fs.length + j,none⟩ = some v:=by
        intro i j hi hj
        obtain ⟨_,_,cells,h1,h2,_⟩:=hF i hi
        exact ⟨cells[j],by rw [h2 j hj,List.getElem?_eq_getElem (by omega)]⟩
       have:=Rd.list (C:=allC w) (w:=w) false fs.length ((List.range len).map F) b off cap (fun i j=>(w.cell? ⟨b,off + i * fs.length + j,none⟩).getD .nilIface) (by simp) (by simpa using hl)
        (fun e' he'=>by obtain ⟨i,hi,rfl⟩:=List.mem_map.1 he';exact (hF i (by simpa using hi)).1) ?_ ?_ ?_ ?_
       ·simpa using this
       ·obtain ⟨v,hv⟩:=hcellv (len - 1) (fs.length - 1) (by omega) (by omega)
        have h1:=allC_cell hv
        simp only [List.length_map,List.length_range]
        have h2 : len * fs.length = (len - 1) * fs.length + fs.length:=by
         rw [← Nat.succ_mul];congr 1;omega
        omega
       ·intro i j hi hj
        obtain ⟨v,hv⟩:=hcellv i j (by simpa using hi) hj
        rw [hv];rfl
       ·intro i j e' d he hd
        obtain ⟨hi,rfl⟩:=hget i e' he
        have hj : j < fs.length:=by rw [← (hF i hi).1];exact (List.getElem?_eq_some_iff.1 hd).1
        exact ((hF i hi).2.1 j _ d (List.getElem?_eq_getElem hj) hd).isCell
       ·intro i j e' d he hd
        obtain ⟨hi,rfl⟩:=hget i e' he
        have hj : j < fs.length:=by rw [← (hF i hi).1];exact (List.getElem?_eq_some_iff.1 hd).1
        obtain ⟨_,_,cells,h1,h2,h3⟩:=hF i hi
        refine h3 j d _ hd ?_
        rw [← h2 j hj]
        obtain ⟨v,hv⟩:=hcellv i j hi hj
        rw [hv];rfl
  ·rename_i fs hu
   split at h
   case h_2=>cases h
   rename_i l' hl'
   split at h
   case isFalse=>cases h
   rename_i hll
   cases h
   obtain ⟨xs,m,rfl,_,hlen,hxs,hf⟩:=DataW.trod_struct hu ht
   have:=open_fields (P:=P) (w:=w) (sh:=shapeOf P n) (fun f cs=>∃ y,DataW.trod enc P w 0 spare held m f.type cs = some y) (fun f cs l' ⟨y,hy⟩ hl=>open_shape n m f.type cs y l' hl hy) cs fs.toList 0 _ hl' ?_ ?_
   ·simpa using this
   ·intro f hfm
    obtain ⟨i,hi,he⟩:=List.getElem_of_mem hfm
    have h1:=hf i f (by rw [← he];simp)
    exact ⟨xs[i]'(by simp at hi;omega),by rw [h1];exact List.getElem?_eq_getElem _⟩
   ·omega
  ·cases h
end
open Go.RowKit Go.ChangeShapes
def paramSh (P : Program) (n : Nat) (t : TypeId) : Option (Bool × List Sh) :=
 match P.underlying t with
 | some (.struct _)=>(shapeOf P n t).map fun l=>(true,l)
 | some (.array _ _)=>none
 | _=>match shapeOf P n t with
  | some [s]=>some (false,[s])
  | _=>none
def ArgOk : Bool × List Sh → AVal → Prop
 | (true,l),a=>∃ asv,a = .agg asv ∧ asv.length = l.length ∧ ∀ (i : Nat) (s : Sh) (c : AVal),l[i]? = some s → asv[i]? = some c → ShOk s c
 | (false,l),a=>∃ s,l = [s] ∧ ShOk s a
def ArgsOk : List (Bool × List Sh) → List AVal → Prop
 | [],[]=>True
 | p :: ps,a :: asv=>ArgOk p a ∧ ArgsOk ps asv
 | _,_=>False
def paramShs (P : Program) (n : Nat) : List TypeId → Option (List (Bool × List Sh))
 | []=>some []
 | t :: ts=>match paramSh P n t,paramShs P n ts with
  | some p,some ps=>some (p :: ps)
  | _,_=>none
section
variable {H : Type} {enc : TypeId × Value → H} {P : Program} {w : World} {τ : Nat → Option Loc}
theorem open_arg {n : Nat} {t : TypeId} {v : Value} {d : DataW H} {ps : List MemPlace} {p : Bool × List Sh} {base : Nat} (hp : paramSh P n t = some p) (hv : Value.okWide P w .any base t v)
  (h : DataW.Trod enc P w 0 (fun _=>true) true t v d ps) : ∃ a,ArgOk p a ∧ Rel (allC w) w τ [] a v:=by
 obtain ⟨fuel,hf⟩:=h
 unfold paramSh at hp
 split at hp
 ·rename_i fs hu
  simp only [Option.map_eq_some_iff] at hp
  obtain ⟨l,hl,rfl⟩:=hp
  obtain ⟨asv,h1,h2,h3,h4⟩:=open_shape n fuel t _ _ l hl hf
  unfold Value.okWide at hv
  rw [hu] at hv
  obtain ⟨cs,rfl,_⟩:=hv
  simp only [Value.cells] at h1 h2 h4
  exact ⟨.agg asv,⟨asv,rfl,by omega,h3⟩,.agg asv cs (by simpa using h1) fun i c v hc hv=>.rd (h4 i c v hc (by simpa using hv))⟩
 ·cases hp
 ·rename_i hns hna
  split at hp
  case h_2=>cases hp
  rename_i s hl
  cases hp
  obtain ⟨asv,h1,h2,h3,h4⟩:=open_shape n fuel t _ _ _ hl hf
  have hvc : v.cells.toList = [v]:=by
   have : ∀ cs,v ≠ .agg cs:=by
    rintro cs rfl
    unfold Value.okWide at hv
    split at hv
    ·rename_i fs hu;exact hns fs hu
    ·rename_i k e hu;exact hna k e hu
    ·unfold Cell.okWide at hv
     split at hv <;> simp_all [Cell.ok]
   cases v <;> first | rfl | exact absurd rfl (this _)
  rw [hvc] at h1 h2 h4
  obtain ⟨a,rfl⟩:=List.length_eq_one_iff.1 h1
  exact ⟨a,⟨s,rfl,h3 0 s a rfl rfl⟩,.rd (h4 0 a v rfl rfl)⟩
theorem open_args {n : Nat} {base : Nat} : ∀ (ts : List TypeId) (vs : List Value) (ds : List (DataW H)) (ps : List MemPlace) (shs : List (Bool × List Sh)),paramShs P n ts = some shs →
  (∀ (j : Nat) (t : TypeId) (v : Value),ts[j]? = some t → vs[j]? = some v → Value.okWide P w .any base t v) →
  DataW.TrodAll enc P w 0 (fun _=>true) true ts vs ds ps → ∃ asv,ArgsOk shs asv ∧ asv.length = vs.length ∧ ∀ (i : Nat) (a : AVal) (v : Value),asv[i]? = some a → vs[i]? = some v → Rel (allC w) w τ [] a v
 | [],vs,ds,ps,shs,hs,hv,h=>by
  obtain ⟨rfl,rfl,rfl⟩:=trodAll_nil h
  simp only [paramShs,Option.some.injEq] at hs;subst hs
  exact ⟨[],trivial,rfl,fun i a v h=>by simp at h⟩
 | t :: ts,vs,ds,ps,shs,hs,hv,h=>by
  obtain ⟨v,vs',d,ds',p,q,rfl,rfl,rfl,h1,h2⟩:=trodAll_cons h
  simp only [paramShs] at hs
  split at hs
  case h_2=>cases hs
  rename_i sh shs' e1 e2
  cases hs
  obtain ⟨a,ha,hr⟩:=open_arg (τ:=τ) e1 (hv 0 t v rfl rfl) h1
  obtain ⟨asv,has,hl,hrs⟩:=open_args ts vs' ds' q shs' e2 (fun j t' v' ht hv'=>hv (j + 1) t' v' (by simpa using ht) (by simpa using hv')) h2
  refine ⟨a :: asv,⟨ha,has⟩,by simp [hl],fun i a' v' h1 h2=>?_⟩
  cases i with
  | zero=>simp at h1 h2;subst h1 h2;exact hr
  | succ i=>exact hrs i a' v' (by simpa using h1) (by simpa using h2)
theorem trodAll_below (hl : laidOutB P = true) {W W' : World} (hb : Below W.heap.size W W') : ∀ (ts : List TypeId) (vs : List Value) (ds : List (DataW H)) (ps : List MemPlace),
  (∀ t ∈ ts,P.readableRec t = true ∧ t < P.types.size) → DataW.TrodAll enc P W 0 (fun _=>true) true ts vs ds ps →
  DataW.TrodAll enc P W' 0 (fun b=>decide (b < W.heap.size)) true ts vs ds ps
 | [],vs,ds,ps,_,h=>by obtain ⟨rfl,rfl,rfl⟩:=trodAll_nil h;exact trodAll_mk0
 | t :: ts,vs,ds,ps,hr,h=>by
  obtain ⟨v,vs',d,ds',p,q,rfl,rfl,rfl,h1,h2⟩:=trodAll_cons h
  have hlt : ∀ x ∈ p,x.block < W.heap.size:=by obtain ⟨m,hm⟩:=h1;exact DataW.trod_lt m _ _ _ hm
  exact trodAll_cons_mk (Below.trod hl (hr t (by simp)).1 (hr t (by simp)).2 h1 hb hlt) (trodAll_below hl hb ts vs' ds' q (fun t' ht=>hr t' (by simp [ht])) h2)
theorem calls_of_law {f : FuncId} {fn : Func} {c : Code} {args : Array Value} {asv : List AVal} (hfn : P.funcs[f]? = some fn) (hname : (fn.name == "runtime.NumGoroutine") = false) (hbody : fn.body = some c)
  (hlen : asv.length = args.size) (hrel : ∀ (i : Nat) (a : AVal) (v : Value),asv[i]? = some a → args[i]? = some v → Rel (allC w) w (fun _=>none) [] a v)
  (hlaw : ACalls P f asv [] (fun r _=>r = .bool true)) :
  Calls P f args w fun e w'=>e = .returned (.bool true) ∧ Below w.heap.size w w':=by
 have hwf : WF (allC w) (fun _=>none) [] w:=by
  refine ⟨fun id o h=>by simp at h,fun id o h=>by simp at h,fun id o l h=>by simp at h,fun id l h=>by simp at h,fun i j li lj h=>by simp at h,fun b hb=>?_⟩
  unfold allC at hb
  split at hb
  ·rename_i h
   exact lt_of_heap h
  ·omega
 have h:=hlaw (allC w) (fun _=>none) w args hwf hlen hrel
 have hcall : (callFunc f args).run P w = .ok (.enter f args) w:=by
  simp only [callFunc,Sem.run_bind,run_program,Result.andThen_ok,hfn,hname,Bool.false_eq_true,if_false,hbody,Option.isNone_some,Sem.run_pure]
 unfold CallsX at h
 rw [hcall] at h
 refine Calls.mono h fun e w'=>?_
 rintro ⟨v,r,C',τ',H',rfl,rfl,hr,hst,hstep⟩
 refine ⟨?_,hst.fr.os,hst.fr.tape,hst.fr.output,hst.fr.size,fun k hk=>hst.fr.prot k ⟨hk,?_⟩⟩
 ·cases hr with
  | rd hr=>cases hr;rfl
 ·rintro ⟨id,l,h1,_⟩
  exact absurd h1 (Nat.not_lt_zero _)
set_option maxRecDepth 100000 in
theorem lifted_of_law {C : Checked} {os : Os} {f : FuncId} {fn : Func} {s : ChangeSpec} {ob : List Nat} {af : AFunc} {n tb : Nat} {shs : List (Bool × List Sh)}
  (own : ownKnob C.prog.godebug = none) (started : os.Started) (noInit : C.prog.inits.idxOf? f = none) (hfn : C.prog.funcs[f]? = some fn)
  (witness : ∃ (w : World) (tape : Tape) (i : Input),w.os = os ∧ (w.forCall tape i).Shaped C.prog ∧ i.vars = [] ∧ Input.okWide C.prog (w.forCall tape i) .any w.heap.size f i ∧
   s.pre6 enc C.prog fn [] false (w.forCall tape i).memory i.args ∧ ({} : Assume).holds C.prog (lone (Frame.enter C.prog f i.args .normal) [] (w.forCall tape i)))
  (laid : laidOutB C.prog = true) (hread : (fn.params.toList.all fun t=>C.prog.readableRec t && decide (t < C.prog.types.size)) = true)
  (hs : ∀ (ds : List (DataW H)),ds.length = fn.params.size → s.fn H ds = { results:=[.lit (.bool true)],args:=ds }) (hvars : s.vars = [])
  (hres : fn.resultTypes = #[tb]) (htb : C.prog.underlying tb = some .bool) (hsh : paramShs C.prog n fn.params.toList = some shs) (hhas : Has C.prog f ob af)
  (hlaw : ∀ asv,ArgsOk shs asv → ACalls C.prog f asv [] (fun r _=>r = .bool true)) :
  ReturnsInHanded {} C os f .any (s.pre6 enc C.prog fn [] false) (s.post enc C.prog fn false true false false):=by
 refine returnsInHanded_of_change (C:=C) own started noInit hfn witness ?_
 intro W base args ds gs before hval hW _ _
 have hW':=hW
 obtain ⟨p,q,hA,hV,rfl,_,_⟩:=hW
 rw [hvars] at hV
 obtain ⟨rfl,rfl⟩:=trodVars_none hV
 obtain ⟨asv,has,hlen,hrel⟩:=open_args (τ:=fun _=>none) (n:=n) fn.params.toList args.toList ds p shs hsh (fun j t v h1 h2=>hval j t v (by simpa using h1) (by simpa using h2)) hA
 obtain ⟨fn',c,hfn',hname,hbody,_⟩:=hhas
 have e : fn' = fn:=Option.some.inj (hfn'.symm.trans hfn)
 subst e
 have hlds : ds.length = fn'.params.size:=by
  have : ∀ (ts : List TypeId) (vs : List Value) (ds : List (DataW H)) (ps : List MemPlace),DataW.TrodAll enc C.prog W 0 (fun _=>true) true ts vs ds ps → ds.length = ts.length:=by
   intro ts
   induction ts with
   | nil=>intro vs ds ps h;obtain ⟨_,rfl,_⟩:=trodAll_nil h;rfl
   | cons t ts ih =>
    intro vs ds ps h
    obtain ⟨_,_,_,_,_,_,_,rfl,_,_,h2⟩:=trodAll_cons h
    simp [ih _ _ _ h2]
  simpa using this _ _ _ _ hA
 refine (calls_of_law hfn hname hbody (by simpa using hlen) (fun i a v h1 h2=>hrel i a v h1 (by simpa using h2)) (hlaw asv has)).mono fun e W' ⟨he,bel⟩=>?_
 subst he
 refine ⟨_,rfl,ds,[],_,[],p,[],hW',?_,?_,?_,bel.frame _,fun h=>by cases h⟩
 ·rw [List.append_nil,hs ds hlds,hres]
  exact trodAll_mk1 (shut_bool htb _)
 ·rw [List.append_nil,hs ds hlds]
  refine trodAll_below laid bel _ _ _ _ (fun t ht=>?_) hA
  have:=List.all_eq_true.1 hread t ht
  simpa using this
 ·rw [List.append_nil,hs ds hlds,hvars]
  rfl
end
theorem argsOk_cons {p : Bool × List Sh} {ps : List (Bool × List Sh)} {asv : List AVal} (h : ArgsOk (p :: ps) asv) : ∃ a as',asv = a :: as' ∧ ArgOk p a ∧ ArgsOk ps as':=by
 cases asv with
 | nil=>exact h.elim
 | cons a asv=>exact ⟨a,asv,rfl,h.1,h.2⟩
theorem argsOk_nil {asv : List AVal} (h : ArgsOk [] asv) : asv = []:=by
 cases asv with
 | nil=>rfl
 | cons a asv=>exact h.elim
theorem argOk_int {k : IntKind} {a : AVal} (h : ArgOk (false,[.int k]) a) : ∃ n,a = .int k n ∧ (Lit.int k n).wf = true:=by
 obtain ⟨s,h1,h2⟩:=h
 cases h1
 cases h2 with
 | int _ n h=>exact ⟨n,rfl,h⟩
def CellsOk : List Sh → List AVal → Prop
 | [],[]=>True
 | s :: ss,a :: asv=>ShOk s a ∧ CellsOk ss asv
 | _,_=>False
theorem cellsOk_of : ∀ (l : List Sh) (asv : List AVal),asv.length = l.length → (∀ (i : Nat) (s : Sh) (c : AVal),l[i]? = some s → asv[i]? = some c → ShOk s c) → CellsOk l asv
 | [],[],_,_=>trivial
 | s :: l,a :: asv,hl,h=>⟨h 0 s a rfl rfl,cellsOk_of l asv (by simpa using hl) fun i s c h1 h2=>h (i + 1) s c (by simpa using h1) (by simpa using h2)⟩
 | [],_ :: _,hl,_=>by simp at hl
 | _ :: _,[],hl,_=>by simp at hl
theorem shOk_slice {fs : List Sh} {a : AVal} (h : ShOk (.slice fs) a) : ∃ es,a = .list false fs.length es ∧ es.length ≤ maxLen ∧ ∀ e ∈ es,CellsOk fs e:=by
 cases h with
 | list _ es hb hl h=>exact ⟨es,rfl,hb,fun e he=>cellsOk_of _ _ (hl e he) fun i s c h1 h2=>h e i s c he h1 h2⟩
theorem argOk_slice {fs : List Sh} {a : AVal} (h : ArgOk (false,[.slice fs]) a) : ∃ es,a = .list false fs.length es ∧ es.length ≤ maxLen ∧ ∀ e ∈ es,CellsOk fs e:=by
 obtain ⟨s,h1,h2⟩:=h
 cases h1
 exact shOk_slice h2
theorem list_image {α β : Type} {g : α → β} {W : α → Prop} : ∀ (l : List β),(∀ x ∈ l,∃ a,x = g a ∧ W a) → ∃ m : List α,l = m.map g ∧ ∀ a ∈ m,W a
 | [],_=>⟨[],rfl,by simp⟩
 | x :: l,h=>by
  obtain ⟨a,rfl,ha⟩:=h x (by simp)
  obtain ⟨m,rfl,hm⟩:=list_image l fun y hy=>h y (by simp [hy])
  exact ⟨a :: m,rfl,fun b hb=>by rcases List.mem_cons.1 hb with rfl | hb;exact ha;exact hm b hb⟩
theorem cellsOk_int {k : IntKind} {e : List AVal} (h : CellsOk [.int k] e) : ∃ n,e = [.int k n] ∧ (Lit.int k n).wf = true:=by
 match e,h with
 | [a],h =>
  obtain ⟨h1,_⟩:=h
  cases h1
  rename_i n hn
  exact ⟨n,rfl,hn⟩
theorem argOk_ints {k : IntKind} {a : AVal} (h : ArgOk (false,[.slice [.int k]]) a) : ∃ l : List Int,a = .list false 1 (l.map fun n=>[.int k n]) ∧ l.length ≤ maxLen ∧ ∀ n ∈ l,(Lit.int k n).wf = true:=by
 obtain ⟨es,rfl,hl,h⟩:=argOk_slice h
 obtain ⟨m,rfl,hm⟩:=list_image (g:=fun n=>[AVal.int k n]) (W:=fun n=>(Lit.int k n).wf = true) es fun e he=>cellsOk_int (h e he)
 exact ⟨m,rfl,by simpa using hl,hm⟩
attribute [local irreducible] ACalls
structure V where
 kind : Int
 num : Int
 str : ByteArray
def valC (v : V) : List AVal:=[.int .i64 v.kind,.int .i64 v.num,.str v.str]
def validB (v : V) : Bool :=
 if v.kind = 0 then v.num == 0 && v.str.data.toList == []
 else if v.kind = 1 then (v.num == 0 || v.num == 1) && v.str.data.toList == []
 else if v.kind = 2 then decide (-1073741824 ≤ v.num) && decide (v.num ≤ 1073741824) && v.str.data.toList == []
 else if v.kind = 3 then v.num == 0 && decide (v.str.size ≤ 64)
 else if v.kind = 4 then decide (0 ≤ v.num) && decide (v.num ≤ 575999999) && v.str.data.toList == []
 else false
def cmpI (a b : Int) : Int:=if a < b then -1 else if b < a then 1 else 0
def cmpS (a b : List UInt8) : Int:=if Op.bytesLess a b then -1 else if a = b then 0 else 1
def orI : List Int → Int
 | []=>0
 | x :: xs=>if x = 0 then orI xs else x
def valCmp (a b : V) : Int:=orI [cmpI a.kind b.kind,cmpI a.num b.num,cmpS a.str.data.toList b.str.data.toList]
theorem getElem?_getD {l : List Int} {k : Nat} (h : k < l.length) : l[k]? = some (l.getD k 0):=by
 rw [List.getD_eq_getElem?_getD,List.getElem?_eq_getElem h];rfl
def bC (l : List Int) : List (List AVal):=l.map fun n=>[.int .u8 n]
def u8 (n : Int) : Int:=IntKind.u8.wrap n
def w4 (n : Int) : List Int:=[u8 (n.fdiv (2 ^ 24)),u8 (n.fdiv (2 ^ 16)),u8 (n.fdiv (2 ^ 8)),u8 n]
theorem bC_append (a b : List Int) : bC (a ++ b) = bC a ++ bC b:=List.map_append
theorem bC_length (l : List Int) : (bC l).length = l.length:=List.length_map ..
theorem roomB_le {n : Nat} (h : n ≤ 1000000000) : n ≤ roomB:=Nat.le_trans h (by show _ ≤ 1099511627776;omega)
theorem roomB_le1 {n : Nat} (h : n ≤ 1000000000) : n * 1 ≤ roomB:=roomB_le (by omega)
def bytesI (s : ByteArray) : List Int:=s.data.toList.map fun b=>(b.toNat : Int)
theorem pureEs_bC (l : List Int) : pureEs (bC l) = true:=by simp [pureEs,bC,AVal.isPure]
theorem pub_int {H1 : List AObj} {n : Nat} {ids : List Nat} {k : IntKind} {a b : Int} (h : a = b) : Pub H1 n ids (.int k a) (.int k b):=by subst h;exact .closed _ rfl
theorem pub2 {H1 : List AObj} {n : Nat} {ids : List Nat} {a b r s : AVal} (h1 : Pub H1 n ids a r) (h2 : Pub H1 n ids b s) : Pub H1 n ids (.tuple [a,b]) (.tuple [r,s]):=by
 refine .tuple _ _ rfl fun i v t h3 h4=>?_
 rcases i with _ | _ | i
 ·cases h3;cases h4;exact h1
 ·cases h3;cases h4;exact h2
 ·simp at h3
theorem pubF {H1 : List AObj} {n : Nat} {id ep len sz : Nat} {es : List (List AVal)} (ho : H1[id]? = some (.arr sz es)) (he : ep = es.length) (hl : len = es.length) (hp : pureEs es = true) : Pub H1 n [] (.sl id ep 0 len) (.list false sz es):=by
 subst hl he
 have:=Pub.frz (n:=n) (ids:=[]) id es.length 0 es.length sz es ho rfl hp (by simp)
 rwa [List.drop_zero,List.take_length] at this
def iC (l : List Int) : List (List AVal):=l.map fun n=>[.int .i64 n]
theorem iC_length (l : List Int) : (iC l).length = l.length:=List.length_map ..
theorem iC_get {l : List Int} {k : Nat} (h : k < l.length) : (iC l)[k]? = some [.int .i64 (l.getD k 0)]:=by
 rw [iC,List.getElem?_map,getElem?_getD h];rfl
def w64 (n : Int) : Int:=IntKind.i64.wrap n
def vC (rs : List V) : List (List AVal):=rs.map valC
theorem roomMul {n b : Nat} (h : n ≤ 1000000) (hb : b ≤ 1000000) : n * b ≤ roomB :=
 Nat.le_trans (Nat.mul_le_mul h hb) (by show 1000000 * 1000000 ≤ 1099511627776;omega)
theorem get_drop {α : Type} {l : List α} {k : Nat} (h : k < l.length) : ∃ x,l[k]? = some x ∧ l.drop k = x :: l.drop (k + 1) ∧ x ∈ l :=
 ⟨l[k],List.getElem?_eq_getElem h,List.drop_eq_getElem_cons h,List.getElem_mem h⟩
def rowsCmp : List V → List V → Int
 | [],[]=>0
 | [],_ :: _=>-1
 | _ :: _,[]=>1
 | x :: xs,y :: ys=>if valCmp x y = 0 then rowsCmp xs ys else valCmp x y
def or64 (a b : Int) : Int:=IntKind.i64.wrap (BitVec.ofInt IntKind.i64.bits a ||| BitVec.ofInt IntKind.i64.bits b).toNat
theorem or64_add (m y : Int) (k : Nat) (hm : 0 ≤ m) (hy : 0 ≤ y) (hyk : y < 2 ^ k) (hb : m * 2 ^ k + y < 2 ^ 62) : or64 (m * 2 ^ k) y = m * 2 ^ k + y:=by
 obtain ⟨m,rfl⟩:=Int.eq_ofNat_of_zero_le hm
 obtain ⟨y,rfl⟩:=Int.eq_ofNat_of_zero_le hy
 have hyk' : y < 2 ^ k:=by exact_mod_cast hyk
 have hb' : m * 2 ^ k + y < 2 ^ 62:=by exact_mod_cast hb
 show IntKind.i64.wrap ((BitVec.ofInt 64 ((m : Int) * 2 ^ k) ||| BitVec.ofInt 64 (y : Int)).toNat : Int) = _
 have e1 : ((m : Int) * 2 ^ k) = ((m * 2 ^ k : Nat) : Int):=by simp
 rw [e1,BitVec.ofInt_natCast,BitVec.ofInt_natCast,BitVec.toNat_or,BitVec.toNat_ofNat,BitVec.toNat_ofNat,Nat.mod_eq_of_lt (by omega),Nat.mod_eq_of_lt (by omega)]
 have h:=Nat.shiftLeft_add_eq_or_of_lt hyk' m
 rw [Nat.shiftLeft_eq] at h
 rw [← h,wrapI _ (by omega) (by omega)]
 simp
def Byt (l : List Int) : Prop:=∀ x ∈ l,0 ≤ x ∧ x ≤ 255
def num (l : List Int) : Int:=l.foldl (fun n x=>n * 256 + x) 0
theorem bC_at {l : List Int} {k : Nat} {x : Int} (h : l[k]? = some x) : (bC l)[k]? = some [.int .u8 x]:=by
 rw [bC,List.getElem?_map,h];rfl
def strOf (l : List Int) : ByteArray:=⟨(l.map fun n=>UInt8.ofNat n.toNat).toArray⟩
theorem bytesOf_bC : ∀ (l : List Int),bytesOf (bC l) = some (l.map fun n=>UInt8.ofNat n.toNat)
 | []=>rfl
 | x :: l=>by
  show (bytesOf (bC l)).map (UInt8.ofNat x.toNat :: ·) = _
  rw [bytesOf_bC l];rfl
theorem bC_drop (l : List Int) (k : Nat) : (bC l).drop k = bC (l.drop k):=by simp [bC,List.map_drop]
theorem bC_take (l : List Int) (k : Nat) : (bC l).take k = bC (l.take k):=by simp [bC,List.map_take]
theorem bl_irrefl : ∀ (a : List UInt8),Op.bytesLess a a = false
 | []=>rfl
 | x :: a=>by simp [Op.bytesLess,bl_irrefl a]
theorem bl_tri : ∀ (a b : List UInt8),Op.bytesLess a b = true ∨ a = b ∨ Op.bytesLess b a = true
 | [],[]=>.inr (.inl rfl)
 | [],_ :: _=>.inl rfl
 | _ :: _,[]=>.inr (.inr rfl)
 | x :: a,y :: b=>by
  simp only [Op.bytesLess,Bool.or_eq_true,decide_eq_true_eq,Bool.and_eq_true,beq_iff_eq,List.cons.injEq]
  rcases (show x < y ∨ x = y ∨ y < x from by rcases Nat.lt_trichotomy x.toNat y.toNat with h | h | h;exact .inl h;exact .inr (.inl (UInt8.toNat_inj.1 h));exact .inr (.inr h)) with h | h | h
  ·exact .inl (.inl h)
  ·subst h
   rcases bl_tri a b with h | h | h
   ·exact .inl (.inr ⟨rfl,h⟩)
   ·exact .inr (.inl ⟨rfl,h⟩)
   ·exact .inr (.inr (.inr ⟨rfl,h⟩))
  ·exact .inr (.inr (.inl h))
theorem bl_trans : ∀ (a b c : List UInt8),Op.bytesLess a b = true → Op.bytesLess b c = true → Op.bytesLess a c = true
 | _,[],_,h,_=>by cases ‹List UInt8› <;> simp [Op.bytesLess] at h
 | _,_ :: _,[],_,h=>by simp [Op.bytesLess] at h
 | [],_ :: _,_ :: _,_,_=>rfl
 | x :: a,y :: b,z :: c,h1,h2=>by
  simp only [Op.bytesLess,Bool.or_eq_true,decide_eq_true_eq,Bool.and_eq_true,beq_iff_eq] at *
  rcases h1 with h1 | ⟨rfl,h1⟩
  ·rcases h2 with h2 | ⟨rfl,h2⟩
   ·exact .inl (UInt8.lt_trans h1 h2)
   ·exact .inl h1
  ·rcases h2 with h2 | ⟨rfl,h2⟩
   ·exact .inl h2
   ·exact .inr ⟨rfl,bl_trans a b c h1 h2⟩
structure IsCmp {α : Type} (c : α → α → Int) : Prop where
 vals : ∀ a b,c a b = -1 ∨ c a b = 0 ∨ c a b = 1
 anti : ∀ a b,c b a = - c a b
 zero : ∀ a b,c a b = 0 ↔ a = b
 trans : ∀ a b d,c a b < 0 → c b d < 0 → c a d < 0
theorem isCmp_int : IsCmp cmpI:=by
 refine ⟨fun a b=>?_,fun a b=>?_,fun a b=>?_,fun a b d=>?_⟩ <;> unfold cmpI <;> (repeat' split) <;> omega
theorem isCmp_str : IsCmp cmpS:=by
 have asym : ∀ a b,Op.bytesLess a b = true → Op.bytesLess b a = true → False:=fun a b h1 h2=>by
  have:=bl_trans a b a h1 h2
  rw [bl_irrefl] at this;cases this
 refine ⟨fun a b=>?_,fun a b=>?_,fun a b=>?_,fun a b d=>?_⟩
 ·unfold cmpS;split
  ·simp
  ·split <;> simp
 ·unfold cmpS
  rcases bl_tri a b with h | h | h
  ·have hb : Op.bytesLess b a = false:=by cases hb : Op.bytesLess b a with | false=>rfl | true=>exact (asym a b h hb).elim
   have hne : ¬ b = a:=by rintro rfl;rw [bl_irrefl] at h;cases h
   simp [h,hb,hne]
  ·subst h;simp [bl_irrefl]
  ·have hb : Op.bytesLess a b = false:=by cases hb : Op.bytesLess a b with | false=>rfl | true=>exact (asym a b hb h).elim
   have hne : ¬ a = b:=by rintro rfl;rw [bl_irrefl] at h;cases h
   simp [h,hb,hne]
 ·unfold cmpS
  split
  ·rename_i h
   refine ⟨fun h=>by omega,?_⟩
   rintro rfl
   rw [bl_irrefl] at h;cases h
  ·split <;> simp [*]
 ·unfold cmpS
  intro h1 h2
  have e1 : Op.bytesLess a b = true:=by
   revert h1
   split
   ·intro _;assumption
   ·split <;> intro h <;> omega
  have e2 : Op.bytesLess b d = true:=by
   revert h2
   split
   ·intro _;assumption
   ·split <;> intro h <;> omega
  rw [if_pos (bl_trans a b d e1 e2)];omega
theorem isCmp_val : IsCmp valCmp:=by
 have I:=isCmp_int
 have S:=isCmp_str
 refine ⟨fun a b=>?_,fun a b=>?_,fun a b=>?_,fun a b d=>?_⟩
 ·have:=I.vals a.kind b.kind;have:=I.vals a.num b.num;have:=S.vals a.str.data.toList b.str.data.toList
  simp only [valCmp,orI];(repeat' split) <;> omega
 ·have:=I.anti a.kind b.kind;have:=I.anti a.num b.num;have:=S.anti a.str.data.toList b.str.data.toList
  simp only [valCmp,orI];(repeat' split) <;> omega
 ·have h1:=I.zero a.kind b.kind;have h2:=I.zero a.num b.num;have h3:=S.zero a.str.data.toList b.str.data.toList
  constructor
  ·intro h
   simp only [valCmp,orI] at h
   have e1 : cmpI a.kind b.kind = 0:=by revert h;(repeat' split) <;> omega
   have e2 : cmpI a.num b.num = 0:=by revert h;(repeat' split) <;> omega
   have e3 : cmpS a.str.data.toList b.str.data.toList = 0:=by revert h;(repeat' split) <;> omega
   obtain ⟨ak,an,⟨⟨asv⟩⟩⟩:=a
   obtain ⟨bk,bn,⟨⟨bl⟩⟩⟩:=b
   have q1:=h1.1 e1;have q2:=h2.1 e2;have q3:=h3.1 e3
   simp only at q1 q2 q3
   subst q1 q2 q3;rfl
  ·rintro rfl
   simp only [valCmp,orI]
   rw [if_pos (h1.2 rfl),if_pos (h2.2 rfl),if_pos (h3.2 rfl)]
 ·intro h1 h2
  have a1:=I.trans a.kind b.kind d.kind;have a2:=I.trans a.num b.num d.num;have a3:=S.trans a.str.data.toList b.str.data.toList d.str.data.toList
  have v1:=I.vals a.kind b.kind;have v2:=I.vals b.kind d.kind;have v3:=I.vals a.num b.num;have v4:=I.vals b.num d.num
  have z1:=I.zero a.kind b.kind;have z2:=I.zero b.kind d.kind;have z3:=I.zero a.num b.num;have z4:=I.zero b.num d.num
  have z5:=I.zero a.kind d.kind;have z6:=I.zero a.num d.num
  simp only [valCmp,orI] at *
  by_cases k1 : a.kind = b.kind <;> by_cases k2 : b.kind = d.kind <;> by_cases n1 : a.num = b.num <;> by_cases n2 : b.num = d.num <;> simp_all <;> (repeat' split) <;> omega
end Go.AW
namespace Go.AW
variable [Draws]
def ltB (a b : ByteArray) : Bool:=Op.bytesLess a.data.toList b.data.toList
theorem ba_ext {a b : ByteArray} (h : a.data.toList = b.data.toList) : a = b:=by
 obtain ⟨⟨a⟩⟩:=a
 obtain ⟨⟨b⟩⟩:=b
 simp at h
 rw [h]
theorem ltB_irr (a : ByteArray) : ltB a a = false:=bl_irrefl _
theorem ltB_trans {a b c : ByteArray} (h1 : ltB a b = true) (h2 : ltB b c = true) : ltB a c = true:=bl_trans _ _ _ h1 h2
theorem ltB_tri (a b : ByteArray) : ltB a b = true ∨ a = b ∨ ltB b a = true:=by
 rcases bl_tri a.data.toList b.data.toList with h | h | h
 ·exact .inl h
 ·exact .inr (.inl (ba_ext h))
 ·exact .inr (.inr h)
theorem ltB_asym {a b : ByteArray} (h : ltB a b = true) : ltB b a = false:=by
 cases h2 : ltB b a with
 | false=>rfl
 | true=>have:=ltB_trans h h2;rw [ltB_irr] at this;cases this
theorem ltB_ne {a b : ByteArray} (h : ltB a b = true) : a ≠ b:=by rintro rfl;rw [ltB_irr] at h;cases h
def kEq (a b : ByteArray) : Bool:=a.data.toList == b.data.toList
theorem kEq_iff {a b : ByteArray} : kEq a b = true ↔ a = b:=by
 unfold kEq
 rw [beq_iff_eq]
 exact ⟨ba_ext,fun h=>by rw [h]⟩
theorem kEq_false {a b : ByteArray} (h : a ≠ b) : kEq a b = false:=by
 cases h2 : kEq a b with
 | false=>rfl
 | true=>exact absurd (kEq_iff.1 h2) h
theorem kEq_refl (a : ByteArray) : kEq a a = true:=kEq_iff.2 rfl
section
variable {α : Type}
def KSrt (c : List (ByteArray × α)) : Prop:=c.Pairwise fun x y=>ltB x.1 y.1 = true
def kIns (k : ByteArray) (a : α) (c : List (ByteArray × α)) : List (ByteArray × α):=c.filter (fun p=>ltB p.1 k) ++ (k,a) :: c.filter (fun p=>ltB k p.1)
def kDel (k : ByteArray) (c : List (ByteArray × α)) : List (ByteArray × α):=c.filter fun p=>!kEq k p.1
def kLk (k : ByteArray) (c : List (ByteArray × α)) : Option α:=(c.find? fun p=>kEq k p.1).map (·.2)
theorem KSrt.nil : KSrt ([] : List (ByteArray × α)):=List.Pairwise.nil
theorem KSrt.del {c : List (ByteArray × α)} (h : KSrt c) (k : ByteArray) : KSrt (kDel k c):=List.Pairwise.filter _ h
theorem KSrt.ins {c : List (ByteArray × α)} (h : KSrt c) (k : ByteArray) (a : α) : KSrt (kIns k a c):=by
 unfold KSrt kIns
 rw [List.pairwise_append]
 refine ⟨List.Pairwise.filter _ h,?_,fun x hx y hy=>?_⟩
 ·rw [List.pairwise_cons]
  exact ⟨fun y hy=>(List.mem_filter.1 hy).2,List.Pairwise.filter _ h⟩
 ·have hx:=(List.mem_filter.1 hx).2
  rcases List.mem_cons.1 hy with rfl | hy
  ·exact hx
  ·exact ltB_trans hx (List.mem_filter.1 hy).2
theorem KSrt.uniq {c : List (ByteArray × α)} (h : KSrt c) {k : ByteArray} {a b : α} (ha : (k,a) ∈ c) (hb : (k,b) ∈ c) : a = b:=by
 induction c with
 | nil=>cases ha
 | cons x c ih =>
  unfold KSrt at h
  rw [List.pairwise_cons] at h
  rcases List.mem_cons.1 ha with e | ha2 <;> rcases List.mem_cons.1 hb with e2 | hb2
  ·rw [← e] at e2;cases e2;rfl
  ·have:=h.1 _ hb2;rw [← e] at this;simp only [ltB_irr] at this;cases this
  ·have:=h.1 _ ha2;rw [← e2] at this;simp only [ltB_irr] at this;cases this
  ·exact ih h.2 ha2 hb2
theorem kLk_none {k : ByteArray} {c : List (ByteArray × α)} : kLk k c = none ↔ ∀ p ∈ c,p.1 ≠ k:=by
 unfold kLk
 rw [Option.map_eq_none_iff,List.find?_eq_none]
 exact ⟨fun h p hp e=>h p hp (kEq_iff.2 e.symm),fun h p hp e=>h p hp (kEq_iff.1 e).symm⟩
theorem kLk_some {c : List (ByteArray × α)} (h : KSrt c) {k : ByteArray} {a : α} : kLk k c = some a ↔ (k,a) ∈ c:=by
 constructor
 ·intro hl
  unfold kLk at hl
  obtain ⟨p,hp,rfl⟩:=Option.map_eq_some_iff.1 hl
  have:=List.find?_some hp
  have e:=kEq_iff.1 this
  subst e
  exact List.mem_of_find?_eq_some hp
 ·intro hm
  cases hl : kLk k c with
  | none=>exact absurd rfl (kLk_none.1 hl _ hm)
  | some b =>
   unfold kLk at hl
   obtain ⟨p,hp,rfl⟩:=Option.map_eq_some_iff.1 hl
   have e:=kEq_iff.1 (List.find?_some (p:=fun p : ByteArray × α=>kEq k p.1) hp)
   subst e
   rw [h.uniq hm (List.mem_of_find?_eq_some hp)]
theorem kIns_perm (k : ByteArray) (a : α) (c : List (ByteArray × α)) : (kIns k a c).Perm ((k,a) :: kDel k c):=by
 unfold kIns
 refine List.perm_middle.trans (List.Perm.cons _ ?_)
 induction c with
 | nil=>exact .nil
 | cons p c ih =>
  rcases ltB_tri p.1 k with h | h | h
  ·simp only [List.filter_cons,h,ltB_asym h,kDel,kEq_false (ltB_ne h).symm,if_true,Bool.false_eq_true,if_false,Bool.not_false]
   exact .cons _ ih
  ·simp only [List.filter_cons,h,ltB_irr,kDel,kEq_refl,Bool.false_eq_true,if_false,Bool.not_true]
   exact ih
  ·simp only [List.filter_cons,h,ltB_asym h,kDel,kEq_false (ltB_ne h),if_true,Bool.false_eq_true,if_false,Bool.not_false]
   exact List.perm_middle.trans (.cons _ ih)
def PM (R : ByteArray → AVal → α → Prop) (kvs : List (AVal × AVal)) (c : List (ByteArray × α)) : Prop :=
 ∃ l : List (ByteArray × AVal × α),kvs = l.map (fun p=>(AVal.str p.1,p.2.1)) ∧ (l.map fun p=>(p.1,p.2.2)).Perm c ∧ ∀ p ∈ l,R p.1 p.2.1 p.2.2
variable {R : ByteArray → AVal → α → Prop} {kvs : List (AVal × AVal)} {c : List (ByteArray × α)}
theorem PM.nil : PM R [] ([] : List (ByteArray × α)):=⟨[],rfl,.nil,fun p hp=>by cases hp⟩
theorem PM.len (h : PM R kvs c) : kvs.length = c.length:=by
 obtain ⟨l,rfl,hp,_⟩:=h
 have:=hp.length_eq
 simpa using this
theorem PM.ok (h : PM R kvs c) (k : ByteArray) : keyOk 2 (.str k) kvs = true:=by
 obtain ⟨l,rfl,_⟩:=h
 simp [keyOk,eqCell]
theorem PM.mono {R2 : ByteArray → AVal → α → Prop} (h : PM R kvs c) (hR : ∀ k x a,(k,a) ∈ c → R k x a → R2 k x a) : PM R2 kvs c:=by
 obtain ⟨l,h1,h2,h3⟩:=h
 exact ⟨l,h1,h2,fun p hp=>hR _ _ _ (h2.mem_iff.1 (List.mem_map.2 ⟨p,hp,rfl⟩)) (h3 p hp)⟩
theorem PM.get (h : PM R kvs c) {i : Nat} {kv : AVal × AVal} (hi : kvs[i]? = some kv) : ∃ k x a,kv = (.str k,x) ∧ (k,a) ∈ c ∧ R k x a:=by
 obtain ⟨l,rfl,hp,hr⟩:=h
 rw [List.getElem?_map] at hi
 obtain ⟨p,hp1,rfl⟩:=Option.map_eq_some_iff.1 hi
 have hm:=List.mem_of_getElem? hp1
 exact ⟨p.1,p.2.1,p.2.2,rfl,hp.mem_iff.1 (List.mem_map.2 ⟨p,hm,rfl⟩),hr p hm⟩
theorem mfind_map (k : ByteArray) : ∀ l : List (ByteArray × AVal × α),mfind 2 (.str k) (l.map fun p=>(AVal.str p.1,p.2.1)) = (l.find? fun p=>kEq k p.1).map (·.2.1)
 | []=>rfl
 | p :: l=>by
  rw [List.map_cons,mfind]
  cases h : kEq k p.1 with
  | true =>
   have : eqCell 2 (.str k) (.str p.1) = some true:=by rw [← h];rfl
   simp only [this,List.find?_cons,h,Option.map_some]
  | false =>
   have : eqCell 2 (.str k) (.str p.1) = some false:=by rw [← h];rfl
   simp only [this,List.find?_cons,h,mfind_map k l]
theorem PM.find (h : PM R kvs c) (hs : KSrt c) (k : ByteArray) : (mfind 2 (.str k) kvs = none ∧ kLk k c = none) ∨ ∃ x a,mfind 2 (.str k) kvs = some x ∧ kLk k c = some a ∧ R k x a:=by
 obtain ⟨l,rfl,hp,hr⟩:=h
 rw [mfind_map]
 cases hf : l.find? fun p=>kEq k p.1 with
 | none =>
  refine .inl ⟨rfl,kLk_none.2 fun p hpc e=>?_⟩
  obtain ⟨q,hq,rfl⟩:=List.mem_map.1 (hp.mem_iff.2 hpc)
  exact List.find?_eq_none.1 hf q hq (kEq_iff.2 e.symm)
 | some p =>
  have e:=kEq_iff.1 (List.find?_some (p:=fun p : ByteArray × AVal × α=>kEq k p.1) hf)
  have hm:=List.mem_of_find?_eq_some hf
  refine .inr ⟨p.2.1,p.2.2,rfl,(kLk_some hs).2 ?_,by rw [e];exact hr p hm⟩
  rw [e]
  exact hp.mem_iff.1 (List.mem_map.2 ⟨p,hm,rfl⟩)
def putT (k : ByteArray) (x : AVal) (a : α) : List (ByteArray × AVal × α) → List (ByteArray × AVal × α)
 | []=>[(k,x,a)]
 | p :: r=>if kEq k p.1 then (k,x,a) :: r else p :: putT k x a r
theorem mput_map (k : ByteArray) (x : AVal) (a : α) : ∀ l : List (ByteArray × AVal × α),mput 2 (.str k) x (l.map fun p=>(AVal.str p.1,p.2.1)) = (putT k x a l).map fun p=>(AVal.str p.1,p.2.1)
 | []=>rfl
 | p :: l=>by
  rw [List.map_cons,mput,putT]
  cases h : kEq k p.1 with
  | true =>
   have : eqCell 2 (.str k) (.str p.1) = some true:=by rw [← h];rfl
   simp only [this,if_true,List.map_cons]
   rw [kEq_iff.1 h]
  | false =>
   have : eqCell 2 (.str k) (.str p.1) = some false:=by rw [← h];rfl
   simp only [this,Bool.false_eq_true,if_false,List.map_cons,mput_map k x a l]
theorem putT_perm (k : ByteArray) (x : AVal) (a : α) : ∀ l : List (ByteArray × AVal × α),(l.map fun p=>p.1).Nodup → ((putT k x a l).map fun p=>(p.1,p.2.2)).Perm ((k,a) :: kDel k (l.map fun p=>(p.1,p.2.2)))
 | [],_=>List.Perm.refl _
 | p :: l,hn=>by
  rw [List.map_cons,List.nodup_cons] at hn
  rw [putT,List.map_cons,kDel]
  cases h : kEq k p.1 with
  | true =>
   have e:=kEq_iff.1 h
   rw [if_pos rfl,List.map_cons,List.filter_cons_of_neg (by simp [h])]
   refine .cons _ (List.Perm.of_eq (List.filter_eq_self.2 fun q hq=>?_).symm)
   obtain ⟨r,hr,rfl⟩:=List.mem_map.1 hq
   show (!kEq k r.1) = true
   rw [kEq_false fun e2=>hn.1 (List.mem_map.2 ⟨r,hr,by rw [← e2,e]⟩)];rfl
  | false =>
   rw [if_neg Bool.false_ne_true,List.map_cons,List.filter_cons_of_pos (by simp [h])]
   exact (List.Perm.cons _ (putT_perm k x a l hn.2)).trans (.swap _ _ _)
theorem putT_mem {k : ByteArray} {x : AVal} {a : α} : ∀ {l : List (ByteArray × AVal × α)} {p : ByteArray × AVal × α},p ∈ putT k x a l → p ∈ l ∨ p = (k,x,a)
 | [],p,h=>by simp [putT] at h;exact .inr h
 | q :: l,p,h=>by
  rw [putT] at h
  split at h
  ·rcases List.mem_cons.1 h with rfl | h
   ·exact .inr rfl
   ·exact .inl (List.mem_cons_of_mem _ h)
  ·rcases List.mem_cons.1 h with rfl | h
   ·exact .inl (List.mem_cons_self ..)
   ·rcases putT_mem h with h | h
    ·exact .inl (List.mem_cons_of_mem _ h)
    ·exact .inr h
theorem KSrt.keys {c : List (ByteArray × α)} (h : KSrt c) : (c.map (·.1)).Nodup:=by
 induction c with
 | nil=>exact List.nodup_nil
 | cons x c ih =>
  unfold KSrt at h
  rw [List.pairwise_cons] at h
  rw [List.map_cons,List.nodup_cons]
  refine ⟨fun hm=>?_,ih h.2⟩
  obtain ⟨y,hy,e⟩:=List.mem_map.1 hm
  exact ltB_ne (h.1 y hy) e.symm
theorem PM.keysL {l : List (ByteArray × AVal × α)} (hp : (l.map fun p=>(p.1,p.2.2)).Perm c) (hs : KSrt c) : (l.map fun p=>p.1).Nodup:=by
 have h1:=hs.keys
 have h2:=(hp.map (·.1)).nodup_iff.2 h1
 simpa [List.map_map,Function.comp_def] using h2
theorem kDel_perm {c d : List (ByteArray × α)} (h : c.Perm d) (k : ByteArray) : (kDel k c).Perm (kDel k d):=h.filter _
theorem PM.put (h : PM R kvs c) (hs : KSrt c) {k : ByteArray} {x : AVal} {a : α} (hR : R k x a) : PM R (mput 2 (.str k) x kvs) (kIns k a c):=by
 obtain ⟨l,rfl,hp,hr⟩:=h
 refine ⟨putT k x a l,mput_map k x a l,?_,fun p hpm=>?_⟩
 ·exact (putT_perm k x a l (PM.keysL hp hs)).trans ((List.Perm.cons _ (kDel_perm hp k)).trans (kIns_perm k a c).symm)
 ·rcases putT_mem hpm with h | rfl
  ·exact hr p h
  ·exact hR
def delT (k : ByteArray) : List (ByteArray × AVal × α) → List (ByteArray × AVal × α)
 | []=>[]
 | p :: r=>if kEq k p.1 then r else p :: delT k r
theorem mdel_map (k : ByteArray) : ∀ l : List (ByteArray × AVal × α),mdel 2 (.str k) (l.map fun p=>(AVal.str p.1,p.2.1)) = (delT k l).map fun p=>(AVal.str p.1,p.2.1)
 | []=>rfl
 | p :: l=>by
  rw [List.map_cons,mdel,delT]
  cases h : kEq k p.1 with
  | true =>
   have : eqCell 2 (.str k) (.str p.1) = some true:=by rw [← h];rfl
   simp only [this,if_true]
  | false =>
   have : eqCell 2 (.str k) (.str p.1) = some false:=by rw [← h];rfl
   simp only [this,Bool.false_eq_true,if_false,List.map_cons,mdel_map k l]
theorem delT_eq (k : ByteArray) : ∀ l : List (ByteArray × AVal × α),(l.map fun p=>p.1).Nodup → delT k l = l.filter fun p=>!kEq k p.1
 | [],_=>rfl
 | p :: l,hn=>by
  rw [List.map_cons,List.nodup_cons] at hn
  rw [delT]
  cases h : kEq k p.1 with
  | true =>
   have e:=kEq_iff.1 h
   rw [if_pos rfl,List.filter_cons_of_neg (by simp [h])]
   refine (List.filter_eq_self.2 fun q hq=>?_).symm
   rw [kEq_false fun e2=>hn.1 (List.mem_map.2 ⟨q,hq,by rw [← e2,e]⟩)];rfl
  | false=>rw [if_neg Bool.false_ne_true,List.filter_cons_of_pos (by simp [h]),delT_eq k l hn.2]
theorem PM.del (h : PM R kvs c) (hs : KSrt c) (k : ByteArray) : PM R (mdel 2 (.str k) kvs) (kDel k c):=by
 obtain ⟨l,rfl,hp,hr⟩:=h
 refine ⟨delT k l,mdel_map k l,?_,fun p hpm=>?_⟩
 ·rw [delT_eq k l (PM.keysL hp hs)]
  have:=kDel_perm hp k
  unfold kDel at this
  rw [List.filter_map] at this
  exact this
 ·rw [delT_eq k l (PM.keysL hp hs)] at hpm
  exact hr p (List.mem_filter.1 hpm).1
theorem KSrt.eq {c d : List (ByteArray × α)} (hc : KSrt c) (hd : KSrt d) (h : c.Perm d) : c = d:=by
 refine List.Perm.eq_of_pairwise (le:=fun x y : ByteArray × α=>ltB x.1 y.1 = true) ?_ (show List.Pairwise _ c from hc) (show List.Pairwise _ d from hd) h
 intro a b _ _ h1 h2
 rw [ltB_asym h1] at h2;cases h2
theorem kIns_lk {c : List (ByteArray × α)} (hs : KSrt c) (k j : ByteArray) (a : α) : kLk j (kIns k a c) = if kEq j k then some a else kLk j c:=by
 by_cases e : j = k
 ·subst e
  rw [kEq_refl,if_pos rfl]
  exact (kLk_some (hs.ins j a)).2 ((kIns_perm j a c).mem_iff.2 (List.mem_cons_self ..))
 ·rw [kEq_false e,if_neg Bool.false_ne_true]
  cases h : kLk j c with
  | none =>
   refine kLk_none.2 fun p hp=>?_
   rcases List.mem_cons.1 ((kIns_perm k a c).mem_iff.1 hp) with rfl | hp
   ·exact fun h=>e h.symm
   ·exact kLk_none.1 h p (List.mem_filter.1 hp).1
  | some b =>
   refine (kLk_some (hs.ins k a)).2 ((kIns_perm k a c).mem_iff.2 (List.mem_cons_of_mem _ (List.mem_filter.2 ⟨(kLk_some hs).1 h,?_⟩)))
   rw [kEq_false fun h=>e h.symm];rfl
theorem kDel_lk {c : List (ByteArray × α)} (hs : KSrt c) (k j : ByteArray) : kLk j (kDel k c) = if kEq j k then none else kLk j c:=by
 by_cases e : j = k
 ·subst e
  rw [kEq_refl,if_pos rfl]
  refine kLk_none.2 fun p hp h=>?_
  have:=(List.mem_filter.1 hp).2
  rw [h,kEq_refl] at this
  cases this
 ·rw [kEq_false e,if_neg Bool.false_ne_true]
  cases h : kLk j c with
  | none=>exact kLk_none.2 fun p hp=>kLk_none.1 h p (List.mem_filter.1 hp).1
  | some b =>
   refine (kLk_some (hs.del k)).2 (List.mem_filter.2 ⟨(kLk_some hs).1 h,?_⟩)
   rw [kEq_false fun h=>e h.symm];rfl
end
end Go.AW
namespace Go.AW
def c_z01 : AFunc:=⟨13,[.tmp 4],(.seq (.region [ iD 4 (.move (.c .nil))]) (.seq (.region [ iM 5 0,iM 6 1,iD 7 (.lenS (.t 6)),iD 8 (.conv .u8 (.t 7)),iD 9 (.buildSlice 1 1 [(.int .u8 0)] [(0,(.t 8))]),iD 10 (.append 1 1 [(.int .u8 0)] (.t 5) (.t 9)),iM 11 1,iD 12 (.append 1 1 [(.int .u8 0)] (.t 10) (.t 11)),iM 4 12]) .ret))⟩
structure F_z01 (P : Program) where
 id : FuncId
 has : Has P id [] c_z01
def c_z00 : AFunc:=⟨19,[.tmp 2],(.seq (.region [ iD 2 (.move (.c (.int .u32 0)))]) (.seq (.region [ iD 3 (.move (.c (.int .u32 2166136261)))]) (.seq (.seq (.region [ iM 6 0,iD 7 (.len (.t 6)),iD 8 (.move (cI 0))]) (.block 0 (.loop (.seq (.region [ iD 9 (.bin .lss (.t 8) (.t 7))]) (.seq (.cond (.t 9) .skip (.exit 0)) (.seq (.block 1 (.seq (.region [ iD 10 (.indexAddr 1 (.t 6) (.t 8)),iD 11 (.load false 1 (.t 10)),iM 5 11]) (.region [ iM 12 3,iM 13 5,iD 14 (.conv .u32 (.t 13)),iD 15 (.bin .xor (.t 12) (.t 14)),iD 16 (.bin .mul (.t 15) (.c (.int .u32 16777619))),iM 3 16]))) (.region [ iD 17 (.bin .add (.t 8) (cI 1)),iM 8 17]))))))) (.seq (.region [ iM 18 3,iM 2 18]) .ret))))⟩
structure F_z00 (P : Program) where
 id : FuncId
 has : Has P id [] c_z00
def c_z07 : AFunc:=⟨10,[.tmp 4],(.seq (.region [ iD 4 (.move (.c (.bool false)))]) (.seq (.region [ iM 5 0,iD 6 (.convBS (.t 5)),iM 7 1,iD 8 (.convBS (.t 7)),iD 9 (.bin .eql (.t 6) (.t 8)),iM 4 9]) .ret))⟩
structure F_z07 (P : Program) where
 id : FuncId
 has : Has P id [] c_z07
def c_z03 : AFunc:=⟨38,[.tmp 4],(.seq (.region [ iD 4 (.move (.c .nil))]) (.seq (.seq (.region [ iM 6 0,iD 7 (.nop (.t 6)),iD 8 (.fieldAddr 1 (.t 7)),iD 9 (.load false 1 (.t 8)),iM 10 9,⟨(some 11),.move (.t 1),some (some 10,false)⟩,⟨(some 12),.move (.t 0),some (some 10,false)⟩,⟨(some 13),.nop (.t 12),some (some 10,false)⟩,⟨(some 14),.fieldAddr 0 (.t 13),some (some 10,false)⟩,⟨(some 15),.load false 1 (.t 14),some (some 10,false)⟩,⟨(some 16),.len (.t 15),some (some 10,false)⟩,⟨(some 17),.bin .gtr (.t 11) (.t 16),some (some 10,false)⟩,iD 18 (.pick (.t 10) (.c (.bool true)) (.t 17))]) (.cond (.t 18) (.seq (.region [ iM 19 0,iD 20 (.nop (.t 19)),iD 21 (.fieldAddr 1 (.t 20)),iN (.store 1 (.t 21) (.c (.bool true)))]) (.seq (.region [ iD 4 (.move (.c .nil))]) .ret)) .skip)) (.seq (.region [ iM 22 0,iD 23 (.nop (.t 22)),iD 24 (.fieldAddr 0 (.t 23)),iD 25 (.load false 1 (.t 24)),iM 26 1,iD 27 (.slice 1 (.t 25) none (some (.t 26))),iM 5 27]) (.seq (.region [ iM 28 0,iM 29 0,iD 30 (.nop (.t 29)),iD 31 (.fieldAddr 0 (.t 30)),iD 32 (.load false 1 (.t 31)),iM 33 1,iD 34 (.slice 1 (.t 32) (some (.t 33)) none),iD 35 (.nop (.t 28)),iD 36 (.fieldAddr 0 (.t 35)),iN (.store 1 (.t 36) (.t 34))]) (.seq (.region [ iM 37 5,iM 4 37]) .ret)))))⟩
structure F_z03 (P : Program) where
 id : FuncId
 has : Has P id [] c_z03
def c_z02 (f_z03 : FuncId) : AFunc:=⟨23,[.tmp 4],(.seq (.region [ iD 4 (.move (cI 0))]) (.seq (.region [ iD 5 (.move (cI 0))]) (.seq (.seq (.region [ iM 8 0,iM 9 1,iD 10 (.call f_z03 [(.t 8),(.t 9)]),iD 11 (.len (.t 10)),iD 12 (.move (cI 0))]) (.block 0 (.loop (.seq (.region [ iD 13 (.bin .lss (.t 12) (.t 11))]) (.seq (.cond (.t 13) .skip (.exit 0)) (.seq (.block 1 (.seq (.region [ iD 14 (.indexAddr 1 (.t 10) (.t 12)),iD 15 (.load false 1 (.t 14)),iM 7 15]) (.region [ iM 16 5,iD 17 (.bin .shl (.t 16) (.c (.int .u64 8))),iM 18 7,iD 19 (.conv .i64 (.t 18)),iD 20 (.bin .or (.t 17) (.t 19)),iM 5 20]))) (.region [ iD 21 (.bin .add (.t 12) (cI 1)),iM 12 21]))))))) (.seq (.region [ iM 22 5,iM 4 22]) .ret))))⟩
structure F_z02 (P : Program) where
 id : FuncId
 z03 : F_z03 P
 has : Has P id [] (c_z02 z03.id)
def c_z04 (f_z02 : FuncId) (f_z03 : FuncId) : AFunc:=⟨8,[.tmp 2],(.seq (.region [ iD 2 (.move (.c (.str (bs []))))]) (.seq (.region [ iM 3 0,iM 4 0,iD 5 (.call f_z02 [(.t 4),(cI 1)]),iD 6 (.call f_z03 [(.t 3),(.t 5)]),iD 7 (.convBS (.t 6)),iM 2 7]) .ret))⟩
structure F_z04 (P : Program) where
 id : FuncId
 z02 : F_z02 P
 z03 : F_z03 P
 has : Has P id [] (c_z04 z02.id z03.id)
def c_z1g : AFunc:=⟨22,[.tmp 2],(.seq (.region [ iD 2 (.move (.c (.int .u32 0)))]) (.seq (.region [ iD 3 (.move (.c (.int .u64 2166136261)))]) (.seq (.seq (.region [ iD 4 (.move (cI 0))]) (.block 0 (.loop (.seq (.seq (.region [ iM 5 4,iM 6 0,iD 7 (.len (.t 6)),iD 8 (.bin .lss (.t 5) (.t 7))]) (.cond (.t 8) .skip (.exit 0))) (.seq (.block 1 (.region [ iM 11 3,iM 12 0,iM 13 4,iD 14 (.indexAddr 1 (.t 12) (.t 13)),iD 15 (.load false 1 (.t 14)),iD 16 (.conv .u64 (.t 15)),iD 17 (.bin .xor (.t 11) (.t 16)),iD 18 (.bin .mul (.t 17) (.c (.int .u64 16777619))),iD 19 (.bin .rem (.t 18) (.c (.int .u64 4294967296))),iM 3 19])) (.region [ iM 9 4,iD 10 (.bin .add (.t 9) (cI 1)),iM 4 10])))))) (.seq (.region [ iM 20 3,iD 21 (.conv .u32 (.t 20)),iM 2 21]) .ret))))⟩
structure F_z1g (P : Program) where
 id : FuncId
 has : Has P id [] c_z1g
def c_z1h : AFunc:=⟨24,[.tmp 4],(.seq (.region [ iD 4 (.move (.c .nil))]) (.seq (.region [ iM 7 1,iD 8 (.mkSlice 1 1 [(.int .u8 0)] (.t 7) (.t 7)),iM 5 8]) (.seq (.seq (.region [ iM 9 1,iD 10 (.bin .sub (.t 9) (cI 1)),iM 6 10]) (.block 0 (.loop (.seq (.seq (.region [ iM 11 6,iD 12 (.bin .geq (.t 11) (cI 0))]) (.cond (.t 12) .skip (.exit 0))) (.seq (.block 1 (.seq (.region [ iM 15 5,iM 16 6,iM 17 0,iD 18 (.bin .rem (.t 17) (cI 256)),iD 19 (.conv .u8 (.t 18)),iD 20 (.indexAddr 1 (.t 15) (.t 16)),iN (.store 1 (.t 20) (.t 19))]) (.region [ iM 21 0,iD 22 (.bin .quo (.t 21) (cI 256)),iM 0 22]))) (.region [ iM 13 6,iD 14 (.bin .sub (.t 13) (cI 1)),iM 6 14])))))) (.seq (.region [ iM 23 5,iM 4 23]) .ret))))⟩
structure F_z1h (P : Program) where
 id : FuncId
 has : Has P id [] c_z1h
def c_z28 : AFunc:=⟨14,[.tmp 4],(.seq (.region [ iD 4 (.move (cI 0))]) (.seq (.seq (.region [ iM 5 1,iD 6 (.bin .lss (.t 5) (cI 1))]) (.cond (.t 6) (.seq (.region [ iD 4 (.move (cI 0))]) .ret) .skip)) (.seq (.region [ iM 7 0,iM 8 1,iD 9 (.bin .rem (.t 7) (.t 8)),iM 10 1,iD 11 (.bin .add (.t 9) (.t 10)),iM 12 1,iD 13 (.bin .rem (.t 11) (.t 12)),iM 4 13]) .ret)))⟩
structure F_z28 (P : Program) where
 id : FuncId
 has : Has P id [] c_z28
def c_z27 (f_z28 : FuncId) : AFunc:=⟨39,[.tmp 4],(.seq (.region [ iD 4 (.move (cI 0))]) (.seq (.seq (.draw [ jM 5 0,jD 6 (.nop (.t 5)),jD 7 (.fieldAddr 1 (.t 6)),jD 8 (.load false 1 (.t 7)),jM 9 0,jD 10 (.nop (.t 9)),jD 11 (.fieldAddr 0 (.t 10)),jD 12 (.load false 1 (.t 11)),jD 13 (.len (.t 12)),jD 14 (.bin .geq (.t 8) (.t 13)),jM 15 14,(⟨(some 16),.move (.t 1),some (some 15,false)⟩,[]),(⟨(some 17),.bin .lss (.t 16) (cI 1),some (some 15,false)⟩,[]),jD 18 (.pick (.t 15) (.c (.bool true)) (.t 17))]) (.cond (.t 18) (.seq (.region [ iD 4 (.move (cI 0))]) .ret) .skip)) (.seq (.region [ iM 19 0,iD 20 (.nop (.t 19)),iD 21 (.fieldAddr 1 (.t 20)),iD 22 (.load false 1 (.t 21)),iD 23 (.bin .add (.t 22) (cI 1)),iD 24 (.nop (.t 19)),iD 25 (.fieldAddr 1 (.t 24)),iN (.store 1 (.t 25) (.t 23))]) (.seq (.draw [ jM 26 0,jD 27 (.nop (.t 26)),jD 28 (.fieldAddr 0 (.t 27)),jD 29 (.load false 1 (.t 28)),jM 30 0,jD 31 (.nop (.t 30)),jD 32 (.fieldAddr 1 (.t 31)),jD 33 (.load false 1 (.t 32)),jD 34 (.bin .sub (.t 33) (cI 1)),jD 35 (.indexAddr 1 (.t 29) (.t 34)),jD 36 (.load false 1 (.t 35)),jM 37 1,jD 38 (.call f_z28 [(.t 36),(.t 37)]),jM 4 38]) .ret))))⟩
structure F_z27 (P : Program) where
 id : FuncId
 z28 : F_z28 P
 has : Has P id [] (c_z27 z28.id)
def c_z29 : AFunc:=⟨10,[.tmp 4],(.seq (.region [ iD 4 (.move (.c (.bool false)))]) (.seq (.region [ iM 5 0,iD 6 (.convBS (.t 5)),iM 7 1,iD 8 (.convBS (.t 7)),iD 9 (.bin .eql (.t 6) (.t 8)),iM 4 9]) .ret))⟩
structure F_z29 (P : Program) where
 id : FuncId
 has : Has P id [] c_z29
end Go.AW
namespace Go.AW
def c_z06 : AFunc:=⟨8,[.tmp 2],(.seq (.region [ iD 2 (.move (.c .nil))]) (.seq (.seq (.region [ iM 3 0,iD 4 (.isNil false (.t 3))]) (.cond (.t 4) (.seq (.region [ iD 2 (.move (.c .nil))]) .ret) .skip)) (.seq (.region [ iD 5 (.buildSlice 1 0 [(.int .u8 0)] []),iM 6 0,iD 7 (.append 1 1 [(.int .u8 0)] (.t 5) (.t 6)),iM 2 7]) .ret)))⟩
structure F_z06 (P : Program) where
 id : FuncId
 has : Has P id [] c_z06
def c_z0b : AFunc:=⟨19,[.tmp 4],(.seq (.region [ iD 4 (.move (.c .nil))]) (.seq (.region [ iM 5 0,iM 6 1,iD 7 (.bin .shr (.t 6) (.c (.int .u64 24))),iD 8 (.conv .u8 (.t 7)),iM 9 1,iD 10 (.bin .shr (.t 9) (.c (.int .u64 16))),iD 11 (.conv .u8 (.t 10)),iM 12 1,iD 13 (.bin .shr (.t 12) (.c (.int .u64 8))),iD 14 (.conv .u8 (.t 13)),iM 15 1,iD 16 (.conv .u8 (.t 15)),iD 17 (.buildSlice 1 4 [(.int .u8 0)] [(0,(.t 8)),(1,(.t 11)),(2,(.t 14)),(3,(.t 16))]),iD 18 (.append 1 1 [(.int .u8 0)] (.t 5) (.t 17)),iM 4 18]) .ret))⟩
structure F_z0b (P : Program) where
 id : FuncId
 has : Has P id [] c_z0b
def c_z0c (f_z0b : FuncId) (f_z00 : FuncId) : AFunc:=⟨10,[.tmp 2],(.seq (.region [ iD 2 (.move (.c (.int .u32 0)))]) (.seq (.region [ iM 3 0,iD 4 (.len (.t 3)),iD 5 (.conv .u32 (.t 4)),iD 6 (.call f_z0b [(.c .nil),(.t 5)]),iM 7 0,iD 8 (.append 1 1 [(.int .u8 0)] (.t 6) (.t 7)),iD 9 (.call f_z00 [(.t 8)]),iM 2 9]) .ret))⟩
structure F_z0c (P : Program) where
 id : FuncId
 z0b : F_z0b P
 z00 : F_z00 P
 has : Has P id [] (c_z0c z0b.id z00.id)
def c_z08 (f_z06 : FuncId) (f_z0b : FuncId) (f_z0c : FuncId) : AFunc:=⟨32,[.tmp 4,.tmp 5],(.seq (.region [ iD 4 (.move (.c .nil)),iD 5 (.move (cI 0))]) (.seq (.seq (.region [ iM 7 1,iD 8 (.len (.t 7)),iD 9 (.bin .gtr (.t 8) (cI 65536)),iM 10 9,⟨(some 11),.move (.t 0),some (some 10,false)⟩,⟨(some 12),.len (.t 11),some (some 10,false)⟩,⟨(some 13),.bin .add (.t 12) (cI 8),some (some 10,false)⟩,⟨(some 14),.move (.t 1),some (some 10,false)⟩,⟨(some 15),.len (.t 14),some (some 10,false)⟩,⟨(some 16),.bin .add (.t 13) (.t 15),some (some 10,false)⟩,⟨(some 17),.bin .gtr (.t 16) (cI 4194304),some (some 10,false)⟩,iD 18 (.pick (.t 10) (.c (.bool true)) (.t 17))]) (.cond (.t 18) (.seq (.region [ iD 4 (.move (.c .nil)),iD 5 (.move (cI 2))]) .ret) .skip)) (.seq (.region [ iM 19 0,iD 20 (.call f_z06 [(.t 19)]),iM 21 1,iD 22 (.len (.t 21)),iD 23 (.conv .u32 (.t 22)),iD 24 (.call f_z0b [(.t 20),(.t 23)]),iM 6 24]) (.seq (.region [ iM 25 6,iM 26 1,iD 27 (.call f_z0c [(.t 26)]),iD 28 (.call f_z0b [(.t 25),(.t 27)]),iM 6 28]) (.seq (.region [ iM 29 6,iM 30 1,iD 31 (.append 1 1 [(.int .u8 0)] (.t 29) (.t 30)),iM 4 31,iD 5 (.move (cI 0))]) .ret)))))⟩
structure F_z08 (P : Program) where
 id : FuncId
 z06 : F_z06 P
 z0b : F_z0b P
 z0c : F_z0c P
 has : Has P id [] (c_z08 z06.id z0b.id z0c.id)
def c_z0a : AFunc:=⟨25,[.tmp 2],(.seq (.region [ iD 2 (.move (cI 0))]) (.seq (.draw [ jM 3 0,jD 4 (.indexAddr 1 (.t 3) (cI 0)),jD 5 (.load false 1 (.t 4)),jD 6 (.conv .i64 (.t 5)),jD 7 (.bin .shl (.t 6) (.c (.int .u64 24))),jM 8 0,jD 9 (.indexAddr 1 (.t 8) (cI 1)),jD 10 (.load false 1 (.t 9)),jD 11 (.conv .i64 (.t 10)),jD 12 (.bin .shl (.t 11) (.c (.int .u64 16))),jD 13 (.bin .or (.t 7) (.t 12)),jM 14 0,jD 15 (.indexAddr 1 (.t 14) (cI 2)),jD 16 (.load false 1 (.t 15)),jD 17 (.conv .i64 (.t 16)),jD 18 (.bin .shl (.t 17) (.c (.int .u64 8))),jD 19 (.bin .or (.t 13) (.t 18)),jM 20 0,jD 21 (.indexAddr 1 (.t 20) (cI 3)),jD 22 (.load false 1 (.t 21)),jD 23 (.conv .i64 (.t 22)),jD 24 (.bin .or (.t 19) (.t 23)),jM 2 24]) .ret))⟩
structure F_z0a (P : Program) where
 id : FuncId
 has : Has P id [] c_z0a
def c_z09 (f_journal_Read : FuncId) (f_z06 : FuncId) : AFunc:=⟨14,[.tmp 2],(.seq (.region [ iD 2 (.move (.c .nil))]) (.seq (.region [ iM 6 0,iD 7 (.call f_journal_Read [(.t 6)]),iM 5 7,iD 8 (.extract (.t 5) 0),iD 9 (.extract (.t 5) 1),iM 3 8,iM 4 9]) (.seq (.region [ iM 10 0,iM 11 4,iD 12 (.slice 1 (.t 10) none (some (.t 11))),iD 13 (.call f_z06 [(.t 12)]),iM 2 13]) .ret)))⟩
structure F_z09 (P : Program) where
 id : FuncId
 journal_Read : RawF
 z06 : F_z06 P
 has : Has P id [] (c_z09 journal_Read.id z06.id)
def c_z1k : AFunc:=⟨24,[.tmp 4],(.seq (.region [ iD 4 (.move (.c .nil))]) (.seq (.region [ iM 7 1,iD 8 (.mkSlice 1 1 [(.int .u8 0)] (.t 7) (.t 7)),iM 5 8]) (.seq (.seq (.region [ iM 9 1,iD 10 (.bin .sub (.t 9) (cI 1)),iM 6 10]) (.block 0 (.loop (.seq (.seq (.region [ iM 11 6,iD 12 (.bin .geq (.t 11) (cI 0))]) (.cond (.t 12) .skip (.exit 0))) (.seq (.block 1 (.seq (.region [ iM 15 5,iM 16 6,iM 17 0,iD 18 (.bin .rem (.t 17) (cI 256)),iD 19 (.conv .u8 (.t 18)),iD 20 (.indexAddr 1 (.t 15) (.t 16)),iN (.store 1 (.t 20) (.t 19))]) (.region [ iM 21 0,iD 22 (.bin .quo (.t 21) (cI 256)),iM 0 22]))) (.region [ iM 13 6,iD 14 (.bin .sub (.t 13) (cI 1)),iM 6 14])))))) (.seq (.region [ iM 23 5,iM 4 23]) .ret))))⟩
structure F_z1k (P : Program) where
 id : FuncId
 has : Has P id [] c_z1k
def c_z1j (f_z1k : FuncId) (f_z1g : FuncId) : AFunc:=⟨22,[.tmp 2],(.seq (.region [ iD 2 (.move (.c .nil))]) (.seq (.region [ iM 5 0,iD 6 (.len (.t 5)),iD 7 (.call f_z1k [(.t 6),(cI 4)]),iM 8 0,iD 9 (.append 1 1 [(.int .u8 0)] (.t 7) (.t 8)),iM 3 9]) (.seq (.region [ iM 10 3,iD 11 (.slice 1 (.t 10) none (some (cI 4))),iD 12 (.append 1 1 [(.int .u8 0)] (.c .nil) (.t 11)),iM 4 12]) (.seq (.region [ iM 13 4,iM 14 3,iD 15 (.call f_z1g [(.t 14)]),iD 16 (.conv .i64 (.t 15)),iD 17 (.call f_z1k [(.t 16),(cI 4)]),iD 18 (.append 1 1 [(.int .u8 0)] (.t 13) (.t 17)),iM 4 18]) (.seq (.region [ iM 19 4,iM 20 0,iD 21 (.append 1 1 [(.int .u8 0)] (.t 19) (.t 20)),iM 2 21]) .ret)))))⟩
structure F_z1j (P : Program) where
 id : FuncId
 z1k : F_z1k P
 z1g : F_z1g P
 has : Has P id [] (c_z1j z1k.id z1g.id)
def c_z1i (f_z1j : FuncId) : AFunc:=⟨23,[.tmp 4,.tmp 5],(.seq (.region [ iD 4 (.move (.c .nil)),iD 5 (.move (cI 0))]) (.seq (.seq (.region [ iM 6 1,iD 7 (.len (.t 6)),iD 8 (.bin .gtr (.t 7) (cI 65536)),iM 9 8,⟨(some 10),.move (.t 0),some (some 9,false)⟩,⟨(some 11),.len (.t 10),some (some 9,false)⟩,⟨(some 12),.bin .add (.t 11) (cI 8),some (some 9,false)⟩,⟨(some 13),.move (.t 1),some (some 9,false)⟩,⟨(some 14),.len (.t 13),some (some 9,false)⟩,⟨(some 15),.bin .add (.t 12) (.t 14),some (some 9,false)⟩,⟨(some 16),.bin .gtr (.t 15) (cI 4194304),some (some 9,false)⟩,iD 17 (.pick (.t 9) (.c (.bool true)) (.t 16))]) (.cond (.t 17) (.seq (.region [ iD 4 (.move (.c .nil)),iD 5 (.move (cI 2))]) .ret) .skip)) (.seq (.region [ iM 18 0,iD 19 (.append 1 1 [(.int .u8 0)] (.c .nil) (.t 18)),iM 20 1,iD 21 (.call f_z1j [(.t 20)]),iD 22 (.append 1 1 [(.int .u8 0)] (.t 19) (.t 21)),iM 4 22,iD 5 (.move (cI 0))]) .ret)))⟩
structure F_z1i (P : Program) where
 id : FuncId
 z1j : F_z1j P
 has : Has P id [] (c_z1i z1j.id)
def c_z1l (f_z1j : FuncId) : AFunc:=⟨70,[.tmp 2,.tmp 3],(.seq (.region [ iD 2 (.move (.c .nil)),iD 3 (.move (cI 0))]) (.seq (.region [ iD 4 (.move (.c .nil))]) (.seq (.region [ iD 5 (.move (cI 0))]) (.seq (.block 0 (.loop (.seq (.seq (.region [ iM 9 5,iD 10 (.bin .add (.t 9) (cI 8)),iM 11 0,iD 12 (.len (.t 11)),iD 13 (.bin .leq (.t 10) (.t 12))]) (.cond (.t 13) .skip (.exit 0))) (.block 1 (.seq (.region [ iD 6 (.move (cI 0))]) (.seq (.seq (.region [ iD 7 (.move (cI 0))]) (.block 2 (.loop (.seq (.seq (.region [ iM 14 7,iD 15 (.bin .lss (.t 14) (cI 4))]) (.cond (.t 15) .skip (.exit 2))) (.seq (.block 3 (.region [ iM 18 6,iD 19 (.bin .mul (.t 18) (cI 256)),iM 20 0,iM 21 5,iM 22 7,iD 23 (.bin .add (.t 21) (.t 22)),iD 24 (.indexAddr 1 (.t 20) (.t 23)),iD 25 (.load false 1 (.t 24)),iD 26 (.conv .i64 (.t 25)),iD 27 (.bin .add (.t 19) (.t 26)),iM 6 27])) (.region [ iM 16 7,iD 17 (.bin .add (.t 16) (cI 1)),iM 7 17])))))) (.seq (.seq (.region [ iM 28 6,iD 29 (.bin .gtr (.t 28) (cI 65536)),iM 30 29,⟨(some 31),.move (.t 5),some (some 30,false)⟩,⟨(some 32),.bin .add (.t 31) (cI 8),some (some 30,false)⟩,⟨(some 33),.move (.t 6),some (some 30,false)⟩,⟨(some 34),.bin .add (.t 32) (.t 33),some (some 30,false)⟩,⟨(some 35),.move (.t 0),some (some 30,false)⟩,⟨(some 36),.len (.t 35),some (some 30,false)⟩,⟨(some 37),.bin .gtr (.t 34) (.t 36),some (some 30,false)⟩,iD 38 (.pick (.t 30) (.c (.bool true)) (.t 37))]) (.cond (.t 38) (.exit 0) .skip)) (.seq (.seq (.region [ iM 39 0,iM 40 5,iD 41 (.bin .add (.t 40) (cI 8)),iM 42 5,iD 43 (.bin .add (.t 42) (cI 8)),iM 44 6,iD 45 (.bin .add (.t 43) (.t 44)),iD 46 (.slice 1 (.t 39) (some (.t 41)) (some (.t 45))),iD 47 (.append 1 1 [(.int .u8 0)] (.c .nil) (.t 46)),iM 8 47]) .ghost) (.seq (.seq (.draw [ jM 48 8,jD 49 (.call f_z1j [(.t 48)]),jD 50 (.convBS (.t 49)),jM 51 0,jM 52 5,jM 53 5,jD 54 (.bin .add (.t 53) (cI 8)),jM 55 6,jD 56 (.bin .add (.t 54) (.t 55)),jD 57 (.slice 1 (.t 51) (some (.t 52)) (some (.t 56))),jD 58 (.convBS (.t 57)),jD 59 (.bin .neq (.t 50) (.t 58))]) (.cond (.t 59) (.exit 0) .skip)) (.region [ iM 60 4,iM 61 8,iD 62 (.buildSlice 1 1 [.nil] [(0,(.t 61))]),iD 63 (.append 1 24 [.nil] (.t 60) (.t 62)),iM 64 5,iD 65 (.bin .add (.t 64) (cI 8)),iM 66 6,iD 67 (.bin .add (.t 65) (.t 66)),iM 4 63,iM 5 67])))))))))) (.seq (.region [ iM 68 4,iM 69 5,iM 2 68,iM 3 69]) .ret)))))⟩
structure F_z1l (P : Program) where
 id : FuncId
 z1j : F_z1j P
 has : Has P id [100008] (c_z1l z1j.id)
end Go.AW
