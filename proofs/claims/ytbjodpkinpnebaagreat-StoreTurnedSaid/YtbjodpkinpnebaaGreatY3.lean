/-
  An abstract machine over the model, the code of functions on it, and their contracts: what the claim needs.
  No condition: definitions, plain laws, contracts over any program that has this code.
-/
import Derived.Test.YtbjodpkinpnebaaGreatY2
set_option linter.all false
namespace Go.AW
variable [dK]
inductive jB(σ:Nat→Nat):a6→a6→Prop where
 |closed (v:a6) (h:v.closed=true):jB σ v v
 |sl (id ep off len:Nat):jB σ (.sl id ep off len) (.sl (σ id) ep off len)
 |ptr (id ep idx fld:Nat):jB σ (.ptr id ep idx fld) (.ptr (σ id) ep idx fld)
 |mp (id:Nat):jB σ (.mp id) (.mp (σ id))
 |it (id:Nat):jB σ (.it id) (.it (σ id))
 |agg (vs rs:List a6) (hl:vs.length=rs.length) (h:∀(i:Nat) (v r:a6),vs[i]?=some v→rs[i]?=some r→jB σ v r):jB σ (.agg vs) (.agg rs)
 |tuple (vs rs:List a6) (hl:vs.length=rs.length) (h:∀(i:Nat) (v r:a6),vs[i]?=some v→rs[i]?=some r→jB σ v r):jB σ (.tuple vs) (.tuple rs)
 |fn (f:FuncId) (vs rs:List a6) (hl:vs.length=rs.length) (h:∀(i:Nat) (v r:a6),vs[i]?=some v→rs[i]?=some r→jB σ v r):jB σ (.fn f vs) (.fn f rs)
theorem jB.cell{σ:Nat→Nat}{a b:a6}(h:jB σ a b):a.isCell=b.isCell:=by cases h<;>rfl
inductive eW(σ:Nat→Nat):aB→aB→Prop where
 |arr (esz:Nat) (es es1:List (List a6)) (hl:es1.length=es.length) (hl2:∀(i:Nat) (e e1:List a6),es[i]?=some e→es1[i]?=some e1→e1.length=e.length)
   (h:∀(i j:Nat) (e e1:List a6) (d d1:a6),es[i]?=some e→es1[i]?=some e1→e[j]?=some d→e1[j]?=some d1→jB σ d d1) :
   eW σ (.arr esz es) (.arr esz es1)
 |iter (s:ByteArray) (p:Nat):eW σ (.iter s p) (.iter s p)
 |map (kvs kvs1:List (a6×a6)) (hl:kvs1.length=kvs.length) (h:∀(i:Nat) (e e1:a6×a6),kvs[i]?=some e→kvs1[i]?=some e1→e1.1=e.1∧jB σ e.2 e1.2):eW σ (.map kvs) (.map kvs1)
theorem a6.closed_of_pure{v:a6}(h:v.isPure=true):v.closed=true:=by cases v<;>first|rfl|exact h|(simp[a6.isPure]at h)
theorem eW.same{σ:Nat→Nat}{o:aB}(h:o.clean=true):eW σ o o:=by
 cases o with
 |arr esz es=>exact .arr esz es es rfl (fun i e e1 h1 h2=>by rw[h1]at h2;cases h2;rfl) fun i j e e1 d d1 h1 h2 h3 h4=>(by
   rw[h1]at h2;cases h2;rw[h3]at h4;cases h4;exact .closed _ (a6.closed_of_pure (gX h h1 h3)))
 |iter s p=>exact .iter s p
 |map kvs=>exact .map kvs kvs rfl fun i e e1 h1 h2=>(by rw[h1]at h2;cases h2;exact⟨rfl,.closed _ (a6.closed_of_pure (JH h h1))⟩)
 |bmap _ _ _=>cases h
 |mit _ _ _=>cases h
theorem eW.mp{σ:Nat→Nat}{x y:aB}(h:eW σ x y)(hm:x.isMp=true):y.isMp=true:=by cases h<;>exact hm
theorem eW.mpL{σ:Nat→Nat}{x y:aB}(h:eW σ x y)(hm:y.isMp=true):x.isMp=true:=by cases h<;>exact hm
theorem eW.after{σ:Nat→Nat}{o o0 o1:aB}{t t':Option Loc}(h:eW σ o0 o1)(ha:o.after o0 t t'):o.after o1 t t':=by
 cases h with
 |iter=>exact ha
 |arr esz es es1 hl _ _ =>
  cases o with
  |iter _ _=>exact ha
  |map _=>exact ha
  |bmap _ _ _=>exact ha
  |mit _ _ _=>exact ha
  |arr z es0=>exact⟨ha.1,by rw[hl];exact ha.2.1,by rw[hl];exact ha.2.2⟩
 |map=>cases o<;>exact ha
theorem eW.afterL{σ:Nat→Nat}{o o0 o1:aB}{t t':Option Loc}(h:eW σ o0 o1)(ha:o0.after o t t'):o1.after o t t':=by
 cases h with
 |iter=>exact ha
 |arr esz es es1 hl _ _ =>
  cases o with
  |iter _ _=>exact ha
  |map _=>exact ha
  |bmap _ _ _=>exact ha
  |mit _ _ _=>exact ha
  |arr z es0=>exact⟨ha.1,by rw[hl];exact ha.2.1,by rw[hl];exact ha.2.2⟩
 |map=>cases o<;>exact ha
theorem eW.ok{σ:Nat→Nat}{o0 o1:aB}(h:eW σ o0 o1)(ho:o0.ok):o1.ok:=by
 cases h with
 |iter=>exact ho
 |map=>exact ho
 |arr esz es es1 hl hl2 hp =>
  intro e1 he1
  obtain⟨n,hn⟩:=List.getElem?_of_mem he1
  have hnl:=(List.getElem?_eq_some_iff.1 hn).1
  have he:es[n]?=some es[n]:=List.getElem?_eq_getElem (by omega)
  obtain⟨g1,g2⟩:=ho _ (List.mem_of_getElem? he)
  refine⟨(hl2 n _ _ he hn).trans g1,fun d1 hd1=>?_⟩
  obtain⟨j,hj⟩:=List.getElem?_of_mem hd1
  have hjl:=(List.getElem?_eq_some_iff.1 hj).1
  have:=hl2 n _ _ he hn
  have hd:es[n][j]?=some es[n][j]:=List.getElem?_eq_getElem (by omega)
  rw[←(hp n j _ _ _ d1 he hn hd hj).cell]
  exact g2 _ (List.mem_of_getElem? hd)
theorem eW.okL{σ:Nat→Nat}{o0 o1:aB}(h:eW σ o0 o1)(ho:o1.ok):o0.ok:=by
 cases h with
 |iter=>exact ho
 |map=>exact ho
 |arr esz es es1 hl hl2 hp =>
  intro e he
  obtain⟨n,hn⟩:=List.getElem?_of_mem he
  have hnl:=(List.getElem?_eq_some_iff.1 hn).1
  have he1:es1[n]?=some es1[n]:=List.getElem?_eq_getElem (by omega)
  obtain⟨g1,g2⟩:=ho _ (List.mem_of_getElem? he1)
  have hle:=hl2 n _ _ hn he1
  refine⟨by omega,fun d hd=>?_⟩
  obtain⟨j,hj⟩:=List.getElem?_of_mem hd
  have hjl:=(List.getElem?_eq_some_iff.1 hj).1
  have hd1:es1[n][j]?=some es1[n][j]:=List.getElem?_eq_getElem (by omega)
  rw[(hp n j _ _ d _ hn he1 hj hd1).cell]
  exact g2 _ (List.mem_of_getElem? hd1)
section
variable {P:Program}{C C':Nat→Nat}{τ τ':Nat→Option Loc}{H H':List aB}{w w':World}
structure KW(σ:Nat→Nat)(τ:Nat→Option Loc)(H:List aB)(τ':Nat→Option Loc)(H':List aB):Prop where
 obj:∀(k:Nat) (x:aB),H[k]?=some x→∃y,H'[σ k]?=some y∧eW σ x y
 loc:∀(k:Nat),k<H.length→τ' (σ k)=τ k
theorem jB.rel{σ:Nat→Nat}{a b:a6}(h:jB σ a b)(s:KW σ τ H τ' H'):∀{u:Value},bW C w τ H a u→bW C w τ' H' b u:=by
 have lt:∀{k:Nat}{x:aB},H[k]?=some x→k<H.length:=fun h=>(List.getElem?_eq_some_iff.1 h).1
 induction h with
 |closed v h=>intro u hu;exact hu.closed h (fun _=>Nat.le_refl _) (fun _ _ _=>rfl)
 |sl k ep off len =>
  intro u hu
  cases hu with
  |rd h=>cases h
  |sl _ _ _ _ a cap esz es ho hep h3 =>
   obtain⟨y,hy,hry⟩:=s.obj k _ ho
   cases hry with
   |arr _ _ es1 hl1 _ _=>exact .sl _ ep off len a cap esz es1 hy (by omega) fun e=>by rw[s.loc k (lt ho),hl1];exact h3 (by omega)
 |ptr k ep idx fld =>
  intro u hu
  cases hu with
  |rd h=>cases h
  |ptr _ _ _ _ a esz es ho hep h3 =>
   obtain⟨y,hy,hry⟩:=s.obj k _ ho
   cases hry with
   |arr _ _ es1 hl1 _ _=>exact .ptr _ ep idx fld a esz es1 hy (by omega) fun e=>by rw[s.loc k (lt ho)];exact h3 (by omega)
 |mp k =>
  intro u hu
  cases hu with
  |rd h=>cases h
  |mp _ o l ho hm ht =>
   obtain⟨y,hy,hry⟩:=s.obj k _ ho
   exact .mp _ y l hy (hry.mp hm) (by rw[s.loc k (lt ho)];exact ht)
 |it k =>
  intro u hu
  cases hu with
  |rd h=>cases h
  |it _ s0 pos l ho ht =>
   obtain⟨y,hy,hry⟩:=s.obj k _ ho
   cases hry with
   |iter=>exact .it _ s0 pos l hy (by rw[s.loc k (lt ho)];exact ht)
  |mt _ m0 c0 s0 l ho ht =>
   obtain⟨y,hy,hry⟩:=s.obj k _ ho
   cases hry
 |agg vs rs hl h ih =>
  intro u hu
  obtain⟨us,rfl,hl2,hr2⟩:=hu.agg_inv
  refine .agg _ _ (by omega) fun i c v hc hv=>?_
  have hi:=(List.getElem?_eq_some_iff.1 hc).1
  have hvi:vs[i]?=some vs[i]:=List.getElem?_eq_getElem (by omega)
  exact ih i _ c hvi hc (hr2 i _ v hvi hv)
 |tuple vs rs hl h ih =>
  intro u hu
  obtain⟨us,rfl,hl2,hr2⟩:=hu.tuple_inv
  refine .tuple _ _ (by omega) fun i c v hc hv=>?_
  have hi:=(List.getElem?_eq_some_iff.1 hc).1
  have hvi:vs[i]?=some vs[i]:=List.getElem?_eq_getElem (by omega)
  exact ih i _ c hvi hc (hr2 i _ v hvi hv)
 |fn f vs rs hl h ih =>
  intro u hu
  cases hu with
  |rd h0 =>
   cases h0
   have:rs=[]:=List.eq_nil_of_length_eq_zero (by simpa using hl.symm)
   subst this
   exact .rd (.fn f)
  |fn _ _ us hl2 hr2 =>
   refine .fn _ _ _ (by omega) fun i c v hc hv=>?_
   have hi:=(List.getElem?_eq_some_iff.1 hc).1
   have hvi:vs[i]?=some vs[i]:=List.getElem?_eq_getElem (by omega)
   exact ih i _ c hvi hc (hr2 i _ v hvi hv)
theorem jB.relL{σ:Nat→Nat}{a b:a6}(h:jB σ a b)(hb:∀(k:Nat) (y:aB),H'[σ k]?=some y→∃x,H[k]?=some x∧eW σ x y∧τ' (σ k)=τ k):∀{u:Value},bW C w τ' H' b u→bW C w τ H a u:=by
 induction h with
 |closed v h=>intro u hu;exact hu.closed h (fun _=>Nat.le_refl _) (fun _ _ _=>rfl)
 |sl k ep off len =>
  intro u hu
  cases hu with
  |rd h=>cases h
  |sl _ _ _ _ a cap esz es ho hep h3 =>
   obtain⟨x,hx,hrx,ht⟩:=hb k _ ho
   cases hrx with
   |arr _ es0 _ hl1 _ _=>exact .sl _ ep off len a cap esz es0 hx (by omega) fun e=>by rw[←ht,←hl1];exact h3 (by omega)
 |ptr k ep idx fld =>
  intro u hu
  cases hu with
  |rd h=>cases h
  |ptr _ _ _ _ a esz es ho hep h3 =>
   obtain⟨x,hx,hrx,ht⟩:=hb k _ ho
   cases hrx with
   |arr _ es0 _ hl1 _ _=>exact .ptr _ ep idx fld a esz es0 hx (by omega) fun e=>by rw[←ht];exact h3 (by omega)
 |mp k =>
  intro u hu
  cases hu with
  |rd h=>cases h
  |mp _ o l ho hm ht0 =>
   obtain⟨x,hx,hrx,ht⟩:=hb k _ ho
   exact .mp _ x l hx (hrx.mpL hm) (by rw[←ht];exact ht0)
 |it k =>
  intro u hu
  cases hu with
  |rd h=>cases h
  |it _ s0 pos l ho ht0 =>
   obtain⟨x,hx,hrx,ht⟩:=hb k _ ho
   cases hrx with
   |iter=>exact .it _ s0 pos l hx (by rw[←ht];exact ht0)
  |mt _ m0 c0 s0 l ho ht0 =>
   obtain⟨x,hx,hrx,ht⟩:=hb k _ ho
   cases hrx
 |agg vs rs hl h ih =>
  intro u hu
  obtain⟨us,rfl,hl2,hr2⟩:=hu.agg_inv
  refine .agg _ _ (by omega) fun i c v hc hv=>?_
  have hi:=(List.getElem?_eq_some_iff.1 hc).1
  have hvi:rs[i]?=some rs[i]:=List.getElem?_eq_getElem (by omega)
  exact ih i c _ hc hvi (hr2 i _ v hvi hv)
 |tuple vs rs hl h ih =>
  intro u hu
  obtain⟨us,rfl,hl2,hr2⟩:=hu.tuple_inv
  refine .tuple _ _ (by omega) fun i c v hc hv=>?_
  have hi:=(List.getElem?_eq_some_iff.1 hc).1
  have hvi:rs[i]?=some rs[i]:=List.getElem?_eq_getElem (by omega)
  exact ih i c _ hc hvi (hr2 i _ v hvi hv)
 |fn f vs rs hl h ih =>
  intro u hu
  cases hu with
  |rd h0 =>
   cases h0
   have:vs=[]:=List.eq_nil_of_length_eq_zero (by simpa using hl)
   subst this
   exact .rd (.fn f)
  |fn _ _ us hl2 hr2 =>
   refine .fn _ _ _ (by omega) fun i c v hc hv=>?_
   have hi:=(List.getElem?_eq_some_iff.1 hc).1
   have hvi:rs[i]?=some rs[i]:=List.getElem?_eq_getElem (by omega)
   exact ih i c _ hc hvi (hr2 i _ v hvi hv)
theorem EL{α β:Type}(f:β→α):∀{l:List α}{z:List β},l.Perm (z.map f)→∃z0:List β,z0.Perm z∧z0.map f=l
 |[],z,h=>by
  have:z=[]:=List.eq_nil_of_length_eq_zero (by have:=h.length_eq;simp at this;omega)
  subst this
  exact⟨[],.nil,rfl⟩
 |x::l,z,h=>by
  obtain⟨b,hb,rfl⟩:=List.mem_map.1 (h.mem_iff.1 (List.mem_cons_self ..))
  obtain⟨z1,z2,rfl⟩:=List.append_of_mem hb
  have h2:(f b::l).Perm (f b::(z1++z2).map f):=by
   refine h.trans ?_
   rw[List.map_append,List.map_cons,List.map_append]
   exact List.perm_middle
  obtain⟨z0,h3,h4⟩:=EL f (List.perm_cons _ |>.1 h2)
  exact⟨b::z0,(List.Perm.cons _ h3).trans List.perm_middle.symm,by rw[List.map_cons,h4]⟩
theorem EM{α:Type}{a b a0:List α}(hl:a.length=b.length)(h:a0.Perm a):∃b0:List α,b0.Perm b∧b0.length=a0.length∧∀(i:Nat) (x y:α),a0[i]?=some x→b0[i]?=some y→∃j:Nat,a[j]?=some x∧b[j]?=some y:=by
 have e1:(a.zip b).map Prod.fst=a:=List.map_fst_zip (by omega)
 have e2:(a.zip b).map Prod.snd=b:=List.map_snd_zip (by omega)
 rw[←e1]at h
 obtain⟨z0,h1,h2⟩:=EL Prod.fst h
 refine⟨z0.map Prod.snd,by rw[←e2];simpa[e2]using h1.map Prod.snd,by rw[←h2];simp,fun i x y hx hy=>?_⟩
 rw[←h2,List.getElem?_map]at hx
 rw[List.getElem?_map]at hy
 obtain⟨p,hp,rfl⟩:=Option.map_eq_some_iff.1 hx
 obtain⟨q,hq,rfl⟩:=Option.map_eq_some_iff.1 hy
 rw[hp]at hq;cases hq
 obtain⟨j,hj⟩:=List.getElem?_of_mem (h1.mem_iff.1 (List.mem_of_getElem? hp))
 refine⟨j,?_,?_⟩
 ·have:=congrArg (fun l=>l[j]?) e1
  simp only[List.getElem?_map,hj,Option.map_some]at this
  exact this.symm
 ·have:=congrArg (fun l=>l[j]?) e2
  simp only[List.getElem?_map,hj,Option.map_some]at this
  exact this.symm
theorem EB{a b:List (a6×a6)}(hl:b.length=a.length)(h:∀(i:Nat) (x y:a6×a6),a[i]?=some x→b[i]?=some y→y.1=x.1):(b.map fun kv=>kv.1.lit)=a.map fun kv=>kv.1.lit:=by
 apply List.ext_getElem?
 intro i
 rw[List.getElem?_map,List.getElem?_map]
 by_cases hi:i<a.length
 ·have h1:a[i]?=some a[i]:=List.getElem?_eq_getElem hi
  have h2:b[i]?=some b[i]:=List.getElem?_eq_getElem (by omega)
  rw[h1,h2,Option.map_some,Option.map_some,h i _ _ h1 h2]
 ·rw[List.getElem?_eq_none (by omega),List.getElem?_eq_none (by omega)]
theorem eW.at{σ:Nat→Nat}{x y:aB}{l:Loc}(h:eW σ x y)(s:KW σ τ H τ' H')(ho:nH C w τ H l x):nH C w τ' H' l y:=by
 cases h with
 |iter=>exact ho
 |map kvs kvs1 hl hp =>
  obtain⟨kvs0,es,clock,pp,a1,a2,a3,a4,a5⟩:=ho
  obtain⟨kvs2,q1,q2,q3⟩:=EM hl.symm pp
  refine⟨kvs2,es,clock,q1,a1,by omega,fun i e kv he hkv=>?_,?_,a5⟩
  ·have hi:=(List.getElem?_eq_some_iff.1 hkv).1
   have h0:kvs0[i]?=some kvs0[i]:=List.getElem?_eq_getElem (by omega)
   obtain⟨j,h1,h2⟩:=q3 i _ _ h0 hkv
   obtain⟨g1,g2⟩:=hp j _ kv h1 h2
   obtain⟨g3,g4⟩:=a3 i e _ he h0
   exact⟨by rw[g1];exact g3,g2.rel s g4⟩
  ·rw[EB q2 fun i a b ha hb=>by
    obtain⟨j,h1,h2⟩:=q3 i a b ha hb
    rw[(hp j _ _ h1 h2).1]]
   exact a4
 |arr esz es es1 hl hl2 hp =>
  obtain⟨a1,cells,elem,fz,a2,a3,a4,a5⟩:=ho
  refine⟨by omega,cells,elem,fz,a2,a3,a4,fun i j e1 d1 hi hd=>?_⟩
  have hil:=(List.getElem?_eq_some_iff.1 hi).1
  have hjl:=(List.getElem?_eq_some_iff.1 hd).1
  have he:es[i]?=some es[i]:=List.getElem?_eq_getElem (by omega)
  have hl3:=hl2 i _ _ he hi
  have hd0:es[i][j]?=some es[i][j]:=List.getElem?_eq_getElem (by omega)
  obtain⟨v,hx1,hx2⟩:=a5 i j _ _ he hd0
  exact⟨v,hx1,(hp i j _ _ _ d1 he hi hd0 hd).rel s hx2⟩
theorem eW.atL{σ:Nat→Nat}{x y:aB}{l:Loc}(h:eW σ x y)(hb:∀(k:Nat) (y:aB),H'[σ k]?=some y→∃x,H[k]?=some x∧eW σ x y∧τ' (σ k)=τ k)(ho:nH C w τ' H' l y):nH C w τ H l x:=by
 cases h with
 |iter=>exact ho
 |map kvs kvs1 hl hp =>
  obtain⟨kvs0,es,clock,pp,a1,a2,a3,a4,a5⟩:=ho
  obtain⟨kvs2,q1,q2,q3⟩:=EM hl pp
  refine⟨kvs2,es,clock,q1,a1,by omega,fun i e kv he hkv=>?_,?_,a5⟩
  ·have hi:=(List.getElem?_eq_some_iff.1 hkv).1
   have h0:kvs0[i]?=some kvs0[i]:=List.getElem?_eq_getElem (by omega)
   obtain⟨j,h1,h2⟩:=q3 i _ _ h0 hkv
   obtain⟨g1,g2⟩:=hp j kv _ h2 h1
   obtain⟨g3,g4⟩:=a3 i e _ he h0
   exact⟨by rw[←g1];exact g3,g2.relL hb g4⟩
  ·rw[EB q2 fun i a b ha hb=>by
    obtain⟨j,h1,h2⟩:=q3 i a b ha hb
    rw[(hp j _ _ h2 h1).1]]
   exact a4
 |arr esz es es1 hl hl2 hp =>
  obtain⟨a1,cells,elem,fz,a2,a3,a4,a5⟩:=ho
  refine⟨by omega,cells,elem,fz,a2,a3,a4,fun i j e d hi hd=>?_⟩
  have hil:=(List.getElem?_eq_some_iff.1 hi).1
  have hjl:=(List.getElem?_eq_some_iff.1 hd).1
  have he:es1[i]?=some es1[i]:=List.getElem?_eq_getElem (by omega)
  have hl3:=hl2 i _ _ hi he
  have hd0:es1[i][j]?=some es1[i][j]:=List.getElem?_eq_getElem (by omega)
  obtain⟨v,hx1,hx2⟩:=a5 i j _ _ he hd0
  exact⟨v,hx1,(hp i j _ _ d _ hi he hd hd0).relL hb hx2⟩
def nD(ids:List Nat)(n:Nat)(k:Nat):Nat:=match ids[k]? with
 |some id=>id
 |none=>n+(k-ids.length)
theorem rS{ids:List Nat}{n k id:Nat}(h:ids[k]?=some id):nD ids n k=id:=by unfold nD;rw[h]
theorem mZ{ids:List Nat}{n k:Nat}(h:ids.length≤k):nD ids n k=n+(k-ids.length):=by unfold nD;rw[List.getElem?_eq_none h]
theorem a7.frameN{f:FuncId}{args0 args:List a6}{Q0 Q:a6→List aB→Prop}{H0:List aB}(ids:List Nat)(hnd:ids.Nodup)(hlen:ids.length=H0.length)
  (hobj:∀(k id:Nat) (x:aB),ids[k]?=some id→H0[k]?=some x→∃y,H[id]?=some y∧eW (nD ids H.length) x y)
  (hal:args0.length=args.length) (ha:∀(i:Nat) (a b:a6),args0[i]?=some a→args[i]?=some b→jB (nD ids H.length) a b)
  (h:a7 P f args0 H0 Q0)
  (hq:∀r H1,Q0 r H1→ids.length≤H1.length→∃r' H2,jB (nD ids H.length) r r'∧H2.length=H.length+(H1.length-ids.length) ∧
   (∀(k:Nat) (x:aB),H1[k]?=some x→∃y,H2[nD ids H.length k]?=some y∧eW (nD ids H.length) x y)∧(∀j,j<H.length→j∉ids→H2[j]?=H[j]?)∧Q r' H2):a7 P f args H Q:=by
 intro C τ w vs hw hl hr
 have σlt:∀{k id:Nat},ids[k]?=some id→nD ids H.length k=id:=fun h=>rS h
 have idlt:∀{k id:Nat},ids[k]?=some id→id<H.length:=fun{k id} hk=>by
  have hk0:k<H0.length:=by have:=(List.getElem?_eq_some_iff.1 hk).1;omega
  obtain⟨y,hy,_⟩:=hobj k id _ hk (List.getElem?_eq_getElem hk0)
  exact(List.getElem?_eq_some_iff.1 hy).1
 have idget:∀{k:Nat},k<ids.length→ids[k]?=some (nD ids H.length k):=fun{k} hk=>by
  have h1:ids[k]?=some ids[k]:=List.getElem?_eq_getElem hk
  rw[rS h1];exact h1
 have σinj:∀k k',nD ids H.length k=nD ids H.length k'→k=k':=fun k k' e=>by
  rcases Nat.lt_or_ge k ids.length with a|a<;>rcases Nat.lt_or_ge k' ids.length with b|b
  ·have h1:=idget a
   have h2:=idget b
   rw[←e]at h2
   obtain⟨_,e1⟩:=List.getElem?_eq_some_iff.1 h1
   obtain⟨_,e2⟩:=List.getElem?_eq_some_iff.1 h2
   have hne:=List.pairwise_iff_getElem.1 hnd
   rcases Nat.lt_trichotomy k k' with h3|h3|h3
   ·exact absurd (e1.trans e2.symm) (hne k k' a b h3)
   ·exact h3
   ·exact absurd (e2.trans e1.symm) (hne k' k b a h3)
  ·have:=idlt (idget a);rw[e,mZ b]at this;omega
  ·have:=idlt (idget b);rw[←e,mZ a]at this;omega
  ·rw[mZ a,mZ b]at e;omega
 let τ0:Nat→Option Loc:=fun k=>if k<ids.length then τ (nD ids H.length k)else none
 have t00:∀{k},k<ids.length→τ0 k=τ (nD ids H.length k):=fun{k} hk=>by simp only[τ0,if_pos hk]
 have hbk:∀(k:Nat) (y:aB),H[nD ids H.length k]?=some y→∃x,H0[k]?=some x∧eW (nD ids H.length) x y∧τ (nD ids H.length k)=τ0 k:=fun k y hy=>by
  have hk:k<ids.length:=by
   rcases Nat.lt_or_ge k ids.length with a|a
   ·exact a
   ·rw[mZ a]at hy;have:=(List.getElem?_eq_some_iff.1 hy).1;omega
  have hx:H0[k]?=some H0[k]:=List.getElem?_eq_getElem (by omega)
  obtain⟨y',hy',hr'⟩:=hobj k _ _ (idget hk) hx
  rw[hy]at hy';cases hy'
  exact⟨_,hx,hr',(t00 hk).symm⟩
 have hfw:∀{k:Nat}{x:aB},H0[k]?=some x→k<ids.length∧∃y,H[nD ids H.length k]?=some y∧eW (nD ids H.length) x y:=fun{k x} hx=>by
  have hk:k<ids.length:=by have:=(List.getElem?_eq_some_iff.1 hx).1;omega
  exact⟨hk,hobj k _ _ (idget hk) hx⟩
 have hw0:WF C τ0 H0 w:=by
  refine⟨fun k x h=>?_,fun k x h ht=>?_,fun k x l h ht=>?_,fun k l hk ht=>?_,fun i j li lj hi hj h1 h2 h3=>?_,hw.lt⟩
  ·obtain⟨hk,y,hy,hry⟩:=hfw h
   exact hry.okL (hw.ok _ y hy)
  ·obtain⟨hk,y,hy,hry⟩:=hfw h
   rw[t00 hk]at ht
   obtain⟨esz,rfl⟩:=hw.virt _ y hy ht
   cases hry with
   |arr _ es0 _ hl1=>exact⟨esz,by rw[List.length_eq_zero_iff.1 (show es0.length=0 by simpa using hl1.symm)]⟩
  ·obtain⟨hk,y,hy,hry⟩:=hfw h
   rw[t00 hk]at ht
   exact hry.atL hbk (hw.objs _ y l hy ht)
  ·have hk2:k<ids.length:=by omega
   rw[t00 hk2]at ht
   exact hw.comm _ l (idlt (idget hk2)) ht
  ·have a:i<ids.length:=by omega
   have b:j<ids.length:=by omega
   rw[t00 a]at h1;rw[t00 b]at h2
   exact σinj _ _ (hw.inj _ _ li lj (idlt (idget a)) (idlt (idget b)) h1 h2 h3)
 have hr0:∀(i:Nat) (a:a6) (v:Value),args0[i]?=some a→vs[i]?=some v→bW C w τ0 H0 a v:=fun i a v h1 h2=>by
  have hi:=(List.getElem?_eq_some_iff.1 h1).1
  have hb:args[i]?=some args[i]:=List.getElem?_eq_getElem (by omega)
  exact(ha i a _ h1 hb).relL hbk (hr i _ v hb h2)
 have hc:=h C τ0 w vs hw0 (by omega) hr0
 have hown:∀b,yC τ0 H0 b→∃k l,k<ids.length∧τ (nD ids H.length k)=some l∧l.b=b:=fun b=>by
  rintro⟨k,l,hk,ht,hb⟩
  have hk2:k<ids.length:=by omega
  rw[t00 hk2]at ht
  exact⟨k,l,hk2,ht,hb⟩
 have fin:∀(e:Ending) (w':World),(∃v r C' τ' H',e=.returned v∧Q0 r H'∧bW C' w' τ' H' r v∧St w (cX τ0 H0 w) C' τ' H' w'∧cU C τ0 H0 w C' τ' H' w') →
   ∃v r C' τ' H',e=.returned v∧Q r H'∧bW C' w' τ' H' r v∧St w (cX τ H w) C' τ' H' w'∧cU C τ H w C' τ' H' w':=by
  rintro e w' ⟨v,r,C1,τ1,H1,he,hq0,hrel,hst,hstep⟩
  have hge:ids.length≤H1.length:=by
   rcases Nat.eq_zero_or_pos ids.length with h0|h0
   ·omega
   ·obtain⟨o',h1,_⟩:=hstep.obj (ids.length-1) _ (List.getElem?_eq_getElem (show ids.length-1<H0.length by omega))
    have:=(List.getElem?_eq_some_iff.1 h1).1;omega
  obtain⟨r',H2,hrr,hH2,hG,hoth,hQ⟩:=hq r H1 hq0 hge
  
  have hpr:∀j l,j<H.length→j∉ids→τ j=some l→cX τ0 H0 w l.b:=fun j l hj hne ht =>
   ⟨hw.locLt hj ht,fun ho=>by
    obtain⟨k,l',hk,ht',hb⟩:=hown _ ho
    have:=hw.inj j _ l l' hj (idlt (idget hk)) ht ht' hb.symm
    exact hne (this▸List.mem_of_getElem? (idget hk))⟩
  have hheap:∀j l,j<H.length→j∉ids→τ j=some l→w'.heap[l.b]?=w.heap[l.b]?:=fun j l hj hne ht=>hst.fr.prot _ (hpr j l hj hne ht)
  
  have split:∀i,i<H2.length→(i<H.length∧i∉ids)∨∃k,i=nD ids H.length k∧k<H1.length:=fun i hi=>by
   rcases Nat.lt_or_ge i H.length with h1|h1
   ·by_cases h2:i∈ids
    ·obtain⟨k,hk⟩:=List.getElem?_of_mem h2
     exact .inr ⟨k,(rS hk).symm,by have:=(List.getElem?_eq_some_iff.1 hk).1;omega⟩
    ·exact .inl ⟨h1,h2⟩
   ·exact .inr ⟨ids.length+(i-H.length),by rw[mZ (by omega)];omega,by omega⟩
  have notboth:∀{i k},i<H.length→i∉ids→i≠nD ids H.length k:=fun{i k} h1 h2 e=>by
   rcases Nat.lt_or_ge k ids.length with a|a
   ·exact h2 (e▸List.mem_of_getElem? (idget a))
   ·rw[mZ a]at e;omega
  let τ2:Nat→Option Loc:=fun i=>if i<H.length then(match ids.idxOf? i with
   |some k=>τ1 k
   |none=>τ i)else τ1 (ids.length+(i-H.length))
  have tF:∀k,τ2 (nD ids H.length k)=τ1 k:=fun k=>by
   rcases Nat.lt_or_ge k ids.length with a|a
   ·have h1:=idget a
    have h2:ids.idxOf? (nD ids H.length k)=some k:=by
     rcases hx:ids.idxOf? (nD ids H.length k)with _|k'
     ·rw[List.idxOf?_eq_none_iff]at hx
      exact absurd (List.mem_of_getElem? h1) hx
     ·obtain⟨hk',e',_⟩:=List.idxOf?_eq_some_iff.1 hx
      have hee:ids[k']?=some (nD ids H.length k):=by rw[List.getElem?_eq_getElem hk',e']
      rw[σinj k k' (by rw[rS hee])]
    show(if nD ids H.length k<H.length then _ else _)=_
    rw[if_pos (idlt h1),h2]
   ·show(if nD ids H.length k<H.length then _ else _)=_
    rw[mZ a,if_neg (by omega)]
    congr 1;omega
  have tO:∀j,j<H.length→j∉ids→τ2 j=τ j:=fun j hj hne=>by
   show(if j<H.length then _ else _)=_
   rw[if_pos hj,List.idxOf?_eq_none_iff.2 hne]
  have same:KW (nD ids H.length) τ1 H1 τ2 H2:=⟨hG,fun k _=>tF k⟩
  have step:cU C τ H w C1 τ2 H2 w':=by
   refine⟨hstep.le,hstep.cell,fun j x hx=>?_,hstep.grow,hstep.old⟩
   have hj:=(List.getElem?_eq_some_iff.1 hx).1
   by_cases e1:j∈ids
   ·obtain⟨k,hk⟩:=List.getElem?_of_mem e1
    have hkl:=(List.getElem?_eq_some_iff.1 hk).1
    have hx0:H0[k]?=some H0[k]:=List.getElem?_eq_getElem (by omega)
    obtain⟨y,hy,hry⟩:=hobj k j _ hk hx0
    rw[hx]at hy;cases hy
    obtain⟨o',h1,h2⟩:=hstep.obj k _ hx0
    obtain⟨z,hz,hrz⟩:=hG k o' h1
    rw[rS hk]at hz
    refine⟨z,hz,?_⟩
    have t1:=tF k
    rw[rS hk]at t1
    rw[t1]
    have t2:=t00 hkl
    rw[rS hk]at t2
    rw[←t2]
    exact hrz.after (hry.afterL h2)
   ·exact⟨x,by rw[hoth j hj e1];exact hx,by rw[tO j hj e1];exact x.after_refl _⟩
  have hgetF:∀k,k<H1.length→∃x,H1[k]?=some x:=fun k hk=>⟨_,List.getElem?_eq_getElem hk⟩
  refine⟨v,r',C1,τ2,H2,he,hQ,hrr.rel same hrel,⟨⟨fun i x hx=>?_,fun i x hx ht=>?_,fun i x l hx ht=>?_,fun i l hi ht=>?_,fun i j li lj hi hj hti htj hb=>?_,hst.wf.lt⟩,
   ⟨hst.fr.os,hst.fr.tape,hst.fr.output,hst.fr.size,fun b hb=>hst.fr.prot b ⟨hb.1,?_⟩,hst.fr.drawn⟩,?_,fun b hb=>hb.1⟩,step⟩
  ·rcases split i (List.getElem?_eq_some_iff.1 hx).1 with⟨h1,h2⟩|⟨k,rfl,hk⟩
   ·rw[hoth i h1 h2]at hx;exact hw.ok i x hx
   ·obtain⟨z,hz⟩:=hgetF k hk
    obtain⟨y,hy,hry⟩:=hG k z hz
    rw[hx]at hy;cases hy
    exact hry.ok (hst.wf.ok k z hz)
  ·rcases split i (List.getElem?_eq_some_iff.1 hx).1 with⟨h1,h2⟩|⟨k,rfl,hk⟩
   ·rw[hoth i h1 h2]at hx;rw[tO i h1 h2]at ht;exact hw.virt i x hx ht
   ·obtain⟨z,hz⟩:=hgetF k hk
    obtain⟨y,hy,hry⟩:=hG k z hz
    rw[hx]at hy;cases hy
    rw[tF]at ht
    obtain⟨esz,rfl⟩:=hst.wf.virt k z hz ht
    cases hry with
    |arr _ _ es1 hl1 _ _ =>
     have:es1=[]:=List.length_eq_zero_iff.1 hl1
     subst this;exact⟨esz,rfl⟩
  ·rcases split i (List.getElem?_eq_some_iff.1 hx).1 with⟨h1,h2⟩|⟨k,rfl,hk⟩
   ·rw[hoth i h1 h2]at hx;rw[tO i h1 h2]at ht
    exact(hw.objs i x l hx ht).mono step (hheap i l h1 h2 ht)
   ·obtain⟨z,hz⟩:=hgetF k hk
    obtain⟨y,hy,hry⟩:=hG k z hz
    rw[hx]at hy;cases hy
    rw[tF]at ht
    exact hry.at same (hst.wf.objs k z l hz ht)
  ·rcases split i hi with⟨h1,h2⟩|⟨k,rfl,hk⟩
   ·rw[tO i h1 h2]at ht
    rw[hstep.old _ (hw.locLt h1 ht)];exact hw.comm i l h1 ht
   ·rw[tF]at ht;exact hst.wf.comm k l hk ht
  ·rcases split i hi with⟨h1,h2⟩|⟨k,rfl,hk⟩<;>rcases split j hj with⟨h3,h4⟩|⟨k',rfl,hk'⟩
   ·rw[tO i h1 h2]at hti;rw[tO j h3 h4]at htj;exact hw.inj i j li lj h1 h3 hti htj hb
   ·rw[tO i h1 h2]at hti;rw[tF]at htj
    exact absurd (hb▸hpr i li h1 h2 hti) (hst.own _ ⟨k',lj,hk',htj,rfl⟩)
   ·rw[tF]at hti;rw[tO j h3 h4]at htj
    exact absurd (hb▸hpr j lj h3 h4 htj) (hst.own _ ⟨k,li,hk,hti,rfl⟩)
   ·rw[tF]at hti htj
    rw[hst.wf.inj k k' li lj hk hk' hti htj hb]
  ·intro ho
   obtain⟨k,l,hk,ht,hb2⟩:=hown _ ho
   exact hb.2 ⟨_,l,idlt (idget hk),ht,hb2⟩
  ·rintro b ⟨i,l,hi,ht,rfl⟩ hp2
   rcases split i hi with⟨h1,h2⟩|⟨k,rfl,hk⟩
   ·rw[tO i h1 h2]at ht;exact hp2.2 ⟨i,l,h1,ht,rfl⟩
   ·rw[tF]at ht
    refine hst.own _ ⟨k,l,hk,ht,rfl⟩ ⟨hp2.1,fun ho=>?_⟩
    obtain⟨k2,l2,hk2,ht2,hb2⟩:=hown _ ho
    exact hp2.2 ⟨_,l2,idlt (idget hk2),ht2,hb2⟩
 unfold eS at hc ⊢
 split at hc
 ·exact Calls.mono hc fun e w' hh=>fin e w' hh
 ·exact fin _ _ hc
 ·exact hc
end
def mL(σ:Nat→Nat):List a6→List a6→Prop
 |[],[]=>True
 |a::asv,b::bs=>jB σ a b∧mL σ asv bs
 |_,_=>False
theorem mL.get{σ:Nat→Nat}:∀{asv bs:List a6},mL σ asv bs→asv.length=bs.length∧∀(i:Nat) (a b:a6),asv[i]?=some a→bs[i]?=some b→jB σ a b
 |[],[],_=>⟨rfl,fun i a b h=>by simp at h⟩
 |a::asv,b::bs,h=>by
  obtain⟨h1,h2⟩:=mL.get h.2
  refine⟨by simp[h1],fun i x y hx hy=>?_⟩
  cases i with
  |zero=>simp at hx hy;subst hx hy;exact h.1
  |succ i=>exact h2 i x y (by simpa using hx) (by simpa using hy)
 |[],_::_,h=>h.elim
 |_::_,[],h=>h.elim
def JR(σ:Nat→Nat)(H2:List aB):Nat→List aB→Prop
 |_,[]=>True
 |k,x::xs=>(∃y,H2[σ k]?=some y∧eW σ x y)∧JR σ H2 (k+1) xs
theorem w9{σ:Nat→Nat}{H2:List aB}:∀{xs:List aB}{k:Nat},JR σ H2 k xs→∀(i:Nat) (x:aB),xs[i]?=some x→∃y,H2[σ (k+i)]?=some y∧eW σ x y
 |[],k,_,i,x,h=>by simp at h
 |z::xs,k,h,i,x,hx=>by
  cases i with
  |zero=>simp at hx;subst hx;exact h.1
  |succ i =>
   have:=w9 h.2 i x (by simpa using hx)
   rwa [show k+1+i=k+(i+1) by omega]at this
def P7(ids:List Nat)(H2:List aB):Nat→List aB→Prop
 |_,[]=>True
 |j,x::xs=>(j∈ids∨H2[j]?=some x)∧P7 ids H2 (j+1) xs
theorem JD{ids:List Nat}{H2:List aB}:∀{xs:List aB}{j:Nat},P7 ids H2 j xs→∀i,i<xs.length→j+i∉ids→H2[j+i]?=xs[i]?
 |[],j,_,i,h,_=>by simp at h
 |z::xs,j,h,i,hi,hn=>by
  cases i with
  |zero=>exact h.1.resolve_left hn
  |succ i =>
   have:=JD h.2 i (by simpa using hi) (by rwa [show j+1+i=j+(i+1) by omega])
   rwa [show j+1+i=j+(i+1) by omega]at this
theorem a7.frL{P:Program}{H:List aB}{f:FuncId}{args0 args:List a6}{H0 H1 H2:List aB}{R0 R:a6}(h:a7 P f args0 H0 (fun r H'=>r=R0∧H'=H1))(ids:List Nat)(hnd:ids.Nodup)(hlen:ids.length=H0.length)
  (h0:JR (nD ids H.length) H 0 H0) (ha:mL (nD ids H.length) args0 args) (hR:jB (nD ids H.length) R0 R) (hl:H2.length=H.length+(H1.length-ids.length))
  (h1:JR (nD ids H.length) H2 0 H1) (h2:P7 ids H2 0 H):a7 P f args H (fun r H'=>r=R∧H'=H2):=by
 obtain⟨ha1,ha2⟩:=ha.get
 refine a7.frameN ids hnd hlen (fun k id x hk hx=>?_) ha1 ha2 h ?_
 ·have:=w9 h0 k x hx
  rwa [Nat.zero_add,rS hk]at this
 ·rintro r G ⟨rfl,rfl⟩ _
  refine⟨R,H2,hR,hl,fun k x hx=>?_,fun j hj hn=>?_,rfl,rfl⟩
  ·have:=w9 h1 k x hx
   rwa [Nat.zero_add]at this
  ·have:=JD h2 j hj (by rwa [Nat.zero_add])
   rwa [Nat.zero_add]at this
inductive HM:aB→aB→Prop where
 |refl (o:aB):HM o o
 |mp (kvs kvs1:List (a6×a6)) (bs:List Nat) (ck:Nat) (h:kvs.Perm kvs1):HM (.bmap kvs bs ck) (.map kvs1)
 |pm (kvs kvs1:List (a6×a6)) (h:kvs.Perm kvs1):HM (.map kvs) (.map kvs1)
def yB(H H2:List aB):Prop:=H2.length=H.length∧∀(i:Nat) (o o2:aB),H[i]?=some o→H2[i]?=some o2→HM o o2
theorem HM.after{o o2:aB}(h:HM o o2)(t:Option Loc):o.after o2 t t:=by
 cases h with
 |refl=>exact o.after_refl t
 |mp=>rfl
 |pm=>rfl
section
variable {P:Program}{C:Nat→Nat}{τ:Nat→Option Loc}{H H2:List aB}{w w0:World}{Pr:Nat→Prop}
theorem yB.get(h:yB H H2){i:Nat}{o2:aB}(h2:H2[i]?=some o2):∃o,H[i]?=some o∧HM o o2:=by
 have hi:=(List.getElem?_eq_some_iff.1 h2).1
 have hj:i<H.length:=by rw[←h.1];exact hi
 have h1:H[i]?=some H[i]:=List.getElem?_eq_getElem hj
 exact⟨_,h1,h.2 i _ _ h1 h2⟩
theorem yB.got(h:yB H H2){i:Nat}{o:aB}(h1:H[i]?=some o):∃o2,H2[i]?=some o2∧HM o o2:=by
 have hi:=(List.getElem?_eq_some_iff.1 h1).1
 have hj:i<H2.length:=by rw[h.1];exact hi
 have h2:H2[i]?=some H2[i]:=List.getElem?_eq_getElem hj
 exact⟨_,h2,h.2 i _ _ h1 h2⟩
theorem yB.step(h:yB H H2):cU C τ H w C τ H2 w :=
 ⟨fun _=>Nat.le_refl _,fun _ _ _=>rfl,fun id o ho=>by
  obtain⟨o2,h2,hf⟩:=h.got ho
  exact⟨o2,h2,hf.after _⟩,Nat.le_refl _,fun _ _=>rfl⟩
theorem St.forg(hs:St w0 Pr C τ H w)(h:yB H H2):St w0 Pr C τ H2 w:=by
 have s:cU C τ H w C τ H2 w:=h.step
 refine⟨⟨fun id o2 ho=>?_,fun id o2 ho ht=>?_,fun id o2 l ho ht=>?_,fun id l hi ht=>hs.wf.comm id l (by rw[←h.1];exact hi) ht,fun i j li lj hi hj=>hs.wf.inj i j li lj (by rw[←h.1];exact hi) (by rw[←h.1];exact hj),hs.wf.lt⟩,hs.fr,
  fun b ⟨id,l,hi,ht,hb⟩=>hs.own b ⟨id,l,by rw[←h.1];exact hi,ht,hb⟩,hs.plt⟩
 ·obtain⟨o,h1,hf⟩:=h.get ho
  cases hf with
  |refl=>exact hs.wf.ok id o2 h1
  |mp=>trivial
  |pm=>trivial
 ·obtain⟨o,h1,hf⟩:=h.get ho
  cases hf with
  |refl=>exact hs.wf.virt id o2 h1 ht
  |mp=>obtain⟨esz,he⟩:=hs.wf.virt id _ h1 ht;cases he
  |pm=>obtain⟨esz,he⟩:=hs.wf.virt id _ h1 ht;cases he
 ·obtain⟨o,h1,hf⟩:=h.get ho
  have hat:=hs.wf.objs id o l h1 ht
  cases hf with
  |refl=>exact hat.mono s rfl
  |mp kvs kvs1 bs ck hp =>
   obtain⟨es,g1,g2,g3,gn,g4,g5,g6⟩:=hat
   exact⟨kvs,es,ck,hp,g1,g2,fun i e kv he hkv=>⟨(g3 i e kv he hkv).1,(g3 i e kv he hkv).2.mono s⟩,gn,by rw[g4];exact g5,fun e he=>g6 _ (by rw[←g4];exact List.mem_map.2 ⟨e,he,rfl⟩)⟩
  |pm kvs kvs1 hp =>
   obtain⟨kvs0,es,ck,hp0,g1,g2,g3,g4⟩:=hat
   exact⟨kvs0,es,ck,hp0.trans hp,g1,g2,fun i e kv he hkv=>⟨(g3 i e kv he hkv).1,(g3 i e kv he hkv).2.mono s⟩,g4⟩
theorem a7.fg{f:FuncId}{args:List a6}{Q0 Q:a6→List aB→Prop}(h:a7 P f args H Q0)(hq:∀r H',Q0 r H'→∃H2,yB H' H2∧Q r H2):a7 P f args H Q:=by
 intro C τ w vs hw hl hr
 have hc:=h C τ w vs hw hl hr
 have fin:∀(e:Ending) (w':World),(∃v r C' τ' H',e=.returned v∧Q0 r H'∧bW C' w' τ' H' r v∧St w (cX τ H w) C' τ' H' w'∧cU C τ H w C' τ' H' w') →
   ∃v r C' τ' H',e=.returned v∧Q r H'∧bW C' w' τ' H' r v∧St w (cX τ H w) C' τ' H' w'∧cU C τ H w C' τ' H' w':=by
  rintro e w' ⟨v,r,C1,τ1,H1,rfl,hQ,hrel,hst,hstep⟩
  obtain⟨H2,hf,hQ2⟩:=hq r H1 hQ
  exact⟨v,r,C1,τ1,H2,rfl,hQ2,hrel.mono hf.step,hst.forg hf,hstep.trans hf.step⟩
 unfold eS at hc ⊢
 split at hc
 ·exact Calls.mono hc fun e w' hh=>fin e w' hh
 ·exact fin _ _ hc
 ·exact hc
end
inductive Bel(n:Nat):a6→Prop where
 |closed (v:a6) (h:v.closed=true):Bel n v
 |sl (id ep off len:Nat) (h:id<n):Bel n (.sl id ep off len)
 |ptr (id ep idx fld:Nat) (h:id<n):Bel n (.ptr id ep idx fld)
 |mp (id:Nat) (h:id<n):Bel n (.mp id)
 |it (id:Nat) (h:id<n):Bel n (.it id)
 |agg (cs:List a6) (h:∀c∈cs,Bel n c):Bel n (.agg cs)
 |tuple (cs:List a6) (h:∀c∈cs,Bel n c):Bel n (.tuple cs)
def aB.Bel(n:Nat):aB→Prop
 |.arr _ es=>∀e∈es,∀d∈e,AW.Bel n d
 |.map kvs=>∀kv∈kvs,AW.Bel n kv.2
 |.iter _ _=>True
 |_=>False
section
variable {P:Program}{C:Nat→Nat}{τ:Nat→Option Loc}{H K G:List aB}{w:World}
theorem bW.cutB{d:a6}(h:Bel K.length d):∀{v:Value},bW C w τ (K++G) d v→bW C w τ K d v:=by
 have get:∀{id:Nat}{o:aB},id<K.length→(K++G)[id]?=some o→K[id]?=some o:=fun h1 h2=>by rwa [List.getElem?_append_left h1]at h2
 induction h with
 |closed d h=>intro v hr;exact hr.closed h (fun _=>Nat.le_refl _) (fun _ _ _=>rfl)
 |sl id ep off len h =>
  intro v hr
  cases hr with
  |rd hr=>cases hr
  |sl _ _ _ _ a cap esz es ho hep hh=>exact .sl id ep off len a cap esz es (get h ho) hep hh
 |ptr id ep idx fld h =>
  intro v hr
  cases hr with
  |rd hr=>cases hr
  |ptr _ _ _ _ a esz es ho hep hh=>exact .ptr id ep idx fld a esz es (get h ho) hep hh
 |mp id h =>
  intro v hr
  cases hr with
  |rd hr=>cases hr
  |mp _ o l ho hm ht=>exact .mp id o l (get h ho) hm ht
 |it id h =>
  intro v hr
  cases hr with
  |rd hr=>cases hr
  |it _ s pos l ho ht=>exact .it id s pos l (get h ho) ht
  |mt _ m c sn l ho ht=>exact .mt id m c sn l (get h ho) ht
 |agg cs h ih =>
  intro v hr
  obtain⟨us,rfl,hl,hr⟩:=hr.agg_inv
  exact .agg _ _ hl fun i c u hc hu=>ih c (List.mem_of_getElem? hc) (hr i c u hc hu)
 |tuple cs h ih =>
  intro v hr
  obtain⟨us,rfl,hl,hr⟩:=hr.tuple_inv
  exact .tuple _ _ hl fun i c u hc hu=>ih c (List.mem_of_getElem? hc) (hr i c u hc hu)
theorem bW.narrow2{C1:Nat→Nat}{w1:World}{τ1:Nat→Option Loc}(hle:H.length≤K.length){d:a6}{v:Value}(h:bW C1 w1 τ1 (K++G) d v):(∃v0,bW C w τ H d v0)→bW C1 w1 τ1 K d v:=by
 have get:∀{id:Nat}{o o':aB},H[id]?=some o→(K++G)[id]?=some o'→K[id]?=some o':=by
  intro id o o' h1 h2
  rw[List.getElem?_append_left (Nat.lt_of_lt_of_le (List.getElem?_eq_some_iff.1 h1).1 hle)]at h2
  exact h2
 induction h with
 |rd h=>exact fun _=>.rd h
 |undef v=>exact fun _=>.undef v
 |sl id ep off len a cap esz es ho hep h =>
  rintro⟨v0,h0⟩
  cases h0 with
  |rd h0=>cases h0
  |sl _ _ _ _ a0 cap0 esz0 es0 ho0 hep0 h0=>exact .sl id ep off len a cap esz es (get ho0 ho) hep h
 |ptr id ep idx fld a esz es ho hep h =>
  rintro⟨v0,h0⟩
  cases h0 with
  |rd h0=>cases h0
  |ptr _ _ _ _ a0 esz0 es0 ho0 hep0 h0=>exact .ptr id ep idx fld a esz es (get ho0 ho) hep h
 |it id s pos l ho ht =>
  rintro⟨v0,h0⟩
  cases h0 with
  |rd h0=>cases h0
  |it _ s0 p0 l0 ho0 ht0=>exact .it id s pos l (get ho0 ho) ht
  |mt _ m0 c0 s0 l0 ho0 ht0=>exact .it id s pos l (get ho0 ho) ht
 |mt id mid ck seen l ho ht =>
  rintro⟨v0,h0⟩
  cases h0 with
  |rd h0=>cases h0
  |it _ s0 p0 l0 ho0 ht0=>exact .mt id mid ck seen l (get ho0 ho) ht
  |mt _ m0 c0 s0 l0 ho0 ht0=>exact .mt id mid ck seen l (get ho0 ho) ht
 |slc id ep off len cap a esz es ho hep h =>
  rintro⟨v0,h0⟩
  cases h0 with
  |rd h0=>cases h0
  |slc _ _ _ _ _ a0 esz0 es0 ho0 hep0 h0=>exact .slc id ep off len cap a esz es (get ho0 ho) hep h
 |mp id o l ho hm ht =>
  rintro⟨v0,h0⟩
  cases h0 with
  |rd h0=>cases h0
  |mp _ o0 l0 ho0 hm0 ht0=>exact .mp id o l (get ho0 ho) hm ht
 |agg cs vs hl h ih =>
  rintro⟨v0,h0⟩
  cases h0 with
  |rd h0=>cases h0
  |agg _ vs0 hl0 h0=>exact .agg cs vs hl fun i c u hc hu=>ih i c u hc hu ⟨_,h0 i c vs0[i]! hc (by have:=(List.getElem?_eq_some_iff.1 hc).1;rw[getElem!_pos vs0 i (by omega)];exact Array.getElem?_eq_getElem (by omega))⟩
 |tuple cs vs hl h ih =>
  rintro⟨v0,h0⟩
  cases h0 with
  |rd h0=>cases h0
  |tuple _ vs0 hl0 h0=>exact .tuple cs vs hl fun i c u hc hu=>ih i c u hc hu ⟨_,h0 i c vs0[i]! hc (by have:=(List.getElem?_eq_some_iff.1 hc).1;rw[getElem!_pos vs0 i (by omega)];exact Array.getElem?_eq_getElem (by omega))⟩
 |fn f cs vs hl h ih =>
  rintro⟨v0,h0⟩
  cases h0 with
  |rd h0 =>
   cases h0
   exact .fn f [] vs hl fun i c u hc=>by simp at hc
  |fn _ _ vs0 hl0 h0=>exact .fn f cs vs hl fun i c u hc hu=>ih i c u hc hu ⟨_,h0 i c vs0[i]! hc (by have:=(List.getElem?_eq_some_iff.1 hc).1;rw[getElem!_pos vs0 i (by omega)];exact Array.getElem?_eq_getElem (by omega))⟩
theorem a7.cut{f:FuncId}{args:List a6}{Q:a6→List aB→Prop}(h:a7 P f args H (fun r H'=>∃K G,H'=K++G∧Q r K∧H.length≤K.length∧Bel K.length r∧∀(i:Nat) (o:aB),K[i]?=some o→H[i]?=some o∨o.Bel K.length)):
  a7 P f args H Q:=by
 intro C τ w vs hw hlen hr
 have hc:=h C τ w vs hw hlen hr
 have fin:∀(e:Ending) (w':World),(∃v r C' τ' H',e=.returned v∧(∃K G,H'=K++G∧Q r K∧H.length≤K.length∧Bel K.length r∧∀(i:Nat) (o:aB),K[i]?=some o→H[i]?=some o∨o.Bel K.length)∧bW C' w' τ' H' r v∧St w (cX τ H w) C' τ' H' w'∧cU C τ H w C' τ' H' w') →
   ∃v r C' τ' H',e=.returned v∧Q r H'∧bW C' w' τ' H' r v∧St w (cX τ H w) C' τ' H' w'∧cU C τ H w C' τ' H' w':=by
  rintro e w' ⟨v,r,C1,τ1,H1,rfl,⟨K,G,rfl,hQ,hle,hbr,hK⟩,hrel,hst,hstep⟩
  have hmem:∀{id:Nat}{o:aB},K[id]?=some o→(K++G)[id]?=some o:=fun h=>by rw[List.getElem?_append_left (List.getElem?_eq_some_iff.1 h).1];exact h
  have hlt:∀{id:Nat},id<K.length→id<(K++G).length:=fun h=>by rw[List.length_append];omega
  have hkept:∀{id:Nat}{o:aB},H[id]?=some o→∃o',K[id]?=some o'∧o.after o' (τ id) (τ1 id):=by
   intro id o ho
   obtain⟨o',h1,h2⟩:=hstep.obj id o ho
   rw[List.getElem?_append_left (Nat.lt_of_lt_of_le (List.getElem?_eq_some_iff.1 ho).1 hle)]at h1
   exact⟨o',h1,h2⟩
  have hτ:∀{id:Nat}{o:aB},H[id]?=some o→K[id]?=some o→τ1 id=τ id:=by
   intro id o ho hk
   obtain⟨o',h1,h2⟩:=hkept ho
   rw[hk]at h1
   cases h1
   cases o with
   |arr esz es=>exact h2.2.2 rfl
   |iter s p=>exact h2
   |map kvs=>exact h2
   |bmap kvs bs ck=>exact h2
   |mit m ck seen=>exact h2.2
  refine⟨v,r,C1,τ1,K,rfl,hQ,hrel.cutB hbr,⟨⟨fun id o h=>hst.wf.ok id o (hmem h),fun id o h=>hst.wf.virt id o (hmem h),fun id o l h1 h2=>?_,fun id l h1=>hst.wf.comm id l (hlt h1),fun i j li lj h1 h2=>hst.wf.inj i j li lj (hlt h1) (hlt h2),hst.wf.lt⟩,
   hst.fr,fun b ⟨id,l,h1,h2,h3⟩=>hst.own b ⟨id,l,hlt h1,h2,h3⟩,hst.plt⟩,⟨hstep.le,hstep.cell,fun id o ho=>hkept ho,hstep.grow,hstep.old⟩⟩
  have hob:=hst.wf.objs id o l (hmem h1) h2
  rcases hK id o h1 with ho|hb
  ·have hob0:=hw.objs id o l ho (by rw[←hτ ho h1];exact h2)
   cases o with
   |iter s p=>exact hob
   |map kvs =>
    obtain⟨kvs1,es,clock,pp,g1,g2,g3,g4⟩:=hob
    obtain⟨kvs0,es0,clock0,pp0,k1,k2,k3,_⟩:=hob0
    refine⟨kvs1,es,clock,pp,g1,g2,fun i e kv he hkv=>⟨(g3 i e kv he hkv).1,?_⟩,g4⟩
    obtain⟨j,hj⟩:=List.getElem?_of_mem (pp0.mem_iff.2 (pp.mem_iff.1 (List.mem_of_getElem? hkv)))
    have hjl:=(List.getElem?_eq_some_iff.1 hj).1
    have hi0:j<es0.size:=by omega
    exact(g3 i e kv he hkv).2.narrow2 hle ⟨_,(k3 j es0[j] kv (Array.getElem?_eq_getElem hi0) hj).2⟩
   |bmap kvs bs ck =>
    obtain⟨es,g1,g2,g3,g4⟩:=hob
    obtain⟨es0,k1,k2,k3,_⟩:=hob0
    refine⟨es,g1,g2,fun i e kv he hkv=>⟨(g3 i e kv he hkv).1,?_⟩,g4⟩
    have hi:=(List.getElem?_eq_some_iff.1 hkv).1
    have hi0:i<es0.size:=by omega
    exact(g3 i e kv he hkv).2.narrow2 hle ⟨_,(k3 i es0[i] kv (Array.getElem?_eq_getElem hi0) hkv).2⟩
   |mit m ck seen =>
    cases m with
    |none=>exact hob
    |some m =>
     obtain⟨om,lm,q1,q2,q3,q4⟩:=hob
     obtain⟨om0,lm0,p1,p2,p3,p4⟩:=hob0
     rw[List.getElem?_append_left (Nat.lt_of_lt_of_le (List.getElem?_eq_some_iff.1 p1).1 hle)]at q1
     exact⟨om,lm,q1,q2,q3,q4⟩
   |arr esz es =>
    obtain⟨g1,cells,elem,fz,g2,g3,g4,g5⟩:=hob
    obtain⟨_,_,_,_,_,_,_,k5⟩:=hob0
    refine⟨g1,cells,elem,fz,g2,g3,g4,fun i j e d he hd=>?_⟩
    obtain⟨u,hu,hru⟩:=g5 i j e d he hd
    obtain⟨u0,_,hru0⟩:=k5 i j e d he hd
    exact⟨u,hu,hru.narrow2 hle ⟨u0,hru0⟩⟩
  ·cases o with
   |iter s p=>exact hob
   |bmap _ _ _=>exact hb.elim
   |mit _ _ _=>exact hb.elim
   |map kvs =>
    obtain⟨kvs1,es,clock,pp,g1,g2,g3,g4⟩:=hob
    exact⟨kvs1,es,clock,pp,g1,g2,fun i e kv he hkv=>⟨(g3 i e kv he hkv).1,(g3 i e kv he hkv).2.cutB (hb kv (pp.mem_iff.1 (List.mem_of_getElem? hkv)))⟩,g4⟩
   |arr esz es =>
    obtain⟨g1,cells,elem,fz,g2,g3,g4,g5⟩:=hob
    refine⟨g1,cells,elem,fz,g2,g3,g4,fun i j e d he hd=>?_⟩
    obtain⟨u,hu,hru⟩:=g5 i j e d he hd
    exact⟨u,hu,hru.cutB (hb e (List.mem_of_getElem? he) d (List.mem_of_getElem? hd))⟩
 unfold eS at hc ⊢
 split at hc
 ·exact Calls.mono hc fun e w' hh=>fin e w' hh
 ·exact fin _ _ hc
 ·exact hc
end
def VB(P:Program)(f:FuncId)(e:Array Value→Sem Value):Prop :=
 ∃fn,P.funcs[f]?=some fn∧(fn.name == "runtime.NumGoroutine")=false∧fn.body=none∧Extern.findNext fn=none∧Extern.find fn=some e
theorem KZ{P:Program}{f:FuncId}{e:Array Value→Sem Value}{args:List a6}{H:List aB}{R:a6}(hf:VB P f e)
  (h:∀(C:Nat→Nat) (τ:Nat→Option Loc) (w:World) (vs:Array Value),args.length=vs.size→(∀(i:Nat) (a:a6) (v:Value),args[i]?=some a→vs[i]?=some v→bW C w τ H a v) →
   ∃v,(e vs).run P w=.ok v w∧bW C w τ H R v):a7 P f args H (fun r H'=>r=R∧H'=H):=by
 obtain⟨fn,hfn,hname,hbody,hnext,hfind⟩:=hf
 intro C τ w vs hw hl hr
 obtain⟨v,hrun,hrel⟩:=h C τ w vs hl hr
 have hcall:(callFunc f vs).run P w=.ok (.value v) w:=by
  simp only[callFunc,Sem.run_bind,run_program,Result.andThen_ok,hfn,hname,Bool.false_eq_true,if_false,hbody,Option.isNone_none,if_true,run_mark,hnext,hfind,hrun,Sem.run_pure]
 unfold eS
 rw[hcall]
 exact⟨v,R,C,τ,H,rfl,⟨rfl,rfl⟩,hrel,St.start hw,cU.refl⟩
theorem UB{C:Nat→Nat}{w:World}{τ:Nat→Option Loc}{H:List aB}{s:ByteArray}{v:Value}(h:bW C w τ H (.str s) v):v=.string s:=by
 cases h with
 |rd h=>cases h;rfl
theorem UA{C:Nat→Nat}{w:World}{τ:Nat→Option Loc}{H:List aB}{k:IntKind}{n:Int}{v:Value}(h:bW C w τ H (.int k n) v):v=.int k n:=by
 cases h with
 |rd h=>cases h;rfl
theorem rU{P:Program}{f:FuncId}(hf:VB P f Extern.BytealgIndexByte.indexByte)(s:ByteArray)(c:Int)(H:List aB):
  a7 P f [.str s,.int .u8 c] H (fun r H'=>r=.int .i64 (Lib.indexByte s.data.toList c.toNat.toUInt8)∧H'=H):=by
 refine KZ hf fun C τ w vs hl hr=>?_
 obtain⟨l⟩:=vs
 match l,hl with
 |[a,b],_ =>
  cases UB (hr 0 _ a rfl rfl)
  cases UA (hr 1 _ b rfl rfl)
  exact⟨_,Lib.run_indexByteString s c w,.rd (.int _ _)⟩
end Go.AW
namespace Go.AW
@[irreducible] noncomputable def pr:Program:=Proofs.Tryz.prog
theorem prE0:pr=Proofs.Tryz.prog:=by unfold pr;rfl
theorem inL(n:Nat):Int.ofNat n=OfNat.ofNat n:=rfl
structure KD(i:Nat)(ob:List Nat) where
 c:tS
 has:QG pr i ob c
noncomputable def kd(i:Nat)(ob:List Nat)(f:Go.Func)(hf:Proofs.Tryz.prog.funcs[i]?=some f){b:Go.Code}{d:Option g9}{r:Option (List F7)}{m:Nat}(hb:f.body=some b:=by rfl)(hd:kR Proofs.Tryz.prog ob b=d:=by with_unfolding_all (conv=>lhs;reduce;dsimp only[↓inL,Int.reduceNegSucc]))(hr:nK Proofs.Tryz.prog f.results.toList=r:=by with_unfolding_all (conv=>lhs;reduce))(hm:f.ntmps=m:=by with_unfolding_all (conv=>lhs;reduce;dsimp only[]))(hn:(f.name == "runtime.NumGoroutine")=false:=by rfl)(hs:d.isSome=true:=by rfl)(ht:r.isSome=true:=by rfl):KD i ob :=
 ⟨⟨m,r.getD [],d.getD .skip⟩,by
  rw[prE0]
  exact⟨f,b,hf,hn,hb,by rw[hd];cases d<;>simp_all,hm,by rw[hr];cases r<;>simp_all⟩⟩
set_option maxRecDepth 100000
noncomputable def k7:=kd 7 [300082] Proofs.Tryz.f7 Proofs.Tryz.func7
noncomputable def k8:=kd 8 [23] Proofs.Tryz.f8 Proofs.Tryz.func8
noncomputable def k12:=kd 12 [] Proofs.Tryz.f12 Proofs.Tryz.func12
noncomputable def k18:=kd 18 [] Proofs.Tryz.f18 Proofs.Tryz.func18
noncomputable def k23:=kd 23 [] Proofs.Tryz.f23 Proofs.Tryz.func23
noncomputable def k26:=kd 26 [41,49] Proofs.Tryz.f26 Proofs.Tryz.func26
noncomputable def k27:=kd 27 [88] Proofs.Tryz.f27 Proofs.Tryz.func27
noncomputable def k28:=kd 28 [] Proofs.Tryz.f28 Proofs.Tryz.func28
noncomputable def k29:=kd 29 [] Proofs.Tryz.f29 Proofs.Tryz.func29
noncomputable def k31:=kd 31 [] Proofs.Tryz.f31 Proofs.Tryz.func31
noncomputable def k32:=kd 32 [35,59] Proofs.Tryz.f32 Proofs.Tryz.func32
noncomputable def k33:=kd 33 [300128] Proofs.Tryz.f33 Proofs.Tryz.func33
noncomputable def k34:=kd 34 [28,200000] Proofs.Tryz.f34 Proofs.Tryz.func34
noncomputable def k35:=kd 35 [28] Proofs.Tryz.f35 Proofs.Tryz.func35
noncomputable def k36:=kd 36 [] Proofs.Tryz.f36 Proofs.Tryz.func36
noncomputable def k37:=kd 37 [] Proofs.Tryz.f37 Proofs.Tryz.func37
noncomputable def k38:=kd 38 [27,29,31] Proofs.Tryz.f38 Proofs.Tryz.func38
noncomputable def k39:=kd 39 [] Proofs.Tryz.f39 Proofs.Tryz.func39
noncomputable def k40:=kd 40 [] Proofs.Tryz.f40 Proofs.Tryz.func40
noncomputable def k41:=kd 41 [] Proofs.Tryz.f41 Proofs.Tryz.func41
noncomputable def k43:=kd 43 [] Proofs.Tryz.f43 Proofs.Tryz.func43
noncomputable def k44:=kd 44 [] Proofs.Tryz.f44 Proofs.Tryz.func44
noncomputable def k45:=kd 45 [] Proofs.Tryz.f45 Proofs.Tryz.func45
noncomputable def k47:=kd 47 [6] Proofs.Tryz.f47 Proofs.Tryz.func47
noncomputable def k48:=kd 48 [] Proofs.Tryz.f48 Proofs.Tryz.func48
noncomputable def k51:=kd 51 [] Proofs.Tryz.f51 Proofs.Tryz.func51
noncomputable def k53:=kd 53 [] Proofs.Tryz.f53 Proofs.Tryz.func53
noncomputable def k62:=kd 62 [] Proofs.Tryz.f62 Proofs.Tryz.func62
noncomputable def k63:=kd 63 [] Proofs.Tryz.f63 Proofs.Tryz.func63
noncomputable def k65:=kd 65 [] Proofs.Tryz.f65 Proofs.Tryz.func65
noncomputable def k66:=kd 66 [] Proofs.Tryz.f66 Proofs.Tryz.func66
noncomputable def k67:=kd 67 [] Proofs.Tryz.f67 Proofs.Tryz.func67
noncomputable def k68:=kd 68 [] Proofs.Tryz.f68 Proofs.Tryz.func68
noncomputable def k69:=kd 69 [] Proofs.Tryz.f69 Proofs.Tryz.func69
noncomputable def k70:=kd 70 [13] Proofs.Tryz.f70 Proofs.Tryz.func70
noncomputable def k71:=kd 71 [] Proofs.Tryz.f71 Proofs.Tryz.func71
noncomputable def k72:=kd 72 [] Proofs.Tryz.f72 Proofs.Tryz.func72
noncomputable def k73:=kd 73 [] Proofs.Tryz.f73 Proofs.Tryz.func73
noncomputable def k74:=kd 74 [] Proofs.Tryz.f74 Proofs.Tryz.func74
noncomputable def k75:=kd 75 [13] Proofs.Tryz.f75 Proofs.Tryz.func75
noncomputable def k76:=kd 76 [] Proofs.Tryz.f76 Proofs.Tryz.func76
noncomputable def k77:=kd 77 [] Proofs.Tryz.f77 Proofs.Tryz.func77
noncomputable def k78:=kd 78 [] Proofs.Tryz.f78 Proofs.Tryz.func78
noncomputable def k79:=kd 79 [] Proofs.Tryz.f79 Proofs.Tryz.func79
noncomputable def k80:=kd 80 [] Proofs.Tryz.f80 Proofs.Tryz.func80
noncomputable def k81:=kd 81 [] Proofs.Tryz.f81 Proofs.Tryz.func81
noncomputable def k82:=kd 82 [] Proofs.Tryz.f82 Proofs.Tryz.func82
noncomputable def k83:=kd 83 [] Proofs.Tryz.f83 Proofs.Tryz.func83
noncomputable def k84:=kd 84 [34,88,96] Proofs.Tryz.f84 Proofs.Tryz.func84
noncomputable def k85:=kd 85 [] Proofs.Tryz.f85 Proofs.Tryz.func85
noncomputable def k86:=kd 86 [32,56,81] Proofs.Tryz.f86 Proofs.Tryz.func86
noncomputable def k87:=kd 87 [] Proofs.Tryz.f87 Proofs.Tryz.func87
noncomputable def k88:=kd 88 [] Proofs.Tryz.f88 Proofs.Tryz.func88
noncomputable def k89:=kd 89 [] Proofs.Tryz.f89 Proofs.Tryz.func89
noncomputable def k90:=kd 90 [] Proofs.Tryz.f90 Proofs.Tryz.func90
noncomputable def k91:=kd 91 [19] Proofs.Tryz.f91 Proofs.Tryz.func91
noncomputable def k92:=kd 92 [27,47] Proofs.Tryz.f92 Proofs.Tryz.func92
noncomputable def k93:=kd 93 [] Proofs.Tryz.f93 Proofs.Tryz.func93
noncomputable def k94:=kd 94 [] Proofs.Tryz.f94 Proofs.Tryz.func94
noncomputable def k95:=kd 95 [] Proofs.Tryz.f95 Proofs.Tryz.func95
noncomputable def k96:=kd 96 [] Proofs.Tryz.f96 Proofs.Tryz.func96
noncomputable def k97:=kd 97 [] Proofs.Tryz.f97 Proofs.Tryz.func97
noncomputable def k98:=kd 98 [] Proofs.Tryz.f98 Proofs.Tryz.func98
noncomputable def k99:=kd 99 [] Proofs.Tryz.f99 Proofs.Tryz.func99
noncomputable def k100:=kd 100 [] Proofs.Tryz.f100 Proofs.Tryz.func100
noncomputable def k101:=kd 101 [] Proofs.Tryz.f101 Proofs.Tryz.func101
noncomputable def k102:=kd 102 [] Proofs.Tryz.f102 Proofs.Tryz.func102
noncomputable def k103:=kd 103 [] Proofs.Tryz.f103 Proofs.Tryz.func103
noncomputable def k104:=kd 104 [] Proofs.Tryz.f104 Proofs.Tryz.func104
noncomputable def k105:=kd 105 [9,39] Proofs.Tryz.f105 Proofs.Tryz.func105
noncomputable def k106:=kd 106 [] Proofs.Tryz.f106 Proofs.Tryz.func106
noncomputable def k107:=kd 107 [300008] Proofs.Tryz.f107 Proofs.Tryz.func107
noncomputable def k108:=kd 108 [] Proofs.Tryz.f108 Proofs.Tryz.func108
noncomputable def k110:=kd 110 [] Proofs.Tryz.f110 Proofs.Tryz.func110
noncomputable def k111:=kd 111 [] Proofs.Tryz.f111 Proofs.Tryz.func111
noncomputable def k112:=kd 112 [34] Proofs.Tryz.f112 Proofs.Tryz.func112
noncomputable def k116:=kd 116 [] Proofs.Tryz.f116 Proofs.Tryz.func116
noncomputable def k117:=kd 117 [] Proofs.Tryz.f117 Proofs.Tryz.func117
noncomputable def k118:=kd 118 [] Proofs.Tryz.f118 Proofs.Tryz.func118
noncomputable def k119:=kd 119 [] Proofs.Tryz.f119 Proofs.Tryz.func119
noncomputable def k120:=kd 120 [] Proofs.Tryz.f120 Proofs.Tryz.func120
noncomputable def k121:=kd 121 [] Proofs.Tryz.f121 Proofs.Tryz.func121
noncomputable def k122:=kd 122 [] Proofs.Tryz.f122 Proofs.Tryz.func122
noncomputable def k123:=kd 123 [] Proofs.Tryz.f123 Proofs.Tryz.func123
noncomputable def k124:=kd 124 [] Proofs.Tryz.f124 Proofs.Tryz.func124
noncomputable def k125:=kd 125 [] Proofs.Tryz.f125 Proofs.Tryz.func125
noncomputable def k126:=kd 126 [] Proofs.Tryz.f126 Proofs.Tryz.func126
noncomputable def k127:=kd 127 [] Proofs.Tryz.f127 Proofs.Tryz.func127
noncomputable def k128:=kd 128 [] Proofs.Tryz.f128 Proofs.Tryz.func128
noncomputable def k129:=kd 129 [] Proofs.Tryz.f129 Proofs.Tryz.func129
noncomputable def k130:=kd 130 [] Proofs.Tryz.f130 Proofs.Tryz.func130
noncomputable def k131:=kd 131 [] Proofs.Tryz.f131 Proofs.Tryz.func131
noncomputable def k132:=kd 132 [] Proofs.Tryz.f132 Proofs.Tryz.func132
noncomputable def k133:=kd 133 [] Proofs.Tryz.f133 Proofs.Tryz.func133
noncomputable def k134:=kd 134 [] Proofs.Tryz.f134 Proofs.Tryz.func134
noncomputable def k135:=kd 135 [] Proofs.Tryz.f135 Proofs.Tryz.func135
noncomputable def k136:=kd 136 [] Proofs.Tryz.f136 Proofs.Tryz.func136
noncomputable def k137:=kd 137 [] Proofs.Tryz.f137 Proofs.Tryz.func137
noncomputable def k138:=kd 138 [] Proofs.Tryz.f138 Proofs.Tryz.func138
noncomputable def k139:=kd 139 [] Proofs.Tryz.f139 Proofs.Tryz.func139
noncomputable def k140:=kd 140 [27] Proofs.Tryz.f140 Proofs.Tryz.func140
noncomputable def k141:=kd 141 [65] Proofs.Tryz.f141 Proofs.Tryz.func141
noncomputable def k142:=kd 142 [] Proofs.Tryz.f142 Proofs.Tryz.func142
noncomputable def k143:=kd 143 [] Proofs.Tryz.f143 Proofs.Tryz.func143
noncomputable def k144:=kd 144 [27] Proofs.Tryz.f144 Proofs.Tryz.func144
noncomputable def k145:=kd 145 [89] Proofs.Tryz.f145 Proofs.Tryz.func145
noncomputable def k146:=kd 146 [] Proofs.Tryz.f146 Proofs.Tryz.func146
noncomputable def k147:=kd 147 [] Proofs.Tryz.f147 Proofs.Tryz.func147
noncomputable def k148:=kd 148 [] Proofs.Tryz.f148 Proofs.Tryz.func148
noncomputable def k149:=kd 149 [300142] Proofs.Tryz.f149 Proofs.Tryz.func149
noncomputable def k150:=kd 150 [] Proofs.Tryz.f150 Proofs.Tryz.func150
noncomputable def k151:=kd 151 [] Proofs.Tryz.f151 Proofs.Tryz.func151
noncomputable def k152:=kd 152 [] Proofs.Tryz.f152 Proofs.Tryz.func152
noncomputable def k153:=kd 153 [] Proofs.Tryz.f153 Proofs.Tryz.func153
noncomputable def k154:=kd 154 [] Proofs.Tryz.f154 Proofs.Tryz.func154
noncomputable def k155:=kd 155 [] Proofs.Tryz.f155 Proofs.Tryz.func155
noncomputable def k156:=kd 156 [] Proofs.Tryz.f156 Proofs.Tryz.func156
noncomputable def k159:=kd 159 [] Proofs.Tryz.f159 Proofs.Tryz.func159
noncomputable def k163:=kd 163 [] Proofs.Tryz.f163 Proofs.Tryz.func163
noncomputable def k164:=kd 164 [] Proofs.Tryz.f164 Proofs.Tryz.func164
noncomputable def k165:=kd 165 [] Proofs.Tryz.f165 Proofs.Tryz.func165
noncomputable def k166:=kd 166 [] Proofs.Tryz.f166 Proofs.Tryz.func166
noncomputable def k167:=kd 167 [] Proofs.Tryz.f167 Proofs.Tryz.func167
noncomputable def k168:=kd 168 [] Proofs.Tryz.f168 Proofs.Tryz.func168
noncomputable def k169:=kd 169 [] Proofs.Tryz.f169 Proofs.Tryz.func169
noncomputable def k170:=kd 170 [] Proofs.Tryz.f170 Proofs.Tryz.func170
noncomputable def k171:=kd 171 [] Proofs.Tryz.f171 Proofs.Tryz.func171
noncomputable def k172:=kd 172 [] Proofs.Tryz.f172 Proofs.Tryz.func172
noncomputable def k173:=kd 173 [] Proofs.Tryz.f173 Proofs.Tryz.func173
noncomputable def k174:=kd 174 [] Proofs.Tryz.f174 Proofs.Tryz.func174
noncomputable def k175:=kd 175 [] Proofs.Tryz.f175 Proofs.Tryz.func175
noncomputable def k176:=kd 176 [] Proofs.Tryz.f176 Proofs.Tryz.func176
noncomputable def k177:=kd 177 [] Proofs.Tryz.f177 Proofs.Tryz.func177
noncomputable def k178:=kd 178 [] Proofs.Tryz.f178 Proofs.Tryz.func178
noncomputable def k179:=kd 179 [] Proofs.Tryz.f179 Proofs.Tryz.func179
noncomputable def k180:=kd 180 [] Proofs.Tryz.f180 Proofs.Tryz.func180
noncomputable def k181:=kd 181 [54] Proofs.Tryz.f181 Proofs.Tryz.func181
noncomputable def k182:=kd 182 [] Proofs.Tryz.f182 Proofs.Tryz.func182
noncomputable def k183:=kd 183 [] Proofs.Tryz.f183 Proofs.Tryz.func183
noncomputable def k184:=kd 184 [] Proofs.Tryz.f184 Proofs.Tryz.func184
noncomputable def k185:=kd 185 [66] Proofs.Tryz.f185 Proofs.Tryz.func185
noncomputable def k186:=kd 186 [] Proofs.Tryz.f186 Proofs.Tryz.func186
noncomputable def k187:=kd 187 [] Proofs.Tryz.f187 Proofs.Tryz.func187
noncomputable def k188:=kd 188 [] Proofs.Tryz.f188 Proofs.Tryz.func188
noncomputable def k189:=kd 189 [] Proofs.Tryz.f189 Proofs.Tryz.func189
noncomputable def k190:=kd 190 [] Proofs.Tryz.f190 Proofs.Tryz.func190
noncomputable def k191:=kd 191 [37] Proofs.Tryz.f191 Proofs.Tryz.func191
noncomputable def k192:=kd 192 [] Proofs.Tryz.f192 Proofs.Tryz.func192
noncomputable def k193:=kd 193 [] Proofs.Tryz.f193 Proofs.Tryz.func193
noncomputable def k194:=kd 194 [52] Proofs.Tryz.f194 Proofs.Tryz.func194
noncomputable def k195:=kd 195 [] Proofs.Tryz.f195 Proofs.Tryz.func195
noncomputable def k196:=kd 196 [] Proofs.Tryz.f196 Proofs.Tryz.func196
noncomputable def k197:=kd 197 [] Proofs.Tryz.f197 Proofs.Tryz.func197
noncomputable def k198:=kd 198 [3] Proofs.Tryz.f198 Proofs.Tryz.func198
noncomputable def k199:=kd 199 [43] Proofs.Tryz.f199 Proofs.Tryz.func199
noncomputable def k200:=kd 200 [] Proofs.Tryz.f200 Proofs.Tryz.func200
noncomputable def k201:=kd 201 [] Proofs.Tryz.f201 Proofs.Tryz.func201
noncomputable def k203:=kd 203 [] Proofs.Tryz.f203 Proofs.Tryz.func203
noncomputable def k215:=kd 215 [] Proofs.Tryz.f215 Proofs.Tryz.func215
noncomputable def k216:=kd 216 [] Proofs.Tryz.f216 Proofs.Tryz.func216
noncomputable def k217:=kd 217 [] Proofs.Tryz.f217 Proofs.Tryz.func217
noncomputable def k218:=kd 218 [] Proofs.Tryz.f218 Proofs.Tryz.func218
noncomputable def k219:=kd 219 [] Proofs.Tryz.f219 Proofs.Tryz.func219
noncomputable def k220:=kd 220 [] Proofs.Tryz.f220 Proofs.Tryz.func220
noncomputable def k221:=kd 221 [] Proofs.Tryz.f221 Proofs.Tryz.func221
noncomputable def k222:=kd 222 [] Proofs.Tryz.f222 Proofs.Tryz.func222
noncomputable def k223:=kd 223 [] Proofs.Tryz.f223 Proofs.Tryz.func223
noncomputable def k226:=kd 226 [] Proofs.Tryz.f226 Proofs.Tryz.func226
noncomputable def k227:=kd 227 [] Proofs.Tryz.f227 Proofs.Tryz.func227
noncomputable def k228:=kd 228 [] Proofs.Tryz.f228 Proofs.Tryz.func228
noncomputable def k229:=kd 229 [] Proofs.Tryz.f229 Proofs.Tryz.func229
noncomputable def k230:=kd 230 [] Proofs.Tryz.f230 Proofs.Tryz.func230
noncomputable def k231:=kd 231 [] Proofs.Tryz.f231 Proofs.Tryz.func231
noncomputable def k232:=kd 232 [47] Proofs.Tryz.f232 Proofs.Tryz.func232
noncomputable def k233:=kd 233 [] Proofs.Tryz.f233 Proofs.Tryz.func233
noncomputable def k234:=kd 234 [] Proofs.Tryz.f234 Proofs.Tryz.func234
noncomputable def k235:=kd 235 [] Proofs.Tryz.f235 Proofs.Tryz.func235
noncomputable def k236:=kd 236 [] Proofs.Tryz.f236 Proofs.Tryz.func236
noncomputable def k237:=kd 237 [] Proofs.Tryz.f237 Proofs.Tryz.func237
noncomputable def k238:=kd 238 [] Proofs.Tryz.f238 Proofs.Tryz.func238
noncomputable def k239:=kd 239 [] Proofs.Tryz.f239 Proofs.Tryz.func239
noncomputable def k240:=kd 240 [] Proofs.Tryz.f240 Proofs.Tryz.func240
noncomputable def k241:=kd 241 [] Proofs.Tryz.f241 Proofs.Tryz.func241
noncomputable def k242:=kd 242 [] Proofs.Tryz.f242 Proofs.Tryz.func242
noncomputable def k243:=kd 243 [] Proofs.Tryz.f243 Proofs.Tryz.func243
noncomputable def k244:=kd 244 [] Proofs.Tryz.f244 Proofs.Tryz.func244
noncomputable def k245:=kd 245 [5] Proofs.Tryz.f245 Proofs.Tryz.func245
noncomputable def k246:=kd 246 [] Proofs.Tryz.f246 Proofs.Tryz.func246
noncomputable def k247:=kd 247 [] Proofs.Tryz.f247 Proofs.Tryz.func247
noncomputable def k248:=kd 248 [] Proofs.Tryz.f248 Proofs.Tryz.func248
noncomputable def k249:=kd 249 [] Proofs.Tryz.f249 Proofs.Tryz.func249
noncomputable def k255:=kd 255 [] Proofs.Tryz.f255 Proofs.Tryz.func255
noncomputable def k256:=kd 256 [] Proofs.Tryz.f256 Proofs.Tryz.func256
noncomputable def k257:=kd 257 [] Proofs.Tryz.f257 Proofs.Tryz.func257
noncomputable def k258:=kd 258 [] Proofs.Tryz.f258 Proofs.Tryz.func258
noncomputable def k259:=kd 259 [] Proofs.Tryz.f259 Proofs.Tryz.func259
noncomputable def k260:=kd 260 [] Proofs.Tryz.f260 Proofs.Tryz.func260
noncomputable def k263:=kd 263 [] Proofs.Tryz.f263 Proofs.Tryz.func263
noncomputable def k264:=kd 264 [] Proofs.Tryz.f264 Proofs.Tryz.func264
noncomputable def k265:=kd 265 [] Proofs.Tryz.f265 Proofs.Tryz.func265
noncomputable def k266:=kd 266 [] Proofs.Tryz.f266 Proofs.Tryz.func266
noncomputable def k267:=kd 267 [] Proofs.Tryz.f267 Proofs.Tryz.func267
noncomputable def k268:=kd 268 [] Proofs.Tryz.f268 Proofs.Tryz.func268
noncomputable def k269:=kd 269 [] Proofs.Tryz.f269 Proofs.Tryz.func269
noncomputable def k270:=kd 270 [] Proofs.Tryz.f270 Proofs.Tryz.func270
noncomputable def k271:=kd 271 [] Proofs.Tryz.f271 Proofs.Tryz.func271
noncomputable def k272:=kd 272 [] Proofs.Tryz.f272 Proofs.Tryz.func272
noncomputable def k273:=kd 273 [] Proofs.Tryz.f273 Proofs.Tryz.func273
noncomputable def k274:=kd 274 [] Proofs.Tryz.f274 Proofs.Tryz.func274
noncomputable def k275:=kd 275 [] Proofs.Tryz.f275 Proofs.Tryz.func275
noncomputable def k276:=kd 276 [] Proofs.Tryz.f276 Proofs.Tryz.func276
noncomputable def k277:=kd 277 [] Proofs.Tryz.f277 Proofs.Tryz.func277
noncomputable def k278:=kd 278 [] Proofs.Tryz.f278 Proofs.Tryz.func278
noncomputable def k279:=kd 279 [] Proofs.Tryz.f279 Proofs.Tryz.func279
noncomputable def k280:=kd 280 [] Proofs.Tryz.f280 Proofs.Tryz.func280
noncomputable def k281:=kd 281 [] Proofs.Tryz.f281 Proofs.Tryz.func281
noncomputable def k282:=kd 282 [] Proofs.Tryz.f282 Proofs.Tryz.func282
noncomputable def k283:=kd 283 [] Proofs.Tryz.f283 Proofs.Tryz.func283
noncomputable def k288:=kd 288 [] Proofs.Tryz.f288 Proofs.Tryz.func288
noncomputable def k289:=kd 289 [] Proofs.Tryz.f289 Proofs.Tryz.func289
noncomputable def k290:=kd 290 [] Proofs.Tryz.f290 Proofs.Tryz.func290
noncomputable def k291:=kd 291 [] Proofs.Tryz.f291 Proofs.Tryz.func291
noncomputable def k292:=kd 292 [] Proofs.Tryz.f292 Proofs.Tryz.func292
theorem k293.has:VB pr 293 Extern.BytealgIndexByte.indexByte:=by rw[prE0];exact⟨Proofs.Tryz.f293,Proofs.Tryz.func293,by rfl,by rfl,by rfl,by rfl⟩
noncomputable def k295:=kd 295 [] Proofs.Tryz.f295 Proofs.Tryz.func295
structure FT where
 id:Nat
 has:QG pr id [] k131.c
variable [dK]
open Go.RowKit
inductive Sh where
 |bool
 |int (k:IntKind)
 |str
 |slice (fs:List Sh)
def lX(P:Program)(sh:TypeId→Option (List Sh)):List Field→Nat→Option (List Sh)
 |[],_=>some []
 |f::r,off=>if f.offset=off then match sh f.type,lX P sh r (off+P.cellsOf f.type)with
   |some a,some b=>if a.length=P.cellsOf f.type then some (a++b)else none
   |_,_=>none
  else none
def nT(P:Program):Nat→TypeId→Option (List Sh)
 |0,_=>none
 |n+1,t=>match P.underlying t with
  |some .bool=>some [.bool]
  |some (.int k)=>some [.int k]
  |some .string=>some [.str]
  |some (.slice e)=>match nT P n e with
   |some l=>if l.length=P.cellsOf e∧P.cellsOf e≠0 then some [.slice l]else none
   |none=>none
  |some (.struct fs)=>match lX P (nT P n) fs.toList 0 with
   |some l=>if l.length=P.cellsOf t then some l else none
   |none=>none
  |_=>none
inductive rA:Sh→a6→Prop where
 |bool (b:Bool):rA .bool (.bool b)
 |int (k:IntKind) (n:Int) (h:(Lit.int k n).wf=true):rA (.int k) (.int k n)
 |str (s:ByteArray) (h:s.size≤maxLen):rA .str (.str s)
 |list (fs:List Sh) (es:List (List a6)) (hb:es.length≤maxLen) (hl:∀e∈es,e.length=fs.length)
   (h:∀(e:List a6) (i:Nat) (f:Sh) (d:a6),e∈es→fs[i]?=some f→e[i]?=some d→rA f d):rA (.slice fs) (.list false fs.length es)
def zI(w:World)(b:Nat):Nat :=
 match w.heap[b]? with
 |some (.cells cells _ _)=>cells.size
 |_=>0
theorem OD{w:World}{b i:Nat}{v:Value}(h:w.cell? ⟨b,i,none⟩=some v):i<zI w b:=by
 unfold World.cell? at h
 unfold zI
 simp only[]at h
 split at h
 ·rename_i hh
  rw[hh]
  simp only[]
  exact(Array.getElem?_eq_some_iff.1 h).1
 ·cases h
theorem rA.isCell{s:Sh}{a:a6}(h:rA s a):a.isCell=true:=by cases h<;>rfl
section
variable {H:Type}{enc:TypeId×Value→H}{P:Program}{w:World}{spare:Nat→Bool}{held:Bool}
theorem cells?_get{a:Addr}{n:Nat}{cs:List Value}(h:w.cells? 0 a n=some cs):cs.length=n∧∀i,i<n→w.cell? (a.add i)=cs[i]?:=by
 unfold World.cells? at h
 rw[if_pos (Nat.zero_le _)]at h
 exact⟨by simpa using Go.mapM_some_length h,fun i hi=>Go.mapM_some_get h i i (by simp[hi])⟩
def qP(w:World)(shs:List Sh)(cs:List Value):Prop :=
 ∃asv:List a6,asv.length=cs.length∧shs.length=cs.length∧(∀(i:Nat) (s:Sh) (a:a6),shs[i]?=some s→asv[i]?=some a→rA s a) ∧
  ∀(i:Nat) (a:a6) (c:Value),asv[i]?=some a→cs[i]?=some c→Rd (zI w) w a c
theorem qP.one{s:Sh}{a:a6}{c:Value}(h:rA s a)(hr:Rd (zI w) w a c):qP w [s] [c]:=by
 refine⟨[a],rfl,rfl,fun i s' a' h1 h2=>?_,fun i a' c' h1 h2=>?_⟩
 ·cases i with
  |zero=>simp at h1 h2;subst h1 h2;exact h
  |succ i=>simp at h1
 ·cases i with
  |zero=>simp at h1 h2;subst h1 h2;exact hr
  |succ i=>simp at h1
theorem qP.append{s1 s2:List Sh}{c1 c2:List Value}(h1:qP w s1 c1)(h2:qP w s2 c2):qP w (s1++s2) (c1++c2):=by
 obtain⟨a1,l1,m1,o1,r1⟩:=h1
 obtain⟨a2,l2,m2,o2,r2⟩:=h2
 refine⟨a1++a2,by simp[l1,l2],by simp[m1,m2],fun i s a hs ha=>?_,fun i a c ha hc=>?_⟩
 ·by_cases hi:i<c1.length
  ·rw[List.getElem?_append_left (by omega)]at hs ha
   exact o1 i s a hs ha
  ·rw[List.getElem?_append_right (by omega)]at hs ha
   rw[m1]at hs;rw[l1]at ha
   exact o2 _ s a hs ha
 ·by_cases hi:i<c1.length
  ·rw[List.getElem?_append_left (by omega)]at ha hc
   exact r1 i a c ha hc
  ·rw[List.getElem?_append_right (by omega)]at ha hc
   rw[l1]at ha
   exact r2 _ a c ha hc
theorem qP.nil:qP w [] []:=⟨[],rfl,rfl,fun i s a h=>by simp at h,fun i a c h=>by simp at h⟩
theorem yQ{sh:TypeId→Option (List Sh)}(tr:Field→List Value→Prop)(htr:∀(f:Field) (cs:List Value) (l:List Sh),tr f cs→sh f.type=some l→qP w l cs)(cs:List Value):
  ∀(fs:List Field) (off:Nat) (l:List Sh),lX P sh fs off=some l→(∀f∈fs,tr f ((cs.drop f.offset).take (P.cellsOf f.type)))→off+l.length=cs.length→qP w l (cs.drop off)
 |[],off,l,h,_,hl=>by
  simp only[lX,Option.some.injEq]at h;subst h
  have:cs.drop off=[]:=List.drop_eq_nil_of_le (by simp at hl;omega)
  rw[this];exact .nil
 |f::r,off,l,h,ht,hl=>by
  simp only[lX]at h
  split at h
  case isFalse=>cases h
  rename_i ho
  split at h
  case h_2=>cases h
  rename_i a b h1 h2
  split at h
  case isFalse=>cases h
  rename_i hlen
  cases h
  have hf:=htr f _ _ (ht f (by simp)) h1
  have hr:=yQ tr htr cs r _ _ h2 (fun g hg=>ht g (by simp[hg])) (by simp at hl;omega)
  rw[ho]at hf
  have:=hf.append hr
  rwa [←List.drop_drop,List.take_append_drop]at this
theorem qE:∀(n:Nat) (fuel:Nat) (t:TypeId) (cs:List Value) (x:DataW H×List MemPlace) (l:List Sh),nT P n t=some l→DataW.trod enc P w 0 spare held fuel t cs=some x→qP w l cs
 |0,_,_,_,_,_,h,_=>by simp[nT]at h
 |n+1,fuel,t,cs,x,l,h,ht=>by
  unfold nT at h
  split at h
  ·rename_i hu
   cases h
   cases fuel with
   |zero=>simp[DataW.trod]at ht
   |succ m =>
    unfold DataW.trod at ht
    rw[hu]at ht
    split at ht<;>simp_all
    exact .one (.bool _) (.bool _)
  ·rename_i k hu
   cases h
   cases fuel with
   |zero=>simp[DataW.trod]at ht
   |succ m =>
    unfold DataW.trod at ht
    rw[hu]at ht
    split at ht<;>simp_all
    obtain⟨⟨rfl,hw⟩,_⟩:=ht
    exact .one (.int _ _ hw) (.int _ _)
  ·rename_i hu
   cases h
   cases fuel with
   |zero=>simp[DataW.trod]at ht
   |succ m =>
    unfold DataW.trod at ht
    rw[hu]at ht
    split at ht<;>simp_all
    exact .one (.str _ ht.1) (.str _)
  ·rename_i e hu
   split at h
   case h_2=>cases h
   rename_i fs hfs
   split at h
   case isFalse=>cases h
   rename_i hlen'
   cases h
   have hlen:=hlen'.1
   rcases DataW.trod_slice hu ht with⟨rfl,_⟩|⟨a,len,cap,elems,rest,m,rfl,rfl,_,_,hl,hm,hel,hcell,_,_⟩
   ·have hes:rA (.slice fs) (.list false fs.length []):=.list fs [] (Nat.zero_le _) (by simp) (by simp)
    exact .one hes (.list0 _ _ _ _ (by simp))
   ·obtain⟨b,off,spot⟩:=a
    have each:∀i,i<len→∃cells,w.cells? 0 ((Addr.mk b off spot).add (i*P.cellsOf e)) (P.cellsOf e)=some cells∧qP w fs cells:=by
     intro i hi
     have h1:=hcell i hi
     rw[List.getElem?_eq_getElem (by omega),Option.bind_eq_some_iff]at h1
     obtain⟨cells,h2,h3⟩:=h1
     exact⟨cells,h2,qE n m e cells _ fs hfs h3⟩
    by_cases h0:len=0
    ·subst h0
     have hes:rA (.slice fs) (.list false fs.length []):=.list fs [] (Nat.zero_le _) (by simp) (by simp)
     exact .one hes (.list0 _ _ _ _ (by simp))
    ·by_cases hz:P.cellsOf e=0
     ·exact absurd hz hlen'.2
     ·have hspot:spot=none:=by
       obtain⟨cells,h1,_⟩:=each 0 (by omega)
       obtain⟨h2,h3⟩:=cells?_get h1
       have h4:=h3 0 (by omega)
       rw[List.getElem?_eq_getElem (by omega)]at h4
       have:=World.cell?_spot h4
       simpa[Addr.add]using this
      subst hspot
      
      have hch:∃F:Nat→List a6,∀i,i<len→(F i).length=fs.length∧(∀(j:Nat) (s:Sh) (a:a6),fs[j]?=some s→(F i)[j]?=some a→rA s a) ∧
        ∃cells:List Value,cells.length=fs.length∧(∀j,j<fs.length→w.cell? ⟨b,off+i*fs.length+j,none⟩=cells[j]?)∧∀(j:Nat) (a:a6) (c:Value),(F i)[j]?=some a→cells[j]?=some c→Rd (zI w) w a c:=by
       refine⟨fun i=>if hi:i<len then Classical.choose (each i hi).choose_spec.2 else[],fun i hi=>?_⟩
       obtain⟨h1,h2,h3,h4⟩:=Classical.choose_spec (each i hi).choose_spec.2
       have hc:=(each i hi).choose_spec.1
       obtain⟨h5,h6⟩:=cells?_get hc
       simp only[dif_pos hi]
       refine⟨by omega,h3,(each i hi).choose,by omega,fun j hj=>?_,h4⟩
       rw[←h6 j (by omega)]
       rw[WideShapes.add_plain,WideShapes.add_plain,hlen]
      obtain⟨F,hF⟩:=hch
      have hget:∀(i:Nat) (e':List a6),((List.range len).map F)[i]?=some e'→i<len∧e'=F i:=by
       intro i e' he
       by_cases hi:i<len
       ·simp[hi]at he;exact⟨hi,he.symm⟩
       ·simp[hi]at he
      refine .one (a:=.list false fs.length ((List.range len).map F)) (.list _ _ (by simp;omega) (fun e' he'=>?_) fun e' i f d he' hf hd=>?_) ?_
      ·obtain⟨i,hi,rfl⟩:=List.mem_map.1 he'
       exact(hF i (by simpa using hi)).1
      ·obtain⟨i',hi',rfl⟩:=List.mem_map.1 he'
       exact(hF i' (by simpa using hi')).2.1 i f d hf hd
      ·have hcellv:∀i j,i<len→j<fs.length→∃v,w.cell? ⟨b,off+i*fs.length+j,none⟩=some v:=by
        intro i j hi hj
        obtain⟨_,_,cells,h1,h2,_⟩:=hF i hi
        exact⟨cells[j],by rw[h2 j hj,List.getElem?_eq_getElem (by omega)]⟩
       have:=Rd.list (C:=zI w) (w:=w) false fs.length ((List.range len).map F) b off cap (fun i j=>(w.cell? ⟨b,off+i*fs.length+j,none⟩).getD .nilIface) (by simp) (by simpa using hl)
        (fun e' he'=>by obtain⟨i,hi,rfl⟩:=List.mem_map.1 he';exact(hF i (by simpa using hi)).1) ?_ ?_ ?_ ?_
       ·simpa using this
       ·obtain⟨v,hv⟩:=hcellv (len-1) (fs.length-1) (by omega) (by omega)
        have h1:=OD hv
        simp only[List.length_map,List.length_range]
        have h2:len*fs.length=(len-1)*fs.length+fs.length:=by
         rw[←Nat.succ_mul];congr 1;omega
        omega
       ·intro i j hi hj
        obtain⟨v,hv⟩:=hcellv i j (by simpa using hi) hj
        rw[hv];rfl
       ·intro i j e' d he hd
        obtain⟨hi,rfl⟩:=hget i e' he
        have hj:j<fs.length:=by rw[←(hF i hi).1];exact(List.getElem?_eq_some_iff.1 hd).1
        exact((hF i hi).2.1 j _ d (List.getElem?_eq_getElem hj) hd).isCell
       ·intro i j e' d he hd
        obtain⟨hi,rfl⟩:=hget i e' he
        have hj:j<fs.length:=by rw[←(hF i hi).1];exact(List.getElem?_eq_some_iff.1 hd).1
        obtain⟨_,_,cells,h1,h2,h3⟩:=hF i hi
        refine h3 j d _ hd ?_
        rw[←h2 j hj]
        obtain⟨v,hv⟩:=hcellv i j hi hj
        rw[hv];rfl
  ·rename_i fs hu
   split at h
   case h_2=>cases h
   rename_i l' hl'
   split at h
   case isFalse=>cases h
   rename_i hll
   cases h
   obtain⟨xs,m,rfl,_,hlen,hxs,hf⟩:=DataW.trod_struct hu ht
   have:=yQ (P:=P) (w:=w) (sh:=nT P n) (fun f cs=>∃y,DataW.trod enc P w 0 spare held m f.type cs=some y) (fun f cs l' ⟨y,hy⟩ hl=>qE n m f.type cs y l' hl hy) cs fs.toList 0 _ hl' ?_ ?_
   ·simpa using this
   ·intro f hfm
    obtain⟨i,hi,he⟩:=List.getElem_of_mem hfm
    have h1:=hf i f (by rw[←he];simp)
    exact⟨xs[i]'(by simp at hi;omega),by rw[h1];exact List.getElem?_eq_getElem _⟩
   ·omega
  ·cases h
end
open Go.RowKit Go.ChangeShapes
def G9(P:Program)(n:Nat)(t:TypeId):Option (Bool×List Sh) :=
 match P.underlying t with
 |some (.struct _)=>(nT P n t).map fun l=>(true,l)
 |some (.array _ _)=>none
 |_=>match nT P n t with
  |some [s]=>some (false,[s])
  |_=>none
def DT:Bool×List Sh→a6→Prop
 |(true,l),a=>∃asv,a=.agg asv∧asv.length=l.length∧∀(i:Nat) (s:Sh) (c:a6),l[i]?=some s→asv[i]?=some c→rA s c
 |(false,l),a=>∃s,l=[s]∧rA s a
def wT:List (Bool×List Sh)→List a6→Prop
 |[],[]=>True
 |p::ps,a::asv=>DT p a∧wT ps asv
 |_,_=>False
def s6(P:Program)(n:Nat):List TypeId→Option (List (Bool×List Sh))
 |[]=>some []
 |t::ts=>match G9 P n t,s6 P n ts with
  |some p,some ps=>some (p::ps)
  |_,_=>none
section
variable {H:Type}{enc:TypeId×Value→H}{P:Program}{w:World}{τ:Nat→Option Loc}
theorem S1{n:Nat}{t:TypeId}{v:Value}{d:DataW H}{ps:List MemPlace}{p:Bool×List Sh}{base:Nat}(hp:G9 P n t=some p)(hv:Value.okWide P w .any base t v)
  (h:DataW.Trod enc P w 0 (fun _=>true) true t v d ps):∃a,DT p a∧bW (zI w) w τ [] a v:=by
 obtain⟨fuel,hf⟩:=h
 unfold G9 at hp
 split at hp
 ·rename_i fs hu
  simp only[Option.map_eq_some_iff]at hp
  obtain⟨l,hl,rfl⟩:=hp
  obtain⟨asv,h1,h2,h3,h4⟩:=qE n fuel t _ _ l hl hf
  unfold Value.okWide at hv
  rw[hu]at hv
  obtain⟨cs,rfl,_⟩:=hv
  simp only[Value.cells]at h1 h2 h4
  exact⟨.agg asv,⟨asv,rfl,by omega,h3⟩,.agg asv cs (by simpa using h1) fun i c v hc hv=>.rd (h4 i c v hc (by simpa using hv))⟩
 ·cases hp
 ·rename_i hns hna
  split at hp
  case h_2=>cases hp
  rename_i s hl
  cases hp
  obtain⟨asv,h1,h2,h3,h4⟩:=qE n fuel t _ _ _ hl hf
  have hvc:v.cells.toList=[v]:=by
   have:∀cs,v≠.agg cs:=by
    rintro cs rfl
    unfold Value.okWide at hv
    split at hv
    ·rename_i fs hu;exact hns fs hu
    ·rename_i k e hu;exact hna k e hu
    ·unfold Cell.okWide at hv
     split at hv<;>simp_all [Cell.ok]
   cases v<;>first|rfl|exact absurd rfl (this _)
  rw[hvc]at h1 h2 h4
  obtain⟨a,rfl⟩:=List.length_eq_one_iff.1 h1
  exact⟨a,⟨s,rfl,h3 0 s a rfl rfl⟩,.rd (h4 0 a v rfl rfl)⟩
theorem EJ{n:Nat}{base:Nat}:∀(ts:List TypeId) (vs:List Value) (ds:List (DataW H)) (ps:List MemPlace) (shs:List (Bool×List Sh)),s6 P n ts=some shs →
  (∀(j:Nat) (t:TypeId) (v:Value),ts[j]?=some t→vs[j]?=some v→Value.okWide P w .any base t v) →
  DataW.TrodAll enc P w 0 (fun _=>true) true ts vs ds ps→∃asv,wT shs asv∧asv.length=vs.length∧∀(i:Nat) (a:a6) (v:Value),asv[i]?=some a→vs[i]?=some v→bW (zI w) w τ [] a v
 |[],vs,ds,ps,shs,hs,hv,h=>by
  obtain⟨rfl,rfl,rfl⟩:=trodAll_nil h
  simp only[s6,Option.some.injEq]at hs;subst hs
  exact⟨[],trivial,rfl,fun i a v h=>by simp at h⟩
 |t::ts,vs,ds,ps,shs,hs,hv,h=>by
  obtain⟨v,vs',d,ds',p,q,rfl,rfl,rfl,h1,h2⟩:=trodAll_cons h
  simp only[s6]at hs
  split at hs
  case h_2=>cases hs
  rename_i sh shs' e1 e2
  cases hs
  obtain⟨a,ha,hr⟩:=S1 (τ:=τ) e1 (hv 0 t v rfl rfl) h1
  obtain⟨asv,has,hl,hrs⟩:=EJ ts vs' ds' q shs' e2 (fun j t' v' ht hv'=>hv (j+1) t' v' (by simpa using ht) (by simpa using hv')) h2
  refine⟨a::asv,⟨ha,has⟩,by simp[hl],fun i a' v' h1 h2=>?_⟩
  cases i with
  |zero=>simp at h1 h2;subst h1 h2;exact hr
  |succ i=>exact hrs i a' v' (by simpa using h1) (by simpa using h2)
theorem uC(hl:laidOutB P=true){W W':World}(hb:Below W.heap.size W W'):∀(ts:List TypeId) (vs:List Value) (ds:List (DataW H)) (ps:List MemPlace),
  (∀t∈ts,P.readableRec t=true∧t<P.types.size)→DataW.TrodAll enc P W 0 (fun _=>true) true ts vs ds ps →
  DataW.TrodAll enc P W' 0 (fun b=>decide (b<W.heap.size)) true ts vs ds ps
 |[],vs,ds,ps,_,h=>by obtain⟨rfl,rfl,rfl⟩:=trodAll_nil h;exact trodAll_mk0
 |t::ts,vs,ds,ps,hr,h=>by
  obtain⟨v,vs',d,ds',p,q,rfl,rfl,rfl,h1,h2⟩:=trodAll_cons h
  have hlt:∀x∈p,x.block<W.heap.size:=by obtain⟨m,hm⟩:=h1;exact DataW.trod_lt m _ _ _ hm
  exact trodAll_cons_mk (Below.trod hl (hr t (by simp)).1 (hr t (by simp)).2 h1 hb hlt) (uC hl hb ts vs' ds' q (fun t' ht=>hr t' (by simp[ht])) h2)
theorem FI{f:FuncId}{fn:Func}{c:Code}{args:Array Value}{asv:List a6}(hfn:P.funcs[f]?=some fn)(hname:(fn.name == "runtime.NumGoroutine")=false)(hbody:fn.body=some c)
  (hlen:asv.length=args.size) (hrel:∀(i:Nat) (a:a6) (v:Value),asv[i]?=some a→args[i]?=some v→bW (zI w) w (fun _=>none) [] a v)
  (hlaw:a7 P f asv [] (fun r _=>r=.bool true)) :
  Calls P f args w fun e w'=>e=.returned (.bool true)∧Below w.heap.size w w':=by
 have hwf:WF (zI w) (fun _=>none) [] w:=by
  refine⟨fun id o h=>by simp at h,fun id o h=>by simp at h,fun id o l h=>by simp at h,fun id l h=>by simp at h,fun i j li lj h=>by simp at h,fun b hb=>?_⟩
  unfold zI at hb
  split at hb
  ·rename_i h
   exact cQ h
  ·omega
 have h:=hlaw (zI w) (fun _=>none) w args hwf hlen hrel
 have hcall:(callFunc f args).run P w=.ok (.enter f args) w:=by
  simp only[callFunc,Sem.run_bind,run_program,Result.andThen_ok,hfn,hname,Bool.false_eq_true,if_false,hbody,Option.isNone_some,Sem.run_pure]
 unfold eS at h
 rw[hcall]at h
 refine Calls.mono h fun e w'=>?_
 rintro⟨v,r,C',τ',H',rfl,rfl,hr,hst,hstep⟩
 refine⟨?_,hst.fr.os,hst.fr.tape,hst.fr.output,hst.fr.size,fun k hk=>hst.fr.prot k ⟨hk,?_⟩⟩
 ·cases hr with
  |rd hr=>cases hr;rfl
 ·rintro⟨id,l,h1,_⟩
  exact absurd h1 (Nat.not_lt_zero _)
set_option maxRecDepth 100000 in
theorem DH{C:Checked}{os:Os}{f:FuncId}{fn:Func}{s:ChangeSpec}{ob:List Nat}{af:tS}{n tb:Nat}{shs:List (Bool×List Sh)}
  (own:ownKnob C.prog.godebug=none) (started:os.Started) (noInit:C.prog.inits.idxOf? f=none) (hfn:C.prog.funcs[f]?=some fn)
  (witness:∃(w:World) (tape:Tape) (i:Input),w.os=os∧(w.forCall tape i).Shaped C.prog∧i.vars=[]∧Input.okWide C.prog (w.forCall tape i) .any w.heap.size f i ∧
   s.pre6 enc C.prog fn [] false (w.forCall tape i).memory i.args∧({}:Assume).holds C.prog (lone (Frame.enter C.prog f i.args .normal) [] (w.forCall tape i)))
  (laid:laidOutB C.prog=true) (hread:(fn.params.toList.all fun t=>C.prog.readableRec t&&decide (t<C.prog.types.size))=true)
  (hs:∀(ds:List (DataW H)),ds.length=fn.params.size→s.fn H ds={ results:=[.lit (.bool true)],args:=ds }) (hvars:s.vars=[])
  (hres:fn.resultTypes = #[tb]) (htb:C.prog.underlying tb=some .bool) (hsh:s6 C.prog n fn.params.toList=some shs) (hhas:QG C.prog f ob af)
  (hlaw:∀asv,wT shs asv→a7 C.prog f asv [] (fun r _=>r=.bool true)) :
  ReturnsInHanded {} C os f .any (s.pre6 enc C.prog fn [] false) (s.post enc C.prog fn false true false false):=by
 refine returnsInHanded_of_change (C:=C) own started noInit hfn witness ?_
 intro W base args ds gs before hval hW _ _
 have hW':=hW
 obtain⟨p,q,hA,hV,rfl,_,_⟩:=hW
 rw[hvars]at hV
 obtain⟨rfl,rfl⟩:=trodVars_none hV
 obtain⟨asv,has,hlen,hrel⟩:=EJ (τ:=fun _=>none) (n:=n) fn.params.toList args.toList ds p shs hsh (fun j t v h1 h2=>hval j t v (by simpa using h1) (by simpa using h2)) hA
 obtain⟨fn',c,hfn',hname,hbody,_⟩:=hhas
 have e:fn'=fn:=Option.some.inj (hfn'.symm.trans hfn)
 subst e
 have hlds:ds.length=fn'.params.size:=by
  have:∀(ts:List TypeId) (vs:List Value) (ds:List (DataW H)) (ps:List MemPlace),DataW.TrodAll enc C.prog W 0 (fun _=>true) true ts vs ds ps→ds.length=ts.length:=by
   intro ts
   induction ts with
   |nil=>intro vs ds ps h;obtain⟨_,rfl,_⟩:=trodAll_nil h;rfl
   |cons t ts ih =>
    intro vs ds ps h
    obtain⟨_,_,_,_,_,_,_,rfl,_,_,h2⟩:=trodAll_cons h
    simp[ih _ _ _ h2]
  simpa using this _ _ _ _ hA
 refine(FI hfn hname hbody (by simpa using hlen) (fun i a v h1 h2=>hrel i a v h1 (by simpa using h2)) (hlaw asv has)).mono fun e W' ⟨he,bel⟩=>?_
 subst he
 refine⟨_,rfl,ds,[],_,[],p,[],hW',?_,?_,?_,bel.frame _,fun h=>by cases h⟩
 ·rw[List.append_nil,hs ds hlds,hres]
  exact trodAll_mk1 (shut_bool htb _)
 ·rw[List.append_nil,hs ds hlds]
  refine uC laid bel _ _ _ _ (fun t ht=>?_) hA
  have:=List.all_eq_true.1 hread t ht
  simpa using this
 ·rw[List.append_nil,hs ds hlds,hvars]
  rfl
end
theorem lL{p:Bool×List Sh}{ps:List (Bool×List Sh)}{asv:List a6}(h:wT (p::ps) asv):∃a as',asv=a::as'∧DT p a∧wT ps as':=by
 cases asv with
 |nil=>exact h.elim
 |cons a asv=>exact⟨a,asv,rfl,h.1,h.2⟩
theorem L6{asv:List a6}(h:wT [] asv):asv=[]:=by
 cases asv with
 |nil=>rfl
 |cons a asv=>exact h.elim
theorem wY{k:IntKind}{a:a6}(h:DT (false,[.int k]) a):∃n,a=.int k n∧(Lit.int k n).wf=true:=by
 obtain⟨s,h1,h2⟩:=h
 cases h1
 cases h2 with
 |int _ n h=>exact⟨n,rfl,h⟩
def vA:List Sh→List a6→Prop
 |[],[]=>True
 |s::ss,a::asv=>rA s a∧vA ss asv
 |_,_=>False
theorem AY:∀(l:List Sh) (asv:List a6),asv.length=l.length→(∀(i:Nat) (s:Sh) (c:a6),l[i]?=some s→asv[i]?=some c→rA s c)→vA l asv
 |[],[],_,_=>trivial
 |s::l,a::asv,hl,h=>⟨h 0 s a rfl rfl,AY l asv (by simpa using hl) fun i s c h1 h2=>h (i+1) s c (by simpa using h1) (by simpa using h2)⟩
 |[],_::_,hl,_=>by simp at hl
 |_::_,[],hl,_=>by simp at hl
theorem MN{fs:List Sh}{a:a6}(h:rA (.slice fs) a):∃es,a=.list false fs.length es∧es.length≤maxLen∧∀e∈es,vA fs e:=by
 cases h with
 |list _ es hb hl h=>exact⟨es,rfl,hb,fun e he=>AY _ _ (hl e he) fun i s c h1 h2=>h e i s c he h1 h2⟩
theorem HY{fs:List Sh}{a:a6}(h:DT (false,[.slice fs]) a):∃es,a=.list false fs.length es∧es.length≤maxLen∧∀e∈es,vA fs e:=by
 obtain⟨s,h1,h2⟩:=h
 cases h1
 exact MN h2
theorem BU{α β:Type}{g:α→β}{W:α→Prop}:∀(l:List β),(∀x∈l,∃a,x=g a∧W a)→∃m:List α,l=m.map g∧∀a∈m,W a
 |[],_=>⟨[],rfl,by simp⟩
 |x::l,h=>by
  obtain⟨a,rfl,ha⟩:=h x (by simp)
  obtain⟨m,rfl,hm⟩:=BU l fun y hy=>h y (by simp[hy])
  exact⟨a::m,rfl,fun b hb=>by rcases List.mem_cons.1 hb with rfl|hb;exact ha;exact hm b hb⟩
theorem I2{k:IntKind}{e:List a6}(h:vA [.int k] e):∃n,e=[.int k n]∧(Lit.int k n).wf=true:=by
 match e,h with
 |[a],h =>
  obtain⟨h1,_⟩:=h
  cases h1
  rename_i n hn
  exact⟨n,rfl,hn⟩
theorem AT{k:IntKind}{a:a6}(h:DT (false,[.slice [.int k]]) a):∃l:List Int,a=.list false 1 (l.map fun n=>[.int k n])∧l.length≤maxLen∧∀n∈l,(Lit.int k n).wf=true:=by
 obtain⟨es,rfl,hl,h⟩:=HY h
 obtain⟨m,rfl,hm⟩:=BU (g:=fun n=>[a6.int k n]) (W:=fun n=>(Lit.int k n).wf=true) es fun e he=>I2 (h e he)
 exact⟨m,rfl,by simpa using hl,hm⟩
attribute [local irreducible] a7
structure V where
 kind:Int
 num:Int
 str:ByteArray
def iS(v:V):List a6:=[.int .i64 v.kind,.int .i64 v.num,.str v.str]
def c7(v:V):Bool :=
 if v.kind=0 then v.num==0&&v.str.data.toList==[]
 else if v.kind=1 then(v.num==0||v.num==1)&&v.str.data.toList==[]
 else if v.kind=2 then decide (-1073741824≤v.num)&&decide (v.num≤1073741824)&&v.str.data.toList==[]
 else if v.kind=3 then v.num==0&&decide (v.str.size≤64)
 else if v.kind=4 then decide (0≤v.num)&&decide (v.num≤575999999)&&v.str.data.toList==[]
 else false
set_option maxRecDepth 20000 in
theorem j0(v:V)(H:List aB):
  a7 pr 121 [.agg (iS v)] H (fun r H'=>r=.bool (c7 v)∧H'=H):=by
 refine a7.pure rfl (aA k121.has ?_)
 repeat'((conv=>whnf);refine aE (fun _=>?_) (fun _=>?_))
 all_goals(conv=>whnf)
 all_goals refine iB ?_
 all_goals(simp_all [c7,QW];try omega)
set_option maxRecDepth 20000 in
theorem i4(v:V)(H:List aB):
  a7 pr 127 [.agg (iS v)] H (fun r H'=>r=.bool (c7 v)∧H'=H):=by
 refine a7.pure rfl (aA k127.has ?_)
 repeat'((conv=>whnf);refine aE (fun _=>?_) (fun _=>?_))
 all_goals(conv=>whnf)
 all_goals refine iB ?_
 all_goals(simp_all [c7,QW];try omega)
def vO(a b:Int):Int:=if a<b then -1 else if b<a then 1 else 0
def DE(a b:List UInt8):Int:=if Op.bytesLess a b then -1 else if a=b then 0 else 1
theorem rW(a:Int)(H:List aB):
  a7 pr 288 [.int .i64 a] H (fun r H'=>r=.bool false∧H'=H):=by
 refine a7.pure rfl (aA k288.has ?_)
 conv=>whnf
 exact iB (by simp)
theorem nO(a:ByteArray)(H:List aB):
  a7 pr 255 [.str a] H (fun r H'=>r=.bool false∧H'=H):=by
 refine a7.pure rfl (aA k255.has ?_)
 conv=>whnf
 exact iB (by simp)
theorem mA(a b:Int)(H:List aB):
  a7 pr 257 [.int .i64 a,.int .i64 b] H (fun r H'=>r=.int .i64 (vO a b)∧H'=H):=by
 refine a7.pure rfl (aA k257.has ?_)
 conv=>whnf
 refine(rW _ _).use ?_
 conv=>whnf
 refine(rW _ _).use ?_
 repeat'((conv=>whnf);refine aE (fun _=>?_) (fun _=>?_))
 all_goals(conv=>whnf)
 all_goals refine cZ ?_
 all_goals(simp_all [vO];try omega)
theorem pO(a b:ByteArray)(H:List aB):
  a7 pr 258 [.str a,.str b] H (fun r H'=>r=.int .i64 (DE a.data.toList b.data.toList)∧H'=H):=by
 refine a7.pure rfl (aA k258.has ?_)
 conv=>whnf
 refine(nO _ _).use ?_
 conv=>whnf
 refine(nO _ _).use ?_
 repeat'((conv=>whnf);refine aE (fun _=>?_) (fun _=>?_))
 all_goals(conv=>whnf)
 all_goals refine cZ ?_
 all_goals(simp_all [DE])
def MA:List Int→Int
 |[]=>0
 |x::xs=>if x=0 then MA xs else x
def iT(a b:V):Int:=MA [vO a.kind b.kind,vO a.num b.num,DE a.str.data.toList b.str.data.toList]
theorem JB(l:List Int)(k:Nat)(h:∀j,j<k→l.getD j 0=0):MA l=MA (l.drop k):=by
 induction k generalizing l with
 |zero=>rfl
 |succ k ih =>
  cases l with
  |nil=>rfl
  |cons x xs =>
   have h0:=h 0 (by omega)
   simp at h0
   subst h0
   simp only[MA,if_true,List.drop_succ_cons]
   exact ih xs fun j hj=>by have:=h (j+1) (by omega);simpa using this
theorem getElem?_getD{l:List Int}{k:Nat}(h:k<l.length):l[k]?=some (l.getD k 0):=by
 rw[List.getD_eq_getElem?_getD,List.getElem?_eq_getElem h];rfl
theorem W9(l:List Int)(k:Nat)(h:∀j,j<k→l.getD j 0=0)(hk:k<l.length)(hne:l.getD k 0≠0):MA l=l.getD k 0:=by
 rw[JB l k h,List.drop_eq_getElem_cons hk]
 rw[List.getD_eq_getElem?_getD,List.getElem?_eq_getElem hk]at hne ⊢
 simp only[Option.getD_some]at hne ⊢
 simp[MA,hne]
theorem U4(l:List Int)(h:∀j,j<l.length→l.getD j 0=0):MA l=0:=by
 rw[JB l l.length h,List.drop_length];rfl
set_option maxRecDepth 20000 in
theorem LB(l:List Int)(hl:l.length≤1000000)(H:List aB):
  a7 pr 256 [.list true 1 (l.map fun x=>[.int .i64 x])] H (fun r H'=>r=.int .i64 (MA l)∧H'=H):=by
 refine a7.pure rfl (aA k256.has ?_)
 conv=>whnf
 refine⟨fun n ρ H=>∃k:Nat,k+n=l.length∧(∀j,j<k→l.getD j 0=0)∧H=[] ∧
  Sv 18 [(0,.list true 1 (l.map fun x=>[.int .i64 x])),(2,.int .i64 0),(3,.int .i64 0),(6,.list true 1 (l.map fun x=>[.int .i64 x])),(7,.int .i64 (l.map fun x=>[a6.int .i64 x]).length),(8,.int .i64 k)] ρ,l.length,[],⟨0,by simp,by simp,rfl,Sv.intro rfl ⟨rfl,rfl,rfl,rfl,rfl,rfl,trivial⟩⟩,?_⟩
 rintro n ρ H ⟨k,hk,hz,rfl,d,rfl⟩
 conv=>whnf
 refine aE (fun hlt=>?_) (fun hlt=>?_)
 ·simp at hlt
  conv=>whnf
  refine⟨by omega,?_⟩
  conv=>whnf
  refine b8 (e:=[a6.int .i64 (l.getD k 0)]) ?_ ?_
  ·rw[List.getElem?_map,getElem?_getD (by omega)];rfl
  (conv=>whnf);refine aE (fun hne=>?_) (fun hne=>?_)
  ·conv=>whnf
   refine cZ ?_
   rw[W9 l k hz (by omega) (by simpa using hne)]
  ·conv=>whnf
   have e:=aW ((k:Int)+1) (by omega) (by omega)
   refine⟨n-1,by omega,Gp.keep rfl ?_ fun ρ1 h=>⟨k+1,by omega,fun j hj=>?_,rfl,h⟩⟩
   ·exact⟨rfl,rfl,rfl,rfl,rfl,aN e,trivial⟩
   rcases Nat.lt_succ_iff_lt_or_eq.1 hj with h|rfl
   ·exact hz j h
   ·simpa using hne
 ·conv=>whnf
  refine cZ ?_
  simp at hlt
  rw[U4 l fun j hj=>hz j (by omega)]
theorem qD(a b:Int)(H:List aB):
  a7 pr 172 [.int .i64 a,.int .i64 b] H (fun r H'=>r=.int .i64 (vO a b)∧H'=H):=by
 refine a7.pure rfl (aA k172.has ?_)
 repeat'((conv=>whnf);refine aE (fun _=>?_) (fun _=>?_))
 all_goals(conv=>whnf)
 all_goals refine cZ ?_
 all_goals(simp_all [vO];try omega)
set_option maxRecDepth 20000 in
theorem v6(a b:V)(H:List aB):
  a7 pr 219 [.agg (iS a),.agg (iS b)] H (fun r H'=>r=.int .i64 (iT a b)∧H'=H):=by
 refine a7.pure rfl (aA k219.has ?_)
 conv=>whnf
 refine⟨_,mA a.kind b.kind _,?_⟩
 conv=>whnf
 refine⟨_,mA a.num b.num _,?_⟩
 conv=>whnf
 refine⟨_,pO a.str b.str _,?_⟩
 conv=>whnf
 refine⟨_,LB [_,_,_] (by simp) _,?_⟩
 conv=>whnf
 exact cZ rfl
set_option maxRecDepth 20000 in
theorem w5(a b:V)(H:List aB):
  a7 pr 171 [.agg (iS a),.agg (iS b)] H (fun r H'=>r=.int .i64 (iT a b)∧H'=H):=by
 refine a7.pure rfl (aA k171.has ?_)
 repeat'((conv=>whnf);first|refine aE (fun _=>?_) (fun _=>?_)|refine a7.use (qD _ _ _) ?_)
 all_goals(conv=>whnf)
 all_goals refine cZ ?_
 all_goals simp_all [iT,MA,DE]
def bC(l:List Int):List (List a6):=l.map fun n=>[.int .u8 n]
def u8(n:Int):Int:=IntKind.u8.wrap n
def w4(n:Int):List Int:=[u8 (n.fdiv (2 ^ 24)),u8 (n.fdiv (2 ^ 16)),u8 (n.fdiv (2 ^ 8)),u8 n]
theorem c9(a b:List Int):bC (a++b)=bC a++bC b:=List.map_append
theorem aD(l:List Int):(bC l).length=l.length:=List.length_map ..
theorem bK{n:Nat}(h:n≤1000000000):n≤aQ:=Nat.le_trans h (by show _≤1099511627776;omega)
theorem fG{n:Nat}(h:n≤1000000000):n*1≤aQ:=bK (by omega)
theorem a7.retH{P:Program}{f:FuncId}{args:List a6}{H H1:List aB}{R:a6}{Q:a6→List aB→Prop}(h:a7 P f args H (fun r H'=>r=R∧H'=H1))(hq:Q R H1):a7 P f args H Q :=
 h.mono fun r H' ⟨h1,h2⟩=>by subst h1 h2;exact hq
set_option maxRecDepth 20000 in
theorem Q4(H:List aB)(id:Nat)(es:List (List a6))(n:Int)(ho:H[id]?=some (.arr 1 es))(hl:es.length≤1000000):
  a7 pr 122 [.sl id es.length 0 es.length,.int .i64 n] H (fun r H'=>r=.sl id (es++bC (w4 n)).length 0 (es++bC (w4 n)).length∧H'=H.set id (.arr 1 (es++bC (w4 n)))):=by
 refine aA k122.has ?_
 repeat'((conv=>whnf);first|refine And.intro (by decide) ?_|refine b8 ho ?_|refine b4 (Nat.beq_refl _) ?_)
 conv=>whnf
 refine And.intro ⟨?_,?_,rfl,rfl⟩ ?_
 ·exact fG (by simp;omega)
 ·exact bK (by simp;omega)
 rw[fO]
 conv=>whnf
 exact⟨rfl,rfl⟩
def dT(s:ByteArray):List Int:=s.data.toList.map fun b=>(b.toNat:Int)
def jM(v:V):List Int :=
 u8 v.kind::(if v.kind=1 then[u8 v.num]else if v.kind=2 then w4 (IntKind.i64.wrap (v.num+1073741824))else if v.kind=4 then w4 v.num else if v.kind=3 then u8 v.str.size::dT v.str else[])
def m9(rs:List V)(k:Nat):List Int:=u8 rs.length::(rs.take k).flatMap jM
def eY(rs:List V):List Int:=u8 rs.length::rs.flatMap jM
def x9(rs:List V):a6 :=
 if 12<rs.length then .tuple [.nil,.int .i64 2]else if rs.all c7 then .tuple [.list false 1 (bC (eY rs)),.int .i64 0]else .tuple [.nil,.int .i64 8]
theorem R9(v:V)(h:c7 v=true):(jM v).length≤66:=by
 unfold jM c7 at *
 split<;>(try split)<;>(try split)<;>(try split)<;>simp_all [w4,dT]
theorem F1(v:V)(h:c7 v=true):(bU v.str.data.toList).length≤64:=by
 simp only[bU,List.length_map]
 unfold c7 at h
 split at h<;>(try split at h)<;>(try split at h)<;>(try split at h)<;>(try split at h)<;>simp_all
theorem B5(rs:List V)(k:Nat)(h:(rs.take k).all c7=true):(m9 rs k).length≤1+66*k:=by
 simp only[m9,List.length_cons]
 have:∀l:List V,l.all c7=true→(l.flatMap jM).length≤66*l.length:=by
  intro l hl
  induction l with
  |nil=>simp
  |cons v l ih =>
   simp only[List.all_cons,Bool.and_eq_true]at hl
   have:=R9 v hl.1
   have:=ih hl.2
   simp only[List.flatMap_cons,List.length_append,List.length_cons];omega
 have:=this _ h
 have h2:(rs.take k).length≤k:=List.length_take_le ..
 have h3:66*(rs.take k).length≤66*k:=Nat.mul_le_mul_left _ h2
 omega
theorem dQ(l:List Int):bG (bC l)=true:=by simp[bG,bC,a6.isPure]
theorem eR{H1:List aB}{n:Nat}{ids:List Nat}{k:IntKind}{a b:Int}(h:a=b):dV H1 n ids (.int k a) (.int k b):=by subst h;exact .closed _ rfl
theorem dP{H1:List aB}{n:Nat}{ids:List Nat}{a b r s:a6}(h1:dV H1 n ids a r)(h2:dV H1 n ids b s):dV H1 n ids (.tuple [a,b]) (.tuple [r,s]):=by
 refine .tuple _ _ rfl fun i v t h3 h4=>?_
 rcases i with _|_|i
 ·cases h3;cases h4;exact h1
 ·cases h3;cases h4;exact h2
 ·simp at h3
theorem zY.of_eq{H:List aB}{ids:List Nat}{esz:Nat}{es es1:List (List a6)}(he:es=es1)(h:bG es1=true):zY H ids (.arr esz es) (.arr esz es1):=by subst he;exact .same _ _ h
theorem qH{H1:List aB}{n:Nat}{id ep len sz:Nat}{es:List (List a6)}(ho:H1[id]?=some (.arr sz es))(he:ep=es.length)(hl:len=es.length)(hp:bG es=true):dV H1 n [] (.sl id ep 0 len) (.list false sz es):=by
 subst hl he
 have:=dV.frz (n:=n) (ids:=[]) id es.length 0 es.length sz es ho rfl hp (by simp)
 rwa [List.drop_zero,List.take_length]at this
def YF(ex:Bool)(rs:List V)(k:Nat):List (Nat×a6):=[(4,.sl 0 (bC (m9 rs k)).length 0 (bC (m9 rs k)).length),(14,.list ex 3 (rs.map iS)),(15,.int .i64 (rs.map iS).length),(16,.int .i64 k)]
set_option maxRecDepth 20000 in
theorem IF(ex:Bool)(rs:List V)(H:List aB):
  a7 pr 70 [.list ex 3 (rs.map iS)] H (fun r H'=>r=x9 rs∧H'=H):=by
 refine a7.pure rfl (aA k70.has ?_)
 (conv=>whnf);refine aE (fun hlt=>?_) (fun hlt=>?_)
 ·conv=>whnf
  simp at hlt
  rw[show x9 rs=.tuple [.nil,.int .i64 2]from if_pos (by omega)]
  exact dP (.closed _ rfl) (.closed _ rfl)
 conv=>whnf
 simp at hlt
 refine⟨fun n ρ H=>∃k:Nat,k+n=rs.length∧(rs.take k).all c7=true∧H=[.arr 1 (bC (m9 rs k))] ∧
  Sv 67 (YF ex rs k) ρ,rs.length,[],⟨0,by simp,by simp,?_,?_⟩,?_⟩
 ·simp[m9,bC,u8]
 ·exact Sv.intro rfl ⟨rfl,rfl,rfl,rfl,trivial⟩
 rintro n ρ H ⟨k,hk,hz,rfl,d,rfl⟩
 conv=>whnf
 refine aE (fun hlt2=>?_) (fun hlt2=>?_)
 ·simp at hlt2
  conv=>whnf
  refine⟨by omega,?_⟩
  conv=>whnf
  refine b8 (e:=iS rs[k]) ?_ ?_
  ·rw[List.getElem?_map,List.getElem?_eq_getElem (by omega)];rfl
  conv=>whnf
  have hb:(bC (m9 rs k)).length≤1000:=by rw[aD];exact Nat.le_trans (B5 rs k hz) (by omega)
  have hsnoc:rs.take (k+1)=rs.take k++[rs[k]]:=by rw[List.take_add_one,List.getElem?_eq_getElem (by omega)];rfl
  have hmem:rs[k]∈rs:=List.getElem_mem _
  generalize rs[k]=v at hsnoc hmem ⊢
  refine(j0 v _).use ?_
  (conv=>whnf);refine aE (fun hv=>?_) (fun hv=>?_)
  ·conv=>whnf
   have hall:rs.all c7=false:=by
    apply Bool.eq_false_iff.2
    intro hall
    rw[List.all_eq_true.1 hall v hmem]at hv
    cases hv
   rw[show x9 rs=.tuple [.nil,.int .i64 8] by unfold x9;rw[if_neg (by omega),hall];rfl]
   exact dP (.closed _ rfl) (.closed _ rfl)
  have hz2:(rs.take (k+1)).all c7=true:=by rw[hsnoc];simp at hv;simp[hz,hv]
  have hsz:(bU v.str.data.toList).length≤64:=F1 v (by simpa using hv)
  have hkey:bC (m9 rs (k+1))=bC (m9 rs k)++bC (jM v):=by rw[←c9];congr 1;simp[m9,hsnoc]
  have e1:=aW ((k:Int)+1) (by omega) (by omega)
  repeat'((conv=>whnf);first
   |refine b4 (Nat.beq_refl _) ?_
   |refine And.intro ⟨fG (by simp;omega),bK (by simp;omega),rfl,rfl⟩ ?_
   |refine aE (fun _=>?_) (fun _=>?_)
   |refine a7.retH (Q4 _ _ _ _ (by rfl) (by simp;omega)) ?_)
  all_goals(conv=>whnf)
  all_goals refine⟨n-1,by omega,Gp.one 0 1 (bC (m9 rs (k+1))) ?_ (dQ _) rfl ?_ fun ρ1 h=>⟨k+1,by omega,hz2,rfl,h⟩⟩
  all_goals try(refine⟨kI (k:=0) rfl rfl ?_ ?_,.closed _ rfl,.closed _ rfl,eR e1,trivial⟩)
  all_goals(rw[hkey];simp_all [jM,bC,u8,w4,dT,bU])
 ·conv=>whnf
  simp at hlt2
  have e:rs.take k=rs:=List.take_of_length_le hlt2
  rw[e]at hz
  have e2:m9 rs k=eY rs:=by simp[m9,eY,e]
  rw[show x9 rs=.tuple [.list false 1 (bC (eY rs)),.int .i64 0] by unfold x9;rw[if_neg (by omega),hz];rfl,e2]
  have:=dV.frz (H1:=[.arr 1 (bC (eY rs))]) (n:=0) (ids:=[]) 0 (bC (eY rs)).length 0 (bC (eY rs)).length 1 (bC (eY rs)) rfl rfl (dQ _) (by simp)
  rw[List.drop_zero,List.take_length]at this
  exact dP this (.closed _ rfl)
def c6(a b:Int):Int:=IntKind.i64.wrap (BitVec.ofInt IntKind.i64.bits a &&& BitVec.ofInt IntKind.i64.bits b).toNat
theorem mV(a:Int)(k:Nat)(hk:k≤62):c6 a (2 ^ k-1)=a % 2 ^ k:=by
 have h1:BitVec.ofInt 64 ((2:Int) ^ k-1)=BitVec.ofNat 64 (2 ^ k-1):=by
  have h2:1≤2 ^ k:=Nat.one_le_two_pow
  rw[show((2:Int) ^ k-1)=((2 ^ k-1:Nat):Int) by rw[Int.ofNat_sub h2];simp,BitVec.ofInt_natCast]
 have h3:(2:Nat) ^ k≤2 ^ 62:=Nat.pow_le_pow_right (by omega) hk
 have h4:1≤2 ^ k:=Nat.one_le_two_pow
 show IntKind.i64.wrap ((BitVec.ofInt 64 a &&& BitVec.ofInt 64 (2 ^ k-1)).toNat:Int)=_
 rw[h1,BitVec.toNat_and,BitVec.toNat_ofNat,Nat.mod_eq_of_lt (a:=2 ^ k-1) (by omega),Nat.and_two_pow_sub_one_eq_mod,BitVec.toNat_ofInt]
 have h5:((a % ((2 ^ 64:Nat):Int)).toNat % 2 ^ k:Nat)<2 ^ k:=Nat.mod_lt _ (by omega)
 rw[aW _ (by omega) (by omega)]
 have h6:0≤a % ((2 ^ 64:Nat):Int):=Int.emod_nonneg _ (by omega)
 rw[Int.natCast_emod,Int.toNat_of_nonneg h6]
 simp only[Int.natCast_pow]
 have:((2:Nat):Int) ^ 64=2 ^ k*2 ^ (64-k):=by rw[←Int.pow_add];congr 1;omega
 rw[show((2:Nat):Int) ^ 64=((2:Int)) ^ k*2 ^ (64-k)from this]
 exact Int.emod_emod_of_dvd a ⟨_,rfl⟩
theorem rF(a:Int):c6 a 65535=a % 65536:=mV a 16 (by omega)
theorem UU(a:Int):c6 a 1=a % 2:=mV a 1 (by omega)
theorem UV(a:Int):c6 a 3=a % 4:=mV a 2 (by omega)
theorem VJ(a:Int):c6 a 15=a % 16:=mV a 4 (by omega)
theorem VK(a:Int):c6 a 31=a % 32:=mV a 5 (by omega)
def iC(l:List Int):List (List a6):=l.map fun n=>[.int .i64 n]
theorem cA(l:List Int):(iC l).length=l.length:=List.length_map ..
theorem BL{l:List Int}{k:Nat}(h:k<l.length):(iC l)[k]?=some [.int .i64 (l.getD k 0)]:=by
 rw[iC,List.getElem?_map,getElem?_getD h];rfl
def DX(l:List Int)(i:Int):Int :=
 if l.length=0 then c6 i 65535 else IntKind.i64.wrap (c6 (l.getD ((c6 i 65535).tmod l.length).toNat 0) 65535+IntKind.i64.wrap ((c6 i 65535).tdiv l.length))
set_option maxRecDepth 20000 in
theorem jY(ex:Bool)(l:List Int)(i:Int)(H:List aB):
  a7 pr 88 [.list ex 1 (iC l),.int .i64 i] H (fun r H'=>r=.int .i64 (DX l i)∧H'=H):=by
 refine a7.pure rfl (aA k88.has ?_)
 (conv=>whnf);refine aE (fun h0=>?_) (fun h0=>?_)
 ·conv=>whnf
  refine cZ ?_
  simp[cA]at h0
  simp[DX,h0,c6]
 ·simp[cA]at h0
  have hb:=rF i
  have h1:0≤(c6 i 65535).tmod l.length:=by rw[hb];exact Int.tmod_nonneg _ (by omega)
  have h2:(c6 i 65535).tmod l.length<l.length:=Int.tmod_lt_of_pos _ (by have:=List.length_pos_iff.2 h0;omega)
  conv=>whnf
  refine And.intro (by simpa[cA]using h0) ?_
  conv=>whnf
  refine And.intro (by simp only[cA];exact h1) ?_
  conv=>whnf
  refine b8 (e:=[.int .i64 (l.getD ((c6 i 65535).tmod l.length).toNat 0)]) ?_ ?_
  ·show(iC l)[((c6 i 65535).tmod ((iC l).length:Nat)).toNat]?=_
   rw[cA]
   exact BL (by omega)
  conv=>whnf
  refine And.intro (by simpa[cA]using h0) ?_
  conv=>whnf
  refine cZ ?_
  simp[DX,h0,c6,cA]
def wH(a:Int)(k:Nat):Int:=a.fdiv (2 ^ (min k IntKind.i64.bits))
theorem AG(a:Int)(k:Nat)(hk:k≤64):wH a k=a / 2 ^ k:=by
 unfold wH
 rw[Nat.min_eq_left (show k≤IntKind.i64.bits from hk)]
 exact Int.fdiv_eq_ediv_of_nonneg _ (Int.pow_nonneg (by omega))
def F3(n:Int):Int:=IntKind.i64.wrap n
def VX(n:Int):Int :=
 if(n / 256) % 16=0 then[0,1,575999999,575999998,1439,1440].getD (n % 6).toNat 0
 else 144000+(n / 8) % 4*1440+n % 7*200+(n / 32) % 2*1439-600
def pZ(n:Int):Int:=VX (n % 65536)
theorem LR(l:List Int)(k:Nat)(h:k<l.length):(l.map fun n=>[a6.int .i64 n])[k]?=some [.int .i64 (l.getD k 0)]:=by
 rw[List.getElem?_map,getElem?_getD h];rfl
set_option maxRecDepth 20000 in
theorem HP(n:Int)(H:List aB):
  a7 pr 282 [.int .i64 n] H (fun r H'=>r=.int .i64 (pZ n)∧H'=H):=by
 refine a7.pure rfl (aA k282.has ?_)
 have hn:=rF n
 have e8:=AG (c6 n 65535) 8 (by omega)
 have e3:=AG (c6 n 65535) 3 (by omega)
 have e5:=AG (c6 n 65535) 5 (by omega)
 have a8:=VJ (wH (c6 n 65535) 8)
 have a3:=UV (wH (c6 n 65535) 3)
 have a5:=UU (wH (c6 n 65535) 5)
 rw[e8]at a8;rw[e3]at a3;rw[e5]at a5
 rw[hn]at a8 a3 a5
 have m6:(c6 n 65535).tmod 6=(n % 65536) % 6:=by rw[hn];exact Int.tmod_eq_emod_of_nonneg (by omega)
 have m7:(c6 n 65535).tmod 7=(n % 65536) % 7:=by rw[hn];exact Int.tmod_eq_emod_of_nonneg (by omega)
 (conv=>whnf);refine And.intro (by decide) ?_
 (conv=>whnf);refine aE (fun h0=>?_) (fun h0=>?_)
 ·replace h0:(c6 (wH (c6 n 65535) 8) 15==0)=true:=h0
  rw[e8,hn,a8]at h0
  simp at h0
  (conv=>whnf);refine And.intro (by decide) ?_
  (conv=>whnf);refine And.intro (show 0≤(c6 n 65535).tmod 6 by omega) ?_
  conv=>whnf
  refine b8 (e:=[.int .i64 (pZ n)]) ?_ ?_
  ·show(([0,1,575999999,575999998,1439,1440]:List Int).map fun n=>[a6.int .i64 n])[((c6 n 65535).tmod 6).toNat]?=_
   rw[m6,LR _ _ (by simp;omega)]
   simp[pZ,VX,h0]
  conv=>whnf
  exact cZ rfl
 ·replace h0:(c6 (wH (c6 n 65535) 8) 15==0)=false:=h0
  rw[e8,hn,a8]at h0
  simp at h0
  repeat'((conv=>whnf);refine And.intro (by decide) ?_)
  conv=>whnf
  refine cZ ?_
  show F3 (F3 (F3 (F3 (144000+F3 (c6 (wH (c6 n 65535) 3) 3*1440))+F3 ((c6 n 65535).tmod 7*200))+F3 (c6 (wH (c6 n 65535) 5) 1*1439))-600)=pZ n
  rw[e3,e5,hn,a3,a5]
  rw[hn]at m7
  rw[m7]
  have q:¬(n % 65536 / 256) % 16=0:=by simpa using h0
  simp only[F3,pZ,VX]
  rw[if_neg q]
  have b3:0≤n % 65536 / 2 ^ 3 % 4∧n % 65536 / 2 ^ 3 % 4≤3:=by omega
  have b5:0≤n % 65536 / 2 ^ 5 % 2∧n % 65536 / 2 ^ 5 % 2≤1:=by omega
  have b7:0≤n % 65536 % 7∧n % 65536 % 7≤6:=by omega
  rw[aW (n % 65536 / 2 ^ 3 % 4*1440) (by omega) (by omega),aW (n % 65536 % 7*200) (by omega) (by omega),aW (n % 65536 / 2 ^ 5 % 2*1439) (by omega) (by omega)]
  rw[aW (144000+_) (by omega) (by omega),aW (_+n % 65536 % 7*200) (by omega) (by omega),aW (_+n % 65536 / 2 ^ 5 % 2*1439) (by omega) (by omega),aW _ (by omega) (by omega)]
  rfl
def WM(n:Int):ByteArray:=[bs [97],bs [98],bs [99],bs [],bs [105,116,39,115],bs [97,32,98]].getD (n % 6).toNat (bs [])
def LW(n:Int):Int:=if(n / 256) % 32=0 then 1073741824-n % 2 else if(n / 256) % 32=1 then n % 4-1073741824 else n % 7-2
def oJ(kind n:Int):V :=
 if kind=1 then⟨1,(n % 65536) % 2,bs []⟩else if kind=2 then⟨2,LW (n % 65536),bs []⟩else if kind=3 then⟨3,0,WM (n % 65536)⟩else if kind=4 then⟨4,pZ (n % 65536),bs []⟩else⟨0,0,bs []⟩
theorem PA{H1:List aB}{n:Nat}{ids:List Nat}{a b:Int}{s:ByteArray}{v:V}(h1:a=v.kind)(h2:b=v.num)(h3:s=v.str):dV H1 n ids (.agg [.int .i64 a,.int .i64 b,.str s]) (.agg (iS v)):=by
 subst h1 h2 h3;exact .closed _ rfl
set_option maxRecDepth 20000 in
theorem KX(k n:Int)(H:List aB):
  a7 pr 246 [.int .i64 k,.int .i64 n] H (fun r H'=>r=.agg (iS (oJ k n))∧H'=H):=by
 refine a7.pure rfl (aA k246.has ?_)
 have hn:=rF n
 have e8:=AG (c6 n 65535) 8 (by omega)
 have a8:=VK (wH (c6 n 65535) 8)
 have a1:=UU (c6 n 65535)
 have a3:=UV (c6 n 65535)
 rw[e8]at a8
 rw[hn]at a8 a1 a3
 have m6:(c6 n 65535).tmod 6=(n % 65536) % 6:=by rw[hn];exact Int.tmod_eq_emod_of_nonneg (by omega)
 have m7:(c6 n 65535).tmod 7=(n % 65536) % 7:=by rw[hn];exact Int.tmod_eq_emod_of_nonneg (by omega)
 (conv=>whnf);refine aE (fun h1=>?_) (fun h1=>?_)
 ·simp at h1
  subst h1
  conv=>whnf
  refine PA (v:=oJ 1 n) rfl ?_ rfl
  show c6 (c6 n 65535) 1=_
  rw[hn,a1];rfl
 simp at h1
 (conv=>whnf);refine aE (fun h2=>?_) (fun h2=>?_)
 ·simp at h2
  subst h2
  (conv=>whnf);refine And.intro (by decide) ?_
  (conv=>whnf);refine And.intro (by decide) ?_
  (conv=>whnf);refine aE (fun h0=>?_) (fun h0=>?_)
  ·replace h0:(c6 (wH (c6 n 65535) 8) 31==0)=true:=h0
   rw[e8,hn,a8]at h0
   conv=>whnf
   refine PA (v:=oJ 2 n) rfl ?_ rfl
   show F3 (1073741824-c6 (c6 n 65535) 1)=LW (n % 65536)
   have h0:n % 65536 / 256 % 32=0:=by simpa using h0
   rw[hn,a1,F3,aW _ (by omega) (by omega),LW,if_pos h0]
  ·replace h0:(c6 (wH (c6 n 65535) 8) 31==0)=false:=h0
   rw[e8,hn,a8]at h0
   have h0:¬n % 65536 / 256 % 32=0:=by simpa using h0
   (conv=>whnf);refine aE (fun h5=>?_) (fun h5=>?_)
   ·replace h5:(c6 (wH (c6 n 65535) 8) 31==1)=true:=h5
    rw[e8,hn,a8]at h5
    have h5:n % 65536 / 256 % 32=1:=by simpa using h5
    conv=>whnf
    refine PA (v:=oJ 2 n) rfl ?_ rfl
    show F3 (c6 (c6 n 65535) 3-1073741824)=LW (n % 65536)
    rw[hn,a3,F3,aW _ (by omega) (by omega),LW,if_neg h0,if_pos h5]
   ·replace h5:(c6 (wH (c6 n 65535) 8) 31==1)=false:=h5
    rw[e8,hn,a8]at h5
    have h5:¬n % 65536 / 256 % 32=1:=by simpa using h5
    conv=>whnf
    refine PA (v:=oJ 2 n) rfl ?_ rfl
    show F3 ((c6 n 65535).tmod 7-2)=LW (n % 65536)
    rw[m7,F3,aW _ (by omega) (by omega),LW,if_neg h0,if_neg h5]
 simp at h2
 (conv=>whnf);refine aE (fun h3=>?_) (fun h3=>?_)
 ·simp at h3
  subst h3
  (conv=>whnf);refine And.intro (by decide) ?_
  (conv=>whnf);refine And.intro (show 0≤(c6 n 65535).tmod 6 by omega) ?_
  conv=>whnf
  refine b8 (e:=[.str (WM (n % 65536))]) ?_ ?_
  ·show(([bs [97],bs [98],bs [99],bs [],bs [105,116,39,115],bs [97,32,98]]).map fun s=>[a6.str s])[((c6 n 65535).tmod 6).toNat]?=_
   rw[m6,List.getElem?_map,List.getElem?_eq_getElem (show(n % 65536 % 6).toNat<_ by simp;omega)]
   simp only[Option.map_some,WM]
   rw[List.getD_eq_getElem?_getD,List.getElem?_eq_getElem (show(n % 65536 % 6).toNat<_ by simp;omega)]
   rfl
  conv=>whnf
  exact PA (v:=oJ 3 n) rfl rfl rfl
 simp at h3
 (conv=>whnf);refine aE (fun h4=>?_) (fun h4=>?_)
 ·simp at h4
  subst h4
  conv=>whnf
  refine a7.use (HP _ _) ?_
  conv=>whnf
  refine PA (v:=oJ 4 n) rfl ?_ rfl
  show pZ (c6 n 65535)=_
  rw[hn];rfl
 simp at h4
 conv=>whnf
 have e:oJ k n=⟨0,0,bs []⟩:=by unfold oJ;rw[if_neg h1,if_neg h2,if_neg h3,if_neg h4]
 rw[e]
 exact .closed _ rfl
def vC(rs:List V):List (List a6):=rs.map iS
theorem b9(l:List V):(vC l).length=l.length:=List.length_map ..
theorem y9(a b:List V):vC (a++b)=vC a++vC b:=List.map_append
theorem l9(l:List V):bG (vC l)=true:=by simp[bG,vC,iS,a6.isPure]
theorem cN{n b:Nat}(h:n≤1000000)(hb:b≤1000000):n*b≤aQ :=
 Nat.le_trans (Nat.mul_le_mul h hb) (by show 1000000*1000000≤1099511627776;omega)
theorem sP{l:List V}{k:Nat}{x:V}(h:l[k]?=some x):(vC l)[k]?=some (iS x):=by
 rw[vC,List.getElem?_map,h];rfl
theorem aY{α:Type}{l:List α}{k:Nat}(h:k<l.length):∃x,l[k]?=some x∧l.drop k=x::l.drop (k+1)∧x∈l :=
 ⟨l[k],List.getElem?_eq_getElem h,List.drop_eq_getElem_cons h,List.getElem_mem h⟩
def bF:List V→List V→Int
 |[],[]=>0
 |[],_::_=>-1
 |_::_,[]=>1
 |x::xs,y::ys=>if iT x y=0 then bF xs ys else iT x y
set_option maxRecDepth 20000 in
theorem wU(g:FuncId)(hg:∀(a b:V) (H:List aB),a7 pr g [.agg (iS a),.agg (iS b)] H (fun r H'=>r=.int .i64 (iT a b)∧H'=H))
  (e1 e2:Bool) (a b:List V) (ha:a.length≤1000000) (H:List aB) :
  a7 pr 218 [.list e1 3 (vC a),.list e2 3 (vC b),.fn g []] H (fun r H'=>r=.int .i64 (bF a b)∧H'=H):=by
 refine a7.pure rfl (aA k218.has ?_)
 conv=>whnf
 refine⟨fun m ρ H=>∃k:Nat,k+m=a.length∧bF (a.drop k) (b.drop k)=bF a b∧H=[] ∧
  Sv 39 [(0,.list e1 3 (vC a)),(1,.list e2 3 (vC b)),(2,.fn g []),(11,.list e1 3 (vC a)),(12,.int .i64 a.length),(13,.int .i64 k)] ρ,a.length,[],?_,?_⟩
 ·exact⟨0,by omega,rfl,rfl,Sv.intro rfl ⟨rfl,rfl,rfl,rfl,aN (by rw[b9]),rfl,trivial⟩⟩
 rintro m ρ H ⟨k,hk,hr,rfl,d,rfl⟩
 (conv=>whnf);refine aE (fun hlt=>?_) (fun hlt=>?_)
 ·simp at hlt
  conv=>whnf
  refine And.intro (by omega) ?_
  obtain⟨x,hx,hda,_⟩:=aY hlt
  rw[hda]at hr
  (conv=>whnf);refine b8 (sP hx) ?_
  (conv=>whnf);refine aE (fun hlt2=>?_) (fun hlt2=>?_)
  ·simp[b9]at hlt2
   conv=>whnf
   rw[List.drop_eq_nil_of_le hlt2]at hr
   exact cZ hr
  simp[b9]at hlt2
  conv=>whnf
  refine And.intro (by omega) ?_
  obtain⟨y,hy,hdb,_⟩:=aY hlt2
  rw[hdb]at hr
  (conv=>whnf);refine b8 (sP hy) ?_
  conv=>whnf
  refine a7.use (hg x y _) ?_
  (conv=>whnf);refine aE (fun hne=>?_) (fun hne=>?_)
  ·conv=>whnf
   refine cZ ?_
   rw[←hr,bF,if_neg (by simpa using hne)]
  ·conv=>whnf
   refine⟨m-1,by omega,Gp.none rfl ?_ fun ρ1 h=>⟨k+1,by omega,?_,rfl,h⟩⟩
   ·exact⟨.closed _ rfl,.closed _ rfl,.closed _ rfl,.closed _ rfl,.closed _ rfl,eR (aW ((k:Int)+1) (by omega) (by omega)),trivial⟩
   ·rw[←hr,bF,if_pos (by simpa using hne)]
 ·simp at hlt
  rw[List.drop_eq_nil_of_le hlt]at hr
  (conv=>whnf);refine aE (fun hlt2=>?_) (fun hlt2=>?_)
  ·simp[b9]at hlt2
   conv=>whnf
   have hdb:b.drop k=b[k]'(by omega)::b.drop (k+1):=List.drop_eq_getElem_cons (by omega)
   rw[hdb]at hr
   exact cZ hr
  ·simp[b9]at hlt2
   conv=>whnf
   rw[List.drop_eq_nil_of_le (by omega)]at hr
   exact cZ hr
theorem qO(e1 e2:Bool)(a b:List V)(ha:a.length≤1000000)(H:List aB):
  a7 pr 167 [.list e1 3 (vC a),.list e2 3 (vC b)] H (fun r H'=>r=.int .i64 (bF a b)∧H'=H):=by
 refine a7.pure rfl (aA k167.has ?_)
 conv=>whnf
 refine a7.use (wU _ (v6) e1 e2 a b ha _) ?_
 conv=>whnf
 exact .closed _ rfl
set_option maxRecDepth 20000 in
theorem kU(e1 e2:Bool)(a b:List V)(ha:a.length≤1000000)(H:List aB):
  a7 pr 125 [.list e1 3 (vC a),.list e2 3 (vC b)] H (fun r H'=>r=.int .i64 (bF a b)∧H'=H):=by
 refine a7.pure rfl (aA k125.has ?_)
 conv=>whnf
 refine⟨fun m ρ H=>∃k:Nat,k+m=a.length∧k≤b.length∧bF (a.drop k) (b.drop k)=bF a b∧H=[] ∧
  Sv 36 [(0,.list e1 3 (vC a)),(1,.list e2 3 (vC b)),(5,.int .i64 k)] ρ,a.length,[],?_,?_⟩
 ·exact⟨0,by omega,by omega,rfl,rfl,Sv.intro rfl ⟨rfl,rfl,rfl,trivial⟩⟩
 rintro m ρ H ⟨k,hk,hkb,hr,rfl,d,rfl⟩
 have fin:a.length≤k∨b.length≤k→vO (vC a).length (vC b).length=bF a b:=by
  intro h
  rw[b9,b9,←hr]
  by_cases h1:a.length≤k
  ·rw[List.drop_eq_nil_of_le h1]
   by_cases h2:b.length≤k
   ·rw[List.drop_eq_nil_of_le h2]
    have:a.length=b.length:=by omega
    simp[vO,bF,this]
   ·rw[show b.drop k=b[k]'(by omega)::b.drop (k+1)from List.drop_eq_getElem_cons (by omega),bF,vO,if_pos (by omega)]
  ·rw[show a.drop k=a[k]'(by omega)::a.drop (k+1)from List.drop_eq_getElem_cons (by omega),List.drop_eq_nil_of_le (show b.length≤k by omega),bF,vO,if_neg (by omega),if_pos (by omega)]
 (conv=>whnf);refine aE (fun hlt=>?_) (fun hlt=>?_)
 ·simp[b9]at hlt
  (conv=>whnf);refine aE (fun hlt2=>?_) (fun hlt2=>?_)
  ·simp[b9]at hlt2
   conv=>whnf
   refine And.intro (by omega) ?_
   obtain⟨x,hx,hda,_⟩:=aY hlt
   obtain⟨y,hy,hdb,_⟩:=aY hlt2
   rw[hda,hdb]at hr
   (conv=>whnf);refine b8 (sP hx) ?_
   conv=>whnf
   refine And.intro (by omega) ?_
   (conv=>whnf);refine b8 (sP hy) ?_
   conv=>whnf
   refine⟨_,w5 x y _,?_⟩
   (conv=>whnf);refine aE (fun hne=>?_) (fun hne=>?_)
   ·conv=>whnf
    refine cZ ?_
    rw[←hr,bF,if_neg (by simpa using hne)]
   ·conv=>whnf
    refine⟨m-1,by omega,Gp.none rfl ?_ fun ρ1 h=>⟨k+1,by omega,by omega,?_,rfl,h⟩⟩
    ·exact⟨.closed _ rfl,.closed _ rfl,eR (aW ((k:Int)+1) (by omega) (by omega)),trivial⟩
    ·rw[←hr,bF,if_pos (by simpa using hne)]
  ·simp[b9]at hlt2
   conv=>whnf
   refine a7.use (qD _ _ _) ?_
   conv=>whnf
   exact cZ (fin (.inr hlt2))
 ·simp[b9]at hlt
  conv=>whnf
  refine a7.use (qD _ _ _) ?_
  conv=>whnf
  exact cZ (fin (.inl hlt))
theorem T6(n:Int):(bC (w4 n)).length=4:=rfl
theorem OR(n:Int)(H:List aB):
  a7 pr 128 [.int .i64 n] H (fun r H'=>r=.list true 1 (bC (w4 n))∧H'=H):=by
 refine a7.pure rfl (aA k128.has ?_)
 repeat'((conv=>whnf);refine And.intro (by decide) ?_)
 conv=>whnf
 exact .closed _ rfl
def YA(rs:List V)(r:a6)(H1:List aB):Prop :=
 (∃e,r=.tuple [.nil,.int .i64 e]∧x9 rs=.tuple [.nil,.int .i64 e]) ∨
 (∃n,n=(bC (eY rs)).length∧r=.tuple [.sl 0 n 0 n,.int .i64 0]∧H1=[.arr 1 (bC (eY rs))]∧x9 rs=.tuple [.list false 1 (bC (eY rs)),.int .i64 0])
set_option maxRecDepth 20000 in
theorem zO(ex:Bool)(rs:List V):
  a7 pr 75 [.list ex 3 (vC rs)] [] (YA rs):=by
 refine aA k75.has ?_
 (conv=>whnf);refine aE (fun hlt=>?_) (fun hlt=>?_)
 ·conv=>whnf
  simp[b9]at hlt
  exact .inl ⟨2,rfl,if_pos (by omega)⟩
 conv=>whnf
 simp[b9]at hlt
 refine⟨fun n ρ H=>∃k:Nat,k+n=rs.length∧(rs.take k).all c7=true∧H=[.arr 1 (bC (m9 rs k))] ∧
  Sv 71 [(0,.list ex 3 (vC rs)),(4,.sl 0 (bC (m9 rs k)).length 0 (bC (m9 rs k)).length),(5,.int .i64 k)] ρ,rs.length,[],⟨0,by simp,by simp,?_,?_⟩,?_⟩
 ·simp[m9,bC,u8,b9]
 ·exact Sv.intro rfl ⟨rfl,rfl,rfl,trivial⟩
 rintro n ρ H ⟨k,hk,hz,rfl,d,rfl⟩
 conv=>whnf
 refine aE (fun hlt2=>?_) (fun hlt2=>?_)
 ·simp[b9]at hlt2
  conv=>whnf
  refine⟨by omega,?_⟩
  obtain⟨v,hv0,hdrop,hmem⟩:=aY hlt2
  (conv=>whnf);refine b8 (sP hv0) ?_
  conv=>whnf
  have hb:(bC (m9 rs k)).length≤1000:=by rw[aD];exact Nat.le_trans (B5 rs k hz) (by omega)
  have hsnoc:rs.take (k+1)=rs.take k++[v]:=by rw[List.take_add_one,hv0];rfl
  refine a7.use (i4 v _) ?_
  (conv=>whnf);refine aE (fun hv=>?_) (fun hv=>?_)
  ·conv=>whnf
   have hall:rs.all c7=false:=by
    apply Bool.eq_false_iff.2
    intro hall
    rw[List.all_eq_true.1 hall v hmem]at hv
    cases hv
   exact .inl ⟨8,rfl,by unfold x9;rw[if_neg (by omega),hall];rfl⟩
  have hz2:(rs.take (k+1)).all c7=true:=by rw[hsnoc];simp at hv;simp[hz,hv]
  have hsz:(bU v.str.data.toList).length≤64:=F1 v (by simpa using hv)
  have hkey:bC (m9 rs (k+1))=bC (m9 rs k)++bC (jM v):=by rw[←c9];congr 1;simp[m9,hsnoc]
  have e1:=aW ((k:Int)+1) (by omega) (by omega)
  repeat'((conv=>whnf);first
   |refine b4 (Nat.beq_refl _) ?_
   |refine And.intro ⟨fG (by simp[T6];omega),bK (by simp[T6];omega),rfl,rfl⟩ ?_
   |refine And.intro (by decide) ?_
   |refine aE (fun _=>?_) (fun _=>?_)
   |refine a7.use (OR _ _) ?_
   |refine And.intro rfl ?_)
  all_goals(conv=>whnf)
  all_goals refine⟨n-1,by omega,Gp.one 0 1 (bC (m9 rs (k+1))) ?_ (dQ _) rfl ?_ fun ρ1 h=>⟨k+1,by omega,hz2,rfl,h⟩⟩
  all_goals try(refine⟨.closed _ rfl,kI (k:=0) rfl rfl ?_ ?_,eR e1,trivial⟩)
  all_goals(rw[hkey];simp_all [jM,bC,u8,w4,dT,bU])
 ·conv=>whnf
  simp[b9]at hlt2
  have e:rs.take k=rs:=List.take_of_length_le hlt2
  rw[e]at hz
  have e2:m9 rs k=eY rs:=by simp[m9,eY,e]
  rw[e2]
  exact .inr ⟨_,rfl,rfl,rfl,by unfold x9;rw[if_neg (by omega),hz];rfl⟩
theorem xP(ex:Bool)(rs:List V)(H:List aB):
  a7 pr 75 [.list ex 3 (vC rs)] H (fun r H'=>r=x9 rs∧H'=H):=by
 refine a7.pure (by simp[a6.closed,a6.isPure]) ((zO ex rs).mono ?_)
 rintro r H1 (⟨e,rfl,h⟩|⟨n,hn,rfl,rfl,h⟩)
 ·rw[h];exact dP (.closed _ rfl) (.closed _ rfl)
 ·rw[h];exact dP (qH rfl hn hn (dQ _)) (.closed _ rfl)
def G8(a b:Int):Int:=IntKind.i64.wrap (BitVec.ofInt IntKind.i64.bits a ||| BitVec.ofInt IntKind.i64.bits b).toNat
theorem lT(m y:Int)(k:Nat)(hm:0≤m)(hy:0≤y)(hyk:y<2 ^ k)(hb:m*2 ^ k+y<2 ^ 62):G8 (m*2 ^ k) y=m*2 ^ k+y:=by
 obtain⟨m,rfl⟩:=Int.eq_ofNat_of_zero_le hm
 obtain⟨y,rfl⟩:=Int.eq_ofNat_of_zero_le hy
 have hyk':y<2 ^ k:=by exact_mod_cast hyk
 have hb':m*2 ^ k+y<2 ^ 62:=by exact_mod_cast hb
 show IntKind.i64.wrap ((BitVec.ofInt 64 ((m:Int)*2 ^ k) ||| BitVec.ofInt 64 (y:Int)).toNat:Int)=_
 have e1:((m:Int)*2 ^ k)=((m*2 ^ k:Nat):Int):=by simp
 rw[e1,BitVec.ofInt_natCast,BitVec.ofInt_natCast,BitVec.toNat_or,BitVec.toNat_ofNat,BitVec.toNat_ofNat,Nat.mod_eq_of_lt (by omega),Nat.mod_eq_of_lt (by omega)]
 have h:=Nat.shiftLeft_add_eq_or_of_lt hyk' m
 rw[Nat.shiftLeft_eq]at h
 rw[←h,aW _ (by omega) (by omega)]
 simp
def fI(l:List Int):Prop:=∀x∈l,0≤x∧x≤255
def num(l:List Int):Int:=l.foldl (fun n x=>n*256+x) 0
theorem jZ{l:List Int}{k:Nat}{x:Int}(h:l[k]?=some x):(bC l)[k]?=some [.int .u8 x]:=by
 rw[bC,List.getElem?_map,h];rfl
set_option maxRecDepth 20000 in
theorem nX(ex:Bool)(l:List Int)(hl:l.length≤6)(hby:fI l)(H:List aB):
  a7 pr 221 [.list ex 1 (bC l)] H (fun r H'=>r=.int .i64 (num l)∧H'=H):=by
 refine a7.pure rfl (aA k221.has ?_)
 conv=>whnf
 refine⟨fun n ρ H=>∃(k:Nat) (acc:Int),k+n=l.length∧0≤acc∧acc<256 ^ k∧(l.drop k).foldl (fun n x=>n*256+x) acc=num l∧H=[] ∧
  Sv 19 [(3,.int .i64 acc),(6,.list ex 1 (bC l)),(7,.int .i64 l.length),(8,.int .i64 k)] ρ,l.length,[],?_,?_⟩
 ·exact⟨0,0,by omega,by omega,by omega,rfl,rfl,Sv.intro rfl ⟨rfl,rfl,aN (by rw[aD]),rfl,trivial⟩⟩
 rintro n ρ H ⟨k,acc,hk,h0,h1,hr,rfl,d,rfl⟩
 (conv=>whnf);refine aE (fun hlt=>?_) (fun hlt=>?_)
 ·simp at hlt
  obtain⟨x,hx,hd,hmem⟩:=aY hlt
  have hxb:=hby x hmem
  conv=>whnf
  refine⟨by omega,?_⟩
  (conv=>whnf);refine b8 (jZ hx) ?_
  (conv=>whnf);refine⟨by decide,?_⟩
  conv=>whnf
  have hp:(256:Int) ^ k≤256 ^ 5:=by
   have:(256:Nat) ^ k≤256 ^ 5:=Nat.pow_le_pow_right (by omega) (by omega)
   exact_mod_cast this
  have hp2:(256:Int) ^ (k+1)=256 ^ k*256:=Int.pow_succ ..
  refine⟨n-1,by omega,Gp.keep rfl ?_ fun ρ1 h=>⟨k+1,acc*256+x,by omega,by omega,by omega,?_,rfl,h⟩⟩
  ·refine⟨aN ?_,rfl,rfl,aN (aW ((k:Int)+1) (by omega) (by omega)),trivial⟩
   show G8 (IntKind.i64.wrap (acc*2 ^ 8)) (IntKind.i64.wrap x)=_
   rw[aW _ (by omega) (by omega),aW x (by omega) (by omega),lT acc x 8 h0 hxb.1 (by omega) (by omega)]
   omega
  ·rw[←hr,hd];rfl
 ·simp at hlt
  conv=>whnf
  rw[List.drop_eq_nil_of_le hlt]at hr
  exact cZ hr
def uB(l:List Int):ByteArray:=⟨(l.map fun n=>UInt8.ofNat n.toNat).toArray⟩
theorem fX:∀(l:List Int),lD (bC l)=some (l.map fun n=>UInt8.ofNat n.toNat)
 |[]=>rfl
 |x::l=>by
  show(lD (bC l)).map (UInt8.ofNat x.toNat::·)=_
  rw[fX l];rfl
theorem lC(l:List Int)(k:Nat):(bC l).drop k=bC (l.drop k):=by simp[bC,List.map_drop]
theorem nI(l:List Int)(k:Nat):(bC l).take k=bC (l.take k):=by simp[bC,List.map_take]
def oC(l:List Int)(k n:Int):V×Int :=
 if l.length=0 then(⟨0,0,bs []⟩,0)
 else if k=0 then(⟨0,0,bs []⟩,1)
 else if k=1∧2≤l.length then(⟨1,n,bs []⟩,2)
 else if k=2∧5≤l.length then(⟨2,num ((l.take 5).drop 1)-1073741824,bs []⟩,5)
 else if k=4∧5≤l.length then(⟨4,num ((l.take 5).drop 1),bs []⟩,5)
 else if k=3∧2≤l.length∧2+n≤l.length then(⟨3,0,uB ((l.take (2+n).toNat).drop 2)⟩,2+n)
 else(⟨0,0,bs []⟩,0)
def dW(l:List Int):V×Int:=oC l (l.getD 0 0) (l.getD 1 0)
theorem LE{l:List Int}{n:Int}(h:1≤l.length):oC l 0 n=(⟨0,0,bs []⟩,1):=by
 unfold oC;rw[if_neg (by omega),if_pos (Eq.refl (0:Int))]
theorem LF{l:List Int}{n:Int}(h:2≤l.length):oC l 1 n=(⟨1,n,bs []⟩,2):=by
 unfold oC;rw[if_neg (by omega),if_neg (by omega),if_pos ⟨Eq.refl (1:Int),h⟩]
theorem LG{l:List Int}{n:Int}(h:5≤l.length):oC l 2 n=(⟨2,num ((l.take 5).drop 1)-1073741824,bs []⟩,5):=by
 unfold oC;rw[if_neg (by omega),if_neg (by omega),if_neg (by omega),if_pos ⟨Eq.refl (2:Int),h⟩]
theorem LJ{l:List Int}{n:Int}(h:5≤l.length):oC l 4 n=(⟨4,num ((l.take 5).drop 1),bs []⟩,5):=by
 unfold oC;rw[if_neg (by omega),if_neg (by omega),if_neg (by omega),if_neg (by omega),if_pos ⟨Eq.refl (4:Int),h⟩]
theorem LH{l:List Int}{n:Int}(h:2≤l.length)(h2:2+n≤l.length):oC l 3 n=(⟨3,0,uB ((l.take (2+n).toNat).drop 2)⟩,2+n):=by
 unfold oC;rw[if_neg (by omega),if_neg (by omega),if_neg (by omega),if_neg (by omega),if_neg (by omega),if_pos ⟨Eq.refl (3:Int),h,h2⟩]
theorem jH{l:List Int}{k n:Int}(h0:k≠0)(h1:¬(k=1∧2≤l.length))(h2:¬(k=2∧5≤l.length))(h4:¬(k=4∧5≤l.length))(h3:¬(k=3∧2≤l.length∧2+n≤l.length)):oC l k n=(⟨0,0,bs []⟩,0):=by
 unfold oC
 by_cases h:l.length=0
 ·rw[if_pos h]
 ·rw[if_neg h,if_neg h0,if_neg h1,if_neg h2,if_neg h4,if_neg h3]
theorem lF{l:List Int}{k:Nat}{x:Int}(h:l[k]?=some x):l.getD k 0=x:=by rw[List.getD_eq_getElem?_getD,h];rfl
theorem tB(l:List Int)(hby:fI l)(hl:l.length≤4):0≤num l∧num l≤4294967295:=by
 match l,hl,hby with
 |[],_,_=>decide
 |[a],_,h=>have:=h a (by simp);simp[num];omega
 |[a,b],_,h=>have:=h a (by simp);have:=h b (by simp);simp[num];omega
 |[a,b,c],_,h=>have:=h a (by simp);have:=h b (by simp);have:=h c (by simp);simp[num];omega
 |[a,b,c,d],_,h=>have:=h a (by simp);have:=h b (by simp);have:=h c (by simp);have:=h d (by simp);simp[num];omega
theorem fI.sub{l m:List Int}(h:fI l)(hm:∀x∈m,x∈l):fI m:=fun x hx=>h x (hm x hx)
theorem fI.drop{l:List Int}(h:fI l)(k:Nat):fI (l.drop k):=h.sub fun _ hx=>List.mem_of_mem_drop hx
theorem fI.take{l:List Int}(h:fI l)(k:Nat):fI (l.take k):=h.sub fun _ hx=>List.mem_of_mem_take hx
theorem fD{H1:List aB}{m:Nat}{ids:List Nat}{v:V}{n:Int}{l:List Int}{a b c:a6}{e:a6}(h:dW l=(v,n))(ha:[a,b,c]=iS v)(he:e=.int .i64 n):
  dV H1 m ids (.tuple [.agg [a,b,c],e]) (.tuple [.agg (iS (dW l).1),.int .i64 (dW l).2]):=by
 rw[h,he,ha]
 exact dP (.closed _ rfl) (.closed _ rfl)
set_option maxRecDepth 20000 in
theorem wN(ex:Bool)(l:List Int)(hby:fI l)(hl:l.length≤1000000)(H:List aB):
  a7 pr 173 [.list ex 1 (bC l)] H (fun r H'=>r=.tuple [.agg (iS (dW l).1),.int .i64 (dW l).2]∧H'=H):=by
 refine a7.pure rfl (aA k173.has ?_)
 (conv=>whnf);refine aE (fun h0=>?_) (fun h0=>?_)
 ·simp[aD]at h0
  subst h0
  conv=>whnf
  exact fD (v:=⟨0,0,bs []⟩) (n:=0) rfl rfl rfl
 simp[aD]at h0
 have hpos:=List.length_pos_iff.2 h0
 obtain⟨k,hk,-,hkm⟩:=aY hpos
 have hkb:=hby k hkm
 have ek:IntKind.i64.wrap k=k:=aW k (by omega) (by omega)
 have gk:=lF hk
 have hne:¬l.length=0:=by omega
 conv=>whnf
 refine And.intro (by decide) ?_
 (conv=>whnf);refine b8 (jZ hk) ?_
 (conv=>whnf);refine aE (fun h1=>?_) (fun h1=>?_)
 ·simp[ek]at h1
  subst h1
  conv=>whnf
  exact fD (v:=⟨0,0,bs []⟩) (n:=1) (by rw[dW,gk];exact LE (by omega)) rfl rfl
 simp[ek]at h1
 (conv=>whnf);refine aE (fun h2=>?_) (fun h2=>?_)
 ·simp[ek]at h2
  subst h2
  (conv=>whnf);refine aE (fun h3=>?_) (fun h3=>?_)
  ·simp[aD]at h3
   obtain⟨n,hn,-,hnm⟩:=aY (show 1<l.length by omega)
   have hnb:=hby n hnm
   conv=>whnf
   refine And.intro (by decide) ?_
   (conv=>whnf);refine b8 (jZ hn) ?_
   conv=>whnf
   exact fD (v:=⟨1,n,bs []⟩) (n:=2) (by rw[dW,gk,lF hn];exact LF (by omega)) (by rw[aW n (by omega) (by omega)];rfl) rfl
  ·simp[aD]at h3
   conv=>whnf
   exact fD (v:=⟨0,0,bs []⟩) (n:=0) (by rw[dW,gk];exact jH (by omega) (by omega) (by omega) (by omega) (by omega)) rfl rfl
 simp[ek]at h2
 (conv=>whnf);refine aE (fun h4=>?_) (fun h4=>?_)
 ·simp[ek]at h4
  subst h4
  (conv=>whnf);refine aE (fun h3=>?_) (fun h3=>?_)
  ·simp[aD]at h3
   have hb:=tB ((l.take 5).drop 1) ((hby.take 5).drop 1) (by simp;omega)
   conv=>whnf
   refine And.intro ⟨by decide,by decide,by simp[aD];omega⟩ ?_
   conv=>whnf
   refine a7.use (show a7 _ _ [.list (ex&&false) 1 (((bC l).take 5).drop 1)] _ _ from by rw[nI,lC];exact nX _ _ (by simp;omega) ((hby.take 5).drop 1) _) ?_
   conv=>whnf
   exact fD (v:=⟨2,num ((l.take 5).drop 1)-1073741824,bs []⟩) (n:=5) (by rw[dW,gk];exact LG (by omega)) (by rw[aW (num ((l.take 5).drop 1)-1073741824) (by omega) (by omega)];rfl) rfl
  ·simp[aD]at h3
   conv=>whnf
   exact fD (v:=⟨0,0,bs []⟩) (n:=0) (by rw[dW,gk];exact jH (by omega) (by omega) (by omega) (by omega) (by omega)) rfl rfl
 simp[ek]at h4
 (conv=>whnf);refine aE (fun h5=>?_) (fun h5=>?_)
 ·simp[ek]at h5
  subst h5
  (conv=>whnf);refine aE (fun h3=>?_) (fun h3=>?_)
  ·simp[aD]at h3
   have hb:=tB ((l.take 5).drop 1) ((hby.take 5).drop 1) (by simp;omega)
   conv=>whnf
   refine And.intro ⟨by decide,by decide,by simp[aD];omega⟩ ?_
   conv=>whnf
   refine a7.use (show a7 _ _ [.list (ex&&false) 1 (((bC l).take 5).drop 1)] _ _ from by rw[nI,lC];exact nX _ _ (by simp;omega) ((hby.take 5).drop 1) _) ?_
   conv=>whnf
   exact fD (v:=⟨4,num ((l.take 5).drop 1),bs []⟩) (n:=5) (by rw[dW,gk];exact LJ (by omega)) rfl rfl
  ·simp[aD]at h3
   conv=>whnf
   exact fD (v:=⟨0,0,bs []⟩) (n:=0) (by rw[dW,gk];exact jH (by omega) (by omega) (by omega) (by omega) (by omega)) rfl rfl
 simp[ek]at h5
 (conv=>whnf);refine aE (fun h6=>?_) (fun h6=>?_)
 ·simp[ek]at h6
  subst h6
  (conv=>whnf);refine aE (fun h3=>?_) (fun h3=>?_)
  ·simp[aD]at h3
   obtain⟨n,hn,-,hnm⟩:=aY (show 1<l.length by omega)
   have hnb:=hby n hnm
   have en:IntKind.i64.wrap n=n:=aW n (by omega) (by omega)
   have en2:IntKind.i64.wrap (2+n)=2+n:=aW (2+n) (by omega) (by omega)
   conv=>whnf
   refine And.intro (by decide) ?_
   (conv=>whnf);refine b8 (jZ hn) ?_
   (conv=>whnf);refine aE (fun h7=>?_) (fun h7=>?_)
   ·simp[aD,en,en2]at h7
    conv=>whnf
    refine And.intro (by decide) ?_
    (conv=>whnf);refine b8 (jZ hn) ?_
    conv=>whnf
    refine And.intro ⟨by decide,by rw[en,en2];omega,by rw[en,en2,aD];omega⟩ ?_
    conv=>whnf
    refine⟨_,show lD (((bC l).take (IntKind.i64.wrap (2+IntKind.i64.wrap n)).toNat).drop 2)=_ from by rw[nI,lC];exact fX _,?_⟩
    conv=>whnf
    refine And.intro (by decide) ?_
    (conv=>whnf);refine b8 (jZ hn) ?_
    conv=>whnf
    refine And.intro (by(conv=>whnf)) ?_
    conv=>whnf
    refine And.intro (by(conv=>whnf);refine And.intro (by decide) ?_;(conv=>whnf);refine b8 (jZ hn) ?_;rfl) ?_
    conv=>whnf
    exact fD (v:=⟨3,0,uB ((l.take (2+n).toNat).drop 2)⟩) (n:=2+n) (by rw[dW,gk,lF hn];exact LH (by omega) (by omega)) (by rw[en,en2];rfl) (aN (by rw[en,en2]))
   ·simp[aD,en,en2]at h7
    conv=>whnf
    exact fD (v:=⟨0,0,bs []⟩) (n:=0) (by rw[dW,gk,lF hn];exact jH (by omega) (by omega) (by omega) (by omega) (by omega)) rfl rfl
  ·simp[aD]at h3
   conv=>whnf
   exact fD (v:=⟨0,0,bs []⟩) (n:=0) (by rw[dW,gk];exact jH (by omega) (by omega) (by omega) (by omega) (by omega)) rfl rfl
 simp[ek]at h6
 conv=>whnf
 exact fD (v:=⟨0,0,bs []⟩) (n:=0) (by rw[dW,gk];exact jH (by omega) (by omega) (by omega) (by omega) (by omega)) rfl rfl
theorem pB(ex:Bool)(l:List Int)(hl:4≤l.length)(hby:fI l)(H:List aB):
  a7 pr 174 [.list ex 1 (bC l)] H (fun r H'=>r=.int .i64 (num (l.take 4))∧H'=H):=by
 refine a7.pure rfl (aA k174.has ?_)
 match l,hl,hby with
 |a::b::c::d::r,_,hby =>
  have ha:=hby a (by simp)
  have hb:=hby b (by simp)
  have hc:=hby c (by simp)
  have hd:=hby d (by simp)
  repeat'((conv=>whnf);refine And.intro (by decide) ?_)
  conv=>whnf
  refine cZ ?_
  show G8 (G8 (G8 (IntKind.i64.wrap (IntKind.i64.wrap a*2 ^ 24)) (IntKind.i64.wrap (IntKind.i64.wrap b*2 ^ 16))) (IntKind.i64.wrap (IntKind.i64.wrap c*2 ^ 8))) (IntKind.i64.wrap d)=num [a,b,c,d]
  rw[aW a (by omega) (by omega),aW b (by omega) (by omega),aW c (by omega) (by omega),aW d (by omega) (by omega),aW (a*2 ^ 24) (by omega) (by omega),aW (b*2 ^ 16) (by omega) (by omega),aW (c*2 ^ 8) (by omega) (by omega)]
  rw[lT a (b*2 ^ 16) 24 (by omega) (by omega) (by omega) (by omega)]
  rw[show a*2 ^ 24+b*2 ^ 16=(a*256+b)*2 ^ 16 by omega,lT _ (c*2 ^ 8) 16 (by omega) (by omega) (by omega) (by omega)]
  rw[show(a*256+b)*2 ^ 16+c*2 ^ 8=((a*256+b)*256+c)*2 ^ 8 by omega,lT _ d 8 (by omega) (by omega) (by omega) (by omega)]
  simp only[num,List.foldl_cons,List.foldl_nil]
  omega
set_option maxRecDepth 20000 in
theorem xQ(ex:Bool)(l:List Int)(hby:fI l)(hl:l.length≤1000000)(H:List aB):
  a7 pr 132 [.list ex 1 (bC l)] H (fun r H'=>r=.tuple [.agg (iS (dW l).1),.int .i64 (dW l).2]∧H'=H):=by
 refine a7.pure rfl (aA k132.has ?_)
 (conv=>whnf);refine aE (fun h0=>?_) (fun h0=>?_)
 ·simp[aD]at h0
  subst h0
  conv=>whnf
  exact fD (v:=⟨0,0,bs []⟩) (n:=0) rfl rfl rfl
 simp[aD]at h0
 have hpos:=List.length_pos_iff.2 h0
 obtain⟨k,hk,-,hkm⟩:=aY hpos
 have hkb:=hby k hkm
 have ek:IntKind.i64.wrap k=k:=aW k (by omega) (by omega)
 have gk:=lF hk
 have hne:¬l.length=0:=by omega
 conv=>whnf
 refine And.intro (by decide) ?_
 (conv=>whnf);refine b8 (jZ hk) ?_
 (conv=>whnf);refine aE (fun h1=>?_) (fun h1=>?_)
 ·simp[ek]at h1
  subst h1
  conv=>whnf
  exact fD (v:=⟨0,0,bs []⟩) (n:=1) (by rw[dW,gk];exact LE (by omega)) rfl rfl
 simp[ek]at h1
 (conv=>whnf);refine aE (fun h2=>?_) (fun h2=>?_)
 ·simp[ek]at h2
  subst h2
  (conv=>whnf);refine aE (fun h3=>?_) (fun h3=>?_)
  ·simp[aD]at h3
   obtain⟨n,hn,-,hnm⟩:=aY (show 1<l.length by omega)
   have hnb:=hby n hnm
   conv=>whnf
   refine And.intro (by decide) ?_
   (conv=>whnf);refine b8 (jZ hn) ?_
   conv=>whnf
   exact fD (v:=⟨1,n,bs []⟩) (n:=2) (by rw[dW,gk,lF hn];exact LF (by omega)) (by rw[aW n (by omega) (by omega)];rfl) rfl
  ·simp[aD]at h3
   conv=>whnf
   exact fD (v:=⟨0,0,bs []⟩) (n:=0) (by rw[dW,gk];exact jH (by omega) (by omega) (by omega) (by omega) (by omega)) rfl rfl
 simp[ek]at h2
 (conv=>whnf);refine aE (fun h4=>?_) (fun h4=>?_)
 ·simp[ek]at h4
  subst h4
  (conv=>whnf);refine aE (fun h3=>?_) (fun h3=>?_)
  ·simp[aD]at h3
   have hb:=tB ((l.take 5).drop 1) ((hby.take 5).drop 1) (by simp;omega)
   conv=>whnf
   refine And.intro ⟨by decide,by simp[aD];omega⟩ ?_
   conv=>whnf
   refine a7.use (show a7 _ _ [.list (ex&&true) 1 (((bC l).take (bC l).length).drop 1)] _ (fun r H'=>r=.int .i64 (num ((l.take 5).drop 1))∧H'=_)from by rw[List.take_length,lC,List.drop_take];exact pB _ _ (by simp;omega) (hby.drop 1) _) ?_
   conv=>whnf
   exact fD (v:=⟨2,num ((l.take 5).drop 1)-1073741824,bs []⟩) (n:=5) (by rw[dW,gk];exact LG (by omega)) (by rw[aW (num ((l.take 5).drop 1)-1073741824) (by omega) (by omega)];rfl) rfl
  ·simp[aD]at h3
   conv=>whnf
   exact fD (v:=⟨0,0,bs []⟩) (n:=0) (by rw[dW,gk];exact jH (by omega) (by omega) (by omega) (by omega) (by omega)) rfl rfl
 simp[ek]at h4
 (conv=>whnf);refine aE (fun h6=>?_) (fun h6=>?_)
 ·simp[ek]at h6
  subst h6
  (conv=>whnf);refine aE (fun h3=>?_) (fun h3=>?_)
  ·simp[aD]at h3
   obtain⟨n,hn,-,hnm⟩:=aY (show 1<l.length by omega)
   have hnb:=hby n hnm
   have en:IntKind.i64.wrap n=n:=aW n (by omega) (by omega)
   have en2:IntKind.i64.wrap (2+n)=2+n:=aW (2+n) (by omega) (by omega)
   conv=>whnf
   refine And.intro (by decide) ?_
   (conv=>whnf);refine b8 (jZ hn) ?_
   (conv=>whnf);refine aE (fun h7=>?_) (fun h7=>?_)
   ·simp[aD,en,en2]at h7
    conv=>whnf
    refine And.intro (by decide) ?_
    (conv=>whnf);refine b8 (jZ hn) ?_
    conv=>whnf
    refine And.intro ⟨by decide,by rw[en,en2];omega,by rw[en,en2,aD];omega⟩ ?_
    conv=>whnf
    refine⟨_,show lD (((bC l).take (IntKind.i64.wrap (2+IntKind.i64.wrap n)).toNat).drop 2)=_ from by rw[nI,lC];exact fX _,?_⟩
    conv=>whnf
    refine And.intro (by decide) ?_
    (conv=>whnf);refine b8 (jZ hn) ?_
    conv=>whnf
    refine And.intro (by(conv=>whnf)) ?_
    conv=>whnf
    refine And.intro (by(conv=>whnf);refine And.intro (by decide) ?_;(conv=>whnf);refine b8 (jZ hn) ?_;rfl) ?_
    conv=>whnf
    exact fD (v:=⟨3,0,uB ((l.take (2+n).toNat).drop 2)⟩) (n:=2+n) (by rw[dW,gk,lF hn];exact LH (by omega) (by omega)) (by rw[en,en2];rfl) (aN (by rw[en,en2]))
   ·simp[aD,en,en2]at h7
    conv=>whnf
    exact fD (v:=⟨0,0,bs []⟩) (n:=0) (by rw[dW,gk,lF hn];exact jH (by omega) (by omega) (by omega) (by omega) (by omega)) rfl rfl
  ·simp[aD]at h3
   conv=>whnf
   exact fD (v:=⟨0,0,bs []⟩) (n:=0) (by rw[dW,gk];exact jH (by omega) (by omega) (by omega) (by omega) (by omega)) rfl rfl
 simp[ek]at h6
 (conv=>whnf);refine aE (fun h5=>?_) (fun h5=>?_)
 ·simp[ek]at h5
  subst h5
  (conv=>whnf);refine aE (fun h3=>?_) (fun h3=>?_)
  ·simp[aD]at h3
   have hb:=tB ((l.take 5).drop 1) ((hby.take 5).drop 1) (by simp;omega)
   conv=>whnf
   refine And.intro ⟨by decide,by simp[aD];omega⟩ ?_
   conv=>whnf
   refine a7.use (show a7 _ _ [.list (ex&&true) 1 (((bC l).take (bC l).length).drop 1)] _ (fun r H'=>r=.int .i64 (num ((l.take 5).drop 1))∧H'=_)from by rw[List.take_length,lC,List.drop_take];exact pB _ _ (by simp;omega) (hby.drop 1) _) ?_
   conv=>whnf
   exact fD (v:=⟨4,num ((l.take 5).drop 1),bs []⟩) (n:=5) (by rw[dW,gk];exact LJ (by omega)) rfl rfl
  ·simp[aD]at h3
   conv=>whnf
   exact fD (v:=⟨0,0,bs []⟩) (n:=0) (by rw[dW,gk];exact jH (by omega) (by omega) (by omega) (by omega) (by omega)) rfl rfl
 simp[ek]at h5
 conv=>whnf
 exact fD (v:=⟨0,0,bs []⟩) (n:=0) (by rw[dW,gk];exact jH (by omega) (by omega) (by omega) (by omega) (by omega)) rfl rfl
theorem OL(l:List Int)(k n:Int)(hn:0≤n):0≤(oC l k n).2∧(oC l k n).2≤l.length:=by
 unfold oC
 split
 ·simp
 split
 ·simp;omega
 split
 ·simp;omega
 split
 ·simp;omega
 split
 ·simp;omega
 split
 ·simp;omega
 ·simp
theorem E3(l:List Int)(hby:fI l):0≤(dW l).2∧(dW l).2≤l.length:=by
 refine OL l _ _ ?_
 rw[List.getD_eq_getElem?_getD]
 cases h:l[1]? with
 |none=>simp
 |some x=>exact(hby x (List.mem_of_getElem? h)).1
def oB:Nat→List Int→Option (List V×List Int)
 |0,l=>some ([],l)
 |n+1,l=>if(dW l).2=0∨c7 (dW l).1=false then none else match oB n (l.drop (dW l).2.toNat)with
  |some (rs,r)=>some ((dW l).1::rs,r)
  |none=>none
theorem jR(n:Nat)(l:List Int):oB (n+1) l=if(dW l).2=0∨c7 (dW l).1=false then none else match oB n (l.drop (dW l).2.toNat)with
  |some (rs,r)=>some ((dW l).1::rs,r)
  |none=>none:=rfl
def rK:a6:=.tuple [.nil,.int .i64 11]
def rL(l:List Int):a6 :=
 if l.length=0∨12<l.getD 0 0 then rK else match oB (l.getD 0 0).toNat (l.drop 1)with
  |some (rs,[])=>.tuple [.list false 3 (vC rs),.int .i64 0]
  |_=>rK
theorem oG{H1:List aB}{m:Nat}{ids:List Nat}{a:a6}(h:a=rK):dV H1 m ids (.tuple [.nil,.int .i64 11]) a:=by
 subst h;exact dP (.closed _ rfl) (.closed _ rfl)
set_option maxRecDepth 20000 in
theorem nW(ex:Bool)(l:List Int)(hby:fI l)(hl:l.length≤1000000)(H:List aB):
  a7 pr 130 [.list ex 1 (bC l)] H (fun r H'=>r=rL l∧H'=H):=by
 refine a7.pure rfl (aA k130.has ?_)
 (conv=>whnf);refine aE (fun h0=>?_) (fun h0=>?_)
 ·simp[aD]at h0
  conv=>whnf
  exact oG (by rw[rL,if_pos (.inl (by simp[h0]))])
 simp[aD]at h0
 have hpos:=List.length_pos_iff.2 h0
 obtain⟨n,hn,hd0,hnm⟩:=aY hpos
 rw[List.drop_zero]at hd0
 have hnb:=hby n hnm
 have gn:=lF hn
 conv=>whnf
 refine And.intro (by decide) ?_
 (conv=>whnf);refine b8 (jZ hn) ?_
 (conv=>whnf);refine aE (fun h1=>?_) (fun h1=>?_)
 ·simp at h1
  conv=>whnf
  exact oG (by rw[rL,gn,if_pos (.inr h1)])
 simp at h1
 conv=>whnf
 refine And.intro (by decide) ?_
 (conv=>whnf);refine b8 (jZ hn) ?_
 conv=>whnf
 refine And.intro ⟨by decide,by rw[aD];omega⟩ ?_
 conv=>whnf
 have hR:rL l=match oB n.toNat (l.drop 1)with
   |some (rs,[])=>.tuple [.list false 3 (vC rs),.int .i64 0]
   |_=>rK:=by rw[rL,gn,if_neg (by omega)]
 refine⟨fun m ρ H=>∃(k:Nat) (rs:List V) (r:List Int) (x:Bool),k+m=n.toNat∧rs.length=k∧fI r∧r.length≤l.length ∧
  (oB n.toNat (l.drop 1)=match oB m r with|some (rs2,r2)=>some (rs++rs2,r2)|none=>none)∧H=[.arr 3 (vC rs)] ∧
  Sv 50 [(0,.list x 1 (bC r)),(5,.sl 0 k 0 k),(23,.int .i64 n),(24,.int .i64 k)] ρ,n.toNat,[(5,3)],?_,?_⟩
 ·refine⟨0,[],l.drop 1,ex&&true,by omega,rfl,hby.drop 1,by simp,?_,by rfl,Sv.intro rfl ⟨?_,rfl,aN (aW n (by omega) (by omega)),rfl,trivial⟩⟩
  ·cases oB n.toNat (l.drop 1)with
   |none=>rfl
   |some p=>rfl
  ·show a6.list (ex&&true) 1 (((bC l).take (bC l).length).drop (Int.toNat 1))=_
   rw[List.take_length,show Int.toNat 1=1 from rfl,lC]
 rintro m ρ H ⟨k,rs,r,x,hk,hrs,hrb,hrl,hdec,rfl,d,rfl⟩
 (conv=>whnf);refine aE (fun hlt=>?_) (fun hlt=>?_)
 ·simp at hlt
  obtain⟨m,rfl⟩:∃j,m=j+1:=⟨m-1,by omega⟩
  conv=>whnf
  refine a7.use (wN x r hrb (by omega) _) ?_
  have hu:=E3 r hrb
  (conv=>whnf);refine aE (fun h2=>?_) (fun h2=>?_)
  ·simp at h2
   conv=>whnf
   rw[jR,if_pos (.inl h2)]at hdec
   exact oG (by rw[hR,hdec])
  simp at h2
  conv=>whnf
  refine a7.use (j0 (dW r).1 _) ?_
  (conv=>whnf);refine aE (fun h3=>?_) (fun h3=>?_)
  ·simp at h3
   conv=>whnf
   rw[jR,if_pos (.inr h3)]at hdec
   exact oG (by rw[hR,hdec])
  simp at h3
  rw[jR,if_neg (by simp[h2,h3])]at hdec
  (conv=>whnf);refine b4 (by simp[b9,hrs]) ?_
  conv=>whnf
  refine And.intro ⟨cN (by simp;omega) (by omega),bK (by simp;omega),rfl,by simp[b9,hrs]⟩ ?_
  conv=>whnf
  refine And.intro ⟨hu.1,by rw[aD];omega⟩ ?_
  conv=>whnf
  refine And.intro (by(conv=>whnf);refine And.intro ⟨hu.1,by rw[aD];omega⟩ ?_;(conv=>whnf)) ?_
  conv=>whnf
  have hkey:vC (rs++[(dW r).1])=vC rs++[iS (dW r).1]:=by rw[y9];rfl
  have hlen:(vC rs++[iS (dW r).1]).length=k+1:=by simp[b9,hrs]
  refine⟨m,by omega,Gp.one 0 3 (vC (rs++[(dW r).1])) ?_ (l9 _) rfl ?_ fun ρ1 h=>⟨k+1,rs++[(dW r).1],r.drop (dW r).2.toNat,x&&true,by omega,by simp[hrs],hrb.drop _,by simp;omega,?_,rfl,h⟩⟩
  ·rw[hkey];rfl
  ·refine⟨JG ?_ rfl,kI (k:=0) rfl rfl hlen hlen,.closed _ rfl,eR (aW ((k:Int)+1) (by omega) (by omega)),trivial⟩
   show a6.list (x&&true) 1 (((bC r).take (bC r).length).drop (dW r).2.toNat)=_
   rw[List.take_length,lC]
  ·rw[hdec]
   cases oB m (r.drop (dW r).2.toNat)with
   |none=>rfl
   |some p=>simp
 ·simp at hlt
  have:m=0:=by omega
  subst this
  (conv=>whnf);refine aE (fun h2=>?_) (fun h2=>?_)
  ·simp[aD]at h2
   conv=>whnf
   refine oG ?_
   rw[hR,hdec]
   match r,h2 with
   |_::_,_=>rfl
  ·simp[aD]at h2
   conv=>whnf
   rw[hR,hdec]
   have:r=[]:=h2
   subst this
   simp only[oB,List.append_nil]
   exact dP (qH rfl (by rw[b9,hrs]) (by rw[b9,hrs]) (l9 _)) (.closed _ rfl)
set_option maxRecDepth 20000 in
theorem pA(ex:Bool)(l:List Int)(hby:fI l)(hl:l.length≤1000000)(H:List aB):
  a7 pr 80 [.list ex 1 (bC l)] H (fun r H'=>r=rL l∧H'=H):=by
 refine a7.pure rfl (aA k80.has ?_)
 (conv=>whnf);refine aE (fun h0=>?_) (fun h0=>?_)
 ·simp[aD]at h0
  conv=>whnf
  exact oG (by rw[rL,if_pos (.inl (by simp[h0]))])
 simp[aD]at h0
 have hpos:=List.length_pos_iff.2 h0
 obtain⟨n,hn,hd0,hnm⟩:=aY hpos
 rw[List.drop_zero]at hd0
 have hnb:=hby n hnm
 have en:IntKind.i64.wrap n=n:=aW n (by omega) (by omega)
 have gn:=lF hn
 conv=>whnf
 refine And.intro (by decide) ?_
 (conv=>whnf);refine b8 (jZ hn) ?_
 (conv=>whnf);refine aE (fun h1=>?_) (fun h1=>?_)
 ·simp[en]at h1
  conv=>whnf
  exact oG (by rw[rL,gn,if_pos (.inr h1)])
 simp[en]at h1
 conv=>whnf
 have hR:rL l=match oB n.toNat (l.drop 1)with
   |some (rs,[])=>.tuple [.list false 3 (vC rs),.int .i64 0]
   |_=>rK:=by rw[rL,gn,if_neg (by omega)]
 refine⟨fun m ρ H=>∃(k:Nat) (rs:List V) (q:Nat),k+m=n.toNat∧rs.length=k∧q≤l.length ∧
  (oB n.toNat (l.drop 1)=match oB m (l.drop q)with|some (rs2,r2)=>some (rs++rs2,r2)|none=>none)∧H=[.arr 3 (vC rs)] ∧
  Sv 53 [(0,.list ex 1 (bC l)),(4,.sl 0 k 0 k),(5,.int .i64 q),(6,.int .i64 k)] ρ,n.toNat,[(4,3)],?_,?_⟩
 ·refine⟨0,[],1,by omega,rfl,by omega,?_,by rfl,Sv.intro rfl ⟨rfl,rfl,rfl,rfl,trivial⟩⟩
  cases oB n.toNat (l.drop 1)with
  |none=>rfl
  |some p=>rfl
 rintro m ρ H ⟨k,rs,q,hk,hrs,hq,hdec,rfl,d,rfl⟩
 have hrb:fI (l.drop q):=hby.drop q
 conv=>whnf
 refine And.intro (by decide) ?_
 (conv=>whnf);refine b8 (jZ hn) ?_
 (conv=>whnf);refine aE (fun hlt=>?_) (fun hlt=>?_)
 ·simp[en]at hlt
  obtain⟨m,rfl⟩:∃j,m=j+1:=⟨m-1,by omega⟩
  conv=>whnf
  refine And.intro ⟨by omega,by rw[aD];omega⟩ ?_
  conv=>whnf
  refine a7.use (show a7 _ _ [.list (ex&&true) 1 (((bC l).take (bC l).length).drop q)] _ (fun r H'=>r=.tuple [.agg (iS (dW (l.drop q)).1),.int .i64 (dW (l.drop q)).2]∧H'=_)from by rw[List.take_length,lC];exact xQ _ _ hrb (by simp;omega) _) ?_
  have hu:=E3 (l.drop q) hrb
  rw[List.length_drop]at hu
  (conv=>whnf);refine aE (fun h2=>?_) (fun h2=>?_)
  ·simp at h2
   conv=>whnf
   rw[jR,if_pos (.inl h2)]at hdec
   exact oG (by rw[hR,hdec])
  simp at h2
  conv=>whnf
  refine a7.use (i4 (dW (l.drop q)).1 _) ?_
  (conv=>whnf);refine aE (fun h3=>?_) (fun h3=>?_)
  ·simp at h3
   conv=>whnf
   rw[jR,if_pos (.inr h3)]at hdec
   exact oG (by rw[hR,hdec])
  simp at h3
  rw[jR,if_neg (by simp[h2,h3]),List.drop_drop]at hdec
  (conv=>whnf);refine b4 (by simp[b9,hrs]) ?_
  conv=>whnf
  refine And.intro ⟨cN (by simp;omega) (by omega),bK (by simp;omega),rfl,by simp[b9,hrs]⟩ ?_
  conv=>whnf
  have hkey:vC (rs++[(dW (l.drop q)).1])=vC rs++[iS (dW (l.drop q)).1]:=by rw[y9];rfl
  have hlen:(vC rs++[iS (dW (l.drop q)).1]).length=k+1:=by simp[b9,hrs]
  refine⟨m,by omega,Gp.one 0 3 (vC (rs++[(dW (l.drop q)).1])) ?_ (l9 _) rfl ?_ fun ρ1 h=>⟨k+1,rs++[(dW (l.drop q)).1],q+(dW (l.drop q)).2.toNat,by omega,by simp[hrs],by omega,?_,rfl,h⟩⟩
  ·rw[hkey];rfl
  ·exact⟨.closed _ rfl,kI (k:=0) rfl rfl hlen hlen,eR (by rw[aW (q+(dW (l.drop q)).2) (by omega) (by omega)];omega),eR (aW ((k:Int)+1) (by omega) (by omega)),trivial⟩
  ·rw[hdec]
   cases oB m (l.drop (q+(dW (l.drop q)).2.toNat))with
   |none=>rfl
   |some p=>simp
 ·simp[en]at hlt
  have:m=0:=by omega
  subst this
  (conv=>whnf);refine aE (fun h2=>?_) (fun h2=>?_)
  ·simp[aD]at h2
   conv=>whnf
   refine oG ?_
   rw[hR,hdec]
   have hlt2:q<l.length:=by omega
   rw[List.drop_eq_getElem_cons hlt2]
   rfl
  ·simp[aD]at h2
   conv=>whnf
   rw[hR,hdec]
   have:l.drop q=[]:=List.drop_eq_nil_of_le (by omega)
   rw[this]
   simp only[oB,List.append_nil]
   exact dP (qH rfl (by rw[b9,hrs]) (by rw[b9,hrs]) (l9 _)) (.closed _ rfl)
theorem mQ:∀(a:List UInt8),Op.bytesLess a a=false
 |[]=>rfl
 |x::a=>by simp[Op.bytesLess,mQ a]
theorem QV:∀(a b:List UInt8),Op.bytesLess a b=true∨a=b∨Op.bytesLess b a=true
 |[],[]=>.inr (.inl rfl)
 |[],_::_=>.inl rfl
 |_::_,[]=>.inr (.inr rfl)
 |x::a,y::b=>by
  simp only[Op.bytesLess,Bool.or_eq_true,decide_eq_true_eq,Bool.and_eq_true,beq_iff_eq,List.cons.injEq]
  rcases(show x<y∨x=y∨y<x from by rcases Nat.lt_trichotomy x.toNat y.toNat with h|h|h;exact .inl h;exact .inr (.inl (UInt8.toNat_inj.1 h));exact .inr (.inr h))with h|h|h
  ·exact .inl (.inl h)
  ·subst h
   rcases QV a b with h|h|h
   ·exact .inl (.inr ⟨rfl,h⟩)
   ·exact .inr (.inl ⟨rfl,h⟩)
   ·exact .inr (.inr (.inr ⟨rfl,h⟩))
  ·exact .inr (.inr (.inl h))
theorem AV:∀(a b c:List UInt8),Op.bytesLess a b=true→Op.bytesLess b c=true→Op.bytesLess a c=true
 |_,[],_,h,_=>by cases ‹List UInt8›<;>simp[Op.bytesLess]at h
 |_,_::_,[],_,h=>by simp[Op.bytesLess]at h
 |[],_::_,_::_,_,_=>rfl
 |x::a,y::b,z::c,h1,h2=>by
  simp only[Op.bytesLess,Bool.or_eq_true,decide_eq_true_eq,Bool.and_eq_true,beq_iff_eq]at *
  rcases h1 with h1|⟨rfl,h1⟩
  ·rcases h2 with h2|⟨rfl,h2⟩
   ·exact .inl (UInt8.lt_trans h1 h2)
   ·exact .inl h1
  ·rcases h2 with h2|⟨rfl,h2⟩
   ·exact .inl h2
   ·exact .inr ⟨rfl,AV a b c h1 h2⟩
structure QH{α:Type}(c:α→α→Int):Prop where
 vals:∀a b,c a b = -1∨c a b=0∨c a b=1
 anti:∀a b,c b a = - c a b
 zero:∀a b,c a b=0↔a=b
 trans:∀a b d,c a b<0→c b d<0→c a d<0
theorem OV:QH vO:=by
 refine⟨fun a b=>?_,fun a b=>?_,fun a b=>?_,fun a b d=>?_⟩<;>unfold vO<;>(repeat' split)<;>omega
theorem OW:QH DE:=by
 have asym:∀a b,Op.bytesLess a b=true→Op.bytesLess b a=true→False:=fun a b h1 h2=>by
  have:=AV a b a h1 h2
  rw[mQ]at this;cases this
 refine⟨fun a b=>?_,fun a b=>?_,fun a b=>?_,fun a b d=>?_⟩
 ·unfold DE;split
  ·simp
  ·split<;>simp
 ·unfold DE
  rcases QV a b with h|h|h
  ·have hb:Op.bytesLess b a=false:=by cases hb:Op.bytesLess b a with|false=>rfl|true=>exact(asym a b h hb).elim
   have hne:¬b=a:=by rintro rfl;rw[mQ]at h;cases h
   simp[h,hb,hne]
  ·subst h;simp[mQ]
  ·have hb:Op.bytesLess a b=false:=by cases hb:Op.bytesLess a b with|false=>rfl|true=>exact(asym a b hb h).elim
   have hne:¬a=b:=by rintro rfl;rw[mQ]at h;cases h
   simp[h,hb,hne]
 ·unfold DE
  split
  ·rename_i h
   refine⟨fun h=>by omega,?_⟩
   rintro rfl
   rw[mQ]at h;cases h
  ·split<;>simp[*]
 ·unfold DE
  intro h1 h2
  have e1:Op.bytesLess a b=true:=by
   revert h1
   split
   ·intro _;assumption
   ·split<;>intro h<;>omega
  have e2:Op.bytesLess b d=true:=by
   revert h2
   split
   ·intro _;assumption
   ·split<;>intro h<;>omega
  rw[if_pos (AV a b d e1 e2)];omega
theorem mS:QH iT:=by
 have I:=OV
 have S:=OW
 refine⟨fun a b=>?_,fun a b=>?_,fun a b=>?_,fun a b d=>?_⟩
 ·have:=I.vals a.kind b.kind;have:=I.vals a.num b.num;have:=S.vals a.str.data.toList b.str.data.toList
  simp only[iT,MA];(repeat' split)<;>omega
 ·have:=I.anti a.kind b.kind;have:=I.anti a.num b.num;have:=S.anti a.str.data.toList b.str.data.toList
  simp only[iT,MA];(repeat' split)<;>omega
 ·have h1:=I.zero a.kind b.kind;have h2:=I.zero a.num b.num;have h3:=S.zero a.str.data.toList b.str.data.toList
  constructor
  ·intro h
   simp only[iT,MA]at h
   have e1:vO a.kind b.kind=0:=by revert h;(repeat' split)<;>omega
   have e2:vO a.num b.num=0:=by revert h;(repeat' split)<;>omega
   have e3:DE a.str.data.toList b.str.data.toList=0:=by revert h;(repeat' split)<;>omega
   obtain⟨ak,an,⟨⟨asv⟩⟩⟩:=a
   obtain⟨bk,bn,⟨⟨bl⟩⟩⟩:=b
   have q1:=h1.1 e1;have q2:=h2.1 e2;have q3:=h3.1 e3
   simp only at q1 q2 q3
   subst q1 q2 q3;rfl
  ·rintro rfl
   simp only[iT,MA]
   rw[if_pos (h1.2 rfl),if_pos (h2.2 rfl),if_pos (h3.2 rfl)]
 ·intro h1 h2
  have a1:=I.trans a.kind b.kind d.kind;have a2:=I.trans a.num b.num d.num;have a3:=S.trans a.str.data.toList b.str.data.toList d.str.data.toList
  have v1:=I.vals a.kind b.kind;have v2:=I.vals b.kind d.kind;have v3:=I.vals a.num b.num;have v4:=I.vals b.num d.num
  have z1:=I.zero a.kind b.kind;have z2:=I.zero b.kind d.kind;have z3:=I.zero a.num b.num;have z4:=I.zero b.num d.num
  have z5:=I.zero a.kind d.kind;have z6:=I.zero a.num d.num
  simp only[iT,MA]at *
  by_cases k1:a.kind=b.kind<;>by_cases k2:b.kind=d.kind<;>by_cases n1:a.num=b.num<;>by_cases n2:b.num=d.num<;>simp_all<;>(repeat' split)<;>omega
end Go.AW
namespace Go.AW
variable [dK]
def YM(a b:ByteArray):Bool:=Op.bytesLess a.data.toList b.data.toList
attribute [local irreducible] a7
def iE(b:UInt8):Bool:=decide (97≤b.toNat∧b.toNat≤122)
def jT(b:UInt8):Bool:=decide (97≤b.toNat∧b.toNat≤122∨48≤b.toNat∧b.toNat≤57∨b.toNat=95)
def J4:List UInt8→Bool
 |[]=>false
 |b::r=>iE b&&r.all jT
def eF(s:ByteArray):Bool:=decide (s.size≤24)&&J4 s.data.toList
theorem get!_of{s:ByteArray}{p:Nat}{b:UInt8}(h:s.data.toList[p]?=some b):s.get! p=b:=by
 obtain⟨⟨l⟩⟩:=s
 simp at h
 simp[ByteArray.get!,h]
theorem FO{s:ByteArray}{p:Nat}{b:UInt8}(h:s.data.toList[p]?=some b)(hb:b.toNat<128):Utf8.decode s p=(b.toNat,1):=by
 unfold Utf8.decode
 simp only[Nat.add_zero,get!_of h]
 rw[if_pos hb]
theorem LK{s:ByteArray}{p:Nat}{b:UInt8}(h:s.data.toList[p]?=some b)(hb:¬b.toNat<128):128≤(Utf8.decode s p).1:=by
 unfold Utf8.decode
 simp only[Nat.add_zero,get!_of h]
 rw[if_neg hb]
 (repeat' split)<;>simp only[Utf8.runeError,Bool.and_eq_true,decide_eq_true_eq]at * <;> omega
theorem AI{s:ByteArray}{p:Nat}(h:p<s.size):∃b,s.data.toList[p]?=some b∧s.data.toList.drop p=b::s.data.toList.drop (p+1):=by
 have hl:p<s.data.toList.length:=by simpa using h
 exact⟨_,List.getElem?_eq_getElem hl,List.drop_eq_getElem_cons hl⟩
set_option maxRecDepth 20000 in
theorem eI(s:ByteArray)(H:List aB):
  a7 pr 100 [.str s] H (fun r H'=>r=.bool (eF s)∧H'=H):=by
 refine a7.pure rfl (aA k100.has ?_)
 (conv=>whnf);refine aE (fun h0=>?_) (fun h0=>?_)
 ·simp at h0
  conv=>whnf
  exact iB (by simp[eF];omega)
 simp at h0
 conv=>whnf
 refine⟨fun m ρ H=>∃p:Nat,p+m=s.size∧(0<p→eF s=(s.data.toList.drop p).all jT)∧H=[.iter s p]∧Sv 41 [(0,.str s),(10,.it 0)] ρ,s.size,[],?_,?_⟩
 ·exact⟨0,by omega,by omega,rfl,Sv.intro rfl ⟨rfl,rfl,trivial⟩⟩
 rintro m ρ H ⟨p,hp,hr,rfl,d,rfl⟩
 (conv=>whnf);refine aE (fun hlt=>?_) (fun hlt=>?_)
 ·simp at hlt
  obtain⟨b,hb,hd⟩:=AI hlt
  
  have h0n:p=0→eF s=(iE b&&(s.data.toList.drop (p+1)).all jT):=by
   rintro rfl
   rw[List.drop_zero]at hd
   have:J4 s.data.toList=(iE b&&(s.data.toList.drop (0+1)).all jT):=by
    conv=>lhs;rw[hd]
    rfl
   rw[eF,this,decide_eq_true (by omega),Bool.true_and]
  have hno:(if p=0 then iE b else jT b)=false→eF s=false:=by
   intro h
   by_cases h1:p=0
   ·rw[if_pos h1]at h
    rw[h0n h1,h];rfl
   ·rw[if_neg h1]at h
    rw[hr (by omega),hd,List.all_cons,h];rfl
  have hyes:(if p=0 then iE b else jT b)=true→eF s=(s.data.toList.drop (p+1)).all jT:=by
   intro h
   by_cases h1:p=0
   ·rw[if_pos h1]at h
    rw[h0n h1,h];rfl
   ·rw[if_neg h1]at h
    rw[hr (by omega),hd,List.all_cons,h];rfl
  by_cases hb1:b.toNat<128
  ·have hdec:=FO hb hb1
   have e1:((Utf8.decode s p).1:Int)=b.toNat:=by rw[hdec]
   have e2:p+(Utf8.decode s p).2=p+1:=by rw[hdec]
   repeat'((conv=>whnf);refine aE (fun h=>?_) (fun h=>?_))
   all_goals conv=>whnf
   all_goals first
    |refine⟨m-1,by omega,Gp.keep rfl ?_ fun ρ1 h=>⟨p+1,by omega,fun _=>hyes ?_,by rw[e2],h⟩⟩
    |refine iB (hno ?_).symm
   all_goals first
    |exact⟨rfl,rfl,trivial⟩
    |skip
   all_goals
    (simp only[e1]at *)
    clear hno hyes h0n hr hd
    by_cases hp0:p=0<;>simp[iE,jT,hp0]at * <;> omega
  ·have hdec:=LK hb hb1
   have hn1:iE b=false:=by simp[iE];omega
   have hn2:jT b=false:=by simp[jT];omega
   have hz:eF s=false:=hno (by split;exact hn1;exact hn2)
   repeat'((conv=>whnf);refine aE (fun h=>?_) (fun h=>?_))
   all_goals conv=>whnf
   all_goals first
    |exact iB hz.symm
    |(exfalso;simp at *;omega)
 ·have hlt2:¬p<s.size:=of_decide_eq_false hlt
  have hl0:s.data.toList.length=s.size:=by simp
  conv=>whnf
  refine iB ?_
  show(!(s.data.toList==[]))=_
  by_cases h1:p=0
  ·have:s.data.toList=[]:=List.eq_nil_of_length_eq_zero (by omega)
   simp[eF,this,J4]
  ·rw[hr (by omega),List.drop_eq_nil_of_le (by omega)]
   cases hs:s.data.toList with
   |nil=>rw[hs]at hl0;simp at hl0;omega
   |cons b r=>rfl
theorem T0{s:ByteArray}{p:Nat}{b:UInt8}{q:Nat}(h:s.data.toList[p]?=some b)(hq:q=p):s.data.toList[q]?=some b:=by subst hq;exact h
set_option maxRecDepth 20000 in
theorem eH(s:ByteArray)(H:List aB):
  a7 pr 44 [.str s] H (fun r H'=>r=.bool (eF s)∧H'=H):=by
 refine a7.pure rfl (aA k44.has ?_)
 have hl0:s.data.toList.length=s.size:=by simp
 (conv=>whnf);refine aE (fun h0=>?_) (fun h0=>?_)
 ·have h0:=of_decide_eq_true h0
  conv=>whnf
  have:s.data.toList=[]:=List.eq_nil_of_length_eq_zero (by omega)
  exact iB (by simp[eF,this,J4])
 have h0:=of_decide_eq_false h0
 (conv=>whnf);refine aE (fun h1=>?_) (fun h1=>?_)
 ·have h1:=of_decide_eq_true h1
  conv=>whnf
  exact iB (by rw[eF,decide_eq_false (by omega)];rfl)
 have h1:=of_decide_eq_false h1
 obtain⟨a,ha,hd0⟩:=AI (show 0<s.size by omega)
 have hn:eF s=(iE a&&(s.data.toList.drop 1).all jT):=by
  rw[List.drop_zero]at hd0
  have:J4 s.data.toList=(iE a&&(s.data.toList.drop (0+1)).all jT):=by
   conv=>lhs;rw[hd0]
   rfl
  rw[eF,this,decide_eq_true (by omega),Bool.true_and]
 conv=>whnf
 refine And.intro (by decide) ?_
 (conv=>whnf);refine b8 ha ?_
 (conv=>whnf);refine aE (fun h2=>?_) (fun h2=>?_)
 ·have h2:=of_decide_eq_true h2
  conv=>whnf
  exact iB (by rw[hn];simp[iE];omega)
 have h2:=of_decide_eq_false h2
 conv=>whnf
 refine And.intro (by decide) ?_
 (conv=>whnf);refine b8 ha ?_
 (conv=>whnf);refine aE (fun h3=>?_) (fun h3=>?_)
 ·have h3:=of_decide_eq_true h3
  conv=>whnf
  exact iB (by rw[hn];simp[iE];omega)
 have h3:=of_decide_eq_false h3
 have hla:iE a=true:=by simp[iE];omega
 have hra:jT a=true:=by simp[jT];omega
 have hn2:eF s=s.data.toList.all jT:=by
  rw[hn,hla,Bool.true_and]
  rw[List.drop_zero]at hd0
  conv=>rhs;rw[hd0,List.all_cons,hra,Bool.true_and]
 conv=>whnf
 refine⟨fun m ρ H=>∃k:Nat,k+m=s.size∧eF s=(s.data.toList.drop k).all jT∧H=[]∧Sv 58 [(0,.str s),(3,.int .i64 k)] ρ,s.size,[],?_,?_⟩
 ·exact⟨0,by omega,hn2,rfl,Sv.intro rfl ⟨rfl,rfl,trivial⟩⟩
 rintro m ρ H ⟨k,hk,hr,rfl,d,rfl⟩
 (conv=>whnf);refine aE (fun hlt=>?_) (fun hlt=>?_)
 ·simp at hlt
  obtain⟨b,hb,hd⟩:=AI hlt
  rw[hd,List.all_cons]at hr
  repeat'((conv=>whnf);first|refine And.intro (by omega) ?_|refine b8 (T0 hb (by rfl)) ?_|refine aE (fun h=>?_) (fun h=>?_))
  all_goals conv=>whnf
  all_goals first
   |refine⟨m-1,by omega,Gp.keep rfl ?_ fun ρ1 h=>⟨k+1,by omega,?_,rfl,h⟩⟩
   |refine iB ?_
  all_goals first
   |exact⟨rfl,aN (aW ((k:Int)+1) (by omega) (by omega)),trivial⟩
   |skip
  all_goals
   rw[hr]
   have hx:jT b=true∨jT b=false:=by cases jT b<;>simp
   rcases hx with hx|hx<;>rw[hx]<;>(first|rfl|(exfalso;simp[jT]at *;omega))
 ·have hlt2:¬(k:Int)<s.size:=of_decide_eq_false hlt
  conv=>whnf
  rw[List.drop_eq_nil_of_le (by omega)]at hr
  exact iB hr.symm
open Go.Lib (indexByte)
theorem UY:∀{l:List UInt8}{c:UInt8}{i:Nat},l[i]?=some c→(∀j,j<i→l[j]?≠some c)→indexByte l c=i
 |[],_,_,h,_=>by simp at h
 |b::l,c,0,h,_=>by simp at h;subst h;simp[indexByte]
 |b::l,c,i+1,h,hb=>by
  have h0:=hb 0 (by omega)
  simp at h0
  have:=UY (l:=l) (i:=i) (by simpa using h) fun j hj=>by have:=hb (j+1) (by omega);simpa using this
  simp only[indexByte,this,beq_iff_eq,h0,if_false]
  rw[if_neg (by omega)]
  rfl
theorem NP:∀{l:List UInt8}{c:UInt8},(∀j:Nat,l[j]?≠some c)→indexByte l c = -1
 |[],_,_=>rfl
 |b::l,c,h=>by
  have h0:=h 0
  simp at h0
  have:=NP (l:=l) fun j=>by have:=h (j+1);simpa using this
  simp[indexByte,this,h0]
theorem BM:∀(l:List UInt8) (c:UInt8),indexByte l c = -1∨∃i:Nat,indexByte l c=i∧i<l.length
 |[],_=>.inl rfl
 |b::l,c=>by
  simp only[indexByte]
  split
  ·exact .inr ⟨0,rfl,by simp⟩
  ·rcases BM l c with h|⟨i,h,hl⟩
   ·rw[if_pos (by simp[h])];exact .inl rfl
   ·rw[if_neg (by simp[h]),h];exact .inr ⟨i+1,by omega,by simpa using hl⟩
def j3(s:ByteArray):Int:=indexByte s.data.toList 46
def mH(s:ByteArray):Bool :=
 if 0≤j3 s then eF (s.extract 0 (j3 s).toNat)&&eF (s.extract (j3 s+1).toNat s.size)else eF s
set_option maxRecDepth 20000 in
theorem kW(s:ByteArray)(hs:s.size≤1000000)(H:List aB):
  a7 pr 45 [.str s] H (fun r H'=>r=.bool (mH s)∧H'=H):=by
 refine a7.pure rfl (aA k45.has ?_)
 conv=>whnf
 refine⟨fun m ρ H=>∃k:Nat,k+m=s.size∧(∀j,j<k→s.data.toList[j]?≠some 46)∧H=[]∧Sv 27 [(0,.str s),(3,.int .i64 k)] ρ,s.size,[],?_,?_⟩
 ·exact⟨0,by omega,by omega,rfl,Sv.intro rfl ⟨rfl,rfl,trivial⟩⟩
 rintro m ρ H ⟨k,hk,hr,rfl,d,rfl⟩
 (conv=>whnf);refine aE (fun hlt=>?_) (fun hlt=>?_)
 ·simp at hlt
  obtain⟨b,hb,hd⟩:=AI hlt
  conv=>whnf
  refine And.intro (by omega) ?_
  (conv=>whnf);refine b8 (T0 hb (by rfl)) ?_
  (conv=>whnf);refine aE (fun h=>?_) (fun hne=>?_)
  ·have hbe:b=46:=by
    have h:(b.toNat:Int)=46:=by simpa using h
    apply UInt8.toNat_inj.1
    show b.toNat=46
    omega
   subst hbe
   have hdot:j3 s=k:=UY hb hr
   have e1:IntKind.i64.wrap ((k:Int)+1)=k+1:=aW _ (by omega) (by omega)
   conv=>whnf
   refine And.intro (by omega) ?_
   (conv=>whnf);refine a7.use (eH _ _) ?_
   (conv=>whnf);refine aE (fun h1=>?_) (fun h1=>?_)
   ·conv=>whnf
    refine And.intro (by rw[e1];omega) ?_
    (conv=>whnf);refine a7.use (eH _ _) ?_
    conv=>whnf
    refine iB ?_
    replace h1:eF (s.extract 0 (k:Int).toNat)=true:=h1
    rw[mH,hdot,if_pos (by omega),h1,Bool.true_and]
    show eF (s.extract (IntKind.i64.wrap ((k:Int)+1)).toNat s.size)=_
    rw[e1]
   ·conv=>whnf
    refine iB ?_
    replace h1:eF (s.extract 0 (k:Int).toNat)=false:=h1
    rw[mH,hdot,if_pos (by omega),h1];rfl
  ·conv=>whnf
   refine⟨m-1,by omega,Gp.keep rfl ?_ fun ρ1 h=>⟨k+1,by omega,fun j hj=>?_,rfl,h⟩⟩
   ·exact⟨rfl,aN (aW ((k:Int)+1) (by omega) (by omega)),trivial⟩
   ·rcases Nat.lt_succ_iff_lt_or_eq.1 hj with h1|rfl
    ·exact hr j h1
    ·rw[hb]
     intro h2
     cases h2
     exact absurd hne (by decide)
 ·have hlt2:¬(k:Int)<s.size:=of_decide_eq_false hlt
  conv=>whnf
  refine a7.use (eH _ _) ?_
  conv=>whnf
  refine iB ?_
  have:j3 s = -1:=NP fun j=>by
   by_cases hj:j<k
   ·exact hr j hj
   ·rw[List.getElem?_eq_none (by simp;omega)];simp
  rw[mH,this,if_neg (by omega)]
theorem tQ(s:ByteArray)(c:Int)(H:List aB):
  a7 pr 283 [.str s,.int .u8 c] H (fun r H'=>r=.int .i64 (indexByte s.data.toList c.toNat.toUInt8)∧H'=H):=by
 refine a7.pure rfl (aA k283.has ?_)
 conv=>whnf
 refine a7.use (rU k293.has s c _) ?_
 conv=>whnf
 exact .closed _ rfl
set_option maxRecDepth 20000 in
theorem zT(s:ByteArray)(H:List aB):
  a7 pr 249 [.str s,.str (bs [46])] H (fun r H'=>r=.int .i64 (j3 s)∧H'=H):=by
 refine a7.pure rfl (aA k249.has ?_)
 (conv=>whnf);refine aE (fun h=>?_) (fun h=>?_)
 ·conv=>whnf
  refine cZ ?_
  have h:(bs [46]).data.toList=s.data.toList:=by simpa using h
  rw[j3,←h];rfl
 ·conv=>whnf
  refine And.intro (by decide) ?_
  conv=>whnf
  refine a7.use (tQ s _ _) ?_
  conv=>whnf
  exact cZ rfl
def OK(s:ByteArray):a6 :=
 if 0≤j3 s then .tuple [.str (s.extract 0 (j3 s).toNat),.str (s.extract (j3 s+1).toNat s.size),.bool true]else .tuple [.str s,.str (bs []),.bool false]
theorem S8{H1:List aB}{n:Nat}{ids:List Nat}{a b c r s t:a6}(h1:dV H1 n ids a r)(h2:dV H1 n ids b s)(h3:dV H1 n ids c t):dV H1 n ids (.tuple [a,b,c]) (.tuple [r,s,t]):=by
 refine .tuple _ _ rfl fun i v u h4 h5=>?_
 rcases i with _|_|_|i
 ·cases h4;cases h5;exact h1
 ·cases h4;cases h5;exact h2
 ·cases h4;cases h5;exact h3
 ·simp at h4
set_option maxRecDepth 20000 in
theorem DO(s:ByteArray)(hs:s.size≤1000000)(H:List aB):
  a7 pr 201 [.str s,.str (bs [46])] H (fun r H'=>r=OK s∧H'=H):=by
 refine a7.pure rfl (aA k201.has ?_)
 conv=>whnf
 refine a7.use (zT s _) ?_
 have hl0:s.data.toList.length=s.size:=by simp
 have hc:=BM s.data.toList 46
 (conv=>whnf);refine aE (fun h=>?_) (fun h=>?_)
 ·have h:0≤j3 s:=of_decide_eq_true h
  have hlt:j3 s<s.size:=by
   rcases hc with h1|⟨i,h1,h2⟩
   ·have:j3 s = -1:=h1
    omega
   ·have:j3 s=i:=h1
    omega
  have e1:IntKind.i64.wrap (j3 s+((bs [46]).size:Nat))=j3 s+1:=aW _ (by show -9223372036854775808≤j3 s+1;omega) (by show j3 s+1≤_;omega)
  conv=>whnf
  refine And.intro (by omega) ?_
  conv=>whnf
  refine And.intro (by rw[e1];omega) ?_
  conv=>whnf
  rw[OK,if_pos h]
  refine S8 (.closed _ rfl) (JG ?_ rfl) (.closed _ rfl)
  rw[e1]
 ·have h:¬0≤j3 s:=of_decide_eq_false h
  conv=>whnf
  rw[OK,if_neg h]
  exact S8 (.closed _ rfl) (.closed _ rfl) (.closed _ rfl)
set_option maxRecDepth 20000 in
theorem zW(s:ByteArray)(hs:s.size≤1000000)(H:List aB):
  a7 pr 153 [.str s,.str (bs [46])] H (fun r H'=>r=OK s∧H'=H):=by
 refine a7.pure rfl (aA k153.has ?_)
 conv=>whnf
 refine a7.use (DO s hs _) ?_
 unfold OK
 split
 all_goals
  conv=>whnf
  exact S8 (.closed _ rfl) (.closed _ rfl) (.closed _ rfl)
set_option maxRecDepth 20000 in
theorem jW(s:ByteArray)(hs:s.size≤1000000)(H:List aB):
  a7 pr 101 [.str s] H (fun r H'=>r=.bool (mH s)∧H'=H):=by
 refine a7.pure rfl (aA k101.has ?_)
 conv=>whnf
 refine a7.use (zW s hs _) ?_
 unfold OK
 split
 ·rename_i h
  conv=>whnf
  refine a7.use (eI _ _) ?_
  (conv=>whnf);refine aE (fun h1=>?_) (fun h1=>?_)
  ·conv=>whnf
   refine a7.use (eI _ _) ?_
   conv=>whnf
   exact iB (by rw[mH,if_pos h,h1,Bool.true_and])
  ·conv=>whnf
   exact iB (by rw[mH,if_pos h,h1];rfl)
 ·rename_i h
  conv=>whnf
  refine a7.use (eI _ _) ?_
  (conv=>whnf);refine aE (fun h1=>?_) (fun h1=>?_)
  ·conv=>whnf
   exact iB (by rw[mH,if_neg h,h1])
  ·conv=>whnf
   exact iB (by rw[mH,if_neg h,h1])
end Go.AW
