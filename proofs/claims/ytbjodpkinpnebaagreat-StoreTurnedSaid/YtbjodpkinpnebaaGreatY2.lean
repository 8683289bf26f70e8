/-
  An abstract machine over the model, the code of functions on it, and their contracts: what the claim needs.
  No condition: definitions, plain laws, contracts over any program that has this code.
-/
import Derived.Test.YtbjodpkinpnebaaGreatY1
set_option linter.all false
namespace Go.AW
variable [dK]
section
variable {E:tT}{P:Program}{C:Nat→Nat}{τ:Nat→Option Loc}{ρ:List a6}{H:List aB}{a:Act}{w:World}{K:a6→List aB→Prop}
theorem lI{o:Oper}{r:Result Next}{S:Value→World→Prop}{next:Act→World→Prop}{Q:Exit→Act→World→Prop}(h:bJ P r S)(hn:∀u w',S u w'→next (a.put o.dst u) w'):o.upon P a next Q r:=by
 unfold bJ at h
 split at h
 ·exact hn _ _ h
 ·exact hn _ _ h
 ·refine Calls.mono h fun e w'' ⟨v,he,hs⟩=>?_
  subst he;exact hn _ _ hs
 ·exact h.elim
theorem SA.putO(h:SA E C τ ρ H a w){v:a6}{u:Value}(hr:bW C w τ H v u)(d:Option Nat){k:List a6→Prop}(hk:oH ρ d v k):∃ρ',k ρ'∧SA E C τ ρ' H (a.put d u) w:=by
 cases d with
 |none=>exact⟨ρ,hk,h⟩
 |some d =>
  simp only[oH,mP]at hk
  exact⟨_,hk,h.put hr d⟩
theorem sA:bW C w τ H (.tuple []) undef:=.tuple _ _ rfl fun i c v h=>by simp at h
theorem KM{d:Nat}{u:Value}(h:a.tmps.getD d undef=u)(hu:u≠undef):a.tmps[d]?=some u:=by
 simp only[Array.getD_eq_getD_getElem?]at h
 cases hd:a.tmps[d]? with
 |none=>rw[hd]at h;exact absurd h.symm hu
 |some v=>rw[hd]at h;simp at h;rw[h]
theorem yN{ops:Array Oper}{o:Oper}{k:List a6→Bool→Prop}(hs:SA E C τ ρ H a w)
  (h:j7 ρ (o.guard.map fun(j,want)=>((ops[j]?).bind (·.dst),want)) k) :
  ∃ρ',k ρ' (Region.wanted o (yielded ops a.tmps))∧SA E C τ ρ' H a w:=by
 unfold Region.wanted
 cases hg:o.guard with
 |none=>rw[hg]at h;exact⟨ρ,h,hs⟩
 |some g =>
  obtain⟨j,want⟩:=g
  rw[hg]at h
  simp only[Option.map_some]at h
  cases hd:(ops[j]?).bind (·.dst)with
  |none=>rw[hd]at h;exact h.elim
  |some d =>
   rw[hd]at h
   simp only[j7,jI]at h
   have hr:=hs.tmps d
   split at h
   ·rename_i b hv
    rw[hv]at hr
    rw[eN,mP]at h
    have ht:=KM hr.bool_inv (by intro e;cases e)
    refine⟨jP ρ d (.bool b),?_,?_⟩
    ·have:yielded ops a.tmps j=some b:=by simp only[yielded,hd,Option.bind_some,ht]
     simp only[this]
     exact h
    ·have:=hs.put (u:=.bool b) (.rd (.bool b)) d
     have e:a.put (some d) (.bool b)=a:=by
      simp only[Act.put]
      congr 1
      apply Array.ext_getElem?
      intro i
      rw[Array.getElem?_setIfInBounds]
      split
      ·rename_i e;subst e
       split
       ·rw[ht]
       ·rename_i hlt;rw[Array.getElem?_eq_none (by omega)]
      ·rfl
     rw[e]at this
     exact this
   ·rename_i hv
    rw[hv]at hr
    refine⟨ρ,?_,hs⟩
    obtain⟨vs,e,hl,_⟩:=hr.tuple_inv
    have hvs:vs = #[]:=Array.eq_empty_of_size_eq_zero (by simpa using hl.symm)
    subst hvs
    have:yielded ops a.tmps j=none:=by
     simp only[yielded,hd,Option.bind_some]
     simp only[Array.getD_eq_getD_getElem?]at e
     cases ht:a.tmps[d]? with
     |none=>rfl
     |some v =>
      rw[ht]at e
      simp at e
      subst e;rfl
    simp only[this]
    exact h
   ·exact h.elim
theorem lE{ob:List Nat}{ops:Array Oper}{o:Oper}{i:cT}(h:vP P ob ops o=some i):∃ao,cP P (NQ ob o.dst) o.op=some ao∧i={ dst:=o.dst,op:=ao,guard:=o.guard.map fun(j,want)=>((ops[j]?).bind (·.dst),want) }:=by
 simp only[vP,Option.bind_eq_bind,Option.bind_eq_some_iff,Option.pure_def,Option.some.injEq]at h
 obtain⟨ao,h1,h2⟩:=h
 exact⟨ao,h1,h2.symm⟩
theorem o9{ob:List Nat}{ops:Array Oper}{o:Oper}{l:List Oper}{is:List cT}(h:gK P ob ops (o::l)=some is):∃i r,vP P ob ops o=some i∧gK P ob ops l=some r∧is=i::r:=by
 simp only[gK,Option.bind_eq_bind,Option.bind_eq_some_iff,Option.pure_def,Option.some.injEq]at h
 obtain⟨i,h1,r,h2,h3⟩:=h
 exact⟨i,r,h1,h2,h3.symm⟩
theorem qI{ob:List Nat}{ops:Array Oper}{Q:Exit→Act→World→Prop}{Kr:List a6→List aB→Prop}
  (hQ:∀(ρ:List a6) (H:List aB) (a:Act) (w:World) (C:Nat→Nat) (τ:Nat→Option Loc),Kr ρ H→SA E C τ ρ H a w→Q .normal a w) :
  ∀(l:List Oper) (k:Nat) (is:List cT) (C:Nat→Nat) (τ:Nat→Option Loc) (ρ:List a6) (H:List aB) (a:Act) (w:World),(∀j,l[j]?=ops[k+j]?)→gK P ob ops l=some is→PJ P is ρ H Kr→SA E C τ ρ H a w →
   wpOps P ops Q (List.range' k l.length) a w
 |[],k,is,C,τ,ρ,H,a,w,_,hc,h,hs=>by
  simp only[gK,Option.some.injEq]at hc;subst hc
  exact hQ ρ H a w C τ h hs
 |o::l,k,is,C,τ,ρ,H,a,w,hl,hc,h,hs=>by
  obtain⟨i,r,hi,hr,rfl⟩:=o9 hc
  obtain⟨ao,hao,rfl⟩:=lE hi
  have ho:ops[k]?=some o:=by have:=hl 0;simpa using this.symm
  have hl':∀j,l[j]?=ops[k+1+j]?:=fun j=>by have:=hl (j+1);simpa[Nat.add_assoc,Nat.add_comm 1 j]using this
  rw[List.length_cons,List.range'_succ]
  rw[y5]at h
  obtain⟨ρ',h,hs'⟩:=yN hs h
  simp only[wpOps,ho]
  cases hw:Region.wanted o (yielded ops a.tmps)with
  |true =>
   rw[hw]at h
   simp only[if_true]
   refine .inl ?_
   unfold Oper.wp
   refine lI (C6 hao hs' h) fun u w' hout=>?_
   obtain⟨v,C',τ',H',hk,hrel,hsa⟩:=hout
   obtain⟨ρ2,hk2,hsa2⟩:=hsa.putO hrel o.dst hk
   exact qI hQ l (k+1) r C' τ' ρ2 H' _ w' hl' hr hk2 hsa2
  |false =>
   rw[hw]at h
   simp only[Bool.false_eq_true,if_false]
   obtain⟨ρ2,hk2,hsa2⟩:=hs'.putO sA o.dst h
   exact qI hQ l (k+1) r C τ ρ2 H _ w hl' hr hk2 hsa2
def QR(E:tT)(Q:jA→List a6→List aB→Prop):Exit→Act→World→Prop
 |.normal,a,w=>∃ρ H C τ,Q .normal ρ H∧SA E C τ ρ H a w
 |.exit id,a,w=>∃ρ H C τ,Q (.exit id) ρ H∧SA E C τ ρ H a w
 |.ret,a,w=>∃ρ H C τ,Q .ret ρ H∧SA E C τ ρ H a w
 |_,_,_=>False
theorem SA.ghost(hs:SA E C τ ρ H a w){I:List a6→List aB→Prop}(hg:DU (E.H0.map aB.olen) ρ H I):∃ρ1 H1 C1 τ1,I ρ1 H1∧SA E C1 τ1 ρ1 H1 a w:=by
 cases hg with
 |mk h=>exact hs.regroup h
 |rev id kvs ho h =>
  obtain⟨l,hl⟩:∃l,τ id=some l:=by
   cases ht:τ id with
   |none=>obtain⟨esz,he⟩:=hs.st.wf.virt id _ ho ht;cases he
   |some l=>exact⟨l,rfl⟩
  obtain⟨kvs0,bs,ck,es,hp,h1,h2,h3,_,st,s1⟩:=hs.st.reveal ho hl
  exact⟨ρ,_,C,τ,h kvs0 bs ck hp h1 h2 h3,hs.go st s1⟩
theorem B0{ob:List Nat}(hdraw:∀(id:Nat) (ops:Array Oper) (is:List cT) (Q:jA→List a6→List aB→Prop) (C:Nat→Nat) (τ:Nat→Option Loc) (ρ:List a6) (H:List aB) (a:Act) (w:World),gK P ob ops ops.toList=some is→NH P ops is=true→N8 P (E.H0.map aB.olen) (.draw (rN ops is)) Q ρ H→SA E C τ ρ H a w →
  (Code.region id ops true).wp P (QR E Q) a w):∀(c:Code) (ac:g9) (Q:jA→List a6→List aB→Prop) (C:Nat→Nat) (τ:Nat→Option Loc) (ρ:List a6) (H:List aB) (a:Act) (w:World),
  kR P ob c=some ac→N8 P (E.H0.map aB.olen) ac Q ρ H→SA E C τ ρ H a w→c.wp P (QR E Q) a w:=by
 intro c
 induction c with
 |skip =>
  intro ac Q C τ ρ H a w hc h hs
  simp only[kR,Option.some.injEq]at hc;subst hc
  exact wp_skip ⟨ρ,H,C,τ,h,hs⟩
 |region id ops draw =>
  intro ac Q C τ ρ H a w hc h hs
  simp only[kR]at hc
  unfold AE at hc
  split at hc
  case h_2=>simp only[Option.some.injEq]at hc;subst hc;exact h.elim
  rename_i is hi
  split at hc
  case h_2=>simp only[Option.some.injEq]at hc;subst hc;exact h.elim
  rename_i c0 hc0
  simp only[Option.some.injEq]at hc;subst hc
  have hc:=hc0
  unfold GF at hc
  split at hc
  case h_2=>cases hc
  rename_i c hc1
  unfold AD at hc1
  have main:∀(Q:jA→List a6→List aB→Prop) (C:Nat→Nat) (τ:Nat→Option Loc) (ρ:List a6) (H:List aB),SA E C τ ρ H a w→N8 P (E.H0.map aB.olen) c Q ρ H→(Code.region id ops draw).wp P (QR E Q) a w:=by
   intro Q C τ ρ H hs h
   cases draw with
   |true =>
    simp only[if_true]at hc1
    split at hc1
    ·rename_i hb
     simp only[Option.some.injEq]at hc1;subst hc1
     exact hdraw id ops is Q C τ ρ H a w hi hb h hs
    ·cases hc1
   |false =>
    simp only[Bool.false_eq_true,if_false,Option.some.injEq]at hc1;subst hc1
    refine wp_region ?_
    have:=qI (E:=E) (Q:=QR E Q) (Kr:=Q .normal) (fun ρ H a w C τ hk hs=>⟨ρ,H,C,τ,hk,hs⟩) ops.toList 0 is C τ ρ H a w (fun j=>by simp) hi h hs
    rw[List.range_eq_range']
    simpa using this
  split at hc
  ·simp only[Option.some.injEq]at hc;subst hc
   rw[zZ]at h
   refine wp_mono (main _ C τ ρ H hs h) fun e a' w' hq=>?_
   cases e with
   |normal =>
    obtain⟨ρ',H',C',τ',hk,hs'⟩:=hq
    obtain⟨ρ1,H1,C1,τ1,hI,hs1⟩:=hs'.ghost (show DU (E.H0.map aB.olen) ρ' H' (fun ρ1 H1=>dL ρ1 fun ρ1=>Q .normal ρ1 H1)from hk)
    rw[dC]at hI
    exact⟨ρ1,H1,C1,τ1,hI,hs1⟩
   |exit id=>exact hq
   |ret=>exact hq
   |_=>exact hq.elim
  ·split at hc
   ·simp only[Option.some.injEq]at hc;subst hc
    rw[zZ]at h
    obtain⟨ρ1,H1,C1,τ1,hI,hs1⟩:=hs.ghost (show DU (E.H0.map aB.olen) ρ H (fun ρ1 H1=>dL ρ1 fun ρ1=>N8 P (E.H0.map aB.olen) c Q ρ1 H1)from h)
    rw[dC]at hI
    exact main Q C1 τ1 ρ1 H1 hs1 hI
   ·simp only[Option.some.injEq]at hc;subst hc
    exact main Q C τ ρ H hs h
 |seq x y ihx ihy =>
  intro ac Q C τ ρ H a w hc h hs
  simp only[kR,Option.bind_eq_bind,Option.bind_eq_some_iff,Option.pure_def,Option.some.injEq]at hc
  obtain⟨ax,hx,ay,hy,rfl⟩:=hc
  refine wp_seq (wp_mono (ihx ax _ C τ ρ H a w hx h hs) fun e a' w' hq=>?_)
  cases e with
  |normal=>obtain⟨ρ',H',C',τ',hk,hs'⟩:=hq;exact ihy ay Q C' τ' ρ' H' a' w' hy hk hs'
  |exit id=>exact hq
  |ret=>exact hq
  |_=>exact hq.elim
 |cond c x y ihx ihy =>
  intro ac Q C τ ρ H a w hc h hs
  simp only[kR,Option.bind_eq_bind,Option.bind_eq_some_iff,Option.pure_def,Option.some.injEq]at hc
  obtain⟨oc,hoc,ax,hx,ay,hy,rfl⟩:=hc
  simp only[QP,bD]at h
  have hr:=hs.ev hoc
  split at h
  case h_2=>exact h.elim
  rename_i t hv
  rw[hv]at hr
  rw[eN]at h
  refine wp_cond hr.bool_inv ?_
  cases t with
  |true=>exact ihx ax Q C τ ρ H a w hx h hs
  |false=>exact ihy ay Q C τ ρ H a w hy h hs
 |block id x ih =>
  intro ac Q C τ ρ H a w hc h hs
  simp only[kR,Option.bind_eq_bind,Option.bind_eq_some_iff,Option.pure_def,Option.some.injEq]at hc
  obtain⟨ax,hx,rfl⟩:=hc
  have main:∀(Q:jA→List a6→List aB→Prop),N8 P (E.H0.map aB.olen) (.block id ax) Q ρ H→(Code.block id x).wp P (QR E Q) a w:=by
   intro Q h
   refine wp_block (wp_mono (ih ax _ C τ ρ H a w hx h hs) fun e a' w' hq=>?_)
   cases e with
   |normal=>exact hq
   |exit id' =>
    obtain⟨ρ',H',C',τ',hk,hs'⟩:=hq
    simp only[Exit.inBlock]
    by_cases hid:id'=id
    ·simp only[hid,if_true]at hk ⊢;exact⟨ρ',H',C',τ',hk,hs'⟩
    ·simp only[hid,if_false]at hk ⊢;exact⟨ρ',H',C',τ',hk,hs'⟩
   |ret=>exact hq
   |_=>exact hq.elim
  unfold L9 at h
  split at h
  ·rw[zZ]at h
   refine wp_mono (main _ h) fun e a' w' hq=>?_
   cases e with
   |normal =>
    obtain⟨ρ',H',C',τ',hk,hs'⟩:=hq
    obtain⟨ρ1,H1,C1,τ1,hI,hs1⟩:=hs'.ghost (show DU (E.H0.map aB.olen) ρ' H' (fun ρ1 H1=>dL ρ1 fun ρ1=>Q .normal ρ1 H1)from hk)
    rw[dC]at hI
    exact⟨ρ1,H1,C1,τ1,hI,hs1⟩
   |exit id=>exact hq
   |ret=>exact hq
   |_=>exact hq.elim
  ·exact main Q h
 |loop x ih =>
  intro ac Q C τ ρ H a w hc h hs
  simp only[kR,Option.bind_eq_bind,Option.bind_eq_some_iff,Option.pure_def,Option.some.injEq]at hc
  obtain⟨ax,hx,rfl⟩:=hc
  obtain⟨I,n0,vs,h0,hround⟩:=h
  have key:∀(n:Nat) (C:Nat→Nat) (τ:Nat→Option Loc) (ρ:List a6) (H:List aB) (a:Act) (w:World),I n ρ H→SA E C τ ρ H a w →
    ∀(b:Frame) (k:List Item) (cs:List Frame),∃e a' w',QR E Q e a' w'∧Arrives P (lone (b.at a (.code x::.inLoop x::k)) cs w) b k cs e a' w':=by
   intro n
   induction n using Nat.strongRecOn with
   |_ n ihn =>
    intro C τ ρ H a w hI hs b k cs
    obtain⟨e,a1,w1,hq,harr⟩:=ih ax _ C τ ρ H a w hx (by have h:=hround n ρ H hI;rw[dC]at h;exact h) hs b (.inLoop x::k) cs
    cases e with
    |normal =>
     obtain⟨ρ0,H0,C0,τ0,⟨m,hlt,hg⟩,hs0⟩:=hq
     obtain⟨ρ',H',C',τ',hI',hs'⟩:=hs0.regroup hg
     obtain⟨e2,a2,w2,hq2,harr2⟩:=ihn m hlt C' τ' ρ' H' a1 w1 hI' hs' b k cs
     exact⟨e2,a2,w2,hq2,.of_steps (Steps.trans harr (.one step_inLoop)) harr2⟩
    |exit id=>exact⟨.exit id,a1,w1,hq,.pass (x:=.inLoop x) rfl (fun _ _=>.inl (by simp)) harr⟩
    |ret=>exact⟨.ret,a1,w1,hq,.pass (x:=.inLoop x) rfl (fun _ _=>.inl (by simp)) harr⟩
    |goto l=>exact hq.elim
    |panic ch=>exact hq.elim
    |outgrown=>exact hq.elim
  intro b k cs
  obtain⟨τ1,ρ1,H1,h1,hs1⟩:=hs.nv vs h0
  obtain⟨e,a',w',hq,harr⟩:=key n0 C τ1 ρ1 H1 a w h1 hs1 b k cs
  exact⟨e,a',w',hq,.of_steps (.one step_loop) harr⟩
 |exit id =>
  intro ac Q C τ ρ H a w hc h hs
  simp only[kR,Option.some.injEq]at hc;subst hc
  exact wp_exit ⟨ρ,H,C,τ,h,hs⟩
 |ret =>
  intro ac Q C τ ρ H a w hc h hs
  simp only[kR,Option.some.injEq]at hc;subst hc
  exact wp_ret ⟨ρ,H,C,τ,h,hs⟩
 |_=>intro ac Q C τ ρ H a w hc h;simp only[kR,Option.some.injEq]at hc;subst hc;exact h.elim
end
section
variable {E:tT}{P:Program}{C:Nat→Nat}{τ:Nat→Option Loc}{ρ ρ':List a6}{H:List aB}{a:Act}{w:World}
def KY(P:Program)(o:oK)(ρ:List a6)(H:List aB)(v:a6):Prop:=∀K:a6→List aB→Prop,K v H→d7 P o ρ H K
theorem a7.ret'{f:FuncId}{args:List a6}{R:a6}{H1:List aB}{Q:a6→List aB→Prop}(h:a7 P f args H (fun r H'=>r=R∧H'=H1))(hq:Q R H1):a7 P f args H Q:=by
 have mono:∀r H',(r=R∧H'=H1)→Q r H':=fun r H' ⟨h1,h2⟩=>by subst h1 h2;exact hq
 intro C τ w vs hw hl hr
 have h:=h C τ w vs hw hl hr
 unfold eS at h⊢
 split at h
 ·exact Calls.mono h fun e w' ⟨v,r,C',τ',H',h1,h2,h3⟩=>⟨v,r,C',τ',H',h1,mono _ _ h2,h3⟩
 ·obtain⟨v,r,C',τ',H',h1,h2,h3⟩:=h
  exact⟨v,r,C',τ',H',h1,mono _ _ h2,h3⟩
 ·exact h
theorem QU{op:BinOp}{x y:a6}{k:a6→Prop}(h:QT op x y k):∃v,k v∧∀k':a6→Prop,k' v→QT op x y k':=by
 unfold QT at h⊢
 split at h
 ·rename_i kx a ky b
  cases op<;>simp only[aG]at h⊢<;>first
   |exact h.2.elim
   |exact⟨_,h.2.2,fun k' hk=>⟨h.1,h.2.1,hk⟩⟩
   |exact⟨_,h.2,fun k' hk=>⟨h.1,hk⟩⟩
 ·cases op<;>simp only[]at h⊢<;>first
   |exact h.elim
   |exact⟨_,h.2,fun k' hk=>⟨h.1,hk⟩⟩
   |exact⟨_,h,fun k' hk=>hk⟩
 ·exact h.elim
theorem vU:∀(ks:List Nat) (xs ys:List a6) {k:Bool→Prop},kE ks xs ys k→∃b,k b∧∀k':Bool→Prop,k' b→kE ks xs ys k'
 |[],[],[],k,h=>⟨true,h,fun k' hk=>hk⟩
 |n::ns,x::xs,y::ys,k,h=>by
  unfold kE at h⊢
  split at h
  ·rename_i b _
   obtain⟨c,hc,hk⟩:=vU ns xs ys h
   exact⟨b&&c,hc,fun k' hk'=>hk _ hk'⟩
  ·exact h.elim
 |[],[],_::_,_,h=>h.elim
 |[],_::_,_,_,h=>h.elim
 |_::_,[],_,_,h=>h.elim
 |_::_,_::_,[],_,h=>h.elim
theorem IG(ks:List Nat)(xs ys:List a6){k:Bool→Prop}(h:vT ks xs ys k):∃b,k b∧∀k':Bool→Prop,k' b→vT ks xs ys k':=by
 rw[nM]at h
 obtain⟨b,h1,h2⟩:=vU ks xs ys h
 exact⟨b,h1,fun k' hk=>by rw[nM];exact h2 k' hk⟩
theorem UQ{op:UnOp}{x:a6}{k:a6→Prop}(h:XS op x k):∃v,k v∧∀k':a6→Prop,k' v→XS op x k':=by
 unfold XS at h⊢
 split at h
 ·exact⟨_,h,fun _ hk=>hk⟩
 ·exact⟨_,h,fun _ hk=>hk⟩
 ·exact h.elim
theorem lM{lo hi:Option bA}{len:Nat}{k:Nat→Nat→Prop}(h:gC ρ lo hi len k):∃l r,k l r∧∀k':Nat→Nat→Prop,k' l r→gC ρ lo hi len k':=by
 cases lo<;>cases hi<;>simp only[gC,bD]at h⊢
 ·exact⟨_,_,h,fun _ hk=>hk⟩
 all_goals
  split at h<;>first
   |exact h.elim
   |exact⟨_,_,h.2,fun _ hk=>⟨h.1,hk⟩⟩
theorem mM{sz:Nat}{x:a6}{k:List (List a6)→Prop}(h:gL H sz x k):∃es,k es∧∀k':List (List a6)→Prop,k' es→gL H sz x k':=by
 unfold gL at h⊢
 split at h
 ·exact⟨_,h,fun _ hk=>hk⟩
 ·simp only[aG]at h⊢;exact⟨_,h.2,fun _ hk=>⟨h.1,hk⟩⟩
 ·simp only[cM,b6]at h⊢
  obtain⟨o,ho,h⟩:=h
  split at h
  ·simp only[aG]at h;exact⟨_,h.2.2,fun _ hk=>⟨_,ho,by simp only[aG];exact⟨h.1,h.2.1,hk⟩⟩⟩
  ·exact h.elim
 ·simp only[aG]at h⊢;exact⟨_,h.2,fun _ hk=>⟨h.1,hk⟩⟩
 ·exact h.elim
theorem E6:∀(ps:List (Nat×Nat×bA)) (cs:List a6) {k:List a6→Prop},vW ρ ps cs k→∃v,k v∧∀k':List a6→Prop,k' v→vW ρ ps cs k'
 |[],cs,k,h=>⟨cs,h,fun _ hk=>hk⟩
 |(off,sz,x)::ps,cs,k,h=>by
  simp only[pR,bD]at h⊢
  split at h
  ·simp only[aG]at h
   obtain⟨v,hv,hk⟩:=E6 ps _ h.2
   exact⟨v,hv,fun k' hk'=>by simp only[aG];exact⟨h.1,hk _ hk'⟩⟩
  ·exact h.elim
theorem uK{sz:Nat}:∀(ps:List (Nat×bA)) (es:List (List a6)) {k:List (List a6)→Prop},oD ρ sz ps es k→∃v,k v∧∀k':List (List a6)→Prop,k' v→oD ρ sz ps es k'
 |[],es,k,h=>⟨es,h,fun _ hk=>hk⟩
 |(i,x)::ps,es,k,h=>by
  simp only[rP,bD,dC,wF]at h⊢
  split at h
  ·simp only[aG]at h
   obtain⟨v,hv,hk⟩:=uK ps _ h.2
   exact⟨v,hv,fun k' hk'=>by simp only[aG];exact⟨h.1,hk _ hk'⟩⟩
  ·exact h.elim
theorem G7{o:oK}(hq:o.quiet=true){k:a6→Prop}(h:EI P o ρ H k):∃v,k v∧KY P o ρ H v:=by
 unfold KY
 cases o<;>simp only[oK.quiet]at hq<;>try(cases hq;done)
 case call f args =>
  simp only[EI,d7,dA]at h⊢
  obtain⟨r,h1,h2⟩:=h
  exact⟨r,h2,fun K hk=>h1.ret' hk⟩
 case callv x args =>
  simp only[EI,d7,dA,bD]at h⊢
  split at h
  ·obtain⟨r,h1,h2⟩:=h
   exact⟨r,h2,fun K hk=>h1.ret' hk⟩
  ·exact h.elim
 all_goals simp only[EI,d7,dA,bD,dC]at h⊢
 case move=>exact⟨_,h,fun _ hk=>hk⟩
 case pick =>
  split at h
  ·rename_i t _
   simp only[eN]at h⊢
   cases t<;>simp only[]at h⊢<;>exact⟨_,h,fun _ hk=>hk⟩
  ·exact h.elim
 case build =>
  obtain⟨v,hv,hk⟩:=E6 _ _ h
  exact⟨_,hv,fun _ hk'=>hk _ hk'⟩
 case buildSlice =>
  obtain⟨v,hv,hk⟩:=uK _ _ h
  simp only[aG]at hv
  exact⟨_,hv.2,fun _ hk'=>hk _ (by simp only[aG];exact⟨hv.1,hk'⟩)⟩
 case load =>
  split at h
  ·simp only[cM,b6]at h⊢
   obtain⟨ob,hob,h⟩:=h
   split at h
   ·simp only[iW,aG]at h
    obtain⟨h1,e,h2,h3,h4⟩:=h
    exact⟨_,h4,fun _ hk=>⟨_,hob,by simp only[iW,aG];exact⟨h1,e,h2,h3,hk⟩⟩⟩
   ·exact h.elim
  ·simp only[aG]at h⊢
   exact⟨_,h.2,fun _ hk=>⟨h.1,hk⟩⟩
  ·exact h.elim
 case bin =>
  obtain⟨v,hv,hk⟩:=QU h
  exact⟨v,hv,fun _ hk'=>hk _ hk'⟩
 case eqb neg x y =>
  split at h
  ·cases neg<;>simp only[]at h⊢<;>exact⟨_,h,fun _ hk=>hk⟩
  ·exact h.elim
 case eqs neg ks x y =>
  split at h
  ·obtain⟨b,hb,hk⟩:=IG _ _ _ h
   cases neg<;>simp only[]at hb ⊢<;>exact⟨_,hb,fun _ hk'=>hk _ hk'⟩
  ·exact h.elim
 case un =>
  obtain⟨v,hv,hk⟩:=UQ h
  exact⟨v,hv,fun _ hk'=>hk _ hk'⟩
 case conv=>split at h<;>first|exact h.elim|exact⟨_,h,fun _ hk=>hk⟩
 case convBS =>
  split at h
  ·exact⟨_,h,fun _ hk=>hk⟩
  ·obtain⟨es,⟨l,hl,h⟩,hk⟩:=mM h
   exact⟨_,h,fun _ hk'=>hk _ ⟨l,hl,hk'⟩⟩
  ·obtain⟨es,⟨l,hl,h⟩,hk⟩:=mM h
   exact⟨_,h,fun _ hk'=>hk _ ⟨l,hl,hk'⟩⟩
  ·exact h.elim
 case slice =>
  split at h
  ·obtain⟨l,r,hb,hk⟩:=lM h
   exact⟨_,hb,fun _ hk'=>hk _ hk'⟩
  ·simp only[aG]at h⊢
   obtain⟨l,r,hb,hk⟩:=lM h.2
   exact⟨_,hb,fun _ hk'=>⟨h.1,hk _ hk'⟩⟩
  ·simp only[cM,b6]at h⊢
   obtain⟨ob,hob,h⟩:=h
   split at h
   ·simp only[aG]at h
    obtain⟨l,r,hb,hk⟩:=lM h.2.2
    exact⟨_,hb,fun _ hk'=>⟨_,hob,by simp only[aG];exact⟨h.1,h.2.1,hk _ hk'⟩⟩⟩
   ·exact h.elim
  ·simp only[aG,cM,b6]at h⊢
   obtain⟨hs,ob,hob,h⟩:=h
   split at h
   ·obtain⟨l,r,hb,hk⟩:=lM h.2.2
    exact⟨_,hb,fun _ hk'=>⟨hs,_,hob,⟨h.1,h.2.1,hk _ hk'⟩⟩⟩
   ·exact h.elim
  ·exact h.elim
 case sliceStr =>
  split at h
  ·obtain⟨l,r,hb,hk⟩:=lM h
   exact⟨_,hb,fun _ hk'=>hk _ hk'⟩
  ·exact h.elim
 case fieldAddr=>split at h<;>first|exact h.elim|exact⟨_,h,fun _ hk=>hk⟩
 case field =>
  split at h
  ·simp only[aG]at h⊢
   exact⟨_,h.2,fun _ hk=>⟨h.1,hk⟩⟩
  ·exact h.elim
 case indexAddr =>
  split at h
  ·split at h
   ·simp only[aG,b6]at h⊢
    obtain⟨h1,h2,e,h3,h4⟩:=h
    exact⟨_,h4,fun _ hk=>⟨h1,h2,e,h3,hk⟩⟩
   ·simp only[cM,b6]at h⊢
    obtain⟨ob,hob,h⟩:=h
    split at h
    ·simp only[aG]at h
     exact⟨_,h.2.2.2,fun _ hk=>⟨_,hob,by simp only[aG];exact⟨h.1,h.2.1,h.2.2.1,hk⟩⟩⟩
    ·exact h.elim
   ·simp only[cM,b6]at h⊢
    obtain⟨ob,hob,h⟩:=h
    split at h
    ·simp only[aG]at h
     exact⟨_,h.2.2.2,fun _ hk=>⟨_,hob,by simp only[aG];exact⟨h.1,h.2.1,h.2.2.1,hk⟩⟩⟩
    ·exact h.elim
   ·exact h.elim
  ·exact h.elim
 case indexStr =>
  split at h
  ·simp only[b6]at h⊢
   obtain⟨h1,e,h2,h3⟩:=h
   exact⟨_,h3,fun _ hk=>⟨h1,e,h2,hk⟩⟩
  ·exact h.elim
 case extract =>
  split at h
  ·simp only[b6]at h⊢
   obtain⟨e,h2,h3⟩:=h
   exact⟨_,h3,fun _ hk=>⟨e,h2,hk⟩⟩
  ·exact h.elim
 case makeFunc=>exact⟨_,h,fun _ hk=>hk⟩
 case len =>
  split at h
  ·exact⟨_,h,fun _ hk=>hk⟩
  ·exact⟨_,h,fun _ hk=>hk⟩
  ·simp only[cM,b6]at h⊢
   obtain⟨ob,hob,h⟩:=h
   split at h
   ·simp only[aG]at h
    exact⟨_,h.2,fun _ hk=>⟨_,hob,by simp only[aG];exact⟨h.1,hk⟩⟩⟩
   ·exact h.elim
  ·exact⟨_,h,fun _ hk=>hk⟩
  ·exact h.elim
 case capS=>split at h<;>first|exact h.elim|exact⟨_,h,fun _ hk=>hk⟩
 case lenS=>split at h<;>first|exact h.elim|exact⟨_,h,fun _ hk=>hk⟩
 case convSS=>split at h<;>first|exact h.elim|exact⟨_,h,fun _ hk=>hk⟩
 case mn=>split at h<;>first|exact h.elim|exact⟨_,h,fun _ hk=>hk⟩
 case mx=>split at h<;>first|exact h.elim|exact⟨_,h,fun _ hk=>hk⟩
 case nop=>split at h<;>first|exact h.elim|exact⟨_,h,fun _ hk=>hk⟩
 case slice3 =>
  split at h
  ·split at h
   ·exact⟨_,h.2,fun _ hk=>⟨h.1,hk⟩⟩
   ·simp only[aG]at h⊢
    exact⟨_,h.2.2,fun _ hk=>⟨h.1,h.2.1,hk⟩⟩
   ·simp only[cM,b6]at h⊢
    obtain⟨ob,hob,h⟩:=h
    split at h
    ·rename_i i _ _ _ _ _ _ _ _ _ _ _
     simp only[aG,eN]at h
     obtain⟨h1,h2,h3,h4⟩:=h
     split at h4
     ·rename_i e;exact⟨_,h4,fun _ hk=>⟨_,hob,by simp only[aG,eN,e];exact⟨h1,h2,h3,hk⟩⟩⟩
     ·rename_i e;exact⟨_,h4,fun _ hk=>⟨_,hob,by simp only[aG,eN,e];exact⟨h1,h2,h3,hk⟩⟩⟩
    ·exact h.elim
   ·exact h.elim
  ·exact h.elim
 case arrAddr =>
  split at h
  ·split at h<;>first|exact h.elim|exact⟨_,h.2,fun _ hk=>⟨h.1,hk⟩⟩
  ·exact h.elim
 case slice00 =>
  split at h
  ·exact⟨_,h,fun _ hk=>hk⟩
  ·simp only[aG]at h⊢
   exact⟨_,h.2,fun _ hk=>⟨h.1,hk⟩⟩
  ·exact⟨_,h,fun _ hk=>hk⟩
  ·exact h.elim
 case lenM =>
  split at h
  ·exact⟨_,h,fun _ hk=>hk⟩
  ·simp only[cM,b6]at h⊢
   obtain⟨ob,hob,h⟩:=h
   split at h
   ·exact⟨_,h,fun _ hk=>⟨_,hob,hk⟩⟩
   ·exact⟨_,h,fun _ hk=>⟨_,hob,hk⟩⟩
   ·exact h.elim
  ·exact h.elim
 case isNilM=>split at h<;>first|exact h.elim|exact⟨_,h,fun _ hk=>hk⟩
 case isNilP=>split at h<;>first|exact h.elim|exact⟨_,h,fun _ hk=>hk⟩
 case lookupM n zero ok m x =>
  cases ok
  all_goals
   split at h
   ·simp only[aG]at h⊢
    exact⟨_,h.2,fun _ hk=>⟨h.1,hk⟩⟩
   ·simp only[cM,b6]at h⊢
    obtain⟨ob,hob,h⟩:=h
    split at h
    ·rename_i kvs
     rw[aG]at h
     obtain⟨h1,h⟩:=h
     cases hf:j4 n (ev ρ x) kvs<;>rw[hf]at h<;>exact⟨_,h,fun K hK=>⟨_,hob,by simp only[aG,hf];exact⟨h1,hK⟩⟩⟩
    ·rename_i kvs _ _
     rw[aG]at h
     obtain⟨h1,h⟩:=h
     cases hf:j4 n (ev ρ x) kvs<;>rw[hf]at h<;>exact⟨_,h,fun K hK=>⟨_,hob,by simp only[aG,hf];exact⟨h1,hK⟩⟩⟩
    ·exact h.elim
   ·exact h.elim
theorem cV{x:bA}(h:∀t∈x.slots,cO ρ' t=cO ρ t):ev ρ' x=ev ρ x:=by
 cases x with
 |t n=>exact h n (by simp[bA.slots])
 |c v=>rfl
theorem oV:∀(xs:List bA),(∀t∈xs.flatMap bA.slots,cO ρ' t=cO ρ t)→xs.map (ev ρ')=xs.map (ev ρ)
 |[],_=>rfl
 |x::xs,h=>by
  rw[List.map_cons,List.map_cons,cV fun t ht=>h t (by simp[ht]),oV xs fun t ht=>h t (by
   simp only[List.flatMap_cons,List.mem_append];exact .inr ht)]
theorem B9:∀(ps:List (Nat×Nat×bA)) (cs:List a6) (k:List a6→Prop),(∀t∈ps.flatMap fun p=>p.2.2.slots,cO ρ' t=cO ρ t)→vW ρ' ps cs k=vW ρ ps cs k
 |[],cs,k,_=>rfl
 |(off,sz,x)::ps,cs,k,h=>by
  simp only[pR,bD]
  rw[cV fun t ht=>h t (by simp[ht])]
  split
  ·rw[B9 ps _ k fun t ht=>h t (by simp only[List.flatMap_cons,List.mem_append];exact .inr ht)]
  ·rfl
theorem rQ{sz:Nat}:∀(ps:List (Nat×bA)) (es:List (List a6)) (k:List (List a6)→Prop),(∀t∈ps.flatMap fun p=>p.2.slots,cO ρ' t=cO ρ t)→oD ρ' sz ps es k=oD ρ sz ps es k
 |[],es,k,_=>rfl
 |(i,x)::ps,es,k,h=>by
  simp only[rP,bD,dC,wF]
  rw[cV fun t ht=>h t (by simp[ht])]
  split
  ·rw[rQ ps _ k fun t ht=>h t (by simp only[List.flatMap_cons,List.mem_append];exact .inr ht)]
  ·rfl
theorem vL{lo hi:Option bA}{len:Nat}{k:Nat→Nat→Prop}(h:∀t∈lS lo++lS hi,cO ρ' t=cO ρ t):gC ρ' lo hi len k=gC ρ lo hi len k:=by
 cases lo<;>cases hi<;>simp only[gC,bD]
 ·rw[cV fun t ht=>h t (by simp[lS,ht])]
 ·rw[cV fun t ht=>h t (by simp[lS,ht])]
 ·rw[cV fun t ht=>h t (by simp[lS,ht]),cV fun t ht=>h t (by simp[lS,ht])]
theorem RY{o:oK}(h:∀t∈o.slots,cO ρ' t=cO ρ t)(K:a6→List aB→Prop):d7 P o ρ' H K=d7 P o ρ H K:=by
 cases o
 all_goals simp only[d7,bD,dA]
 all_goals simp only[oK.slots]at h
 case build=>exact B9 _ _ _ h
 case buildSlice=>exact rQ _ _ _ h
 case buildSliceO=>exact rQ _ _ _ h
 case call=>rw[oV _ h]
 case callE=>rw[oV _ h]
 case makeFunc=>rw[oV _ h]
 case callv=>rw[cV fun t ht=>h t (by simp[ht]),oV _ fun t ht=>h t (by simp only[List.mem_append];exact .inr ht)]
 case callvE=>rw[cV fun t ht=>h t (by simp[ht]),oV _ fun t ht=>h t (by simp only[List.mem_append];exact .inr ht)]
 case pick=>rw[cV fun t ht=>h t (by simp[ht]),cV fun t ht=>h t (by simp[ht]),cV fun t ht=>h t (by simp[ht])]
 case slice=>simp only[cV fun t ht=>h t (by simp only[List.mem_append];exact .inl (.inl ht)),vL fun t ht=>h t (by simp only[List.mem_append]at ht ⊢;rcases ht with ht|ht;exact .inl (.inr ht);exact .inr ht)]
 case sliceStr=>simp only[cV fun t ht=>h t (by simp only[List.mem_append];exact .inl (.inl ht)),vL fun t ht=>h t (by simp only[List.mem_append]at ht ⊢;rcases ht with ht|ht;exact .inl (.inr ht);exact .inr ht)]
 case mapSet=>rw[cV fun t ht=>h t (by simp[ht]),cV fun t ht=>h t (by simp[ht]),cV fun t ht=>h t (by simp[ht])]
 case slice3=>rw[cV fun t ht=>h t (by simp[ht]),cV fun t ht=>h t (by simp[ht]),cV fun t ht=>h t (by simp[ht])]
 case entryStoreM=>rw[cV fun t ht=>h t (by simp[ht]),cV fun t ht=>h t (by simp[ht]),cV fun t ht=>h t (by simp[ht])]
 all_goals first
  |rfl
  |rw[cV h]
  |rw[cV fun t ht=>h t (by simp[ht]),cV fun t ht=>h t (by simp[ht])]
  |simp only[cV fun t ht=>h t (by simp[ht]),cV fun t ht=>h t (by simp[ht])]
def l7(ρ:List a6)(g:Option (Option Nat×Bool)):Option Bool :=
 match g with
 |none=>some true
 |some (some d,want)=>match cO ρ d with
  |.bool b=>some (b==want)
  |.tuple []=>some false
  |_=>none
 |some (none,_)=>none
theorem y6:∀(l:List a6) (n:Nat) (v:a6),cO l n=v→jP l n v=l
 |[],_,_,_=>rfl
 |x::xs,0,v,h=>by simp only[cO]at h;subst h;rfl
 |x::xs,n+1,v,h=>by simp only[cO]at h;simp only[jP,y6 xs n v h]
theorem uO{g:Option (Option Nat×Bool)}{k:List a6→Bool→Prop}(h:j7 ρ g k):∃t,l7 ρ g=some t∧k ρ t:=by
 unfold j7 at h
 split at h
 ·exact⟨true,rfl,h⟩
 ·rename_i d want
  simp only[jI]at h
  unfold l7
  split at h
  ·rename_i b hv
   rw[eN,mP,y6 _ _ _ hv]at h
   exact⟨_,by simp only[hv],h⟩
  ·rename_i hv
   exact⟨_,by simp only[hv],h⟩
  ·exact h.elim
 ·exact h.elim
def jD(ρ:List a6)(d:Option Nat)(v:a6):List a6 :=
 match d with
 |some d=>jP ρ d v
 |none=>ρ
theorem fU(d:Option Nat)(v:a6)(k:List a6→Prop):oH ρ d v k=k (jD ρ d v):=by
 cases d with
 |none=>rfl
 |some d=>exact mP _ _ _ _
theorem xD{d:Option Nat}{v:a6}{t:Nat}(h:d≠some t):cO (jD ρ d v) t=cO ρ t:=by
 cases d with
 |none=>rfl
 |some d =>
  simp only[jD,l6]
  rw[if_neg]
  rintro⟨rfl,_⟩
  exact h rfl
def sS(P:Program)(o:oK)(ρ:List a6)(H:List aB)(v:a6)(H':List aB):Prop:=∀K:a6→List aB→Prop,K v H'→d7 P o ρ H K
theorem HX{sz bytes:Nat}{zero:List a6}{v:a6}{new:List (List a6)}{k:a6→List aB→Prop}(h:L5 H sz bytes zero v new k):∃r H',k r H'∧∀k':a6→List aB→Prop,k' r H'→L5 H sz bytes zero v new k':=by
 unfold L5 at h⊢
 simp only[dG,fO,cM,b6,aG]at h⊢
 split at h
 ·exact⟨_,_,h.2,fun _ hk'=>⟨h.1,hk'⟩⟩
 ·rename_i s es
  obtain⟨h1,h⟩:=h
  cases es with
  |nil=>exact⟨_,_,h.2,fun _ hk'=>⟨h1,h.1,hk'⟩⟩
  |cons e0 es0 =>
   cases new with
   |nil=>exact⟨_,_,h,fun _ hk'=>⟨h1,hk'⟩⟩
   |cons f0 fs0=>exact⟨_,_,h.2,fun _ hk'=>⟨h1,h.1,hk'⟩⟩
 ·obtain⟨ob,hob,h⟩:=h
  split at h
  ·exact⟨_,_,h.2.2.2,fun _ hk'=>⟨_,hob,by simp only[aG];exact⟨h.1,h.2.1,h.2.2.1,hk'⟩⟩⟩
  ·exact h.elim
 ·obtain⟨ob,hob,h⟩:=h
  split at h
  ·obtain⟨h1,h2,h3|h3⟩:=h
   ·exact⟨_,_,h3.2,fun _ hk'=>⟨_,hob,by simp only[aG];exact⟨h1,h2,.inl ⟨h3.1,hk'⟩⟩⟩⟩
   ·exact⟨_,_,h3.2,fun _ hk'=>⟨_,hob,by simp only[aG];exact⟨h1,h2,.inr ⟨h3.1,hk'⟩⟩⟩⟩
  ·exact h.elim
 ·exact h.elim
theorem NX{o:oK}(hq:o.effect=true){k:a6→List aB→Prop}(h:QA P o ρ H k):∃v H',k v H'∧sS P o ρ H v H':=by
 unfold sS
 cases o<;>simp only[oK.effect]at hq<;>try(cases hq;done)
 case callE f args =>
  simp only[QA,d7,dA]at h⊢
  obtain⟨r,H1,h1,h2⟩:=h
  exact⟨r,H1,h2,fun K hk=>a7.ret' h1 hk⟩
 case callvE x args =>
  simp only[QA,d7,dA,bD]at h⊢
  split at h
  ·obtain⟨r,H1,h1,h2⟩:=h
   exact⟨r,H1,h2,fun K hk=>a7.ret' h1 hk⟩
  ·exact h.elim
 all_goals simp only[QA,d7,bD,dC,dG,fO]at h⊢
 case alloc =>
  simp only[aG]at h⊢
  exact⟨_,_,h.2,fun _ hk=>⟨h.1,hk⟩⟩
 case box =>
  split at h
  ·simp only[aG]at h⊢
   exact⟨_,_,h.2,fun _ hk=>⟨h.1,hk⟩⟩
  ·exact h.elim
 case buildSliceO =>
  obtain⟨v,hv,hk⟩:=uK _ _ h
  simp only[aG]at hv
  exact⟨_,_,hv.2,fun _ hk'=>hk _ (by simp only[aG];exact⟨hv.1,hk'⟩)⟩
 case store =>
  split at h
  ·split at h
   ·simp only[cM,b6]at h⊢
    obtain⟨ob,hob,h⟩:=h
    split at h
    ·simp only[iW,aG]at h
     obtain⟨h1,e,h2,h3,h4⟩:=h
     exact⟨_,_,h4,fun _ hk=>⟨_,hob,by simp only[iW,aG];exact⟨h1,e,h2,h3,hk⟩⟩⟩
    ·exact h.elim
   ·exact h.elim
  ·exact h.elim
 case convSB =>
  split at h
  ·exact⟨_,_,h.2,fun _ hk=>⟨h.1,hk⟩⟩
  ·exact h.elim
 case mkSlice =>
  split at h
  ·simp only[aG]at h⊢
   exact⟨_,_,h.2.2,fun _ hk=>⟨h.1,h.2.1,hk⟩⟩
  ·exact h.elim
 case mkSliceC =>
  split at h
  ·simp only[aG]at h⊢
   exact⟨_,_,h.2.2,fun _ hk=>⟨h.1,h.2.1,hk⟩⟩
  ·exact h.elim
 case mark =>
  split at h
  ·simp only[cM,b6]at h⊢
   obtain⟨ob,hob,h⟩:=h
   split at h
   ·simp only[aG]at h
    exact⟨_,_,h.2,fun _ hk=>⟨_,hob,by simp only[aG];exact⟨h.1,hk⟩⟩⟩
   ·exact h.elim
  ·exact h.elim
 case appendI =>
  obtain⟨new,h,hk⟩:=mM h
  simp only[aG]at h
  obtain⟨h0,h⟩:=h
  split at h
  ·simp only[cM,b6]at h
   obtain⟨ob,hob,h⟩:=h
   split at h
   ·simp only[aG,eN]at h
    obtain⟨h1,h2,h⟩:=h
    split at h
    ·rename_i hb
     exact⟨_,_,h,fun _ hk'=>hk _ (by simp only[aG,b6,cM,eN];exact⟨h0,_,hob,h1,h2,by rw[hb];exact hk'⟩)⟩
    ·rename_i hb
     obtain⟨v,H',g1,g2⟩:=HX h
     exact⟨v,H',g1,fun _ hk'=>hk _ (by simp only[aG,b6,cM,eN];exact⟨h0,_,hob,h1,h2,by rw[hb];exact g2 _ hk'⟩)⟩
   ·exact h.elim
  ·rename_i hne
   obtain⟨v,H',g1,g2⟩:=HX h
   exact⟨v,H',g1,fun _ hk'=>hk _ (by simp only[aG];exact⟨h0,g2 _ hk'⟩)⟩
 case append =>
  obtain⟨new,h,hk⟩:=mM h
  simp only[aG]at h
  obtain⟨h0,h⟩:=h
  split at h
  ·exact⟨_,_,h.2,fun _ hk'=>hk _ (by simp only[aG];exact⟨h0,h.1,hk'⟩)⟩
  ·rename_i s es hv
   obtain⟨h1,h⟩:=h
   cases es with
   |nil=>exact⟨_,_,h.2,fun _ hk'=>hk _ (by simp only[aG];exact⟨h0,h1,⟨h.1.1,h.1.2.1,.inr trivial⟩,hk'⟩)⟩
   |cons e0 es0 =>
    cases new with
    |nil=>exact⟨_,_,h,fun _ hk'=>hk _ (by simp only[aG];exact⟨h0,h1,hk'⟩)⟩
    |cons f0 fs0=>exact⟨_,_,h.2,fun _ hk'=>hk _ (by simp only[aG];exact⟨h0,h1,h.1,hk'⟩)⟩
  ·simp only[cM,b6]at h
   obtain⟨ob,hob,h⟩:=h
   split at h
   ·exact⟨_,_,h.2.2.2,fun _ hk'=>hk _ (by simp only[aG,b6,cM];exact⟨h0,_,hob,h.1,h.2.1,h.2.2.1,hk'⟩)⟩
   ·exact h.elim
  ·simp only[cM,b6]at h
   obtain⟨ob,hob,h⟩:=h
   split at h
   ·obtain⟨h1,h2,h3|h3⟩:=h
    ·exact⟨_,_,h3.2,fun _ hk'=>hk _ (by simp only[aG,b6,cM];exact⟨h0,_,hob,h1,h2,.inl ⟨h3.1,hk'⟩⟩)⟩
    ·exact⟨_,_,h3.2,fun _ hk'=>hk _ (by simp only[aG,b6,cM];exact⟨h0,_,hob,h1,h2,.inr ⟨h3.1,hk'⟩⟩)⟩
   ·exact h.elim
  ·exact h.elim
 case mkMap=>exact⟨_,_,h,fun _ hk=>hk⟩
 case mapSet =>
  split at h
  ·simp only[cM,b6]at h⊢
   obtain⟨ob,hob,h⟩:=h
   split at h
   ·rw[aG]at h
    exact⟨_,_,h.2,fun _ hk=>⟨_,hob,by simp only[aG];exact⟨h.1,hk⟩⟩⟩
   ·exact h.elim
  ·exact h.elim
 case deleteM =>
  split at h
  ·rw[aG]at h
   exact⟨_,_,h.2,fun _ hk=>by simp only[aG];exact⟨h.1,hk⟩⟩
  ·simp only[cM,b6]at h⊢
   obtain⟨ob,hob,h⟩:=h
   split at h
   ·rw[aG]at h
    exact⟨_,_,h.2,fun _ hk=>⟨_,hob,by simp only[aG];exact⟨h.1,hk⟩⟩⟩
   ·exact h.elim
  ·exact h.elim
 case mapEnt n zero m x =>
  split at h
  ·simp only[cM,b6]at h⊢
   obtain⟨ob,hob,h⟩:=h
   split at h
   ·rename_i kvs bs ck
    rw[aG]at h
    obtain⟨h1,h⟩:=h
    cases hf:DI n (ev ρ x) kvs with
    |none =>
     rw[hf]at h
     exact⟨_,_,h,fun _ hk=>⟨_,hob,by simp only[aG,hf];exact⟨h1,hk⟩⟩⟩
    |some i =>
     rw[hf]at h
     simp only[JA,b6]at h
     obtain⟨kv,hkv,b,hb,h⟩:=h
     exact⟨_,_,h,fun _ hk=>⟨_,hob,by simp only[aG,hf,JA,b6];exact⟨h1,kv,hkv,b,hb,hk⟩⟩⟩
   ·exact h.elim
  ·exact h.elim
 case entryStoreM =>
  split at h
  ·simp only[cM,b6]at h⊢
   obtain⟨ob,hob,h⟩:=h
   split at h
   ·obtain⟨i,kv,b,h1,h2,h3,h⟩:=h
    exact⟨_,_,h,fun _ hk=>⟨_,hob,i,kv,b,h1,h2,h3,hk⟩⟩
   ·exact h.elim
  ·exact h.elim
def fN(P:Program)(i:cT)(ρ:List a6)(H:List aB)(v:a6)(H':List aB):Prop :=
 (l7 ρ i.guard=some true∧sS P i.op ρ H v H')∨(l7 ρ i.guard=some false∧v=.tuple []∧H'=H)
theorem IR{i:cT}(hs:∀t∈i.slots,cO ρ' t=cO ρ t):l7 ρ' i.guard=l7 ρ i.guard:=by
 unfold l7
 split
 ·rfl
 ·rename_i d want hgd
  have:d∈i.slots:=by
   unfold cT.slots
   rw[hgd];simp
  rw[hs d this]
 ·rfl
theorem fN.same{i:cT}{v:a6}{H':List aB}(h:fN P i ρ H v H')(hs:∀t∈i.slots,cO ρ' t=cO ρ t):fN P i ρ' H v H':=by
 have hg:=IR hs
 have ho:∀t∈i.op.slots,cO ρ' t=cO ρ t:=fun t ht=>hs t (by unfold cT.slots;simp[ht])
 rcases h with⟨h1,h2⟩|⟨h1,h2⟩
 ·exact .inl ⟨hg.trans h1,fun K hk=>by rw[RY ho];exact h2 K hk⟩
 ·exact .inr ⟨hg.trans h1,h2⟩
theorem RX{o:oK}(hf:o.free=true)(H':List aB)(K:a6→List aB→Prop):d7 P o ρ H' K=d7 P o ρ H (fun v _=>K v H'):=by
 cases o<;>simp only[oK.free]at hf<;>first|(cases hf;done)|rfl
theorem fN.free{i:cT}{v:a6}(h:fN P i ρ H v H)(hf:i.op.free=true)(H':List aB):fN P i ρ H' v H':=by
 rcases h with⟨h1,h2⟩|⟨h1,h2,_⟩
 ·exact .inl ⟨h1,fun K hk=>by rw[RX hf];exact h2 _ hk⟩
 ·exact .inr ⟨h1,h2,rfl⟩
def pU(n:Nat)(HH:Nat→List aB)(Hs:List (List aB))(p:Nat):Option (List aB):=if p≤n then some (HH (n-p))else Hs[p-n-1]?
theorem DD{ps:List Nat}{f:List aB→Prop}{Hs:List (List aB)}{k:Prop}(h:mW ps f Hs k):k∧∀p∈ps,∃H',Hs[p]?=some H'∧f H':=by
 induction ps with
 |nil=>exact⟨h,by simp⟩
 |cons p ps ih =>
  have h:xF Hs p fun H'=>f H'∧mW ps f Hs k:=h
  simp only[b6]at h
  obtain⟨H',h1,h2,h3⟩:=h
  obtain⟨g1,g2⟩:=ih h3
  exact⟨g1,fun q hq=>by rcases List.mem_cons.1 hq with rfl|hq;exact⟨H',h1,h2⟩;exact g2 q hq⟩
theorem yG{cs:List (List Nat×(List aB→Prop))}{Hs:List (List aB)}{k:Prop}(h:rI cs Hs k):k∧∀c∈cs,∀p∈c.1,∃H',Hs[p]?=some H'∧c.2 H':=by
 induction cs with
 |nil=>exact⟨h,by simp⟩
 |cons c cs ih =>
  obtain⟨ps,f⟩:=c
  have h:mW ps f Hs (rI cs Hs k):=h
  obtain⟨h1,h2⟩:=DD h
  obtain⟨g1,g2⟩:=ih h1
  exact⟨g1,fun d hd=>by rcases List.mem_cons.1 hd with rfl|hd;exact h2;exact g2 d hd⟩
theorem CO:∀(is:List (cT×List Nat)) (cs:List (List Nat×(List aB→Prop))) (Hs:List (List aB)) (ρ:List a6) (H:List aB) (K:List a6→List aB→Prop),
  (∀x∈is,x.1.op.quiet=true∨x.1.op.effect=true)→JX P is cs Hs ρ H K →
  ∃(V:Nat→a6) (R:Nat→List a6) (HH:Nat→List aB),R 0=ρ∧HH 0=H∧K (R is.length) (HH is.length) ∧
   (∀(k:Nat) (i:cT) (ps:List Nat),is[k]?=some (i,ps)→fN P i (R k) (HH k) (V k) (HH (k+1))∧R (k+1)=jD (R k) i.dst (V k) ∧
    (i.op.quiet=true→HH (k+1)=HH k∧∀p∈ps,∀H',pU is.length HH Hs p=some H'→fN P i (R k) H' (V k) H')) ∧
   (∀c∈cs,∀p∈c.1,∃H',pU is.length HH Hs p=some H'∧c.2 H')
 |[],cs,Hs,ρ,H,K,_,h=>by
  obtain⟨h1,h2⟩:=yG (show rI cs (H::Hs) (K ρ H)from h)
  refine⟨fun _=>.undef,fun _=>ρ,fun _=>H,rfl,rfl,h1,fun k i ps hk=>by simp at hk,fun c hc p hp=>?_⟩
  obtain⟨H',g1,g2⟩:=h2 c hc p hp
  refine⟨H',?_,g2⟩
  unfold pU
  cases p with
  |zero=>simpa using g1
  |succ p=>simpa using g1
 |(i,ps)::is,cs,Hs,ρ,H,K,hq,h=>by
  rw[tG]at h
  obtain⟨t,hg,h⟩:=uO h
  
  have step:∀(v:a6) (H1:List aB) (cs1:List (List Nat×(List aB→Prop))),fN P i ρ H v H1→JX P is cs1 (H::Hs) (jD ρ i.dst v) H1 K→(∀c∈cs,c∈cs1) →
    (i.op.quiet=true→H1=H∧((∃f:List aB→Prop,(∀H',f H'→fN P i ρ H' v H')∧(ps=[]∨(ps,f)∈cs1))∨∀H',fN P i ρ H' v H')) →
    ∃(V:Nat→a6) (R:Nat→List a6) (HH:Nat→List aB),R 0=ρ∧HH 0=H∧K (R ((i,ps)::is).length) (HH ((i,ps)::is).length) ∧
    (∀(k:Nat) (j:cT) (qs:List Nat),((i,ps)::is)[k]?=some (j,qs)→fN P j (R k) (HH k) (V k) (HH (k+1))∧R (k+1)=jD (R k) j.dst (V k) ∧
     (j.op.quiet=true→HH (k+1)=HH k∧∀p∈qs,∀H',pU ((i,ps)::is).length HH Hs p=some H'→fN P j (R k) H' (V k) H')) ∧
    (∀c∈cs,∀p∈c.1,∃H',pU ((i,ps)::is).length HH Hs p=some H'∧c.2 H'):=by
   intro v H1 cs1 hy hrun hsub hqt
   obtain⟨V,R,HH,e1,e2,hK,hk,hc⟩:=CO is cs1 (H::Hs) _ H1 K (fun x hx=>hq x (by simp[hx])) hrun
   have hheap:∀p,pU is.length HH (H::Hs) p=pU ((i,ps)::is).length (fun k=>match k with|0=>H|k+1=>HH k) Hs p:=by
    intro p
    unfold pU
    simp only[List.length_cons]
    by_cases h1:p≤is.length
    ·rw[if_pos h1,if_pos (by omega)]
     obtain⟨m,hm⟩:∃m,is.length+1-p=m+1:=⟨is.length-p,by omega⟩
     rw[hm]
     simp only[]
     congr 2;omega
    ·rw[if_neg h1]
     by_cases h2:p=is.length+1
     ·subst h2
      rw[if_pos (Nat.le_refl _),Nat.sub_self]
      rw[show is.length+1-is.length-1=0 by omega]
      rfl
     ·rw[if_neg (by omega)]
      obtain⟨m,hm⟩:∃m,p-is.length-1=m+1:=⟨p-is.length-2,by omega⟩
      rw[hm,List.getElem?_cons_succ]
      congr 1;omega
   refine⟨fun k=>match k with|0=>v|k+1=>V k,fun k=>match k with|0=>ρ|k+1=>R k,fun k=>match k with|0=>H|k+1=>HH k,rfl,rfl,hK,?_,?_⟩
   ·intro k j qs hj
    cases k with
    |zero =>
     simp only[List.getElem?_cons_zero,Option.some.injEq,Prod.mk.injEq]at hj
     obtain⟨rfl,rfl⟩:=hj
     simp only[e1,e2]
     refine⟨hy,trivial,fun hqi=>⟨(hqt hqi).1,fun p hp H' hH'=>?_⟩⟩
     rcases(hqt hqi).2 with⟨f,hf,hmem⟩|hall
     ·rcases hmem with rfl|hmem
      ·simp at hp
      ·obtain⟨H2,g1,g2⟩:=hc _ hmem p hp
       rw[hheap,hH']at g1
       cases g1
       exact hf H' g2
     ·exact hall H'
    |succ k =>
     obtain⟨g1,g2,g3⟩:=hk k j qs (by simpa using hj)
     refine⟨g1,g2,fun hqj=>⟨(g3 hqj).1,fun p hp H' hH'=>?_⟩⟩
     exact(g3 hqj).2 p hp H' (by rw[hheap];exact hH')
   ·intro c hcc p hp
    obtain⟨H',g1,g2⟩:=hc c (hsub c hcc) p hp
    rw[hheap]at g1
    exact⟨H',g1,g2⟩
  cases t with
  |false =>
   simp only[fU]at h
   exact step (.tuple []) H cs (.inr ⟨hg,rfl,rfl⟩) h (fun c hc=>hc) fun _=>⟨rfl,.inr fun H'=>.inr ⟨hg,rfl,rfl⟩⟩
  |true =>
   cases hqi:i.op.quiet with
   |true =>
    simp only[hqi]at h
    obtain⟨v,hk,hy⟩:=G7 hqi h
    rw[fU]at hk
    refine step v H _ (.inl ⟨hg,hy⟩) hk (fun c hc=>?_) fun _=>⟨rfl,.inl ⟨fun H'=>EI P i.op ρ H' fun v'=>v'=v,fun H' hf=>?_,?_⟩⟩
    ·unfold FC
     split
     ·exact hc
     ·exact List.mem_cons_of_mem _ hc
    ·obtain⟨v',rfl,hy'⟩:=G7 hqi hf
     exact .inl ⟨hg,hy'⟩
    ·unfold FC
     split
     ·exact .inl rfl
     ·exact .inr (List.mem_cons_self ..)
   |false =>
    simp only[hqi]at h
    have he:i.op.effect=true:=by
     rcases hq (i,ps) (by simp)with h1|h1
     ·rw[hqi]at h1;cases h1
     ·exact h1
    obtain⟨v,H1,hk,hy⟩:=NX he h
    rw[fU]at hk
    exact step v H1 cs (.inl ⟨hg,hy⟩) hk (fun c hc=>hc) fun hh=>by rw[hqi]at hh;cases hh
theorem ED:∀(l:List Nat) (m s:Nat),s∈l∨Nat.testBit m s=true→Nat.testBit (l.foldl (fun m s=>m ||| 2 ^ s) m) s=true
 |[],m,s,h=>by simpa using h
 |x::l,m,s,h=>by
  rw[List.foldl_cons]
  refine ED l _ s ?_
  rcases h with h|h
  ·rcases List.mem_cons.1 h with rfl|h
   ·right;simp[Nat.testBit_or]
   ·exact .inl h
  ·right;simp[Nat.testBit_or,h]
theorem rX{l:List Nat}{s:Nat}(h:s∈l):Nat.testBit (RJ l) s=true:=ED l 0 s (.inl h)
theorem NT{a b s:Nat}(ha:Nat.testBit a s=true)(hb:Nat.testBit b s=true):a &&& b≠0:=by
 intro h
 have:Nat.testBit (a &&& b) s=true:=by rw[Nat.testBit_and,ha,hb];rfl
 rw[h]at this
 simp at this
theorem JE{x y:cT}{anc i q k:Nat}(h:C7 (iD x) (u9 q k (iD y)) anc i=true)
  (hc:(∃d,x.dst=some d∧(d∈y.slots∨y.dst=some d))∨(∃d,y.dst=some d∧d∈x.slots)∨(x.op.quiet=false∧y.op.quiet=false∧k≠q)):Nat.testBit anc i=true:=by
 have er:(u9 q k (iD y)).r=(iD y).r:=by unfold u9;split<;>rfl
 have ew:(u9 q k (iD y)).w=(iD y).w:=by unfold u9;split<;>rfl
 unfold C7 at h
 rw[er,ew]at h
 simp only[Bool.or_eq_true,Bool.and_eq_true,Nat.beq_eq]at h
 rcases h with⟨h1,h2⟩|h
 ·exfalso
  have hz:=Nat.or_eq_zero_iff.1 h1
  rcases hc with⟨d,hx,hy⟩|⟨d,hy,hx⟩|⟨hx,hy,hkq⟩
  ·refine NT (s:=d) (a:=(iD x).w) (b:=(iD y).r ||| (iD y).w) (rX (by simp[hx])) ?_ hz.1
   rw[Nat.testBit_or]
   rcases hy with hy|hy
   ·rw[show Nat.testBit (iD y).r d=true from rX hy];rfl
   ·rw[show Nat.testBit (iD y).w d=true from rX (by simp[hy])];simp
  ·exact NT (s:=d) (a:=(iD x).r) (b:=(iD y).w) (rX hx) (rX (by simp[hy])) hz.2
  ·have:(u9 q k (iD y)).e=(iD y).e:=by
    unfold u9
    split
    ·rename_i hb;exact absurd (Nat.eq_of_beq_eq_true hb) hkq
    ·rfl
   rw[this]at h2
   simp[iD,hx,hy]at h2
 ·exact h
theorem yJ(q:Nat):∀(is:List cT) (anc:List Nat) (k:Nat) (prev:List (Nat×AM)),rM q (is.map iD) anc k prev=true→anc.length=is.length ∧
  (∀(j:Nat) (y:cT),is[j]?=some y→(∀p∈prev,C7 p.2 (u9 q (k+j) (iD y)) (anc.getD j 0) p.1=true)∧∀(i:Nat) (x:cT),i<j→is[i]?=some x→C7 (iD x) (u9 q (k+j) (iD y)) (anc.getD j 0) (k+i)=true)
 |[],[],_,_,_=>⟨rfl,fun j y h=>by simp at h⟩
 |[],_::_,_,_,h=>by simp[rM]at h
 |_::_,[],_,_,h=>by simp[rM]at h
 |y0::is,a::anc,k,prev,h=>by
  simp only[List.map_cons,rM,Bool.and_eq_true]at h
  obtain⟨h1,h2⟩:=h
  obtain⟨g1,g2⟩:=yJ q is anc (k+1) _ h2
  refine⟨by simp[g1],fun j y hy=>?_⟩
  cases j with
  |zero =>
   simp at hy;subst hy
   exact⟨fun p hp=>by simpa using List.all_eq_true.1 h1 p hp,fun i x hi=>absurd hi (Nat.not_lt_zero _)⟩
  |succ j =>
   obtain⟨q1,q2⟩:=g2 j y (by simpa using hy)
   rw[show k+1+j=k+(j+1) by omega]at q1 q2
   refine⟨fun p hp=>by simpa using q1 p (by simp[hp]),fun i x hi hx=>?_⟩
   cases i with
   |zero =>
    simp at hx;subst hx
    simpa using q1 (k,iD y0) (by simp)
   |succ i =>
    have:=q2 i x (by omega) (by simpa using hx)
    rw[show k+(i+1)=k+1+i by omega]
    simpa using this
theorem mO:∀(l:List (List Nat)) (k:Nat),qG l k=true→∀(j:Nat) (ps:List Nat),l[j]?=some ps→∀p∈ps,p<k+j
 |[],_,_,j,ps,h,_,_=>by simp at h
 |x::l,k,hB,j,ps,h,p,hp=>by
  simp only[qG,Bool.and_eq_true]at hB
  cases j with
  |zero =>
   simp at h;subst h
   have:=List.all_eq_true.1 hB.1 p hp
   simpa using this
  |succ j =>
   have:=mO l (k+1) hB.2 j ps (by simpa using h) p hp
   omega
theorem yF{acc:List Nat}:∀(ps:List Nat) (m e:Nat),Nat.testBit (ps.foldl (fun m p=>m ||| (2 ^ p ||| acc.getD p 0)) m) e=true →
  Nat.testBit m e=true∨∃p∈ps,e=p∨Nat.testBit (acc.getD p 0) e=true
 |[],m,e,h=>.inl h
 |p::ps,m,e,h=>by
  rw[List.foldl_cons]at h
  rcases yF ps _ e h with h|⟨q,hq,h⟩
  ·simp only[Nat.testBit_or,Nat.testBit_two_pow,Bool.or_eq_true,decide_eq_true_eq]at h
   rcases h with h|h|h
   ·exact .inl h
   ·exact .inr ⟨p,by simp,.inl h.symm⟩
   ·exact .inr ⟨p,by simp,.inr h⟩
  ·exact .inr ⟨q,by simp[hq],h⟩
theorem rE:∀(l:List (List Nat)) (acc:List Nat) (p:Nat),p<acc.length→(cY l acc).getD p 0=acc.getD p 0
 |[],_,_,_=>rfl
 |ps::l,acc,p,h=>by
  rw[cY,rE l _ p (by simp;omega)]
  simp[List.getD_eq_getElem?_getD,List.getElem?_append_left h]
theorem yE:∀(l:List (List Nat)) (acc:List Nat),qG l acc.length=true→∀(j:Nat) (ps:List Nat),l[j]?=some ps→∀e,Nat.testBit ((cY l acc).getD (acc.length+j) 0) e=true →
  ∃p∈ps,e=p∨Nat.testBit ((cY l acc).getD p 0) e=true
 |[],_,_,j,ps,h,_,_=>by simp at h
 |x::l,acc,hB,j,ps,h,e,he=>by
  simp only[qG,Bool.and_eq_true]at hB
  cases j with
  |zero =>
   simp at h;subst h
   rw[cY,rE l _ _ (by simp)]at he
   simp only[Nat.add_zero,List.getD_eq_getElem?_getD,List.getElem?_append_right (Nat.le_refl _),Nat.sub_self]at he
   rcases yF x 0 e (by simpa[List.getD_eq_getElem?_getD]using he)with h|⟨p,hp,h⟩
   ·simp at h
   ·refine⟨p,hp,?_⟩
    rcases h with h|h
    ·exact .inl h
    ·right
     have hpl:p<acc.length:=by have:=List.all_eq_true.1 hB.1 p hp;simpa using this
     rw[rE (x::l) acc p hpl]
     exact h
  |succ j =>
   have:=yE l (acc++[x.foldl (fun m p=>m ||| (2 ^ p ||| acc.getD p 0)) 0]) (by simpa using hB.2) j ps (by simpa using h) e (by
    rw[cY]at he
    rw[show(acc++[x.foldl (fun m p=>m ||| (2 ^ p ||| acc.getD p 0)) 0]).length+j=acc.length+(j+1) by simp;omega]
    exact he)
   rw[cY]
   exact this
theorem yK:∀(is:List cT) (k e:Nat),e∈dU is k↔∃i,k≤e∧is[e-k]?=some i∧i.op.quiet=false
 |[],k,e=>by simp[dU]
 |i::is,k,e=>by
  unfold dU
  have ih:=yK is (k+1) e
  have tail:(∃x,k+1≤e∧is[e-(k+1)]?=some x∧x.op.quiet=false)↔∃x,k<e∧(i::is)[e-k]?=some x∧x.op.quiet=false:=by
   constructor
   ·rintro⟨x,h1,h2,h3⟩
    exact⟨x,h1,by rw[show e-k=(e-(k+1))+1 by omega];simpa using h2,h3⟩
   ·rintro⟨x,h1,h2,h3⟩
    exact⟨x,h1,by rw[show e-k=(e-(k+1))+1 by omega]at h2;simpa using h2,h3⟩
  split
  ·rename_i hq
   rw[ih,tail]
   constructor
   ·rintro⟨x,h1,h2,h3⟩
    exact⟨x,by omega,h2,h3⟩
   ·rintro⟨x,h1,h2,h3⟩
    refine⟨x,?_,h2,h3⟩
    rcases Nat.lt_or_ge k e with h|h
    ·exact h
    ·have:e=k:=by omega
     subst this
     simp at h2;subst h2
     rw[hq]at h3;cases h3
  ·rename_i hq
   rw[List.mem_cons,ih,tail]
   constructor
   ·rintro(rfl|⟨x,h1,h2,h3⟩)
    ·exact⟨i,Nat.le_refl _,by simp,hq⟩
    ·exact⟨x,by omega,h2,h3⟩
   ·rintro⟨x,h1,h2,h3⟩
    rcases Nat.lt_or_ge k e with h|h
    ·exact .inr ⟨x,h,h2,h3⟩
    ·exact .inl (by omega)
theorem mY{is:List cT}{e:Nat}:e∈dU is 0↔∃i,is[e]?=some i∧i.op.quiet=false:=by
 rw[yK];simp
theorem uL:∀(l:List Nat) (m e:Nat),(e∈l→e+1≤l.foldl (fun m e=>max m (e+1)) m)∧m≤l.foldl (fun m e=>max m (e+1)) m
 |[],m,e=>by simp
 |x::l,m,e=>by
  rw[List.foldl_cons]
  have h1:=(uL l (max m (x+1)) e).2
  refine⟨fun h=>?_,by omega⟩
  rcases List.mem_cons.1 h with rfl|h
  ·omega
  ·exact(uL l _ e).1 h
theorem BI{b:Nat}:∀(l:List Nat) (m:Nat),(∀e∈l,e+1≤b)→m≤b→l.foldl (fun m e=>max m (e+1)) m≤b
 |[],m,_,h=>h
 |x::l,m,hl,h=>by
  rw[List.foldl_cons]
  exact BI l _ (fun e he=>hl e (by simp[he])) (by have:=hl x (by simp);omega)
theorem MB(effs:List Nat)(q:Nat):(∀e∈effs,e<q→e<yR effs q)∧yR effs q≤q:=by
 unfold yR
 refine⟨fun e he hq=>?_,?_⟩
 ·have:=(uL (effs.filter fun e=>decide (e<q)) 0 e).1 (by simp[he,hq])
  omega
 ·refine BI _ 0 (fun e he=>?_) (Nat.zero_le _)
  have:=(List.mem_filter.1 he).2
  simp at this;omega
theorem wX{effs anc:List Nat}{n:Nat}:∀(is:List cT) (k j:Nat),(AS effs anc n is k)[j]?=(is[j]?).map fun i=>(i,match i.op.quiet && !i.op.free with|true=>A9 effs anc n (k+j)|false=>[])
 |[],k,j=>by simp[AS]
 |i::is,k,j=>by
  unfold AS
  cases j with
  |zero=>rfl
  |succ j =>
   rw[List.getElem?_cons_succ,wX is (k+1) j,List.getElem?_cons_succ,show k+1+j=k+(j+1) by omega]
theorem vG{effs anc:List Nat}{n:Nat}:∀(is:List cT) (k:Nat),(AS effs anc n is k).length=is.length
 |[],_=>rfl
 |i::is,k=>by simp[AS,vG is]
theorem j1{ops:Array Oper}{o:Oper}{t:Bool}(hs:SA E C τ ρ H a w)(h:l7 ρ (o.guard.map fun(j,want)=>((ops[j]?).bind (·.dst),want))=some t):Region.wanted o (yielded ops a.tmps)=t:=by
 have hk:j7 ρ (o.guard.map fun(j,want)=>((ops[j]?).bind (·.dst),want)) (fun _ b=>b=t):=by
  generalize (o.guard.map fun(j,want)=>((ops[j]?).bind (·.dst),want))=g at h
  unfold l7 at h
  unfold j7
  split at h
  ·cases h;rfl
  ·simp only[jI]
   split at h
   ·rename_i b hv
    simp only[hv,eN,mP]
    cases h;rfl
   ·rename_i hv
    simp only[hv]
    cases h;rfl
   ·cases h
  ·cases h
 obtain⟨_,h1,_⟩:=yN hs hk
 exact h1
theorem pP{ob:List Nat}{ops:Array Oper}:∀(l:List Oper) (is:List cT),gK P ob ops l=some is→∀(j:Nat) (o:Oper),l[j]?=some o→∃i,is[j]?=some i∧vP P ob ops o=some i
 |[],is,_,j,o,h=>by simp at h
 |x::l,is,hc,j,o,h=>by
  obtain⟨i,r,hi,hr,rfl⟩:=o9 hc
  cases j with
  |zero=>simp at h;subst h;exact⟨i,rfl,hi⟩
  |succ j=>simp at h;exact pP l r hr j o h
theorem qQ{ob:List Nat}{ops:Array Oper}:∀(l:List Oper) (is:List cT),gK P ob ops l=some is→is.length=l.length
 |[],is,h=>by simp only[gK,Option.some.injEq]at h;subst h;rfl
 |x::l,is,h=>by
  obtain⟨i,r,hi,hr,rfl⟩:=o9 h
  simp[qQ l r hr]
def D9(listed:Array Bool):Nat→Nat
 |0=>0
 |k+1=>D9 listed k+if listed.getD k false then 0 else 1
theorem sM{listed:Array Bool}:∀(n:Nat),D9 listed n=0→∀j,j<n→listed.getD j false=true
 |0,_,j,hj=>absurd hj (Nat.not_lt_zero _)
 |n+1,h,j,hj=>by
  simp only[D9]at h
  split at h
  ·rename_i hn
   by_cases e:j=n
   ·subst e;exact hn
   ·exact sM n (by omega) j (by omega)
  ·omega
theorem O9{listed:Array Bool}:∀(n:Nat),0<D9 listed n→∃j,j<n∧listed.getD j false=false∧∀k,k<j→listed.getD k false=true
 |0,h=>by simp[D9]at h
 |n+1,h=>by
  by_cases h0:0<D9 listed n
  ·obtain⟨j,h1,h2,h3⟩:=O9 n h0
   exact⟨j,by omega,h2,h3⟩
  ·simp only[D9]at h
   refine⟨n,by omega,?_,sM n (by omega)⟩
   split at h
   ·omega
   ·rename_i hn;simpa using hn
theorem eZ{listed:Array Bool}{j k:Nat}{d:Bool}(hj:j<listed.size):(listed.setIfInBounds j true).getD k d=if j=k then true else listed.getD k d:=by
 simp only[Array.getD_eq_getD_getElem?,Array.getElem?_setIfInBounds]
 by_cases e:j=k
 ·subst e;simp[hj]
 ·simp[e]
theorem GY{listed:Array Bool}{j:Nat}(hj:j<listed.size)(hu:listed.getD j false=false):∀(n:Nat),(j<n→D9 (listed.setIfInBounds j true) n+1=D9 listed n)∧(n≤j→D9 (listed.setIfInBounds j true) n=D9 listed n)
 |0=>⟨fun h=>absurd h (Nat.not_lt_zero _),fun _=>rfl⟩
 |n+1=>by
  obtain⟨h1,h2⟩:=GY hj hu n
  refine⟨fun h=>?_,fun h=>?_⟩
  ·simp only[D9,eZ hj]
   by_cases e:j=n
   ·subst e
    rw[if_pos rfl,h2 (Nat.le_refl _),hu]
    simp
   ·rw[if_neg e]
    have:=h1 (by omega)
    omega
  ·simp only[D9,eZ hj]
   have hjn:¬j=n:=by omega
   simp only[hjn,if_false,h2 (by omega)]
theorem uE(n:Nat):∀k,D9 (Array.replicate n false) k=k
 |0=>rfl
 |k+1=>by
  have:(Array.replicate n false).getD k false=false:=by
   simp only[Array.getD_eq_getD_getElem?,Array.getElem?_replicate]
   split<;>rfl
  simp[D9,uE n k,this]
theorem yX:∀(l:List a6) (n:Nat) (v:a6),(jP l n v).length=l.length
 |[],_,_=>rfl
 |_::_,0,_=>rfl
 |_::xs,n+1,v=>by simp[jP,yX xs n v]
theorem lU(d:Option Nat)(v:a6):(jD ρ d v).length=ρ.length:=by
 cases d with
 |none=>rfl
 |some d=>exact yX _ _ _
theorem xC:∀(l:List a6) (s:Nat),l.length≤s→cO l s=.undef
 |[],_,_=>rfl
 |_::_,0,h=>by simp at h
 |_::l,s+1,h=>xC l s (by simpa using h)
theorem BK{ρ1 ρ2:List a6}(hl:ρ1.length=ρ2.length)(s:Nat)(v:a6):cO (jD ρ1 (some s) v) s=cO (jD ρ2 (some s) v) s:=by
 simp only[jD,l6,hl]
 by_cases h:s<ρ2.length
 ·simp[h]
 ·simp[h,xC ρ1 s (by omega),xC ρ2 s (by omega)]
theorem IH:∀{l m:List a6},l.length=m.length→(∀s,cO l s=cO m s)→l=m
 |[],[],_,_=>rfl
 |x::l,y::m,hl,h=>by
  have h0:=h 0
  simp only[cO]at h0
  subst h0
  rw[IH (l:=l) (m:=m) (by simpa using hl) fun s=>by have:=h (s+1);simpa[cO]using this]
 |[],_::_,hl,_=>by simp at hl
 |_::_,[],hl,_=>by simp at hl
theorem FL{oj:Bool}{el:TypeId}{zero:List a6}(h:cP P oj (.alloc el)=some (.alloc zero)):jF P el=some zero:=by
 simp only[cP]at h
 cases hz:jF P el with
 |none=>rw[hz]at h;cases h
 |some z=>rw[hz]at h;cases h;rfl
def tT.here(C:Nat→Nat)(τ:Nat→Option Loc)(H:List aB)(w:World):tT:=⟨w,cX τ H w,C,τ,H,fun _ hb hn=>Classical.byContradiction fun ho=>hn ⟨hb,ho⟩⟩
theorem SA.here(hs:SA E C τ ρ H a w):SA (tT.here C τ H w) C τ ρ H a w:=⟨St.start hs.st.wf,cU.refl,hs.tmps,hs.size,hs.defers⟩
theorem SA.there{C':Nat→Nat}{τ':Nat→Option Loc}{H':List aB}{a':Act}{w':World}(hs:SA E C τ ρ H a w)(k:SA (tT.here C τ H w) C' τ' ρ' H' a' w'):SA E C' τ' ρ' H' a' w' :=
 ⟨hs.st.after k.st,hs.step.trans k.step,k.tmps,k.size,k.defers⟩
theorem St.adopt{w0:World}{Pr:Nat→Prop}(h:St w0 Pr C τ H w){B:Nat}(ob:Obj)(o:aB)(cap:Nat)(hob:w.heap[B]?=some ob)(hno:¬yC τ H B)(hC0:C B=0)(hB:w0.heap.size≤B)(hok:o.ok)
  (hat:∀(C':Nat→Nat) (τ':Nat→Option Loc) (H':List aB) (w':World),cU C τ H w C' τ' H' w'→w'.heap[B]?=some ob→nH C' w' τ' H' ⟨B,cap⟩ o) :
  St w0 Pr C (lB τ H.length (some ⟨B,cap⟩)) (H++[o]) w∧cU C τ H w C (lB τ H.length (some ⟨B,cap⟩)) (H++[o]) w:=by
 have s:cU C τ H w C (lB τ H.length (some ⟨B,cap⟩)) (H++[o]) w :=
  ⟨fun _=>Nat.le_refl _,fun _ _ _=>rfl,uH,Nat.le_refl _,fun _ _=>rfl⟩
 have old:∀id x,(H++[o])[id]?=some x→(H[id]?=some x∧id<H.length)∨(id=H.length∧x=o):=by
  intro id x ho
  by_cases hi:id<H.length
  ·rw[List.getElem?_append_left hi]at ho;exact .inl ⟨ho,hi⟩
  ·rw[List.getElem?_append_right (by omega)]at ho
   by_cases e:id-H.length=0
   ·rw[e]at ho;simp at ho;exact .inr ⟨by omega,ho.symm⟩
   ·obtain⟨k,hk⟩:∃k,id-H.length=k+1:=⟨id-H.length-1,by omega⟩
    rw[hk]at ho;simp at ho
 have lt:∀id l,id<(H++[o]).length→lB τ H.length (some ⟨B,cap⟩) id=some l→(id<H.length∧τ id=some l)∨(id=H.length∧l=⟨B,cap⟩):=by
  intro id l h1 h2
  by_cases e:id=H.length
  ·subst e;rw[bZ]at h2;cases h2;exact .inr ⟨rfl,rfl⟩
  ·rw[cR _ _ e]at h2;simp at h1;exact .inl ⟨by omega,h2⟩
 refine⟨⟨⟨fun id x ho=>?_,fun id x ho ht=>?_,fun id x l ho ht=>?_,fun id l h1 h2=>?_,fun i j li lj h1 h2 h3 h4 h5=>?_,h.wf.lt⟩,h.fr,?_,h.plt⟩,s⟩
 ·rcases old id x ho with⟨h1,_⟩|⟨_,rfl⟩
  ·exact h.wf.ok id x h1
  ·exact hok
 ·rcases old id x ho with⟨h1,h2⟩|⟨rfl,rfl⟩
  ·rw[cR _ _ (by omega)]at ht;exact h.wf.virt id x h1 ht
  ·rw[bZ]at ht;cases ht
 ·rcases old id x ho with⟨h1,h2⟩|⟨rfl,rfl⟩
  ·rw[cR _ _ (by omega)]at ht
   exact(h.wf.objs id x l h1 ht).mono s rfl
  ·rw[bZ]at ht;cases ht
   exact hat _ _ _ _ s hob
 ·rcases lt id l h1 h2 with⟨a,b⟩|⟨rfl,rfl⟩
  ·exact h.wf.comm id l a b
  ·exact hC0
 ·rcases lt i li h1 h3 with⟨a,b⟩|⟨rfl,rfl⟩<;>rcases lt j lj h2 h4 with⟨c,d⟩|⟨rfl,rfl⟩
  ·exact h.wf.inj i j li lj a c b d h5
  ·exact absurd ⟨i,li,a,b,h5⟩ hno
  ·exact absurd ⟨j,lj,c,d,h5.symm⟩ hno
  ·rfl
 ·rintro b ⟨id,l,h1,h2,rfl⟩ hp
  rcases lt id l h1 h2 with⟨a,c⟩|⟨rfl,rfl⟩
  ·exact h.own _ ⟨id,l,a,c,rfl⟩ hp
  ·have:=h.plt _ hp;simp at this;omega
theorem SA.adopt{d B:Nat}{el:TypeId}{z:Value}(hs:SA E C τ (jD ρ (some d) .undef) H a w)(hd:d<a.tmps.size→a.tmps.getD d undef=.pointer (some ⟨B,0,none⟩))
  (hob:w.heap[B]?=some (.cells z.cells el)) (hno:¬yC τ H B) (hC0:C B=0) (hB:E.w0.heap.size≤B) (hp:(z.cells.toList.map iP).all a6.isCell=true) :
  ∃τ',SA E C τ' (jD ρ (some d) (.ptr H.length 1 0 0)) (H++[.arr (z.cells.toList.map iP).length [z.cells.toList.map iP]]) a w:=by
 obtain⟨st,s⟩:=hs.st.adopt (.cells z.cells el) (.arr (z.cells.toList.map iP).length [z.cells.toList.map iP]) 1 hob hno hC0 hB (RW hp) fun C' τ' H' w' s hh=>by
  refine⟨Nat.le_refl _,z.cells,el,(0,0),hh,by simp,.inl rfl,fun i j e x he hx=>?_⟩
  cases i with
  |zero =>
   simp only[List.getElem?_cons_zero,Option.some.injEq]at he
   subst he
   have hj:=(List.getElem?_eq_some_iff.1 hx).1
   rw[List.length_map,Array.length_toList]at hj
   have hv:z.cells[j]?=some z.cells[j]:=Array.getElem?_eq_getElem hj
   refine⟨z.cells[j],by rw[Nat.zero_mul,Nat.zero_add];exact hv,?_⟩
   rw[List.getElem?_map,Array.getElem?_toList,hv]at hx
   cases hx
   exact p9 _
  |succ i=>simp at he
 have k:=hs.go st s
 refine⟨_,k.st,k.step,fun t=>?_,?_,k.defers⟩
 ·by_cases htd:t=d∧d<ρ.length
  ·obtain⟨rfl,hl⟩:=htd
   have hsz:=hs.size
   rw[lU]at hsz
   simp only[jD,l6,hl,and_self,if_true]
   rw[hd (by omega)]
   exact .ptr _ _ _ _ _ (z.cells.toList.map iP).length [z.cells.toList.map iP] (by simp) (Nat.le_refl _) fun _=>⟨_,bZ _ _ _,by simp⟩
  ·have:=k.tmps t
   simp only[jD,l6,htd,if_false]at this ⊢
   exact this
 ·have:=k.size
  rw[lU]at this ⊢
  exact this
theorem EW:∀(l:List a6) {m n:Nat}(u v:a6),m≠n→jP (jP l m u) n v=jP (jP l n v) m u
 |[],_,_,_,_,_=>rfl
 |x::xs,0,0,_,_,h=>absurd rfl h
 |x::xs,0,n+1,u,v,_=>rfl
 |x::xs,m+1,0,u,v,_=>rfl
 |x::xs,m+1,n+1,u,v,h=>by simp only[jP];rw[EW xs u v (by omega)]
theorem PB{d:Nat}{o:Option Nat}{u v:a6}(h:o≠some d):jD (jD ρ (some d) u) o v=jD (jD ρ o v) (some d) u:=by
 cases o with
 |none=>rfl
 |some n=>exact EW ρ u v (fun e=>h (by rw[e]))
structure KV(P:Program)(q:Nat)(ops:Array Oper)(is:List cT)(V:Nat→a6)(R:Nat→List a6)(HH:Nat→List aB):Prop where
 len:is.length=ops.size
 preds:qG (cB ops) 0=true
 conf:∀(i k:Nat) (x y:cT),i<k→is[i]?=some x→is[k]?=some y →
  (∃d,x.dst=some d∧(d∈y.slots∨y.dst=some d))∨(∃d,y.dst=some d∧d∈x.slots)∨(x.op.quiet=false∧y.op.quiet=false∧k≠q)→Nat.testBit ((cY (cB ops) []).getD k 0) i=true
 late:is.length≤q∨∃d zero o el,is[q]?=some { dst:=some d,op:=.alloc zero }∧ops[q]?=some o∧o.op=.alloc el∧∀k,k<is.length→(q∈(cB ops).getD k []∨Nat.testBit ((cY (cB ops) []).getD k 0) q=true)→∀e∈dU is 0,e<q→Nat.testBit ((cY (cB ops) []).getD k 0) e=true
 step:∀(k:Nat) (i:cT),is[k]?=some i→fN P i (R k) (HH k) (V k) (HH (k+1))∧R (k+1)=jD (R k) i.dst (V k) ∧
  (i.op.quiet=true→HH (k+1)=HH k∧∀p,(p=0∨∃e∈dU is 0,p=e+1)→wW (dU is 0) (cY (cB ops) []) k p=true→p≠yR (dU is 0) k→fN P i (R k) (HH p) (V k) (HH p))
def r8(ops:Array Oper)(listed:Array Bool):Prop:=∀(j:Nat) (ps:List Nat),(cB ops)[j]?=some ps→listed.getD j false=true→∀p∈ps,listed.getD p false=true
structure F8(ops:Array Oper)(is:List cT)(R:Nat→List a6)(HH:Nat→List aB)(listed:Array Bool)(ρ:List a6)(H:List aB):Prop where
 size:listed.size=ops.size
 closed:r8 ops listed
 slots:∀(s m:Nat),m≤is.length→(∀(k:Nat) (i:cT),is[k]?=some i→i.dst=some s→(listed.getD k false=true↔k<m))→cO ρ s=cO (R m) s
 len:ρ.length=(R 0).length
 heap:∃p,(p=0∨∃e∈dU is 0,p=e+1)∧(∀e∈dU is 0,listed.getD e false=true↔e<p)∧H=HH p
section
variable {q:Nat}{ops:Array Oper}{is:List cT}{V:Nat→a6}{R:Nat→List a6}{HH:Nat→List aB}{listed:Array Bool}
theorem KV.lenR(h:KV P q ops is V R HH):∀k,k≤is.length→(R k).length=(R 0).length
 |0,_=>rfl
 |k+1,hk=>by
  obtain⟨_,h2,_⟩:=h.step k is[k] (List.getElem?_eq_getElem (by omega))
  rw[h2,lU,h.lenR k (by omega)]
theorem KV.same(h:KV P q ops is V R HH){a:Nat}:∀b,a≤b→b≤is.length→(∀e∈dU is 0,a≤e→¬e<b)→HH b=HH a
 |0,hab,_,_=>by rw[Nat.le_zero.1 hab]
 |b+1,hab,hb,hne=>by
  by_cases e:a=b+1
  ·rw[e]
  ·have hget:is[b]?=some is[b]:=List.getElem?_eq_getElem (by omega)
   have hq:is[b].op.quiet=true:=by
    cases hq:is[b].op.quiet with
    |true=>rfl
    |false=>exact absurd (Nat.lt_succ_self b) (hne b (mY.2 ⟨_,hget,hq⟩) (by omega))
   rw[((h.step b _ hget).2.2 hq).1]
   exact h.same b (by omega) (by omega) fun e he h1 h2=>hne e he h1 (by omega)
theorem KV.slot(h:KV P q ops is V R HH){s a:Nat}:∀b,a≤b→b≤is.length→(∀(k:Nat) (i:cT),is[k]?=some i→a≤k→k<b→i.dst≠some s)→cO (R b) s=cO (R a) s
 |0,hab,_,_=>by rw[Nat.le_zero.1 hab]
 |b+1,hab,hb,hne=>by
  by_cases e:a=b+1
  ·rw[e]
  ·have hget:is[b]?=some is[b]:=List.getElem?_eq_getElem (by omega)
   rw[(h.step b _ hget).2.1,xD (hne b _ hget (by omega) (Nat.lt_succ_self b))]
   exact h.slot b (by omega) (by omega) fun k i hk h1 h2=>hne k i hk h1 (by omega)
theorem KV.anc(h:KV P q ops is V R HH)(hc:r8 ops listed):∀(j e:Nat),(∃ps,(cB ops)[j]?=some ps∧∀p∈ps,listed.getD p false=true)→Nat.testBit ((cY (cB ops) []).getD j 0) e=true→listed.getD e false=true:=by
 intro j
 induction j using Nat.strongRecOn with
 |_ j ih =>
  rintro e ⟨ps,hps,hall⟩ hb
  obtain⟨p,hp,hpe⟩:=yE (cB ops) [] h.preds j ps hps e (by simpa using hb)
  have hlp:=hall p hp
  rcases hpe with rfl|hpe
  ·exact hlp
  ·have hpj:p<j:=by have:=mO _ 0 h.preds j ps hps p hp;omega
   have hjs:j<(cB ops).length:=(List.getElem?_eq_some_iff.1 hps).1
   exact ih p hpj e ⟨(cB ops)[p],List.getElem?_eq_getElem (by omega),hc p _ (List.getElem?_eq_getElem (by omega)) hlp⟩ hpe
theorem KV.ancListed(h:KV P q ops is V R HH)(hc:r8 ops listed){j e:Nat}(hj:listed.getD j false=true)(hb:Nat.testBit ((cY (cB ops) []).getD j 0) e=true):listed.getD e false=true:=by
 have hjs:j<(cB ops).length:=by
  rcases Nat.lt_or_ge j (cB ops).length with h|h
  ·exact h
  ·have:(cY (cB ops) []).getD j 0=0:=by
    have hl:∀(l:List (List Nat)) (acc:List Nat),(cY l acc).length=acc.length+l.length:=by
     intro l
     induction l with
     |nil=>intro acc;simp[cY]
     |cons x l ih=>intro acc;rw[cY,ih];simp;omega
    have:=hl (cB ops) []
    simp only[List.length_nil,Nat.zero_add]at this
    simp[List.getD_eq_getElem?_getD,List.getElem?_eq_none (by omega:(cY (cB ops) []).length≤j)]
   rw[this]at hb
   simp at hb
 exact h.anc hc j e ⟨(cB ops)[j],List.getElem?_eq_getElem hjs,hc j _ (List.getElem?_eq_getElem hjs) hj⟩ hb
theorem KV.next(h:KV P q ops is V R HH)(hc:F8 ops is R HH listed ρ H){j:Nat}(hj:j∈Region.ready .any ops listed)(hjq:j=q→∀e∈dU is 0,e<q→listed.getD e false=true){i:cT}(hi:is[j]?=some i):
  ∃v H',fN P i ρ H v H'∧F8 ops is R HH (listed.setIfInBounds j true) (jD ρ i.dst v) H':=by
 obtain⟨hun,o,ho,hall⟩:=mem_ready.1 hj
 have hjn:j<is.length:=(List.getElem?_eq_some_iff.1 hi).1
 have hjl:j<listed.size:=by rw[hc.size,←h.len];exact hjn
 have hunf:listed.getD j false=false:=getD_both hun
 have hps:(cB ops)[j]?=some ((o.after.toList.filter fun e=>Region.binds .any e).map (·.on)):=by
  have:ops.toList[j]?=some o:=by simpa using ho
  simp[cB,this]
 have hpre:∀p∈(o.after.toList.filter fun e=>Region.binds .any e).map (·.on),listed.getD p false=true:=by
  intro p hp
  obtain⟨e,he,rfl⟩:=List.mem_map.1 hp
  have:=List.mem_filter.1 he
  exact hall e (by simpa using this.1) this.2
 have hanc:∀e,Nat.testBit ((cY (cB ops) []).getD j 0) e=true→listed.getD e false=true:=fun e he=>h.anc hc.closed j e ⟨_,hps,hpre⟩ he
 have hlater:∀k,Nat.testBit ((cY (cB ops) []).getD k 0) j=true→listed.getD k false=false:=by
  intro k hk
  cases hlk:listed.getD k false with
  |false=>rfl
  |true=>have:=h.ancListed hc.closed hlk hk;rw[hunf]at this;cases this
 obtain⟨hy,hR,hq⟩:=h.step j i hi
 
 have hslots:∀t∈i.slots,cO ρ t=cO (R j) t:=by
  intro t ht
  refine hc.slots t j (by omega) fun k x hk hd=>?_
  rcases Nat.lt_trichotomy k j with hlt|rfl|hgt
  ·exact⟨fun _=>hlt,fun _=>hanc k (h.conf k j x i hlt hk hi (.inl ⟨t,hd,.inl ht⟩))⟩
  ·exact⟨fun hl=>(by rw[hunf]at hl;cases hl),fun hl=>absurd hl (Nat.lt_irrefl _)⟩
  ·have:=hlater k (h.conf j k i x hgt hi hk (.inr (.inl ⟨t,hd,ht⟩)))
   exact⟨fun hl=>(by rw[this]at hl;cases hl),fun hl=>absurd hl (by omega)⟩
 obtain⟨p,hp,hpe,rfl⟩:=hc.heap
 have hclosed:∀(k:Nat) (ps:List Nat),(cB ops)[k]?=some ps→(listed.setIfInBounds j true).getD k false=true→∀q∈ps,(listed.setIfInBounds j true).getD q false=true:=by
  intro k ps hk hl q hqm
  rw[eZ hjl]at hl ⊢
  by_cases e:j=k
  ·subst e
   rw[hps]at hk;cases hk
   rw[hpre q hqm];simp
  ·rw[if_neg e]at hl
   rw[hc.closed k ps hk hl q hqm];simp
 have hslots':∀(s m:Nat),m≤is.length→(∀(k:Nat) (x:cT),is[k]?=some x→x.dst=some s→((listed.setIfInBounds j true).getD k false=true↔k<m))→cO (jD ρ i.dst (V j)) s=cO (R m) s:=by
  intro s m hm hw
  by_cases hd:i.dst=some s
  ·have hjm:j<m:=(hw j i hi hd).1 (by rw[eZ hjl,if_pos rfl])
   have hmid:∀(k:Nat) (x:cT),is[k]?=some x→j+1≤k→k<m→x.dst≠some s:=by
    intro k x hk h1 h2 hdx
    have h3:=(hw k x hk hdx).2 h2
    rw[eZ hjl,if_neg (by omega)]at h3
    have h4:=h.conf j k i x (by omega) hi hk (.inl ⟨s,hd,.inr hdx⟩)
    rw[hlater k h4]at h3
    cases h3
   rw[h.slot m (by omega) hm hmid,hR,hd]
   exact BK (by rw[hc.len,h.lenR j (by omega)]) s _
  ·rw[xD hd]
   refine hc.slots s m hm fun k x hk hdx=>?_
   have:=hw k x hk hdx
   rw[eZ hjl,if_neg (by rintro rfl;rw[hi]at hk;cases hk;exact hd hdx)]at this
   exact this
 cases hqi:i.op.quiet with
 |true =>
  obtain⟨hsame,hstable⟩:=hq hqi
  have hyp:fN P i (R j) (HH p) (V j) (HH p):=by
   have hal:wW (dU is 0) (cY (cB ops) []) j p=true:=by
    refine List.all_eq_true.2 fun e he=>?_
    split
    ·rename_i hlt
     have hle:=(hpe e he).2 hlt
     cases hb:Nat.testBit ((cY (cB ops) []).getD e 0) j with
     |false=>rfl
     |true=>rw[hlater e hb]at hle;cases hle
    ·rename_i hge
     cases hb:Nat.testBit ((cY (cB ops) []).getD j 0) e with
     |false=>rfl
     |true=>exact absurd ((hpe e he).1 (hanc e hb)) hge
   by_cases how:p=yR (dU is 0) j
   ·obtain⟨o1,o2⟩:=MB (dU is 0) j
    have:HH j=HH p:=by
     rw[how]
     exact h.same j o2 (by omega) fun e he h1 h2=>absurd (o1 e he h2) (by omega)
    rw[←this]
    rw[hsame]at hy
    exact hy
   ·exact hstable p hp hal how
  refine⟨V j,HH p,hyp.same hslots,by simp[hc.size],hclosed,hslots',by rw[lU];exact hc.len,p,hp,fun e he=>?_,rfl⟩
  rw[eZ hjl,if_neg ?_]
  ·exact hpe e he
  ·rintro rfl
   obtain⟨x,hx,hxq⟩:=mY.1 he
   rw[hi]at hx;cases hx
   rw[hqi]at hxq;cases hxq
 |false =>
  have hje:j∈dU is 0:=mY.2 ⟨i,hi,hqi⟩
  have hbefore:∀e∈dU is 0,e<j→listed.getD e false=true:=by
   intro e he hlt
   obtain⟨x,hx,hxq⟩:=mY.1 he
   by_cases ejq:j=q
   ·exact hjq ejq e he (ejq▸hlt)
   ·exact hanc e (h.conf e j x i hlt hx hi (.inr (.inr ⟨hxq,hqi,ejq⟩)))
  have hafter:∀e∈dU is 0,j<e→listed.getD e false=false:=by
   intro e he hlt
   cases hle:listed.getD e false with
   |false=>rfl
   |true =>
    have h1:=(hpe e he).1 hle
    have h2:=(hpe j hje).2 (by omega)
    rw[hunf]at h2;cases h2
  have hpj:p≤j:=by
   rcases hp with rfl|⟨e,he,rfl⟩
   ·exact Nat.zero_le _
   ·have h1:=(hpe e he).2 (Nat.lt_succ_self e)
    rcases Nat.lt_trichotomy e j with hlt|rfl|hgt
    ·omega
    ·rw[hunf]at h1;cases h1
    ·rw[hafter e he hgt]at h1;cases h1
  have:HH j=HH p:=h.same j hpj (by omega) fun e he h1 h2=>by
   have:=(hpe e he).1 (hbefore e he h2)
   omega
  rw[this]at hy
  refine⟨V j,HH (j+1),hy.same hslots,by simp[hc.size],hclosed,hslots',by rw[lU];exact hc.len,j+1,.inr ⟨j,hje,rfl⟩,fun e he=>?_,rfl⟩
  rw[eZ hjl]
  by_cases e1:j=e
  ·subst e1;simp
  ·rw[if_neg e1]
   constructor
   ·intro hl
    rcases Nat.lt_trichotomy e j with hlt|rfl|hgt
    ·omega
    ·exact absurd rfl e1
    ·rw[hafter e he hgt]at hl;cases hl
   ·intro hl
    exact hbefore e he (by omega)
theorem F8.ext{listed':Array Bool}(hc:F8 ops is R HH listed ρ H)(hs:listed'.size=listed.size)(he:∀k,listed'.getD k false=listed.getD k false):F8 ops is R HH listed' ρ H:=by
 refine⟨hs.trans hc.size,fun j ps h1 h2 p hp=>?_,fun s m hm hw=>hc.slots s m hm fun k i h1 h2=>by rw[←he];exact hw k i h1 h2,hc.len,?_⟩
 ·rw[he]at h2 ⊢;exact hc.closed j ps h1 h2 p hp
 ·obtain⟨p,h1,h2,h3⟩:=hc.heap
  exact⟨p,h1,fun e hm=>by rw[he];exact h2 e hm,h3⟩
theorem r8.set(hc:r8 ops listed){j:Nat}(hj:j<listed.size)(hp:∀ps,(cB ops)[j]?=some ps→∀p∈ps,listed.getD p false=true):r8 ops (listed.setIfInBounds j true):=by
 intro k ps hk hl p hpm
 rw[eZ hj]at hl ⊢
 by_cases e:j=k
 ·subst e
  rw[hp ps hk p hpm];simp
 ·rw[if_neg e]at hl
  rw[hc k ps hk hl p hpm];simp
structure ZL(E:tT)(q:Nat)(ops:Array Oper)(is:List cT)(R:Nat→List a6)(HH:Nat→List aB)(listed listed0:Array Bool)(ρ:List a6)(H:List aB)
  (C:Nat→Nat) (τ:Nat→Option Loc) (a:Act) (w:World) (d B:Nat) (z:Value) (el:TypeId):Prop where
 hsz:listed.size=ops.size
 hcl:r8 ops listed
 hlq:listed.getD q false=true
 h0:∀k,listed0.getD k false=if k=q then false else listed.getD k false
 hc:F8 ops is R HH listed0 ρ H
 hne:∃e∈dU is 0,e<q∧listed.getD e false=false
 hs:SA E C τ (jD ρ (some d) .undef) H a w
 hd:d<a.tmps.size→a.tmps.getD d undef=.pointer (some ⟨B,0,none⟩)
 hob:w.heap[B]?=some (.cells z.cells el)
 hno:¬yC τ H B
 hC0:C B=0
 hB:E.w0.heap.size≤B
 hp:(z.cells.toList.map iP).all a6.isCell=true
 hq:is[q]?=some { dst:=some d,op:=.alloc (z.cells.toList.map iP) }
 hlt:∀k,k<is.length→(q∈(cB ops).getD k []∨Nat.testBit ((cY (cB ops) []).getD k 0) q=true)→∀e∈dU is 0,e<q→Nat.testBit ((cY (cB ops) []).getD k 0) e=true
theorem wQ{zero:List a6}{v:a6}{H':List aB}(h:sS P (.alloc zero) ρ H v H'):zero.all a6.isCell=true∧v=.ptr H.length 1 0 0∧H'=H++[.arr zero.length [zero]]:=by
 have:=h (fun u H1=>u=v∧H1=H') ⟨rfl,rfl⟩
 simp only[d7,aG,dG,Nat.zero_add]at this
 exact⟨this.1,this.2.1.symm,this.2.2.symm⟩
theorem JI(a:Act)(d:Option Nat)(u:Value):(a.put d u).tmps.size=a.tmps.size:=by
 cases d<;>simp[Act.put]
theorem SB(a:Act){o:Option Nat}{d:Nat}(u:Value)(h:o≠some d):(a.put o u).tmps.getD d undef=a.tmps.getD d undef:=by
 cases o with
 |none=>rfl
 |some n =>
  have hn:n≠d:=fun e=>h (by rw[e])
  simp[Act.put,Array.getD_eq_getD_getElem?,Array.getElem?_setIfInBounds,hn]
theorem AC{ops:Array Oper}{j:Nat}(hj:j<ops.size):(cB ops)[j]?=some ((ops[j].after.toList.filter fun e=>Region.binds .any e).map (·.on)):=by
 have:ops.toList[j]?=some ops[j]:=by simp[hj]
 simp[cB,this]
theorem KV.wpAny{ob:List Nat}{Q:jA→List a6→List aB→Prop}(h:KV P q ops is V R HH)(hcl:gK P ob ops ops.toList=some is)(hK:Q .normal (R is.length) (HH is.length)):
  ∀(f:Nat),(∀(listed:Array Bool) (ρ:List a6) (H:List aB) (C:Nat→Nat) (τ:Nat→Option Loc) (a:Act) (w:World),F8 ops is R HH listed ρ H→D9 listed is.length=f→SA E C τ ρ H a w→Go.wpAny P .any ops (QR E Q) f listed a w) ∧
   ∀(listed listed0:Array Bool) (ρ:List a6) (H:List aB) (C:Nat→Nat) (τ:Nat→Option Loc) (a:Act) (w:World) (d B:Nat) (z:Value) (el:TypeId),ZL E q ops is R HH listed listed0 ρ H C τ a w d B z el→D9 listed is.length=f→Go.wpAny P .any ops (QR E Q) f listed a w:=by
 intro f
 have hend:∀(listed:Array Bool) (ρ:List a6) (H:List aB) (C:Nat→Nat) (τ:Nat→Option Loc) (a:Act) (w:World),F8 ops is R HH listed ρ H→D9 listed is.length=0→SA E C τ ρ H a w→QR E Q .normal a w:=by
  intro listed ρ H C τ a w hc hu hs
  have hall:=sM _ hu
  have hρ:ρ=R is.length:=by
   refine IH (by rw[hc.len,h.lenR _ (Nat.le_refl _)]) fun s=>hc.slots s _ (Nat.le_refl _) fun k i hk _=>?_
   have hkn:=(List.getElem?_eq_some_iff.1 hk).1
   exact⟨fun _=>hkn,fun _=>hall k hkn⟩
  have hH:H=HH is.length:=by
   obtain⟨p,hp,hpe,rfl⟩:=hc.heap
   have hpn:p≤is.length:=by
    rcases hp with rfl|⟨e,he,rfl⟩
    ·exact Nat.zero_le _
    ·obtain⟨x,hx,_⟩:=mY.1 he
     exact(List.getElem?_eq_some_iff.1 hx).1
   exact(h.same _ hpn (Nat.le_refl _) fun e he h1 h2=>by have:=(hpe e he).1 (hall e h2);omega).symm
  exact⟨ρ,H,C,τ,by rw[hρ,hH];exact hK,hs⟩
 have hstuck:∀(f:Nat) (listed:Array Bool),listed.size=ops.size→D9 listed is.length=f+1→Region.ready .any ops listed=[]→False:=by
  intro f listed hsz hu h0
  obtain⟨j,hjn,hun,hbel⟩:=O9 is.length (by omega:0<D9 listed is.length)
  have hjo:j<ops.size:=by rw[←h.len];exact hjn
  have:j∈Region.ready .any ops listed:=by
   refine mem_ready.2 ⟨getD_in (by rw[hsz];exact hjo) hun,ops[j],Array.getElem?_eq_getElem hjo,fun e he hb=>hbel _ ?_⟩
   have:=mO _ 0 h.preds j _ (AC hjo) e.on (List.mem_map.2 ⟨e,List.mem_filter.2 ⟨by simpa using he,hb⟩,rfl⟩)
   omega
  rw[h0]at this
  cases this
 induction f with
 |zero =>
  refine⟨fun listed ρ H C τ a w hc hu hs=>⟨?_,hend listed ρ H C τ a w hc hu hs⟩,fun listed listed0 ρ H C τ a w d B z el hP hu=>?_⟩
  ·refine List.eq_nil_iff_forall_not_mem.2 fun j hj=>?_
   obtain⟨hun,o,ho,_⟩:=mem_ready.1 hj
   have hjn:j<is.length:=by rw[h.len];exact(Array.getElem?_eq_some_iff.1 ho).1
   have:=sM _ hu j hjn
   rw[getD_both hun]at this
   cases this
  ·obtain⟨e,he,hlt,hun⟩:=hP.hne
   obtain⟨x,hx,_⟩:=mY.1 he
   have:=sM _ hu e (List.getElem?_eq_some_iff.1 hx).1
   rw[hun]at this
   cases this
 |succ f ih =>
  refine⟨fun listed ρ H C τ a w hc hu hs=>?_,fun listed listed0 ρ H C τ a w d B z el hP hu=>?_⟩
  ·refine⟨fun h0=>(hstuck f listed hc.size hu h0).elim,fun j hj=>?_⟩
   obtain⟨hun,o,ho,hall⟩:=mem_ready.1 hj
   have hjo:j<ops.size:=(Array.getElem?_eq_some_iff.1 ho).1
   obtain⟨i,hi,hcomp⟩:=pP ops.toList is hcl j o (by simpa using ho)
   have hu':D9 (listed.setIfInBounds j true) is.length=f:=by
    have:=(GY (j:=j) (listed:=listed) (by rw[hc.size];exact hjo) (getD_both hun) is.length).1 (by rw[h.len];exact hjo)
    omega
   by_cases hearly:j=q∧¬∀e∈dU is 0,e<q→listed.getD e false=true
   ·
    obtain⟨rfl,hnall⟩:=hearly
    rcases h.late with hl|⟨d,zero,o2,el,hiq,ho2,hop,hlate⟩
    ·have:=(List.getElem?_eq_some_iff.1 hi).1;omega
    rw[hi]at hiq
    cases hiq
    obtain⟨ao,hao,hie⟩:=lE hcomp
    simp only[cT.mk.injEq]at hie
    obtain⟨e1,e2,e3⟩:=hie
    subst e2
    rw[ho]at ho2
    cases ho2
    rw[hop]at hao
    have hz:=FL hao
    obtain⟨inf,z,hinf,hz1,hz2,rfl⟩:=v7 hz
    have hnone:o.guard=none:=by
     cases hg:o.guard with
     |none=>rfl
     |some g=>rw[hg]at e3;cases e3
    have hyq:=(h.step j _ hi).1
    have hpc:(z.cells.toList.map iP).all a6.isCell=true:=by
     rcases hyq with⟨_,hy⟩|⟨hg,_⟩
     ·exact(wQ hy).1
     ·simp[l7]at hg
    have hrun:(execOp a.eval o).run P w=.ok (.value (.pointer (some ⟨w.heap.size,0,none⟩))) (w.alloc (.cells z.cells el)):=by
     simp[execOp,hop,Instr.alloc,zeroValue,gQ hinf,hz1,newVar,newRow]
    unfold wpOp
    simp only[ho]
    have hwant:Region.wanted o (yielded ops a.tmps)=true:=by simp[Region.wanted,hnone]
    rw[hwant]
    simp only[if_true]
    refine .inl ?_
    unfold Oper.wp
    refine lI (S:=fun u w'=>u=.pointer (some ⟨w.heap.size,0,none⟩)∧w'=w.alloc (.cells z.cells el)) (by rw[hrun];exact⟨rfl,rfl⟩) fun u w' hout=>?_
    obtain⟨rfl,rfl⟩:=hout
    rw[←e1]
    obtain⟨st,s⟩:=hs.st.alloc_comm (.cells z.cells el) 0
    have hCC:lB C w.heap.size (C w.heap.size+0)=C:=by
     funext b
     by_cases e:b=w.heap.size
     ·subst e;rw[bZ];rfl
     ·rw[cR _ _ e]
    rw[hCC]at st s
    obtain⟨ρ2,hk2,hsa2⟩:=(hs.go st s).putO (.undef (.pointer (some ⟨w.heap.size,0,none⟩))) (some d) (k:=fun x=>x=jD ρ (some d) .undef) (by rw[fU])
    subst hk2
    have hjl:j<listed.size:=by rw[hc.size];exact hjo
    refine ih.2 _ listed ρ H C τ _ _ d w.heap.size z el ⟨by simp[hc.size],hc.closed.set hjl fun ps hps p hp=>?_,by rw[eZ hjl,if_pos rfl],fun k=>?_,hc,?_,hsa2,fun hd=>?_,hZ _ _,?_,?_,hs.st.fr.size,hpc,hi,hlate⟩ hu'
    ·rw[AC hjo]at hps
     cases hps
     obtain⟨e,he,rfl⟩:=List.mem_map.1 hp
     have:=List.mem_filter.1 he
     have hoe:ops[j]=o:=by have:=Array.getElem?_eq_getElem hjo;rw[ho]at this;cases this;rfl
     rw[hoe]at this
     exact hall e (by simpa using this.1) this.2
    ·rw[eZ hjl]
     by_cases e:k=j
     ·subst e;rw[if_pos rfl];exact getD_both hun
     ·rw[if_neg e,if_neg (Ne.symm e)]
    ·obtain⟨e,hnall⟩:=Classical.not_forall.1 hnall
     obtain⟨he,hnall⟩:=Classical.not_imp.1 hnall
     obtain⟨hlt,hne⟩:=Classical.not_imp.1 hnall
     refine⟨e,he,hlt,?_⟩
     rw[eZ hjl,if_neg (by omega)]
     simpa using hne
    ·rw[JI]at hd
     simp[Act.put,Array.getD_eq_getD_getElem?,Array.getElem?_setIfInBounds,hd]
    ·rintro⟨id,l,h1,h2,h3⟩
     have:=hs.st.wf.locLt h1 h2
     omega
    ·rcases Nat.eq_zero_or_pos (C w.heap.size)with h0|h0
     ·exact h0
     ·have:=hs.st.wf.lt _ h0;omega
   obtain⟨v,H',hy,hc'⟩:=h.next hc hj (fun e=>Classical.byContradiction fun hn=>hearly ⟨e,hn⟩) hi
   obtain⟨ao,hao,rfl⟩:=lE hcomp
   unfold wpOp
   simp only[ho]
   rcases hy with⟨hg,hy⟩|⟨hg,rfl,rfl⟩
   ·rw[j1 hs hg]
    simp only[if_true]
    refine .inl ?_
    unfold Oper.wp
    refine lI (C6 (K:=fun u H1=>u=v∧H1=H') hao hs (hy _ ⟨rfl,rfl⟩)) fun u w' hout=>?_
    obtain⟨v',C',τ',H1,⟨rfl,rfl⟩,hrel,hsa⟩:=hout
    obtain⟨ρ2,hk2,hsa2⟩:=hsa.putO hrel o.dst (k:=fun x=>x=jD ρ o.dst v') (by rw[fU])
    subst hk2
    exact ih.1 _ _ _ C' τ' _ w' hc' hu' hsa2
   ·rw[j1 hs hg]
    simp only[Bool.false_eq_true,if_false]
    obtain⟨ρ2,hk2,hsa2⟩:=hs.putO sA o.dst (k:=fun x=>x=jD ρ o.dst (.tuple [])) (by rw[fU])
    subst hk2
    exact ih.1 _ _ _ C τ _ w hc' hu' hsa2
  ·refine⟨fun h0=>(hstuck f listed hP.hsz hu h0).elim,fun j hj=>?_⟩
   obtain⟨hun,o,ho,hall⟩:=mem_ready.1 hj
   have hjo:j<ops.size:=(Array.getElem?_eq_some_iff.1 ho).1
   have hjl:j<listed.size:=by rw[hP.hsz];exact hjo
   have hjl0:j<listed0.size:=by rw[hP.hc.size];exact hjo
   have hunf:=getD_both hun
   obtain⟨i,hi,hcomp⟩:=pP ops.toList is hcl j o (by simpa using ho)
   have hjn:=(List.getElem?_eq_some_iff.1 hi).1
   have hu':D9 (listed.setIfInBounds j true) is.length=f:=by
    have:=(GY (j:=j) (listed:=listed) hjl hunf is.length).1 (by rw[h.len];exact hjo)
    omega
   have hqn:=(List.getElem?_eq_some_iff.1 hP.hq).1
   have hqo:q<ops.size:=by rw[←h.len];exact hqn
   have hjq:j≠q:=fun e=>by rw[e,hP.hlq]at hunf;cases hunf
   have hoe:ops[j]=o:=by have:=Array.getElem?_eq_getElem hjo;rw[ho]at this;cases this;rfl
   have hps:=AC hjo
   rw[hoe]at hps
   have hpre:∀p∈(o.after.toList.filter fun e=>Region.binds .any e).map (·.on),listed.getD p false=true:=by
    intro p hp
    obtain⟨e,he,rfl⟩:=List.mem_map.1 hp
    have:=List.mem_filter.1 he
    exact hall e (by simpa using this.1) this.2
   obtain⟨e0,he0,he0q,he0u⟩:=hP.hne
   have hnot:¬(q∈(cB ops).getD j []∨Nat.testBit ((cY (cB ops) []).getD j 0) q=true):=fun hn=>by
    have:=h.anc hP.hcl j e0 ⟨_,hps,hpre⟩ (hP.hlt j hjn hn e0 he0 he0q)
    rw[he0u]at this;cases this
   have hnp:q∉(o.after.toList.filter fun e=>Region.binds .any e).map (·.on):=fun hm=>hnot (.inl (by
    rw[List.getD_eq_getElem?_getD,hps];exact hm))
   have hna:¬Nat.testBit ((cY (cB ops) []).getD j 0) q=true:=fun hm=>hnot (.inr hm)
   have htouch:¬(d∈i.slots∨i.dst=some d):=fun ht=>by
    rcases Nat.lt_or_gt_of_ne hjq with hlt|hgt
    ·have:=h.ancListed hP.hcl hP.hlq (h.conf j q i _ hlt hi hP.hq (by
      rcases ht with ht|ht
      ·exact .inr (.inl ⟨d,rfl,ht⟩)
      ·exact .inl ⟨d,ht,.inr rfl⟩))
     rw[hunf]at this;cases this
    ·exact hna (h.conf q j _ i hgt hP.hq hi (.inl ⟨d,rfl,ht⟩))
   have hds:d∉i.slots:=fun ht=>htouch (.inl ht)
   have hdd:i.dst≠some d:=fun ht=>htouch (.inr ht)
   have hun0:listed0.getD j false=false:=by rw[hP.h0,if_neg hjq];exact hunf
   have hj0:j∈Region.ready .any ops listed0:=by
    refine mem_ready.2 ⟨getD_in hjl0 hun0,o,ho,fun e he hb=>?_⟩
    rw[hP.h0,if_neg fun eq=>hnp (List.mem_map.2 ⟨e,List.mem_filter.2 ⟨by simpa using he,hb⟩,eq⟩)]
    exact hall e he hb
   obtain⟨v,H',hy,hc'⟩:=h.next hP.hc hj0 (fun e=>absurd e hjq) hi
   have hyu:fN P i (jD ρ (some d) .undef) H v H':=hy.same fun t ht=>xD (by rintro⟨⟩;exact hds ht)
   have hlB:=cQ hP.hob
   
   have go:∀(C':Nat→Nat) (τ':Nat→Option Loc) (u:Value) (w':World),SA (tT.here C τ H w) C' τ' (jD (jD ρ (some d) .undef) o.dst v) H' (a.put o.dst u) w'→i.dst=o.dst→Go.wpAny P .any ops (QR E Q) f (listed.setIfInBounds j true) (a.put o.dst u) w':=by
    intro C' τ' u w' hsa hio
    rw[PB (hio▸hdd)]at hsa
    rw[hio]at hc'
    have hpr:cX τ H w B:=⟨hlB,hP.hno⟩
    have hob':w'.heap[B]?=some (.cells z.cells el):=(hsa.st.fr.prot B hpr).trans hP.hob
    have hno':¬yC τ' H' B:=fun ho=>hsa.st.own B ho hpr
    have hC':C' B=0:=(hsa.step.old B hlB).trans hP.hC0
    have hd':d<(a.put o.dst u).tmps.size→(a.put o.dst u).tmps.getD d undef=.pointer (some ⟨B,0,none⟩):=fun hd=>by
     rw[JI]at hd
     rw[SB a u (hio▸hdd)]
     exact hP.hd hd
    have hsE:=hP.hs.there hsa
    have hcl':r8 ops (listed.setIfInBounds j true):=hP.hcl.set hjl fun ps hps2 p hp=>by
     rw[hps]at hps2;cases hps2
     exact hpre p hp
    have hlq':(listed.setIfInBounds j true).getD q false=true:=by rw[eZ hjl,hP.hlq];simp
    have h0':∀k,(listed0.setIfInBounds j true).getD k false=if k=q then false else(listed.setIfInBounds j true).getD k false:=fun k=>by
     rw[eZ hjl0,eZ hjl,hP.h0]
     by_cases e:k=q
     ·subst e;rw[if_neg hjq,if_pos rfl,if_pos rfl]
     ·rw[if_neg e,if_neg e]
    by_cases hfin:∀e∈dU is 0,e<q→(listed.setIfInBounds j true).getD e false=true
    ·
     have hqps:=AC hqo
     have hready:q∈Region.ready .any ops (listed0.setIfInBounds j true):=by
      refine mem_ready.2 ⟨getD_in (by simp[hP.hc.size,hqo]) (by rw[h0',if_pos rfl]),ops[q],Array.getElem?_eq_getElem hqo,fun e he hb=>?_⟩
      have hm:e.on∈(ops[q].after.toList.filter fun e=>Region.binds .any e).map (·.on):=List.mem_map.2 ⟨e,List.mem_filter.2 ⟨by simpa using he,hb⟩,rfl⟩
      have hlt:=mO _ 0 h.preds q _ hqps e.on hm
      rw[h0',if_neg (by omega)]
      exact hcl' q _ hqps hlq' e.on hm
     obtain⟨v2,H2,hy2,hc2⟩:=h.next hc' hready (fun _ e he hlt=>by rw[h0',if_neg (by omega)];exact hfin e he hlt) hP.hq
     rcases hy2 with⟨_,hy2⟩|⟨hg,_⟩
     case inr=>simp[l7]at hg
     obtain⟨_,rfl,rfl⟩:=wQ hy2
     obtain⟨τ2,hsa2⟩:=hsE.adopt hd' hob' hno' hC' hP.hB hP.hp
     have hql0:q<(listed0.setIfInBounds j true).size:=by simp[hP.hc.size,hqo]
     refine ih.1 _ _ _ C' τ2 _ w' (hc2.ext (by simp[hP.hsz,hP.hc.size]) fun k=>?_) hu' hsa2
     rw[eZ hql0,h0']
     by_cases e:k=q
     ·subst e;rw[if_pos rfl,hlq']
     ·rw[if_neg (Ne.symm e),if_neg e]
    ·obtain⟨e,hfin⟩:=Classical.not_forall.1 hfin
     obtain⟨he,hfin⟩:=Classical.not_imp.1 hfin
     obtain⟨hlt,hne⟩:=Classical.not_imp.1 hfin
     exact ih.2 _ _ _ _ C' τ' _ w' d B z el ⟨by simp[hP.hsz],hcl',hlq',h0',hc',⟨e,he,hlt,by simpa using hne⟩,hsE,hd',hob',hno',hC',hP.hB,hP.hp,hP.hq,hP.hlt⟩ hu'
   obtain⟨ao,hao,rfl⟩:=lE hcomp
   unfold wpOp
   simp only[ho]
   have hsh:=hP.hs.here
   rcases hyu with⟨hg,hy⟩|⟨hg,rfl,rfl⟩
   ·rw[j1 hP.hs hg]
    simp only[if_true]
    refine .inl ?_
    unfold Oper.wp
    refine lI (C6 (K:=fun u H1=>u=v∧H1=H') hao hsh (hy _ ⟨rfl,rfl⟩)) fun u w' hout=>?_
    obtain⟨v',C',τ',H1,⟨rfl,rfl⟩,hrel,hsa⟩:=hout
    obtain⟨ρ2,hk2,hsa2⟩:=hsa.putO hrel o.dst (k:=fun x=>x=jD (jD ρ (some d) .undef) o.dst v') (by rw[fU])
    subst hk2
    exact go C' τ' u w' hsa2 rfl
   ·rw[j1 hP.hs hg]
    simp only[Bool.false_eq_true,if_false]
    obtain⟨ρ2,hk2,hsa2⟩:=hsh.putO sA o.dst (k:=fun x=>x=jD (jD ρ (some d) .undef) o.dst (.tuple [])) (by rw[fU])
    subst hk2
    exact go C τ undef w hsa2 rfl
end
theorem B4{ob:List Nat}{id:Nat}{ops:Array Oper}{is:List cT}{Q:jA→List a6→List aB→Prop}(hc:gK P ob ops ops.toList=some is)(hB:NH P ops is=true)
  (h:N8 P (E.H0.map aB.olen) (.draw (rN ops is)) Q ρ H) (hs:SA E C τ ρ H a w):(Code.region id ops true).wp P (QR E Q) a w:=by
 unfold NH at hB
 simp only[Bool.and_eq_true]at hB
 obtain⟨⟨⟨hm,hdet⟩,hpreds⟩,hgo0⟩:=hB
 obtain⟨q,hlateq,hgo⟩:∃q,(is.length≤q∨RH ops (cB ops) (cY (cB ops) []) (dU is 0) is q=true)∧rM q (is.map iD) (cY (cB ops) []) 0 []=true:=by
  rcases Bool.or_eq_true _ _▸hgo0 with hgo|hgo
  ·exact⟨is.length,.inl (Nat.le_refl _),hgo⟩
  ·obtain⟨q,_,hq⟩:=List.any_eq_true.1 hgo
   rw[Bool.and_eq_true]at hq
   exact⟨q,.inr hq.1,hq.2⟩
 have hlen:is.length=ops.size:=by rw[qQ _ _ hc];simp
 obtain⟨st,s1⟩:=hs.st.same (w':={ w with drawn:=w.drawn+1 }) rfl rfl rfl rfl
 have hs':=hs.go st s1
 refine wp_region_any hm ?_
 obtain⟨V,R,HH,e1,e2,hK,hk,_⟩:=CO (rN ops is) [] [] ρ H (Q .normal) (fun x hx=>by
  obtain⟨j,hj,rfl⟩:=List.getElem_of_mem hx
  have hg:(rN ops is)[j]?=some (rN ops is)[j]:=List.getElem?_eq_getElem hj
  have hg2:=hg
  unfold rN at hg2
  rw[wX]at hg2
  cases hi:is[j]? with
  |none=>rw[hi]at hg2;cases hg2
  |some i =>
   rw[hi]at hg2
   simp only[Option.map_some,Option.some.injEq]at hg2
   have h1:=List.all_eq_true.1 hdet i (List.mem_of_getElem? hi)
   have h2:(rN ops is)[j].1=i:=(congrArg Prod.fst hg2).symm
   rw[h2]
   simpa using h1) h
 have hlenL:(rN ops is).length=is.length:=vG _ _
 obtain⟨hgl,hgs⟩:=yJ q is _ 0 [] hgo
 have hlex:KV P q ops is V R HH:=by
  refine⟨hlen,hpreds,fun i k x y hik hx hy hcf=>?_,?_,fun k i hi=>?_⟩
  ·have:=(hgs k y hy).2 i x hik hx
   rw[Nat.zero_add,Nat.zero_add]at this
   exact JE this hcf
  ·rcases hlateq with hl|hl
   ·exact .inl hl
   ·right
    unfold RH at hl
    rw[Bool.and_eq_true]at hl
    obtain⟨hl1,hl2⟩:=hl
    rw[Bool.and_eq_true]at hl1
    obtain⟨hl1,hl0⟩:=hl1
    split at hl1
    case h_2=>cases hl1
    rename_i d zero hiq
    split at hl0
    case h_2=>cases hl0
    rename_i o hoq
    split at hl0
    case h_2=>cases hl0
    rename_i el hop
    refine⟨d,zero,o,el,hiq,hoq,hop,fun k hk hor e he hlt=>?_⟩
    have:=List.all_eq_true.1 hl2 k (by simpa using hk)
    rw[Bool.or_eq_true]at this
    rcases this with h1|h1
    ·exfalso
     rw[Bool.not_eq_true',Bool.or_eq_false_iff]at h1
     rcases hor with h2|h2
     ·have:=List.elem_eq_true_of_mem h2
      rw[this]at h1;cases h1.1
     ·rw[h2]at h1;cases h1.2
    ·have h3:=List.all_eq_true.1 h1 e he
     rw[Bool.or_eq_true]at h3
     rcases h3 with h3|h3
     ·have hb:e.blt q=true:=by rw[Nat.blt_eq];exact hlt
      rw[hb]at h3;cases h3
     ·exact h3
  ·have hg:(rN ops is)[k]?=some (i,match i.op.quiet && !i.op.free with|true=>A9 (dU is 0) (cY (cB ops) []) is.length k|false=>[]):=by
    unfold rN
    rw[wX,hi]
    simp
   obtain⟨g1,g2,g3⟩:=hk k i _ hg
   refine⟨g1,g2,fun hq=>⟨(g3 hq).1,fun p hp hal hne=>?_⟩⟩
   have hpn:p≤is.length:=by
    rcases hp with rfl|⟨e,he,rfl⟩
    ·exact Nat.zero_le _
    ·obtain⟨x,hx,_⟩:=mY.1 he
     exact(List.getElem?_eq_some_iff.1 hx).1
   cases hfr:i.op.free with
   |true =>
    rw[(g3 hq).1]at g1
    exact g1.free hfr _
   |false =>
   refine(g3 hq).2 (is.length-p) ?_ (HH p) ?_
   ·simp only[hq,hfr,Bool.not_false,Bool.and_self]
    unfold A9
    refine List.mem_map.2 ⟨p,List.mem_filter.2 ⟨?_,?_⟩,rfl⟩
    ·rcases hp with rfl|⟨e,he,rfl⟩
     ·exact List.mem_cons_self ..
     ·exact List.mem_cons_of_mem _ (List.mem_map.2 ⟨e,he,rfl⟩)
    ·rw[hal]
     have:Nat.beq p (yR (dU is 0) k)=false:=by
      cases hb:Nat.beq p (yR (dU is 0) k)with
      |false=>rfl
      |true=>exact absurd (Nat.eq_of_beq_eq_true hb) hne
     rw[this];rfl
   ·unfold pU
    rw[hlenL,if_pos (by omega)]
    congr 2;omega
 have hc0:F8 ops is R HH (Array.replicate ops.size false) ρ H:=by
  have hf:∀k,(Array.replicate ops.size false).getD k false=false:=fun k=>getD_replicate_false _ _
  refine⟨by simp,fun j ps _ hl=>(by rw[hf]at hl;cases hl),fun s m hm hw=>?_,by rw[e1],0,.inl rfl,fun e _=>?_,e2.symm⟩
  ·rw[←e1]
   refine(hlex.slot m (Nat.zero_le _) hm fun k i hk _ hkm hd=>?_).symm
   have:=(hw k i hk hd).2 hkm
   rw[hf]at this;cases this
  ·exact⟨fun hl=>(by rw[hf]at hl;cases hl),fun hl=>absurd hl (Nat.not_lt_zero _)⟩
 have:=(hlex.wpAny (E:=E) (ob:=ob) (Q:=Q) hc (by rw[←hlenL];exact hK) is.length).1 _ ρ H C τ a _ hc0 (uE _ _) hs'
 rw[hlen]at this
 exact this
end
inductive F7 where
 |tmp (t:Nat)
 |cell (ag:Bool) (sz:Nat) (t:Nat)
structure tS where
 ntmps:Nat
 res:List F7
 code:g9
def nK(P:Program):List ResultVar→Option (List F7)
 |[]=>some []
 |.tmp t::r=>match nK P r with
  |some l=>some (.tmp t::l)
  |none=>none
 |.cell a t::r=>match sI P t,dF P t,nK P r with
  |some ag,some n,some l=>some (.cell ag n a::l)
  |_,_,_=>none
def QG(P:Program)(f:FuncId)(ob:List Nat)(af:tS):Prop :=
 ∃fn c,P.funcs[f]?=some fn∧(fn.name == "runtime.NumGoroutine")=false∧fn.body=some c∧kR P ob c=some af.code∧fn.ntmps=af.ntmps∧nK P fn.results.toList=some af.res
def uY(ρ:List a6)(H:List aB)(rs:List F7)(k:List a6→Prop):Prop :=
 @List.rec F7 (fun _=>(List a6→Prop)→Prop) (fun k=>k [])
  (fun r _ ih k=>match r with
   |.tmp t=>FV ρ t fun v=>ih fun vs=>k (v::vs)
   |.cell ag sz t=>FV ρ t fun p=>match p with
    |.ptr id ep idx fld=>cM H id fun o=>match o with
     |.arr _ es=>kB es ep idx fun e=>chkA (decide (fld+sz≤e.length)&&(ag||decide (sz=1))) (dL ((e.drop fld).take sz) fun cs=>ih fun vs=>k (EF ag cs::vs))
     |_=>False
    |_=>False) rs k
theorem JS(ρ:List a6)(H:List aB)(t:Nat)(r:List F7)(k:List a6→Prop):uY ρ H (.tmp t::r) k=FV ρ t fun v=>uY ρ H r fun vs=>k (v::vs):=rfl
theorem EQ(ρ:List a6)(H:List aB)(ag:Bool)(sz t:Nat)(r:List F7)(k:List a6→Prop):uY ρ H (.cell ag sz t::r) k=FV ρ t fun p=>match p with
    |.ptr id ep idx fld=>cM H id fun o=>match o with
     |.arr _ es=>kB es ep idx fun e=>chkA (decide (fld+sz≤e.length)&&(ag||decide (sz=1))) (dL ((e.drop fld).take sz) fun cs=>uY ρ H r fun vs=>k (EF ag cs::vs))
     |_=>False
    |_=>False:=rfl
def wL(vs:List a6)(k:a6→Prop):Prop :=
 match vs with
 |[v]=>k v
 |vs=>k (.tuple vs)
def xY(tmps:Array Value)(r:ResultVar):Sem Value :=
 match r with
 |.tmp t=>pure (tmps.getD t undef)
 |.cell a t=>do loadVar t (←asAddr (tmps.getD a undef))
theorem CK(fn:Func)(tmps:Array Value):results fn tmps=(do
  let vs ←fn.results.mapM (xY tmps)
  pure (if h:vs.size=1 then vs[0]else .tuple vs)):=rfl
section
variable {E:tT}{P:Program}{C:Nat→Nat}{τ:Nat→Option Loc}{ρ:List a6}{H:List aB}{a:Act}{w:World}{K:a6→List aB→Prop}
theorem nS(hs:SA E C τ ρ H a w):∀(rs:List ResultVar) (asv:List F7) (k:List a6→Prop),nK P rs=some asv→uY ρ H asv k →
  ∃(vs:List a6) (us:List Value),k vs∧(rs.mapM (xY a.tmps)).run P w=.ok us w∧vs.length=us.length∧∀(i:Nat) (c:a6) (v:Value),vs[i]?=some c→us[i]?=some v→bW C w τ H c v
 |[],asv,k,hc,h=>by
  simp only[nK,Option.some.injEq]at hc;subst hc
  exact⟨[],[],h,by simp,rfl,fun i c v h=>by simp at h⟩
 |.tmp t::rs,asv,k,hc,h=>by
  simp only[nK]at hc
  split at hc
  ·rename_i l hl
   cases hc
   simp only[JS,jI]at h
   obtain⟨vs,us,h1,h2,h3,h4⟩:=nS hs rs l _ hl h
   refine⟨_,a.tmps.getD t undef::us,h1,?_,?_,?_⟩
   ·simp only[List.mapM_cons,xY,Sem.run_bind,Sem.run_pure,Result.andThen_ok,h2]
   ·simp[h3]
   ·intro i c v hc hv
    cases i with
    |zero=>simp at hc hv;subst hc hv;have:=hs.tmps t;simpa only[Array.getD_eq_getD_getElem?]using this
    |succ i=>exact h4 i c v (by simpa using hc) (by simpa using hv)
  ·cases hc
 |.cell ad t::rs,asv,k,hc,h=>by
  simp only[nK]at hc
  split at hc
  ·rename_i ag n l ht hn hl
   cases hc
   simp only[EQ,jI]at h
   have hr:=hs.tmps ad
   split at h
   case h_2=>exact h.elim
   rename_i id ep idx fld hv
   rw[hv]at hr
   simp only[cM,b6]at h
   obtain⟨ob,hob,h⟩:=h
   split at h
   case h_2=>exact h.elim
   rename_i esz es
   simp only[iW,aG,Bool.and_eq_true,Bool.or_eq_true,decide_eq_true_eq]at h
   obtain⟨hep,e,he,⟨hl2,hag⟩,hk⟩:=h
   have hk:=gS hk
   obtain⟨lc,hl1,hu⟩:=hr.ptr_inv hob hep
   obtain⟨u,g1,g2⟩:=(hs.st.wf.reads hob hl1 he).load ht hn hl2 hag
   obtain⟨vs,us,h1,h2,h3,h4⟩:=nS hs rs l _ hl hk
   refine⟨_,u::us,h1,?_,by simp[h3],fun i c v hc hv=>?_⟩
   ·simp only[List.mapM_cons,xY,hu,asAddr,Sem.run_bind,Sem.run_pure,Result.andThen_ok,g1,h2]
   ·cases i with
    |zero=>simp at hc hv;subst hc hv;exact g2
    |succ i=>exact h4 i c v (by simpa using hc) (by simpa using hv)
  ·cases hc
theorem iA:∀(args:List a6) (n t:Nat),cO (args++List.replicate n (.tuple [])) t=if h:t<args.length then args[t]else if t<args.length+n then .tuple []else .undef
 |[],n,t=>by
  induction n generalizing t with
  |zero=>simp[cO]
  |succ n ih =>
   cases t with
   |zero=>simp[List.replicate_succ,cO]
   |succ t =>
    have:=ih t
    simp[List.replicate_succ,cO]at this ⊢
    rw[this]
 |x::xs,n,t=>by
  cases t with
  |zero=>simp[cO]
  |succ t =>
   have:=iA xs n t
   simp only[List.cons_append,cO,this,List.length_cons]
   by_cases h:t<xs.length
   ·simp[h]
   ·have h2:¬t+1<xs.length+1:=by omega
    rw[dif_neg h,dif_neg h2]
    by_cases h3:t<xs.length+n
    ·rw[if_pos h3,if_pos (by omega)]
    ·rw[if_neg h3,if_neg (by omega)]
theorem aA{f:FuncId}{ob:List Nat}{af:tS}{args:List a6}{Q:a6→List aB→Prop}
  (hf:QG P f ob af)
  (h:dL (args++List.replicate (af.ntmps-args.length) (.tuple [])) fun ρ=>N8 P (H.map aB.olen) af.code (fun e ρ' H'=>match e with
   |.exit _=>False
   |_=>uY ρ' H' af.res fun vs=>wL vs fun v=>Q v H') ρ H):a7 P f args H Q:=by
 rw[dC]at h
 obtain⟨fn,c,hfn,hname,hbody,hcomp,hnt,hres⟩:=hf
 intro C τ w vs hw hl hr
 have hcall:(callFunc f vs).run P w=.ok (.enter f vs) w:=by
  simp only[callFunc,Sem.run_bind,run_program,Result.andThen_ok,hfn,hname,Bool.false_eq_true,if_false,hbody,Option.isNone_some,Sem.run_pure]
 unfold eS
 rw[hcall]
 let E:tT:=⟨w,cX τ H w,C,τ,H,fun b hb hn=>Classical.byContradiction fun ho=>hn ⟨hb,ho⟩⟩
 have hsa:SA E C τ (args++List.replicate (af.ntmps-args.length) (.tuple [])) H { tmps:=vs++Array.replicate (fn.ntmps-vs.size) undef,defers:=[] } w:=by
  refine⟨St.start hw,cU.refl,fun t=>?_,by simp[hl,hnt],rfl⟩
  rw[iA]
  simp only[Array.getD_eq_getD_getElem?]
  by_cases ht:t<args.length
  ·rw[dif_pos ht,Array.getElem?_append_left (by omega),Array.getElem?_eq_getElem (by omega)]
   exact hr t _ _ (List.getElem?_eq_getElem ht) (Array.getElem?_eq_getElem (by omega))
  ·rw[dif_neg ht,Array.getElem?_append_right (by omega)]
   split
   ·rename_i h2
    rw[Array.getElem?_replicate,if_pos (by omega)]
    exact sA
   ·exact .undef _
 refine calls_of_wp hfn hbody (wp_mono (B0 (E:=E) (fun id ops is Q C τ ρ H a w h1 h2 h3 h4=>B4 h1 h2 h3 h4) c af.code _ C τ _ H _ w hcomp h hsa) fun e a' w' hq=>?_)
 have fin:∀(ρ':List a6) (H':List aB) (C':Nat→Nat) (τ':Nat→Option Loc),(uY ρ' H' af.res fun vs=>wL vs fun v=>Q v H')→SA E C' τ' ρ' H' a' w' →
   a'.defers=[]∧∃v,(results fn a'.tmps).run P w'=.ok v w'∧∃v2 r C' τ' H',Ending.returned v=.returned v2∧Q r H'∧bW C' w' τ' H' r v2∧St w (cX τ H w) C' τ' H' w'∧cU C τ H w C' τ' H' w':=by
  intro ρ' H' C' τ' hk hs
  refine⟨hs.defers,?_⟩
  obtain⟨xs,us,h1,h2,h3,h4⟩:=nS hs fn.results.toList af.res _ hres hk
  have hm:(fn.results.mapM (xY a'.tmps)).run P w'=.ok us.toArray w':=by
   rw[Array.mapM_eq_mapM_toList,Sem.run_map,h2];rfl
  have hrun:(results fn a'.tmps).run P w'=.ok (if h:us.toArray.size=1 then us.toArray[0]else .tuple us.toArray) w':=by
   rw[CK,Sem.run_bind,hm]
   rfl
  refine⟨_,hrun,?_⟩
  unfold wL at h1
  split at h1
  ·rename_i v
   have hu:us.length=1:=by rw[←h3];rfl
   obtain⟨u,rfl⟩:=List.length_eq_one_iff.1 hu
   exact⟨_,v,C',τ',H',rfl,h1,h4 0 v u rfl rfl,hs.st,hs.step⟩
  ·rename_i hne
   have hu:¬us.toArray.size=1:=by
    intro hu
    simp at hu
    rw[←h3]at hu
    obtain⟨v,hv⟩:=List.length_eq_one_iff.1 hu
    exact hne v hv
   refine⟨_,_,C',τ',H',rfl,h1,?_,hs.st,hs.step⟩
   rw[dif_neg hu]
   exact .tuple _ _ (by simpa using h3) fun i c v hc hv=>h4 i c v hc (by simpa using hv)
 cases e with
 |normal=>obtain⟨ρ',H',C',τ',hk,hs⟩:=hq;exact fin ρ' H' C' τ' hk hs
 |ret=>obtain⟨ρ',H',C',τ',hk,hs⟩:=hq;exact fin ρ' H' C' τ' hk hs
 |exit id=>obtain⟨_,_,_,_,hk,_⟩:=hq;exact hk.elim
 |_=>exact hq.elim
theorem a7.mono{f:FuncId}{args:List a6}{Q Q':a6→List aB→Prop}(h:a7 P f args H Q)(hq:∀r H',Q r H'→Q' r H'):a7 P f args H Q':=by
 intro C τ w vs hw hl hr
 have h:=h C τ w vs hw hl hr
 unfold eS at h⊢
 split at h
 ·exact Calls.mono h fun e w' ⟨v,r,C',τ',H',h1,h2,h3⟩=>⟨v,r,C',τ',H',h1,hq _ _ h2,h3⟩
 ·obtain⟨v,r,C',τ',H',h1,h2,h3⟩:=h
  exact⟨v,r,C',τ',H',h1,hq _ _ h2,h3⟩
 ·exact h
theorem a7.ret{f:FuncId}{args:List a6}{R:a6}{Q:a6→List aB→Prop}(h:a7 P f args H (fun r H'=>r=R∧H'=H))(hq:Q R H):a7 P f args H Q :=
 h.mono fun r H' ⟨h1,h2⟩=>by subst h1 h2;exact hq
end
section
variable {P:Program}{C C':Nat→Nat}{τ τ':Nat→Option Loc}{H H':List aB}{w w':World}
theorem a7.lift{f:FuncId}{args:List a6}{Q0 Q:a6→List aB→Prop}(ha:args.all a6.closed=true)(h:a7 P f args [] Q0)
  (hq:∀r H1,Q0 r H1→∃ids r' Hn,dV H1 H.length ids r r'∧ids.Nodup∧ids.length=Hn.length∧(∀(k id:Nat),ids[k]?=some id→Hn[k]?=H1[id]?∧∃esz es,H1[id]?=some (.arr esz es)∧bG es=true)∧Q r' (H++Hn)) :
  a7 P f args H Q:=by
 intro C τ w vs hw hl hr
 have hw0:WF C τ [] w:=⟨fun id o h=>by simp at h,fun id o h=>by simp at h,fun id o l h=>by simp at h,fun id l h=>by simp at h,fun i j li lj h=>by simp at h,hw.lt⟩
 have hr0:∀(i:Nat) (a:a6) (v:Value),args[i]?=some a→vs[i]?=some v→bW C w τ [] a v:=fun i a v h1 h2 =>
  (hr i a v h1 h2).closed (List.all_eq_true.1 ha a (List.mem_of_getElem? h1)) (fun _=>Nat.le_refl _) (fun _ _ _=>rfl)
 have hc:=h C τ w vs hw0 hl hr0
 have fin:∀(e:Ending) (w':World),(∃v r C' τ' H',e=.returned v∧Q0 r H'∧bW C' w' τ' H' r v∧St w (cX τ [] w) C' τ' H' w'∧cU C τ [] w C' τ' H' w') →
   ∃v r C' τ' H',e=.returned v∧Q r H'∧bW C' w' τ' H' r v∧St w (cX τ H w) C' τ' H' w'∧cU C τ H w C' τ' H' w':=by
  rintro e w' ⟨v,r,C1,τ1,H1,he,hq0,hrel,hst,hstep⟩
  obtain⟨ids,r',Hn,hpub,hnd,hlen,hkeep,hQ⟩:=hq r H1 hq0
  have prall:∀b,b<w.heap.size→cX τ [] w b:=fun b hb=>⟨hb,by rintro⟨id,l,h,_⟩;simp at h⟩
  have hheap:∀b,b<w.heap.size→w'.heap[b]?=w.heap[b]?:=fun b hb=>hst.fr.prot b (prall b hb)
  have hnew:∀id l,id<H1.length→τ1 id=some l→w.heap.size≤l.b:=fun id l h1 h2=>by
   rcases Nat.lt_or_ge l.b w.heap.size with h3|h3
   ·exact absurd (prall _ h3) (hst.own _ ⟨id,l,h1,h2,rfl⟩)
   ·exact h3
  let τ2:Nat→Option Loc:=fun i=>if i<H.length then τ i else match ids[i-H.length]? with
   |some id=>τ1 id
   |none=>none
  have hτ:∀i,i<H.length→τ2 i=τ i:=fun i hi=>by simp only[τ2,if_pos hi]
  have hτn:∀k id,ids[k]?=some id→τ2 (H.length+k)=τ1 id:=fun k id hk=>by
   simp only[τ2,if_neg (by omega:¬H.length+k<H.length),Nat.add_sub_cancel_left,hk]
  have hidlt:∀k id,ids[k]?=some id→id<H1.length:=fun k id hk=>by
   obtain⟨_,esz,es,h1,_⟩:=hkeep k id hk
   exact(List.getElem?_eq_some_iff.1 h1).1
  have getn:∀k,(H++Hn)[H.length+k]?=Hn[k]?:=fun k=>by rw[List.getElem?_append_right (by omega),Nat.add_sub_cancel_left]
  have hC2:∀b,b<w.heap.size→iJ C1 τ1 H1 ids b=C b:=fun b hb=>by
   rw[fR fun id l h1 _ h2 h3=>by have:=hnew id l h1 h2;omega]
   exact hstep.old b hb
  have step:cU C τ H w (iJ C1 τ1 H1 ids) τ2 (H++Hn) w':=by
   refine⟨fun b=>Nat.le_trans (hstep.le b) (i6 hst.wf b),fun b i hi=>hstep.cell b i hi,fun id o ho=>?_,hstep.grow,hC2⟩
   have hi:=(List.getElem?_eq_some_iff.1 ho).1
   exact⟨o,by rw[List.getElem?_append_left hi];exact ho,by rw[hτ id hi];exact o.after_refl _⟩
  
  have split:∀i,i<(H++Hn).length→i<H.length∨∃k id,i=H.length+k∧ids[k]?=some id:=fun i hi=>by
   rcases Nat.lt_or_ge i H.length with h1|h1
   ·exact .inl h1
   ·have hk:i-H.length<ids.length:=by rw[List.length_append]at hi;omega
    exact .inr ⟨i-H.length,ids[i-H.length],by omega,List.getElem?_eq_getElem hk⟩
  refine⟨v,r',iJ C1 τ1 H1 ids,τ2,H++Hn,he,hQ,GB hst.wf (fun k id hk=>⟨fun esz es he=>⟨es,by rw[getn,(hkeep k id hk).1];exact he,rfl⟩,hτn k id hk⟩) hpub hrel,⟨⟨?_,?_,?_,?_,?_,?_⟩,?_,?_,?_⟩,step⟩
  ·intro i o ho
   rcases split i (List.getElem?_eq_some_iff.1 ho).1 with h1|⟨k,id,rfl,hk⟩
   ·rw[List.getElem?_append_left h1]at ho;exact hw.ok i o ho
   ·rw[getn,(hkeep k id hk).1]at ho;exact hst.wf.ok id o ho
  ·intro i o ho ht
   rcases split i (List.getElem?_eq_some_iff.1 ho).1 with h1|⟨k,id,rfl,hk⟩
   ·rw[List.getElem?_append_left h1]at ho;rw[hτ i h1]at ht;exact hw.virt i o ho ht
   ·rw[getn,(hkeep k id hk).1]at ho;rw[hτn k id hk]at ht;exact hst.wf.virt id o ho ht
  ·intro i o l ho ht
   rcases split i (List.getElem?_eq_some_iff.1 ho).1 with h1|⟨k,id,rfl,hk⟩
   ·rw[List.getElem?_append_left h1]at ho;rw[hτ i h1]at ht
    exact(hw.objs i o l ho ht).mono step (hheap _ (hw.locLt h1 ht))
   ·obtain⟨g1,esz,es,g2,g3⟩:=hkeep k id hk
    rw[getn,g1,g2]at ho;cases ho
    rw[hτn k id hk]at ht
    obtain⟨a1,cells,elem,fz,a2,a3,a4,a5⟩:=hst.wf.objs id _ l g2 ht
    refine⟨a1,cells,elem,fz,a2,a3,a4,fun i j e d hi hd=>?_⟩
    obtain⟨x,hx1,hx2⟩:=a5 i j e d hi hd
    exact⟨x,hx1,.rd ((hx2.pure (gX g3 hi hd)).mono (i6 hst.wf) (fun _ _ _=>rfl))⟩
  ·intro i l hi ht
   rcases split i hi with h1|⟨k,id,rfl,hk⟩
   ·rw[hτ i h1]at ht
    rw[hC2 _ (hw.locLt h1 ht)];exact hw.comm i l h1 ht
   ·rw[hτn k id hk]at ht
    have hlt:=hidlt k id hk
    rw[fR fun id' l' h1 h2 h3 h4=>h2 (by
     have:=hst.wf.inj id' id l' l h1 hlt h3 ht h4
     subst this;exact List.mem_of_getElem? hk)]
    exact hst.wf.comm id l hlt ht
  ·intro i j li lj hi hj hti htj hb
   rcases split i hi with h1|⟨k,id,rfl,hk⟩<;>rcases split j hj with h2|⟨k',id',rfl,hk'⟩
   ·rw[hτ i h1]at hti;rw[hτ j h2]at htj;exact hw.inj i j li lj h1 h2 hti htj hb
   ·rw[hτ i h1]at hti;rw[hτn k' id' hk']at htj
    have:=hw.locLt h1 hti;have:=hnew id' lj (hidlt k' id' hk') htj;omega
   ·rw[hτn k id hk]at hti;rw[hτ j h2]at htj
    have:=hw.locLt h2 htj;have:=hnew id li (hidlt k id hk) hti;omega
   ·rw[hτn k id hk]at hti;rw[hτn k' id' hk']at htj
    have e:=hst.wf.inj id id' li lj (hidlt k id hk) (hidlt k' id' hk') hti htj hb
    subst e
    have hki:=(List.getElem?_eq_some_iff.1 hk)
    have hki':=(List.getElem?_eq_some_iff.1 hk')
    have hne:=List.pairwise_iff_getElem.1 hnd
    rcases Nat.lt_trichotomy k k' with h3|h3|h3
    ·exact absurd (hki.2.trans hki'.2.symm) (hne k k' hki.1 hki'.1 h3)
    ·omega
    ·exact absurd (hki'.2.trans hki.2.symm) (hne k' k hki'.1 hki.1 h3)
  ·intro b hb
   by_cases h1:∃id l,id<H1.length∧τ1 id=some l∧l.b=b
   ·obtain⟨id,l,h1,h2,rfl⟩:=h1
    exact hst.wf.locLt h1 h2
   ·rw[fR fun id l g1 _ g2 g3=>h1 ⟨id,l,g1,g2,g3⟩]at hb
    exact hst.wf.lt b hb
  ·exact⟨hst.fr.os,hst.fr.tape,hst.fr.output,hst.fr.size,fun b hb=>hheap b hb.1,hst.fr.drawn⟩
  ·rintro b ⟨i,l,hi,ht,rfl⟩ hp
   rcases split i hi with h1|⟨k,id,rfl,hk⟩
   ·rw[hτ i h1]at ht;exact hp.2 ⟨i,l,h1,ht,rfl⟩
   ·rw[hτn k id hk]at ht
    have:=hnew id l (hidlt k id hk) ht;have:=hp.1;omega
  ·exact fun b hb=>hb.1
 unfold eS at hc ⊢
 split at hc
 ·exact Calls.mono hc fun e w' hh=>fin e w' hh
 ·exact fin _ _ hc
 ·exact hc
theorem dV.any{H1:List aB}{n m:Nat}{v r:a6}(h:dV H1 n [] v r):dV H1 m [] v r:=by
 induction h with
 |closed v h=>exact .closed v h
 |frz id ep off len esz es ho hep hp hid=>exact .frz id ep off len esz es ho hep hp hid
 |frzN id ep off len esz es es1 ho hep hid hl hl2 hp h ih=>exact .frzN id ep off len esz es es1 ho hep hid hl hl2 hp ih
 |keep id ep off len k hk=>simp at hk
 |dead v=>exact .dead v
 |frzP id ep idx fld esz es e ho hep he hp hid=>exact .frzP id ep idx fld esz es e ho hep he hp hid
 |fnc f vs rs hl h ih=>exact .fnc f vs rs hl ih
 |keepP id ep idx fld k hk=>simp at hk
 |NR id ep off len cap k hk=>simp at hk
 |tuple vs rs hl h ih=>exact .tuple vs rs hl ih
 |agg vs rs hl h ih=>exact .agg vs rs hl ih
theorem a7.lift0{f:FuncId}{args:List a6}{R:a6→Prop}(ha:args.all a6.closed=true)(h:a7 P f args [] (fun r H1=>∃r',dV H1 0 [] r r'∧R r')):
  a7 P f args H (fun r H'=>R r∧H'=H) :=
 h.lift ha fun r H1 ⟨r',hp,hR⟩=>⟨[],r',[],hp.any,List.nodup_nil,rfl,fun k id h=>by simp at h,hR,by simp⟩
theorem a7.pure{f:FuncId}{args:List a6}{R:a6}(ha:args.all a6.closed=true)(h:a7 P f args [] (fun r H1=>dV H1 0 [] r R)):
  a7 P f args H (fun r H'=>r=R∧H'=H) :=
 a7.lift0 (R:=fun r=>r=R) ha (h.mono fun _ _ hp=>⟨R,hp,rfl⟩)
theorem iB{H1:List aB}{n:Nat}{ids:List Nat}{b c:Bool}(h:b=c):dV H1 n ids (.bool b) (.bool c):=by subst h;exact .closed _ rfl
theorem cZ{H1:List aB}{n:Nat}{ids:List Nat}{k:IntKind}{b c:Int}(h:b=c):dV H1 n ids (.int k b) (.int k c):=by subst h;exact .closed _ rfl
theorem a7.use{f:FuncId}{args:List a6}{R:a6}{Q:a6→List aB→Prop}(h:a7 P f args H (fun r H'=>r=R∧H'=H))(hq:Q R H):a7 P f args H Q:=h.ret hq
end
def bs(l:List Nat):ByteArray:=⟨(l.map UInt8.ofNat).toArray⟩
theorem QW:(bs []).data.toList=[]:=rfl
theorem aW(n:Int)(h1 : -9223372036854775808≤n)(h2:n≤9223372036854775807):IntKind.i64.wrap n=n:=m4 h1 h2
def zN(N:Nat):Nat→List (Nat×a6)→(Nat→a6)→List a6
 |0,_,_=>[]
 |n+1,[],d=>d n::zN N n [] d
 |n+1,(j,v)::r,d=>match Nat.beq (j+(n+1)) N with
  |true=>v::zN N n r d
  |false=>d n::zN N n ((j,v)::r) d
def Sv(n:Nat)(live:List (Nat×a6))(ρ:List a6):Prop:=∃d,ρ=zN n n live d
def vF(ρ:List a6):List (Nat×a6)→Prop
 |[]=>True
 |(j,v)::r=>cO ρ j=v∧vF ρ r
theorem A7(N:Nat):∀(n:Nat) (live:List (Nat×a6)) (l ρ:List a6),n≤N→(∀k,cO l k=cO ρ (N-n+k))→l.length=n→vF ρ live→l=zN N n live fun m=>cO ρ (N-(m+1))
 |0,live,l,ρ,_,_,hl,_=>by
  cases l with
  |nil=>cases live<;>rfl
  |cons x l=>simp at hl
 |n+1,live,[],ρ,_,_,hl,_=>by simp at hl
 |n+1,[],x::l,ρ,hn,h,hl,hs=>by
  have h0:=h 0
  simp only[cO,Nat.add_zero]at h0
  subst h0
  rw[zN,←A7 N n [] l ρ (by omega) (fun k=>by have:=h (k+1);simp only[cO]at this;rw[this];congr 1;omega) (by simpa using hl) hs]
 |n+1,(j,v)::r,x::l,ρ,hn,h,hl,hs=>by
  have h0:=h 0
  simp only[cO,Nat.add_zero]at h0
  subst h0
  have ht:∀k,cO l k=cO ρ (N-n+k):=fun k=>by have:=h (k+1);simp only[cO]at this;rw[this];congr 1;omega
  rw[zN]
  split
  ·rename_i hb
   have hj:N-(n+1)=j:=by have:=Nat.eq_of_beq_eq_true hb;omega
   rw[←A7 N n r l ρ (by omega) ht (by simpa using hl) hs.2,hj,hs.1]
  ·rw[←A7 N n ((j,v)::r) l ρ (by omega) ht (by simpa using hl) hs]
theorem Sv.intro{n:Nat}{live:List (Nat×a6)}{ρ:List a6}(hl:ρ.length=n)(h:vF ρ live):Sv n live ρ:=⟨_,A7 n n live ρ ρ (Nat.le_refl _) (fun k=>by rw[Nat.sub_self,Nat.zero_add]) hl h⟩
def lK(H:List aB)(ids:List Nat)(ρ:List a6):List (Nat×a6)→Prop
 |[]=>True
 |(j,v)::r=>dV H 0 ids (cO ρ j) v∧lK H ids ρ r
theorem rZ{H:List aB}{ids:List Nat}(N:Nat):∀(n:Nat) (live:List (Nat×a6)) (l ρ:List a6),n≤N→(∀k,cO l k=cO ρ (N-n+k))→l.length=n→lK H ids ρ live→Y2 H ids l (zN N n live fun _=>.undef)
 |0,live,l,ρ,_,_,hl,_=>by
  cases l with
  |nil=>cases live<;>trivial
  |cons x l=>simp at hl
 |n+1,live,[],ρ,_,_,hl,_=>by simp at hl
 |n+1,[],x::l,ρ,hn,h,hl,hs=>by
  rw[zN]
  exact⟨.dead _,rZ N n [] l ρ (by omega) (fun k=>by have:=h (k+1);simp only[cO]at this;rw[this];congr 1;omega) (by simpa using hl) hs⟩
 |n+1,(j,v)::r,x::l,ρ,hn,h,hl,hs=>by
  have h0:=h 0
  simp only[cO,Nat.add_zero]at h0
  have ht:∀k,cO l k=cO ρ (N-n+k):=fun k=>by have:=h (k+1);simp only[cO]at this;rw[this];congr 1;omega
  rw[zN]
  split
  ·rename_i hb
   have hj:N-(n+1)=j:=by have:=Nat.eq_of_beq_eq_true hb;omega
   exact⟨by rw[h0,hj];exact hs.1,rZ N n r l ρ (by omega) ht (by simpa using hl) hs.2⟩
  ·exact⟨.dead _,rZ N n ((j,v)::r) l ρ (by omega) ht (by simpa using hl) hs⟩
theorem Gp.keep{n0:List Nat}{n:Nat}{live:List (Nat×a6)}{ρ:List a6}{H:List aB}{I:List a6→List aB→Prop}(hl:ρ.length=n)(h:vF ρ live)(hI:∀ρ1,Sv n live ρ1→I ρ1 H):Gp n0 ρ H I :=
 .inl (hI ρ (Sv.intro hl h))
theorem Gp.some{n:Nat}{live:List (Nat×a6)}{ρ:List a6}{H H1:List aB}{I:List a6→List aB→Prop}(ids:List Nat)(hnd:ids.Nodup)(ho:TT H ids ids H1)(hl:ρ.length=n)(h:lK H ids ρ live)(hI:∀ρ1,Sv n live ρ1→I ρ1 H1):Gp [] ρ H I :=
 .inr ⟨ids,zN n n live fun _=>.undef,H1,hnd,fun _ _ h=>by simp at h,ho,rZ n n live ρ ρ (Nat.le_refl _) (fun k=>by rw[Nat.sub_self,Nat.zero_add]) hl h,hI _ ⟨_,rfl⟩⟩
theorem Gp.none{n:Nat}{live:List (Nat×a6)}{ρ:List a6}{H:List aB}{I:List a6→List aB→Prop}(hl:ρ.length=n)(h:lK H [] ρ live)(hI:∀ρ1,Sv n live ρ1→I ρ1 []):Gp [] ρ H I :=
 Gp.some (H1:=[]) [] List.nodup_nil trivial hl h hI
theorem Gp.one{n:Nat}{live:List (Nat×a6)}{ρ:List a6}{H:List aB}{I:List a6→List aB→Prop}(id:Nat)(sz:Nat)(es:List (List a6))(ho:H[id]?=.some (.arr sz es))(hp:bG es=true)(hl:ρ.length=n)(h:lK H [id] ρ live)(hI:∀ρ1,Sv n live ρ1→I ρ1 [.arr sz es]):Gp [] ρ H I :=
 Gp.some (H1:=[.arr sz es]) [id] (by simp) (by exact⟨⟨_,ho,.same _ _ hp⟩,trivial⟩) hl h hI
theorem JG{H1:List aB}{n:Nat}{ids:List Nat}{v r:a6}(h:v=r)(hr:r.closed=true):dV H1 n ids v r:=by subst h;exact .closed _ hr
theorem kI{H1:List aB}{n:Nat}{ids:List Nat}{id ep ep' off len len' m k:Nat}(hk:ids[k]?=some id)(hm:m=n+k)(e1:ep=ep')(e2:len=len'):dV H1 n ids (.sl id ep off len) (.sl m ep' off len'):=by
 subst hm e1 e2;exact .keep _ _ _ _ _ hk
theorem eQ{id ep ep' off len len':Nat}(h1:ep=ep')(h2:len=len'):a6.sl id ep off len=.sl id ep' off len':=by subst h1 h2;rfl
theorem aN{k:IntKind}{a b:Int}(h:a=b):a6.int k a=.int k b:=by subst h;rfl
section
variable {P:Program}{C C':Nat→Nat}{τ τ':Nat→Option Loc}{H H':List aB}{w w':World}
inductive Wk:a6→a6→Prop where
 |refl (a:a6):Wk a a
 |nil (x:Bool) (sz:Nat):Wk .nil (.list x sz [])
 |list (x y:Bool) (sz:Nat) (es:List (List a6)) (h:y=true→x=true):Wk (.list x sz es) (.list y sz es)
 |agg (asv bs:List a6) (hl:asv.length=bs.length) (h:∀(i:Nat) (a b:a6),asv[i]?=some a→bs[i]?=some b→Wk a b):Wk (.agg asv) (.agg bs)
theorem Rd.weak{a b:a6}{v:Value}(h:Rd C w a v)(hw:Wk a b):Rd C w b v:=by
 cases hw with
 |refl=>exact h
 |nil x sz=>cases h;exact .list0 x sz none 0 (fun _=>rfl)
 |list x y sz es hxy =>
  cases h with
  |list0 _ _ a cap hx=>exact .list0 y sz a cap fun hy=>hx (hxy hy)
  |list _ _ _ b off cap vs hx hcap hsz hC hcell hp hrd=>exact .list y sz es b off cap vs (fun hy=>hx (hxy hy)) hcap hsz hC hcell hp hrd
 |agg=>cases h
theorem bW.weak{a b:a6}{v:Value}(h:bW C w τ H a v)(hw:Wk a b):bW C w τ H b v:=by
 induction hw generalizing v with
 |refl=>exact h
 |nil x sz =>
  cases h with
  |rd h=>exact .rd (h.weak (.nil x sz))
 |list x y sz es hxy =>
  cases h with
  |rd h=>exact .rd (h.weak (.list x y sz es hxy))
 |agg asv bs hl h2 ih =>
  cases h with
  |rd h=>cases h
  |agg _ vs hlv hv =>
   refine .agg bs vs (by omega) fun i c u hc hu=>?_
   have hi:i<asv.length:=by have:=(List.getElem?_eq_some_iff.1 hc).1;omega
   exact ih i asv[i] c (List.getElem?_eq_getElem hi) hc (hv i asv[i] u (List.getElem?_eq_getElem hi) hu)
def a6.scalar:a6→Bool
 |.bool _ | .int _ _ | .str _ | .nil=>true
 |.tuple vs=>vs.all fun v=>match v with
  |.bool _ | .int _ _ | .str _ | .nil=>true
  |.agg cs=>cs.all fun c=>match c with
   |.bool _ | .int _ _ | .str _ | .nil=>true
   |_=>false
  |_=>false
 |.agg cs=>cs.all fun c=>match c with
  |.bool _ | .int _ _ | .str _ | .nil=>true
  |_=>false
 |_=>false
theorem bW.flat{c:a6}{v:Value}(hc:(match c with
  |.bool _ | .int _ _ | .str _ | .nil=>true
  |_=>false)=true) (h:bW C w τ H c v):bW C' w' τ' H' c v:=by
 cases c<;>simp only[]at hc<;>try(cases hc;done)
 all_goals
  cases h with
  |rd h=>cases h;first|exact .rd (.bool _)|exact .rd (.int _ _)|exact .rd (.str _)|exact .rd .nil
theorem bW.flatAgg{cs:List a6}{v:Value}(hc:(cs.all fun c=>match c with
  |.bool _ | .int _ _ | .str _ | .nil=>true
  |_=>false)=true) (h:bW C w τ H (.agg cs) v):bW C' w' τ' H' (.agg cs) v:=by
 cases h with
 |rd h=>cases h
 |agg _ vs hl h=>exact .agg cs vs hl fun i c u h1 h2=>(h i c u h1 h2).flat (List.all_eq_true.1 hc c (List.mem_of_getElem? h1))
theorem bW.scalar{a:a6}{v:Value}(ha:a.scalar=true)(h:bW C w τ H a v):bW C' w' τ' H' a v:=by
 cases a<;>simp only[a6.scalar]at ha<;>try(cases ha;done)
 case bool=>exact h.flat rfl
 case int=>exact h.flat rfl
 case str=>exact h.flat rfl
 case nil=>exact h.flat rfl
 case agg=>exact h.flatAgg ha
 case tuple cs =>
  cases h with
  |rd h=>cases h
  |tuple _ vs hl h =>
   refine .tuple cs vs hl fun i c u h1 h2=>?_
   have hc:=List.all_eq_true.1 ha c (List.mem_of_getElem? h1)
   have:=h i c u h1 h2
   cases c<;>simp only[]at hc<;>try(cases hc;done)
   case bool=>exact this.flat rfl
   case int=>exact this.flat rfl
   case str=>exact this.flat rfl
   case nil=>exact this.flat rfl
   case agg=>exact this.flatAgg hc
inductive vD(H:List aB):a6→a6→Prop where
 |same (a:a6) (h:a.closed=true):vD H a a
 |sl (id ep off len sz:Nat) (es:List (List a6)) (ho:H[id]?=some (.arr sz es)) (hep:ep=es.length) (hp:bG es=true) :
   vD H (.sl id ep off len) (.list false sz ((es.drop off).take len))
 |agg (asv bs:List a6) (hl:asv.length=bs.length) (h:∀(i:Nat) (a b:a6),asv[i]?=some a→bs[i]?=some b→vD H a b):vD H (.agg asv) (.agg bs)
def AP(H:List aB)(asv bs:List a6):Prop:=asv.length=bs.length∧∀(i:Nat) (a b:a6),asv[i]?=some a→bs[i]?=some b→vD H a b
theorem AP.nil:AP H [] []:=⟨rfl,fun i a b h=>by simp at h⟩
theorem AP.cons{a b:a6}{asv bs:List a6}(h:vD H a b)(hs:AP H asv bs):AP H (a::asv) (b::bs):=by
 refine⟨by simp[hs.1],fun i x y hx hy=>?_⟩
 cases i with
 |zero=>simp at hx hy;subst hx hy;exact h
 |succ i=>exact hs.2 i x y (by simpa using hx) (by simpa using hy)
theorem vD.rel{a b:a6}{v:Value}(h:vD H a b)(hw:WF C τ H w)(hr:bW C w τ H a v):bW (iJ C τ H []) w τ [] b v:=by
 induction h generalizing v with
 |same a h=>exact hr.closed h (i6 hw) (fun _ _ _=>rfl)
 |sl id ep off len sz es ho hep hp =>
  exact GB (n:=0) (ids:=[]) (τ2:=τ) (H2:=[]) hw (fun k id h=>by simp at h) (.frz id ep off len sz es ho hep hp (by simp)) hr
 |agg asv bs hl h ih =>
  cases hr with
  |rd h=>cases h
  |agg _ vs hlv hv =>
   refine .agg bs vs (by omega) fun i c u hc hu=>?_
   have hi:i<asv.length:=by have:=(List.getElem?_eq_some_iff.1 hc).1;omega
   exact ih i asv[i] c (List.getElem?_eq_getElem hi) hc (hv i asv[i] u (List.getElem?_eq_getElem hi) hu)
theorem a7.bor{f:FuncId}{args bs:List a6}{R:a6}(hR:R.scalar=true)(h:a7 P f bs [] (fun r _=>r=R))(hl:AP H args bs):a7 P f args H (fun r H'=>r=R∧H'=H):=by
 intro C τ w vs hw hlen hr
 have hw0:WF (iJ C τ H []) τ [] w:=by
  refine⟨fun id o h=>by simp at h,fun id o h=>by simp at h,fun id o l h=>by simp at h,fun id l h=>by simp at h,fun i j li lj h=>by simp at h,fun b hb=>?_⟩
  by_cases hex:∃id l,id<H.length∧τ id=some l∧l.b=b
  ·obtain⟨id,l,h1,h2,rfl⟩:=hex
   exact hw.locLt h1 h2
  ·rw[fR fun id l h1 _ h2 h3=>hex ⟨id,l,h1,h2,h3⟩]at hb
   exact hw.lt b hb
 have hc:=h (iJ C τ H []) τ w vs hw0 (by rw[←hl.1];exact hlen) fun i b v hb hv=>by
  have hi:i<args.length:=by have:=(List.getElem?_eq_some_iff.1 hb).1;have:=hl.1;omega
  exact(hl.2 i args[i] b (List.getElem?_eq_getElem hi) hb).rel hw (hr i args[i] v (List.getElem?_eq_getElem hi) hv)
 have fin:∀(e:Ending) (w':World),(∃v r C' τ' H',e=.returned v∧r=R∧bW C' w' τ' H' r v∧St w (cX τ [] w) C' τ' H' w'∧cU (iJ C τ H []) τ [] w C' τ' H' w') →
   ∃v r C' τ' H',e=.returned v∧(r=R∧H'=H)∧bW C' w' τ' H' r v∧St w (cX τ H w) C' τ' H' w'∧cU C τ H w C' τ' H' w':=by
  rintro e w' ⟨v,r,C1,τ1,H1,rfl,rfl,hrel,hst,hstep⟩
  have hheap:∀b,b<w.heap.size→w'.heap[b]?=w.heap[b]?:=fun b hb=>hst.fr.prot b ⟨hb,by rintro⟨id,l,h,_⟩;simp at h⟩
  have step:cU C τ H w C τ H w':=⟨fun _=>Nat.le_refl _,fun b i hi=>kY (hheap b (hw.lt b (by omega))),fun _ o h=>⟨o,h,o.after_refl _⟩,hst.fr.size,fun _ _=>rfl⟩
  have hwf:WF C τ H w':=by
   refine⟨hw.ok,hw.virt,fun id o l h1 h2=>(hw.objs id o l h1 h2).mono step (hheap _ (hw.locLt (List.getElem?_eq_some_iff.1 h1).1 h2)),hw.comm,hw.inj,fun b hb=>?_⟩
   have:=hw.lt b hb
   have:=hst.fr.size
   omega
  refine⟨v,r,C,τ,H,rfl,⟨rfl,rfl⟩,hrel.scalar hR,⟨hwf,⟨hst.fr.os,hst.fr.tape,hst.fr.output,hst.fr.size,fun b hb=>hheap b hb.1,hst.fr.drawn⟩,fun b ho hp=>hp.2 ho,fun b hp=>hp.1⟩,step⟩
 unfold eS at hc ⊢
 split at hc
 ·exact Calls.mono hc fun e w' hh=>fin e w' hh
 ·exact fin _ _ hc
 ·exact hc
theorem bW.narrow{C1:Nat→Nat}{w1:World}{τ1:Nat→Option Loc}{G:List aB}{d:a6}{v:Value}(h:bW C1 w1 τ1 (H++G) d v):(∃v0,bW C w τ H d v0)→bW C1 w1 τ1 H d v:=by
 have get:∀{id:Nat}{o o':aB},H[id]?=some o→(H++G)[id]?=some o'→H[id]?=some o':=by
  intro id o o' h1 h2
  rw[List.getElem?_append_left (List.getElem?_eq_some_iff.1 h1).1]at h2
  exact h2
 induction h with
 |rd h=>exact fun _=>.rd h
 |undef v=>exact fun _=>.undef v
 |sl id ep off len a cap esz es ho hep h =>
  rintro⟨v0,h0⟩
  cases h0 with
  |rd h0=>cases h0
  |sl _ _ _ _ a0 cap0 esz0 es0 ho0 hep0 h0=>exact .sl id ep off len a cap esz es (get ho0 ho) hep h
 |ptr id ep idx fld a esz es ho hep h =>
  rintro⟨v0,h0⟩
  cases h0 with
  |rd h0=>cases h0
  |ptr _ _ _ _ a0 esz0 es0 ho0 hep0 h0=>exact .ptr id ep idx fld a esz es (get ho0 ho) hep h
 |it id s pos l ho ht =>
  rintro⟨v0,h0⟩
  cases h0 with
  |rd h0=>cases h0
  |it _ s0 p0 l0 ho0 ht0=>exact .it id s pos l (get ho0 ho) ht
  |mt _ m0 c0 s0 l0 ho0 ht0=>exact .it id s pos l (get ho0 ho) ht
 |mt id mid ck seen l ho ht =>
  rintro⟨v0,h0⟩
  cases h0 with
  |rd h0=>cases h0
  |it _ s0 p0 l0 ho0 ht0=>exact .mt id mid ck seen l (get ho0 ho) ht
  |mt _ m0 c0 s0 l0 ho0 ht0=>exact .mt id mid ck seen l (get ho0 ho) ht
 |slc id ep off len cap a esz es ho hep h =>
  rintro⟨v0,h0⟩
  cases h0 with
  |rd h0=>cases h0
  |slc _ _ _ _ _ a0 esz0 es0 ho0 hep0 h0=>exact .slc id ep off len cap a esz es (get ho0 ho) hep h
 |mp id o l ho hm ht =>
  rintro⟨v0,h0⟩
  cases h0 with
  |rd h0=>cases h0
  |mp _ o0 l0 ho0 hm0 ht0=>exact .mp id o l (get ho0 ho) hm ht
 |agg cs vs hl h ih =>
  rintro⟨v0,h0⟩
  cases h0 with
  |rd h0=>cases h0
  |agg _ vs0 hl0 h0=>exact .agg cs vs hl fun i c u hc hu=>ih i c u hc hu ⟨_,h0 i c vs0[i]! hc (by have:=(List.getElem?_eq_some_iff.1 hc).1;rw[getElem!_pos vs0 i (by omega)];exact Array.getElem?_eq_getElem (by omega))⟩
 |tuple cs vs hl h ih =>
  rintro⟨v0,h0⟩
  cases h0 with
  |rd h0=>cases h0
  |tuple _ vs0 hl0 h0=>exact .tuple cs vs hl fun i c u hc hu=>ih i c u hc hu ⟨_,h0 i c vs0[i]! hc (by have:=(List.getElem?_eq_some_iff.1 hc).1;rw[getElem!_pos vs0 i (by omega)];exact Array.getElem?_eq_getElem (by omega))⟩
 |fn f cs vs hl h ih =>
  rintro⟨v0,h0⟩
  cases h0 with
  |rd h0 =>
   cases h0
   exact .fn f [] vs hl fun i c u hc=>by simp at hc
  |fn _ _ vs0 hl0 h0=>exact .fn f cs vs hl fun i c u hc hu=>ih i c u hc hu ⟨_,h0 i c vs0[i]! hc (by have:=(List.getElem?_eq_some_iff.1 hc).1;rw[getElem!_pos vs0 i (by omega)];exact Array.getElem?_eq_getElem (by omega))⟩
theorem a7.drop{f:FuncId}{args:List a6}{R:a6}(hR:R.scalar=true)(h:a7 P f args H (fun r H'=>r=R∧∃G,H'=H++G)):a7 P f args H (fun r H'=>r=R∧H'=H):=by
 intro C τ w vs hw hlen hr
 have hc:=h C τ w vs hw hlen hr
 have fin:∀(e:Ending) (w':World),(∃v r C' τ' H',e=.returned v∧(r=R∧∃G,H'=H++G)∧bW C' w' τ' H' r v∧St w (cX τ H w) C' τ' H' w'∧cU C τ H w C' τ' H' w') →
   ∃v r C' τ' H',e=.returned v∧(r=R∧H'=H)∧bW C' w' τ' H' r v∧St w (cX τ H w) C' τ' H' w'∧cU C τ H w C' τ' H' w':=by
  rintro e w' ⟨v,r,C1,τ1,H1,rfl,⟨rfl,G,rfl⟩,hrel,hst,hstep⟩
  have hmem:∀{id:Nat}{o:aB},H[id]?=some o→(H++G)[id]?=some o:=fun h=>by rw[List.getElem?_append_left (List.getElem?_eq_some_iff.1 h).1];exact h
  have hlt:∀{id:Nat},id<H.length→id<(H++G).length:=fun h=>by rw[List.length_append];omega
  have hτ:∀{id:Nat}{o:aB},H[id]?=some o→τ1 id=τ id:=by
   intro id o ho
   obtain⟨o',h1,h2⟩:=hstep.obj id o ho
   rw[hmem ho]at h1
   cases h1
   cases o with
   |arr esz es=>exact h2.2.2 rfl
   |iter s p=>exact h2
   |map kvs=>exact h2
   |bmap kvs bs ck=>exact h2
   |mit m ck seen=>exact h2.2
  refine⟨v,r,C1,τ1,H,rfl,⟨rfl,rfl⟩,hrel.scalar hR,⟨⟨fun id o h=>hst.wf.ok id o (hmem h),fun id o h=>hst.wf.virt id o (hmem h),fun id o l h1 h2=>?_,fun id l h1=>hst.wf.comm id l (hlt h1),fun i j li lj h1 h2=>hst.wf.inj i j li lj (hlt h1) (hlt h2),hst.wf.lt⟩,
   hst.fr,fun b ⟨id,l,h1,h2,h3⟩=>hst.own b ⟨id,l,hlt h1,h2,h3⟩,hst.plt⟩,⟨hstep.le,hstep.cell,fun id o ho=>?_,hstep.grow,hstep.old⟩⟩
  ·have hob:=hst.wf.objs id o l (hmem h1) h2
   have hob0:=hw.objs id o l h1 (by rw[←hτ h1];exact h2)
   cases o with
   |iter s p=>exact hob
   |map kvs =>
    obtain⟨kvs1,es,clock,pp,g1,g2,g3,g4⟩:=hob
    obtain⟨kvs0,es0,clock0,pp0,k1,k2,k3,_⟩:=hob0
    refine⟨kvs1,es,clock,pp,g1,g2,fun i e kv he hkv=>⟨(g3 i e kv he hkv).1,?_⟩,g4⟩
    obtain⟨j,hj⟩:=List.getElem?_of_mem (pp0.mem_iff.2 (pp.mem_iff.1 (List.mem_of_getElem? hkv)))
    have hjl:=(List.getElem?_eq_some_iff.1 hj).1
    have hi0:j<es0.size:=by omega
    exact(g3 i e kv he hkv).2.narrow ⟨_,(k3 j es0[j] kv (Array.getElem?_eq_getElem hi0) hj).2⟩
   |bmap kvs bs ck =>
    obtain⟨es,g1,g2,g3,g4⟩:=hob
    obtain⟨es0,k1,k2,k3,_⟩:=hob0
    refine⟨es,g1,g2,fun i e kv he hkv=>⟨(g3 i e kv he hkv).1,?_⟩,g4⟩
    have hi:=(List.getElem?_eq_some_iff.1 hkv).1
    have hi0:i<es0.size:=by omega
    exact(g3 i e kv he hkv).2.narrow ⟨_,(k3 i es0[i] kv (Array.getElem?_eq_getElem hi0) hkv).2⟩
   |mit m ck seen =>
    cases m with
    |none=>exact hob
    |some m =>
     obtain⟨om,lm,q1,q2,q3,q4⟩:=hob
     obtain⟨om0,lm0,p1,p2,p3,p4⟩:=hob0
     rw[hmem p1]at q1
     cases q1
     exact⟨om,lm,p1,p2,q3,q4⟩
   |arr esz es =>
    obtain⟨g1,cells,elem,fz,g2,g3,g4,g5⟩:=hob
    obtain⟨_,_,_,_,_,_,_,k5⟩:=hob0
    refine⟨g1,cells,elem,fz,g2,g3,g4,fun i j e d he hd=>?_⟩
    obtain⟨u,hu,hru⟩:=g5 i j e d he hd
    obtain⟨u0,_,hru0⟩:=k5 i j e d he hd
    exact⟨u,hu,hru.narrow ⟨u0,hru0⟩⟩
  ·obtain⟨o',h1,h2⟩:=hstep.obj id o ho
   rw[hmem ho]at h1
   cases h1
   exact⟨o,ho,h2⟩
 unfold eS at hc ⊢
 split at hc
 ·exact Calls.mono hc fun e w' hh=>fin e w' hh
 ·exact fin _ _ hc
 ·exact hc
end
section
variable {P:Program}{C C':Nat→Nat}{τ τ':Nat→Option Loc}{H H':List aB}{w w':World}
theorem a7.gp{f:FuncId}{args:List a6}{Q0 Q:a6→List aB→Prop}(h:a7 P f args H Q0)
  (hq:∀r H',Q0 r H'→Gp (H.map aB.olen) [r] H' (fun ρ1 H1=>∃r',ρ1=[r']∧Q r' H1)):a7 P f args H Q:=by
 intro C τ w vs hw hl hr
 have hc:=h C τ w vs hw hl hr
 have fin:∀(e:Ending) (w':World),(∃v r C' τ' H',e=.returned v∧Q0 r H'∧bW C' w' τ' H' r v∧St w (cX τ H w) C' τ' H' w'∧cU C τ H w C' τ' H' w') →
   ∃v r C' τ' H',e=.returned v∧Q r H'∧bW C' w' τ' H' r v∧St w (cX τ H w) C' τ' H' w'∧cU C τ H w C' τ' H' w':=by
  rintro e w' ⟨v,r,C1,τ1,H1,he,hq0,hrel,hst,hstep⟩
  let E:tT:=⟨w,cX τ H w,C,τ,H,fun b hb hn=>Classical.byContradiction fun ho=>hn ⟨hb,ho⟩⟩
  have hsa:SA E C1 τ1 [r] H1 { tmps:=#[v],defers:=[] } w':=by
   refine⟨hst,hstep,fun t=>?_,rfl,rfl⟩
   cases t with
   |zero=>exact hrel
   |succ t=>exact .undef _
  obtain⟨ρ2,H2,C2,τ2,⟨r',rfl,hQ⟩,hs2⟩:=hsa.regroup (hq r H1 hq0)
  exact⟨v,r',C2,τ2,H2,he,hQ,hs2.tmps 0,hs2.st,hs2.step⟩
 unfold eS at hc ⊢
 split at hc
 ·exact Calls.mono hc fun e w' hh=>fin e w' hh
 ·exact fin _ _ hc
 ·exact hc
def aB.clean:aB→Bool
 |.arr _ es=>bG es
 |.iter _ _=>true
 |.map kvs=>kvs.all fun kv=>kv.2.isPure
 |.bmap _ _ _ | .mit _ _ _=>false
theorem JH{kvs:List (a6×a6)}(h:(kvs.all fun kv=>kv.2.isPure)=true){i:Nat}{kv:a6×a6}(hi:kvs[i]?=some kv):kv.2.isPure=true :=
 List.all_eq_true.1 h kv (List.mem_of_getElem? hi)
inductive Ren(σ:Nat→Nat):a6→a6→Prop where
 |closed (v:a6) (h:v.closed=true):Ren σ v v
 |sl (id ep off len:Nat):Ren σ (.sl id ep off len) (.sl (σ id) ep off len)
 |ptr (id ep idx fld:Nat):Ren σ (.ptr id ep idx fld) (.ptr (σ id) ep idx fld)
 |agg (vs rs:List a6) (hl:vs.length=rs.length) (h:∀(i:Nat) (v r:a6),vs[i]?=some v→rs[i]?=some r→Ren σ v r):Ren σ (.agg vs) (.agg rs)
 |tuple (vs rs:List a6) (hl:vs.length=rs.length) (h:∀(i:Nat) (v r:a6),vs[i]?=some v→rs[i]?=some r→Ren σ v r):Ren σ (.tuple vs) (.tuple rs)
inductive FB(σ:Nat→Nat):aB→aB→Prop where
 |same (o:aB) (h:o.clean=true):FB σ o o
 |arr (esz:Nat) (es es1:List (List a6)) (hl:es1.length=es.length) (hl2:∀(i:Nat) (e e1:List a6),es[i]?=some e→es1[i]?=some e1→e1.length=e.length)
   (h:∀(i j:Nat) (e e1:List a6) (d d1:a6),es[i]?=some e→es1[i]?=some e1→e[j]?=some d→e1[j]?=some d1→Ren σ d d1∧d1.isCell=true) :
   FB σ (.arr esz es) (.arr esz es1)
theorem FB.after{σ:Nat→Nat}{o o0 o1:aB}{t t':Option Loc}(h:FB σ o0 o1)(ha:o.after o0 t t'):o.after o1 t t':=by
 cases h with
 |same=>exact ha
 |arr esz es es1 hl _ _ =>
  cases o with
  |iter _ _=>exact ha
  |map _=>exact ha
  |bmap _ _ _=>exact ha
  |mit _ _ _=>exact ha
  |arr z es0=>exact⟨ha.1,by rw[hl];exact ha.2.1,by rw[hl];exact ha.2.2⟩
theorem FB.ok{σ:Nat→Nat}{o0 o1:aB}(h:FB σ o0 o1)(ho:o0.ok):o1.ok:=by
 cases h with
 |same=>exact ho
 |arr esz es es1 hl hl2 hp =>
  intro e1 he1
  obtain⟨n,hn⟩:=List.getElem?_of_mem he1
  have hnl:=(List.getElem?_eq_some_iff.1 hn).1
  have he:es[n]?=some es[n]:=List.getElem?_eq_getElem (by omega)
  obtain⟨g1,g2⟩:=ho _ (List.mem_of_getElem? he)
  refine⟨(hl2 n _ _ he hn).trans g1,fun d1 hd1=>?_⟩
  obtain⟨j,hj⟩:=List.getElem?_of_mem hd1
  have hjl:=(List.getElem?_eq_some_iff.1 hj).1
  have:=hl2 n _ _ he hn
  exact(hp n j _ _ _ d1 he hn (List.getElem?_eq_getElem (by omega)) hj).2
def NJ(id n:Nat)(k:Nat):Nat:=match k with
 |0=>id
 |k+1=>n+k
theorem a7.frame1{f:FuncId}{args0 args:List a6}{Q0 Q:a6→List aB→Prop}{id:Nat}{o:aB}(ho:H[id]?=some o)
  (hp:o.clean=true)
  (hal:args0.length=args.length) (ha:∀(i:Nat) (a b:a6),args0[i]?=some a→args[i]?=some b→(a=b∧a.closed=true)∨(∃ep idx fld,a=.ptr 0 ep idx fld∧b=.ptr id ep idx fld)∨∃ep off len,a=.sl 0 ep off len∧b=.sl id ep off len)
  (h:a7 P f args0 [o] Q0)
  (hq:∀r H1,Q0 r H1→∃r' o1 o1' G G',H1=o1::G∧Ren (NJ id H.length) r r'∧FB (NJ id H.length) o1 o1'∧G.length=G'.length ∧
   (∀(k:Nat) (x y:aB),G[k]?=some x→G'[k]?=some y→FB (NJ id H.length) x y)∧Q r' (H.set id o1'++G')):a7 P f args H Q:=by
 intro C τ w vs hw hl hr
 have hid:=(List.getElem?_eq_some_iff.1 ho).1
 let τ0:Nat→Option Loc:=fun k=>if k=0 then τ id else none
 have one:∀{k:Nat}{x:aB},[o][k]?=some x→k=0∧x=o:=fun{k x} h=>by
  cases k with
  |zero=>simp at h;exact⟨rfl,h.symm⟩
  |succ k=>simp at h
 have hw0:WF C τ0 [o] w:=by
  refine⟨fun k x h=>?_,fun k x h ht=>?_,fun k x l h ht=>?_,fun k l hk ht=>?_,fun i j li lj hi hj _ _ _=>?_,hw.lt⟩
  ·obtain⟨rfl,rfl⟩:=one h;exact hw.ok id _ ho
  ·obtain⟨rfl,rfl⟩:=one h;exact hw.virt id _ ho ht
  ·obtain⟨rfl,rfl⟩:=one h
   have hob:=hw.objs id _ l ho ht
   cases x with
   |iter s p=>exact hob
   |map kvs =>
    obtain⟨kvs0,es,clock,pp,a1,a2,a3,a4⟩:=hob
    exact⟨kvs0,es,clock,pp,a1,a2,fun i e kv he hkv=>⟨(a3 i e kv he hkv).1,.rd ((a3 i e kv he hkv).2.pure (List.all_eq_true.1 hp kv (pp.mem_iff.1 (List.mem_of_getElem? hkv))))⟩,a4⟩
   |bmap _ _ _=>cases hp
   |mit _ _ _=>cases hp
   |arr esz es =>
    obtain⟨a1,cells,elem,fz,a2,a3,a4,a5⟩:=hob
    refine⟨a1,cells,elem,fz,a2,a3,a4,fun i j e d hi hd=>?_⟩
    obtain⟨x,hx1,hx2⟩:=a5 i j e d hi hd
    exact⟨x,hx1,.rd (hx2.pure (gX hp hi hd))⟩
  ·have hk0:k=0:=by simp at hk;omega
   subst hk0;exact hw.comm id l hid ht
  ·simp at hi hj;omega
 have hr0:∀(i:Nat) (a:a6) (v:Value),args0[i]?=some a→vs[i]?=some v→bW C w τ0 [o] a v:=fun i a v h1 h2=>by
  have hi:=(List.getElem?_eq_some_iff.1 h1).1
  have hb:args[i]?=some args[i]:=List.getElem?_eq_getElem (by omega)
  have hrel:=hr i _ v hb h2
  rcases ha i a _ h1 hb with⟨e,hc⟩|⟨ep,idx,fld,rfl,e⟩|⟨ep,off,len,rfl,e⟩
  ·rw[←e]at hrel
   exact hrel.closed hc (fun _=>Nat.le_refl _) (fun _ _ _=>rfl)
  ·rw[e]at hrel
   cases hrel with
   |rd h=>cases h
   |ptr _ _ _ _ a esz es ho2 hep h3 =>
    rw[ho]at ho2;cases ho2
    exact .ptr 0 ep idx fld a esz es rfl hep h3
  ·rw[e]at hrel
   cases hrel with
   |rd h=>cases h
   |sl _ _ _ _ a cap esz es ho2 hep h3 =>
    rw[ho]at ho2;cases ho2
    exact .sl 0 ep off len a cap esz es rfl hep h3
 have hc:=h C τ0 w vs hw0 (by omega) hr0
 have fin:∀(e:Ending) (w':World),(∃v r C' τ' H',e=.returned v∧Q0 r H'∧bW C' w' τ' H' r v∧St w (cX τ0 [o] w) C' τ' H' w'∧cU C τ0 [o] w C' τ' H' w') →
   ∃v r C' τ' H',e=.returned v∧Q r H'∧bW C' w' τ' H' r v∧St w (cX τ H w) C' τ' H' w'∧cU C τ H w C' τ' H' w':=by
  rintro e w' ⟨v,r,C1,τ1,H1,he,hq0,hrel,hst,hstep⟩
  obtain⟨r',o1,o1',G,G',rfl,hrr,hro,hgl,hG,hQ⟩:=hq r H1 hq0
  
  have hoth:∀j l,j<H.length→j≠id→τ j=some l→cX τ0 [o] w l.b:=fun j l hj hne ht =>
   ⟨hw.locLt hj ht,by
    rintro⟨k,l',hk,ht',hb⟩
    have hk0:k=0:=by simp at hk;omega
    subst hk0
    exact hne (hw.inj j id l l' hj hid ht ht' hb.symm)⟩
  have hheap:∀j l,j<H.length→j≠id→τ j=some l→w'.heap[l.b]?=w.heap[l.b]?:=fun j l hj hne ht=>hst.fr.prot _ (hoth j l hj hne ht)
  let τ2:Nat→Option Loc:=fun i=>if i=id then τ1 0 else if i<H.length then τ i else τ1 (i-H.length+1)
  have t0:τ2 id=τ1 0:=by simp only[τ2,if_true]
  have tO:∀j,j<H.length→j≠id→τ2 j=τ j:=fun j hj hne=>by simp only[τ2,if_neg hne,if_pos hj]
  have tN:∀k,τ2 (H.length+k)=τ1 (k+1):=fun k=>by
   simp only[τ2,if_neg (by omega:¬H.length+k=id),if_neg (by omega:¬H.length+k<H.length),Nat.add_sub_cancel_left]
  have tF:∀k,τ2 (NJ id H.length k)=τ1 k:=fun k=>by
   cases k with
   |zero=>exact t0
   |succ k=>exact tN k
  have gid:(H.set id o1'++G')[id]?=some o1':=by rw[List.getElem?_append_left (by rw[List.length_set];exact hid),List.getElem?_set_self hid]
  have gO:∀j,j<H.length→j≠id→(H.set id o1'++G')[j]?=H[j]?:=fun j hj hne=>by
   rw[List.getElem?_append_left (by rw[List.length_set];exact hj),List.getElem?_set_ne (Ne.symm hne)]
  have gN:∀k,(H.set id o1'++G')[H.length+k]?=G'[k]?:=fun k=>by
   rw[List.getElem?_append_right (by rw[List.length_set];omega),List.length_set,Nat.add_sub_cancel_left]
  
  have gF:∀k x,(o1::G)[k]?=some x→∃y,(H.set id o1'++G')[NJ id H.length k]?=some y∧FB (NJ id H.length) x y:=fun k x hx=>by
   cases k with
   |zero=>simp at hx;subst hx;exact⟨o1',gid,hro⟩
   |succ k =>
    have hk:k<G.length:=(List.getElem?_eq_some_iff.1 (by simpa using hx:G[k]?=some x)).1
    have hy:G'[k]?=some G'[k]:=List.getElem?_eq_getElem (by omega)
    exact⟨G'[k],(gN k).trans hy,hG k x _ (by simpa using hx) hy⟩
  have split:∀i,i<(H.set id o1'++G').length→(i<H.length∧i≠id)∨∃k,i=NJ id H.length k∧k<(o1::G).length:=fun i hi=>by
   rw[List.length_append,List.length_set]at hi
   by_cases h1:i=id
   ·exact .inr ⟨0,h1,by simp⟩
   ·by_cases h2:i<H.length
    ·exact .inl ⟨h2,h1⟩
    ·exact .inr ⟨i-H.length+1,by simp only[NJ];omega,by simp;omega⟩
  have frInj:∀k k',NJ id H.length k=NJ id H.length k'→k=k':=fun k k' h=>by
   cases k<;>cases k'<;>simp only[NJ]at h<;>omega
  have step:cU C τ H w C1 τ2 (H.set id o1'++G') w':=by
   refine⟨hstep.le,hstep.cell,fun j x hx=>?_,hstep.grow,hstep.old⟩
   have hj:=(List.getElem?_eq_some_iff.1 hx).1
   by_cases e1:j=id
   ·subst e1
    rw[ho]at hx;cases hx
    obtain⟨o',h1,h2⟩:=hstep.obj 0 o rfl
    simp at h1;subst h1
    refine⟨o1',gid,?_⟩
    rw[t0]
    have:τ0 0=τ j:=by simp only[τ0,if_true]
    rw[this]at h2
    exact hro.after h2
   ·exact⟨x,by rw[gO j hj e1];exact hx,by rw[tO j hj e1];exact x.after_refl _⟩
  have ren:∀{a b:a6},Ren (NJ id H.length) a b→∀{u:Value},bW C1 w' τ1 (o1::G) a u→bW C1 w' τ2 (H.set id o1'++G') b u:=by
   intro a b hab
   induction hab with
   |closed v h=>intro u hu;exact hu.closed h (fun _=>Nat.le_refl _) (fun _ _ _=>rfl)
   |sl k ep off len =>
    intro u hu
    cases hu with
    |rd h=>cases h
    |sl _ _ _ _ a cap esz es ho2 hep h3 =>
     obtain⟨y,hy,hry⟩:=gF k _ ho2
     cases hry with
     |same _ _=>exact .sl _ ep off len a cap esz es hy hep fun e=>by rw[tF];exact h3 e
     |arr _ _ es1 hl1 _ _=>exact .sl _ ep off len a cap esz es1 hy (by omega) fun e=>by rw[tF,hl1];exact h3 (by omega)
   |ptr k ep idx fld =>
    intro u hu
    cases hu with
    |rd h=>cases h
    |ptr _ _ _ _ a esz es ho2 hep h3 =>
     obtain⟨y,hy,hry⟩:=gF k _ ho2
     cases hry with
     |same _ _=>exact .ptr _ ep idx fld a esz es hy hep fun e=>by rw[tF];exact h3 e
     |arr _ _ es1 hl1 _ _=>exact .ptr _ ep idx fld a esz es1 hy (by omega) fun e=>by rw[tF];exact h3 (by omega)
   |agg vs rs hl h ih =>
    intro u hu
    obtain⟨us,rfl,hl2,hr2⟩:=hu.agg_inv
    refine .agg _ _ (by omega) fun i c v hc hv=>?_
    have hi:=(List.getElem?_eq_some_iff.1 hc).1
    have hvi:vs[i]?=some vs[i]:=List.getElem?_eq_getElem (by omega)
    exact ih i _ c hvi hc (hr2 i _ v hvi hv)
   |tuple vs rs hl h ih =>
    intro u hu
    obtain⟨us,rfl,hl2,hr2⟩:=hu.tuple_inv
    refine .tuple _ _ (by omega) fun i c v hc hv=>?_
    have hi:=(List.getElem?_eq_some_iff.1 hc).1
    have hvi:vs[i]?=some vs[i]:=List.getElem?_eq_getElem (by omega)
    exact ih i _ c hvi hc (hr2 i _ v hvi hv)
  have hgetF:∀k,k<(o1::G).length→∃x,(o1::G)[k]?=some x:=fun k hk=>⟨_,List.getElem?_eq_getElem hk⟩
  refine⟨v,r',C1,τ2,H.set id o1'++G',he,hQ,ren hrr hrel,⟨⟨fun i x hx=>?_,fun i x hx ht=>?_,fun i x l hx ht=>?_,fun i l hi ht=>?_,fun i j li lj hi hj hti htj hb=>?_,hst.wf.lt⟩,
   ⟨hst.fr.os,hst.fr.tape,hst.fr.output,hst.fr.size,fun b hb=>hst.fr.prot b ⟨hb.1,?_⟩,hst.fr.drawn⟩,?_,fun b hb=>hb.1⟩,step⟩
  ·rcases split i (List.getElem?_eq_some_iff.1 hx).1 with⟨h1,h2⟩|⟨k,rfl,hk⟩
   ·rw[gO i h1 h2]at hx;exact hw.ok i x hx
   ·obtain⟨z,hz⟩:=hgetF k hk
    obtain⟨y,hy,hry⟩:=gF k z hz
    rw[hx]at hy;cases hy
    exact hry.ok (hst.wf.ok k z hz)
  ·rcases split i (List.getElem?_eq_some_iff.1 hx).1 with⟨h1,h2⟩|⟨k,rfl,hk⟩
   ·rw[gO i h1 h2]at hx;rw[tO i h1 h2]at ht;exact hw.virt i x hx ht
   ·obtain⟨z,hz⟩:=hgetF k hk
    obtain⟨y,hy,hry⟩:=gF k z hz
    rw[hx]at hy;cases hy
    rw[tF]at ht
    obtain⟨esz,rfl⟩:=hst.wf.virt k z hz ht
    cases hry with
    |same _ _=>exact⟨esz,rfl⟩
    |arr _ _ es1 hl1 _ _ =>
     have:es1=[]:=List.length_eq_zero_iff.1 hl1
     subst this;exact⟨esz,rfl⟩
  ·rcases split i (List.getElem?_eq_some_iff.1 hx).1 with⟨h1,h2⟩|⟨k,rfl,hk⟩
   ·rw[gO i h1 h2]at hx;rw[tO i h1 h2]at ht
    exact(hw.objs i x l hx ht).mono step (hheap i l h1 h2 ht)
   ·obtain⟨z,hz⟩:=hgetF k hk
    obtain⟨y,hy,hry⟩:=gF k z hz
    rw[hx]at hy;cases hy
    rw[tF]at ht
    have hob:=hst.wf.objs k z l hz ht
    cases hry with
    |same _ hpz =>
     cases x with
     |iter s p=>exact hob
     |map kvs =>
      obtain⟨kvs0,es,clock,pp,a1,a2,a3,a4⟩:=hob
      exact⟨kvs0,es,clock,pp,a1,a2,fun i e kv he hkv=>⟨(a3 i e kv he hkv).1,.rd ((a3 i e kv he hkv).2.pure (List.all_eq_true.1 hpz kv (pp.mem_iff.1 (List.mem_of_getElem? hkv))))⟩,a4⟩
     |bmap _ _ _=>cases hpz
     |mit _ _ _=>cases hpz
     |arr esz es =>
      obtain⟨a1,cells,elem,fz,a2,a3,a4,a5⟩:=hob
      refine⟨a1,cells,elem,fz,a2,a3,a4,fun i j e d hi hd=>?_⟩
      obtain⟨x,hx1,hx2⟩:=a5 i j e d hi hd
      exact⟨x,hx1,.rd (hx2.pure (gX hpz hi hd))⟩
    |arr esz es es1 hl1 hl2 hp2 =>
     obtain⟨a1,cells,elem,fz,a2,a3,a4,a5⟩:=hob
     refine⟨by omega,cells,elem,fz,a2,a3,a4,fun i j e1 d1 hi hd=>?_⟩
     have hil:=(List.getElem?_eq_some_iff.1 hi).1
     have hjl:=(List.getElem?_eq_some_iff.1 hd).1
     have he:es[i]?=some es[i]:=List.getElem?_eq_getElem (by omega)
     have hl3:=hl2 i _ _ he hi
     have hd0:es[i][j]?=some es[i][j]:=List.getElem?_eq_getElem (by omega)
     obtain⟨x,hx1,hx2⟩:=a5 i j _ _ he hd0
     exact⟨x,hx1,ren (hp2 i j _ _ _ d1 he hi hd0 hd).1 hx2⟩
  ·rcases split i hi with⟨h1,h2⟩|⟨k,rfl,hk⟩
   ·rw[tO i h1 h2]at ht
    rw[hstep.old _ (hw.locLt h1 ht)];exact hw.comm i l h1 ht
   ·rw[tF]at ht;exact hst.wf.comm k l hk ht
  ·rcases split i hi with⟨h1,h2⟩|⟨k,rfl,hk⟩<;>rcases split j hj with⟨h3,h4⟩|⟨k',rfl,hk'⟩
   ·rw[tO i h1 h2]at hti;rw[tO j h3 h4]at htj;exact hw.inj i j li lj h1 h3 hti htj hb
   ·rw[tO i h1 h2]at hti;rw[tF]at htj
    exact absurd (hb▸hoth i li h1 h2 hti) (hst.own _ ⟨k',lj,hk',htj,rfl⟩)
   ·rw[tF]at hti;rw[tO j h3 h4]at htj
    exact absurd (hb▸hoth j lj h3 h4 htj) (hst.own _ ⟨k,li,hk,hti,rfl⟩)
   ·rw[tF]at hti htj
    rw[hst.wf.inj k k' li lj hk hk' hti htj hb]
  ·rintro⟨k,l,hk,ht,hb2⟩
   have hk0:k=0:=by simp at hk;omega
   subst hk0
   exact hb.2 ⟨id,l,hid,ht,hb2⟩
  ·rintro b ⟨i,l,hi,ht,rfl⟩ hp2
   rcases split i hi with⟨h1,h2⟩|⟨k,rfl,hk⟩
   ·rw[tO i h1 h2]at ht;exact hp2.2 ⟨i,l,h1,ht,rfl⟩
   ·rw[tF]at ht
    refine hst.own _ ⟨k,l,hk,ht,rfl⟩ ⟨hp2.1,?_⟩
    rintro⟨k2,l2,hk2,ht2,hb2⟩
    have hk0:k2=0:=by simp at hk2;omega
    subst hk0
    exact hp2.2 ⟨id,l2,hid,ht2,hb2⟩
 unfold eS at hc ⊢
 split at hc
 ·exact Calls.mono hc fun e w' hh=>fin e w' hh
 ·exact fin _ _ hc
 ·exact hc
def jK(id:Nat):List a6→List a6→Prop
 |[],[]=>True
 |a::asv,b::bs=>((a=b∧a.closed=true)∨(∃ep idx fld,a=.ptr 0 ep idx fld∧b=.ptr id ep idx fld)∨∃ep off len,a=.sl 0 ep off len∧b=.sl id ep off len)∧jK id asv bs
 |_,_=>False
theorem jK.get{id:Nat}:∀{asv bs:List a6},jK id asv bs→asv.length=bs.length∧∀(i:Nat) (a b:a6),asv[i]?=some a→bs[i]?=some b→(a=b∧a.closed=true)∨(∃ep idx fld,a=.ptr 0 ep idx fld∧b=.ptr id ep idx fld)∨∃ep off len,a=.sl 0 ep off len∧b=.sl id ep off len
 |[],[],_=>⟨rfl,fun i a b h=>by simp at h⟩
 |a::asv,b::bs,h=>by
  obtain⟨h1,h2⟩:=jK.get h.2
  refine⟨by simp[h1],fun i x y hx hy=>?_⟩
  cases i with
  |zero=>simp at hx hy;subst hx hy;exact h.1
  |succ i=>exact h2 i x y (by simpa using hx) (by simpa using hy)
 |[],_::_,h=>h.elim
 |_::_,[],h=>h.elim
theorem jK.cl{id:Nat}{a:a6}{asv bs:List a6}(h:a.closed=true)(hs:jK id asv bs):jK id (a::asv) (a::bs):=⟨.inl ⟨rfl,h⟩,hs⟩
theorem jK.pt{id:Nat}{ep idx fld:Nat}{asv bs:List a6}(hs:jK id asv bs):jK id (.ptr 0 ep idx fld::asv) (.ptr id ep idx fld::bs):=⟨.inr (.inl ⟨_,_,_,rfl,rfl⟩),hs⟩
theorem jK.sl{id:Nat}{ep off len:Nat}{asv bs:List a6}(hs:jK id asv bs):jK id (.sl 0 ep off len::asv) (.sl id ep off len::bs):=⟨.inr (.inr ⟨_,_,_,rfl,rfl⟩),hs⟩
theorem a7.fr{f:FuncId}{args0 args:List a6}{id:Nat}{o o1:aB}{R:a6}(h:a7 P f args0 [o] (fun r H'=>r=R∧H'=[o1]))(ho:H[id]?=some o)
  (hp:o.clean=true) (hp1:o1.clean=true) (ha:jK id args0 args) (hR:Ren (NJ id H.length) R R):a7 P f args H (fun r H'=>r=R∧H'=H.set id o1):=by
 obtain⟨hl,ha⟩:=ha.get
 refine a7.frame1 ho hp hl ha h ?_
 rintro r H1 ⟨rfl,rfl⟩
 exact⟨_,o1,o1,[],[],rfl,hR,.same _ hp1,rfl,fun k x y h=>by simp at h,rfl,by simp⟩
theorem a7.frG{f:FuncId}{args0 args:List a6}{id:Nat}{o o1:aB}{R R':a6}{G:List aB}(h:a7 P f args0 [o] (fun r H'=>r=R∧H'=o1::G))(ho:H[id]?=some o)
  (hp:o.clean=true) (hp1:o1.clean=true) (hG:∀x∈G,x.clean=true) (ha:jK id args0 args) (hR:Ren (NJ id H.length) R R'):a7 P f args H (fun r H'=>r=R'∧H'=H.set id o1++G):=by
 obtain⟨hl,ha⟩:=ha.get
 refine a7.frame1 ho hp hl ha h ?_
 rintro r H1 ⟨rfl,rfl⟩
 exact⟨_,o1,o1,G,G,rfl,hR,.same _ hp1,rfl,fun k x y h1 h2=>by rw[h1]at h2;cases h2;exact .same _ (hG x (List.mem_of_getElem? h1)),rfl,rfl⟩
end
theorem Gp.keepL{n0:List Nat}{n:Nat}{live:List (Nat×a6)}{ρ:List a6}{H H1:List aB}{I:List a6→List aB→Prop}(ids:List Nat)(hnd:ids.Nodup)(hb:BQ n0 ids H)(ho:TT H ids ids H1)(hl:ρ.length=n)(h:lK H ids ρ live)
  (hI:∀ρ1,Sv n live ρ1→I ρ1 H1):Gp n0 ρ H I :=
 .inr ⟨ids,zN n n live fun _=>.undef,H1,hnd,hb,ho,rZ n n live ρ ρ (Nat.le_refl _) (fun k=>by rw[Nat.sub_self,Nat.zero_add]) hl h,hI _ ⟨_,rfl⟩⟩
theorem bY{a:Nat}{ids:List Nat}{H:List aB}{o:aB}(h1:ids[0]?=some 0)(h2:H[0]?=some o)(h3:o.olen=a):BQ [a] ids H:=fun k n hk=>by
 cases k with
 |zero=>simp at hk;subst hk;exact⟨h1,o,h2,h3⟩
 |succ k=>simp at hk
theorem Gp.res{n0:List Nat}{r r':a6}{H H1:List aB}{I:List a6→List aB→Prop}(ids:List Nat)(hnd:ids.Nodup)(hb:BQ n0 ids H)(ho:TT H ids ids H1)(hp:dV H 0 ids r r')(hI:I [r'] H1):Gp n0 [r] H I :=
 .inr ⟨ids,[r'],H1,hnd,hb,ho,⟨hp,trivial⟩,hI⟩
theorem a7.gpI{P:Program}{f:FuncId}{args:List a6}{H H1 H2:List aB}{R R':a6}(h:a7 P f args H (fun r H'=>r=R∧H'=H1))(ids:List Nat)(hnd:ids.Nodup)(hb:BQ (H.map aB.olen) ids H1)(ho:TT H1 ids ids H2)(hp:dV H1 0 ids R R'):
  a7 P f args H (fun r H'=>r=R'∧H'=H2):=by
 refine h.gp ?_
 rintro r H' ⟨rfl,rfl⟩
 exact .inr ⟨ids,[R'],H2,hnd,hb,ho,⟨hp,trivial⟩,R',rfl,rfl,rfl⟩
end Go.AW
