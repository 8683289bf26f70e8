/-
  An abstract machine over the model, the code of functions on it, and their contracts: what the claim needs.
  No condition: definitions, plain laws, contracts over any program that has this code.
-/
import Derived.Test.YtbjodpkinpnebaaGreatY5
set_option linter.all false
namespace Go.AW
variable [dK]
attribute [local irreducible] a7 bH oL Gp
theorem dN{ids:List Nat}{H:List aB}:BQ [] ids H:=fun k n h=>by simp at h
def X0(st:dH)(nm:ByteArray)(L:List c8)(H:List aB):Prop :=
 (L=[]∧H=[kX,fV st,eG nm .nil .nil .nil])∨H=[kX,fV st,eG nm (.sl 3 L.length 0 L.length) .nil .nil,.arr 3 (cC L)]
def X7(st:dH)(nm:ByteArray)(a:a6)(cs:List a6)(H:List aB):Prop :=
 (cs=[]∧H=[kX,fV st,eG nm a .nil .nil])∨H=[kX,fV st,eG nm a (.sl 3 cs.length 0 cs.length) .nil,.arr 1 (u3 cs)]
def XJ(st:dH)(nm:ByteArray)(a b:a6)(L:List (Option (List V)×Int))(H:List aB):Prop :=
 (L=[]∧H=[kX,fV st,eG nm a b .nil])∨H=[kX,fV st,eG nm a b (.sl 3 L.length 0 L.length),.arr 2 (iH L)]
theorem ET(n:Nat){s:dH}(h:s.bad=true)(L:List (Option (List V)×Int)):iR n s L=(L,s):=by
 cases n with
 |zero=>rfl
 |succ n=>rw[iR,if_pos h]
set_option maxRecDepth 20000 in
set_option maxHeartbeats 4000000 in
theorem JK(b0:List Int)(hby0:fI b0)(hl0:b0.length≤1000000):
  aC pr 29 [.list false 1 (bC b0)] (fun r=>gG r (zX iX b0)):=by
 refine aH k29.has rfl ?_
 have hfit:=CD iX (s:=⟨b0,false⟩) hby0 hl0
 obtain⟨s,hs⟩:∃s:dH,s=⟨b0,false⟩:=⟨_,rfl⟩
 have hby:fI s.rest:=by rw[hs];exact hby0
 have hl:s.rest.length≤1000000:=by rw[hs];exact hl0
 rw[←hs]at hfit
 have hU:sN iX b0=(!(uX iX s).bad&&decide (eX (tM iX s)=0)&&decide (b0.length≤65536)&&(cH (tM iX s)==b0)):=by rw[hs];rfl
 have hR:zX iX b0=if sN iX b0 then .tuple [.agg (dR (tM iX s)),.int .i64 0]else .tuple [.agg (dR SG),.int .i64 11]:=by rw[hs];rfl
 have err:∀{H1:List aB},sN iX b0=false→∃r,dV H1 0 [] (.tuple [.agg [.str (bs []),.nil,.nil,.nil],.int .i64 11]) r∧gG r (zX iX b0):=by
  intro H1 h
  rw[hR,h]
  exact⟨_,dP (.closed _ rfl) (.closed _ rfl),.tuples (.cons (.aggs (.cons (.refl _) (.cons (.nil false 3) (.cons (.nil false 1) (.cons (.nil false 2) .nil))))) (.cons (.refl _) .nil))⟩
 have t0:s.To s:=.refl hby
 (conv=>whnf);refine bH.of (kJ s hby _ 1 (by rw[hs];rfl)) ?_
 (conv=>whnf);refine bH.of (cK 1 (by omega) (by omega) (uD s) (iZ hby) _ 1 rfl) ?_
 have n1:=TY (iZ hby)
 conv=>whnf
 refine⟨fun m ρ H1=>∃(st:dH) (L:List c8),k9 iX m st L=MG iX s∧L.length+m≤255∧s.To st∧X0 st (fH s) L H1 ∧
  Sv 146 [(0,.list false 1 (bC b0)),(2,.ptr 0 1 0 0),(4,.ptr 1 1 0 0),(5,.ptr 2 1 0 0),(6,.int .i64 m)] ρ,(lR 1 (uD s)).toNat,[],
  fun id ρ H1=>id=0∧∃(st:dH) (L:List c8) (a:a6),(L,st)=MG iX s∧s.To st∧CL a 3 (cC L)∧H1=[kX,fV st,eG (fH s) a .nil .nil] ∧
   Sv 146 [(0,.list false 1 (bC b0)),(2,.ptr 0 1 0 0),(4,.ptr 1 1 0 0),(5,.ptr 2 1 0 0)] ρ,?_,?_,?_⟩
 ·exact⟨_,[],rfl,by simp;omega,(t0.tx).tk 1,.inl ⟨rfl,rfl⟩,Sv.intro rfl ⟨rfl,rfl,rfl,rfl,aN (by omega),trivial⟩⟩
 ·rintro m ρ H1 ⟨st,L,hr,hle,ht,hH,d,rfl⟩
  have hb:=ht.1
  rcases hH with⟨rfl,rfl⟩|rfl
  ·(conv=>whnf);refine aE (fun hlt=>?_) (fun hlt=>?_)
   ·simp at hlt
    (conv=>whnf);refine aE (fun hbad=>?_) (fun hbad=>?_)
    ·replace hbad:(!st.bad)=true:=hbad
     simp at hbad
     obtain⟨k,rfl⟩:∃k,m=k+1:=⟨m-1,by omega⟩
     (conv=>whnf);refine bH.of (kJ st hb _ 1 rfl) ?_
     (conv=>whnf);refine bH.of (cK 1 (by omega) (by omega) (uD st) (iZ hb) _ 1 rfl) ?_
     (conv=>whnf);refine bH.of (cK 1 (by omega) (by omega) (kQ 1 (uD st)) (gY (iZ hb)) _ 1 rfl) ?_
     (conv=>whnf);refine And.intro (⟨cN (by simp) (by omega),bK (by simp)⟩) ?_
     conv=>whnf
     rw[k9,if_neg (by simp[hbad])]at hr
     refine⟨k,by omega,Gp.keepL [0,1,2,4] (by simp) (dN) (H1:=[kX,fV (TM st),eG (fH s) (.sl 3 1 0 1) .nil .nil,.arr 3 (cC [HI iX st])]) ⟨⟨_,rfl,.same _ _ rfl⟩,⟨_,rfl,.same _ _ rfl⟩,⟨_,rfl,iO ⟨dI rfl,i1 rfl rfl,dI rfl,dI rfl,trivial⟩⟩,⟨_,rfl,.same _ _ rfl⟩,trivial⟩ rfl ?_ fun ρ1 h=>⟨_,_,hr,by simp at hle ⊢;omega,ht.col,.inr rfl,h⟩⟩
     exact⟨.closed _ rfl,aU rfl,aU rfl,aU rfl,n8 (HK (by omega) (by omega)),trivial⟩
    ·replace hbad:(!st.bad)=false:=hbad
     simp at hbad
     obtain⟨k,rfl⟩:∃k,m=k+1:=⟨m-1,by omega⟩
     rw[k9,if_pos hbad]at hr
     conv=>whnf
     refine Gp.keep rfl ?_ fun ρ1 h=>⟨rfl,st,[],.nil,hr,ht,.inl ⟨rfl,rfl⟩,rfl,h⟩
     exact⟨rfl,rfl,rfl,rfl,trivial⟩
   ·simp at hlt
    subst hlt
    conv=>whnf
    refine Gp.keep rfl ?_ fun ρ1 h=>⟨rfl,st,[],.nil,hr,ht,.inl ⟨rfl,rfl⟩,rfl,h⟩
    exact⟨rfl,rfl,rfl,rfl,trivial⟩
  ·(conv=>whnf);refine aE (fun hlt=>?_) (fun hlt=>?_)
   ·simp at hlt
    (conv=>whnf);refine aE (fun hbad=>?_) (fun hbad=>?_)
    ·replace hbad:(!st.bad)=true:=hbad
     simp at hbad
     obtain⟨k,rfl⟩:∃k,m=k+1:=⟨m-1,by omega⟩
     (conv=>whnf);refine bH.of (kJ st hb _ 1 rfl) ?_
     (conv=>whnf);refine bH.of (cK 1 (by omega) (by omega) (uD st) (iZ hb) _ 1 rfl) ?_
     (conv=>whnf);refine bH.of (cK 1 (by omega) (by omega) (kQ 1 (uD st)) (gY (iZ hb)) _ 1 rfl) ?_
     (conv=>whnf);refine b4 (by rw[aX];exact Nat.beq_refl _) ?_
     (conv=>whnf);refine And.intro (⟨cN (by simp;omega) (by omega),bK (by simp;omega),rfl,by rw[aX]⟩) ?_
     conv=>whnf
     rw[k9,if_neg (by simp[hbad])]at hr
     have hc:(cC L++[gJ (HI iX st)]).length=(L++[HI iX st]).length:=by rw[A1,aX]
     refine⟨k,by omega,Gp.keepL [0,1,2,3] (by simp) (dN) (H1:=[kX,fV (TM st),eG (fH s) (.sl 3 (L++[HI iX st]).length 0 (L++[HI iX st]).length) .nil .nil,.arr 3 (cC (L++[HI iX st]))]) ⟨⟨_,rfl,.same _ _ rfl⟩,⟨_,rfl,.same _ _ rfl⟩,⟨_,rfl,iO ⟨dI rfl,i1 rfl hc,dI rfl,dI rfl,trivial⟩⟩,⟨_,rfl,zY.of_eq (A1 L (HI iX st)) (cG _)⟩,trivial⟩ rfl ?_ fun ρ1 h=>⟨_,_,hr,by simp at hle ⊢;omega,ht.col,.inr rfl,h⟩⟩
     exact⟨.closed _ rfl,aU rfl,aU rfl,aU rfl,n8 (HK (by omega) (by omega)),trivial⟩
    ·replace hbad:(!st.bad)=false:=hbad
     simp at hbad
     obtain⟨k,rfl⟩:∃k,m=k+1:=⟨m-1,by omega⟩
     rw[k9,if_pos hbad]at hr
     conv=>whnf
     refine Gp.keepL [0,1,2] (by simp) (dN) (H1:=[kX,fV st,eG (fH s) (.list false 3 (cC L)) .nil .nil]) ?_ rfl ?_ fun ρ1 h=>⟨rfl,st,L,_,hr,ht,.inr rfl,rfl,h⟩
     ·exact⟨⟨_,rfl,.same _ _ rfl⟩,⟨_,rfl,.same _ _ rfl⟩,⟨_,rfl,iO ⟨dI rfl,oE rfl (by simp) (aX L).symm (cG L),dI rfl,dI rfl,trivial⟩⟩,trivial⟩
     ·exact⟨.closed _ rfl,aU rfl,aU rfl,aU rfl,trivial⟩
   ·simp at hlt
    subst hlt
    conv=>whnf
    refine Gp.keepL [0,1,2] (by simp) (dN) (H1:=[kX,fV st,eG (fH s) (.list false 3 (cC L)) .nil .nil]) ?_ rfl ?_ fun ρ1 h=>⟨rfl,st,L,_,hr,ht,.inr rfl,rfl,h⟩
    ·exact⟨⟨_,rfl,.same _ _ rfl⟩,⟨_,rfl,.same _ _ rfl⟩,⟨_,rfl,iO ⟨dI rfl,oE rfl (by simp) (aX L).symm (cG L),dI rfl,dI rfl,trivial⟩⟩,trivial⟩
    ·exact⟨.closed _ rfl,aU rfl,aU rfl,aU rfl,trivial⟩
 rintro _ ρ1 H1 ⟨rfl,st,cols,a,hr,t1,ha,rfl,d,rfl⟩
 have hb1:=t1.1
 have h3:kF (lR 1 st).toNat (kQ 1 st) []=GI iX s:=by rw[GI,←hr]
 have e2:(MG iX s).1=cols:=by rw[←hr]
 (conv=>whnf);refine bH.of (cK 1 (by omega) (by omega) st hb1 _ 1 rfl) ?_
 have n2:=TY hb1
 conv=>whnf
 refine⟨fun m ρ H1=>∃(st:dH) (L:List (List ByteArray)) (cs:List a6),kF m st L=GI iX s∧L.length+m≤255∧s.To st∧zH cs L∧X7 st (fH s) a cs H1 ∧
  Sv 146 [(0,.list false 1 (bC b0)),(2,.ptr 0 1 0 0),(4,.ptr 1 1 0 0),(5,.ptr 2 1 0 0),(8,.int .i64 m)] ρ,(lR 1 st).toNat,[],
  fun id ρ H1=>id=2∧∃(st:dH) (L:List (List ByteArray)) (cs:List a6) (b:a6),(L,st)=GI iX s∧s.To st∧zH cs L∧CL b 1 (u3 cs)∧H1=[kX,fV st,eG (fH s) a b .nil] ∧
   Sv 146 [(0,.list false 1 (bC b0)),(2,.ptr 0 1 0 0),(4,.ptr 1 1 0 0),(5,.ptr 2 1 0 0)] ρ,?_,?_,?_⟩
 ·exact⟨_,[],[],h3,by simp;omega,t1.tk 1,⟨rfl,fun i c k h=>by simp at h⟩,.inl ⟨rfl,rfl⟩,Sv.intro rfl ⟨rfl,rfl,rfl,rfl,aN (by omega),trivial⟩⟩
 ·rintro m ρ H1 ⟨st,L,cs,hr,hle,ht,hks,hH,d,rfl⟩
  have hb:=ht.1
  have hkl:=hks.1
  rcases hH with⟨rfl,rfl⟩|rfl
  ·(conv=>whnf);refine aE (fun hlt=>?_) (fun hlt=>?_)
   ·simp at hlt
    (conv=>whnf);refine aE (fun hbad=>?_) (fun hbad=>?_)
    ·replace hbad:(!st.bad)=true:=hbad
     simp at hbad
     obtain⟨k,rfl⟩:∃k,m=k+1:=⟨m-1,by omega⟩
     rw[kF,if_neg (by simp[hbad])]at hr
     (conv=>whnf);refine bH.of (cK 1 (by omega) (by omega) st hb _ 1 rfl) ?_
     have n3:=TY hb
     conv=>whnf
     refine⟨fun m2 ρ H1=>∃(st2:dH) (key:List ByteArray),kP m2 st2 key=xG st∧key.length+m2≤255∧s.To st2∧H1=[kX,fV st2,eG (fH s) a .nil .nil]++[.arr 1 (sC key)] ∧
      Sv 146 [(0,.list false 1 (bC b0)),(2,.ptr 0 1 0 0),(4,.ptr 1 1 0 0),(5,.ptr 2 1 0 0),(8,.int .i64 (k+1:Nat)),(9,.sl 3 key.length 0 key.length),(10,.int .i64 m2)] ρ,(lR 1 st).toNat,[(9,1)],
      fun id ρ H1=>id=4∧∃(st2:dH) (key:List ByteArray),(key,st2)=xG st∧s.To st2∧H1=[kX,fV st2,eG (fH s) a .nil .nil] ∧
       Sv 146 [(0,.list false 1 (bC b0)),(2,.ptr 0 1 0 0),(4,.ptr 1 1 0 0),(5,.ptr 2 1 0 0),(8,.int .i64 (k+1:Nat)),(9,.list false 1 (sC key))] ρ,?_,?_,?_⟩
     ·exact⟨_,[],rfl,by simp;omega,ht.tk 1,rfl,Sv.intro rfl ⟨rfl,rfl,rfl,rfl,rfl,rfl,aN (by omega),trivial⟩⟩
     ·rintro m2 ρ H2 ⟨st2,key,hr2,hle2,ht2,rfl,d2,rfl⟩
      have hb2:=ht2.1
      (conv=>whnf);refine aE (fun hlt2=>?_) (fun hlt2=>?_)
      ·simp at hlt2
       obtain⟨j,rfl⟩:∃j,m2=j+1:=⟨m2-1,by omega⟩
       (conv=>whnf);refine aE (fun hbad2=>?_) (fun hbad2=>?_)
       ·replace hbad2:(!st2.bad)=true:=hbad2
        simp at hbad2
        rw[kP,if_neg (by simp[hbad2])]at hr2
        (conv=>whnf);refine bH.of (kJ st2 hb2 _ 1 rfl) ?_
        (conv=>whnf);refine b4 (by rw[aP];exact Nat.beq_refl _) ?_
        (conv=>whnf);refine And.intro (⟨cN (by simp;omega) (by omega),bK (by simp;omega),rfl,by rw[aP]⟩) ?_
        conv=>whnf
        have hc:sC key++[[a6.str (fH st2)]]=sC (key++[fH st2]):=(jV key [fH st2]).symm
        have hcl:(sC key++[[a6.str (fH st2)]]).length=(key++[fH st2]).length:=by rw[hc,aP]
        refine⟨j,by omega,Gp.keep rfl ?_ fun ρ1 h=>⟨_,key++[fH st2],hr2,by simp;omega,ht2.tx,?_,h⟩⟩
        ·exact⟨rfl,rfl,rfl,rfl,rfl,eQ hcl hcl,aN (HK (by omega) (by omega)),trivial⟩
        ·rw[←hc];rfl
       ·replace hbad2:(!st2.bad)=false:=hbad2
        simp at hbad2
        rw[kP,if_pos hbad2]at hr2
        conv=>whnf
        refine Gp.keepL [0,1,2] (by simp) (dN) (H1:=[kX,fV st2,eG (fH s) a .nil .nil]) ⟨⟨_,rfl,.same _ _ rfl⟩,⟨_,rfl,.same _ _ rfl⟩,⟨_,rfl,iO ⟨dI rfl,dI ha.closed,dI rfl,dI rfl,trivial⟩⟩,trivial⟩ rfl ?_ fun ρ1 h=>⟨rfl,st2,key,hr2,ht2,rfl,h⟩
        exact⟨.closed _ rfl,aU rfl,aU rfl,aU rfl,.closed _ rfl,(oE rfl (by simp) (aP key).symm (aO key)).1,trivial⟩
      ·simp at hlt2
       subst hlt2
       conv=>whnf
       refine Gp.keepL [0,1,2] (by simp) (dN) (H1:=[kX,fV st2,eG (fH s) a .nil .nil]) ⟨⟨_,rfl,.same _ _ rfl⟩,⟨_,rfl,.same _ _ rfl⟩,⟨_,rfl,iO ⟨dI rfl,dI ha.closed,dI rfl,dI rfl,trivial⟩⟩,trivial⟩ rfl ?_ fun ρ1 h=>⟨rfl,st2,key,hr2,ht2,rfl,h⟩
       exact⟨.closed _ rfl,aU rfl,aU rfl,aU rfl,.closed _ rfl,(oE rfl (by simp) (aP key).symm (aO key)).1,trivial⟩
     rintro _ ρ2 H2 ⟨rfl,st2,key,hr2,ht2,rfl,d2,rfl⟩
     rw[←hr2]at hr
     (conv=>whnf);refine And.intro (⟨cN (by simp) (by omega),bK (by simp)⟩) ?_
     conv=>whnf
     refine⟨k,by omega,Gp.keep rfl ?_ fun ρ1 h=>⟨_,L++[key],[a6.list false 1 (sC key)],hr,by simp at hle ⊢;omega,ht2,hks.snoc (.inr rfl),.inr rfl,h⟩⟩
     exact⟨rfl,rfl,rfl,rfl,aN (HK (by omega) (by omega)),trivial⟩
    ·replace hbad:(!st.bad)=false:=hbad
     simp at hbad
     obtain⟨k,rfl⟩:∃k,m=k+1:=⟨m-1,by omega⟩
     rw[kF,if_pos hbad]at hr
     conv=>whnf
     refine Gp.keep rfl ?_ fun ρ1 h=>⟨rfl,st,L,[],.nil,hr,ht,hks,.inl ⟨rfl,rfl⟩,rfl,h⟩
     exact⟨rfl,rfl,rfl,rfl,trivial⟩
   ·simp at hlt
    subst hlt
    conv=>whnf
    refine Gp.keep rfl ?_ fun ρ1 h=>⟨rfl,st,L,[],.nil,hr,ht,hks,.inl ⟨rfl,rfl⟩,rfl,h⟩
    exact⟨rfl,rfl,rfl,rfl,trivial⟩
  ·(conv=>whnf);refine aE (fun hlt=>?_) (fun hlt=>?_)
   ·simp at hlt
    (conv=>whnf);refine aE (fun hbad=>?_) (fun hbad=>?_)
    ·replace hbad:(!st.bad)=true:=hbad
     simp at hbad
     obtain⟨k,rfl⟩:∃k,m=k+1:=⟨m-1,by omega⟩
     rw[kF,if_neg (by simp[hbad])]at hr
     (conv=>whnf);refine bH.of (cK 1 (by omega) (by omega) st hb _ 1 rfl) ?_
     have n3:=TY hb
     conv=>whnf
     refine⟨fun m2 ρ H1=>∃(st2:dH) (key:List ByteArray),kP m2 st2 key=xG st∧key.length+m2≤255∧s.To st2∧H1=[kX,fV st2,eG (fH s) a (.sl 3 cs.length 0 cs.length) .nil,.arr 1 (u3 cs)]++[.arr 1 (sC key)] ∧
      Sv 146 [(0,.list false 1 (bC b0)),(2,.ptr 0 1 0 0),(4,.ptr 1 1 0 0),(5,.ptr 2 1 0 0),(8,.int .i64 (k+1:Nat)),(9,.sl 4 key.length 0 key.length),(10,.int .i64 m2)] ρ,(lR 1 st).toNat,[(9,1)],
      fun id ρ H1=>id=4∧∃(st2:dH) (key:List ByteArray),(key,st2)=xG st∧s.To st2∧H1=[kX,fV st2,eG (fH s) a (.sl 3 cs.length 0 cs.length) .nil,.arr 1 (u3 cs)] ∧
       Sv 146 [(0,.list false 1 (bC b0)),(2,.ptr 0 1 0 0),(4,.ptr 1 1 0 0),(5,.ptr 2 1 0 0),(8,.int .i64 (k+1:Nat)),(9,.list false 1 (sC key))] ρ,?_,?_,?_⟩
     ·exact⟨_,[],rfl,by simp;omega,ht.tk 1,rfl,Sv.intro rfl ⟨rfl,rfl,rfl,rfl,rfl,rfl,aN (by omega),trivial⟩⟩
     ·rintro m2 ρ H2 ⟨st2,key,hr2,hle2,ht2,rfl,d2,rfl⟩
      have hb2:=ht2.1
      (conv=>whnf);refine aE (fun hlt2=>?_) (fun hlt2=>?_)
      ·simp at hlt2
       obtain⟨j,rfl⟩:∃j,m2=j+1:=⟨m2-1,by omega⟩
       (conv=>whnf);refine aE (fun hbad2=>?_) (fun hbad2=>?_)
       ·replace hbad2:(!st2.bad)=true:=hbad2
        simp at hbad2
        rw[kP,if_neg (by simp[hbad2])]at hr2
        (conv=>whnf);refine bH.of (kJ st2 hb2 _ 1 rfl) ?_
        (conv=>whnf);refine b4 (by rw[aP];exact Nat.beq_refl _) ?_
        (conv=>whnf);refine And.intro (⟨cN (by simp;omega) (by omega),bK (by simp;omega),rfl,by rw[aP]⟩) ?_
        conv=>whnf
        have hc:sC key++[[a6.str (fH st2)]]=sC (key++[fH st2]):=(jV key [fH st2]).symm
        have hcl:(sC key++[[a6.str (fH st2)]]).length=(key++[fH st2]).length:=by rw[hc,aP]
        refine⟨j,by omega,Gp.keep rfl ?_ fun ρ1 h=>⟨_,key++[fH st2],hr2,by simp;omega,ht2.tx,?_,h⟩⟩
        ·exact⟨rfl,rfl,rfl,rfl,rfl,eQ hcl hcl,aN (HK (by omega) (by omega)),trivial⟩
        ·rw[←hc];rfl
       ·replace hbad2:(!st2.bad)=false:=hbad2
        simp at hbad2
        rw[kP,if_pos hbad2]at hr2
        conv=>whnf
        refine Gp.keepL [0,1,2,3] (by simp) (dN) (H1:=[kX,fV st2,eG (fH s) a (.sl 3 cs.length 0 cs.length) .nil,.arr 1 (u3 cs)]) ⟨⟨_,rfl,.same _ _ rfl⟩,⟨_,rfl,.same _ _ rfl⟩,⟨_,rfl,iO ⟨dI rfl,dI ha.closed,i1 rfl rfl,dI rfl,trivial⟩⟩,⟨_,rfl,.same _ _ hks.pure⟩,trivial⟩ rfl ?_ fun ρ1 h=>⟨rfl,st2,key,hr2,ht2,rfl,h⟩
        exact⟨.closed _ rfl,aU rfl,aU rfl,aU rfl,.closed _ rfl,(oE rfl (by simp) (aP key).symm (aO key)).1,trivial⟩
      ·simp at hlt2
       subst hlt2
       conv=>whnf
       refine Gp.keepL [0,1,2,3] (by simp) (dN) (H1:=[kX,fV st2,eG (fH s) a (.sl 3 cs.length 0 cs.length) .nil,.arr 1 (u3 cs)]) ⟨⟨_,rfl,.same _ _ rfl⟩,⟨_,rfl,.same _ _ rfl⟩,⟨_,rfl,iO ⟨dI rfl,dI ha.closed,i1 rfl rfl,dI rfl,trivial⟩⟩,⟨_,rfl,.same _ _ hks.pure⟩,trivial⟩ rfl ?_ fun ρ1 h=>⟨rfl,st2,key,hr2,ht2,rfl,h⟩
       exact⟨.closed _ rfl,aU rfl,aU rfl,aU rfl,.closed _ rfl,(oE rfl (by simp) (aP key).symm (aO key)).1,trivial⟩
     rintro _ ρ2 H2 ⟨rfl,st2,key,hr2,ht2,rfl,d2,rfl⟩
     rw[←hr2]at hr
     (conv=>whnf);refine b4 (by rw[eT];exact Nat.beq_refl _) ?_
     (conv=>whnf);refine And.intro (⟨cN (by simp;omega) (by omega),bK (by simp;omega),rfl,by rw[eT]⟩) ?_
     conv=>whnf
     have hc:u3 cs++[[a6.list false 1 (sC key)]]=u3 (cs++[a6.list false 1 (sC key)]):=(BS cs [a6.list false 1 (sC key)]).symm
     have hcl:(u3 cs++[[a6.list false 1 (sC key)]]).length=(cs++[a6.list false 1 (sC key)]).length:=by rw[hc,eT]
     refine⟨k,by omega,Gp.keep rfl ?_ fun ρ1 h=>⟨_,L++[key],cs++[a6.list false 1 (sC key)],hr,by simp at hle ⊢;omega,ht2,hks.snoc (.inr rfl),.inr ?_,h⟩⟩
     ·exact⟨rfl,rfl,rfl,rfl,aN (HK (by omega) (by omega)),trivial⟩
     ·rw[←hc,←hcl];rfl
    ·replace hbad:(!st.bad)=false:=hbad
     simp at hbad
     obtain⟨k,rfl⟩:∃k,m=k+1:=⟨m-1,by omega⟩
     rw[kF,if_pos hbad]at hr
     conv=>whnf
     refine Gp.keepL [0,1,2] (by simp) (dN) (H1:=[kX,fV st,eG (fH s) a (.list false 1 (u3 cs)) .nil]) ?_ rfl ?_ fun ρ1 h=>⟨rfl,st,L,cs,_,hr,ht,hks,.inr rfl,rfl,h⟩
     ·exact⟨⟨_,rfl,.same _ _ rfl⟩,⟨_,rfl,.same _ _ rfl⟩,⟨_,rfl,iO ⟨dI rfl,dI ha.closed,oE rfl (by simp) (eT cs).symm hks.pure,dI rfl,trivial⟩⟩,trivial⟩
     ·exact⟨.closed _ rfl,aU rfl,aU rfl,aU rfl,trivial⟩
   ·simp at hlt
    subst hlt
    conv=>whnf
    refine Gp.keepL [0,1,2] (by simp) (dN) (H1:=[kX,fV st,eG (fH s) a (.list false 1 (u3 cs)) .nil]) ?_ rfl ?_ fun ρ1 h=>⟨rfl,st,L,cs,_,hr,ht,hks,.inr rfl,rfl,h⟩
    ·exact⟨⟨_,rfl,.same _ _ rfl⟩,⟨_,rfl,.same _ _ rfl⟩,⟨_,rfl,iO ⟨dI rfl,dI ha.closed,oE rfl (by simp) (eT cs).symm hks.pure,dI rfl,trivial⟩⟩,trivial⟩
    ·exact⟨.closed _ rfl,aU rfl,aU rfl,aU rfl,trivial⟩
 rintro _ ρ1 H1 ⟨rfl,st,keys,cs,b,hr3,t2,hks,hcb,rfl,d,rfl⟩
 have hb3:=t2.1
 have h4:iR (lR 2 st).toNat (kQ 2 st) []=JT iX s:=by rw[JT,←hr3]
 have e3:(GI iX s).1=keys:=by rw[←hr3]
 (conv=>whnf);refine bH.of (cK 2 (by omega) (by omega) st hb3 _ 1 rfl) ?_
 have n4:=YP hb3
 conv=>whnf
 refine⟨fun m ρ H1=>∃(st:dH) (L:List (Option (List V)×Int)),iR m st L=JT iX s∧L.length+m≤65535∧s.To st∧XJ st (fH s) a b L H1 ∧
  Sv 146 [(0,.list false 1 (bC b0)),(2,.ptr 0 1 0 0),(4,.ptr 1 1 0 0),(5,.ptr 2 1 0 0),(11,.int .i64 m)] ρ,(lR 2 st).toNat,[],
  fun id ρ H1=>id=6∧∃(st:dH) (L:List (Option (List V)×Int)) (c:a6),(L,st)=JT iX s∧CL c 2 (iH L)∧H1=[kX,fV st,eG (fH s) a b c] ∧
   Sv 146 [(0,.list false 1 (bC b0)),(2,.ptr 0 1 0 0),(4,.ptr 1 1 0 0),(5,.ptr 2 1 0 0)] ρ,?_,?_,?_⟩
 ·exact⟨_,[],h4,by simp;omega,t2.tk 2,.inl ⟨rfl,rfl⟩,Sv.intro rfl ⟨rfl,rfl,rfl,rfl,aN (by omega),trivial⟩⟩
 ·rintro m ρ H1 ⟨st,L,hr,hle,ht,hH,d,rfl⟩
  have hb:=ht.1
  rcases hH with⟨rfl,rfl⟩|rfl
  ·(conv=>whnf);refine aE (fun hlt=>?_) (fun hlt=>?_)
   ·simp at hlt
    (conv=>whnf);refine aE (fun hbad=>?_) (fun hbad=>?_)
    ·replace hbad:(!st.bad)=true:=hbad
     simp at hbad
     obtain⟨k,rfl⟩:∃k,m=k+1:=⟨m-1,by omega⟩
     rw[iR,if_neg (by simp[hbad])]at hr
     (conv=>whnf);refine bH.of (cK 3 (by omega) (by omega) st hb _ 1 rfl) ?_
     (conv=>whnf);refine bH.of (cK 2 (by omega) (by omega) (kQ 3 st) (gY hb) _ 1 rfl) ?_
     (conv=>whnf);refine bH.of (tH ⟨81,k81.has⟩ _ (mT (by omega) (by omega) (gY (n:=3) hb)).1 (V5 st) _ 1 rfl) ?_
     have hd:=fun H=>pA false (KQ st) (lH (ht.tk 3 |>.tk 2).1) (Nat.le_trans (wK _ _) (Nat.le_trans (ht.tk 3 |>.tk 2).2 hl)) H
     rw[sW]at hd
     rcases hdc:Q8 (KQ st)with _|rs
     rotate_left
     ·rw[hdc]at hd
      have hrs:kL st=PM st:=by rw[kL,hdc]
      have hrv:[a6.list false 3 (vC rs),a6.int .i64 (lR 3 st)]=tP (f5 st):=by rw[f5,hdc];rfl
      (conv=>whnf);refine bH.of (hd _) ?_
      (conv=>whnf);refine And.intro (⟨cN (by simp) (by omega),bK (by simp)⟩) ?_
      conv=>whnf
      refine⟨k,by omega,Gp.keepL [0,1,2,4] (by simp) (dN) (H1:=[kX,fV (kL st),eG (fH s) a b (.sl 3 1 0 1),.arr 2 (iH [f5 st])]) ?_ rfl ?_ fun ρ1 h=>⟨_,_,hr,by simp at hle ⊢;omega,ht.row,.inr rfl,h⟩⟩
      ·exact⟨⟨_,rfl,.same _ _ rfl⟩,⟨_,rfl,by rw[hrs];exact .same _ _ rfl⟩,⟨_,rfl,iO ⟨dI rfl,dI ha.closed,dI hcb.closed,i1 rfl rfl,trivial⟩⟩,⟨_,rfl,zY.of_eq (by rw[show iH [f5 st]=[tP (f5 st)]from rfl,←hrv]) (fF _)⟩,trivial⟩
      ·exact⟨.closed _ rfl,aU rfl,aU rfl,aU rfl,n8 (HK (by omega) (by omega)),trivial⟩
     ·rw[hdc]at hd
      have hrs:kL st=⟨(PM st).rest,true⟩:=by rw[kL,hdc]
      (conv=>whnf);refine bH.of (hd _) ?_
      conv=>whnf
      rw[ET _ (by rw[hrs])]at hr
      exact err (by rw[hU,uX,←hr,hrs];rfl)
    ·replace hbad:(!st.bad)=false:=hbad
     simp at hbad
     obtain⟨k,rfl⟩:∃k,m=k+1:=⟨m-1,by omega⟩
     rw[iR,if_pos hbad]at hr
     conv=>whnf
     refine Gp.keep rfl ?_ fun ρ1 h=>⟨rfl,st,[],.nil,hr,.inl ⟨rfl,rfl⟩,rfl,h⟩
     exact⟨rfl,rfl,rfl,rfl,trivial⟩
   ·simp at hlt
    subst hlt
    conv=>whnf
    refine Gp.keep rfl ?_ fun ρ1 h=>⟨rfl,st,[],.nil,hr,.inl ⟨rfl,rfl⟩,rfl,h⟩
    exact⟨rfl,rfl,rfl,rfl,trivial⟩
  ·(conv=>whnf);refine aE (fun hlt=>?_) (fun hlt=>?_)
   ·simp at hlt
    (conv=>whnf);refine aE (fun hbad=>?_) (fun hbad=>?_)
    ·replace hbad:(!st.bad)=true:=hbad
     simp at hbad
     obtain⟨k,rfl⟩:∃k,m=k+1:=⟨m-1,by omega⟩
     rw[iR,if_neg (by simp[hbad])]at hr
     (conv=>whnf);refine bH.of (cK 3 (by omega) (by omega) st hb _ 1 rfl) ?_
     (conv=>whnf);refine bH.of (cK 2 (by omega) (by omega) (kQ 3 st) (gY hb) _ 1 rfl) ?_
     (conv=>whnf);refine bH.of (tH ⟨81,k81.has⟩ _ (mT (by omega) (by omega) (gY (n:=3) hb)).1 (V5 st) _ 1 rfl) ?_
     have hd:=fun H=>pA false (KQ st) (lH (ht.tk 3 |>.tk 2).1) (Nat.le_trans (wK _ _) (Nat.le_trans (ht.tk 3 |>.tk 2).2 hl)) H
     rw[sW]at hd
     rcases hdc:Q8 (KQ st)with _|rs
     rotate_left
     ·rw[hdc]at hd
      have hrs:kL st=PM st:=by rw[kL,hdc]
      have hrv:[a6.list false 3 (vC rs),a6.int .i64 (lR 3 st)]=tP (f5 st):=by rw[f5,hdc];rfl
      (conv=>whnf);refine bH.of (hd _) ?_
      (conv=>whnf);refine b4 (by rw[d5];exact Nat.beq_refl _) ?_
      (conv=>whnf);refine And.intro (⟨cN (by simp;omega) (by omega),bK (by simp;omega),rfl,by rw[d5]⟩) ?_
      conv=>whnf
      rw[hrv]
      have hc:iH L++[tP (f5 st)]=iH (L++[f5 st]):=(sD L [f5 st]).symm
      have hcl:(iH L++[tP (f5 st)]).length=(L++[f5 st]).length:=by rw[hc,d5]
      refine⟨k,by omega,Gp.keepL [0,1,2,3] (by simp) (dN) (H1:=[kX,fV (kL st),eG (fH s) a b (.sl 3 (L++[f5 st]).length 0 (L++[f5 st]).length),.arr 2 (iH (L++[f5 st]))]) ?_ rfl ?_ fun ρ1 h=>⟨_,_,hr,by simp at hle ⊢;omega,ht.row,.inr rfl,h⟩⟩
      ·exact⟨⟨_,rfl,.same _ _ rfl⟩,⟨_,rfl,by rw[hrs];exact .same _ _ rfl⟩,⟨_,rfl,iO ⟨dI rfl,dI ha.closed,dI hcb.closed,i1 rfl hcl,trivial⟩⟩,⟨_,rfl,zY.of_eq hc (fF _)⟩,trivial⟩
      ·exact⟨.closed _ rfl,aU rfl,aU rfl,aU rfl,n8 (HK (by omega) (by omega)),trivial⟩
     ·rw[hdc]at hd
      have hrs:kL st=⟨(PM st).rest,true⟩:=by rw[kL,hdc]
      (conv=>whnf);refine bH.of (hd _) ?_
      conv=>whnf
      rw[ET _ (by rw[hrs])]at hr
      exact err (by rw[hU,uX,←hr,hrs];rfl)
    ·replace hbad:(!st.bad)=false:=hbad
     simp at hbad
     obtain⟨k,rfl⟩:∃k,m=k+1:=⟨m-1,by omega⟩
     rw[iR,if_pos hbad]at hr
     conv=>whnf
     refine Gp.keepL [0,1,2] (by simp) (dN) (H1:=[kX,fV st,eG (fH s) a b (.list false 2 (iH L))]) ?_ rfl ?_ fun ρ1 h=>⟨rfl,st,L,_,hr,.inr rfl,rfl,h⟩
     ·exact⟨⟨_,rfl,.same _ _ rfl⟩,⟨_,rfl,.same _ _ rfl⟩,⟨_,rfl,iO ⟨dI rfl,dI ha.closed,dI hcb.closed,oE rfl (by simp) (d5 L).symm (fF L),trivial⟩⟩,trivial⟩
     ·exact⟨.closed _ rfl,aU rfl,aU rfl,aU rfl,trivial⟩
   ·simp at hlt
    subst hlt
    conv=>whnf
    refine Gp.keepL [0,1,2] (by simp) (dN) (H1:=[kX,fV st,eG (fH s) a b (.list false 2 (iH L))]) ?_ rfl ?_ fun ρ1 h=>⟨rfl,st,L,_,hr,.inr rfl,rfl,h⟩
    ·exact⟨⟨_,rfl,.same _ _ rfl⟩,⟨_,rfl,.same _ _ rfl⟩,⟨_,rfl,iO ⟨dI rfl,dI ha.closed,dI hcb.closed,oE rfl (by simp) (d5 L).symm (fF L),trivial⟩⟩,trivial⟩
    ·exact⟨.closed _ rfl,aU rfl,aU rfl,aU rfl,trivial⟩
 rintro _ ρ1 H1 ⟨rfl,st,rows,c,hr4,hcc,rfl,d,rfl⟩
 have hrs:uX iX s=st:=by rw[uX,←hr4]
 have hwk:gG (.agg [.str (fH s),a,b,c]) (.agg (dR (tM iX s))):=by
  rw[tM,e2,e3,←hr4]
  exact SH ha hcb hks hcc
 obtain⟨x,hx⟩:∃x,tM iX s=x:=⟨_,rfl⟩
 rw[hx]at hfit hwk hU hR
 rw[hrs]at hU
 (conv=>whnf);refine bH.of (a7.weakD (uU x hfit _) (.cons hwk .nil)) ?_
 rcases nQ x with⟨h1,h2,h3⟩|⟨n,h1,h2,h3⟩
 ·rw[h3]
  (conv=>whnf);refine aE (fun hb=>?_) (fun hb=>?_)
  ·conv=>whnf
   exact err (by rw[hU,hb];rfl)
  (conv=>whnf);refine⟨_,fX _,?_⟩
  (conv=>whnf);refine⟨_,fX _,?_⟩
  (conv=>whnf);refine aE (fun he=>?_) (fun he=>?_)
  ·replace he:(!((cH x).map (fun n=>UInt8.ofNat n.toNat)==b0.map (fun n=>UInt8.ofNat n.toNat)))=true:=he
   rw[FH (oS _) hby0]at he
   conv=>whnf
   exact err (by rw[hU];simp at he;simp[he])
  ·replace he:(!((cH x).map (fun n=>UInt8.ofNat n.toNat)==b0.map (fun n=>UInt8.ofNat n.toNat)))=false:=he
   rw[FH (oS _) hby0]at he
   simp at he
   rw[he]at h2
   have hu:sN iX b0=true:=by rw[hU,hb,h1,he];simp;omega
   have ia:a.isCell=true:=(dI (H:=[]) (ids:=[]) ha.closed).2
   have ib:b.isCell=true:=(dI (H:=[]) (ids:=[]) hcb.closed).2
   have ic:c.isCell=true:=(dI (H:=[]) (ids:=[]) hcc.closed).2
   (conv=>whnf);refine b4 (by(show(_&&List.all [a6.str (fH s),a,b,c] a6.isCell)=true);simp only[List.all_cons,List.all_nil,ia,ib,ic];rfl) ?_
   conv=>whnf
   refine⟨_,dP (.closed (.agg [.str (fH s),a,b,c]) ?_) (.closed _ rfl),?_⟩
   ·show List.all [a6.str (fH s),a,b,c] a6.isPure=true
    simp only[List.all_cons,List.all_nil,ha.closed,hcb.closed,hcc.closed];rfl
   ·rw[hR,hu,if_pos rfl]
    exact .tuples (.cons hwk (.cons (.refl _) .nil))
 ·rw[h2]
  (conv=>whnf);refine aE (fun hb=>?_) (fun hb=>?_)
  ·conv=>whnf
   exact err (by rw[hU,hb];rfl)
  (conv=>whnf);refine aE (fun hn=>?_) (fun hn=>?_)
  ·conv=>whnf
   exact err (by
    rw[hU]
    rcases h3 with h3|h3
    ·simp[h3]
    ·by_cases hx2:cH x=b0
     ·rw[←hx2];simp;omega
     ·simp[hx2])
  ·simp at hn
   exact absurd hn h1
theorem GD(b:List Int)(hby:fI b)(hl:b.length≤1000000)(H:List aB):
  a7 pr 29 [.list false 1 (bC b)] H (fun r H'=>r=zX fY b∧H'=H):=by
 obtain⟨r,hw,h⟩:=JK b hby hl
 rw[T4 (fr:=iX) rfl rfl rfl rfl]
 refine a7.weakRD (h H) ?_
 rintro r' H' ⟨rfl,rfl⟩
 exact⟨_,hw,rfl,rfl⟩
theorem dX{k:Nat}(h:k≤10000000):IntKind.i64.wrap ((k:Int)+1)=((k+1:Nat):Int):=by rw[aW _ (by omega) (by omega)];omega
theorem bb{b:Bool}:(b==b)=true:=by cases b<;>rfl
set_option maxRecDepth 20000 in
theorem DN(cs:List c8)(hl:cs.length≤1000000):
  aC pr 82 [.list false 3 (cC cs),.list false 3 (cC cs)] (fun r=>r=.bool true):=by
 have hn:=aX cs
 refine aH k82.has rfl ?_
 (conv=>whnf);refine s8 (by simp) ?_
 conv=>whnf
 refine⟨fun m ρ H1=>∃k:Nat,k+m=cs.length∧H1=[]∧Sv 26 [(0,(.list false 3 (cC cs))),(1,(.list false 3 (cC cs))),(5,.int .i64 k)] ρ,cs.length,[],fun i ρ H1=>i=0∧H1=[]∧Sv 26 [] ρ,?_,?_,?_⟩
 ·exact⟨0,by omega,rfl,Sv.intro rfl ⟨rfl,rfl,rfl,trivial⟩⟩
 ·rintro m ρ H1 ⟨k,hk,rfl,d,rfl⟩
  (conv=>whnf);refine aE (fun hlt=>?_) (fun hlt=>?_)
  ·simp at hlt
   obtain⟨c,hc,_⟩:=aY (l:=cs) (k:=k) (by omega)
   (conv=>whnf);refine And.intro (by omega) ?_
   (conv=>whnf);refine b8 (iI hc) ?_
   (conv=>whnf);refine And.intro (by omega) ?_
   (conv=>whnf);refine b8 (iI hc) ?_
   (conv=>whnf);refine s8 (by simp[bb]) ?_
   conv=>whnf
   refine⟨m-1,by omega,Gp.keep rfl ?_ fun ρ1 h=>⟨k+1,by omega,rfl,h⟩⟩
   exact⟨rfl,rfl,aN (dX (by omega)),trivial⟩
  ··conv=>whnf
    exact Gp.keep (live:=[]) rfl trivial fun _ h=>⟨rfl,rfl,h⟩
 ·rintro i ρ1 H1 ⟨rfl,rfl,d,rfl⟩
  conv=>whnf
  exact⟨_,.closed _ rfl,rfl⟩
set_option maxRecDepth 20000 in
theorem GK(r:List V)(hl:r.length≤1000000):
  aC pr 133 [.list false 3 (vC r),.list false 3 (vC r)] (fun r=>r=.bool true):=by
 have hn:=b9 r
 refine aH k133.has rfl ?_
 (conv=>whnf);refine s8 (by simp) ?_
 conv=>whnf
 refine⟨fun m ρ H1=>∃k:Nat,k+m=r.length∧H1=[]∧Sv 26 [(0,(.list false 3 (vC r))),(1,(.list false 3 (vC r))),(5,.int .i64 k)] ρ,r.length,[],fun i ρ H1=>i=0∧H1=[]∧Sv 26 [] ρ,?_,?_,?_⟩
 ·exact⟨0,by omega,rfl,Sv.intro rfl ⟨rfl,rfl,rfl,trivial⟩⟩
 ·rintro m ρ H1 ⟨k,hk,rfl,d,rfl⟩
  (conv=>whnf);refine aE (fun hlt=>?_) (fun hlt=>?_)
  ·simp at hlt
   obtain⟨c,hc,_⟩:=aY (l:=r) (k:=k) (by omega)
   (conv=>whnf);refine And.intro (by omega) ?_
   (conv=>whnf);refine b8 (sP hc) ?_
   (conv=>whnf);refine And.intro (by omega) ?_
   (conv=>whnf);refine b8 (sP hc) ?_
   (conv=>whnf);refine s8 (by simp) ?_
   conv=>whnf
   refine⟨m-1,by omega,Gp.keep rfl ?_ fun ρ1 h=>⟨k+1,by omega,rfl,h⟩⟩
   exact⟨rfl,rfl,aN (dX (by omega)),trivial⟩
  ··conv=>whnf
    exact Gp.keep (live:=[]) rfl trivial fun _ h=>⟨rfl,rfl,h⟩
 ·rintro i ρ1 H1 ⟨rfl,rfl,d,rfl⟩
  conv=>whnf
  exact⟨_,.closed _ rfl,rfl⟩
set_option maxRecDepth 20000 in
theorem K2(es:List cW)(hl:es.length≤1000000)(hr:∀e∈es,e.row.length≤1000000):
  aC pr 83 [.list false 2 (eC es),.list false 2 (eC es)] (fun r=>r=.bool true):=by
 have hn:=aR es
 refine aH k83.has rfl ?_
 (conv=>whnf);refine s8 (by simp) ?_
 conv=>whnf
 refine⟨fun m ρ H1=>∃k:Nat,k+m=es.length∧H1=[]∧Sv 42 [(0,(.list false 2 (eC es))),(1,(.list false 2 (eC es))),(5,.int .i64 k)] ρ,es.length,[],fun i ρ H1=>i=0∧H1=[]∧Sv 42 [] ρ,?_,?_,?_⟩
 ·exact⟨0,by omega,rfl,Sv.intro rfl ⟨rfl,rfl,rfl,trivial⟩⟩
 ·rintro m ρ H1 ⟨k,hk,rfl,d,rfl⟩
  (conv=>whnf);refine aE (fun hlt=>?_) (fun hlt=>?_)
  ·simp at hlt
   obtain⟨e,he,_,hm⟩:=aY (l:=es) (k:=k) (by omega)
   (conv=>whnf);refine And.intro (by omega) ?_
   (conv=>whnf);refine b8 (fE he) ?_
   (conv=>whnf);refine And.intro (by omega) ?_
   (conv=>whnf);refine b8 (fE he) ?_
   (conv=>whnf);refine s8 (by simp) ?_
   (conv=>whnf);refine And.intro (by omega) ?_
   (conv=>whnf);refine b8 (fE he) ?_
   (conv=>whnf);refine And.intro (by omega) ?_
   (conv=>whnf);refine b8 (fE he) ?_
   (conv=>whnf);refine aC.draw (GK e.row (hr e hm)) (fun r hr=>?_)
   obtain rfl:=hr
   conv=>whnf
   refine⟨m-1,by omega,Gp.keep rfl ?_ fun ρ1 h=>⟨k+1,by omega,rfl,h⟩⟩
   exact⟨rfl,rfl,aN (dX (by omega)),trivial⟩
  ··conv=>whnf
    exact Gp.keep (live:=[]) rfl trivial fun _ h=>⟨rfl,rfl,h⟩
 ·rintro i ρ1 H1 ⟨rfl,rfl,d,rfl⟩
  conv=>whnf
  exact⟨_,.closed _ rfl,rfl⟩
set_option maxRecDepth 20000 in
set_option maxHeartbeats 1000000 in
theorem GJ(x:r6)(hx:x.Fit)(hk:x.keys.length≤1000000)(hks:∀k∈x.keys,k.2.length≤1000000)(hf:x=rH x):
  aC pr 31 [.agg (dR x),.agg (dR x)] (fun r=>r=.bool true):=by
 obtain⟨nm,ec,cols,ek,keys,er,rows⟩:=x
 simp only[rH,r6.mk.injEq]at hf
 obtain⟨_,rfl,_,rfl,hkf,rfl,_⟩:=hf
 have hkn:=iN keys
 replace hk:keys.length≤1000000:=hk
 refine aH k31.has rfl ?_
 (conv=>whnf);refine s8 (by simp) ?_
 (conv=>whnf);refine aC.use (DN cols hx.c) (fun r hr=>?_)
 obtain rfl:=hr
 (conv=>whnf);refine s8 (by simp) ?_
 conv=>whnf
 refine⟨fun m ρ H1=>∃k:Nat,k+m=keys.length∧H1=[.arr 4 [dR ⟨nm,false,cols,false,keys,false,rows⟩],.arr 4 [dR ⟨nm,false,cols,false,keys,false,rows⟩]]∧Sv 81 [(2,.ptr 0 1 0 0),(3,.ptr 1 1 0 0),(5,.int .i64 k)] ρ,keys.length,[],
  fun i ρ H1=>i=0∧H1=[.arr 4 [dR ⟨nm,false,cols,false,keys,false,rows⟩],.arr 4 [dR ⟨nm,false,cols,false,keys,false,rows⟩]]∧Sv 81 [(2,.ptr 0 1 0 0),(3,.ptr 1 1 0 0)] ρ,?_,?_,?_⟩
 ·exact⟨0,by omega,rfl,Sv.intro rfl ⟨rfl,rfl,rfl,trivial⟩⟩
 ·rintro m ρ H1 ⟨k,hk1,rfl,d,rfl⟩
  (conv=>whnf);refine aE (fun hlt=>?_) (fun hlt=>?_)
  ·rw[hkn]at hlt
   simp at hlt
   obtain⟨y,hy,_,hm⟩:=aY (l:=keys) (k:=k) (by omega)
   have hyl:=hks y hm
   have hsn:=aP y.2
   (conv=>whnf);refine And.intro (by omega) ?_
   (conv=>whnf);refine b8 (pW hy) ?_
   (conv=>whnf);refine And.intro (by omega) ?_
   (conv=>whnf);refine b8 (pW hy) ?_
   (conv=>whnf);refine s8 (by simp) ?_
   conv=>whnf
   refine⟨fun m2 ρ H1=>∃j:Nat,j+m2=y.2.length∧H1=[.arr 4 [dR ⟨nm,false,cols,false,keys,false,rows⟩],.arr 4 [dR ⟨nm,false,cols,false,keys,false,rows⟩]]∧Sv 81 [(2,.ptr 0 1 0 0),(3,.ptr 1 1 0 0),(5,.int .i64 k),(6,.int .i64 j)] ρ,y.2.length,[],
    fun i ρ H1=>i=2∧H1=[.arr 4 [dR ⟨nm,false,cols,false,keys,false,rows⟩],.arr 4 [dR ⟨nm,false,cols,false,keys,false,rows⟩]]∧Sv 81 [(2,.ptr 0 1 0 0),(3,.ptr 1 1 0 0),(5,.int .i64 k)] ρ,?_,?_,?_⟩
   ·exact⟨0,by omega,rfl,Sv.intro rfl ⟨rfl,rfl,rfl,rfl,trivial⟩⟩
   ·rintro m2 ρ H1 ⟨j,hj,rfl,d2,rfl⟩
    (conv=>whnf);refine And.intro (by omega) ?_
    (conv=>whnf);refine b8 (pW hy) ?_
    (conv=>whnf);refine aE (fun hlt2=>?_) (fun hlt2=>?_)
    ·rw[hsn]at hlt2
     simp at hlt2
     obtain⟨t,ht,_⟩:=aY (l:=y.2) (k:=j) (by omega)
     (conv=>whnf);refine And.intro (by omega) ?_
     (conv=>whnf);refine b8 (pW hy) ?_
     (conv=>whnf);refine And.intro (by omega) ?_
     (conv=>whnf);refine b8 (mI ht) ?_
     (conv=>whnf);refine And.intro (by omega) ?_
     (conv=>whnf);refine b8 (pW hy) ?_
     (conv=>whnf);refine And.intro (by omega) ?_
     (conv=>whnf);refine b8 (mI ht) ?_
     (conv=>whnf);refine s8 (by simp) ?_
     conv=>whnf
     refine⟨m2-1,by omega,Gp.keep rfl ?_ fun ρ1 h=>⟨j+1,by omega,rfl,h⟩⟩
     exact⟨rfl,rfl,rfl,aN (dX (by omega)),trivial⟩
    ·conv=>whnf
     refine Gp.keep rfl ?_ fun _ h=>⟨rfl,rfl,h⟩
     exact⟨rfl,rfl,rfl,trivial⟩
   ·rintro i ρ1 H1 ⟨rfl,rfl,d2,rfl⟩
    conv=>whnf
    refine⟨m-1,by omega,Gp.keep rfl ?_ fun ρ1 h=>⟨k+1,by omega,rfl,h⟩⟩
    exact⟨rfl,rfl,aN (dX (by omega)),trivial⟩
  ·conv=>whnf
   refine Gp.keep rfl ?_ fun _ h=>⟨rfl,rfl,h⟩
   exact⟨rfl,rfl,trivial⟩
 ·rintro i ρ1 H1 ⟨rfl,rfl,d,rfl⟩
  (conv=>whnf);refine aC.use (K2 rows hx.l hx.r) (fun r hr=>?_)
  obtain rfl:=hr
  conv=>whnf
  exact⟨_,.closed _ rfl,rfl⟩
end Go.AW
namespace Go.AW
variable [dK]
attribute [local irreducible] a7
def V6(x y:c8):Bool:=(x.name.data.toList==y.name.data.toList)&&(x.kind==y.kind)
def K1:List c8→List c8→Bool
 |[],[]=>true
 |x::a,y::b=>V6 x y&&K1 a b
 |_,_=>false
theorem CS:∀(a b:List c8),a.length≠b.length→K1 a b=false
 |[],[],h=>absurd rfl h
 |[],_::_,_=>rfl
 |_::_,[],_=>rfl
 |x::a,y::b,h=>by rw[K1,CS a b (by simpa using h)];simp
def nG:List c8→List c8→List c8
 |x::a,y::b=>⟨x.name,x.kind,x.nul||y.nul⟩::nG a b
 |a,[]=>a
 |[],_=>[]
theorem iU:∀(a b:List c8),(nG a b).length=a.length
 |x::a,y::b=>by simp[nG,iU a b]
 |[],[]=>rfl
 |_::_,[]=>rfl
 |[],_::_=>rfl
theorem KO:∀(a b:List c8) (k:Nat) (x y:c8),a[k]?=some x→b[k]?=some y→(nG a b)[k]?=some ⟨x.name,x.kind,x.nul||y.nul⟩
 |[],_,_,_,_,h,_=>by simp at h
 |_::_,[],_,_,_,_,h=>by simp at h
 |a0::a,b0::b,0,x,y,h1,h2=>by simp at h1 h2;subst h1 h2;simp[nG]
 |a0::a,b0::b,k+1,x,y,h1,h2=>by
  have:=KO a b k x y (by simpa using h1) (by simpa using h2)
  rw[nG,List.getElem?_cons_succ];exact this
theorem F4:∀(a b:List c8) (k:Nat),(a.length≤k∨b.length≤k)→(nG a b).drop k=a.drop k
 |[],[],k,_=>rfl
 |[],_::_,k,_=>rfl
 |_::_,[],k,_=>rfl
 |x::a,y::b,0,h=>by simp at h
 |x::a,y::b,k+1,h=>by
  rw[nG,List.drop_succ_cons,List.drop_succ_cons]
  exact F4 a b k (by simpa using h)
def rY(W a:List c8)(k:Nat):List c8:=W.take k++a.drop k
theorem J1(W a:List c8)(k:Nat)(h:W.length=a.length):(rY W a k).length=a.length:=by simp[rY];omega
theorem RK(W a:List c8)(k:Nat)(x:c8)(h:W.length=a.length)(hx:a[k]?=some x):(rY W a k)[k]?=some x:=by
 have hk:=(List.getElem?_eq_some_iff.1 hx).1
 have h1:(W.take k).length=k:=by simp;omega
 rw[rY,List.getElem?_append_right (by omega),h1,Nat.sub_self,List.getElem?_drop]
 simpa using hx
theorem RL(W a:List c8)(k:Nat)(w:c8)(h:W.length=a.length)(hw:W[k]?=some w):(rY W a k).set k w=rY W a (k+1):=by
 have hk:=(List.getElem?_eq_some_iff.1 hw).1
 have h1:(W.take k).length=k:=by simp;omega
 obtain⟨x,hx,hd,_⟩:=aY (l:=a) (k:=k) (by omega)
 rw[rY,rY,List.set_append_right _ _ (by omega),h1,Nat.sub_self,hd,List.set_cons_zero,List.take_add_one,hw]
 simp
theorem J0(a b:List c8)(k:Nat)(h:a.length≤k∨b.length≤k):rY (nG a b) a k=nG a b:=by
 rw[rY,←F4 a b k h,List.take_append_drop]
set_option maxRecDepth 20000 in
theorem s9(e1 e2:Bool)(a b:List c8)(ha:a.length≤1000000)(H:List aB):
  a7 pr 184 [.list e1 3 (cC a),.list e2 3 (cC b)] H (fun r H'=>r=.bool (K1 a b)∧H'=H):=by
 refine a7.pure (by simp[a6.closed,a6.isPure]) (aA k184.has ?_)
 (conv=>whnf);refine aE (fun h0=>?_) (fun h0=>?_)
 ·simp[aX]at h0
  conv=>whnf
  exact iB (CS a b (by omega)).symm
 simp[aX]at h0
 conv=>whnf
 refine⟨fun m ρ H1=>∃k:Nat,k+m=a.length∧K1 (a.drop k) (b.drop k)=K1 a b∧H1=[] ∧
  Sv 41 [(0,.list e1 3 (cC a)),(1,.list e2 3 (cC b)),(5,.int .i64 k)] ρ,a.length,[],?_,?_⟩
 ·exact⟨0,by omega,rfl,rfl,Sv.intro rfl ⟨rfl,rfl,rfl,trivial⟩⟩
 rintro m ρ H1 ⟨k,hk,hr,rfl,d,rfl⟩
 (conv=>whnf);refine aE (fun hlt=>?_) (fun hlt=>?_)
 ·simp[aX]at hlt
  obtain⟨x,hx,hdx,_⟩:=aY hlt
  obtain⟨y,hy,hdy,_⟩:=aY (show k<b.length by omega)
  rw[hdx,hdy,K1]at hr
  repeat'((conv=>whnf);first|refine And.intro (by omega) ?_|refine b8 (iI hx) ?_|refine b8 (iI hy) ?_|refine aE (fun h=>?_) (fun h=>?_))
  all_goals(conv=>whnf)
  all_goals first
   |refine⟨m-1,by omega,Gp.none rfl ?_ fun ρ1 h=>⟨k+1,by omega,?_,rfl,h⟩⟩
   |refine iB ?_
  all_goals first
   |exact⟨.closed _ rfl,.closed _ rfl,eR (aW ((k:Int)+1) (by omega) (by omega)),trivial⟩
   |skip
  all_goals
   rw[←hr]
   clear hr
   simp_all [V6]
 ·simp[aX]at hlt
  conv=>whnf
  rw[List.drop_eq_nil_of_le hlt,List.drop_eq_nil_of_le (show b.length≤k by omega)]at hr
  exact iB hr
set_option maxRecDepth 20000 in
theorem CC(e1 e2:Bool)(a b:List c8)(hl:a.length≤1000000)(hl2:b.length≤1000000):
  a7 pr 280 [.list e1 3 (cC a),.list e2 3 (cC b)] [] (fun r H'=>r=.sl 0 a.length 0 a.length∧H'=[.arr 3 (cC (nG a b))]):=by
 refine aA k280.has ?_
 conv=>whnf
 refine And.intro ⟨cN (by simp[aX];omega) (by omega),bK (by simp[aX];omega)⟩ ?_
 conv=>whnf
 refine⟨fun m ρ H=>∃k:Nat,k+m=min a.length b.length∧H=[.arr 3 (cC (rY (nG a b) a k))]∧Sv 38 [(1,.list e2 3 (cC b)),(5,.sl 0 a.length 0 a.length),(6,.int .i64 k)] ρ,min a.length b.length,[],?_,?_⟩
 ·refine⟨0,by omega,?_,Sv.intro rfl ⟨rfl,eQ (aX a) (aX a),rfl,trivial⟩⟩
  have h0:rY (nG a b) a 0=a:=by rw[rY,List.take_zero,List.drop_zero,List.nil_append]
  rw[h0]
 rintro m ρ H ⟨k,hk,rfl,d,rfl⟩
 have hlen:(cC (rY (nG a b) a k)).length=a.length:=by rw[aX,J1 _ _ _ (iU a b)]
 (conv=>whnf);refine b4 (by rw[hlen];exact Nat.beq_refl _) ?_
 (conv=>whnf);refine aE (fun hlt=>?_) (fun hlt=>?_)
 ·replace hlt:decide ((k:Int)<(a.length:Int))=true:=hlt
  simp at hlt
  (conv=>whnf);refine aE (fun hlt2=>?_) (fun hlt2=>?_)
  ·replace hlt2:decide ((k:Int)<((cC b).length:Int))=true:=hlt2
   simp[aX]at hlt2
   obtain⟨x,hx,_,_⟩:=aY (l:=a) (k:=k) (by omega)
   obtain⟨y,hy,_,_⟩:=aY (l:=b) (k:=k) (by omega)
   have hw:=KO a b k x y hx hy
   have hidx:(cC (rY (nG a b) a k))[0+(k:Int).toNat]?=some (gJ x):=by
    rw[Nat.zero_add,Int.toNat_natCast];exact iI (RK _ _ _ _ (iU a b) hx)
   have ew:=aW ((k:Int)+1) (by omega) (by omega)
   have fin:∀q:Bool,(x.nul||y.nul)=q→[aB.arr 3 (qW (cC (rY (nG a b) a k)) (0+(k:Int).toNat) (gJ ⟨x.name,x.kind,q⟩))]=[aB.arr 3 (cC (rY (nG a b) a (k+1)))]:=by
    intro q hq;subst hq
    rw[Nat.zero_add,Int.toNat_natCast,K3,RL _ _ _ _ (iU a b) hw]
   (conv=>whnf);refine b4 (by rw[hlen];exact Nat.beq_refl _) ?_
   (conv=>whnf);refine And.intro ⟨by omega,by omega⟩ ?_
   (conv=>whnf);refine b4 (by rw[hlen];exact Nat.beq_refl _) ?_
   conv=>whnf
   refine b8 hidx ?_
   (conv=>whnf);refine aE (fun g=>?_) (fun g=>?_)
   ·(conv=>whnf);refine b4 (by rw[hlen];exact Nat.beq_refl _) ?_
    (conv=>whnf);refine And.intro ⟨by omega,by omega⟩ ?_
    (conv=>whnf);refine b4 (by rw[hlen];exact Nat.beq_refl _) ?_
    conv=>whnf
    refine b8 hidx ?_
    conv=>whnf
    refine⟨m-1,by omega,Gp.keep rfl ?_ fun ρ1 h=>⟨k+1,by omega,?_,h⟩⟩
    ·exact⟨rfl,rfl,aN ew,trivial⟩
    ·rw[←fin true (by rw[g];rfl)];rfl
   ·(conv=>whnf);refine And.intro (by omega) ?_
    (conv=>whnf);refine b8 (iI hy) ?_
    (conv=>whnf);refine b4 (by rw[hlen];exact Nat.beq_refl _) ?_
    (conv=>whnf);refine And.intro ⟨by omega,by omega⟩ ?_
    (conv=>whnf);refine b4 (by rw[hlen];exact Nat.beq_refl _) ?_
    conv=>whnf
    refine b8 hidx ?_
    conv=>whnf
    refine⟨m-1,by omega,Gp.keep rfl ?_ fun ρ1 h=>⟨k+1,by omega,?_,h⟩⟩
    ·exact⟨rfl,rfl,aN ew,trivial⟩
    ·rw[←fin y.nul (by rw[g];rfl)];rfl
  ·replace hlt2:decide ((k:Int)<((cC b).length:Int))=false:=hlt2
   simp[aX]at hlt2
   conv=>whnf
   refine⟨rfl,?_⟩
   rw[J0 a b k (by omega)]
 ·replace hlt:decide ((k:Int)<(a.length:Int))=false:=hlt
  simp at hlt
  conv=>whnf
  refine⟨rfl,?_⟩
  rw[J0 a b k (by omega)]
theorem zP(e1 e2:Bool)(a b:List c8)(hl:a.length≤1000000)(hl2:b.length≤1000000)(H:List aB):
  a7 pr 280 [.list e1 3 (cC a),.list e2 3 (cC b)] H (fun r H'=>r=.list false 3 (cC (nG a b))∧H'=H) :=
 a7.frz1 (by simp[a6.closed,a6.isPure]) (CC e1 e2 a b hl hl2) (by rw[aX,iU]) (cG _)
end Go.AW
namespace Go.AW
variable [dK]
def a6.low(n:Nat):a6→Bool
 |.ptr id _ _ _=>Nat.blt id n
 |.sl id _ _ _=>Nat.blt id n
 |v=>v.closed
def a6.lowC(n:Nat):a6→Bool
 |.ptr id _ _ _=>Nat.blt id n
 |.sl id _ _ _=>Nat.blt id n
 |v=>v.isPure
def aB.lowO(n:Nat):aB→Prop
 |.arr _ es=>(es.all fun e=>e.all (a6.lowC n))=true
 |_=>False
def HO(n:Nat):List aB→Prop
 |[]=>True
 |o::r=>o.lowO n∧HO n r
theorem HO.get{n:Nat}:∀{H:List aB},HO n H→∀o∈H,o.lowO n
 |[],_,o,ho=>by cases ho
 |x::H,h,o,ho=>by
  rcases List.mem_cons.1 ho with rfl|ho
  ·exact h.1
  ·exact HO.get h.2 o ho
theorem CB{H:List aB}{n:Nat}{v:a6}(h:v.lowC n=true):dV H 0 (List.range n) v v∧v.isCell=true:=by
 have get:∀{i:Nat},i<n→(List.range n)[i]?=some i:=fun{i} hi=>by rw[List.getElem?_range hi]
 cases v with
 |ptr id ep idx fld =>
  have hid:id<n:=by have:=h;simp[a6.lowC,Nat.blt]at this;omega
  have:=dV.keepP (H1:=H) (n:=0) (ids:=List.range n) id ep idx fld id (get hid)
  rw[Nat.zero_add]at this
  exact⟨this,rfl⟩
 |sl id ep off len =>
  have hid:id<n:=by have:=h;simp[a6.lowC,Nat.blt]at this;omega
  have:=dV.keep (H1:=H) (n:=0) (ids:=List.range n) id ep off len id (get hid)
  rw[Nat.zero_add]at this
  exact⟨this,rfl⟩
 |_=>first
  |exact⟨.closed _ h,rfl⟩
  |cases h
theorem U8{H:List aB}{n:Nat}{v:a6}(h:v.low n=true):dV H 0 (List.range n) v v:=by
 cases v with
 |ptr id ep idx fld=>exact(CB (v:=.ptr id ep idx fld) h).1
 |sl id ep off len=>exact(CB (v:=.sl id ep off len) h).1
 |_=>exact .closed _ h
theorem W8{H:List aB}{n:Nat}{o:aB}(h:o.lowO n):zY H (List.range n) o o:=by
 cases o with
 |arr esz es =>
  have hc:∀(i j:Nat) (e:List a6) (d:a6),es[i]?=some e→e[j]?=some d→d.lowC n=true:=fun i j e d he hd =>
   List.all_eq_true.1 (List.all_eq_true.1 h e (List.mem_of_getElem? he)) d (List.mem_of_getElem? hd)
  refine .map esz es es rfl (fun i e e1 h1 h2=>by rw[h1]at h2;cases h2;rfl) fun i j e e1 d d1 h1 h2 h3 h4=>?_
  rw[h1]at h2;cases h2
  rw[h3]at h4;cases h4
  exact CB (hc i j e d h1 h3)
 |_=>exact h.elim
def M1(n:Nat):List (Nat×a6)→Bool
 |[]=>true
 |p::r=>p.2.low n&&M1 n r
theorem lK.of{H:List aB}{n:Nat}{ρ:List a6}:∀{live:List (Nat×a6)},vF ρ live→M1 n live=true→lK H (List.range n) ρ live
 |[],_,_=>trivial
 |(j,v)::r,h,hl=>by
  simp only[M1,Bool.and_eq_true]at hl
  refine⟨?_,lK.of h.2 hl.2⟩
  rw[h.1]
  exact U8 hl.1
theorem xE{H G:List aB}(hp:HO H.length H):∀(k:Nat),k≤H.length→TT (H++G) (List.range H.length) (List.range' k (H.length-k)) (H.drop k):=by
 intro k hk
 obtain⟨j,hj⟩:∃j,j=H.length-k:=⟨_,rfl⟩
 induction j generalizing k with
 |zero =>
  rw[show H.length-k=0 from hj.symm,List.drop_eq_nil_of_le (by omega)]
  trivial
 |succ j ih =>
  have hlt:k<H.length:=by omega
  rw[show H.length-k=(H.length-(k+1))+1 from by omega,List.range'_succ,List.drop_eq_getElem_cons hlt]
  refine⟨⟨H[k],?_,W8 (hp.get _ (List.getElem_mem _))⟩,ih (k+1) (by omega) (by omega)⟩
  rw[List.getElem?_append_left hlt,List.getElem?_eq_getElem hlt]
theorem Gp.cut{n:Nat}{live:List (Nat×a6)}{ρ:List a6}{H H' G:List aB}{I:List a6→List aB→Prop}(hH:H'=H++G)(hp:HO H.length H)(hl:ρ.length=n)(hlow:M1 H.length live=true)(h:vF ρ live)
  (hI:∀ρ1,Sv n live ρ1→I ρ1 H):Gp [] ρ H' I:=by
 subst hH
 refine Gp.keepL (List.range H.length) List.nodup_range (fun k n h=>by simp at h) (H1:=H) ?_ hl (lK.of h hlow) hI
 have:=xE (G:=G) hp 0 (Nat.zero_le _)
 rw[List.drop_zero,Nat.sub_zero]at this
 rw[List.range_eq_range']
 rwa [List.range_eq_range']at this
theorem aK{c:Prop}[Decidable c]{p q:Prop}(ht:c→p)(hf:¬c→q): @Bool.rec (fun _=>Prop) q p (decide c):=by
 by_cases h:c
 ·rw[decide_eq_true h];exact ht h
 ·rw[decide_eq_false h];exact hf h
theorem aL{a b:Int}{p q:Prop}(ht:a=b→p)(hf:a≠b→q): @Bool.rec (fun _=>Prop) q p (a==b):=by
 by_cases h:a=b
 ·rw[beq_iff_eq.2 h];exact ht h
 ·rw[beq_eq_false_iff_ne.2 h];exact hf h
theorem aM{a b:Int}{p q:Prop}(ht:a≠b→p)(hf:a=b→q): @Bool.rec (fun _=>Prop) q p (a != b):=by
 by_cases h:a=b
 ·rw[bne_eq_false_iff_eq.2 h];exact hf h
 ·rw[bne_iff_ne.2 h];exact ht h
theorem aF{b:Bool}{p q:Prop}(ht:b=false→p)(hf:b=true→q): @Bool.rec (fun _=>Prop) q p (!b):=by
 cases b
 ·exact ht rfl
 ·exact hf rfl
theorem iQ{α:Type}{f:α→List a6}{l:List α}{i:Nat}{q:Prop}{k:List a6→Prop}(hi:i<l.length)(h:∀x,l[i]?=some x→x∈l→k (f x)): @Option.rec (List a6) (fun _=>Prop) q (fun e=>k e) (l.map f)[i]?:=by
 have h1:(l.map f)[i]?=some (f l[i]):=by rw[List.getElem?_map,List.getElem?_eq_getElem hi];rfl
 exact b8 h1 (h l[i] (List.getElem?_eq_getElem hi) (List.getElem_mem hi))
theorem VW{α:Type}{f:α→List a6}{l:List α}{i:Nat}{x:α}(h:l[i]?=some x):(l.map f)[i]?=some (f x):=by rw[List.getElem?_map,h];rfl
theorem aI{a b:Prop}(h:b)(q:a := by first|exact rfl|omega|(simp<;>omega)|(simp[aQ]<;>omega)):a∧b:=⟨q,h⟩
theorem oA{α:Type}{f:α→List a6}{l:List α}{i:Nat}{q:Prop}{k:List a6→Prop}{x:α}(h:k (f x))(g:l[i]?=some x := by assumption): @Option.rec (List a6) (fun _=>Prop) q (fun e=>k e) (l.map f)[i]?:=b8 (VW g) h
theorem oM{α:Type}{f:α→List a6}{l:List α}{i:Nat}{q:Prop}{k:List a6→Prop}(h:∀x,l[i]?=some x→x∈l→k (f x))(g:i<l.length := by omega): @Option.rec (List a6) (fun _=>Prop) q (fun e=>k e) (l.map f)[i]?:=iQ g h
def mC{α:Type}(f:α→List a6)(l:List α):List (List a6):=l.map f
@[simp] theorem aZ{α:Type}(f:α→List a6)(l:List α):(mC f l).length=l.length:=List.length_map ..
theorem dD{α:Type}(f:α→List a6)(a b:List α):mC f (a++b)=mC f a++mC f b:=List.map_append
theorem oY{α:Type}{f:α→List a6}{l:List α}{k:Nat}{x:α}(h:l[k]?=some x):(mC f l)[k]?=some (f x):=by rw[mC,List.getElem?_map,h];rfl
theorem aV{α:Type}{f:α→List a6}(hf:∀x,(f x).all a6.isPure=true)(l:List α):bG (mC f l)=true:=by
 simp only[bG,mC,List.all_map,List.all_eq_true]
 exact fun x _=>hf x
attribute [simp] aX aP b9 cA iN aR
structure oN where
 op:Int
 v:V
 name:ByteArray
 ar:Int
structure WX where
 name:ByteArray
 fn:Int
 col:ByteArray
 num:Int
 ex:List oN
structure rC where
 op:Int
 src:ByteArray
 names:List ByteArray
 others:List ByteArray
 items:List WX
 cond:List oN
structure Z9 where
 at':Int
 off:Int
structure HU where
 name:ByteArray
 off:Int
 shifts:List Z9
structure yD where
 name:ByteArray
 cols:List c8
 key:List ByteArray
 at':ByteArray
 zone:ByteArray
 late:Int
 reop:Int
structure Y8 where
 name:ByteArray
 params:List ByteArray
 body:List oN
structure vE where
 name:ByteArray
 self:List c8
 query:List rC
 part:ByteArray
 zone:ByteArray
 strat:Int
 owner:ByteArray
 cost:Int
structure KP where
 name:ByteArray
 src:ByteArray
structure zD where
 name:ByteArray
 table:ByteArray
 kind:Int
 cols:List ByteArray
 other:ByteArray
 ocols:List ByteArray
 low:Int
 high:Int
 cond:List oN
 ln:Int
 ld:Int
 mn:Int
 md:Int
 pol:Int
structure qZ where
 zones:List HU
 sources:List yD
 macros:List Y8
 models:List vE
 snaps:List KP
 checks:List zD
def fZ(n:oN):List a6:=[.int .i64 n.op,.int .i64 n.v.kind,.int .i64 n.v.num,.str n.v.str,.str n.name,.int .i64 n.ar]
def nL(l:List oN):a6:=.list false 6 (mC fZ l)
def sL(l:List ByteArray):a6:=.list false 1 (sC l)
def cL(l:List c8):a6:=.list false 3 (cC l)
def FZ(x:WX):List a6:=[.str x.name,.int .i64 x.fn,.str x.col,.int .i64 x.num,nL x.ex]
def cD(s:rC):List a6:=[.int .i64 s.op,.str s.src,sL s.names,sL s.others,.list false 5 (mC FZ s.items),nL s.cond]
def XK(s:Z9):List a6:=[.int .i64 s.at',.int .i64 s.off]
def m5(z:HU):List a6:=[.str z.name,.int .i64 z.off,.list false 2 (mC XK z.shifts)]
def XV(l:List HU):a6:=.list false 3 (mC m5 l)
def D2(s:yD):List a6:=[.str s.name,cL s.cols,sL s.key,.str s.at',.str s.zone,.int .i64 s.late,.int .i64 s.reop]
def XA(m:Y8):List a6:=[.str m.name,sL m.params,nL m.body]
def PC(l:List rC):a6:=.list false 6 (mC cD l)
def gR(m:vE):List a6:=[.str m.name,cL m.self,PC m.query,.str m.part,.str m.zone,.int .i64 m.strat,.str m.owner,.int .i64 m.cost]
def SX(s:KP):List a6:=[.str s.name,.str s.src]
def eM(c:zD):List a6:=[.str c.name,.str c.table,.int .i64 c.kind,sL c.cols,.str c.other,sL c.ocols,.int .i64 c.low,.int .i64 c.high,nL c.cond,.int .i64 c.ln,.int .i64 c.ld,.int .i64 c.mn,.int .i64 c.md,.int .i64 c.pol]
theorem vY(n:oN):(fZ n).all a6.isPure=true:=rfl
theorem KJ(n:rC):(cD n).all a6.isPure=true:=rfl
theorem eE(n:vE):(gR n).all a6.isPure=true:=rfl
theorem I8(n:zD):(eM n).all a6.isPure=true:=rfl
def Fl{α:Type}(p:α→Prop)(l:List α):Prop:=l.length≤100000∧∀x∈l,p x
def bM(s:ByteArray):Prop:=s.size≤100000
def xI(n:oN):Prop:=bM n.name
def WZ(c:c8):Prop:=bM c.name
def X5(x:WX):Prop:=bM x.name∧bM x.col∧Fl xI x.ex
def lZ(s:rC):Prop:=bM s.src∧Fl bM s.names∧Fl bM s.others∧Fl X5 s.items∧Fl xI s.cond
def DS(z:HU):Prop:=bM z.name∧z.shifts.length≤100000
def PW(s:yD):Prop:=bM s.name∧Fl WZ s.cols∧Fl bM s.key∧bM s.at'∧bM s.zone
def YN(m:Y8):Prop:=bM m.name∧Fl bM m.params∧Fl xI m.body
def G3(m:vE):Prop:=bM m.name∧Fl WZ m.self∧Fl lZ m.query∧bM m.part∧bM m.zone∧bM m.owner
def WI(s:KP):Prop:=bM s.name∧bM s.src
def FJ(c:zD):Prop:=bM c.name∧bM c.table∧Fl bM c.cols∧bM c.other∧Fl bM c.ocols∧Fl xI c.cond
structure qZ.F(d:qZ):Prop where
 z:Fl DS d.zones
 s:Fl PW d.sources
 m:Fl YN d.macros
 q:Fl G3 d.models
 n:Fl WI d.snaps
 c:Fl FJ d.checks
attribute [local irreducible] a7 bH oL Gp
def DV(r:a6):Prop:=∃b,r=.bool b
def KT(r:a6):Prop:=∃n:Int,r=.int .i64 n
theorem FX(b:Bool){H:List aB}:∃r,dV H 0 [] (.bool b) r∧DV r:=⟨_,.closed _ rfl,_,rfl⟩
theorem HJ(n:Int){H:List aB}:∃r,dV H 0 [] (.int .i64 n) r∧KT r:=⟨_,.closed _ rfl,_,rfl⟩
def YV:List ByteArray:=[bs [97,110,100],bs [111,114],bs [110,111,116],bs [110,117,108,108],bs [116,114,117,101],bs [102,97,108,115,101],bs [98,121],bs [115,101,108,102]]
def YC:List ByteArray:=[bs [105,102],bs [99,111,97,108,101,115,99,101],bs [105,115,110,117,108,108],bs [108,101,110,103,116,104],bs [100,97,121]]
theorem qJ(s:ByteArray):aC pr 229 [.str s] DV:=by
 refine aH k229.has rfl ?_
 (conv=>whnf);refine bH.of (vB true YV (by decide) s _) ?_
 conv=>whnf
 exact FX _
theorem I1(s:ByteArray):aC pr 289 [.str s] DV:=by
 refine aH k289.has rfl ?_
 (conv=>whnf);refine bH.of (vB true YC (by decide) s _) ?_
 conv=>whnf
 exact FX _
theorem fB(s:ByteArray):aC pr 228 [.str s] DV:=by
 refine aH k228.has rfl ?_
 (conv=>whnf);refine bH.of (eH s _) ?_
 (conv=>whnf);refine aE (fun h=>?_) (fun h=>?_)
 ·(conv=>whnf);refine aC.use (qJ s) (fun r hr=>?_)
  obtain⟨b,rfl⟩:=hr
  conv=>whnf
  exact FX _
 ·conv=>whnf
  exact FX _
theorem i7(s:ByteArray)(hs:bM s):aC pr 178 [.str s] (fun r=>∃b,r=.bool b∧(b=true→mH s=true)):=by
 have hs2:s.size≤1000000:=Nat.le_trans hs (by decide)
 refine aH k178.has rfl ?_
 (conv=>whnf);refine bH.of (kW s hs2 _) ?_
 (conv=>whnf);refine aE (fun h=>?_) (fun h=>?_)
 ·(conv=>whnf);refine aC.use (qJ s) (fun r hr=>?_)
  obtain⟨b,rfl⟩:=hr
  conv=>whnf
  exact⟨_,.closed _ rfl,_,rfl,fun _=>h⟩
 ·conv=>whnf
  exact⟨_,.closed _ rfl,_,rfl,fun h2=>by cases h2⟩
def vH(n:oN):Int:=if n.op=21 then n.ar else if n.op=0∨n.op=1 then 0 else if n.op=2∨n.op=3∨n.op=16∨n.op=19∨n.op=20 then 1 else if n.op=17 then 3 else if 4≤n.op∧n.op≤18 then 2 else -1
set_option maxRecDepth 20000 in
theorem sT(n:oN):aC pr 233 [.agg (fZ n)] (fun r=>r=.int .i64 (vH n)):=by
 suffices h:aC pr 233 [.agg (fZ n)] (fun r=>∃m,r=.int .i64 m∧m=vH n)from h.mono fun r ⟨m,h1,h2⟩=>by rw[h1,h2]
 refine aH k233.has rfl ?_
 repeat'((conv=>whnf);first|refine And.intro (by omega) ?_|refine oA ?_|refine oM fun x hx hm=>?_|((first|apply aK|apply aL|apply aM|apply aF|apply aE)<;>intro h<;>try simp at h))
 any_goals((conv=>whnf);first|exact⟨_,.closed _ rfl,_,rfl,by unfold vH;(repeat' split)<;>omega⟩)
theorem VM{n:oN}(h:n.op≠21):vH n≤3:=by unfold vH;(repeat' split)<;>omega
theorem VL{n:oN}(h:n.op=0∨n.op=1∨n.op=20):0≤vH n∧vH n≤8:=by unfold vH;(repeat' split)<;>omega
set_option maxRecDepth 20000 in
set_option maxHeartbeats 1000000 in
theorem LP(n:oN)(hn:xI n):aC pr 266 [.agg (fZ n)] (fun r=>∃b,r=.bool b∧(b=true→0≤vH n∧vH n≤8)):=by
 refine aH k266.has rfl ?_
 repeat'((conv=>whnf);first|refine bH.of (i4 n.v _) ?_|(refine aC.use (fB _) (fun r hr=>?_);obtain⟨b,rfl⟩:=hr)|(refine aC.use (i7 _ hn) (fun r hr=>?_);obtain⟨b,rfl,hb⟩:=hr)|(refine aC.use (I1 _) (fun r hr=>?_);obtain⟨b2,rfl⟩:=hr)|(refine aC.use (sT n) (fun r hr=>?_);obtain rfl:=hr)|refine And.intro (by omega) ?_|refine oA ?_|refine oM fun x hx hm=>?_|((first|apply aK|apply aL|apply aM|apply aF|apply aE)<;>intro h<;>try simp at h))
 any_goals((conv=>whnf);first|(refine⟨_,.closed _ rfl,_,rfl,fun hb=>?_⟩;first|(cases hb;done)|exact VL (by omega)|(constructor<;>unfold vH at * <;> (repeat' split)<;>omega)|exact⟨by omega,by have:=VM (n:=n) (by omega);omega⟩))
def x8(l:List oN):Int:=l.foldl (fun d n=>d-vH n+1) 0
theorem E4(l:List oN)(n:oN):x8 (l++[n])=x8 l-vH n+1:=by simp[x8]
def WO(e:List oN)(k:Nat):Prop:=∀(j:Nat) (n:oN),j<k→e[j]?=some n→0≤vH n∧vH n≤x8 (e.take j)
theorem WO.succ{e:List oN}{k:Nat}(h:WO e k){n:oN}(hn:e[k]?=some n)(h0:0≤vH n)(h1:vH n≤x8 (e.take k)):WO e (k+1):=by
 intro j n' hj hn'
 by_cases hjk:j=k
 ·subst hjk
  rw[hn]at hn'
  cases hn'
  exact⟨h0,h1⟩
 ·exact h j n' (by omega) hn'
theorem lA{α:Type}{l:List α}{k:Nat}{x:α}(h:l[k]?=some x):l.take (k+1)=l.take k++[x]:=by rw[List.take_add_one,h];rfl
set_option maxRecDepth 20000 in
theorem PD(st:List Int)(D:Nat)(hD:D≤st.length)(hl:st.length≤1000)(a:Int)(h0:0≤a)(h1:a≤D):
  ∃h:Int,a7 pr 267 [.sl 0 st.length 0 D,.int .i64 a] [.arr 1 (iC st)] (fun r H'=>r=.tuple [.int .i64 h,.sl 0 st.length 0 (D-a.toNat)]∧H'=[.arr 1 (iC st)]):=by
 have hw:IntKind.i64.wrap ((D:Int)-a)=(D:Int)-a:=aW _ (by omega) (by omega)
 have hn:=cA st
 have hb:Nat.beq st.length (iC st).length=true:=by rw[hn];exact Nat.beq_refl _
 suffices hs:∃v H1,(∃h:Int,v=.tuple [.int .i64 h,.sl 0 st.length 0 (D-a.toNat)]∧H1=[aB.arr 1 (iC st)])∧a7 pr 267 [.sl 0 st.length 0 D,.int .i64 a] [.arr 1 (iC st)] (fun r H'=>r=v∧H'=H1) by
  obtain⟨v,H1,⟨h,rfl,rfl⟩,hc⟩:=hs
  exact⟨h,hc⟩
 refine d6 k267.has ?_
 (conv=>whnf);refine b4 (hb) ?_
 conv=>whnf
 rw[hw]
 refine⟨fun m ρ H1=>∃(k:Nat) (h:Int),k+m=a.toNat∧H1=[.arr 1 (iC st)]∧Sv 31 [(0,.sl 0 st.length 0 D),(6,.int .i64 h),(7,.int .i64 ((D:Int)-a)),(8,.int .i64 ((D:Int)-a+k))] ρ,a.toNat,[],
  fun i ρ H1=>i=0∧∃h:Int,H1=[.arr 1 (iC st)]∧Sv 31 [(0,.sl 0 st.length 0 D),(6,.int .i64 h),(7,.int .i64 ((D:Int)-a))] ρ,?_,?_,?_⟩
 ·exact⟨0,0,by omega,rfl,Sv.intro rfl ⟨rfl,rfl,rfl,aN (by simp),trivial⟩⟩
 ·rintro m ρ H1 ⟨k,h,hk,rfl,d,rfl⟩
  (conv=>whnf);refine b4 (hb) ?_
  (conv=>whnf);refine aE (fun hlt=>?_) (fun hlt=>?_)
  ·simp at hlt
   (conv=>whnf);refine b4 (hb) ?_
   (conv=>whnf);refine And.intro (by omega) ?_
   (conv=>whnf);refine b4 (hb) ?_
   have hg:(iC st)[0+((D:Int)-a+k).toNat]?=some [.int .i64 (st.getD ((D:Int)-a+k).toNat 0)]:=by
    rw[Nat.zero_add];exact BL (by omega)
   (conv=>whnf);refine b8 (hg) ?_
   conv=>whnf
   refine⟨m-1,by omega,Gp.keep rfl ?_ fun ρ1 hh=>⟨k+1,if st.getD ((D:Int)-a+k).toNat 0>h then st.getD ((D:Int)-a+k).toNat 0 else h,by omega,rfl,hh⟩⟩
   exact⟨rfl,rfl,rfl,aN (by rw[aW _ (by omega) (by omega)];omega),trivial⟩
  ·conv=>whnf
   refine Gp.keep rfl ?_ fun ρ1 hh=>⟨rfl,h,rfl,hh⟩
   exact⟨rfl,rfl,rfl,trivial⟩
 ·rintro i ρ1 H1 ⟨rfl,h,rfl,d,rfl⟩
  (conv=>whnf);refine b4 (hb) ?_
  (conv=>whnf);refine And.intro (by omega) ?_
  conv=>whnf
  exact⟨_,by rw[show((D:Int)-a).toNat-0=D-a.toNat from by omega],rfl⟩
set_option maxRecDepth 20000 in
theorem lJ(x:Bool)(e:List oN)(he:Fl xI e):
  aC pr 232 [.list x 6 (mC fZ e)] (fun r=>∃c:Int,r=.int .i64 c∧(c=0→e.length≤256∧WO e e.length∧x8 e=1)):=by
 obtain⟨hl,hF⟩:=he
 refine aH k232.has rfl ?_
 (conv=>whnf);refine aE (fun h1=>?_) (fun h1=>?_)
 ·conv=>whnf
  exact⟨_,.closed _ rfl,_,rfl,nofun⟩
 simp at h1
 conv=>whnf
 refine⟨fun m ρ H1=>∃(k:Nat) (st:List Int) (D:Nat),k+m=e.length∧(D:Int)=x8 (e.take k)∧D≤st.length∧st.length≤k∧WO e k∧H1=[.arr 1 (iC st)]∧Sv 51 [(0,.list x 6 (mC fZ e)),(3,.sl 0 st.length 0 D),(4,.int .i64 k)] ρ,e.length,[(3,1)],
  fun i ρ H1=>i=0∧∃(st:List Int) (D:Nat),(D:Int)=x8 e∧WO e e.length∧H1=[.arr 1 (iC st)]∧Sv 51 [(3,.sl 0 st.length 0 D)] ρ,?_,?_,?_⟩
 ·exact⟨0,[],0,by omega,rfl,Nat.le_refl _,Nat.le_refl _,fun j n hj=>by omega,rfl,Sv.intro rfl ⟨rfl,rfl,rfl,trivial⟩⟩
 ·rintro m ρ H1 ⟨k,st,D,hk,hD,hDl,hst,hop,rfl,d,rfl⟩
  have hn:=cA st
  have hb:Nat.beq st.length (iC st).length=true:=by rw[hn];exact Nat.beq_refl _
  (conv=>whnf);refine aE (fun hlt=>?_) (fun hlt=>?_)
  ·simp at hlt
   obtain⟨n,hnk,_,hm⟩:=aY (l:=e) (k:=k) (by omega)
   (conv=>whnf);refine And.intro (by omega) ?_
   (conv=>whnf);refine b8 (oY hnk) ?_
   (conv=>whnf);refine aC.use (LP n (hF n hm)) (fun r hr=>?_)
   obtain⟨b,rfl,hfb⟩:=hr
   (conv=>whnf);refine aE (fun hf=>?_) (fun hf=>?_)
   ·conv=>whnf
    exact⟨_,.closed _ rfl,_,rfl,nofun⟩
   simp at hf
   obtain⟨a0,a8⟩:=hfb hf
   (conv=>whnf);refine And.intro (by omega) ?_
   (conv=>whnf);refine b8 (oY hnk) ?_
   (conv=>whnf);refine aC.use (sT n) (fun r hr=>?_)
   obtain rfl:=hr
   (conv=>whnf);refine b4 (hb) ?_
   (conv=>whnf);refine aE (fun ha=>?_) (fun ha=>?_)
   ·conv=>whnf
    exact⟨_,.closed _ rfl,_,rfl,nofun⟩
   simp at ha
   (conv=>whnf);refine And.intro (by omega) ?_
   (conv=>whnf);refine b8 (oY hnk) ?_
   (conv=>whnf);refine aC.use (sT n) (fun r hr=>?_)
   obtain rfl:=hr
   obtain⟨h,hr⟩:=PD st D hDl (by omega) (vH n) a0 ha
   (conv=>whnf);refine bH.of (hr) ?_
   (conv=>whnf);refine aE (fun hh=>?_) (fun hh=>?_)
   ·conv=>whnf
    exact⟨_,.closed _ rfl,_,rfl,nofun⟩
   (conv=>whnf);refine b4 (hb) ?_
   have hdn:x8 (e.take (k+1))=x8 (e.take k)-vH n+1:=by rw[lA hnk,E4]
   obtain⟨r,hrr⟩:∃r,r=D-(vH n).toNat:=⟨_,rfl⟩
   rw[←hrr]
   have hop2:=hop.succ hnk a0 (by omega)
   (conv=>whnf);refine aE (fun hfit=>?_) (fun hfit=>?_)
   ·replace hfit:(Nat.ble (0+r+1) (iC st).length&&true)=true:=hfit
    simp at hfit
    have hcc:(iC st).take (0+r)++[[a6.int .i64 h]]++(iC st).drop (0+r+1)=iC (st.take r++[h]++st.drop (r+1)):=by
     rw[Nat.zero_add];simp[iC,List.map_take,List.map_drop]
    have hll:(st.take r++[h]++st.drop (r+1)).length=st.length:=by simp;omega
    conv=>whnf
    refine⟨m-1,by omega,Gp.keep rfl ?_ fun ρ1 hh=>⟨k+1,st.take r++[h]++st.drop (r+1),r+1,by omega,by omega,by omega,by omega,hop2,?_,hh⟩⟩
    ·exact⟨rfl,by rw[hll];rfl,aN (dX (by omega)),trivial⟩
    ·rw[←hcc];rfl
   ·replace hfit:(Nat.ble (0+r+1) (iC st).length&&true)=false:=hfit
    have hf2:st.length<r+1:=by
     rw[Bool.and_true,Nat.zero_add,hn]at hfit
     exact Nat.lt_of_not_le fun hc=>by rw[(Nat.ble_eq▸hc:Nat.ble (r+1) st.length=true)]at hfit;cases hfit
    (conv=>whnf);refine b4 (hb) ?_
    (conv=>whnf);refine And.intro (⟨by simp[aQ];omega,by simp[aQ];omega,rfl,by rw[hn];omega⟩) ?_
    conv=>whnf
    have hcc:iC st++[[a6.int .i64 h]]=iC (st++[h]):=by simp[iC]
    have hcl:(iC st++[[a6.int .i64 h]]).length=(st++[h]).length:=by rw[hcc,cA]
    have hrd:(st++[h]).length=r+1:=by simp;omega
    refine⟨m-1,by omega,Gp.keep rfl ?_ fun ρ1 hh=>⟨k+1,st++[h],r+1,by omega,by omega,by omega,by omega,hop2,?_,hh⟩⟩
    ·exact⟨rfl,eQ hcl (by rw[hcl,hrd]),aN (dX (by omega)),trivial⟩
    ·rw[←hcc]
  ·simp at hlt
   have hk2:k=e.length:=by omega
   subst hk2
   rw[List.take_length]at hD
   conv=>whnf
   refine Gp.keep rfl ?_ fun ρ1 hh=>⟨rfl,st,D,hD,hop,rfl,hh⟩
   exact⟨rfl,trivial⟩
 ·rintro i ρ1 H1 ⟨rfl,st,D,hD,hop,rfl,d,rfl⟩
  have hn:=cA st
  have hb:Nat.beq st.length (iC st).length=true:=by rw[hn];exact Nat.beq_refl _
  (conv=>whnf);refine b4 (hb) ?_
  (conv=>whnf);refine aE (fun h1=>?_) (fun h1=>?_)
  ·conv=>whnf
   exact⟨_,.closed _ rfl,_,rfl,nofun⟩
  ·simp at h1
   conv=>whnf
   exact⟨_,.closed _ rfl,_,rfl,fun _=>⟨by omega,hop,by omega⟩⟩
def kC(k:Int×Bool):List a6:=[.int .i64 k.1,.bool k.2]
def TF(r:a6):Prop:=∃(k:Int×Bool) (b:Bool),r=.tuple [.agg (kC k),.bool b]
theorem VU{H:List aB}(k:Int)(n b:Bool):∃r,dV H 0 [] (.tuple [.agg [.int .i64 k,.bool n],.bool b]) r∧TF r:=⟨_,dP (.closed _ rfl) (.closed _ rfl),(k,n),b,rfl⟩
theorem rR(x:Int×Bool)(k:Int):aC pr 269 [.agg (kC x),.int .i64 k] DV:=by
 refine aH k269.has rfl ?_
 repeat'((conv=>whnf);first|refine And.intro (by omega) ?_|refine And.intro rfl ?_|refine oA ?_|refine oM fun x hx hm=>?_|((first|apply aK|apply aL|apply aM|apply aF|apply aE)<;>intro h<;>try simp at h))
 any_goals((conv=>whnf);first|exact FX _)
theorem B1(x y:Int×Bool):aC pr 268 [.agg (kC x),.agg (kC y)] (fun r=>∃(k:Int) (b:Bool),r=.tuple [.int .i64 k,.bool b]):=by
 refine aH k268.has rfl ?_
 repeat'((conv=>whnf);first|((first|apply aC.use|apply aC.draw);exact rR _ _;rintro r ⟨b,rfl⟩)|refine And.intro (by omega) ?_|refine And.intro rfl ?_|refine oA ?_|refine oM fun x hx hm=>?_|((first|apply aK|apply aL|apply aM|apply aF|apply aE)<;>intro h<;>try simp at h))
 any_goals((conv=>whnf);first|exact⟨_,dP (.closed _ rfl) (.closed _ rfl),_,_,rfl⟩)
set_option maxRecDepth 20000 in
theorem PZ(op:Int)(x:Int×Bool):aC pr 270 [.int .i64 op,.agg (kC x)] TF:=by
 refine aH k270.has rfl ?_
 repeat'((conv=>whnf);first|((first|apply aC.use|apply aC.draw);exact rR x _;rintro r ⟨b,rfl⟩)|refine And.intro (by omega) ?_|refine And.intro rfl ?_|refine oA ?_|refine oM fun x hx hm=>?_|((first|apply aK|apply aL|apply aM|apply aF|apply aE)<;>intro h<;>try simp at h))
 any_goals((conv=>whnf);first|exact VU _ _ _)
set_option maxRecDepth 20000 in
theorem B3(x y:Int×Bool):aC pr 291 [.agg (kC x),.agg (kC y)] TF:=by
 refine aH k291.has rfl ?_
 repeat'((conv=>whnf);first|((first|apply aC.use|apply aC.draw);exact rR _ _;rintro r ⟨b,rfl⟩)|refine And.intro (by omega) ?_|refine And.intro rfl ?_|refine oA ?_|refine oM fun x hx hm=>?_|((first|apply aK|apply aL|apply aM|apply aF|apply aE)<;>intro h<;>try simp at h))
 any_goals((conv=>whnf);first|exact VU _ _ _)
set_option maxRecDepth 20000 in
set_option maxHeartbeats 1000000 in
theorem L8(op:Int)(x y:Int×Bool):aC pr 271 [.int .i64 op,.agg (kC x),.agg (kC y)] TF:=by
 refine aH k271.has rfl ?_
 repeat'((conv=>whnf);first|((first|apply aC.use|apply aC.draw);exact rR _ _;rintro r ⟨b,rfl⟩)|((first|apply aC.use|apply aC.draw);exact B1 _ _;rintro r ⟨k,b,rfl⟩)|((first|apply aC.use|apply aC.draw);exact B3 x y;rintro r ⟨k,b,rfl⟩)|refine And.intro (by omega) ?_|refine And.intro rfl ?_|refine oA ?_|refine oM fun x hx hm=>?_|((first|apply aK|apply aL|apply aM|apply aF|apply aE)<;>intro h<;>try simp at h))
 any_goals((conv=>whnf);first|exact VU _ _ _)
theorem aC.weak{P:Program}{f:FuncId}{vs:List a6}{S T:a6→Prop}(h:aC P f vs S)(hw:∀r,S r→∃r',gG r r'∧T r'):aC P f vs T:=by
 obtain⟨r,h1,h2⟩:=h
 obtain⟨r',h3,h4⟩:=hw r h1
 exact⟨r',h4,fun H=>a7.weakRD (h2 H) fun r0 H0 ⟨e1,e2⟩=>by subst e1 e2;exact⟨r',h3,rfl,rfl⟩⟩
theorem aC.args{P:Program}{f:FuncId}{vs ws:List a6}{S:a6→Prop}(h:aC P f ws S)(hw:oP vs ws):aC P f vs S:=by
 obtain⟨r,h1,h2⟩:=h
 exact⟨r,h1,fun H=>a7.weakD (h2 H) hw⟩
theorem aC.bor{P:Program}{f:FuncId}{vs ws:List a6}{S:a6→Prop}{H:List aB}{k:a6→List aB→Prop}(h:aC P f ws S)(hs:∀r,S r→r.scalar=true)(hl:AP H vs ws)(hk:∀r,S r→k r H):bH P f vs H k:=by
 obtain⟨r,h1,h2⟩:=h
 exact bH.of (a7.bor (hs r h1) ((h2 []).mono fun _ _ hh=>hh.1) hl) (hk r h1)
theorem zA(n:Int):aC pr 259 [.int .i64 n] DV:=by
 refine aH k259.has rfl ?_
 repeat'((conv=>whnf);first|refine And.intro (by omega) ?_|refine And.intro rfl ?_|refine oA ?_|refine oM fun x hx hm=>?_|((first|apply aK|apply aL|apply aM|apply aF|apply aE)<;>intro h<;>try simp at h))
 any_goals((conv=>whnf);first|exact FX _)
set_option maxRecDepth 20000 in
theorem oI(z:HU)(hz:DS z):aC pr 222 [.agg (m5 z)] KT:=by
 have hz2:=hz.2
 refine aH k222.has rfl ?_
 repeat'((conv=>whnf);first|((first|apply aC.use|apply aC.draw);exact zA _;rintro r ⟨b,rfl⟩)|refine And.intro (by omega) ?_|refine And.intro rfl ?_|refine oA ?_|refine oM fun x hx hm=>?_|((first|apply aK|apply aL|apply aM|apply aF|apply aE)<;>intro h<;>try simp at h))
 any_goals((conv=>whnf);first|exact HJ _)
 conv=>whnf
 refine⟨fun m ρ H1=>∃k:Nat,k+m=(z.shifts).length∧H1=[.arr 3 [m5 z]]∧Sv 53 [(1,.ptr 0 1 0 0),(3,.int .i64 k)] ρ,(z.shifts).length,[],fun i ρ H1=>i=0∧H1=[.arr 3 [m5 z]]∧Sv 53 [(1,.ptr 0 1 0 0)] ρ,?_,?_,?_⟩
 ·exact⟨0,Nat.zero_add _,rfl,Sv.intro rfl ⟨rfl,rfl,trivial⟩⟩
 ·rintro m ρ H1 ⟨k,hk,rfl,d,rfl⟩
  have hw:0<k→IntKind.i64.wrap ((k:Int)-1)=(k:Int)-1:=fun _=>aW _ (by omega) (by omega)
  repeat'((conv=>whnf);first|((first|apply aC.use|apply aC.draw);exact zA _;rintro r ⟨b,rfl⟩)|refine And.intro (by omega) ?_|refine And.intro rfl ?_|refine oA ?_|refine oM fun x hx hm=>?_|((first|apply aK|apply aL|apply aM|apply aF|apply aE)<;>intro h<;>try simp at h))
  any_goals((conv=>whnf);first|exact HJ _|(refine⟨m-1,by omega,Gp.cut (H:=[.arr 3 [m5 z]]) rfl ⟨rfl,trivial⟩ rfl rfl ?_ fun ρ1 h=>⟨k+1,by omega,rfl,h⟩⟩;exact⟨rfl,aN (dX (by omega)),trivial⟩)|(refine Gp.cut (H:=[.arr 3 [m5 z]]) rfl ⟨rfl,trivial⟩ rfl rfl ?_ fun ρ1 h=>⟨rfl,rfl,h⟩;exact⟨rfl,trivial⟩))
 ·rintro i ρ1 H1 ⟨rfl,rfl,d,rfl⟩
  conv=>whnf
  exact HJ _
set_option maxRecDepth 20000 in
theorem wR(x:Bool)(zs:List HU)(hl:zs.length≤100000)(nm:ByteArray):
  aC pr 183 [.list x 3 (mC m5 zs),.str nm] (fun r=>∃(z:HU) (b:Bool),r=.tuple [.agg (m5 z),.bool b]∧(b=true→z∈zs)):=by
 refine aC.weak (S:=fun r=>∃(z:HU) (b:Bool) (c:a6),r=.tuple [.agg [.str z.name,.int .i64 z.off,c],.bool b]∧gG c (.list false 2 (mC XK z.shifts))∧(b=true→z∈zs)) ?_ (by
  rintro r ⟨z,b,c,rfl,hc,hb⟩
  exact⟨_,.tuples (.cons (.aggs (.cons (.refl _) (.cons (.refl _) (.cons hc .nil)))) (.cons (.refl _) .nil)),z,b,rfl,hb⟩)
 refine aH k183.has rfl ?_
 conv=>whnf
 refine⟨fun m ρ H1=>∃k:Nat,k+m=(zs).length∧H1=[.arr 3 [[.str (bs []),.int .i64 0,.nil]]]∧Sv 25 [(0,.list x 3 (mC m5 zs)),(1,.str nm),(4,.ptr 0 1 0 0),(6,.int .i64 k)] ρ,(zs).length,[],fun i ρ H1=>i=0∧H1=[.arr 3 [[.str (bs []),.int .i64 0,.nil]]]∧Sv 25 [(4,.ptr 0 1 0 0)] ρ,?_,?_,?_⟩
 ·exact⟨0,Nat.zero_add _,rfl,Sv.intro rfl ⟨rfl,rfl,rfl,rfl,trivial⟩⟩
 ·rintro m ρ H1 ⟨k,hk,rfl,d,rfl⟩
  repeat'((conv=>whnf);first|refine And.intro (by omega) ?_|refine And.intro rfl ?_|refine oA ?_|refine oM fun x hx hm=>?_|((first|apply aK|apply aL|apply aM|apply aF|apply aE)<;>intro h<;>try simp at h))
  any_goals((conv=>whnf);first|exact⟨_,dP (.closed _ rfl) (.closed _ rfl),_,_,_,rfl,.refl _,fun _=>by assumption⟩|(refine⟨m-1,by omega,Gp.cut (H:=[.arr 3 [[.str (bs []),.int .i64 0,.nil]]]) rfl ⟨rfl,trivial⟩ rfl rfl ?_ fun ρ1 h=>⟨k+1,by omega,rfl,h⟩⟩;exact⟨rfl,rfl,rfl,aN (dX (by omega)),trivial⟩)|(refine Gp.cut (H:=[.arr 3 [[.str (bs []),.int .i64 0,.nil]]]) rfl ⟨rfl,trivial⟩ rfl rfl ?_ fun ρ1 h=>⟨rfl,rfl,h⟩;exact⟨rfl,trivial⟩))
 ·rintro i ρ1 H1 ⟨rfl,rfl,d,rfl⟩
  conv=>whnf
  exact⟨_,dP (.closed _ rfl) (.closed _ rfl),⟨bs [],0,[]⟩,false,.nil,rfl,.nil _ _,nofun⟩
def Y6(r:a6):Prop:=∃(k:Int×Bool) (e:Int),r=.tuple [.agg (kC k),.int .i64 e]
theorem IV{α:Type}(p:α→Bool):∀(l:List α) (i:Int),0≤i→fS p l i<i+l.length
 |[],i,h=>by simp[fS];omega
 |c::cs,i,h=>by
  rw[fS]
  split
  ·simp;omega
  ·have:=IV p cs (i+1) (by omega)
   simp;omega
theorem dB(cs:List c8)(n:ByteArray)(h:0≤eA cs n):(eA cs n).toNat<cs.length:=by
 have:=IV (s4 n) cs 0 (Int.le_refl _)
 unfold eA at h⊢
 omega
set_option maxRecDepth 20000 in
set_option maxHeartbeats 2000000 in
theorem RQ(n:oN)(x:List (Int×Bool))(e1 e2 e3:Bool)(cs:List c8)(zs:List HU)(hx:(x.length:Int)=vH n)(hc:cs.length≤100000)(hz:zs.length≤100000):
  aC pr 234 [.agg (fZ n),.list e1 2 (mC kC x),.list e2 3 (mC gJ cs),.list e3 3 (mC m5 zs)] Y6:=by
 have h17:n.op=17→x.length=3:=fun h=>by unfold vH at hx;simp[h]at hx;omega
 have h20:n.op=20→x.length=1:=fun h=>by unfold vH at hx;simp[h]at hx;omega
 have hde:n.op≠0→n.op≠1→n.op≠21→n.op≠17→x.length=1∨x.length=2:=fun a b c d=>by
  unfold vH at hx
  (repeat' split at hx)<;>omega
 have hci:=dB cs n.name
 refine aH k234.has rfl ?_
 repeat'((conv=>whnf);first|((first|apply aC.use|apply aC.draw);exact aC.of (bB e2 cs (by omega) n.name);rintro r rfl)|((first|apply aC.use|apply aC.draw);exact B1 _ _;rintro r ⟨k,b,rfl⟩)|((first|apply aC.use|apply aC.draw);exact rR _ _;rintro r ⟨b,rfl⟩)|((first|apply aC.use|apply aC.draw);exact wR e3 zs hz _;rintro r ⟨z,b,rfl,hzb⟩)|((first|apply aC.use|apply aC.draw);exact PZ _ _;rintro r ⟨k,b,rfl⟩)|((first|apply aC.use|apply aC.draw);exact L8 _ _ _;rintro r ⟨k,b,rfl⟩)|refine And.intro (by omega) ?_|refine And.intro rfl ?_|refine oA ?_|refine oM fun x hx hm=>?_|((first|apply aK|apply aL|apply aM|apply aF|apply aE)<;>intro h<;>try simp at h))
 any_goals((conv=>whnf);first|exact⟨_,dP (.closed _ rfl) (.closed _ rfl),(_,_),_,rfl⟩)
theorem G1(l:List (Int×Bool)):bG (mC kC l)=true:=aV (fun _=>rfl) l
set_option maxRecDepth 20000 in
set_option maxHeartbeats 2000000 in
theorem D5(e1 e2 e3:Bool)(e:List oN)(cs:List c8)(zs:List HU)(he:Fl xI e)(hc:cs.length≤100000)(hz:Fl DS zs):
  aC pr 185 [.list e1 6 (mC fZ e),.list e2 3 (mC gJ cs),.list e3 3 (mC m5 zs)] (fun r=>∃(k:Int) (b:Bool) (c:Int),r=.tuple [.int .i64 k,.bool b,.int .i64 c]):=by
 have fin:∀{H1:List aB}(k:Int) (b:Bool) (c:Int),∃r,dV H1 0 [] (.tuple [.int .i64 k,.bool b,.int .i64 c]) r∧∃(k:Int) (b:Bool) (c:Int),r=.tuple [.int .i64 k,.bool b,.int .i64 c] :=
  fun k b c=>⟨_,S8 (.closed _ rfl) (.closed _ rfl) (.closed _ rfl),k,b,c,rfl⟩
 refine aH k185.has rfl ?_
 (conv=>whnf);refine aC.use (lJ e1 e he) (fun r hr=>?_)
 obtain⟨c,rfl,hv⟩:=hr
 (conv=>whnf);refine aE (fun h0=>?_) (fun h0=>?_)
 ·conv=>whnf
  exact fin _ _ _
 simp at h0
 obtain⟨hel,hop,hdep⟩:=hv h0
 repeat'((conv=>whnf);first|((first|apply aC.use|apply aC.draw);exact aC.of (dM e2 cs (by omega));rintro r rfl)|refine And.intro (by omega) ?_|refine And.intro rfl ?_|refine oA ?_|refine oM fun x hx hm=>?_|((first|apply aK|apply aL|apply aM|apply aF|apply aE)<;>intro h<;>try simp at h))
 any_goals((conv=>whnf);first|exact fin _ _ _)
 conv=>whnf
 refine⟨fun m ρ H1=>∃k:Nat,k+m=(zs).length∧H1=[]∧Sv 87 [(0,.list e1 6 (mC fZ e)),(1,.list e2 3 (mC gJ cs)),(2,.list e3 3 (mC m5 zs)),(11,.int .i64 k)] ρ,(zs).length,[],fun i ρ H1=>i=0∧H1=[]∧Sv 87 [(0,.list e1 6 (mC fZ e)),(1,.list e2 3 (mC gJ cs)),(2,.list e3 3 (mC m5 zs))] ρ,?_,?_,?_⟩
 ·exact⟨0,Nat.zero_add _,rfl,Sv.intro rfl ⟨rfl,rfl,rfl,rfl,trivial⟩⟩
 ·rintro m ρ H1 ⟨k,hk,rfl,d,rfl⟩
  have hzl:=hz.1
  repeat'((conv=>whnf);first|((first|apply aC.use|apply aC.draw);exact oI _ (hz.2 _ (by assumption));rintro r ⟨c,rfl⟩)|refine And.intro (by omega) ?_|refine And.intro rfl ?_|refine oA ?_|refine oM fun x hx hm=>?_|((first|apply aK|apply aL|apply aM|apply aF|apply aE)<;>intro h<;>try simp at h))
  any_goals((conv=>whnf);first|exact fin _ _ _|(refine⟨m-1,by omega,Gp.cut (H:=[]) rfl trivial rfl rfl ?_ fun ρ1 h=>⟨k+1,by omega,rfl,h⟩⟩;exact⟨rfl,rfl,rfl,aN (dX (by omega)),trivial⟩)|(refine Gp.cut (H:=[]) rfl trivial rfl rfl ?_ fun ρ1 h=>⟨rfl,rfl,h⟩;exact⟨rfl,rfl,rfl,trivial⟩))
 ·rintro i ρ1 H1 ⟨rfl,rfl,d,rfl⟩
  conv=>whnf
  refine⟨fun m ρ H1=>∃(k:Nat) (st:List (Int×Bool)),k+m=e.length∧(st.length:Int)=x8 (e.take k)∧st.length≤k∧H1=[.arr 2 (mC kC st)]∧Sv 87 [(0,.list e1 6 (mC fZ e)),(1,.list e2 3 (mC gJ cs)),(2,.list e3 3 (mC m5 zs)),(13,.sl 0 st.length 0 st.length),(14,.int .i64 k)] ρ,e.length,[(13,2)],
   fun i ρ H1=>i=2∧∃st:List (Int×Bool),st.length=1∧H1=[.arr 2 (mC kC st)]∧Sv 87 [(13,.sl 0 st.length 0 st.length)] ρ,?_,?_,?_⟩
  ·exact⟨0,[],by omega,rfl,Nat.le_refl _,rfl,Sv.intro rfl ⟨rfl,rfl,rfl,rfl,rfl,trivial⟩⟩
  ·rintro m ρ H1 ⟨k,st,hk,hD,hst,rfl,d,rfl⟩
   have hb:Nat.beq st.length (mC kC st).length=true:=by rw[aZ];exact Nat.beq_refl _
   (conv=>whnf);refine aE (fun hlt=>?_) (fun hlt=>?_)
   ·simp at hlt
    obtain⟨n,hnk,_,hm⟩:=aY (l:=e) (k:=k) (by omega)
    obtain⟨a0,a1⟩:=hop k n (by omega) hnk
    have ha:vH n≤st.length:=by omega
    (conv=>whnf);refine b4 (hb) ?_
    (conv=>whnf);refine And.intro (by omega) ?_
    (conv=>whnf);refine b8 (oY hnk) ?_
    (conv=>whnf);refine aC.use (sT n) (fun r hr=>?_)
    obtain rfl:=hr
    obtain⟨r,hr⟩:∃r,r=(st.length:Int)-vH n:=⟨_,rfl⟩
    have hw:IntKind.i64.wrap ((st.length:Int)-vH n)=r:=by rw[hr];exact aW _ (by omega) (by omega)
    conv=>whnf
    rw[hw]
    (conv=>whnf);refine And.intro (by omega) ?_
    (conv=>whnf);refine b8 (oY hnk) ?_
    (conv=>whnf);refine b4 (hb) ?_
    (conv=>whnf);refine And.intro (by omega) ?_
    have hdl:((st.drop r.toNat).length:Int)=vH n:=by rw[List.length_drop];omega
    have hL:∀H:List aB,H[0]?=some (.arr 2 (mC kC st))→vD H (.sl 0 st.length (0+r.toNat) (st.length-r.toNat)) (.list false 2 (mC kC (st.drop r.toNat))):=fun H ho=>by
     have:=vD.sl 0 st.length (0+r.toNat) (st.length-r.toNat) 2 (mC kC st) ho (aZ _ _).symm (G1 st)
     rwa [show((mC kC st).drop (0+r.toNat)).take (st.length-r.toNat)=mC kC (st.drop r.toNat)from by rw[Nat.zero_add,mC,←List.map_drop,List.take_of_length_le (by simp)];rfl]at this
    (conv=>whnf);refine aC.bor (RQ n (st.drop r.toNat) false e2 e3 cs zs hdl hc hz.1) (by rintro _ ⟨k,e,rfl⟩;rfl) (.cons (.same _ rfl) (.cons (hL _ rfl) (.cons (.same _ rfl) (.cons (.same _ rfl) .nil)))) (fun q hq=>?_)
    obtain⟨t,c,rfl⟩:=hq
    repeat((conv=>whnf);refine And.intro rfl ?_)
    (conv=>whnf);refine aE (fun hc0=>?_) (fun hc0=>?_)
    ·conv=>whnf
     exact fin _ _ _
    (conv=>whnf);refine b4 (hb) ?_
    (conv=>whnf);refine And.intro (⟨rfl,by omega,by omega⟩) ?_
    have hdn:x8 (e.take (k+1))=x8 (e.take k)-vH n+1:=by rw[lA hnk,E4]
    have hcc:(mC kC st).take r.toNat++[kC t]=mC kC (st.take r.toNat++[t]):=by rw[dD];simp[mC]
    have hll:(st.take r.toNat++[t]).length=r.toNat+1:=by simp;omega
    (conv=>whnf);refine aE (fun hr0=>?_) (fun hr0=>?_)
    ·simp at hr0
     (conv=>whnf);refine b4 (hb) ?_
     (conv=>whnf);refine Or.inr ⟨⟨by omega,by simp,by simp[aQ];omega,by simp[aQ];omega⟩,?_⟩
     repeat((conv=>whnf);refine And.intro rfl ?_)
     conv=>whnf
     refine⟨m-1,by omega,Gp.one 2 2 (mC kC (st.take r.toNat++[t])) ?_ (G1 _) rfl ?_ fun ρ1 h=>⟨k+1,st.take r.toNat++[t],by omega,by omega,by omega,rfl,h⟩⟩
     ·rw[←hcc];rfl
     ·refine⟨.closed _ rfl,.closed _ rfl,.closed _ rfl,?_,n8 (dX (by omega)),trivial⟩
      exact kI (k:=0) rfl rfl (by rw[←aZ kC,←hcc];rfl) (by rw[←aZ kC,←hcc];rfl)
    ·simp at hr0
     have hz0:r.toNat=0:=by omega
     rw[hz0]at hcc hll
     (conv=>whnf);refine And.intro (⟨by simp[aQ],by simp[aQ],.inr rfl⟩) ?_
     repeat((conv=>whnf);refine And.intro rfl ?_)
     conv=>whnf
     refine⟨m-1,by omega,Gp.one 2 2 (mC kC (st.take 0++[t])) rfl (G1 _) rfl ?_ fun ρ1 h=>⟨k+1,st.take 0++[t],by omega,by omega,by omega,rfl,h⟩⟩
     refine⟨.closed _ rfl,.closed _ rfl,.closed _ rfl,?_,n8 (dX (by omega)),trivial⟩
     exact kI (k:=0) rfl rfl rfl rfl
   ·simp at hlt
    have hk2:k=e.length:=by omega
    subst hk2
    rw[List.take_length]at hD
    conv=>whnf
    refine Gp.keep rfl ?_ fun ρ1 h=>⟨rfl,st,by omega,rfl,h⟩
    exact⟨rfl,trivial⟩
  ·rintro i ρ1 H1 ⟨rfl,st,hs1,rfl,d,rfl⟩
   have hb:Nat.beq st.length (mC kC st).length=true:=by rw[aZ];exact Nat.beq_refl _
   obtain⟨t,rfl⟩:=List.length_eq_one_iff.1 hs1
   (conv=>whnf);refine And.intro (by simp) ?_
   (conv=>whnf);refine And.intro (by simp) ?_
   conv=>whnf
   exact fin _ _ _
theorem gG.lst{x:Bool}{sz:Nat}{es fs:List (List a6)}(h:es=fs)(hp:bG fs=true):gG (.list x sz es) (.list false sz fs):=by
 subst h
 refine .list x false sz es es (fun h=>by cases h) rfl (fun i e f h1 h2=>by rw[h1]at h2;cases h2;rfl) (fun i j f c hf hc=>?_) (fun i j e f d c h1 h2 h3 h4=>by rw[h1]at h2;cases h2;rw[h3]at h4;cases h4;exact .refl _)
 have:=gX hp hf hc
 cases c<;>simp_all [a6.isPure,a6.isCell]
def KS(p:Prop)(r:a6):Prop:=∃e:Int,r=.int .i64 e∧(e=0→p)
theorem RF{p:Prop}(e:Int)(h:e=0→p){H:List aB}:∃r,dV H 0 [] (.int .i64 e) r∧KS p r:=⟨_,.closed _ rfl,_,rfl,h⟩
theorem wS{p:Prop}(e:Int)(h:e≠0){H:List aB}:∃r,dV H 0 [] (.int .i64 e) r∧KS p r:=⟨_,.closed _ rfl,_,rfl,fun h0=>absurd h0 h⟩
theorem gD(x:Bool)(l:List ByteArray)(hl:l.length≤100000)(s:ByteArray):aC pr 137 [.list x 1 (sC l),.str s] (fun r=>∃b,r=.bool b∧(b=true↔∃t∈l,ON s t=true)) :=
 (aC.of (vB x l (by omega) s)).mono fun r hr=>⟨_,hr,by rw[List.any_eq_true]⟩
set_option maxRecDepth 20000 in
theorem l8(x:Bool)(l:List ByteArray)(hl:l.length≤100000)(n:Int):
  aC pr 274 [.list x 1 (sC l),.int .i64 n] (KS (n≤l.length∧l.length≤12)):=by
 refine aH k274.has rfl ?_
 repeat'((conv=>whnf);first|refine And.intro (by first|omega|(simp<;>omega)) ?_|refine And.intro rfl ?_|refine oA ?_|refine oM fun x hx hm=>?_|((first|apply aK|apply aL|apply aM|apply aF|apply aE)<;>intro h<;>(try simp at h)))
 any_goals((conv=>whnf);first|exact wS _ (by decide))
 conv=>whnf
 refine⟨fun m ρ H1=>∃k:Nat,k+m=(l).length∧H1=[]∧Sv 35 [(0,.list x 1 (sC l)),(5,.int .i64 k)] ρ,(l).length,[],fun i ρ H1=>i=0∧H1=[]∧Sv 35 [(0,.list x 1 (sC l))] ρ,?_,?_,?_⟩
 ·exact⟨0,Nat.zero_add _,rfl,Sv.intro rfl ⟨rfl,rfl,trivial⟩⟩
 ·rintro m ρ H1 ⟨k,hk,rfl,d,rfl⟩
  repeat'((conv=>whnf);first|((first|apply aC.use|apply aC.draw);exact fB _;rintro r ⟨b,rfl⟩)|((first|apply aC.use|apply aC.draw);exact aC.args (gD false (l.take k) (by simp;omega) _) (.cons (gG.lst (by simp[sC,List.map_take]) (aO _)) (.cons (.refl _) .nil));rintro r ⟨b,rfl,hb⟩)|refine And.intro (by first|omega|(simp<;>omega)) ?_|refine And.intro rfl ?_|refine oA ?_|refine oM fun x hx hm=>?_|((first|apply aK|apply aL|apply aM|apply aF|apply aE)<;>intro h<;>(try simp at h)))
  any_goals((conv=>whnf);first|exact wS _ (by decide)|(refine⟨m-1,by omega,Gp.cut (H:=[]) rfl trivial rfl rfl ?_ fun ρ1 h=>⟨k+1,by omega,rfl,h⟩⟩;exact⟨rfl,aN (dX (by omega)),trivial⟩)|(refine Gp.cut (H:=[]) rfl trivial rfl rfl ?_ fun ρ1 h=>⟨rfl,rfl,h⟩;exact⟨rfl,trivial⟩))
 ·rintro i ρ1 H1 ⟨rfl,rfl,d,rfl⟩
  conv=>whnf
  exact RF _ fun _=>⟨by omega,by omega⟩
theorem wI(s:ByteArray)(hs:bM s):aC pr 276 [.str s] KT:=by
 refine aH k276.has rfl ?_
 repeat'((conv=>whnf);first|((first|apply aC.use|apply aC.draw);exact i7 _ hs;rintro r ⟨b,rfl,hb⟩)|refine And.intro (by first|omega|(simp<;>omega)) ?_|refine And.intro rfl ?_|refine oA ?_|refine oM fun x hx hm=>?_|((first|apply aK|apply aL|apply aM|apply aF|apply aE)<;>intro h<;>(try simp at h)))
 any_goals((conv=>whnf);first|exact HJ _)
theorem wO(f:Int):aC pr 235 [.int .i64 f] (fun r=>∃a b c,r=.tuple [.bool a,.bool b,.bool c]):=by
 refine aH k235.has rfl ?_
 repeat'((conv=>whnf);first|refine And.intro (by first|omega|(simp<;>omega)) ?_|refine And.intro rfl ?_|refine oA ?_|refine oM fun x hx hm=>?_|((first|apply aK|apply aL|apply aM|apply aF|apply aE)<;>intro h<;>(try simp at h)))
 any_goals((conv=>whnf);first|exact⟨_,S8 (.closed _ rfl) (.closed _ rfl) (.closed _ rfl),_,_,_,rfl⟩)
set_option maxRecDepth 20000 in
set_option maxHeartbeats 4000000 in
theorem H9(s:rC):aC pr 272 [.agg (cD s)] DV:=by
 refine aH k272.has rfl ?_
 repeat'((conv=>whnf);first|refine And.intro (by first|omega|(simp<;>omega)) ?_|refine And.intro rfl ?_|refine oA ?_|refine oM fun x hx hm=>?_|((first|apply aK|apply aL|apply aM|apply aF|apply aE)<;>intro h<;>(try simp at h)<;>(try(exfalso;omega))))
 any_goals((conv=>whnf);first|exact FX _)
set_option maxRecDepth 20000 in
set_option maxHeartbeats 1000000 in
theorem pV(x:Bool)(l:List WX)(hl:l.length≤100000)(i:Nat)(hi:i<l.length)(a b c e:Bool):
  aC pr 292 [.list x 5 (mC FZ l),.int .i64 i,.bool a,.bool b,.bool c,.bool e] KT:=by
 refine aH k292.has rfl ?_
 (conv=>whnf);refine And.intro (by omega) ?_
 obtain⟨y,hy,_⟩:=aY (l:=l) (k:=i) hi
 (conv=>whnf);refine b8 (oY hy) ?_
 repeat'((conv=>whnf);first|((first|apply aC.use|apply aC.draw);exact fB _;rintro r ⟨b,rfl⟩)|refine And.intro (by first|omega|(simp<;>omega)) ?_|refine And.intro rfl ?_|refine oA ?_|refine oM fun x hx hm=>?_|((first|apply aK|apply aL|apply aM|apply aF|apply aE)<;>intro h<;>(try simp at h)))
 any_goals((conv=>whnf);first|exact HJ _)
 all_goals
  conv=>whnf
  refine⟨fun m ρ H1=>∃k:Nat,k+m=i∧H1=[.arr 5 [FZ y]]∧Sv 71 [(0,.list x 5 (mC FZ l)),(1,.int .i64 i),(13,.ptr 0 1 0 0),(14,.int .i64 k)] ρ,i,[],fun i ρ H1=>i=0∧H1=[.arr 5 [FZ y]]∧Sv 71 [(13,.ptr 0 1 0 0)] ρ,?_,?_,?_⟩
  ·exact⟨0,Nat.zero_add _,rfl,Sv.intro rfl ⟨rfl,rfl,rfl,rfl,trivial⟩⟩
  ·rintro m ρ H1 ⟨k,hk,rfl,d,rfl⟩
   repeat'((conv=>whnf);first|refine And.intro (by first|omega|(simp<;>omega)) ?_|refine And.intro rfl ?_|refine oA ?_|refine oM fun x hx hm=>?_|((first|apply aK|apply aL|apply aM|apply aF|apply aE)<;>intro h<;>(try simp at h)))
   any_goals((conv=>whnf);first|exact HJ _|(refine⟨m-1,by omega,Gp.cut (H:=[.arr 5 [FZ y]]) rfl ⟨rfl,trivial⟩ rfl rfl ?_ fun ρ1 h=>⟨k+1,by omega,rfl,h⟩⟩;exact⟨rfl,rfl,rfl,aN (dX (by omega)),trivial⟩)|(refine Gp.cut (H:=[.arr 5 [FZ y]]) rfl ⟨rfl,trivial⟩ rfl rfl ?_ fun ρ1 h=>⟨rfl,rfl,h⟩;exact⟨rfl,trivial⟩))
  ·rintro i ρ1 H1 ⟨rfl,rfl,d,rfl⟩
   conv=>whnf
   exact HJ _
set_option maxRecDepth 20000 in
set_option maxHeartbeats 1000000 in
theorem FP(s:rC)(hs:lZ s):aC pr 273 [.agg (cD s)] (KS (s.items.length≤12)):=by
 obtain⟨_,_,_,hi,_⟩:=hs
 have hil:=hi.1
 refine aH k273.has rfl ?_
 repeat'((conv=>whnf);first|refine And.intro (by first|omega|(simp<;>omega)) ?_|refine And.intro rfl ?_|refine oA ?_|refine oM fun x hx hm=>?_|((first|apply aK|apply aL|apply aM|apply aF|apply aE)<;>intro h<;>(try simp at h)))
 any_goals((conv=>whnf);first|exact wS _ (by decide))
 conv=>whnf
 refine⟨fun m ρ H1=>∃k:Nat,k+m=(s.items).length∧H1=[.arr 6 [cD s]]∧Sv 40 [(1,.ptr 0 1 0 0),(3,.int .i64 k)] ρ,(s.items).length,[],fun i ρ H1=>i=0∧H1=[.arr 6 [cD s]]∧Sv 40 [(1,.ptr 0 1 0 0)] ρ,?_,?_,?_⟩
 ·exact⟨0,Nat.zero_add _,rfl,Sv.intro rfl ⟨rfl,rfl,trivial⟩⟩
 ·rintro m ρ H1 ⟨k,hk,rfl,d,rfl⟩
  repeat'((conv=>whnf);first|((first|apply aC.use|apply aC.draw);exact pV false s.items hil k (by assumption) _ _ _ _;rintro r ⟨c,rfl⟩)|((first|apply aC.use|apply aC.draw);exact lJ false _ (hi.2 _ (by assumption)).2.2;rintro r ⟨c,rfl,hv⟩)|refine And.intro (by first|omega|(simp<;>omega)) ?_|refine And.intro rfl ?_|refine oA ?_|refine oM fun x hx hm=>?_|((first|apply aK|apply aL|apply aM|apply aF|apply aE)<;>intro h<;>(try simp at h)))
  any_goals((conv=>whnf);first|exact wS _ (by assumption)|(refine⟨m-1,by omega,Gp.cut (H:=[.arr 6 [cD s]]) rfl ⟨rfl,trivial⟩ rfl rfl ?_ fun ρ1 h=>⟨k+1,by omega,rfl,h⟩⟩;exact⟨rfl,aN (dX (by omega)),trivial⟩)|(refine Gp.cut (H:=[.arr 6 [cD s]]) rfl ⟨rfl,trivial⟩ rfl rfl ?_ fun ρ1 h=>⟨rfl,rfl,h⟩;exact⟨rfl,trivial⟩))
 ·rintro i ρ1 H1 ⟨rfl,rfl,d,rfl⟩
  conv=>whnf
  exact RF _ fun _=>by omega
set_option maxRecDepth 20000 in
set_option maxHeartbeats 1000000 in
theorem LY(s:rC)(hs:lZ s):aC pr 275 [.agg (cD s)] (KS (s.names.length=s.others.length∧s.items.length≤12)):=by
 obtain⟨h1,h2,h3,hi,_⟩:=hs
 have hil:=hi.1
 refine aH k275.has rfl ?_
 repeat'((conv=>whnf);first|((first|apply aC.use|apply aC.draw);exact wI _ h1;rintro r ⟨c,rfl⟩)|((first|apply aC.use|apply aC.draw);exact l8 false s.names h2.1 _;rintro r ⟨c,rfl,hc⟩)|((first|apply aC.use|apply aC.draw);exact l8 false s.others h3.1 _;rintro r ⟨c,rfl,hc⟩)|refine And.intro (by first|omega|(simp<;>omega)) ?_|refine And.intro rfl ?_|refine oA ?_|refine oM fun x hx hm=>?_|((first|apply aK|apply aL|apply aM|apply aF|apply aE)<;>intro h<;>(try simp at h)))
 any_goals((conv=>whnf);first|exact wS _ (by assumption)|exact wS _ (by decide))
 conv=>whnf
 refine⟨fun m ρ H1=>∃k:Nat,k+m=(s.items).length∧H1=[.arr 6 [cD s]]∧Sv 59 [(1,.ptr 0 1 0 0),(6,.int .i64 k)] ρ,(s.items).length,[],fun i ρ H1=>i=0∧H1=[.arr 6 [cD s]]∧Sv 59 [(1,.ptr 0 1 0 0)] ρ,?_,?_,?_⟩
 ·exact⟨0,Nat.zero_add _,rfl,Sv.intro rfl ⟨rfl,rfl,trivial⟩⟩
 ·rintro m ρ H1 ⟨k,hk,rfl,d,rfl⟩
  repeat'((conv=>whnf);first|((first|apply aC.use|apply aC.draw);exact pV false s.items hil k (by assumption) _ _ _ _;rintro r ⟨c,rfl⟩)|((first|apply aC.use|apply aC.draw);exact fB _;rintro r ⟨b,rfl⟩)|refine And.intro (by first|omega|(simp<;>omega)) ?_|refine And.intro rfl ?_|refine oA ?_|refine oM fun x hx hm=>?_|((first|apply aK|apply aL|apply aM|apply aF|apply aE)<;>intro h<;>(try simp at h)))
  any_goals((conv=>whnf);first|exact wS _ (by assumption)|exact wS _ (by decide)|(refine⟨m-1,by omega,Gp.cut (H:=[.arr 6 [cD s]]) rfl ⟨rfl,trivial⟩ rfl rfl ?_ fun ρ1 h=>⟨k+1,by omega,rfl,h⟩⟩;exact⟨rfl,aN (dX (by omega)),trivial⟩)|(refine Gp.cut (H:=[.arr 6 [cD s]]) rfl ⟨rfl,trivial⟩ rfl rfl ?_ fun ρ1 h=>⟨rfl,rfl,h⟩;exact⟨rfl,trivial⟩))
 ·rintro i ρ1 H1 ⟨rfl,rfl,d,rfl⟩
  conv=>whnf
  exact RF _ fun _=>by omega
set_option maxRecDepth 20000 in
set_option maxHeartbeats 1000000 in
theorem IP(s:rC)(hs:lZ s):aC pr 277 [.agg (cD s)] (KS (1≤s.names.length+s.items.length∧s.items.length≤12)):=by
 obtain⟨h1,h2,h3,hi,_⟩:=hs
 have hil:=hi.1
 have hnl:=h2.1
 have hw:IntKind.i64.wrap ((s.items.length:Int)+s.names.length)=(s.items.length:Int)+s.names.length:=aW _ (by omega) (by omega)
 refine aH k277.has rfl ?_
 repeat'((conv=>whnf);first|((first|apply aC.use|apply aC.draw);exact l8 false s.names h2.1 _;rintro r ⟨c,rfl,hc⟩)|refine And.intro (by first|omega|(simp<;>omega)) ?_|refine And.intro rfl ?_|refine oA ?_|refine oM fun x hx hm=>?_|((first|apply aK|apply aL|apply aM|apply aF|apply aE)<;>intro h<;>(try simp at h)))
 any_goals((conv=>whnf);first|exact wS _ (by assumption)|exact wS _ (by decide))
 conv=>whnf
 refine⟨fun m ρ H1=>∃k:Nat,k+m=(s.items).length∧H1=[.arr 6 [cD s]]∧Sv 78 [(1,.ptr 0 1 0 0),(4,.int .i64 k)] ρ,(s.items).length,[],fun i ρ H1=>i=0∧H1=[.arr 6 [cD s]]∧Sv 78 [(1,.ptr 0 1 0 0)] ρ,?_,?_,?_⟩
 ·exact⟨0,Nat.zero_add _,rfl,Sv.intro rfl ⟨rfl,rfl,trivial⟩⟩
 ·rintro m ρ H1 ⟨k,hk,rfl,d,rfl⟩
  repeat'((conv=>whnf);first|((first|apply aC.use|apply aC.draw);exact pV false s.items hil k (by assumption) _ _ _ _;rintro r ⟨c,rfl⟩)|((first|apply aC.use|apply aC.draw);exact fB _;rintro r ⟨b,rfl⟩)|((first|apply aC.use|apply aC.draw);exact gD false s.names hnl _;rintro r ⟨b,rfl,hb⟩)|refine And.intro (by first|omega|(simp<;>omega)) ?_|refine And.intro rfl ?_|refine oA ?_|refine oM fun x hx hm=>?_|((first|apply aK|apply aL|apply aM|apply aF|apply aE)<;>intro h<;>(try simp at h)<;>(try(exfalso;omega))))
  any_goals((conv=>whnf);first|exact wS _ (by assumption)|exact wS _ (by decide)|(refine⟨m-1,by omega,Gp.cut (H:=[.arr 6 [cD s]]) rfl ⟨rfl,trivial⟩ rfl rfl ?_ fun ρ1 h=>⟨k+1,by omega,rfl,h⟩⟩;exact⟨rfl,aN (dX (by omega)),trivial⟩)|(refine Gp.cut (H:=[.arr 6 [cD s]]) rfl ⟨rfl,trivial⟩ rfl rfl ?_ fun ρ1 h=>⟨rfl,rfl,h⟩;exact⟨rfl,trivial⟩))
 ·rintro i ρ1 H1 ⟨rfl,rfl,d,rfl⟩
  conv=>whnf
  exact RF _ fun _=>by simp at *;omega
set_option maxRecDepth 20000 in
set_option maxHeartbeats 1000000 in
theorem HE(s:rC)(hs:lZ s):aC pr 278 [.agg (cD s)] (KS (s.items.length≤12)):=by
 obtain⟨h1,h2,h3,hi,_⟩:=hs
 have hil:=hi.1
 refine aH k278.has rfl ?_
 repeat'((conv=>whnf);first|((first|apply aC.use|apply aC.draw);exact l8 false s.names h2.1 _;rintro r ⟨c,rfl,hc⟩)|((first|apply aC.use|apply aC.draw);exact l8 false s.others h3.1 _;rintro r ⟨c,rfl,hc⟩)|refine And.intro (by first|omega|(simp<;>omega)) ?_|refine And.intro rfl ?_|refine oA ?_|refine oM fun x hx hm=>?_|((first|apply aK|apply aL|apply aM|apply aF|apply aE)<;>intro h<;>(try simp at h)))
 any_goals((conv=>whnf);first|exact wS _ (by assumption)|exact wS _ (by decide))
 conv=>whnf
 refine⟨fun m ρ H1=>∃k:Nat,k+m=(s.items).length∧H1=[.arr 6 [cD s]]∧Sv 97 [(1,.ptr 0 1 0 0),(5,.int .i64 k)] ρ,(s.items).length,[],fun i ρ H1=>i=0∧H1=[.arr 6 [cD s]]∧Sv 97 [(1,.ptr 0 1 0 0)] ρ,?_,?_,?_⟩
 ·exact⟨0,Nat.zero_add _,rfl,Sv.intro rfl ⟨rfl,rfl,trivial⟩⟩
 ·rintro m ρ H1 ⟨k,hk,rfl,d,rfl⟩
  repeat'((conv=>whnf);first|((first|apply aC.use|apply aC.draw);exact pV false s.items hil k (by assumption) _ _ _ _;rintro r ⟨c,rfl⟩)|((first|apply aC.use|apply aC.draw);exact fB _;rintro r ⟨b,rfl⟩)|((first|apply aC.use|apply aC.draw);exact wO _;rintro r ⟨a,b,c,rfl⟩)|refine And.intro (by first|omega|(simp<;>omega)) ?_|refine And.intro rfl ?_|refine oA ?_|refine oM fun x hx hm=>?_|((first|apply aK|apply aL|apply aM|apply aF|apply aE)<;>intro h<;>(try simp at h)))
  any_goals((conv=>whnf);first|exact wS _ (by assumption)|exact wS _ (by decide)|(refine⟨m-1,by omega,Gp.cut (H:=[.arr 6 [cD s]]) rfl ⟨rfl,trivial⟩ rfl rfl ?_ fun ρ1 h=>⟨k+1,by omega,rfl,h⟩⟩;exact⟨rfl,aN (dX (by omega)),trivial⟩)|(refine Gp.cut (H:=[.arr 6 [cD s]]) rfl ⟨rfl,trivial⟩ rfl rfl ?_ fun ρ1 h=>⟨rfl,rfl,h⟩;exact⟨rfl,trivial⟩))
 ·rintro i ρ1 H1 ⟨rfl,rfl,d,rfl⟩
  conv=>whnf
  exact RF _ fun _=>by omega
def Vs(s:rC):Prop:=0≤s.op∧s.op≤12∧(s.op=0→mH s.src=true)∧(s.op=3→1≤s.names.length∧s.names.length≤12)∧(4≤s.op→s.op≤7→s.names.length=s.others.length)∧(s.op=11→1≤s.names.length+s.items.length)
set_option maxRecDepth 20000 in
set_option maxHeartbeats 1000000 in
theorem F2(s:rC)(hs:lZ s):aC pr 236 [.agg (cD s)] (KS (Vs s)):=by
 have hs':=hs
 obtain⟨h1,h2,h3,hi,hcd⟩:=hs
 refine aH k236.has rfl ?_
 repeat'((conv=>whnf);first|((first|apply aC.use|apply aC.draw);exact H9 s;rintro r ⟨b,rfl⟩)|((first|apply aC.use|apply aC.draw);exact i7 _ h1;rintro r ⟨b,rfl,hb⟩)|((first|apply aC.use|apply aC.draw);exact lJ false _ hcd;rintro r ⟨c,rfl,hv⟩)|((first|apply aC.use|apply aC.draw);exact FP s hs';rintro r ⟨c,rfl,hc⟩)|((first|apply aC.use|apply aC.draw);exact l8 false s.names h2.1 _;rintro r ⟨c,rfl,hc⟩)|((first|apply aC.use|apply aC.draw);exact LY s hs';rintro r ⟨c,rfl,hc⟩)|((first|apply aC.use|apply aC.draw);exact wI _ h1;rintro r ⟨c,rfl⟩)|((first|apply aC.use|apply aC.draw);exact IP s hs';rintro r ⟨c,rfl,hc⟩)|((first|apply aC.use|apply aC.draw);exact HE s hs';rintro r ⟨c,rfl,hc⟩)|refine And.intro (by first|omega|(simp<;>omega)) ?_|refine And.intro rfl ?_|refine oA ?_|refine oM fun x hx hm=>?_|((first|apply aK|apply aL|apply aM|apply aF|apply aE)<;>intro h<;>(try simp at h)<;>(try(exfalso;omega))))
 any_goals((conv=>whnf);first|exact wS _ (by decide)|(refine RF _ fun h0=>⟨by omega,by omega,?_,?_,?_,?_⟩<;>intros<;>first|omega|exact hb (by assumption)))
set_option maxRecDepth 20000 in
theorem sQ(x:Bool)(q:List rC)(hq:Fl lZ q):aC pr 188 [.list x 6 (mC cD q)] (KS (1≤q.length∧q.length≤16∧∀s∈q,Vs s)):=by
 have hql:=hq.1
 refine aH k188.has rfl ?_
 repeat'((conv=>whnf);first|refine And.intro (by first|omega|(simp<;>omega)) ?_|refine And.intro rfl ?_|refine oA ?_|refine oM fun x hx hm=>?_|((first|apply aK|apply aL|apply aM|apply aF|apply aE)<;>intro h<;>(try simp at h)))
 any_goals((conv=>whnf);first|exact wS _ (by decide))
 conv=>whnf
 refine⟨fun m ρ H1=>∃k:Nat,k+m=(q).length∧H1=[]∧(∀s∈q.take k,Vs s)∧Sv 36 [(0,.list x 6 (mC cD q)),(3,.int .i64 k)] ρ,(q).length,[],fun i ρ H1=>i=0∧H1=[]∧(∀s∈q,Vs s)∧Sv 36 [(0,.list x 6 (mC cD q))] ρ,?_,?_,?_⟩
 ·exact⟨0,Nat.zero_add _,rfl,fun s h=>by simp at h,Sv.intro rfl ⟨rfl,rfl,trivial⟩⟩
 ·rintro m ρ H1 ⟨k,hk,rfl,hv,d,rfl⟩
  have nxt:∀{y:rC},q[((k:Int)).toNat]?=some y→Vs y→∀s∈q.take (k+1),Vs s:=fun{y} hy hvy s hsm=>by
   rw[Int.toNat_natCast]at hy
   rw[lA hy]at hsm
   rcases List.mem_append.1 hsm with h|h
   ·exact hv s h
   ·simp at h;subst h;exact hvy
  repeat'((conv=>whnf);first|((first|apply aC.use|apply aC.draw);exact F2 _ (hq.2 _ (by assumption));rintro r ⟨c,rfl,hc⟩)|refine And.intro (by first|omega|(simp<;>omega)) ?_|refine And.intro rfl ?_|refine oA ?_|refine oM fun x hx hm=>?_|((first|apply aK|apply aL|apply aM|apply aF|apply aE)<;>intro h<;>(try simp at h)))
  any_goals((conv=>whnf);first|exact wS _ (by assumption)|exact wS _ (by decide)|(refine⟨m-1,by omega,Gp.cut (H:=[]) rfl trivial rfl rfl ?_ fun ρ1 h=>⟨k+1,by omega,rfl,nxt (by assumption) (hc (by assumption)),h⟩⟩;exact⟨rfl,aN (dX (by omega)),trivial⟩)|(refine Gp.cut (H:=[]) rfl trivial rfl rfl ?_ fun ρ1 h=>⟨rfl,rfl,by rwa [List.take_of_length_le (by omega)]at hv,h⟩;exact⟨rfl,trivial⟩))
 ·rintro i ρ1 H1 ⟨rfl,rfl,hv,d,rfl⟩
  conv=>whnf
  exact RF _ fun _=>⟨by omega,by omega,hv⟩
theorem bV{n sz:Nat}{es:List (List a6)}(h:bG es=true):(aB.arr sz es).lowO n:=by
 show(es.all fun e=>e.all (a6.lowC n))=true
 rw[List.all_eq_true]
 intro e he
 rw[List.all_eq_true]
 intro d hd
 have:=List.all_eq_true.1 (List.all_eq_true.1 h e he) d hd
 cases d<;>simp_all [a6.isPure,a6.lowC]
theorem qR{H:List aB}{id n sz:Nat}{es:List (List a6)}(ho:H[id]?=some (.arr sz es))(hn:n=es.length)(hp:bG es=true):vD H (.sl id n 0 n) (.list false sz es):=by
 have:=vD.sl (H:=H) id n 0 n sz es ho hn hp
 rwa [show(es.drop 0).take n=es from by rw[List.drop_zero,List.take_of_length_le (by omega)]]at this
theorem GL{p:Bool→Prop}:∀r,(∃b,r=a6.bool b∧p b)→r.scalar=true:=by rintro _ ⟨b,rfl,_⟩;rfl
theorem eB(l:List ByteArray)(y:ByteArray):sC l++[[.str y]]=sC (l++[y]):=(jV l [y]).symm
theorem G2{α:Type}(f:α→List a6)(l:List α)(y:α):mC f l++[f y]=mC f (l++[y]):=(dD f l [y]).symm
theorem QZ(l:List c8)(y:c8):cC l++[gJ y]=cC (l++[y]):=(sU l [y]).symm
theorem dE{α:Type}{p:α→Prop}{l:List α}{y:α}(h:∀x∈l,p x)(hy:p y):∀x∈l++[y],p x:=fun x hx=>by
 rcases List.mem_append.1 hx with hx|hx
 ·exact h x hx
 ·simp at hx;subst hx;exact hy
theorem eL{n:Nat}{es:List (List a6)}(h:n=es.length):Nat.beq n es.length=true:=by rw[h];exact Nat.beq_refl _
theorem V3{H:List aB}{n m sz:Nat}{es fs:List (List a6)}(ho:H[0]?=some (.arr sz es))(he:es=fs)(hn:n=fs.length)(hp:bG fs=true):dV H m [] (.sl 0 n 0 n) (.list false sz fs):=by
 subst he;exact qH ho hn hn hp
set_option maxRecDepth 20000 in
set_option maxHeartbeats 1000000 in
theorem PE(x:Bool)(q:List rC)(hq:Fl lZ q):aC pr 227 [.list x 6 (mC cD q)] (fun r=>∃l:List ByteArray,r=sL l∧Fl bM l∧l.length≤q.length):=by
 have hql:=hq.1
 refine aH k227.has rfl ?_
 conv=>whnf
 refine⟨fun m ρ H1=>∃(k:Nat) (l:List ByteArray),k+m=q.length∧l.length≤k∧(∀s∈l,bM s)∧H1=[.arr 1 (sC l)]∧Sv 49 [(0,.list x 6 (mC cD q)),(3,.sl 0 l.length 0 l.length),(4,.int .i64 k)] ρ,q.length,[(3,1)],
  fun i ρ H1=>i=0∧∃l:List ByteArray,l.length≤q.length∧(∀s∈l,bM s)∧H1=[.arr 1 (sC l)]∧Sv 49 [(3,.sl 0 l.length 0 l.length)] ρ,?_,?_,?_⟩
 ·exact⟨0,[],by omega,Nat.le_refl _,(fun s h=>by simp at h),rfl,Sv.intro rfl ⟨rfl,rfl,rfl,trivial⟩⟩
 ·rintro m ρ H1 ⟨k,l,hk,hlk,hls,rfl,d,rfl⟩
  have hll:l.length≤100000:=by omega
  repeat'((conv=>whnf);first|refine b4 (eL (aP l).symm) ?_|(refine aC.bor (gD false l hll _) GL (.cons (qR rfl (aP l).symm (aO l)) (.cons (.same _ rfl) .nil)) (fun r hr=>?_);obtain⟨b,rfl,hb⟩:=hr)|refine And.intro (⟨by simp[aQ];omega,by simp[aQ];omega,rfl,(aP l).symm⟩) ?_|refine And.intro (by first|omega|(simp<;>omega)) ?_|refine And.intro rfl ?_|refine oA ?_|refine oM fun x hx hm=>?_|((first|apply aK|apply aL|apply aM|apply aF|apply aE)<;>intro h<;>(try simp at h)))
  any_goals((conv=>whnf);first|(refine⟨m-1,by omega,Gp.cut (H:=[.arr 1 (sC l)]) rfl ⟨bV (aO l),trivial⟩ rfl rfl ?_ fun ρ1 h=>⟨k+1,l,by omega,by omega,hls,rfl,h⟩⟩;exact⟨rfl,rfl,aN (dX (by omega)),trivial⟩)|(refine⟨m-1,by omega,Gp.cut (H:=[.arr 1 (sC l++[[.str x.src]])]) rfl ⟨bV (by rw[eB];exact aO _),trivial⟩ rfl rfl ?_ fun ρ1 h=>⟨k+1,l++[x.src],by omega,by simp;omega,dE hls (hq.2 x (by assumption)).1,by rw[eB],h⟩⟩;exact⟨rfl,eQ (by simp) (by simp),aN (dX (by omega)),trivial⟩)|(refine Gp.cut (H:=[.arr 1 (sC l)]) rfl ⟨bV (aO l),trivial⟩ rfl rfl ?_ fun ρ1 h=>⟨rfl,l,by omega,hls,rfl,h⟩;exact⟨rfl,trivial⟩))
 ·rintro i ρ1 H1 ⟨rfl,l,hl,hls,rfl,d,rfl⟩
  conv=>whnf
  exact⟨_,V3 rfl rfl (aP l).symm (aO l),l,rfl,⟨by omega,hls⟩,hl⟩
set_option maxRecDepth 20000 in
set_option maxHeartbeats 1000000 in
theorem HV(fx:Bool)(l:List ByteArray)(hl:l.length≤300000)(nm:ByteArray):
  aC pr 182 [.list fx 1 (sC l),.str nm] (fun r=>∃l':List ByteArray,r=sL l'∧l'.length≤l.length+1∧∀s∈l',s∈l∨s=nm):=by
 refine aC.weak (S:=fun r=>∃(y:Bool) (l':List ByteArray),r=.list y 1 (sC l')∧l'.length≤l.length+1∧∀s∈l',s∈l∨s=nm) ?_ (by
  rintro r ⟨y,l',rfl,h⟩
  exact⟨_,.lst rfl (aO _),l',rfl,h⟩)
 refine aH k182.has rfl ?_
 conv=>whnf
 refine⟨fun m ρ H1=>∃k:Nat,k+m=l.length∧H1=[]∧Sv 46 [(0,.list fx 1 (sC l)),(1,.str nm),(5,.int .i64 k)] ρ,l.length,[],fun i ρ H1=>i=0∧∃k:Nat,k≤l.length∧H1=[]∧Sv 46 [(0,.list fx 1 (sC l)),(1,.str nm),(5,.int .i64 k)] ρ,?_,?_,?_⟩
 ·exact⟨0,Nat.zero_add _,rfl,Sv.intro rfl ⟨rfl,rfl,rfl,trivial⟩⟩
 ·rintro m ρ H1 ⟨k,hk,rfl,d,rfl⟩
  repeat'((conv=>whnf);first|refine aI ?_|refine oA ?_|refine oM fun x hx hm=>?_|((first|apply aK|apply aL|apply aM|apply aF|apply aE)<;>intro h<;>(try simp at h)))
  any_goals((conv=>whnf);first|(refine⟨m-1,by omega,Gp.cut (H:=[]) rfl trivial rfl rfl ?_ fun ρ1 h=>⟨k+1,by omega,rfl,h⟩⟩;exact⟨rfl,rfl,aN (dX (by omega)),trivial⟩)|(refine Gp.cut (H:=[]) rfl trivial rfl rfl ?_ fun ρ1 h=>⟨rfl,k,by omega,rfl,h⟩;exact⟨rfl,rfl,rfl,trivial⟩))
 ·rintro i ρ1 H1 ⟨rfl,k,hk,rfl,d,rfl⟩
  repeat'((conv=>whnf);first|refine aI ?_|refine oA ?_|refine oM fun x hx hm=>?_|((first|apply aK|apply aL|apply aM|apply aF|apply aE)<;>intro h<;>(try simp at h)))
  any_goals((conv=>whnf);first|exact⟨_,.closed _ rfl,fx,l,rfl,by omega,fun s h=>.inl h⟩)
  all_goals
   conv=>whnf
   have hcc:List.drop 0 (List.take ((k:Int)).toNat (sC l))++[[a6.str nm]]++List.drop ((k:Int)).toNat (List.take (sC l).length (sC l))=sC (l.take k++[nm]++l.drop k):=by
    rw[List.take_length];simp[sC,List.map_take,List.map_drop]
   exact⟨_,V3 (fs:=sC (l.take k++[nm]++l.drop k)) rfl hcc (by rw[←hcc]) (aO _),false,l.take k++[nm]++l.drop k,rfl,by simp;omega,fun s hs=>by
    simp only[List.mem_append,List.mem_singleton]at hs
    rcases hs with(h|h)|h
    ·exact .inl (List.mem_of_mem_take h)
    ·exact .inr h
    ·exact .inl (List.mem_of_mem_drop h)⟩
theorem IT(cs:List c8)(names:List ByteArray):∀(l:List ByteArray) (k:Nat) (out:List Int),(∀i∈out,0≤i∧i.toNat<cs.length)→(∃e:Int,e≠0∧yO cs names l k out=.tuple [.nil,.int .i64 e]) ∨
  ∃is:List Int,is.length=out.length+l.length∧(∀i∈is,0≤i∧i.toNat<cs.length)∧yO cs names l k out=.tuple [.list false 1 (iC is),.int .i64 0]
 |[],k,out,h=>.inr ⟨out,by simp,h,rfl⟩
 |s::ss,k,out,h=>by
  rw[yO]
  split
  ·exact .inl ⟨5,by decide,rfl⟩
  ·rename_i h0
   split
   ·exact .inl ⟨6,by decide,rfl⟩
   ·rcases IT cs names ss (k+1) (out++[eA cs s]) (dE h ⟨by omega,dB cs s (by omega)⟩)with h1|⟨is,h1,h2,h3⟩
    ·exact .inl h1
    ·exact .inr ⟨is,by rw[h1];simp;omega,h2,h3⟩
theorem iM(e1 e2:Bool)(cs:List c8)(names:List ByteArray)(hc:cs.length≤100000)(hl:names.length≤100000):
  aC pr 238 [.list e1 3 (cC cs),.list e2 1 (sC names)] (fun r=>(∃e:Int,e≠0∧r=.tuple [.nil,.int .i64 e])∨∃is:List Int,is.length=names.length∧(∀i∈is,0≤i∧i.toNat<cs.length)∧r=.tuple [.list false 1 (iC is),.int .i64 0]) :=
 (aC.of (w7 e1 e2 cs names (by omega) (by omega))).mono fun r hr=>by
  rcases IT cs names names 0 [] (fun i h=>by simp at h)with⟨e,h1,h2⟩|⟨is,h1,h2,h3⟩
  ·exact .inl ⟨e,h1,hr.trans h2⟩
  ·exact .inr ⟨is,by simpa using h1,h2,hr.trans h3⟩
set_option maxRecDepth 20000 in
theorem BO(e1 e3:Bool)(cs rs:List c8)(s:rC)(hc:cs.length≤100000)(hr:rs.length≤100000)(hs:lZ s)(hl:s.names.length=s.others.length):
  aC pr 241 [.list e1 3 (cC cs),.agg (cD s),.list e3 3 (cC rs)] KT:=by
 obtain⟨_,h2,h3,_,_⟩:=hs
 refine aH k241.has rfl ?_
 repeat'((conv=>whnf);first|((first|apply aC.use|apply aC.draw);exact iM e1 false cs s.names hc h2.1;rintro r (⟨e,he,rfl⟩|⟨a,ha1,ha2,rfl⟩))|((first|apply aC.use|apply aC.draw);exact iM e3 false rs s.others hr h3.1;rintro r (⟨e,he,rfl⟩|⟨b,hb1,hb2,rfl⟩))|refine aI ?_|refine oA ?_|refine oM fun x hx hm=>?_|((first|apply aK|apply aL|apply aM|apply aF|apply aE)<;>intro h<;>(try simp at h)<;>(try(exfalso;omega))))
 any_goals((conv=>whnf);first|exact HJ _)
 conv=>whnf
 refine⟨fun m ρ H1=>∃k:Nat,k+m=(a).length∧H1=[.arr 6 [cD s]]∧Sv 54 [(0,.list e1 3 (cC cs)),(2,.list e3 3 (cC rs)),(7,.list false 1 (iC a)),(9,.list false 1 (iC b)),(10,.int .i64 k)] ρ,(a).length,[],fun i ρ H1=>i=0∧H1=[.arr 6 [cD s]]∧Sv 54 [(0,.list e1 3 (cC cs))] ρ,?_,?_,?_⟩
 ·exact⟨0,Nat.zero_add _,rfl,Sv.intro rfl ⟨rfl,rfl,rfl,rfl,rfl,trivial⟩⟩
 ·rintro m ρ H1 ⟨k,hk,rfl,d,rfl⟩
  have hal:a.length≤100000:=by rw[ha1];exact h2.1
  have ha3:∀i∈a,0≤i:=fun i h=>(ha2 i h).1
  have hb3:∀i∈b,0≤i:=fun i h=>(hb2 i h).1
  repeat'((conv=>whnf);first|refine And.intro (ha3 _ (by assumption)) ?_|refine And.intro (hb3 _ (by assumption)) ?_|refine iQ (ha2 _ (by assumption)).2 (fun x hx hm=>?_)|refine iQ (hb2 _ (by assumption)).2 (fun x hx hm=>?_)|refine aI ?_|refine oA ?_|refine oM fun x hx hm=>?_|((first|apply aK|apply aL|apply aM|apply aF|apply aE)<;>intro h<;>(try simp at h)))
  any_goals((conv=>whnf);first|exact HJ _|(refine⟨m-1,by omega,Gp.cut (H:=[.arr 6 [cD s]]) rfl ⟨rfl,trivial⟩ rfl rfl ?_ fun ρ1 h=>⟨k+1,by omega,rfl,h⟩⟩;exact⟨rfl,rfl,rfl,rfl,aN (dX (by omega)),trivial⟩)|(refine Gp.cut (H:=[.arr 6 [cD s]]) rfl ⟨rfl,trivial⟩ rfl rfl ?_ fun ρ1 h=>⟨rfl,rfl,h⟩;exact⟨rfl,trivial⟩))
 ·rintro i ρ1 H1 ⟨rfl,rfl,d,rfl⟩
  conv=>whnf
  exact HJ _
def zG(p:List c8→Prop)(r:a6):Prop:=∃(c:a6) (cs:List c8) (e:Int),r=.tuple [c,.int .i64 e]∧gG c (cL cs)∧cs.length≤100000∧(e=0→p cs)
def VC(p:List c8→Prop)(r:a6):Prop:=∃(cs:List c8) (e:Int),r=.tuple [cL cs,.int .i64 e]∧cs.length≤100000∧(e=0→p cs)
def Cz(q:List c8):Prop:=1≤q.length∧q.length≤12∧∀c∈q,bM c.name
theorem Cz.le{q:List c8}(h:Cz q):q.length≤100000:=Nat.le_trans h.2.1 (by decide)
theorem Cz.ofV{q:List c8}(h:1≤q.length∧q.length≤12∧∀c∈q,eF c.name=true∧1≤c.kind∧c.kind≤4):Cz q:=⟨h.1,h.2.1,fun c hc=>Nat.le_trans (uR (h.2.2 c hc).1) (by decide)⟩
theorem Cz.ofE{cs q:List c8}(h:1≤cs.length∧cs.length≤12∧∀c∈cs,eF c.name=true∧1≤c.kind∧c.kind≤4)(e:q.length=cs.length∧∀c∈q,∃c'∈cs,c.name=c'.name):Cz q:=by
 refine⟨e.1▸h.1,e.1▸h.2.1,fun c hc=>?_⟩
 obtain⟨c',h1,h2⟩:=e.2 c hc
 rw[h2]
 exact(Cz.ofV h).2.2 c' h1
theorem F5:∀(a b:List c8),∀c∈nG a b,∃c'∈a,c.name=c'.name
 |x::a,y::b,c,h=>by
  rcases List.mem_cons.1 h with rfl|h
  ·exact⟨x,List.mem_cons_self ..,rfl⟩
  ·obtain⟨c',h1,h2⟩:=F5 a b c h
   exact⟨c',List.mem_cons_of_mem _ h1,h2⟩
 |[],[],c,h=>by simp[nG]at h
 |x::a,[],c,h=>⟨c,h,rfl⟩
 |[],_::_,c,h=>by simp[nG]at h
theorem yS{cs:List c8}{a:List Int}(h:∀c∈cs,bM c.name):∀c∈mF zC cs a,bM c.name:=fun c hc=>by
 obtain⟨i,_,rfl⟩:=List.mem_map.1 hc
 split
 ·rename_i hi
  rw[List.getD_eq_getElem?_getD,List.getElem?_eq_getElem (by omega)]
  exact h _ (List.getElem_mem _)
 ·exact(by decide:(0:Nat)≤100000)
theorem zG.wk{p:List c8→Prop}:∀r,zG p r→∃r',gG r r'∧VC p r':=by
 rintro r ⟨c,cs,e,rfl,hw,hl,h⟩
 exact⟨_,.tuples (.cons hw (.cons (.refl _) .nil)),cs,e,rfl,hl,h⟩
theorem mX{p:List c8→Prop}{H:List aB}(e:Int)(he:e≠0):∃r,dV H 0 [] (.tuple [.nil,.int .i64 e]) r∧zG p r :=
 ⟨_,dP (.closed _ rfl) (.closed _ rfl),.nil,[],e,rfl,.nil _ _,by simp,fun h=>absurd h he⟩
theorem TN{p:List c8→Prop}{H:List aB}{id n:Nat}{es:List (List a6)}(cs:List c8)(ho:H[id]?=some (.arr 3 es))(he:es=cC cs)(hn:n=es.length)(hl:cs.length≤100000)(h:p cs):
  ∃r,dV H 0 [] (.tuple [.sl id n 0 n,.int .i64 0]) r∧zG p r:=by
 subst he
 exact⟨_,dP (qH ho hn hn (cG cs)) (.closed _ rfl),_,cs,0,rfl,.refl _,hl,fun _=>h⟩
theorem TX{H:List aB}{id n:Nat}{es:List (List a6)}(ho:H[id]?=some (.arr 3 es))(hn:n=es.length):
  ∃v H1,((n≤12∧v=.tuple [.sl id n 0 n,.int .i64 0]∨v=.tuple [.nil,.int .i64 2])∧H1=H)∧a7 pr 279 [.sl id n 0 n] H (fun r H'=>r=v∧H'=H1):=by
 refine d6 k279.has ?_
 (conv=>whnf);refine b8 (ho) ?_
 (conv=>whnf);refine b4 (eL hn) ?_
 (conv=>whnf);refine aE (fun h=>?_) (fun h=>?_)
 ·conv=>whnf
  exact⟨.inr rfl,rfl⟩
 ·simp at h
  conv=>whnf
  exact⟨.inl ⟨by omega,rfl⟩,rfl⟩
theorem tA{H:List aB}{id n:Nat}{es:List (List a6)}{k:a6→List aB→Prop}(ho:H[id]?=some (.arr 3 es))(hn:n=es.length)
  (h1:n≤12→k (.tuple [.sl id n 0 n,.int .i64 0]) H) (h2:k (.tuple [.nil,.int .i64 2]) H):bH pr 279 [.sl id n 0 n] H k:=by
 obtain⟨v,H1,⟨hv,rfl⟩,hc⟩:=TX ho hn
 rcases hv with⟨hl,rfl⟩|rfl
 ·exact bH.of hc (h1 hl)
 ·exact bH.of hc h2
set_option maxRecDepth 20000 in
set_option maxHeartbeats 1000000 in
theorem rT(x:Bool)(cs:List c8)(hc:cs.length≤100000)(it:WX):
  aC pr 281 [.list x 3 (cC cs),.agg (FZ it)] (fun r=>∃(c:c8) (e:Int),r=.tuple [.agg (gJ c),.int .i64 e]∧(bM it.name→bM c.name)):=by
 have hci:=dB cs it.col
 refine aH k281.has rfl ?_
 repeat'((conv=>whnf);first|((first|apply aC.use|apply aC.draw);exact aC.of (bB x cs (by omega) it.col);rintro r rfl)|refine aI ?_|refine oA ?_|refine oM fun x hx hm=>?_|((first|apply aK|apply aL|apply aM|apply aF|apply aE)<;>intro h<;>(try simp at h)<;>(try(exfalso;omega))))
 any_goals((conv=>whnf);first|exact⟨_,dP (.closed _ rfl) (.closed _ rfl),⟨_,_,_⟩,_,rfl,fun h=>h⟩|exact⟨_,dP (.closed _ rfl) (.closed _ rfl),⟨_,_,_⟩,_,rfl,fun _=>(by decide:(0:Nat)≤100000)⟩|fail)
set_option maxRecDepth 20000 in
theorem jG(e1 e2 e3:Bool)(e:List oN)(cs:List c8)(zs:List HU)(he:Fl xI e)(hc:cs.length≤100000)(hz:Fl DS zs):
  aC pr 143 [.list e1 6 (mC fZ e),.list e2 3 (cC cs),.list e3 3 (mC m5 zs)] KT:=by
 refine aH k143.has rfl ?_
 repeat'((conv=>whnf);first|((first|apply aC.use|apply aC.draw);exact D5 e1 e2 e3 e cs zs he hc hz;rintro r ⟨k,b,c,rfl⟩)|refine aI ?_|refine oA ?_|refine oM fun x hx hm=>?_|((first|apply aK|apply aL|apply aM|apply aF|apply aE)<;>intro h<;>(try simp at h)))
 any_goals((conv=>whnf);first|exact HJ _|fail)
theorem ML(e1 e3:Bool)(cs rs:List c8)(s:rC)(hc:cs.length≤100000)(hr:rs.length≤100000):
  aC pr 242 [.list e1 3 (cC cs),.agg (cD s),.list e3 3 (cC rs)] (VC (fun q=>q.length=cs.length∧∀c∈q,∃c'∈cs,c.name=c'.name)):=by
 refine aC.weak ?_ zG.wk
 refine aH k242.has rfl ?_
 repeat'((conv=>whnf);first|((first|apply aC.use|apply aC.draw);exact aC.of (s9 e1 e3 cs rs (by omega));rintro r rfl)|((first|apply aC.use|apply aC.draw);exact aC.of (zP e1 e3 cs rs (by omega) (by omega));rintro r rfl)|refine aI ?_|refine oA ?_|refine oM fun x hx hm=>?_|((first|apply aK|apply aL|apply aM|apply aF|apply aE)<;>intro h<;>(try simp at h)))
 any_goals((conv=>whnf);first|exact mX _ (by decide)|exact⟨_,dP (.closed _ rfl) (.closed _ rfl),_,cs,0,rfl,.lst rfl (cG _),by omega,fun _=>⟨rfl,fun c hc=>⟨c,hc,rfl⟩⟩⟩|exact⟨_,dP (.closed _ rfl) (.closed _ rfl),_,nG cs rs,0,rfl,.refl _,by rw[iU];omega,fun _=>⟨iU _ _,F5 _ _⟩⟩|fail)
theorem z7(x:Bool)(zs:List HU)(hz:Fl DS zs):aC pr 189 [.list x 3 (mC m5 zs)] KT:=by
 have hzl:=hz.1
 refine aH k189.has rfl ?_
 conv=>whnf
 refine⟨fun m ρ H1=>∃k:Nat,k+m=(zs).length∧H1=[]∧Sv 19 [(0,.list x 3 (mC m5 zs)),(3,.int .i64 k)] ρ,(zs).length,[],fun i ρ H1=>i=0∧H1=[]∧Sv 19 [(0,.list x 3 (mC m5 zs))] ρ,?_,?_,?_⟩
 ·exact⟨0,Nat.zero_add _,rfl,Sv.intro rfl ⟨rfl,rfl,trivial⟩⟩
 ·rintro m ρ H1 ⟨k,hk,rfl,d,rfl⟩
  repeat'((conv=>whnf);first|((first|apply aC.use|apply aC.draw);exact oI _ (hz.2 _ (by assumption));rintro r ⟨c,rfl⟩)|refine aI ?_|refine oA ?_|refine oM fun x hx hm=>?_|((first|apply aK|apply aL|apply aM|apply aF|apply aE)<;>intro h<;>(try simp at h)))
  any_goals((conv=>whnf);first|exact HJ _|(refine⟨m-1,by omega,Gp.cut (H:=[]) rfl trivial rfl rfl ?_ fun ρ1 h=>⟨k+1,by omega,rfl,h⟩⟩;exact⟨rfl,aN (dX (by omega)),trivial⟩)|(refine Gp.cut (H:=[]) rfl trivial rfl rfl ?_ fun ρ1 h=>⟨rfl,rfl,h⟩;exact⟨rfl,trivial⟩)|fail)
 ·rintro i ρ1 H1 ⟨rfl,rfl,d,rfl⟩
  conv=>whnf
  exact HJ _
theorem Gp.col{n:Nat}{live:List (Nat×a6)}{ρ:List a6}{H' G:List aB}{I:List a6→List aB→Prop}{o:aB}{es:List (List a6)}{out:List c8}(x:c8)(he:es=cC out)(hH:H'=[o,.arr 3 (es++[gJ x])]++G)(ho:o.lowO 2)(hl:ρ.length=n)(hlow:M1 2 live=true)(h:vF ρ live)
  (hI:∀ρ1,es++[gJ x]=cC (out++[x])→Sv n live ρ1→I ρ1 [o,.arr 3 (es++[gJ x])]):Gp [] ρ H' I :=
 have hx:es++[gJ x]=cC (out++[x]):=by rw[he,QZ]
 Gp.cut hH ⟨ho,bV (by rw[hx];exact cG _),trivial⟩ hl hlow h fun ρ1=>hI ρ1 hx
theorem Gp.cols{n:Nat}{live:List (Nat×a6)}{ρ:List a6}{H' G:List aB}{I:List a6→List aB→Prop}{o:aB}{es:List (List a6)}{out:List c8}(he:es=cC out)(hH:H'=[o,.arr 3 es]++G)(ho:o.lowO 2)(hl:ρ.length=n)(hlow:M1 2 live=true)(h:vF ρ live)
  (hI:∀ρ1,Sv n live ρ1→I ρ1 [o,.arr 3 es]):Gp [] ρ H' I :=
 Gp.cut hH ⟨ho,bV (by rw[he];exact cG _),trivial⟩ hl hlow h hI
set_option maxRecDepth 20000 in
set_option maxHeartbeats 1000000 in
theorem FQ(e1 e3:Bool)(cs:List c8)(s:rC)(zs:List HU)(hc1:1≤cs.length)(hcn:∀c∈cs,bM c.name)(hc:cs.length≤100000)(hs:lZ s)(hz:Fl DS zs):
  aC pr 237 [.list e1 3 (cC cs),.agg (cD s),.list e3 3 (mC m5 zs)] (VC Cz):=by
 obtain⟨h1,h2,h3,hi,_⟩:=hs
 have hil:=hi.1
 refine aC.weak ?_ zG.wk
 refine aH k237.has rfl ?_
 conv=>whnf
 refine⟨⟨by simp[aQ];omega,by simp[aQ];omega⟩,?_⟩
 conv=>whnf
 refine⟨fun m ρ H1=>∃(k:Nat) (es:List (List a6)),k+m=s.items.length∧(∃out:List c8,es=cC out∧1≤out.length∧out.length≤100000+k∧∀c∈out,bM c.name)∧H1=[.arr 6 [cD s],.arr 3 es]∧Sv 68 [(0,.list e1 3 (cC cs)),(2,.list e3 3 (mC m5 zs)),(4,.ptr 0 1 0 0),(8,.sl 1 es.length 0 es.length),(9,.int .i64 k)] ρ,s.items.length,[],
  fun i ρ H1=>i=0∧∃es:List (List a6),(∃out:List c8,es=cC out∧1≤out.length∧out.length≤200000∧∀c∈out,bM c.name)∧H1=[.arr 6 [cD s],.arr 3 es]∧Sv 68 [(8,.sl 1 es.length 0 es.length)] ρ,?_,?_,?_⟩
 ·exact⟨0,cC cs,by omega,⟨cs,rfl,hc1,by omega,hcn⟩,rfl,Sv.intro rfl ⟨rfl,rfl,rfl,rfl,rfl,trivial⟩⟩
 ·rintro m ρ H1 ⟨k,es,hk,⟨out,he,ho1,ho2,ho3⟩,rfl,d,rfl⟩
  have hel:es.length=out.length:=by rw[he];simp
  repeat'((conv=>whnf);first|((first|apply aC.use|apply aC.draw);exact D5 false e1 e3 _ cs zs (hi.2 _ (by assumption)).2.2 hc hz;rintro r ⟨kd,b,c,rfl⟩)|((first|apply aC.use|apply aC.draw);exact aC.of (bB e1 cs (by omega) _);rintro r rfl)|refine aI ?_|refine oA ?_|refine oM fun x hx hm=>?_|((first|apply aK|apply aL|apply aM|apply aF|apply aE)<;>intro h<;>(try simp at h)))
  any_goals((conv=>whnf);first|exact mX _ (by assumption)|exact mX _ (by decide)|(refine⟨m-1,by omega,Gp.col ⟨x.name,kd,b⟩ he rfl rfl rfl rfl ?_ fun ρ1 hx h=>⟨k+1,_,by omega,⟨_,hx,by simp,by simp;omega,dE ho3 (hi.2 _ (by assumption)).1⟩,rfl,h⟩⟩;exact⟨rfl,rfl,rfl,eQ (by simp) (by simp),aN (dX (by omega)),trivial⟩)|(refine Gp.cols he rfl rfl rfl rfl ?_ fun ρ1 h=>⟨rfl,es,⟨out,he,ho1,by omega,ho3⟩,rfl,h⟩;exact⟨rfl,trivial⟩)|fail)
 ·rintro i ρ1 H1 ⟨rfl,es,⟨out,he,h1,h2,h8⟩,rfl,d,rfl⟩
  conv=>whnf
  refine tA rfl rfl (fun hl=>?_) ?_
  ·conv=>whnf
   exact TN out rfl he rfl (by rw[he]at hl;simp at hl;omega) ⟨h1,by rw[he]at hl;simpa using hl,h8⟩
  ·conv=>whnf
   exact mX _ (by decide)
set_option maxRecDepth 20000 in
set_option maxHeartbeats 1000000 in
theorem HW(e1 e3:Bool)(cs rs:List c8)(s:rC)(hc1:1≤cs.length)(hcn:∀c∈cs,bM c.name)(hc:cs.length≤100000)(hr:rs.length≤100000)(hs:lZ s)(hl:s.names.length=s.others.length):
  aC pr 240 [.list e1 3 (cC cs),.agg (cD s),.list e3 3 (cC rs)] (VC Cz):=by
 have hs0:=hs
 obtain⟨h1,h2,h3,hi,_⟩:=hs
 have hil:=hi.1
 refine aC.weak ?_ zG.wk
 refine aH k240.has rfl ?_
 repeat'((conv=>whnf);first|((first|apply aC.use|apply aC.draw);exact BO e1 e3 cs rs s hc hr hs0 hl;rintro r ⟨c,rfl⟩)|refine And.intro (⟨by simp[aQ];omega,by simp[aQ];omega⟩) ?_|refine aI ?_|refine oA ?_|refine oM fun x hx hm=>?_|((first|apply aK|apply aL|apply aM|apply aF|apply aE)<;>intro h<;>(try simp at h)<;>(try(exfalso;omega))))
 any_goals((conv=>whnf);first|exact mX _ (by assumption)|fail)
 refine⟨fun m ρ H1=>∃(k:Nat) (es:List (List a6)),k+m=s.items.length∧(∃out:List c8,es=cC out∧1≤out.length∧out.length≤100000+k∧∀c∈out,bM c.name)∧H1=[.arr 6 [cD s],.arr 3 es]∧Sv 76 [(0,.list e1 3 (cC cs)),(2,.list e3 3 (cC rs)),(4,.ptr 0 1 0 0),(9,.sl 1 es.length 0 es.length),(10,.int .i64 k)] ρ,s.items.length,[],
  fun i ρ H1=>i=0∧∃es:List (List a6),(∃out:List c8,es=cC out∧1≤out.length∧out.length≤200000∧∀c∈out,bM c.name)∧H1=[.arr 6 [cD s],.arr 3 es]∧Sv 76 [(9,.sl 1 es.length 0 es.length)] ρ,?_,?_,?_⟩
 ·exact⟨0,cC cs,by omega,⟨cs,rfl,hc1,by omega,hcn⟩,rfl,Sv.intro rfl ⟨rfl,rfl,rfl,rfl,rfl,trivial⟩⟩
 ·rintro m ρ H1 ⟨k,es,hk,⟨out,he,ho1,ho2,ho3⟩,rfl,d,rfl⟩
  have hel:es.length=out.length:=by rw[he];simp
  repeat'((conv=>whnf);first|((first|apply aC.use|apply aC.draw);exact aC.of (bB e3 rs (by omega) _);rintro r rfl)|((first|apply aC.use|apply aC.draw);exact aC.of (bB e1 cs (by omega) _);rintro r rfl)|refine iQ (dB rs _ (by assumption)) (fun y hy hm=>?_)|refine And.intro (by first|assumption|omega) ?_|refine aI ?_|refine oA ?_|refine oM fun x hx hm=>?_|((first|apply aK|apply aL|apply aM|apply aF|apply aE)<;>intro h<;>(try simp at h)))
  any_goals((conv=>whnf);first|exact mX _ (by decide)|(refine⟨m-1,by omega,Gp.col ⟨x.name,_,_⟩ he rfl rfl rfl rfl ?_ fun ρ1 hx h=>⟨k+1,_,by omega,⟨_,hx,by simp,by simp;omega,dE ho3 (hi.2 x (by assumption)).1⟩,rfl,h⟩⟩;exact⟨rfl,rfl,rfl,eQ (by simp) (by simp),aN (dX (by omega)),trivial⟩)|(refine Gp.cols he rfl rfl rfl rfl ?_ fun ρ1 h=>⟨rfl,es,⟨out,he,ho1,by omega,ho3⟩,rfl,h⟩;exact⟨rfl,trivial⟩)|fail)
 ·rintro i ρ1 H1 ⟨rfl,es,⟨out,he,h1,h2,h8⟩,rfl,d,rfl⟩
  conv=>whnf
  refine tA rfl rfl (fun hl=>?_) ?_
  ·conv=>whnf
   exact TN out rfl he rfl (by rw[he]at hl;simp at hl;omega) ⟨h1,by rw[he]at hl;simpa using hl,h8⟩
  ·conv=>whnf
   exact mX _ (by decide)
set_option maxRecDepth 20000 in
set_option maxHeartbeats 1000000 in
theorem IQ(e1:Bool)(cs:List c8)(s:rC)(hcn:∀c∈cs,bM c.name)(hc:cs.length≤100000)(hs:lZ s)(hn:1≤s.names.length+s.items.length):
  aC pr 243 [.list e1 3 (cC cs),.agg (cD s)] (VC Cz):=by
 obtain⟨h1,h2,h3,hi,_⟩:=hs
 have hil:=hi.1
 have hnl:=h2.1
 refine aC.weak ?_ zG.wk
 refine aH k243.has rfl ?_
 repeat'((conv=>whnf);first|((first|apply aC.use|apply aC.draw);exact iM e1 false cs s.names hc hnl;rintro r (⟨e,he,rfl⟩|⟨a,ha1,ha2,rfl⟩))|refine aI ?_|refine oA ?_|refine oM fun x hx hm=>?_|((first|apply aK|apply aL|apply aM|apply aF|apply aE)<;>intro h<;>(try simp at h)<;>(try(exfalso;omega))))
 any_goals((conv=>whnf);first|exact mX _ (by assumption)|fail)
 (conv=>whnf);refine bH.of (a7.own1 rfl (qU e1 false cs a (by omega) (by omega)) (cG _)) ?_
 conv=>whnf
 have hpl:(cC (mF zC cs a)).length=a.length:=by simp[dZ]
 refine⟨fun m ρ H1=>∃(k:Nat) (es:List (List a6)),k+m=s.items.length∧(∃out:List c8,es=cC out∧out.length=s.names.length+k∧∀c∈out,bM c.name)∧H1=[.arr 6 [cD s],.arr 3 es]∧Sv 53 [(0,.list e1 3 (cC cs)),(3,.ptr 0 1 0 0),(8,.sl 1 es.length 0 es.length),(9,.int .i64 k)] ρ,s.items.length,[],
  fun i ρ H1=>i=0∧∃es:List (List a6),(∃out:List c8,es=cC out∧1≤out.length∧out.length≤200000∧∀c∈out,bM c.name)∧H1=[.arr 6 [cD s],.arr 3 es]∧Sv 53 [(8,.sl 1 es.length 0 es.length)] ρ,?_,?_,?_⟩
 ·exact⟨0,cC (mF zC cs a),by omega,⟨_,rfl,by rw[dZ];omega,yS hcn⟩,rfl,Sv.intro rfl ⟨rfl,rfl,eQ hpl.symm hpl.symm,rfl,trivial⟩⟩
 ·rintro m ρ H1 ⟨k,es,hk,⟨out,he,ho2,ho3⟩,rfl,d,rfl⟩
  have hel:es.length=out.length:=by rw[he];simp
  repeat'((conv=>whnf);first|((first|apply aC.use|apply aC.draw);exact rT e1 cs hc _;rintro r ⟨c,e,rfl,hcf⟩)|refine And.intro (⟨by simp[aQ];omega,by simp[aQ];omega,rfl,rfl⟩) ?_|refine aI ?_|refine oA ?_|refine oM fun x hx hm=>?_|((first|apply aK|apply aL|apply aM|apply aF|apply aE)<;>intro h<;>(try simp at h)))
  any_goals((conv=>whnf);first|exact mX _ (by assumption)|(refine⟨m-1,by omega,Gp.col c he rfl rfl rfl rfl ?_ fun ρ1 hx h=>⟨k+1,_,by omega,⟨_,hx,by simp;omega,dE ho3 (hcf (hi.2 _ (by assumption)).1)⟩,rfl,h⟩⟩;exact⟨rfl,rfl,eQ (by simp) (by simp),aN (dX (by omega)),trivial⟩)|(refine Gp.cols he rfl rfl rfl rfl ?_ fun ρ1 h=>⟨rfl,es,⟨out,he,by omega,by omega,ho3⟩,rfl,h⟩;exact⟨rfl,trivial⟩)|fail)
 ·rintro i ρ1 H1 ⟨rfl,es,⟨out,he,h1,h2,h8⟩,rfl,d,rfl⟩
  conv=>whnf
  refine tA rfl rfl (fun hl=>?_) ?_
  ·conv=>whnf
   exact TN out rfl he rfl (by rw[he]at hl;simp at hl;omega) ⟨h1,by rw[he]at hl;simpa using hl,h8⟩
  ·conv=>whnf
   exact mX _ (by decide)
set_option maxRecDepth 20000 in
set_option maxHeartbeats 1000000 in
theorem HG(e1:Bool)(cs:List c8)(s:rC)(hc1:1≤cs.length)(hcn:∀c∈cs,bM c.name)(hc:cs.length≤100000)(hs:lZ s):
  aC pr 244 [.list e1 3 (cC cs),.agg (cD s)] (VC Cz):=by
 obtain⟨h1,h2,h3,hi,_⟩:=hs
 have hil:=hi.1
 have hnl:=h2.1
 have hol:=h3.1
 refine aC.weak ?_ zG.wk
 refine aH k244.has rfl ?_
 repeat'((conv=>whnf);first|((first|apply aC.use|apply aC.draw);exact iM e1 false cs s.names hc hnl;rintro r (⟨e,he,rfl⟩|⟨a,ha1,ha2,rfl⟩))|((first|apply aC.use|apply aC.draw);exact iM e1 false cs s.others hc hol;rintro r (⟨e,he,rfl⟩|⟨b,hb1,hb2,rfl⟩))|refine And.intro (⟨by simp[aQ];omega,by simp[aQ];omega⟩) ?_|refine aI ?_|refine oA ?_|refine oM fun x hx hm=>?_|((first|apply aK|apply aL|apply aM|apply aF|apply aE)<;>intro h<;>(try simp at h)<;>(try(exfalso;omega))))
 any_goals((conv=>whnf);first|exact mX _ (by assumption)|fail)
 refine⟨fun m ρ H1=>∃(k:Nat) (es:List (List a6)),k+m=s.items.length∧(∃out:List c8,es=cC out∧1≤out.length∧out.length≤100000+k∧∀c∈out,bM c.name)∧H1=[.arr 6 [cD s],.arr 3 es]∧Sv 69 [(0,.list e1 3 (cC cs)),(3,.ptr 0 1 0 0),(10,.sl 1 es.length 0 es.length),(11,.int .i64 k)] ρ,s.items.length,[],
  fun i ρ H1=>i=0∧∃es:List (List a6),(∃out:List c8,es=cC out∧1≤out.length∧out.length≤200000∧∀c∈out,bM c.name)∧H1=[.arr 6 [cD s],.arr 3 es]∧Sv 69 [(10,.sl 1 es.length 0 es.length)] ρ,?_,?_,?_⟩
 ·exact⟨0,cC cs,by omega,⟨cs,rfl,hc1,by omega,hcn⟩,rfl,Sv.intro rfl ⟨rfl,rfl,rfl,rfl,trivial⟩⟩
 ·rintro m ρ H1 ⟨k,es,hk,⟨out,he,ho1,ho2,ho3⟩,rfl,d,rfl⟩
  have hel:es.length=out.length:=by rw[he];simp
  repeat'((conv=>whnf);first|((first|apply aC.use|apply aC.draw);exact rT e1 cs hc _;rintro r ⟨c,e,rfl,hcf⟩)|((first|apply aC.use|apply aC.draw);exact aC.of (bB e1 cs (by omega) _);rintro r rfl)|refine And.intro (⟨by simp[aQ];omega,by simp[aQ];omega,rfl,rfl⟩) ?_|refine aI ?_|refine oA ?_|refine oM fun x hx hm=>?_|((first|apply aK|apply aL|apply aM|apply aF|apply aE)<;>intro h<;>(try simp at h)))
  any_goals((conv=>whnf);first|exact mX _ (by assumption)|exact mX _ (by decide)|(refine⟨m-1,by omega,Gp.col c he rfl rfl rfl rfl ?_ fun ρ1 hx h=>⟨k+1,_,by omega,⟨_,hx,by simp,by simp;omega,dE ho3 (hcf (hi.2 _ (by assumption)).1)⟩,rfl,h⟩⟩;exact⟨rfl,rfl,eQ (by simp) (by simp),aN (dX (by omega)),trivial⟩)|(refine Gp.cols he rfl rfl rfl rfl ?_ fun ρ1 h=>⟨rfl,es,⟨out,he,ho1,by omega,ho3⟩,rfl,h⟩;exact⟨rfl,trivial⟩)|fail)
 ·rintro i ρ1 H1 ⟨rfl,es,⟨out,he,h1,h2,h8⟩,rfl,d,rfl⟩
  conv=>whnf
  refine tA rfl rfl (fun hl=>?_) ?_
  ·conv=>whnf
   exact TN out rfl he rfl (by rw[he]at hl;simp at hl;omega) ⟨h1,by rw[he]at hl;simpa using hl,h8⟩
  ·conv=>whnf
   exact mX _ (by decide)
theorem SC{s:ByteArray}(h:mH s=true):s≠bs []:=by
 rintro rfl
 exact absurd h (by decide)
theorem VT{p:List c8→Prop}{H:List aB}(y:Bool)(cs:List c8)(hl:cs.length≤100000)(h:p cs):∃r,dV H 0 [] (.tuple [.list y 3 (cC cs),.int .i64 0]) r∧zG p r :=
 ⟨_,dP (.closed _ rfl) (.closed _ rfl),_,cs,0,rfl,.lst rfl (cG _),hl,fun _=>h⟩
theorem ZB{p:List c8→Prop}{H:List aB}{cs:List c8}{e:Int}(hl:cs.length≤100000)(h:e=0→p cs):∃r,dV H 0 [] (.tuple [cL cs,.int .i64 e]) r∧zG p r :=
 ⟨_,dP (.closed _ rfl) (.closed _ rfl),_,cs,e,rfl,.refl _,hl,h⟩
set_option maxRecDepth 20000 in
set_option maxHeartbeats 4000000 in
theorem D4(e1 e2 e3:Bool)(cs rs:List c8)(s:rC)(zs:List HU)(hc:cs.length≤100000)(hr:rs.length≤100000)(hs:lZ s)(hz:Fl DS zs):
  aC pr 187 [.list e1 3 (cC cs),.agg (cD s),.list e2 3 (cC rs),.list e3 3 (mC m5 zs)] (VC Cz):=by
 have hs':=hs
 obtain⟨h1,h2,h3,hi,hcd⟩:=hs
 have hnl:=h2.1
 refine aC.weak ?_ zG.wk
 refine aH k187.has rfl ?_
 repeat'((conv=>whnf);first|((first|apply aC.use|apply aC.draw);exact F2 s hs';rintro r ⟨c,rfl,hv⟩)|((first|apply aC.use|apply aC.draw);exact aC.of (dM e1 cs (by omega));rintro r rfl)|((first|apply aC.use|apply aC.draw);exact aC.of (dM e2 rs (by omega));rintro r rfl)|((first|apply aC.use|apply aC.draw);exact z7 e3 zs hz;rintro r ⟨c2,rfl⟩)|((first|apply aC.use|apply aC.draw);exact jG false e1 e3 s.cond cs zs hcd hc hz;rintro r ⟨c3,rfl⟩)|((first|apply aC.use|apply aC.draw);exact FQ e1 e3 cs s zs (jJ (by assumption)).1 (Cz.ofV (jJ (by assumption))).2.2 hc hs' hz;rintro r ⟨c4,c5,rfl,hc6,hc7⟩)|((first|apply aC.use|apply aC.draw);exact iM e1 false cs s.names hc hnl;rintro r (⟨e,he,rfl⟩|⟨a,ha1,ha2,rfl⟩))|((first|apply aC.use|apply aC.draw);exact aC.of (xS e1 false cs a (by omega) (by omega));rintro r rfl)|((first|apply aC.use|apply aC.draw);exact HW e1 e2 cs rs s (jJ (by assumption)).1 (Cz.ofV (jJ (by assumption))).2.2 hc hr hs' ((hv (by assumption)).2.2.2.2.1 (by omega) (by omega));rintro r ⟨c4,c5,rfl,hc6,hc7⟩)|((first|apply aC.use|apply aC.draw);exact BO e1 e2 cs rs s hc hr hs' ((hv (by assumption)).2.2.2.2.1 (by omega) (by omega));rintro r ⟨c3,rfl⟩)|((first|apply aC.use|apply aC.draw);exact ML e1 e2 cs rs s hc hr;rintro r ⟨c4,c5,rfl,hc6,hc7⟩)|((first|apply aC.use|apply aC.draw);exact IQ e1 cs s (Cz.ofV (jJ (by assumption))).2.2 hc hs' ((hv (by assumption)).2.2.2.2.2 (by omega));rintro r ⟨c4,c5,rfl,hc6,hc7⟩)|((first|apply aC.use|apply aC.draw);exact HG e1 cs s (jJ (by assumption)).1 (Cz.ofV (jJ (by assumption))).2.2 hc hs';rintro r ⟨c4,c5,rfl,hc6,hc7⟩)|refine aI ?_|refine oA ?_|refine oM fun x hx hm=>?_|((first|apply aK|apply aL|apply aM|apply aF|apply aE)<;>intro h<;>(try simp at h)<;>(try(exfalso;omega))))
 any_goals((conv=>whnf);first|exact mX _ (by assumption)|exact ZB hc6 hc7|(refine ZB hc6 (fun h=>?_);exact Cz.ofE (jJ (by assumption)) (hc7 h))|(refine VT e1 cs hc ?_;exact Cz.ofV (jJ (by assumption)))|(refine VT _ (mF zC cs a) (by rw[dZ];omega) ?_;exact⟨by rw[dZ,ha1];exact((hv (by assumption)).2.2.2.1 (by assumption)).1,by rw[dZ,ha1];exact((hv (by assumption)).2.2.2.1 (by assumption)).2,yS (Cz.ofV (jJ (by assumption))).2.2⟩)|(refine VT e2 rs hr ?_;first|exact absurd (ByteArray.ext (by assumption)) (SC ((hv (by assumption)).2.2.1 (by assumption)))|exact Cz.ofV (jJ (by assumption)))|fail)
end Go.AW
namespace Go.AW
variable [dK]
def a6.clT:a6→Bool
 |.tuple vs=>vs.all a6.closed
 |v=>v.closed
theorem jB.clT{σ:Nat→Nat}:∀{r:a6},r.clT=true→jB σ r r:=by
 intro r h
 cases r with
 |tuple vs =>
  refine .tuple _ _ rfl fun i a b h1 h2=>?_
  rw[h1]at h2;cases h2
  exact .closed _ (List.all_eq_true.1 h a (List.mem_of_getElem? h1))
 |_=>exact .closed _ h
def cJ(P:Program)(f:FuncId)(H0:List aB)(vs:List a6)(S:a6→Prop):Prop :=
 ∃r,S r∧r.clT=true∧a7 P f vs H0 (fun r' H'=>r'=r∧H'=H0)
theorem S2{ids:List Nat}{H:List aB}:∀(j:Nat),P7 ids H j (H.drop j):=by
 intro j
 obtain⟨n,hn⟩:∃n,n=H.length-j:=⟨_,rfl⟩
 induction n generalizing j with
 |zero=>rw[List.drop_eq_nil_of_le (by omega)];trivial
 |succ n ih =>
  have hlt:j<H.length:=by omega
  rw[List.drop_eq_getElem_cons hlt]
  exact⟨.inr (List.getElem?_eq_getElem hlt),ih (j+1) (by omega)⟩
theorem cJ.use{P:Program}{f:FuncId}{H H0:List aB}{vs0 vs:List a6}{S:a6→Prop}{k:a6→List aB→Prop}(ids:List Nat)(h:cJ P f H0 vs0 S)(hnd:ids.Nodup)(hlen:ids.length=H0.length)
  (h0:JR (nD ids H.length) H 0 H0) (ha:mL (nD ids H.length) vs0 vs) (hk:∀r,S r→k r H):bH P f vs H k:=by
 obtain⟨r,hs,hc,h⟩:=h
 have ho:=S2 (ids:=ids) (H:=H) 0
 rw[List.drop_zero]at ho
 exact bH.of (h.frL (H2:=H) ids hnd hlen h0 ha (.clT hc) (by omega) h0 ho) (hk r hs)
def J9:List Nat→List aB→Prop
 |[],_=>True
 |n::ns,o::os=>o.olen=n∧J9 ns os
 |_::_,[]=>False
theorem J9.get:∀{ns:List Nat}{H:List aB},J9 ns H→∀(k n:Nat),ns[k]?=some n→∃o,H[k]?=some o∧o.olen=n
 |[],H,_,k,n,h=>by simp at h
 |m::ns,o::os,h,k,n,hk=>by
  cases k with
  |zero=>simp at hk;subst hk;exact⟨o,rfl,h.1⟩
  |succ k=>exact J9.get h.2 k n (by simpa using hk)
 |m::ns,[],h,k,n,hk=>h.elim
theorem Gp.cutN{n0:List Nat}{n:Nat}{live:List (Nat×a6)}{ρ:List a6}{H H' G:List aB}{I:List a6→List aB→Prop}(hH:H'=H++G)(hn:J9 n0 H)(hp:HO H.length H)(hl:ρ.length=n)(hlow:M1 H.length live=true)(h:vF ρ live)
  (hI:∀ρ1,Sv n live ρ1→I ρ1 H):Gp n0 ρ H' I:=by
 subst hH
 refine Gp.keepL (List.range H.length) List.nodup_range (fun k m hk=>?_) (H1:=H) ?_ hl (lK.of h hlow) hI
 ·obtain⟨o,h1,h2⟩:=hn.get k m hk
  have hlt:=(List.getElem?_eq_some_iff.1 h1).1
  exact⟨List.getElem?_range hlt,o,by rw[List.getElem?_append_left hlt];exact h1,h2⟩
 ·have:=xE (G:=G) hp 0 (Nat.zero_le _)
  rw[List.drop_zero,Nat.sub_zero]at this
  rw[List.range_eq_range']
  rwa [List.range_eq_range']at this
theorem bQ{P:Program}{f:FuncId}{ob:List Nat}{af:tS}{H0:List aB}{args:List a6}{S:a6→Prop}(hf:QG P f ob af)(hp:HO H0.length H0)
  (h:dL (args++List.replicate (af.ntmps-args.length) (.tuple [])) fun ρ=>vI P (H0.map aB.olen) af.code (fun e ρ' H'=>match e with
   |.exit _=>False
   |_=>uY ρ' H' af.res fun vs=>wL vs fun v=>∃r G,H'=H0++G∧dV H' 0 (List.range H0.length) v r∧r.clT=true∧S r) ρ H0):cJ P f H0 args S:=by
 obtain⟨v,H1,⟨r,G,rfl,hpb,hc,hs⟩,hc'⟩:=d6 (H:=H0) (Q:=fun v H'=>∃r G,H'=H0++G∧dV H' 0 (List.range H0.length) v r∧r.clT=true∧S r) hf h
 refine⟨r,hs,hc,a7.gpI hc' (List.range H0.length) List.nodup_range (fun k m hk=>?_) ?_ hpb⟩
 ·rw[List.getElem?_map]at hk
  cases ho:H0[k]? with
  |none=>rw[ho]at hk;simp at hk
  |some o =>
   rw[ho]at hk;simp at hk
   have hlt:=(List.getElem?_eq_some_iff.1 ho).1
   exact⟨List.getElem?_range hlt,o,by rw[List.getElem?_append_left hlt];exact ho,hk⟩
 ·have:=xE (G:=G) hp 0 (Nat.zero_le _)
  rw[List.drop_zero,Nat.sub_zero]at this
  rw[List.range_eq_range']
  rwa [List.range_eq_range']at this
attribute [local irreducible] a7 bH oL Gp
structure jL where
 name:ByteArray
 ec:Bool
 cols:List c8
 kx:Option (List (Bool×List ByteArray))
def X8:Option (List (Bool×List ByteArray))→a6
 |none=>.nil
 |some l=>.list false 1 (zM l)
def bR(r:jL):List a6:=[.str r.name,.list r.ec 3 (cC r.cols),X8 r.kx,.nil]
theorem cI(r:jL):(bR r).all a6.isPure=true:=by obtain⟨a,b,c,k⟩:=r;cases k<;>rfl
theorem bS(r:jL):(bR r).all a6.isCell=true:=by obtain⟨a,b,c,k⟩:=r;cases k<;>rfl
theorem jO(r:jL):(a6.agg (bR r)).closed=true:=by
 show(bR r).all a6.isPure=true
 exact cI r
abbrev i8(l:List jL):aB:=.arr 4 (mC bR l)
theorem bP(l:List jL)(n:Nat):(i8 l).lowO n:=bV (aV cI l)
def nF(r:jL):Prop:=bM r.name∧r.cols.length≤100000
def V4:jL:=⟨bs [],false,[],none⟩
theorem cJ.weak{P:Program}{f:FuncId}{H0:List aB}{vs:List a6}{S T:a6→Prop}(h:cJ P f H0 vs S)(hw:∀r,S r→∃r',gG r r'∧r'.clT=true∧T r'):cJ P f H0 vs T:=by
 obtain⟨r,h1,h2,h3⟩:=h
 obtain⟨r',h4,h5,h6⟩:=hw r h1
 exact⟨r',h6,h5,a7.weakRD h3 fun r0 H0 ⟨e1,e2⟩=>by subst e1 e2;exact⟨r',h4,rfl,rfl⟩⟩
def XX(l:List jL)(nm:ByteArray)(r:a6):Prop:=∃(x:jL) (b:Bool),r=.tuple [.agg (bR x),.bool b]∧(b=true→x∈l∧x.name=nm)∧(b=false→x=V4∧∀y∈l,y.name≠nm)
theorem A2{l:List jL}{x:jL}{b:Bool}{nm:ByteArray}(hl:Fl nF l)(h1:b=true→x∈l∧x.name=nm)(h2:b=false→x=V4∧∀y∈l,y.name≠nm):x.cols.length≤100000:=by
 cases b
 ·rw[(h2 rfl).1];simp[V4]
 ·exact(hl.2 _ (h1 rfl).1).2
set_option maxRecDepth 20000 in
set_option maxHeartbeats 1000000 in
theorem pS(l:List jL)(hl:l.length≤100000)(nm:ByteArray):cJ pr 94 [i8 l] [.sl 0 l.length 0 l.length,.str nm] (XX l nm):=by
 refine cJ.weak (S:=fun r=>XX l nm r∨(r=.tuple [.agg [.str (bs []),.nil,.nil,.nil],.bool false]∧∀y∈l,y.name≠nm)) ?_ (by
  rintro r (⟨x,b,rfl,h⟩|⟨rfl,h⟩)
  ·exact⟨_,.refl _,by show((a6.agg (bR x)).closed&&true)=true;rw[jO];rfl,x,b,rfl,h⟩
  ·exact⟨_,.tuples (.cons (.aggs (.cons (.refl _) (.cons (.nil _ _) (.cons (.refl _) (.cons (.refl _) .nil))))) (.cons (.refl _) .nil)),rfl,V4,false,rfl,(fun h=>by cases h),fun _=>⟨rfl,h⟩⟩)
 refine bQ k94.has ⟨bP l _,trivial⟩ ?_
 conv=>whnf
 refine⟨fun m ρ H1=>∃(k:Nat),k+m=l.length∧(∀y∈l.take k,y.name≠nm)∧H1=[i8 l,.arr 4 [[.str (bs []),.nil,.nil,.nil]]]∧Sv 25 [(0,.sl 0 l.length 0 l.length),(1,.str nm),(4,.ptr 1 1 0 0),(6,.int .i64 k)] ρ,l.length,[],
  fun i ρ H1=>i=0∧(∀y∈l,y.name≠nm)∧H1=[i8 l,.arr 4 [[.str (bs []),.nil,.nil,.nil]]]∧Sv 25 [(4,.ptr 1 1 0 0)] ρ,?_,?_,?_⟩
 ·exact⟨0,by omega,by simp,rfl,Sv.intro rfl ⟨rfl,rfl,rfl,rfl,trivial⟩⟩
 ·rintro m ρ H1 ⟨k,hk,hv,rfl,d,rfl⟩
  have nxt:∀{y:jL},l[((k:Int)).toNat]?=some y→y.name≠nm→∀s∈l.take (k+1),s.name≠nm:=fun{y} hy hvy s hsm=>by
   rw[Int.toNat_natCast]at hy
   rw[lA hy]at hsm
   rcases List.mem_append.1 hsm with h|h
   ·exact hv s h
   ·simp at h;subst h;exact hvy
  repeat'((conv=>whnf);first|refine b4 (eL (aZ bR l).symm) ?_|refine b4 ((bS _)) ?_|refine aI ?_|refine oA ?_|refine oM fun x hx hm=>?_|((first|apply aK|apply aL|apply aM|apply aF|apply aE)<;>intro h<;>(try simp at h)))
  any_goals((conv=>whnf);first|exact⟨_,_,rfl,dP (.closed _ (jO _)) (.closed _ rfl),(by show((a6.agg (bR _)).closed&&true)=true;rw[jO];rfl),.inl ⟨_,true,rfl,(fun _=>⟨by assumption,ByteArray.ext (by assumption)⟩),fun h=>by cases h⟩⟩|(refine⟨m-1,by omega,Gp.cutN (H:=[i8 l,.arr 4 [[.str (bs []),.nil,.nil,.nil]]]) rfl ⟨rfl,trivial⟩ ⟨bP l _,rfl,trivial⟩ rfl rfl ?_ fun ρ1 h=>⟨k+1,by omega,nxt (by first|assumption|(rw[←Nat.zero_add ((k:Int)).toNat];assumption)) (fun hh=>absurd (congrArg ByteArray.data hh) (by assumption)),rfl,h⟩⟩;exact⟨rfl,rfl,rfl,aN (dX (by omega)),trivial⟩)|(refine Gp.cutN (H:=[i8 l,.arr 4 [[.str (bs []),.nil,.nil,.nil]]]) rfl ⟨rfl,trivial⟩ ⟨bP l _,rfl,trivial⟩ rfl rfl ?_ fun ρ1 h=>⟨rfl,by rwa [List.take_of_length_le (by omega)]at hv,rfl,h⟩;exact⟨rfl,trivial⟩))
 ·rintro i ρ1 H1 ⟨rfl,hv,rfl,d,rfl⟩
  conv=>whnf
  exact⟨_,_,rfl,dP (.closed _ rfl) (.closed _ rfl),rfl,.inr ⟨rfl,hv⟩⟩
theorem VO{v:a6}(h:v.isPure=true):v.closed=true:=by cases v<;>first|rfl|exact h|(simp[a6.isPure]at h)
theorem NV{H:List aB}{ids:List Nat}(sz:Nat)(es es1:List (List a6))(c c1:List a6)(he:es1=es++[c1])(hp:bG es=true)(hc:c1.length=c.length)
  (h:∀(j:Nat) (d d1:a6),c[j]?=some d→c1[j]?=some d1→dV H 0 ids d d1∧d1.isCell=true):zY H ids (.arr sz (es++[c])) (.arr sz es1):=by
 subst he
 refine .map sz _ _ (by simp) (fun i e e1 h1 h2=>?_) (fun i j e e1 d d1 h1 h2 h3 h4=>?_)
 ·by_cases hi:i<es.length
  ·rw[List.getElem?_append_left hi]at h1 h2
   rw[h1]at h2;cases h2;rfl
  ·rw[List.getElem?_append_right (by omega)]at h1 h2
   rcases hk:i-es.length with _|q
   ·rw[hk]at h1 h2
    cases h1;cases h2;exact hc
   ·rw[hk]at h1;simp at h1
 ·by_cases hi:i<es.length
  ·rw[List.getElem?_append_left hi]at h1 h2
   rw[h1]at h2;cases h2
   rw[h3]at h4;cases h4
   have:=gX hp h1 h3
   exact⟨.closed _ (VO this),a6.isCell_of_isPure this⟩
  ·rw[List.getElem?_append_right (by omega)]at h1 h2
   rcases hk:i-es.length with _|q
   ·rw[hk]at h1 h2
    cases h1;cases h2
    exact h j d d1 h3 h4
   ·rw[hk]at h1;simp at h1
def I9(cs:List c8):List a6:=[cL cs]
theorem FK(n:List c8):(I9 n).all a6.isPure=true:=rfl
def XY(p:List (List c8)→Prop)(r:a6):Prop:=∃(c:a6) (L:List (List c8)) (e:Int),r=.tuple [c,.int .i64 e]∧gG c (.list false 1 (mC I9 L))∧L.length≤100000∧(e=0→p L)
def Z7(p:List (List c8)→Prop)(r:a6):Prop:=∃(L:List (List c8)) (e:Int),r=.tuple [.list false 1 (mC I9 L),.int .i64 e]∧L.length≤100000∧(e=0→p L)
theorem IW{p:List (List c8)→Prop}{H H0 G:List aB}{ids:List Nat}(hH:H=H0++G)(e:Int)(he:e≠0):∃r G,H=H0++G∧dV H 0 ids (.tuple [.nil,.int .i64 e]) r∧r.clT=true∧XY p r :=
 ⟨_,_,hH,dP (.closed _ rfl) (.closed _ rfl),rfl,.nil,[],e,rfl,.nil _ _,by simp,fun h=>absurd h he⟩
theorem XY.wkF{p:List (List c8)→Prop}:∀r,XY p r→∃r',gG r r'∧r'.clT=true∧Z7 p r':=by
 rintro r ⟨c,L,e,rfl,hw,hl,h⟩
 exact⟨_,.tuples (.cons hw (.cons (.refl _) .nil)),rfl,L,e,rfl,hl,h⟩
theorem Gp.clm{n sz:Nat}{live:List (Nat×a6)}{ρ:List a6}{H':List aB}{I:List a6→List aB→Prop}{id m:Nat}{es0:List (List a6)}{L:List (List c8)}(cs:List c8)(hz:H'[0]?=Option.some (.arr sz es0))(hp0:bG es0=true)(h0:H'[1]?=Option.some (.arr 1 (mC I9 L++[[.sl id m 0 m]])))(h1:H'[id]?=Option.some (.arr 3 (cC cs)))(hid:2≤id)(hm:m=cs.length)
  (hl:ρ.length=n) (h:lK H' [0,1] ρ live) (hI:∀ρ1,Sv n live ρ1→I ρ1 [.arr sz es0,.arr 1 (mC I9 (L++[cs]))]):Gp ([aB.arr sz es0].map aB.olen) ρ H' I:=by
 refine Gp.keepL (H1:=[.arr sz es0,.arr 1 (mC I9 (L++[cs]))]) [0,1] (by simp) (bY rfl hz rfl) ⟨⟨_,hz,.same _ _ hp0⟩,⟨_,h0,?_⟩,trivial⟩ hl h hI
 refine NV 1 _ _ _ (I9 cs) (dD ..) (aV FK _) rfl fun j d d1 h2 h3=>?_
 rcases j with _|j
 ·cases h2;cases h3
  exact⟨mG (by simp;omega) h1 (by simpa using hm) (by simpa using hm) (cG cs),rfl⟩
 ·simp at h2
set_option maxRecDepth 20000 in
set_option maxHeartbeats 2000000 in
theorem nR(x1 x3:Bool)(q:List rC)(l:List jL)(zs:List HU)(hq:Fl lZ q)(hl:Fl nF l)(hz:Fl DS zs):
  cJ pr 145 [i8 l] [.list x1 6 (mC cD q),.sl 0 l.length 0 l.length,.list x3 3 (mC m5 zs)] (Z7 (fun L=>1≤q.length∧L.length=q.length∧(∀c∈L,Cz c)∧q.length≤16)):=by
 have hql:=hq.1
 have hll:=hl.1
 have hrp:=aV cI l
 have low:=bP l
 refine cJ.weak ?_ XY.wkF
 refine bQ k145.has ⟨low _,trivial⟩ ?_
 repeat'((conv=>whnf);first|((first|apply aC.use|apply aC.draw);exact sQ x1 q hq;rintro r ⟨c,rfl,hv⟩)|refine aI ?_|refine oA ?_|refine oM fun x hx hm=>?_|((first|apply aK|apply aL|apply aM|apply aF|apply aE)<;>intro h<;>(try simp at h)<;>(try(exfalso;omega))))
 any_goals((conv=>whnf);first|exact IW (by exact rfl) _ (by assumption)|fail)
 conv=>whnf
 refine⟨fun m ρ H1=>∃k:Nat,k+m=l.length∧H1=[i8 l]∧Sv 92 [(0,.list x1 6 (mC cD q)),(1,.sl 0 l.length 0 l.length),(2,.list x3 3 (mC m5 zs)),(9,.int .i64 k)] ρ,l.length,[],fun i ρ H1=>i=0∧H1=[i8 l]∧Sv 92 [(0,.list x1 6 (mC cD q)),(1,.sl 0 l.length 0 l.length),(2,.list x3 3 (mC m5 zs))] ρ,?_,?_,?_⟩
 ·exact⟨0,Nat.zero_add _,rfl,Sv.intro rfl ⟨rfl,rfl,rfl,rfl,trivial⟩⟩
 ·rintro m ρ H1 ⟨k,hk,rfl,d,rfl⟩
  repeat'((conv=>whnf);first|((first|apply aC.use|apply aC.draw);exact aC.of (dM _ _ (Nat.le_trans (hl.2 _ (by assumption)).2 (by omega)));rintro r rfl)|refine b4 (eL (aZ bR l).symm) ?_|refine aI ?_|refine oA ?_|refine oM fun x hx hm=>?_|((first|apply aK|apply aL|apply aM|apply aF|apply aE)<;>intro h<;>(try simp at h)<;>(try(exfalso;omega))))
  any_goals((conv=>whnf);first|exact IW (by exact rfl) _ (by assumption)|(refine⟨m-1,by omega,Gp.cutN (H:=[i8 l]) rfl ⟨rfl,trivial⟩ ⟨low _,trivial⟩ rfl rfl ?_ fun ρ1 h=>⟨k+1,by omega,rfl,h⟩⟩;exact⟨rfl,rfl,rfl,aN (dX (by omega)),trivial⟩)|(refine Gp.cutN (H:=[i8 l]) rfl ⟨rfl,trivial⟩ ⟨low _,trivial⟩ rfl rfl ?_ fun ρ1 h=>⟨rfl,rfl,h⟩;exact⟨rfl,rfl,rfl,trivial⟩)|fail)
 ·rintro i ρ1 H1 ⟨rfl,rfl,d,rfl⟩
  repeat'((conv=>whnf);first|((first|apply aC.use|apply aC.draw);exact z7 x3 zs hz;rintro r ⟨c2,rfl⟩)|refine aI ?_|refine oA ?_|refine oM fun x hx hm=>?_|((first|apply aK|apply aL|apply aM|apply aF|apply aE)<;>intro h<;>(try simp at h)<;>(try(exfalso;omega))))
  any_goals((conv=>whnf);first|exact IW (by exact rfl) _ (by assumption)|fail)
  refine⟨fun m ρ H1=>∃(k:Nat) (L:List (List c8)) (v:a6) (cs:List c8),k+m=q.length∧L.length=k∧(∀c∈L,Cz c)∧gG v (cL cs)∧cs.length≤100000∧H1=[i8 l,.arr 1 (mC I9 L)]∧Sv 92 [(0,.list x1 6 (mC cD q)),(1,.sl 0 l.length 0 l.length),(2,.list x3 3 (mC m5 zs)),(12,.sl 1 L.length 0 L.length),(13,v),(14,.int .i64 k)] ρ,q.length,[(12,1)],
   fun i ρ H1=>i=2∧∃L:List (List c8),L.length=q.length∧(∀c∈L,Cz c)∧H1=[i8 l,.arr 1 (mC I9 L)]∧Sv 92 [(12,.sl 1 L.length 0 L.length)] ρ,?_,?_,?_⟩
  ·exact⟨0,[],.nil,[],by omega,rfl,(fun c h=>by simp at h),.nil _ _,by simp,rfl,Sv.intro rfl ⟨rfl,rfl,rfl,rfl,rfl,rfl,trivial⟩⟩
  ·rintro m ρ H1 ⟨k,L,v,cs,hk,hL,hLs,hw,hcs,rfl,d,rfl⟩
   repeat'((conv=>whnf);first|(refine cJ.use [0] (pS l hll _) (by simp) rfl ⟨⟨_,rfl,.same hrp⟩,trivial⟩ ⟨.sl 0 _ _ _,.closed _ rfl,trivial⟩ (fun r hr=>?_);obtain⟨x,b,rfl,hf1,hf2⟩:=hr)|((first|apply aC.use|apply aC.draw);exact(D4 false x.ec x3 cs x.cols _ zs hcs (A2 hl hf1 hf2) (hq.2 _ (by assumption)) hz).args (.cons hw (.cons (.refl _) (.cons (.refl _) (.cons (.refl _) .nil))));rintro r ⟨c4,c5,rfl,hc6,hc7⟩)|refine And.intro (⟨by simp[aQ];omega,by simp[aQ];omega⟩) ?_|refine b4 (eL (aZ I9 L).symm) ?_|refine b4 ((bS _)) ?_|refine And.intro (⟨by simp[aQ];omega,by simp[aQ];omega,rfl,(aZ I9 L).symm⟩) ?_|refine aI ?_|refine oA ?_|refine oM fun x hx hm=>?_|((first|apply aK|apply aL|apply aM|apply aF|apply aE)<;>intro h<;>(try simp at h)<;>(try(exfalso;omega))))
   any_goals((conv=>whnf);first|exact IW (by exact rfl) _ (by assumption)|exact IW (by exact rfl) _ (by decide)|(refine⟨m-1,by omega,Gp.clm c4 rfl hrp rfl rfl (by simp) (by simp) rfl ?_ fun ρ1 h=>⟨k+1,_,_,c4,by omega,by simp;omega,dE hLs (hc7 (by assumption)),.refl _,hc6,rfl,h⟩⟩;exact⟨.closed _ rfl,kI (k:=0) rfl rfl rfl rfl,.closed _ rfl,kI (k:=1) rfl rfl (by simp) (by simp),mG (by simp) rfl (by simp) (by simp) (cG c4),JG (aN (dX (by omega))) rfl,trivial⟩)|(refine Gp.cutN (H:=[i8 l,.arr 1 (mC I9 L)]) rfl ⟨rfl,trivial⟩ ⟨low _,bV (aV FK L),trivial⟩ rfl rfl ?_ fun ρ1 h=>⟨rfl,L,by omega,hLs,rfl,h⟩;exact⟨rfl,trivial⟩)|fail)
  ·rintro i ρ1 H1 ⟨rfl,L,hL,hLs,rfl,d,rfl⟩
   conv=>whnf
   exact⟨_,_,rfl,dP (mG (es:=mC I9 L) (show 1∉[0] by decide) rfl (by simp) (by simp) (aV FK L)) (.closed _ rfl),rfl,_,L,0,rfl,.refl _,by omega,fun _=>⟨(hv (by assumption)).1,hL,hLs,(hv (by assumption)).2.1⟩⟩
end Go.AW
