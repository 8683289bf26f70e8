/-
  An abstract machine over the model, the code of functions on it, and their contracts: what the claim needs.
  No condition: definitions, plain laws, contracts over any program that has this code.
-/
import Derived.Test.YtbjodpkinpnebaaGreatZ5
set_option linter.all false
namespace Go.AW
variable [dE]
attribute [local irreducible] a7 bI oN Gp
theorem dO{ids:List Nat}{H:List aB}:C5 [] ids H:=fun k n h=>by simp at h
def XC(st:dI)(nm:ByteArray)(L:List c8)(H:List aB):Prop :=
 (L=[]∧H=[kX,fW st,eF nm .nil .nil .nil])∨H=[kX,fW st,eF nm (.sl 3 L.length 0 L.length) .nil .nil,.arr 3 (cC L)]
def XJ(st:dI)(nm:ByteArray)(a:a6)(cs:List a6)(H:List aB):Prop :=
 (cs=[]∧H=[kX,fW st,eF nm a .nil .nil])∨H=[kX,fW st,eF nm a (.sl 3 cs.length 0 cs.length) .nil,.arr 1 (uC cs)]
def XU(st:dI)(nm:ByteArray)(a b:a6)(L:List (Option (List V)×Int))(H:List aB):Prop :=
 (L=[]∧H=[kX,fW st,eF nm a b .nil])∨H=[kX,fW st,eF nm a b (.sl 3 L.length 0 L.length),.arr 2 (iH L)]
theorem F1(n:Nat){s:dI}(h:s.bad=true)(L:List (Option (List V)×Int)):iQ n s L=(L,s):=by
 cases n with
 |zero=>rfl
 |succ n=>rw[iQ,if_pos h]
set_option maxRecDepth 20000 in
set_option maxHeartbeats 4000000 in
theorem JS(b0:List Int)(hby0:fO b0)(hl0:b0.length≤1000000):
  aC pr 29 [.list false 1 (bC b0)] (fun r=>gB r (wZ iV b0)):=by
 refine aH k29.has rfl ?_
 have hfit:=CO iV (s:=⟨b0,false⟩) hby0 hl0
 obtain⟨s,hs⟩:∃s:dI,s=⟨b0,false⟩:=⟨_,rfl⟩
 have hby:fO s.rest:=by rw[hs];exact hby0
 have hl:s.rest.length≤1000000:=by rw[hs];exact hl0
 rw[←hs]at hfit
 have hU:sT iV b0=(!(vH iV s).bad&&decide (eJ (tX iV s)=0)&&decide (b0.length≤65536)&&(dL (tX iV s)==b0)):=by rw[hs];rfl
 have hR:wZ iV b0=if sT iV b0 then .tuple [.agg (cO (tX iV s)),.int .i64 0]else .tuple [.agg (cO SR),.int .i64 11]:=by rw[hs];rfl
 have err:∀{H1:List aB},sT iV b0=false→∃r,dV H1 0 [] (.tuple [.agg [.str (bs []),.nil,.nil,.nil],.int .i64 11]) r∧gB r (wZ iV b0):=by
  intro H1 h
  rw[hR,h]
  exact⟨_,dU (.closed _ rfl) (.closed _ rfl),.tuples (.cons (.aggs (.cons (.refl _) (.cons (.nil false 3) (.cons (.nil false 1) (.cons (.nil false 2) .nil))))) (.cons (.refl _) .nil))⟩
 have t0:s.To s:=.refl hby
 (conv=>whnf);refine bI.of (kI s hby _ 1 (by rw[hs];rfl)) ?_
 (conv=>whnf);refine bI.of (cJ 1 (by omega) (by omega) (uM s) (iX hby) _ 1 rfl) ?_
 have n1:=UA (iX hby)
 conv=>whnf
 refine⟨fun m ρ H1=>∃(st:dI) (L:List c8),k9 iV m st L=MN iV s∧L.length+m≤255∧s.To st∧XC st (fH s) L H1 ∧
  Sv 146 [(0,.list false 1 (bC b0)),(2,.ptr 0 1 0 0),(4,.ptr 1 1 0 0),(5,.ptr 2 1 0 0),(6,.int .i64 m)] ρ,(lS 1 (uM s)).toNat,[],
  fun id ρ H1=>id=0∧∃(st:dI) (L:List c8) (a:a6),(L,st)=MN iV s∧s.To st∧CL a 3 (cC L)∧H1=[kX,fW st,eF (fH s) a .nil .nil] ∧
   Sv 146 [(0,.list false 1 (bC b0)),(2,.ptr 0 1 0 0),(4,.ptr 1 1 0 0),(5,.ptr 2 1 0 0)] ρ,?_,?_,?_⟩
 ·exact⟨_,[],rfl,by simp;omega,(t0.tx).tk 1,.inl ⟨rfl,rfl⟩,Sv.intro rfl ⟨rfl,rfl,rfl,rfl,aN (by omega),trivial⟩⟩
 ·rintro m ρ H1 ⟨st,L,hr,hle,ht,hH,d,rfl⟩
  have hb:=ht.1
  rcases hH with⟨rfl,rfl⟩|rfl
  ·(conv=>whnf);refine aE (fun hlt=>?_) (fun hlt=>?_)
   ·simp at hlt
    (conv=>whnf);refine aE (fun hbad=>?_) (fun hbad=>?_)
    ·replace hbad:(!st.bad)=true:=hbad
     simp at hbad
     obtain⟨k,rfl⟩:∃k,m=k+1:=⟨m-1,by omega⟩
     (conv=>whnf);refine bI.of (kI st hb _ 1 rfl) ?_
     (conv=>whnf);refine bI.of (cJ 1 (by omega) (by omega) (uM st) (iX hb) _ 1 rfl) ?_
     (conv=>whnf);refine bI.of (cJ 1 (by omega) (by omega) (kP 1 (uM st)) (gX (iX hb)) _ 1 rfl) ?_
     (conv=>whnf);refine And.intro (⟨cM (by simp) (by omega),bK (by simp)⟩) ?_
     conv=>whnf
     rw[k9,if_neg (by simp[hbad])]at hr
     refine⟨k,by omega,Gp.keepL [0,1,2,4] (by simp) (dO) (H1:=[kX,fW (TX st),eF (fH s) (.sl 3 1 0 1) .nil .nil,.arr 3 (cC [HP iV st])]) ⟨⟨_,rfl,.same _ _ rfl⟩,⟨_,rfl,.same _ _ rfl⟩,⟨_,rfl,iN ⟨dJ rfl,hZ rfl rfl,dJ rfl,dJ rfl,trivial⟩⟩,⟨_,rfl,.same _ _ rfl⟩,trivial⟩ rfl ?_ fun ρ1 h=>⟨_,_,hr,by simp at hle ⊢;omega,ht.col,.inr rfl,h⟩⟩
     exact⟨.closed _ rfl,aU rfl,aU rfl,aU rfl,nB (HR (by omega) (by omega)),trivial⟩
    ·replace hbad:(!st.bad)=false:=hbad
     simp at hbad
     obtain⟨k,rfl⟩:∃k,m=k+1:=⟨m-1,by omega⟩
     rw[k9,if_pos hbad]at hr
     conv=>whnf
     refine Gp.keep rfl ?_ fun ρ1 h=>⟨rfl,st,[],.nil,hr,ht,.inl ⟨rfl,rfl⟩,rfl,h⟩
     exact⟨rfl,rfl,rfl,rfl,trivial⟩
   ·simp at hlt
    subst hlt
    conv=>whnf
    refine Gp.keep rfl ?_ fun ρ1 h=>⟨rfl,st,[],.nil,hr,ht,.inl ⟨rfl,rfl⟩,rfl,h⟩
    exact⟨rfl,rfl,rfl,rfl,trivial⟩
  ·(conv=>whnf);refine aE (fun hlt=>?_) (fun hlt=>?_)
   ·simp at hlt
    (conv=>whnf);refine aE (fun hbad=>?_) (fun hbad=>?_)
    ·replace hbad:(!st.bad)=true:=hbad
     simp at hbad
     obtain⟨k,rfl⟩:∃k,m=k+1:=⟨m-1,by omega⟩
     (conv=>whnf);refine bI.of (kI st hb _ 1 rfl) ?_
     (conv=>whnf);refine bI.of (cJ 1 (by omega) (by omega) (uM st) (iX hb) _ 1 rfl) ?_
     (conv=>whnf);refine bI.of (cJ 1 (by omega) (by omega) (kP 1 (uM st)) (gX (iX hb)) _ 1 rfl) ?_
     (conv=>whnf);refine b8 (by rw[aW];exact Nat.beq_refl _) ?_
     (conv=>whnf);refine And.intro (⟨cM (by simp;omega) (by omega),bK (by simp;omega),rfl,by rw[aW]⟩) ?_
     conv=>whnf
     rw[k9,if_neg (by simp[hbad])]at hr
     have hc:(cC L++[fY (HP iV st)]).length=(L++[HP iV st]).length:=by rw[AD,aW]
     refine⟨k,by omega,Gp.keepL [0,1,2,3] (by simp) (dO) (H1:=[kX,fW (TX st),eF (fH s) (.sl 3 (L++[HP iV st]).length 0 (L++[HP iV st]).length) .nil .nil,.arr 3 (cC (L++[HP iV st]))]) ⟨⟨_,rfl,.same _ _ rfl⟩,⟨_,rfl,.same _ _ rfl⟩,⟨_,rfl,iN ⟨dJ rfl,hZ rfl hc,dJ rfl,dJ rfl,trivial⟩⟩,⟨_,rfl,A9.of_eq (AD L (HP iV st)) (cI _)⟩,trivial⟩ rfl ?_ fun ρ1 h=>⟨_,_,hr,by simp at hle ⊢;omega,ht.col,.inr rfl,h⟩⟩
     exact⟨.closed _ rfl,aU rfl,aU rfl,aU rfl,nB (HR (by omega) (by omega)),trivial⟩
    ·replace hbad:(!st.bad)=false:=hbad
     simp at hbad
     obtain⟨k,rfl⟩:∃k,m=k+1:=⟨m-1,by omega⟩
     rw[k9,if_pos hbad]at hr
     conv=>whnf
     refine Gp.keepL [0,1,2] (by simp) (dO) (H1:=[kX,fW st,eF (fH s) (.list false 3 (cC L)) .nil .nil]) ?_ rfl ?_ fun ρ1 h=>⟨rfl,st,L,_,hr,ht,.inr rfl,rfl,h⟩
     ·exact⟨⟨_,rfl,.same _ _ rfl⟩,⟨_,rfl,.same _ _ rfl⟩,⟨_,rfl,iN ⟨dJ rfl,oF rfl (by simp) (aW L).symm (cI L),dJ rfl,dJ rfl,trivial⟩⟩,trivial⟩
     ·exact⟨.closed _ rfl,aU rfl,aU rfl,aU rfl,trivial⟩
   ·simp at hlt
    subst hlt
    conv=>whnf
    refine Gp.keepL [0,1,2] (by simp) (dO) (H1:=[kX,fW st,eF (fH s) (.list false 3 (cC L)) .nil .nil]) ?_ rfl ?_ fun ρ1 h=>⟨rfl,st,L,_,hr,ht,.inr rfl,rfl,h⟩
    ·exact⟨⟨_,rfl,.same _ _ rfl⟩,⟨_,rfl,.same _ _ rfl⟩,⟨_,rfl,iN ⟨dJ rfl,oF rfl (by simp) (aW L).symm (cI L),dJ rfl,dJ rfl,trivial⟩⟩,trivial⟩
    ·exact⟨.closed _ rfl,aU rfl,aU rfl,aU rfl,trivial⟩
 rintro _ ρ1 H1 ⟨rfl,st,cols,a,hr,t1,ha,rfl,d,rfl⟩
 have hb1:=t1.1
 have h3:kF (lS 1 st).toNat (kP 1 st) []=GQ iV s:=by rw[GQ,←hr]
 have e2:(MN iV s).1=cols:=by rw[←hr]
 (conv=>whnf);refine bI.of (cJ 1 (by omega) (by omega) st hb1 _ 1 rfl) ?_
 have n2:=UA hb1
 conv=>whnf
 refine⟨fun m ρ H1=>∃(st:dI) (L:List (List ByteArray)) (cs:List a6),kF m st L=GQ iV s∧L.length+m≤255∧s.To st∧zU cs L∧XJ st (fH s) a cs H1 ∧
  Sv 146 [(0,.list false 1 (bC b0)),(2,.ptr 0 1 0 0),(4,.ptr 1 1 0 0),(5,.ptr 2 1 0 0),(8,.int .i64 m)] ρ,(lS 1 st).toNat,[],
  fun id ρ H1=>id=2∧∃(st:dI) (L:List (List ByteArray)) (cs:List a6) (b:a6),(L,st)=GQ iV s∧s.To st∧zU cs L∧CL b 1 (uC cs)∧H1=[kX,fW st,eF (fH s) a b .nil] ∧
   Sv 146 [(0,.list false 1 (bC b0)),(2,.ptr 0 1 0 0),(4,.ptr 1 1 0 0),(5,.ptr 2 1 0 0)] ρ,?_,?_,?_⟩
 ·exact⟨_,[],[],h3,by simp;omega,t1.tk 1,⟨rfl,fun i c k h=>by simp at h⟩,.inl ⟨rfl,rfl⟩,Sv.intro rfl ⟨rfl,rfl,rfl,rfl,aN (by omega),trivial⟩⟩
 ·rintro m ρ H1 ⟨st,L,cs,hr,hle,ht,hks,hH,d,rfl⟩
  have hb:=ht.1
  have hkl:=hks.1
  rcases hH with⟨rfl,rfl⟩|rfl
  ·(conv=>whnf);refine aE (fun hlt=>?_) (fun hlt=>?_)
   ·simp at hlt
    (conv=>whnf);refine aE (fun hbad=>?_) (fun hbad=>?_)
    ·replace hbad:(!st.bad)=true:=hbad
     simp at hbad
     obtain⟨k,rfl⟩:∃k,m=k+1:=⟨m-1,by omega⟩
     rw[kF,if_neg (by simp[hbad])]at hr
     (conv=>whnf);refine bI.of (cJ 1 (by omega) (by omega) st hb _ 1 rfl) ?_
     have n3:=UA hb
     conv=>whnf
     refine⟨fun m2 ρ H1=>∃(st2:dI) (key:List ByteArray),kO m2 st2 key=xS st∧key.length+m2≤255∧s.To st2∧H1=[kX,fW st2,eF (fH s) a .nil .nil]++[.arr 1 (sC key)] ∧
      Sv 146 [(0,.list false 1 (bC b0)),(2,.ptr 0 1 0 0),(4,.ptr 1 1 0 0),(5,.ptr 2 1 0 0),(8,.int .i64 (k+1:Nat)),(9,.sl 3 key.length 0 key.length),(10,.int .i64 m2)] ρ,(lS 1 st).toNat,[(9,1)],
      fun id ρ H1=>id=4∧∃(st2:dI) (key:List ByteArray),(key,st2)=xS st∧s.To st2∧H1=[kX,fW st2,eF (fH s) a .nil .nil] ∧
       Sv 146 [(0,.list false 1 (bC b0)),(2,.ptr 0 1 0 0),(4,.ptr 1 1 0 0),(5,.ptr 2 1 0 0),(8,.int .i64 (k+1:Nat)),(9,.list false 1 (sC key))] ρ,?_,?_,?_⟩
     ·exact⟨_,[],rfl,by simp;omega,ht.tk 1,rfl,Sv.intro rfl ⟨rfl,rfl,rfl,rfl,rfl,rfl,aN (by omega),trivial⟩⟩
     ·rintro m2 ρ H2 ⟨st2,key,hr2,hle2,ht2,rfl,d2,rfl⟩
      have hb2:=ht2.1
      (conv=>whnf);refine aE (fun hlt2=>?_) (fun hlt2=>?_)
      ·simp at hlt2
       obtain⟨j,rfl⟩:∃j,m2=j+1:=⟨m2-1,by omega⟩
       (conv=>whnf);refine aE (fun hbad2=>?_) (fun hbad2=>?_)
       ·replace hbad2:(!st2.bad)=true:=hbad2
        simp at hbad2
        rw[kO,if_neg (by simp[hbad2])]at hr2
        (conv=>whnf);refine bI.of (kI st2 hb2 _ 1 rfl) ?_
        (conv=>whnf);refine b8 (by rw[aP];exact Nat.beq_refl _) ?_
        (conv=>whnf);refine And.intro (⟨cM (by simp;omega) (by omega),bK (by simp;omega),rfl,by rw[aP]⟩) ?_
        conv=>whnf
        have hc:sC key++[[a6.str (fH st2)]]=sC (key++[fH st2]):=(jU key [fH st2]).symm
        have hcl:(sC key++[[a6.str (fH st2)]]).length=(key++[fH st2]).length:=by rw[hc,aP]
        refine⟨j,by omega,Gp.keep rfl ?_ fun ρ1 h=>⟨_,key++[fH st2],hr2,by simp;omega,ht2.tx,?_,h⟩⟩
        ·exact⟨rfl,rfl,rfl,rfl,rfl,eS hcl hcl,aN (HR (by omega) (by omega)),trivial⟩
        ·rw[←hc];rfl
       ·replace hbad2:(!st2.bad)=false:=hbad2
        simp at hbad2
        rw[kO,if_pos hbad2]at hr2
        conv=>whnf
        refine Gp.keepL [0,1,2] (by simp) (dO) (H1:=[kX,fW st2,eF (fH s) a .nil .nil]) ⟨⟨_,rfl,.same _ _ rfl⟩,⟨_,rfl,.same _ _ rfl⟩,⟨_,rfl,iN ⟨dJ rfl,dJ ha.closed,dJ rfl,dJ rfl,trivial⟩⟩,trivial⟩ rfl ?_ fun ρ1 h=>⟨rfl,st2,key,hr2,ht2,rfl,h⟩
        exact⟨.closed _ rfl,aU rfl,aU rfl,aU rfl,.closed _ rfl,(oF rfl (by simp) (aP key).symm (aO key)).1,trivial⟩
      ·simp at hlt2
       subst hlt2
       conv=>whnf
       refine Gp.keepL [0,1,2] (by simp) (dO) (H1:=[kX,fW st2,eF (fH s) a .nil .nil]) ⟨⟨_,rfl,.same _ _ rfl⟩,⟨_,rfl,.same _ _ rfl⟩,⟨_,rfl,iN ⟨dJ rfl,dJ ha.closed,dJ rfl,dJ rfl,trivial⟩⟩,trivial⟩ rfl ?_ fun ρ1 h=>⟨rfl,st2,key,hr2,ht2,rfl,h⟩
       exact⟨.closed _ rfl,aU rfl,aU rfl,aU rfl,.closed _ rfl,(oF rfl (by simp) (aP key).symm (aO key)).1,trivial⟩
     rintro _ ρ2 H2 ⟨rfl,st2,key,hr2,ht2,rfl,d2,rfl⟩
     rw[←hr2]at hr
     (conv=>whnf);refine And.intro (⟨cM (by simp) (by omega),bK (by simp)⟩) ?_
     conv=>whnf
     refine⟨k,by omega,Gp.keep rfl ?_ fun ρ1 h=>⟨_,L++[key],[a6.list false 1 (sC key)],hr,by simp at hle ⊢;omega,ht2,hks.snoc (.inr rfl),.inr rfl,h⟩⟩
     exact⟨rfl,rfl,rfl,rfl,aN (HR (by omega) (by omega)),trivial⟩
    ·replace hbad:(!st.bad)=false:=hbad
     simp at hbad
     obtain⟨k,rfl⟩:∃k,m=k+1:=⟨m-1,by omega⟩
     rw[kF,if_pos hbad]at hr
     conv=>whnf
     refine Gp.keep rfl ?_ fun ρ1 h=>⟨rfl,st,L,[],.nil,hr,ht,hks,.inl ⟨rfl,rfl⟩,rfl,h⟩
     exact⟨rfl,rfl,rfl,rfl,trivial⟩
   ·simp at hlt
    subst hlt
    conv=>whnf
    refine Gp.keep rfl ?_ fun ρ1 h=>⟨rfl,st,L,[],.nil,hr,ht,hks,.inl ⟨rfl,rfl⟩,rfl,h⟩
    exact⟨rfl,rfl,rfl,rfl,trivial⟩
  ·(conv=>whnf);refine aE (fun hlt=>?_) (fun hlt=>?_)
   ·simp at hlt
    (conv=>whnf);refine aE (fun hbad=>?_) (fun hbad=>?_)
    ·replace hbad:(!st.bad)=true:=hbad
     simp at hbad
     obtain⟨k,rfl⟩:∃k,m=k+1:=⟨m-1,by omega⟩
     rw[kF,if_neg (by simp[hbad])]at hr
     (conv=>whnf);refine bI.of (cJ 1 (by omega) (by omega) st hb _ 1 rfl) ?_
     have n3:=UA hb
     conv=>whnf
     refine⟨fun m2 ρ H1=>∃(st2:dI) (key:List ByteArray),kO m2 st2 key=xS st∧key.length+m2≤255∧s.To st2∧H1=[kX,fW st2,eF (fH s) a (.sl 3 cs.length 0 cs.length) .nil,.arr 1 (uC cs)]++[.arr 1 (sC key)] ∧
      Sv 146 [(0,.list false 1 (bC b0)),(2,.ptr 0 1 0 0),(4,.ptr 1 1 0 0),(5,.ptr 2 1 0 0),(8,.int .i64 (k+1:Nat)),(9,.sl 4 key.length 0 key.length),(10,.int .i64 m2)] ρ,(lS 1 st).toNat,[(9,1)],
      fun id ρ H1=>id=4∧∃(st2:dI) (key:List ByteArray),(key,st2)=xS st∧s.To st2∧H1=[kX,fW st2,eF (fH s) a (.sl 3 cs.length 0 cs.length) .nil,.arr 1 (uC cs)] ∧
       Sv 146 [(0,.list false 1 (bC b0)),(2,.ptr 0 1 0 0),(4,.ptr 1 1 0 0),(5,.ptr 2 1 0 0),(8,.int .i64 (k+1:Nat)),(9,.list false 1 (sC key))] ρ,?_,?_,?_⟩
     ·exact⟨_,[],rfl,by simp;omega,ht.tk 1,rfl,Sv.intro rfl ⟨rfl,rfl,rfl,rfl,rfl,rfl,aN (by omega),trivial⟩⟩
     ·rintro m2 ρ H2 ⟨st2,key,hr2,hle2,ht2,rfl,d2,rfl⟩
      have hb2:=ht2.1
      (conv=>whnf);refine aE (fun hlt2=>?_) (fun hlt2=>?_)
      ·simp at hlt2
       obtain⟨j,rfl⟩:∃j,m2=j+1:=⟨m2-1,by omega⟩
       (conv=>whnf);refine aE (fun hbad2=>?_) (fun hbad2=>?_)
       ·replace hbad2:(!st2.bad)=true:=hbad2
        simp at hbad2
        rw[kO,if_neg (by simp[hbad2])]at hr2
        (conv=>whnf);refine bI.of (kI st2 hb2 _ 1 rfl) ?_
        (conv=>whnf);refine b8 (by rw[aP];exact Nat.beq_refl _) ?_
        (conv=>whnf);refine And.intro (⟨cM (by simp;omega) (by omega),bK (by simp;omega),rfl,by rw[aP]⟩) ?_
        conv=>whnf
        have hc:sC key++[[a6.str (fH st2)]]=sC (key++[fH st2]):=(jU key [fH st2]).symm
        have hcl:(sC key++[[a6.str (fH st2)]]).length=(key++[fH st2]).length:=by rw[hc,aP]
        refine⟨j,by omega,Gp.keep rfl ?_ fun ρ1 h=>⟨_,key++[fH st2],hr2,by simp;omega,ht2.tx,?_,h⟩⟩
        ·exact⟨rfl,rfl,rfl,rfl,rfl,eS hcl hcl,aN (HR (by omega) (by omega)),trivial⟩
        ·rw[←hc];rfl
       ·replace hbad2:(!st2.bad)=false:=hbad2
        simp at hbad2
        rw[kO,if_pos hbad2]at hr2
        conv=>whnf
        refine Gp.keepL [0,1,2,3] (by simp) (dO) (H1:=[kX,fW st2,eF (fH s) a (.sl 3 cs.length 0 cs.length) .nil,.arr 1 (uC cs)]) ⟨⟨_,rfl,.same _ _ rfl⟩,⟨_,rfl,.same _ _ rfl⟩,⟨_,rfl,iN ⟨dJ rfl,dJ ha.closed,hZ rfl rfl,dJ rfl,trivial⟩⟩,⟨_,rfl,.same _ _ hks.pure⟩,trivial⟩ rfl ?_ fun ρ1 h=>⟨rfl,st2,key,hr2,ht2,rfl,h⟩
        exact⟨.closed _ rfl,aU rfl,aU rfl,aU rfl,.closed _ rfl,(oF rfl (by simp) (aP key).symm (aO key)).1,trivial⟩
      ·simp at hlt2
       subst hlt2
       conv=>whnf
       refine Gp.keepL [0,1,2,3] (by simp) (dO) (H1:=[kX,fW st2,eF (fH s) a (.sl 3 cs.length 0 cs.length) .nil,.arr 1 (uC cs)]) ⟨⟨_,rfl,.same _ _ rfl⟩,⟨_,rfl,.same _ _ rfl⟩,⟨_,rfl,iN ⟨dJ rfl,dJ ha.closed,hZ rfl rfl,dJ rfl,trivial⟩⟩,⟨_,rfl,.same _ _ hks.pure⟩,trivial⟩ rfl ?_ fun ρ1 h=>⟨rfl,st2,key,hr2,ht2,rfl,h⟩
       exact⟨.closed _ rfl,aU rfl,aU rfl,aU rfl,.closed _ rfl,(oF rfl (by simp) (aP key).symm (aO key)).1,trivial⟩
     rintro _ ρ2 H2 ⟨rfl,st2,key,hr2,ht2,rfl,d2,rfl⟩
     rw[←hr2]at hr
     (conv=>whnf);refine b8 (by rw[eW];exact Nat.beq_refl _) ?_
     (conv=>whnf);refine And.intro (⟨cM (by simp;omega) (by omega),bK (by simp;omega),rfl,by rw[eW]⟩) ?_
     conv=>whnf
     have hc:uC cs++[[a6.list false 1 (sC key)]]=uC (cs++[a6.list false 1 (sC key)]):=(C7 cs [a6.list false 1 (sC key)]).symm
     have hcl:(uC cs++[[a6.list false 1 (sC key)]]).length=(cs++[a6.list false 1 (sC key)]).length:=by rw[hc,eW]
     refine⟨k,by omega,Gp.keep rfl ?_ fun ρ1 h=>⟨_,L++[key],cs++[a6.list false 1 (sC key)],hr,by simp at hle ⊢;omega,ht2,hks.snoc (.inr rfl),.inr ?_,h⟩⟩
     ·exact⟨rfl,rfl,rfl,rfl,aN (HR (by omega) (by omega)),trivial⟩
     ·rw[←hc,←hcl];rfl
    ·replace hbad:(!st.bad)=false:=hbad
     simp at hbad
     obtain⟨k,rfl⟩:∃k,m=k+1:=⟨m-1,by omega⟩
     rw[kF,if_pos hbad]at hr
     conv=>whnf
     refine Gp.keepL [0,1,2] (by simp) (dO) (H1:=[kX,fW st,eF (fH s) a (.list false 1 (uC cs)) .nil]) ?_ rfl ?_ fun ρ1 h=>⟨rfl,st,L,cs,_,hr,ht,hks,.inr rfl,rfl,h⟩
     ·exact⟨⟨_,rfl,.same _ _ rfl⟩,⟨_,rfl,.same _ _ rfl⟩,⟨_,rfl,iN ⟨dJ rfl,dJ ha.closed,oF rfl (by simp) (eW cs).symm hks.pure,dJ rfl,trivial⟩⟩,trivial⟩
     ·exact⟨.closed _ rfl,aU rfl,aU rfl,aU rfl,trivial⟩
   ·simp at hlt
    subst hlt
    conv=>whnf
    refine Gp.keepL [0,1,2] (by simp) (dO) (H1:=[kX,fW st,eF (fH s) a (.list false 1 (uC cs)) .nil]) ?_ rfl ?_ fun ρ1 h=>⟨rfl,st,L,cs,_,hr,ht,hks,.inr rfl,rfl,h⟩
    ·exact⟨⟨_,rfl,.same _ _ rfl⟩,⟨_,rfl,.same _ _ rfl⟩,⟨_,rfl,iN ⟨dJ rfl,dJ ha.closed,oF rfl (by simp) (eW cs).symm hks.pure,dJ rfl,trivial⟩⟩,trivial⟩
    ·exact⟨.closed _ rfl,aU rfl,aU rfl,aU rfl,trivial⟩
 rintro _ ρ1 H1 ⟨rfl,st,keys,cs,b,hr3,t2,hks,hcb,rfl,d,rfl⟩
 have hb3:=t2.1
 have h4:iQ (lS 2 st).toNat (kP 2 st) []=K0 iV s:=by rw[K0,←hr3]
 have e3:(GQ iV s).1=keys:=by rw[←hr3]
 (conv=>whnf);refine bI.of (cJ 2 (by omega) (by omega) st hb3 _ 1 rfl) ?_
 have n4:=Z1 hb3
 conv=>whnf
 refine⟨fun m ρ H1=>∃(st:dI) (L:List (Option (List V)×Int)),iQ m st L=K0 iV s∧L.length+m≤65535∧s.To st∧XU st (fH s) a b L H1 ∧
  Sv 146 [(0,.list false 1 (bC b0)),(2,.ptr 0 1 0 0),(4,.ptr 1 1 0 0),(5,.ptr 2 1 0 0),(11,.int .i64 m)] ρ,(lS 2 st).toNat,[],
  fun id ρ H1=>id=6∧∃(st:dI) (L:List (Option (List V)×Int)) (c:a6),(L,st)=K0 iV s∧CL c 2 (iH L)∧H1=[kX,fW st,eF (fH s) a b c] ∧
   Sv 146 [(0,.list false 1 (bC b0)),(2,.ptr 0 1 0 0),(4,.ptr 1 1 0 0),(5,.ptr 2 1 0 0)] ρ,?_,?_,?_⟩
 ·exact⟨_,[],h4,by simp;omega,t2.tk 2,.inl ⟨rfl,rfl⟩,Sv.intro rfl ⟨rfl,rfl,rfl,rfl,aN (by omega),trivial⟩⟩
 ·rintro m ρ H1 ⟨st,L,hr,hle,ht,hH,d,rfl⟩
  have hb:=ht.1
  rcases hH with⟨rfl,rfl⟩|rfl
  ·(conv=>whnf);refine aE (fun hlt=>?_) (fun hlt=>?_)
   ·simp at hlt
    (conv=>whnf);refine aE (fun hbad=>?_) (fun hbad=>?_)
    ·replace hbad:(!st.bad)=true:=hbad
     simp at hbad
     obtain⟨k,rfl⟩:∃k,m=k+1:=⟨m-1,by omega⟩
     rw[iQ,if_neg (by simp[hbad])]at hr
     (conv=>whnf);refine bI.of (cJ 3 (by omega) (by omega) st hb _ 1 rfl) ?_
     (conv=>whnf);refine bI.of (cJ 2 (by omega) (by omega) (kP 3 st) (gX hb) _ 1 rfl) ?_
     (conv=>whnf);refine bI.of (tS ⟨81,k81.has⟩ _ (mW (by omega) (by omega) (gX (n:=3) hb)).1 (VH st) _ 1 rfl) ?_
     have hd:=fun H=>pB false (KY st) (lI (ht.tk 3 |>.tk 2).1) (Nat.le_trans (wW _ _) (Nat.le_trans (ht.tk 3 |>.tk 2).2 hl)) H
     rw[tA]at hd
     rcases hdc:QI (KY st)with _|rs
     rotate_left
     ·rw[hdc]at hd
      have hrs:kJ st=PW st:=by rw[kJ,hdc]
      have hrv:[a6.list false 3 (vC rs),a6.int .i64 (lS 3 st)]=tY (f7 st):=by rw[f7,hdc];rfl
      (conv=>whnf);refine bI.of (hd _) ?_
      (conv=>whnf);refine And.intro (⟨cM (by simp) (by omega),bK (by simp)⟩) ?_
      conv=>whnf
      refine⟨k,by omega,Gp.keepL [0,1,2,4] (by simp) (dO) (H1:=[kX,fW (kJ st),eF (fH s) a b (.sl 3 1 0 1),.arr 2 (iH [f7 st])]) ?_ rfl ?_ fun ρ1 h=>⟨_,_,hr,by simp at hle ⊢;omega,ht.row,.inr rfl,h⟩⟩
      ·exact⟨⟨_,rfl,.same _ _ rfl⟩,⟨_,rfl,by rw[hrs];exact .same _ _ rfl⟩,⟨_,rfl,iN ⟨dJ rfl,dJ ha.closed,dJ hcb.closed,hZ rfl rfl,trivial⟩⟩,⟨_,rfl,A9.of_eq (by rw[show iH [f7 st]=[tY (f7 st)]from rfl,←hrv]) (fF _)⟩,trivial⟩
      ·exact⟨.closed _ rfl,aU rfl,aU rfl,aU rfl,nB (HR (by omega) (by omega)),trivial⟩
     ·rw[hdc]at hd
      have hrs:kJ st=⟨(PW st).rest,true⟩:=by rw[kJ,hdc]
      (conv=>whnf);refine bI.of (hd _) ?_
      conv=>whnf
      rw[F1 _ (by rw[hrs])]at hr
      exact err (by rw[hU,vH,←hr,hrs];rfl)
    ·replace hbad:(!st.bad)=false:=hbad
     simp at hbad
     obtain⟨k,rfl⟩:∃k,m=k+1:=⟨m-1,by omega⟩
     rw[iQ,if_pos hbad]at hr
     conv=>whnf
     refine Gp.keep rfl ?_ fun ρ1 h=>⟨rfl,st,[],.nil,hr,.inl ⟨rfl,rfl⟩,rfl,h⟩
     exact⟨rfl,rfl,rfl,rfl,trivial⟩
   ·simp at hlt
    subst hlt
    conv=>whnf
    refine Gp.keep rfl ?_ fun ρ1 h=>⟨rfl,st,[],.nil,hr,.inl ⟨rfl,rfl⟩,rfl,h⟩
    exact⟨rfl,rfl,rfl,rfl,trivial⟩
  ·(conv=>whnf);refine aE (fun hlt=>?_) (fun hlt=>?_)
   ·simp at hlt
    (conv=>whnf);refine aE (fun hbad=>?_) (fun hbad=>?_)
    ·replace hbad:(!st.bad)=true:=hbad
     simp at hbad
     obtain⟨k,rfl⟩:∃k,m=k+1:=⟨m-1,by omega⟩
     rw[iQ,if_neg (by simp[hbad])]at hr
     (conv=>whnf);refine bI.of (cJ 3 (by omega) (by omega) st hb _ 1 rfl) ?_
     (conv=>whnf);refine bI.of (cJ 2 (by omega) (by omega) (kP 3 st) (gX hb) _ 1 rfl) ?_
     (conv=>whnf);refine bI.of (tS ⟨81,k81.has⟩ _ (mW (by omega) (by omega) (gX (n:=3) hb)).1 (VH st) _ 1 rfl) ?_
     have hd:=fun H=>pB false (KY st) (lI (ht.tk 3 |>.tk 2).1) (Nat.le_trans (wW _ _) (Nat.le_trans (ht.tk 3 |>.tk 2).2 hl)) H
     rw[tA]at hd
     rcases hdc:QI (KY st)with _|rs
     rotate_left
     ·rw[hdc]at hd
      have hrs:kJ st=PW st:=by rw[kJ,hdc]
      have hrv:[a6.list false 3 (vC rs),a6.int .i64 (lS 3 st)]=tY (f7 st):=by rw[f7,hdc];rfl
      (conv=>whnf);refine bI.of (hd _) ?_
      (conv=>whnf);refine b8 (by rw[d5];exact Nat.beq_refl _) ?_
      (conv=>whnf);refine And.intro (⟨cM (by simp;omega) (by omega),bK (by simp;omega),rfl,by rw[d5]⟩) ?_
      conv=>whnf
      rw[hrv]
      have hc:iH L++[tY (f7 st)]=iH (L++[f7 st]):=(sJ L [f7 st]).symm
      have hcl:(iH L++[tY (f7 st)]).length=(L++[f7 st]).length:=by rw[hc,d5]
      refine⟨k,by omega,Gp.keepL [0,1,2,3] (by simp) (dO) (H1:=[kX,fW (kJ st),eF (fH s) a b (.sl 3 (L++[f7 st]).length 0 (L++[f7 st]).length),.arr 2 (iH (L++[f7 st]))]) ?_ rfl ?_ fun ρ1 h=>⟨_,_,hr,by simp at hle ⊢;omega,ht.row,.inr rfl,h⟩⟩
      ·exact⟨⟨_,rfl,.same _ _ rfl⟩,⟨_,rfl,by rw[hrs];exact .same _ _ rfl⟩,⟨_,rfl,iN ⟨dJ rfl,dJ ha.closed,dJ hcb.closed,hZ rfl hcl,trivial⟩⟩,⟨_,rfl,A9.of_eq hc (fF _)⟩,trivial⟩
      ·exact⟨.closed _ rfl,aU rfl,aU rfl,aU rfl,nB (HR (by omega) (by omega)),trivial⟩
     ·rw[hdc]at hd
      have hrs:kJ st=⟨(PW st).rest,true⟩:=by rw[kJ,hdc]
      (conv=>whnf);refine bI.of (hd _) ?_
      conv=>whnf
      rw[F1 _ (by rw[hrs])]at hr
      exact err (by rw[hU,vH,←hr,hrs];rfl)
    ·replace hbad:(!st.bad)=false:=hbad
     simp at hbad
     obtain⟨k,rfl⟩:∃k,m=k+1:=⟨m-1,by omega⟩
     rw[iQ,if_pos hbad]at hr
     conv=>whnf
     refine Gp.keepL [0,1,2] (by simp) (dO) (H1:=[kX,fW st,eF (fH s) a b (.list false 2 (iH L))]) ?_ rfl ?_ fun ρ1 h=>⟨rfl,st,L,_,hr,.inr rfl,rfl,h⟩
     ·exact⟨⟨_,rfl,.same _ _ rfl⟩,⟨_,rfl,.same _ _ rfl⟩,⟨_,rfl,iN ⟨dJ rfl,dJ ha.closed,dJ hcb.closed,oF rfl (by simp) (d5 L).symm (fF L),trivial⟩⟩,trivial⟩
     ·exact⟨.closed _ rfl,aU rfl,aU rfl,aU rfl,trivial⟩
   ·simp at hlt
    subst hlt
    conv=>whnf
    refine Gp.keepL [0,1,2] (by simp) (dO) (H1:=[kX,fW st,eF (fH s) a b (.list false 2 (iH L))]) ?_ rfl ?_ fun ρ1 h=>⟨rfl,st,L,_,hr,.inr rfl,rfl,h⟩
    ·exact⟨⟨_,rfl,.same _ _ rfl⟩,⟨_,rfl,.same _ _ rfl⟩,⟨_,rfl,iN ⟨dJ rfl,dJ ha.closed,dJ hcb.closed,oF rfl (by simp) (d5 L).symm (fF L),trivial⟩⟩,trivial⟩
    ·exact⟨.closed _ rfl,aU rfl,aU rfl,aU rfl,trivial⟩
 rintro _ ρ1 H1 ⟨rfl,st,rows,c,hr4,hcc,rfl,d,rfl⟩
 have hrs:vH iV s=st:=by rw[vH,←hr4]
 have hwk:gB (.agg [.str (fH s),a,b,c]) (.agg (cO (tX iV s))):=by
  rw[tX,e2,e3,←hr4]
  exact SS ha hcb hks hcc
 obtain⟨x,hx⟩:∃x,tX iV s=x:=⟨_,rfl⟩
 rw[hx]at hfit hwk hU hR
 rw[hrs]at hU
 (conv=>whnf);refine bI.of (a7.weakD (qJ x hfit _) (.cons hwk .nil)) ?_
 rcases sA x with⟨h1,h2,h3⟩|⟨n,h1,h2,h3⟩
 ·rw[h3]
  (conv=>whnf);refine aE (fun hb=>?_) (fun hb=>?_)
  ·conv=>whnf
   exact err (by rw[hU,hb];rfl)
  (conv=>whnf);refine⟨_,eV _,?_⟩
  (conv=>whnf);refine⟨_,eV _,?_⟩
  (conv=>whnf);refine aE (fun he=>?_) (fun he=>?_)
  ·replace he:(!((dL x).map (fun n=>UInt8.ofNat n.toNat)==b0.map (fun n=>UInt8.ofNat n.toNat)))=true:=he
   rw[AC (t6 _) hby0]at he
   conv=>whnf
   exact err (by rw[hU];simp at he;simp[he])
  ·replace he:(!((dL x).map (fun n=>UInt8.ofNat n.toNat)==b0.map (fun n=>UInt8.ofNat n.toNat)))=false:=he
   rw[AC (t6 _) hby0]at he
   simp at he
   rw[he]at h2
   have hu:sT iV b0=true:=by rw[hU,hb,h1,he];simp;omega
   have ia:a.isCell=true:=(dJ (H:=[]) (ids:=[]) ha.closed).2
   have ib:b.isCell=true:=(dJ (H:=[]) (ids:=[]) hcb.closed).2
   have ic:c.isCell=true:=(dJ (H:=[]) (ids:=[]) hcc.closed).2
   (conv=>whnf);refine b8 (by(show(_&&List.all [a6.str (fH s),a,b,c] a6.isCell)=true);simp only[List.all_cons,List.all_nil,ia,ib,ic];rfl) ?_
   conv=>whnf
   refine⟨_,dU (.closed (.agg [.str (fH s),a,b,c]) ?_) (.closed _ rfl),?_⟩
   ·show List.all [a6.str (fH s),a,b,c] a6.isPure=true
    simp only[List.all_cons,List.all_nil,ha.closed,hcb.closed,hcc.closed];rfl
   ·rw[hR,hu,if_pos rfl]
    exact .tuples (.cons hwk (.cons (.refl _) .nil))
 ·rw[h2]
  (conv=>whnf);refine aE (fun hb=>?_) (fun hb=>?_)
  ·conv=>whnf
   exact err (by rw[hU,hb];rfl)
  (conv=>whnf);refine aE (fun hn=>?_) (fun hn=>?_)
  ·conv=>whnf
   exact err (by
    rw[hU]
    rcases h3 with h3|h3
    ·simp[h3]
    ·by_cases hx2:dL x=b0
     ·rw[←hx2];simp;omega
     ·simp[hx2])
  ·simp at hn
   exact absurd hn h1
theorem GL(b:List Int)(hby:fO b)(hl:b.length≤1000000)(H:List aB):
  a7 pr 29 [.list false 1 (bC b)] H (fun r H'=>r=wZ fS b∧H'=H):=by
 obtain⟨r,hw,h⟩:=JS b hby hl
 rw[TF (fr:=iV) rfl rfl rfl rfl]
 refine a7.weakRD (h H) ?_
 rintro r' H' ⟨rfl,rfl⟩
 exact⟨_,hw,rfl,rfl⟩
theorem dT{k:Nat}(h:k≤10000000):IntKind.i64.wrap ((k:Int)+1)=((k+1:Nat):Int):=by rw[aY _ (by omega) (by omega)];omega
theorem bb{b:Bool}:(b==b)=true:=by cases b<;>rfl
set_option maxRecDepth 20000 in
theorem DX(cs:List c8)(hl:cs.length≤1000000):
  aC pr 82 [.list false 3 (cC cs),.list false 3 (cC cs)] (fun r=>r=.bool true):=by
 have hn:=aW cs
 refine aH k82.has rfl ?_
 (conv=>whnf);refine sF (by simp) ?_
 conv=>whnf
 refine⟨fun m ρ H1=>∃k:Nat,k+m=cs.length∧H1=[]∧Sv 26 [(0,(.list false 3 (cC cs))),(1,(.list false 3 (cC cs))),(5,.int .i64 k)] ρ,cs.length,[],fun i ρ H1=>i=0∧H1=[]∧Sv 26 [] ρ,?_,?_,?_⟩
 ·exact⟨0,by omega,rfl,Sv.intro rfl ⟨rfl,rfl,rfl,trivial⟩⟩
 ·rintro m ρ H1 ⟨k,hk,rfl,d,rfl⟩
  (conv=>whnf);refine aE (fun hlt=>?_) (fun hlt=>?_)
  ·simp at hlt
   obtain⟨c,hc,_⟩:=aX (l:=cs) (k:=k) (by omega)
   (conv=>whnf);refine And.intro (by omega) ?_
   (conv=>whnf);refine b4 (iI hc) ?_
   (conv=>whnf);refine And.intro (by omega) ?_
   (conv=>whnf);refine b4 (iI hc) ?_
   (conv=>whnf);refine sF (by simp[bb]) ?_
   conv=>whnf
   refine⟨m-1,by omega,Gp.keep rfl ?_ fun ρ1 h=>⟨k+1,by omega,rfl,h⟩⟩
   exact⟨rfl,rfl,aN (dT (by omega)),trivial⟩
  ··conv=>whnf
    exact Gp.keep (live:=[]) rfl trivial fun _ h=>⟨rfl,rfl,h⟩
 ·rintro i ρ1 H1 ⟨rfl,rfl,d,rfl⟩
  conv=>whnf
  exact⟨_,.closed _ rfl,rfl⟩
set_option maxRecDepth 20000 in
theorem GR(r:List V)(hl:r.length≤1000000):
  aC pr 133 [.list false 3 (vC r),.list false 3 (vC r)] (fun r=>r=.bool true):=by
 have hn:=b9 r
 refine aH k133.has rfl ?_
 (conv=>whnf);refine sF (by simp) ?_
 conv=>whnf
 refine⟨fun m ρ H1=>∃k:Nat,k+m=r.length∧H1=[]∧Sv 26 [(0,(.list false 3 (vC r))),(1,(.list false 3 (vC r))),(5,.int .i64 k)] ρ,r.length,[],fun i ρ H1=>i=0∧H1=[]∧Sv 26 [] ρ,?_,?_,?_⟩
 ·exact⟨0,by omega,rfl,Sv.intro rfl ⟨rfl,rfl,rfl,trivial⟩⟩
 ·rintro m ρ H1 ⟨k,hk,rfl,d,rfl⟩
  (conv=>whnf);refine aE (fun hlt=>?_) (fun hlt=>?_)
  ·simp at hlt
   obtain⟨c,hc,_⟩:=aX (l:=r) (k:=k) (by omega)
   (conv=>whnf);refine And.intro (by omega) ?_
   (conv=>whnf);refine b4 (r7 hc) ?_
   (conv=>whnf);refine And.intro (by omega) ?_
   (conv=>whnf);refine b4 (r7 hc) ?_
   (conv=>whnf);refine sF (by simp) ?_
   conv=>whnf
   refine⟨m-1,by omega,Gp.keep rfl ?_ fun ρ1 h=>⟨k+1,by omega,rfl,h⟩⟩
   exact⟨rfl,rfl,aN (dT (by omega)),trivial⟩
  ··conv=>whnf
    exact Gp.keep (live:=[]) rfl trivial fun _ h=>⟨rfl,rfl,h⟩
 ·rintro i ρ1 H1 ⟨rfl,rfl,d,rfl⟩
  conv=>whnf
  exact⟨_,.closed _ rfl,rfl⟩
set_option maxRecDepth 20000 in
theorem K9(es:List cU)(hl:es.length≤1000000)(hr:∀e∈es,e.row.length≤1000000):
  aC pr 83 [.list false 2 (eC es),.list false 2 (eC es)] (fun r=>r=.bool true):=by
 have hn:=aR es
 refine aH k83.has rfl ?_
 (conv=>whnf);refine sF (by simp) ?_
 conv=>whnf
 refine⟨fun m ρ H1=>∃k:Nat,k+m=es.length∧H1=[]∧Sv 42 [(0,(.list false 2 (eC es))),(1,(.list false 2 (eC es))),(5,.int .i64 k)] ρ,es.length,[],fun i ρ H1=>i=0∧H1=[]∧Sv 42 [] ρ,?_,?_,?_⟩
 ·exact⟨0,by omega,rfl,Sv.intro rfl ⟨rfl,rfl,rfl,trivial⟩⟩
 ·rintro m ρ H1 ⟨k,hk,rfl,d,rfl⟩
  (conv=>whnf);refine aE (fun hlt=>?_) (fun hlt=>?_)
  ·simp at hlt
   obtain⟨e,he,_,hm⟩:=aX (l:=es) (k:=k) (by omega)
   (conv=>whnf);refine And.intro (by omega) ?_
   (conv=>whnf);refine b4 (eP he) ?_
   (conv=>whnf);refine And.intro (by omega) ?_
   (conv=>whnf);refine b4 (eP he) ?_
   (conv=>whnf);refine sF (by simp) ?_
   (conv=>whnf);refine And.intro (by omega) ?_
   (conv=>whnf);refine b4 (eP he) ?_
   (conv=>whnf);refine And.intro (by omega) ?_
   (conv=>whnf);refine b4 (eP he) ?_
   (conv=>whnf);refine aC.draw (GR e.row (hr e hm)) (fun r hr=>?_)
   obtain rfl:=hr
   conv=>whnf
   refine⟨m-1,by omega,Gp.keep rfl ?_ fun ρ1 h=>⟨k+1,by omega,rfl,h⟩⟩
   exact⟨rfl,rfl,aN (dT (by omega)),trivial⟩
  ··conv=>whnf
    exact Gp.keep (live:=[]) rfl trivial fun _ h=>⟨rfl,rfl,h⟩
 ·rintro i ρ1 H1 ⟨rfl,rfl,d,rfl⟩
  conv=>whnf
  exact⟨_,.closed _ rfl,rfl⟩
set_option maxRecDepth 20000 in
set_option maxHeartbeats 1000000 in
theorem qN(x:pK)(hx:x.Fit)(hk:x.keys.length≤1000000)(hks:∀k∈x.keys,k.2.length≤1000000)(hf:x=oT x):
  aC pr 31 [.agg (cO x),.agg (cO x)] (fun r=>r=.bool true):=by
 obtain⟨nm,ec,cols,ek,keys,er,rows⟩:=x
 simp only[oT,pK.mk.injEq]at hf
 obtain⟨_,rfl,_,rfl,hkf,rfl,_⟩:=hf
 have hkn:=gU keys
 replace hk:keys.length≤1000000:=hk
 refine aH k31.has rfl ?_
 (conv=>whnf);refine sF (by simp) ?_
 (conv=>whnf);refine aC.use (DX cols hx.c) (fun r hr=>?_)
 obtain rfl:=hr
 (conv=>whnf);refine sF (by simp) ?_
 conv=>whnf
 refine⟨fun m ρ H1=>∃k:Nat,k+m=keys.length∧H1=[.arr 4 [cO ⟨nm,false,cols,false,keys,false,rows⟩],.arr 4 [cO ⟨nm,false,cols,false,keys,false,rows⟩]]∧Sv 81 [(2,.ptr 0 1 0 0),(3,.ptr 1 1 0 0),(5,.int .i64 k)] ρ,keys.length,[],
  fun i ρ H1=>i=0∧H1=[.arr 4 [cO ⟨nm,false,cols,false,keys,false,rows⟩],.arr 4 [cO ⟨nm,false,cols,false,keys,false,rows⟩]]∧Sv 81 [(2,.ptr 0 1 0 0),(3,.ptr 1 1 0 0)] ρ,?_,?_,?_⟩
 ·exact⟨0,by omega,rfl,Sv.intro rfl ⟨rfl,rfl,rfl,trivial⟩⟩
 ·rintro m ρ H1 ⟨k,hk1,rfl,d,rfl⟩
  (conv=>whnf);refine aE (fun hlt=>?_) (fun hlt=>?_)
  ·rw[hkn]at hlt
   simp at hlt
   obtain⟨y,hy,_,hm⟩:=aX (l:=keys) (k:=k) (by omega)
   have hyl:=hks y hm
   have hsn:=aP y.2
   (conv=>whnf);refine And.intro (by omega) ?_
   (conv=>whnf);refine b4 (pY hy) ?_
   (conv=>whnf);refine And.intro (by omega) ?_
   (conv=>whnf);refine b4 (pY hy) ?_
   (conv=>whnf);refine sF (by simp) ?_
   conv=>whnf
   refine⟨fun m2 ρ H1=>∃j:Nat,j+m2=y.2.length∧H1=[.arr 4 [cO ⟨nm,false,cols,false,keys,false,rows⟩],.arr 4 [cO ⟨nm,false,cols,false,keys,false,rows⟩]]∧Sv 81 [(2,.ptr 0 1 0 0),(3,.ptr 1 1 0 0),(5,.int .i64 k),(6,.int .i64 j)] ρ,y.2.length,[],
    fun i ρ H1=>i=2∧H1=[.arr 4 [cO ⟨nm,false,cols,false,keys,false,rows⟩],.arr 4 [cO ⟨nm,false,cols,false,keys,false,rows⟩]]∧Sv 81 [(2,.ptr 0 1 0 0),(3,.ptr 1 1 0 0),(5,.int .i64 k)] ρ,?_,?_,?_⟩
   ·exact⟨0,by omega,rfl,Sv.intro rfl ⟨rfl,rfl,rfl,rfl,trivial⟩⟩
   ·rintro m2 ρ H1 ⟨j,hj,rfl,d2,rfl⟩
    (conv=>whnf);refine And.intro (by omega) ?_
    (conv=>whnf);refine b4 (pY hy) ?_
    (conv=>whnf);refine aE (fun hlt2=>?_) (fun hlt2=>?_)
    ·rw[hsn]at hlt2
     simp at hlt2
     obtain⟨t,ht,_⟩:=aX (l:=y.2) (k:=j) (by omega)
     (conv=>whnf);refine And.intro (by omega) ?_
     (conv=>whnf);refine b4 (pY hy) ?_
     (conv=>whnf);refine And.intro (by omega) ?_
     (conv=>whnf);refine b4 (mL ht) ?_
     (conv=>whnf);refine And.intro (by omega) ?_
     (conv=>whnf);refine b4 (pY hy) ?_
     (conv=>whnf);refine And.intro (by omega) ?_
     (conv=>whnf);refine b4 (mL ht) ?_
     (conv=>whnf);refine sF (by simp) ?_
     conv=>whnf
     refine⟨m2-1,by omega,Gp.keep rfl ?_ fun ρ1 h=>⟨j+1,by omega,rfl,h⟩⟩
     exact⟨rfl,rfl,rfl,aN (dT (by omega)),trivial⟩
    ·conv=>whnf
     refine Gp.keep rfl ?_ fun _ h=>⟨rfl,rfl,h⟩
     exact⟨rfl,rfl,rfl,trivial⟩
   ·rintro i ρ1 H1 ⟨rfl,rfl,d2,rfl⟩
    conv=>whnf
    refine⟨m-1,by omega,Gp.keep rfl ?_ fun ρ1 h=>⟨k+1,by omega,rfl,h⟩⟩
    exact⟨rfl,rfl,aN (dT (by omega)),trivial⟩
  ·conv=>whnf
   refine Gp.keep rfl ?_ fun _ h=>⟨rfl,rfl,h⟩
   exact⟨rfl,rfl,trivial⟩
 ·rintro i ρ1 H1 ⟨rfl,rfl,d,rfl⟩
  (conv=>whnf);refine aC.use (K9 rows hx.l hx.r) (fun r hr=>?_)
  obtain rfl:=hr
  conv=>whnf
  exact⟨_,.closed _ rfl,rfl⟩
set_option maxRecDepth 20000 in
theorem NA(e:Bool)(l:List cU)(n:Int)(hn0:n≤1000):
  aC pr 25 [.list e 2 (eC l),.int .i64 n] (fun r=>∃t,r=.bool t∧(t=true→(l.length:Int)≤n∧∀x∈l,x.row.length≤20)):=by
 have hn:=aR l
 refine aH k25.has (by simp[a6.closed,a6.isPure]) ?_
 (conv=>whnf);refine aE (fun h1=>?_) (fun h1=>?_)
 ·conv=>whnf
  exact⟨_,.closed _ rfl,false,rfl,fun h=>by cases h⟩
 rw[hn]at h1
 simp at h1
 conv=>whnf
 refine⟨fun m ρ H1=>∃k:Nat,k+m=l.length∧H1=[]∧(∀x∈l.take k,x.row.length≤20)∧Sv 45 [(0,.list e 2 (eC l)),(5,.int .i64 k)] ρ,l.length,[],fun i ρ H1=>i=0∧H1=[]∧(∀x∈l,x.row.length≤20)∧Sv 45 [] ρ,?_,?_,?_⟩
 ·exact⟨0,by omega,rfl,(fun x h=>by simp at h),Sv.intro rfl ⟨rfl,rfl,trivial⟩⟩
 ·rintro m ρ H1 ⟨k,hk,rfl,hs,d,rfl⟩
  (conv=>whnf);refine aE (fun hlt=>?_) (fun hlt=>?_)
  ·rw[hn]at hlt
   simp at hlt
   obtain⟨y,hy,_,hm⟩:=aX (l:=l) (k:=k) (by omega)
   have hv:=b9 y.row
   (conv=>whnf);refine And.intro (by omega) ?_
   (conv=>whnf);refine b4 (eP hy) ?_
   (conv=>whnf);refine aE (fun h2=>?_) (fun h2=>?_)
   ·conv=>whnf
    exact⟨_,.closed _ rfl,false,rfl,fun h=>by cases h⟩
   rw[hv]at h2
   simp at h2
   conv=>whnf
   refine⟨fun m2 ρ H1=>∃j:Nat,j+m2=y.row.length∧H1=[]∧Sv 45 [(0,.list e 2 (eC l)),(5,.int .i64 k),(6,.int .i64 j)] ρ,y.row.length,[],fun i ρ H1=>i=2∧H1=[]∧Sv 45 [(0,.list e 2 (eC l)),(5,.int .i64 k)] ρ,?_,?_,?_⟩
   ·exact⟨0,by omega,rfl,Sv.intro rfl ⟨rfl,rfl,rfl,trivial⟩⟩
   ·rintro m2 ρ H1 ⟨j,hj,rfl,d2,rfl⟩
    (conv=>whnf);refine And.intro (by omega) ?_
    (conv=>whnf);refine b4 (eP hy) ?_
    (conv=>whnf);refine aE (fun hlt2=>?_) (fun hlt2=>?_)
    ·rw[hv]at hlt2
     simp at hlt2
     obtain⟨t,ht,_⟩:=aX (l:=y.row) (k:=j) (by omega)
     (conv=>whnf);refine And.intro (by omega) ?_
     (conv=>whnf);refine b4 (eP hy) ?_
     (conv=>whnf);refine And.intro (by omega) ?_
     (conv=>whnf);refine b4 (r7 ht) ?_
     (conv=>whnf);refine aE (fun h3=>?_) (fun h3=>?_)
     ·conv=>whnf
      exact⟨_,.closed _ rfl,false,rfl,fun h=>by cases h⟩
     ·conv=>whnf
      refine⟨m2-1,by omega,Gp.keep rfl ?_ fun ρ1 h=>⟨j+1,by omega,rfl,h⟩⟩
      exact⟨rfl,rfl,aN (dT (by omega)),trivial⟩
    ·conv=>whnf
     refine Gp.keep rfl ?_ fun _ h=>⟨rfl,rfl,h⟩
     exact⟨rfl,rfl,trivial⟩
   ·rintro i ρ1 H1 ⟨rfl,rfl,d2,rfl⟩
    conv=>whnf
    refine⟨m-1,by omega,Gp.keep rfl ?_ fun ρ1 h=>⟨k+1,by omega,rfl,fun x hx=>?_,h⟩⟩
    ·exact⟨rfl,aN (dT (by omega)),trivial⟩
    ·rw[List.take_add_one,hy]at hx
     rcases List.mem_append.1 hx with hx|hx
     ·exact hs x hx
     ·simp at hx;subst hx;omega
  ·rw[hn]at hlt
   simp at hlt
   rw[List.take_of_length_le (by omega)]at hs
   conv=>whnf
   exact Gp.keep (live:=[]) rfl trivial fun _ h=>⟨rfl,rfl,hs,h⟩
 ·rintro i ρ1 H1 ⟨rfl,rfl,hs,d,rfl⟩
  conv=>whnf
  exact⟨_,.closed _ rfl,true,rfl,fun _=>⟨by omega,hs⟩⟩
end Go.AW
namespace Go.AW
variable [dE]
attribute [local irreducible] a7
def VI(x y:c8):Bool:=(x.name.data.toList==y.name.data.toList)&&(x.kind==y.kind)
def K8:List c8→List c8→Bool
 |[],[]=>true
 |x::a,y::b=>VI x y&&K8 a b
 |_,_=>false
theorem D4:∀(a b:List c8),a.length≠b.length→K8 a b=false
 |[],[],h=>absurd rfl h
 |[],_::_,_=>rfl
 |_::_,[],_=>rfl
 |x::a,y::b,h=>by rw[K8,D4 a b (by simpa using h)];simp
def nI:List c8→List c8→List c8
 |x::a,y::b=>⟨x.name,x.kind,x.nul||y.nul⟩::nI a b
 |a,[]=>a
 |[],_=>[]
theorem iS:∀(a b:List c8),(nI a b).length=a.length
 |x::a,y::b=>by simp[nI,iS a b]
 |[],[]=>rfl
 |_::_,[]=>rfl
 |[],_::_=>rfl
theorem KW:∀(a b:List c8) (k:Nat) (x y:c8),a[k]?=some x→b[k]?=some y→(nI a b)[k]?=some ⟨x.name,x.kind,x.nul||y.nul⟩
 |[],_,_,_,_,h,_=>by simp at h
 |_::_,[],_,_,_,_,h=>by simp at h
 |a0::a,b0::b,0,x,y,h1,h2=>by simp at h1 h2;subst h1 h2;simp[nI]
 |a0::a,b0::b,k+1,x,y,h1,h2=>by
  have:=KW a b k x y (by simpa using h1) (by simpa using h2)
  rw[nI,List.getElem?_cons_succ];exact this
theorem FC:∀(a b:List c8) (k:Nat),(a.length≤k∨b.length≤k)→(nI a b).drop k=a.drop k
 |[],[],k,_=>rfl
 |[],_::_,k,_=>rfl
 |_::_,[],k,_=>rfl
 |x::a,y::b,0,h=>by simp at h
 |x::a,y::b,k+1,h=>by
  rw[nI,List.drop_succ_cons,List.drop_succ_cons]
  exact FC a b k (by simpa using h)
def s6(W a:List c8)(k:Nat):List c8:=W.take k++a.drop k
theorem J9(W a:List c8)(k:Nat)(h:W.length=a.length):(s6 W a k).length=a.length:=by simp[s6];omega
theorem RU(W a:List c8)(k:Nat)(x:c8)(h:W.length=a.length)(hx:a[k]?=some x):(s6 W a k)[k]?=some x:=by
 have hk:=(List.getElem?_eq_some_iff.1 hx).1
 have h1:(W.take k).length=k:=by simp;omega
 rw[s6,List.getElem?_append_right (by omega),h1,Nat.sub_self,List.getElem?_drop]
 simpa using hx
theorem RV(W a:List c8)(k:Nat)(w:c8)(h:W.length=a.length)(hw:W[k]?=some w):(s6 W a k).set k w=s6 W a (k+1):=by
 have hk:=(List.getElem?_eq_some_iff.1 hw).1
 have h1:(W.take k).length=k:=by simp;omega
 obtain⟨x,hx,hd,_⟩:=aX (l:=a) (k:=k) (by omega)
 rw[s6,s6,List.set_append_right _ _ (by omega),h1,Nat.sub_self,hd,List.set_cons_zero,List.take_add_one,hw]
 simp
theorem J8(a b:List c8)(k:Nat)(h:a.length≤k∨b.length≤k):s6 (nI a b) a k=nI a b:=by
 rw[s6,←FC a b k h,List.take_append_drop]
set_option maxRecDepth 20000 in
theorem sG(e1 e2:Bool)(a b:List c8)(ha:a.length≤1000000)(H:List aB):
  a7 pr 184 [.list e1 3 (cC a),.list e2 3 (cC b)] H (fun r H'=>r=.bool (K8 a b)∧H'=H):=by
 refine a7.pure (by simp[a6.closed,a6.isPure]) (aA k184.has ?_)
 (conv=>whnf);refine aE (fun h0=>?_) (fun h0=>?_)
 ·simp[aW]at h0
  conv=>whnf
  exact i3 (D4 a b (by omega)).symm
 simp[aW]at h0
 conv=>whnf
 refine⟨fun m ρ H1=>∃k:Nat,k+m=a.length∧K8 (a.drop k) (b.drop k)=K8 a b∧H1=[] ∧
  Sv 41 [(0,.list e1 3 (cC a)),(1,.list e2 3 (cC b)),(5,.int .i64 k)] ρ,a.length,[],?_,?_⟩
 ·exact⟨0,by omega,rfl,rfl,Sv.intro rfl ⟨rfl,rfl,rfl,trivial⟩⟩
 rintro m ρ H1 ⟨k,hk,hr,rfl,d,rfl⟩
 (conv=>whnf);refine aE (fun hlt=>?_) (fun hlt=>?_)
 ·simp[aW]at hlt
  obtain⟨x,hx,hdx,_⟩:=aX hlt
  obtain⟨y,hy,hdy,_⟩:=aX (show k<b.length by omega)
  rw[hdx,hdy,K8]at hr
  repeat'((conv=>whnf);first|refine And.intro (by omega) ?_|refine b4 (iI hx) ?_|refine b4 (iI hy) ?_|refine aE (fun h=>?_) (fun h=>?_))
  all_goals(conv=>whnf)
  all_goals first
   |refine⟨m-1,by omega,Gp.none rfl ?_ fun ρ1 h=>⟨k+1,by omega,?_,rfl,h⟩⟩
   |refine i3 ?_
  all_goals first
   |exact⟨.closed _ rfl,.closed _ rfl,eT (aY ((k:Int)+1) (by omega) (by omega)),trivial⟩
   |skip
  all_goals
   rw[←hr]
   clear hr
   simp_all [VI]
 ·simp[aW]at hlt
  conv=>whnf
  rw[List.drop_eq_nil_of_le hlt,List.drop_eq_nil_of_le (show b.length≤k by omega)]at hr
  exact i3 hr
set_option maxRecDepth 20000 in
theorem CN(e1 e2:Bool)(a b:List c8)(hl:a.length≤1000000)(hl2:b.length≤1000000):
  a7 pr 280 [.list e1 3 (cC a),.list e2 3 (cC b)] [] (fun r H'=>r=.sl 0 a.length 0 a.length∧H'=[.arr 3 (cC (nI a b))]):=by
 refine aA k280.has ?_
 conv=>whnf
 refine And.intro ⟨cM (by simp[aW];omega) (by omega),bK (by simp[aW];omega)⟩ ?_
 conv=>whnf
 refine⟨fun m ρ H=>∃k:Nat,k+m=min a.length b.length∧H=[.arr 3 (cC (s6 (nI a b) a k))]∧Sv 38 [(1,.list e2 3 (cC b)),(5,.sl 0 a.length 0 a.length),(6,.int .i64 k)] ρ,min a.length b.length,[],?_,?_⟩
 ·refine⟨0,by omega,?_,Sv.intro rfl ⟨rfl,eS (aW a) (aW a),rfl,trivial⟩⟩
  have h0:s6 (nI a b) a 0=a:=by rw[s6,List.take_zero,List.drop_zero,List.nil_append]
  rw[h0]
 rintro m ρ H ⟨k,hk,rfl,d,rfl⟩
 have hlen:(cC (s6 (nI a b) a k)).length=a.length:=by rw[aW,J9 _ _ _ (iS a b)]
 (conv=>whnf);refine b8 (by rw[hlen];exact Nat.beq_refl _) ?_
 (conv=>whnf);refine aE (fun hlt=>?_) (fun hlt=>?_)
 ·replace hlt:decide ((k:Int)<(a.length:Int))=true:=hlt
  simp at hlt
  (conv=>whnf);refine aE (fun hlt2=>?_) (fun hlt2=>?_)
  ·replace hlt2:decide ((k:Int)<((cC b).length:Int))=true:=hlt2
   simp[aW]at hlt2
   obtain⟨x,hx,_,_⟩:=aX (l:=a) (k:=k) (by omega)
   obtain⟨y,hy,_,_⟩:=aX (l:=b) (k:=k) (by omega)
   have hw:=KW a b k x y hx hy
   have hidx:(cC (s6 (nI a b) a k))[0+(k:Int).toNat]?=some (fY x):=by
    rw[Nat.zero_add,Int.toNat_natCast];exact iI (RU _ _ _ _ (iS a b) hx)
   have ew:=aY ((k:Int)+1) (by omega) (by omega)
   have fin:∀q:Bool,(x.nul||y.nul)=q→[aB.arr 3 (uH (cC (s6 (nI a b) a k)) (0+(k:Int).toNat) (fY ⟨x.name,x.kind,q⟩))]=[aB.arr 3 (cC (s6 (nI a b) a (k+1)))]:=by
    intro q hq;subst hq
    rw[Nat.zero_add,Int.toNat_natCast,KA,RV _ _ _ _ (iS a b) hw]
   (conv=>whnf);refine b8 (by rw[hlen];exact Nat.beq_refl _) ?_
   (conv=>whnf);refine And.intro ⟨by omega,by omega⟩ ?_
   (conv=>whnf);refine b8 (by rw[hlen];exact Nat.beq_refl _) ?_
   conv=>whnf
   refine b4 hidx ?_
   (conv=>whnf);refine aE (fun g=>?_) (fun g=>?_)
   ·(conv=>whnf);refine b8 (by rw[hlen];exact Nat.beq_refl _) ?_
    (conv=>whnf);refine And.intro ⟨by omega,by omega⟩ ?_
    (conv=>whnf);refine b8 (by rw[hlen];exact Nat.beq_refl _) ?_
    conv=>whnf
    refine b4 hidx ?_
    conv=>whnf
    refine⟨m-1,by omega,Gp.keep rfl ?_ fun ρ1 h=>⟨k+1,by omega,?_,h⟩⟩
    ·exact⟨rfl,rfl,aN ew,trivial⟩
    ·rw[←fin true (by rw[g];rfl)];rfl
   ·(conv=>whnf);refine And.intro (by omega) ?_
    (conv=>whnf);refine b4 (iI hy) ?_
    (conv=>whnf);refine b8 (by rw[hlen];exact Nat.beq_refl _) ?_
    (conv=>whnf);refine And.intro ⟨by omega,by omega⟩ ?_
    (conv=>whnf);refine b8 (by rw[hlen];exact Nat.beq_refl _) ?_
    conv=>whnf
    refine b4 hidx ?_
    conv=>whnf
    refine⟨m-1,by omega,Gp.keep rfl ?_ fun ρ1 h=>⟨k+1,by omega,?_,h⟩⟩
    ·exact⟨rfl,rfl,aN ew,trivial⟩
    ·rw[←fin y.nul (by rw[g];rfl)];rfl
  ·replace hlt2:decide ((k:Int)<((cC b).length:Int))=false:=hlt2
   simp[aW]at hlt2
   conv=>whnf
   refine⟨rfl,?_⟩
   rw[J8 a b k (by omega)]
 ·replace hlt:decide ((k:Int)<(a.length:Int))=false:=hlt
  simp at hlt
  conv=>whnf
  refine⟨rfl,?_⟩
  rw[J8 a b k (by omega)]
theorem A2(e1 e2:Bool)(a b:List c8)(hl:a.length≤1000000)(hl2:b.length≤1000000)(H:List aB):
  a7 pr 280 [.list e1 3 (cC a),.list e2 3 (cC b)] H (fun r H'=>r=.list false 3 (cC (nI a b))∧H'=H) :=
 a7.frz1 (by simp[a6.closed,a6.isPure]) (CN e1 e2 a b hl hl2) (by rw[aW,iS]) (cI _)
end Go.AW
namespace Go.AW
variable [dE]
def a6.low(n:Nat):a6→Bool
 |.ptr id _ _ _=>Nat.blt id n
 |.sl id _ _ _=>Nat.blt id n
 |v=>v.closed
def a6.lowC(n:Nat):a6→Bool
 |.ptr id _ _ _=>Nat.blt id n
 |.sl id _ _ _=>Nat.blt id n
 |v=>v.isPure
def aB.lowO(n:Nat):aB→Prop
 |.arr _ es=>(es.all fun e=>e.all (a6.lowC n))=true
 |_=>False
def HV(n:Nat):List aB→Prop
 |[]=>True
 |o::r=>o.lowO n∧HV n r
theorem HV.get{n:Nat}:∀{H:List aB},HV n H→∀o∈H,o.lowO n
 |[],_,o,ho=>by cases ho
 |x::H,h,o,ho=>by
  rcases List.mem_cons.1 ho with rfl|ho
  ·exact h.1
  ·exact HV.get h.2 o ho
theorem CM{H:List aB}{n:Nat}{v:a6}(h:v.lowC n=true):dV H 0 (List.range n) v v∧v.isCell=true:=by
 have get:∀{i:Nat},i<n→(List.range n)[i]?=some i:=fun{i} hi=>by rw[List.getElem?_range hi]
 cases v with
 |ptr id ep idx fld =>
  have hid:id<n:=by have:=h;simp[a6.lowC,Nat.blt]at this;omega
  have:=dV.keepP (H1:=H) (n:=0) (ids:=List.range n) id ep idx fld id (get hid)
  rw[Nat.zero_add]at this
  exact⟨this,rfl⟩
 |sl id ep off len =>
  have hid:id<n:=by have:=h;simp[a6.lowC,Nat.blt]at this;omega
  have:=dV.keep (H1:=H) (n:=0) (ids:=List.range n) id ep off len id (get hid)
  rw[Nat.zero_add]at this
  exact⟨this,rfl⟩
 |_=>first
  |exact⟨.closed _ h,rfl⟩
  |cases h
theorem UK{H:List aB}{n:Nat}{v:a6}(h:v.low n=true):dV H 0 (List.range n) v v:=by
 cases v with
 |ptr id ep idx fld=>exact(CM (v:=.ptr id ep idx fld) h).1
 |sl id ep off len=>exact(CM (v:=.sl id ep off len) h).1
 |_=>exact .closed _ h
theorem WL{H:List aB}{n:Nat}{o:aB}(h:o.lowO n):A9 H (List.range n) o o:=by
 cases o with
 |arr esz es =>
  have hc:∀(i j:Nat) (e:List a6) (d:a6),es[i]?=some e→e[j]?=some d→d.lowC n=true:=fun i j e d he hd =>
   List.all_eq_true.1 (List.all_eq_true.1 h e (List.mem_of_getElem? he)) d (List.mem_of_getElem? hd)
  refine .map esz es es rfl (fun i e e1 h1 h2=>by rw[h1]at h2;cases h2;rfl) fun i j e e1 d d1 h1 h2 h3 h4=>?_
  rw[h1]at h2;cases h2
  rw[h3]at h4;cases h4
  exact CM (hc i j e d h1 h3)
 |_=>exact h.elim
def M8(n:Nat):List (Nat×a6)→Bool
 |[]=>true
 |p::r=>p.2.low n&&M8 n r
theorem lL.of{H:List aB}{n:Nat}{ρ:List a6}:∀{live:List (Nat×a6)},vQ ρ live→M8 n live=true→lL H (List.range n) ρ live
 |[],_,_=>trivial
 |(j,v)::r,h,hl=>by
  simp only[M8,Bool.and_eq_true]at hl
  refine⟨?_,lL.of h.2 hl.2⟩
  rw[h.1]
  exact UK hl.1
theorem xQ{H G:List aB}(hp:HV H.length H):∀(k:Nat),k≤H.length→U4 (H++G) (List.range H.length) (List.range' k (H.length-k)) (H.drop k):=by
 intro k hk
 obtain⟨j,hj⟩:∃j,j=H.length-k:=⟨_,rfl⟩
 induction j generalizing k with
 |zero =>
  rw[show H.length-k=0 from hj.symm,List.drop_eq_nil_of_le (by omega)]
  trivial
 |succ j ih =>
  have hlt:k<H.length:=by omega
  rw[show H.length-k=(H.length-(k+1))+1 from by omega,List.range'_succ,List.drop_eq_getElem_cons hlt]
  refine⟨⟨H[k],?_,WL (hp.get _ (List.getElem_mem _))⟩,ih (k+1) (by omega) (by omega)⟩
  rw[List.getElem?_append_left hlt,List.getElem?_eq_getElem hlt]
theorem Gp.cut{n:Nat}{live:List (Nat×a6)}{ρ:List a6}{H H' G:List aB}{I:List a6→List aB→Prop}(hH:H'=H++G)(hp:HV H.length H)(hl:ρ.length=n)(hlow:M8 H.length live=true)(h:vQ ρ live)
  (hI:∀ρ1,Sv n live ρ1→I ρ1 H):Gp [] ρ H' I:=by
 subst hH
 refine Gp.keepL (List.range H.length) List.nodup_range (fun k n h=>by simp at h) (H1:=H) ?_ hl (lL.of h hlow) hI
 have:=xQ (G:=G) hp 0 (Nat.zero_le _)
 rw[List.drop_zero,Nat.sub_zero]at this
 rw[List.range_eq_range']
 rwa [List.range_eq_range']at this
theorem aK{c:Prop}[Decidable c]{p q:Prop}(ht:c→p)(hf:¬c→q): @Bool.rec (fun _=>Prop) q p (decide c):=by
 by_cases h:c
 ·rw[decide_eq_true h];exact ht h
 ·rw[decide_eq_false h];exact hf h
theorem aL{a b:Int}{p q:Prop}(ht:a=b→p)(hf:a≠b→q): @Bool.rec (fun _=>Prop) q p (a==b):=by
 by_cases h:a=b
 ·rw[beq_iff_eq.2 h];exact ht h
 ·rw[beq_eq_false_iff_ne.2 h];exact hf h
theorem aM{a b:Int}{p q:Prop}(ht:a≠b→p)(hf:a=b→q): @Bool.rec (fun _=>Prop) q p (a != b):=by
 by_cases h:a=b
 ·rw[bne_eq_false_iff_eq.2 h];exact hf h
 ·rw[bne_iff_ne.2 h];exact ht h
theorem aF{b:Bool}{p q:Prop}(ht:b=false→p)(hf:b=true→q): @Bool.rec (fun _=>Prop) q p (!b):=by
 cases b
 ·exact ht rfl
 ·exact hf rfl
theorem iP{α:Type}{f:α→List a6}{l:List α}{i:Nat}{q:Prop}{k:List a6→Prop}(hi:i<l.length)(h:∀x,l[i]?=some x→x∈l→k (f x)): @Option.rec (List a6) (fun _=>Prop) q (fun e=>k e) (l.map f)[i]?:=by
 have h1:(l.map f)[i]?=some (f l[i]):=by rw[List.getElem?_map,List.getElem?_eq_getElem hi];rfl
 exact b4 h1 (h l[i] (List.getElem?_eq_getElem hi) (List.getElem_mem hi))
theorem WA{α:Type}{f:α→List a6}{l:List α}{i:Nat}{x:α}(h:l[i]?=some x):(l.map f)[i]?=some (f x):=by rw[List.getElem?_map,h];rfl
theorem aI{a b:Prop}(h:b)(q:a := by first|exact rfl|omega|(simp<;>omega)|(simp[aQ]<;>omega)):a∧b:=⟨q,h⟩
theorem oA{α:Type}{f:α→List a6}{l:List α}{i:Nat}{q:Prop}{k:List a6→Prop}{x:α}(h:k (f x))(g:l[i]?=some x := by assumption): @Option.rec (List a6) (fun _=>Prop) q (fun e=>k e) (l.map f)[i]?:=b4 (WA g) h
theorem oM{α:Type}{f:α→List a6}{l:List α}{i:Nat}{q:Prop}{k:List a6→Prop}(h:∀x,l[i]?=some x→x∈l→k (f x))(g:i<l.length := by omega): @Option.rec (List a6) (fun _=>Prop) q (fun e=>k e) (l.map f)[i]?:=iP g h
def mC{α:Type}(f:α→List a6)(l:List α):List (List a6):=l.map f
@[simp] theorem aZ{α:Type}(f:α→List a6)(l:List α):(mC f l).length=l.length:=List.length_map ..
theorem dD{α:Type}(f:α→List a6)(a b:List α):mC f (a++b)=mC f a++mC f b:=List.map_append
theorem oZ{α:Type}{f:α→List a6}{l:List α}{k:Nat}{x:α}(h:l[k]?=some x):(mC f l)[k]?=some (f x):=by rw[mC,List.getElem?_map,h];rfl
theorem aV{α:Type}{f:α→List a6}(hf:∀x,(f x).all a6.isPure=true)(l:List α):bG (mC f l)=true:=by
 simp only[bG,mC,List.all_map,List.all_eq_true]
 exact fun x _=>hf x
attribute [simp] aW aP b9 cA gU aR
structure oO where
 op:Int
 v:V
 name:ByteArray
 ar:Int
structure X9 where
 name:ByteArray
 fn:Int
 col:ByteArray
 num:Int
 ex:List oO
structure rG where
 op:Int
 src:ByteArray
 names:List ByteArray
 others:List ByteArray
 items:List X9
 cond:List oO
structure ZL where
 at':Int
 off:Int
structure I0 where
 name:ByteArray
 off:Int
 shifts:List ZL
structure yP where
 name:ByteArray
 cols:List c8
 key:List ByteArray
 at':ByteArray
 zone:ByteArray
 late:Int
 reop:Int
structure YJ where
 name:ByteArray
 params:List ByteArray
 body:List oO
structure vP where
 name:ByteArray
 self:List c8
 query:List rG
 part:ByteArray
 zone:ByteArray
 strat:Int
 owner:ByteArray
 cost:Int
structure KX where
 name:ByteArray
 src:ByteArray
structure zQ where
 name:ByteArray
 table:ByteArray
 kind:Int
 cols:List ByteArray
 other:ByteArray
 ocols:List ByteArray
 low:Int
 high:Int
 cond:List oO
 ln:Int
 ld:Int
 mn:Int
 md:Int
 pol:Int
structure rA where
 zones:List I0
 sources:List yP
 macros:List YJ
 models:List vP
 snaps:List KX
 checks:List zQ
def fZ(n:oO):List a6:=[.int .i64 n.op,.int .i64 n.v.kind,.int .i64 n.v.num,.str n.v.str,.str n.name,.int .i64 n.ar]
def nL(l:List oO):a6:=.list false 6 (mC fZ l)
def sL(l:List ByteArray):a6:=.list false 1 (sC l)
def cL(l:List c8):a6:=.list false 3 (cC l)
def G6(x:X9):List a6:=[.str x.name,.int .i64 x.fn,.str x.col,.int .i64 x.num,nL x.ex]
def cD(s:rG):List a6:=[.int .i64 s.op,.str s.src,sL s.names,sL s.others,.list false 5 (mC G6 s.items),nL s.cond]
def XV(s:ZL):List a6:=[.int .i64 s.at',.int .i64 s.off]
def mA(z:I0):List a6:=[.str z.name,.int .i64 z.off,.list false 2 (mC XV z.shifts)]
def Y6(l:List I0):a6:=.list false 3 (mC mA l)
def DC(s:yP):List a6:=[.str s.name,cL s.cols,sL s.key,.str s.at',.str s.zone,.int .i64 s.late,.int .i64 s.reop]
def XL(m:YJ):List a6:=[.str m.name,sL m.params,nL m.body]
def PL(l:List rG):a6:=.list false 6 (mC cD l)
def gQ(m:vP):List a6:=[.str m.name,cL m.self,PL m.query,.str m.part,.str m.zone,.int .i64 m.strat,.str m.owner,.int .i64 m.cost]
def T8(s:KX):List a6:=[.str s.name,.str s.src]
def eN(c:zQ):List a6:=[.str c.name,.str c.table,.int .i64 c.kind,sL c.cols,.str c.other,sL c.ocols,.int .i64 c.low,.int .i64 c.high,nL c.cond,.int .i64 c.ln,.int .i64 c.ld,.int .i64 c.mn,.int .i64 c.md,.int .i64 c.pol]
theorem wE(n:oO):(fZ n).all a6.isPure=true:=rfl
theorem KQ(n:rG):(cD n).all a6.isPure=true:=rfl
theorem eD(n:vP):(gQ n).all a6.isPure=true:=rfl
theorem IG(n:zQ):(eN n).all a6.isPure=true:=rfl
def Fl{α:Type}(p:α→Prop)(l:List α):Prop:=l.length≤100000∧∀x∈l,p x
def bM(s:ByteArray):Prop:=s.size≤100000
def xU(n:oO):Prop:=bM n.name
def XB(c:c8):Prop:=bM c.name
def XH(x:X9):Prop:=bM x.name∧bM x.col∧Fl xU x.ex
def m5(s:rG):Prop:=bM s.src∧Fl bM s.names∧Fl bM s.others∧Fl XH s.items∧Fl xU s.cond
def E2(z:I0):Prop:=bM z.name∧z.shifts.length≤100000
def Q7(s:yP):Prop:=bM s.name∧Fl XB s.cols∧Fl bM s.key∧bM s.at'∧bM s.zone
def YZ(m:YJ):Prop:=bM m.name∧Fl bM m.params∧Fl xU m.body
def GA(m:vP):Prop:=bM m.name∧Fl XB m.self∧Fl m5 m.query∧bM m.part∧bM m.zone∧bM m.owner
def WU(s:KX):Prop:=bM s.name∧bM s.src
def FQ(c:zQ):Prop:=bM c.name∧bM c.table∧Fl bM c.cols∧bM c.other∧Fl bM c.ocols∧Fl xU c.cond
structure rA.F(d:rA):Prop where
 z:Fl E2 d.zones
 s:Fl Q7 d.sources
 m:Fl YZ d.macros
 q:Fl GA d.models
 n:Fl WU d.snaps
 c:Fl FQ d.checks
attribute [local irreducible] a7 bI oN Gp
def E4(r:a6):Prop:=∃b,r=.bool b
def L6(r:a6):Prop:=∃n:Int,r=.int .i64 n
theorem G4(b:Bool){H:List aB}:∃r,dV H 0 [] (.bool b) r∧E4 r:=⟨_,.closed _ rfl,_,rfl⟩
theorem HQ(n:Int){H:List aB}:∃r,dV H 0 [] (.int .i64 n) r∧L6 r:=⟨_,.closed _ rfl,_,rfl⟩
def Z7:List ByteArray:=[bs [97,110,100],bs [111,114],bs [110,111,116],bs [110,117,108,108],bs [116,114,117,101],bs [102,97,108,115,101],bs [98,121],bs [115,101,108,102]]
def YN:List ByteArray:=[bs [105,102],bs [99,111,97,108,101,115,99,101],bs [105,115,110,117,108,108],bs [108,101,110,103,116,104],bs [100,97,121]]
theorem qL(s:ByteArray):aC pr 229 [.str s] E4:=by
 refine aH k229.has rfl ?_
 (conv=>whnf);refine bI.of (vN true Z7 (by decide) s _) ?_
 conv=>whnf
 exact G4 _
theorem I7(s:ByteArray):aC pr 289 [.str s] E4:=by
 refine aH k289.has rfl ?_
 (conv=>whnf);refine bI.of (vN true YN (by decide) s _) ?_
 conv=>whnf
 exact G4 _
theorem fC(s:ByteArray):aC pr 228 [.str s] E4:=by
 refine aH k228.has rfl ?_
 (conv=>whnf);refine bI.of (eH s _) ?_
 (conv=>whnf);refine aE (fun h=>?_) (fun h=>?_)
 ·(conv=>whnf);refine aC.use (qL s) (fun r hr=>?_)
  obtain⟨b,rfl⟩:=hr
  conv=>whnf
  exact G4 _
 ·conv=>whnf
  exact G4 _
theorem i7(s:ByteArray)(hs:bM s):aC pr 178 [.str s] (fun r=>∃b,r=.bool b∧(b=true→mK s=true)):=by
 have hs2:s.size≤1000000:=Nat.le_trans hs (by decide)
 refine aH k178.has rfl ?_
 (conv=>whnf);refine bI.of (kW s hs2 _) ?_
 (conv=>whnf);refine aE (fun h=>?_) (fun h=>?_)
 ·(conv=>whnf);refine aC.use (qL s) (fun r hr=>?_)
  obtain⟨b,rfl⟩:=hr
  conv=>whnf
  exact⟨_,.closed _ rfl,_,rfl,fun _=>h⟩
 ·conv=>whnf
  exact⟨_,.closed _ rfl,_,rfl,fun h2=>by cases h2⟩
def vS(n:oO):Int:=if n.op=21 then n.ar else if n.op=0∨n.op=1 then 0 else if n.op=2∨n.op=3∨n.op=16∨n.op=19∨n.op=20 then 1 else if n.op=17 then 3 else if 4≤n.op∧n.op≤18 then 2 else -1
set_option maxRecDepth 20000 in
theorem sY(n:oO):aC pr 233 [.agg (fZ n)] (fun r=>r=.int .i64 (vS n)):=by
 suffices h:aC pr 233 [.agg (fZ n)] (fun r=>∃m,r=.int .i64 m∧m=vS n)from h.mono fun r ⟨m,h1,h2⟩=>by rw[h1,h2]
 refine aH k233.has rfl ?_
 repeat'((conv=>whnf);first|refine And.intro (by omega) ?_|refine oA ?_|refine oM fun x hx hm=>?_|((first|apply aK|apply aL|apply aM|apply aF|apply aE)<;>intro h<;>try simp at h))
 any_goals((conv=>whnf);first|exact⟨_,.closed _ rfl,_,rfl,by unfold vS;(repeat' split)<;>omega⟩)
theorem VY{n:oO}(h:n.op≠21):vS n≤3:=by unfold vS;(repeat' split)<;>omega
theorem VX{n:oO}(h:n.op=0∨n.op=1∨n.op=20):0≤vS n∧vS n≤8:=by unfold vS;(repeat' split)<;>omega
set_option maxRecDepth 20000 in
set_option maxHeartbeats 1000000 in
theorem LZ(n:oO)(hn:xU n):aC pr 266 [.agg (fZ n)] (fun r=>∃b,r=.bool b∧(b=true→0≤vS n∧vS n≤8)):=by
 refine aH k266.has rfl ?_
 repeat'((conv=>whnf);first|refine bI.of (i4 n.v _) ?_|(refine aC.use (fC _) (fun r hr=>?_);obtain⟨b,rfl⟩:=hr)|(refine aC.use (i7 _ hn) (fun r hr=>?_);obtain⟨b,rfl,hb⟩:=hr)|(refine aC.use (I7 _) (fun r hr=>?_);obtain⟨b2,rfl⟩:=hr)|(refine aC.use (sY n) (fun r hr=>?_);obtain rfl:=hr)|refine And.intro (by omega) ?_|refine oA ?_|refine oM fun x hx hm=>?_|((first|apply aK|apply aL|apply aM|apply aF|apply aE)<;>intro h<;>try simp at h))
 any_goals((conv=>whnf);first|(refine⟨_,.closed _ rfl,_,rfl,fun hb=>?_⟩;first|(cases hb;done)|exact VX (by omega)|(constructor<;>unfold vS at * <;> (repeat' split)<;>omega)|exact⟨by omega,by have:=VY (n:=n) (by omega);omega⟩))
def xK(l:List oO):Int:=l.foldl (fun d n=>d-vS n+1) 0
theorem ED(l:List oO)(n:oO):xK (l++[n])=xK l-vS n+1:=by simp[xK]
def X0(e:List oO)(k:Nat):Prop:=∀(j:Nat) (n:oO),j<k→e[j]?=some n→0≤vS n∧vS n≤xK (e.take j)
theorem X0.succ{e:List oO}{k:Nat}(h:X0 e k){n:oO}(hn:e[k]?=some n)(h0:0≤vS n)(h1:vS n≤xK (e.take k)):X0 e (k+1):=by
 intro j n' hj hn'
 by_cases hjk:j=k
 ·subst hjk
  rw[hn]at hn'
  cases hn'
  exact⟨h0,h1⟩
 ·exact h j n' (by omega) hn'
theorem lB{α:Type}{l:List α}{k:Nat}{x:α}(h:l[k]?=some x):l.take (k+1)=l.take k++[x]:=by rw[List.take_add_one,h];rfl
set_option maxRecDepth 20000 in
theorem PN(st:List Int)(D:Nat)(hD:D≤st.length)(hl:st.length≤1000)(a:Int)(h0:0≤a)(h1:a≤D):
  ∃h:Int,a7 pr 267 [.sl 0 st.length 0 D,.int .i64 a] [.arr 1 (iC st)] (fun r H'=>r=.tuple [.int .i64 h,.sl 0 st.length 0 (D-a.toNat)]∧H'=[.arr 1 (iC st)]):=by
 have hw:IntKind.i64.wrap ((D:Int)-a)=(D:Int)-a:=aY _ (by omega) (by omega)
 have hn:=cA st
 have hb:Nat.beq st.length (iC st).length=true:=by rw[hn];exact Nat.beq_refl _
 suffices hs:∃v H1,(∃h:Int,v=.tuple [.int .i64 h,.sl 0 st.length 0 (D-a.toNat)]∧H1=[aB.arr 1 (iC st)])∧a7 pr 267 [.sl 0 st.length 0 D,.int .i64 a] [.arr 1 (iC st)] (fun r H'=>r=v∧H'=H1) by
  obtain⟨v,H1,⟨h,rfl,rfl⟩,hc⟩:=hs
  exact⟨h,hc⟩
 refine d6 k267.has ?_
 (conv=>whnf);refine b8 (hb) ?_
 conv=>whnf
 rw[hw]
 refine⟨fun m ρ H1=>∃(k:Nat) (h:Int),k+m=a.toNat∧H1=[.arr 1 (iC st)]∧Sv 31 [(0,.sl 0 st.length 0 D),(6,.int .i64 h),(7,.int .i64 ((D:Int)-a)),(8,.int .i64 ((D:Int)-a+k))] ρ,a.toNat,[],
  fun i ρ H1=>i=0∧∃h:Int,H1=[.arr 1 (iC st)]∧Sv 31 [(0,.sl 0 st.length 0 D),(6,.int .i64 h),(7,.int .i64 ((D:Int)-a))] ρ,?_,?_,?_⟩
 ·exact⟨0,0,by omega,rfl,Sv.intro rfl ⟨rfl,rfl,rfl,aN (by simp),trivial⟩⟩
 ·rintro m ρ H1 ⟨k,h,hk,rfl,d,rfl⟩
  (conv=>whnf);refine b8 (hb) ?_
  (conv=>whnf);refine aE (fun hlt=>?_) (fun hlt=>?_)
  ·simp at hlt
   (conv=>whnf);refine b8 (hb) ?_
   (conv=>whnf);refine And.intro (by omega) ?_
   (conv=>whnf);refine b8 (hb) ?_
   have hg:(iC st)[0+((D:Int)-a+k).toNat]?=some [.int .i64 (st.getD ((D:Int)-a+k).toNat 0)]:=by
    rw[Nat.zero_add];exact BW (by omega)
   (conv=>whnf);refine b4 (hg) ?_
   conv=>whnf
   refine⟨m-1,by omega,Gp.keep rfl ?_ fun ρ1 hh=>⟨k+1,if st.getD ((D:Int)-a+k).toNat 0>h then st.getD ((D:Int)-a+k).toNat 0 else h,by omega,rfl,hh⟩⟩
   exact⟨rfl,rfl,rfl,aN (by rw[aY _ (by omega) (by omega)];omega),trivial⟩
  ·conv=>whnf
   refine Gp.keep rfl ?_ fun ρ1 hh=>⟨rfl,h,rfl,hh⟩
   exact⟨rfl,rfl,rfl,trivial⟩
 ·rintro i ρ1 H1 ⟨rfl,h,rfl,d,rfl⟩
  (conv=>whnf);refine b8 (hb) ?_
  (conv=>whnf);refine And.intro (by omega) ?_
  conv=>whnf
  exact⟨_,by rw[show((D:Int)-a).toNat-0=D-a.toNat from by omega],rfl⟩
set_option maxRecDepth 20000 in
theorem lK(x:Bool)(e:List oO)(he:Fl xU e):
  aC pr 232 [.list x 6 (mC fZ e)] (fun r=>∃c:Int,r=.int .i64 c∧(c=0→e.length≤256∧X0 e e.length∧xK e=1)):=by
 obtain⟨hl,hF⟩:=he
 refine aH k232.has rfl ?_
 (conv=>whnf);refine aE (fun h1=>?_) (fun h1=>?_)
 ·conv=>whnf
  exact⟨_,.closed _ rfl,_,rfl,nofun⟩
 simp at h1
 conv=>whnf
 refine⟨fun m ρ H1=>∃(k:Nat) (st:List Int) (D:Nat),k+m=e.length∧(D:Int)=xK (e.take k)∧D≤st.length∧st.length≤k∧X0 e k∧H1=[.arr 1 (iC st)]∧Sv 51 [(0,.list x 6 (mC fZ e)),(3,.sl 0 st.length 0 D),(4,.int .i64 k)] ρ,e.length,[(3,1)],
  fun i ρ H1=>i=0∧∃(st:List Int) (D:Nat),(D:Int)=xK e∧X0 e e.length∧H1=[.arr 1 (iC st)]∧Sv 51 [(3,.sl 0 st.length 0 D)] ρ,?_,?_,?_⟩
 ·exact⟨0,[],0,by omega,rfl,Nat.le_refl _,Nat.le_refl _,fun j n hj=>by omega,rfl,Sv.intro rfl ⟨rfl,rfl,rfl,trivial⟩⟩
 ·rintro m ρ H1 ⟨k,st,D,hk,hD,hDl,hst,hop,rfl,d,rfl⟩
  have hn:=cA st
  have hb:Nat.beq st.length (iC st).length=true:=by rw[hn];exact Nat.beq_refl _
  (conv=>whnf);refine aE (fun hlt=>?_) (fun hlt=>?_)
  ·simp at hlt
   obtain⟨n,hnk,_,hm⟩:=aX (l:=e) (k:=k) (by omega)
   (conv=>whnf);refine And.intro (by omega) ?_
   (conv=>whnf);refine b4 (oZ hnk) ?_
   (conv=>whnf);refine aC.use (LZ n (hF n hm)) (fun r hr=>?_)
   obtain⟨b,rfl,hfb⟩:=hr
   (conv=>whnf);refine aE (fun hf=>?_) (fun hf=>?_)
   ·conv=>whnf
    exact⟨_,.closed _ rfl,_,rfl,nofun⟩
   simp at hf
   obtain⟨a0,a8⟩:=hfb hf
   (conv=>whnf);refine And.intro (by omega) ?_
   (conv=>whnf);refine b4 (oZ hnk) ?_
   (conv=>whnf);refine aC.use (sY n) (fun r hr=>?_)
   obtain rfl:=hr
   (conv=>whnf);refine b8 (hb) ?_
   (conv=>whnf);refine aE (fun ha=>?_) (fun ha=>?_)
   ·conv=>whnf
    exact⟨_,.closed _ rfl,_,rfl,nofun⟩
   simp at ha
   (conv=>whnf);refine And.intro (by omega) ?_
   (conv=>whnf);refine b4 (oZ hnk) ?_
   (conv=>whnf);refine aC.use (sY n) (fun r hr=>?_)
   obtain rfl:=hr
   obtain⟨h,hr⟩:=PN st D hDl (by omega) (vS n) a0 ha
   (conv=>whnf);refine bI.of (hr) ?_
   (conv=>whnf);refine aE (fun hh=>?_) (fun hh=>?_)
   ·conv=>whnf
    exact⟨_,.closed _ rfl,_,rfl,nofun⟩
   (conv=>whnf);refine b8 (hb) ?_
   have hdn:xK (e.take (k+1))=xK (e.take k)-vS n+1:=by rw[lB hnk,ED]
   obtain⟨r,hrr⟩:∃r,r=D-(vS n).toNat:=⟨_,rfl⟩
   rw[←hrr]
   have hop2:=hop.succ hnk a0 (by omega)
   (conv=>whnf);refine aE (fun hfit=>?_) (fun hfit=>?_)
   ·replace hfit:(Nat.ble (0+r+1) (iC st).length&&true)=true:=hfit
    simp at hfit
    have hcc:(iC st).take (0+r)++[[a6.int .i64 h]]++(iC st).drop (0+r+1)=iC (st.take r++[h]++st.drop (r+1)):=by
     rw[Nat.zero_add];simp[iC,List.map_take,List.map_drop]
    have hll:(st.take r++[h]++st.drop (r+1)).length=st.length:=by simp;omega
    conv=>whnf
    refine⟨m-1,by omega,Gp.keep rfl ?_ fun ρ1 hh=>⟨k+1,st.take r++[h]++st.drop (r+1),r+1,by omega,by omega,by omega,by omega,hop2,?_,hh⟩⟩
    ·exact⟨rfl,by rw[hll];rfl,aN (dT (by omega)),trivial⟩
    ·rw[←hcc];rfl
   ·replace hfit:(Nat.ble (0+r+1) (iC st).length&&true)=false:=hfit
    have hf2:st.length<r+1:=by
     rw[Bool.and_true,Nat.zero_add,hn]at hfit
     exact Nat.lt_of_not_le fun hc=>by rw[(Nat.ble_eq▸hc:Nat.ble (r+1) st.length=true)]at hfit;cases hfit
    (conv=>whnf);refine b8 (hb) ?_
    (conv=>whnf);refine And.intro (⟨by simp[aQ];omega,by simp[aQ];omega,rfl,by rw[hn];omega⟩) ?_
    conv=>whnf
    have hcc:iC st++[[a6.int .i64 h]]=iC (st++[h]):=by simp[iC]
    have hcl:(iC st++[[a6.int .i64 h]]).length=(st++[h]).length:=by rw[hcc,cA]
    have hrd:(st++[h]).length=r+1:=by simp;omega
    refine⟨m-1,by omega,Gp.keep rfl ?_ fun ρ1 hh=>⟨k+1,st++[h],r+1,by omega,by omega,by omega,by omega,hop2,?_,hh⟩⟩
    ·exact⟨rfl,eS hcl (by rw[hcl,hrd]),aN (dT (by omega)),trivial⟩
    ·rw[←hcc]
  ·simp at hlt
   have hk2:k=e.length:=by omega
   subst hk2
   rw[List.take_length]at hD
   conv=>whnf
   refine Gp.keep rfl ?_ fun ρ1 hh=>⟨rfl,st,D,hD,hop,rfl,hh⟩
   exact⟨rfl,trivial⟩
 ·rintro i ρ1 H1 ⟨rfl,st,D,hD,hop,rfl,d,rfl⟩
  have hn:=cA st
  have hb:Nat.beq st.length (iC st).length=true:=by rw[hn];exact Nat.beq_refl _
  (conv=>whnf);refine b8 (hb) ?_
  (conv=>whnf);refine aE (fun h1=>?_) (fun h1=>?_)
  ·conv=>whnf
   exact⟨_,.closed _ rfl,_,rfl,nofun⟩
  ·simp at h1
   conv=>whnf
   exact⟨_,.closed _ rfl,_,rfl,fun _=>⟨by omega,hop,by omega⟩⟩
def kC(k:Int×Bool):List a6:=[.int .i64 k.1,.bool k.2]
def TQ(r:a6):Prop:=∃(k:Int×Bool) (b:Bool),r=.tuple [.agg (kC k),.bool b]
theorem W8{H:List aB}(k:Int)(n b:Bool):∃r,dV H 0 [] (.tuple [.agg [.int .i64 k,.bool n],.bool b]) r∧TQ r:=⟨_,dU (.closed _ rfl) (.closed _ rfl),(k,n),b,rfl⟩
theorem rW(x:Int×Bool)(k:Int):aC pr 269 [.agg (kC x),.int .i64 k] E4:=by
 refine aH k269.has rfl ?_
 repeat'((conv=>whnf);first|refine And.intro (by omega) ?_|refine And.intro rfl ?_|refine oA ?_|refine oM fun x hx hm=>?_|((first|apply aK|apply aL|apply aM|apply aF|apply aE)<;>intro h<;>try simp at h))
 any_goals((conv=>whnf);first|exact G4 _)
theorem BC(x y:Int×Bool):aC pr 268 [.agg (kC x),.agg (kC y)] (fun r=>∃(k:Int) (b:Bool),r=.tuple [.int .i64 k,.bool b]):=by
 refine aH k268.has rfl ?_
 repeat'((conv=>whnf);first|((first|apply aC.use|apply aC.draw);exact rW _ _;rintro r ⟨b,rfl⟩)|refine And.intro (by omega) ?_|refine And.intro rfl ?_|refine oA ?_|refine oM fun x hx hm=>?_|((first|apply aK|apply aL|apply aM|apply aF|apply aE)<;>intro h<;>try simp at h))
 any_goals((conv=>whnf);first|exact⟨_,dU (.closed _ rfl) (.closed _ rfl),_,_,rfl⟩)
set_option maxRecDepth 20000 in
theorem QA(op:Int)(x:Int×Bool):aC pr 270 [.int .i64 op,.agg (kC x)] TQ:=by
 refine aH k270.has rfl ?_
 repeat'((conv=>whnf);first|((first|apply aC.use|apply aC.draw);exact rW x _;rintro r ⟨b,rfl⟩)|refine And.intro (by omega) ?_|refine And.intro rfl ?_|refine oA ?_|refine oM fun x hx hm=>?_|((first|apply aK|apply aL|apply aM|apply aF|apply aE)<;>intro h<;>try simp at h))
 any_goals((conv=>whnf);first|exact W8 _ _ _)
set_option maxRecDepth 20000 in
theorem BE(x y:Int×Bool):aC pr 291 [.agg (kC x),.agg (kC y)] TQ:=by
 refine aH k291.has rfl ?_
 repeat'((conv=>whnf);first|((first|apply aC.use|apply aC.draw);exact rW _ _;rintro r ⟨b,rfl⟩)|refine And.intro (by omega) ?_|refine And.intro rfl ?_|refine oA ?_|refine oM fun x hx hm=>?_|((first|apply aK|apply aL|apply aM|apply aF|apply aE)<;>intro h<;>try simp at h))
 any_goals((conv=>whnf);first|exact W8 _ _ _)
set_option maxRecDepth 20000 in
set_option maxHeartbeats 1000000 in
theorem LG(op:Int)(x y:Int×Bool):aC pr 271 [.int .i64 op,.agg (kC x),.agg (kC y)] TQ:=by
 refine aH k271.has rfl ?_
 repeat'((conv=>whnf);first|((first|apply aC.use|apply aC.draw);exact rW _ _;rintro r ⟨b,rfl⟩)|((first|apply aC.use|apply aC.draw);exact BC _ _;rintro r ⟨k,b,rfl⟩)|((first|apply aC.use|apply aC.draw);exact BE x y;rintro r ⟨k,b,rfl⟩)|refine And.intro (by omega) ?_|refine And.intro rfl ?_|refine oA ?_|refine oM fun x hx hm=>?_|((first|apply aK|apply aL|apply aM|apply aF|apply aE)<;>intro h<;>try simp at h))
 any_goals((conv=>whnf);first|exact W8 _ _ _)
theorem aC.weak{P:Program}{f:FuncId}{vs:List a6}{S T:a6→Prop}(h:aC P f vs S)(hw:∀r,S r→∃r',gB r r'∧T r'):aC P f vs T:=by
 obtain⟨r,h1,h2⟩:=h
 obtain⟨r',h3,h4⟩:=hw r h1
 exact⟨r',h4,fun H=>a7.weakRD (h2 H) fun r0 H0 ⟨e1,e2⟩=>by subst e1 e2;exact⟨r',h3,rfl,rfl⟩⟩
theorem aC.args{P:Program}{f:FuncId}{vs ws:List a6}{S:a6→Prop}(h:aC P f ws S)(hw:oQ vs ws):aC P f vs S:=by
 obtain⟨r,h1,h2⟩:=h
 exact⟨r,h1,fun H=>a7.weakD (h2 H) hw⟩
theorem aC.bor{P:Program}{f:FuncId}{vs ws:List a6}{S:a6→Prop}{H:List aB}{k:a6→List aB→Prop}(h:aC P f ws S)(hs:∀r,S r→r.scalar=true)(hl:B1 H vs ws)(hk:∀r,S r→k r H):bI P f vs H k:=by
 obtain⟨r,h1,h2⟩:=h
 exact bI.of (a7.bor (hs r h1) ((h2 []).mono fun _ _ hh=>hh.1) hl) (hk r h1)
theorem zO(n:Int):aC pr 259 [.int .i64 n] E4:=by
 refine aH k259.has rfl ?_
 repeat'((conv=>whnf);first|refine And.intro (by omega) ?_|refine And.intro rfl ?_|refine oA ?_|refine oM fun x hx hm=>?_|((first|apply aK|apply aL|apply aM|apply aF|apply aE)<;>intro h<;>try simp at h))
 any_goals((conv=>whnf);first|exact G4 _)
set_option maxRecDepth 20000 in
theorem oJ(z:I0)(hz:E2 z):aC pr 222 [.agg (mA z)] L6:=by
 have hz2:=hz.2
 refine aH k222.has rfl ?_
 repeat'((conv=>whnf);first|((first|apply aC.use|apply aC.draw);exact zO _;rintro r ⟨b,rfl⟩)|refine And.intro (by omega) ?_|refine And.intro rfl ?_|refine oA ?_|refine oM fun x hx hm=>?_|((first|apply aK|apply aL|apply aM|apply aF|apply aE)<;>intro h<;>try simp at h))
 any_goals((conv=>whnf);first|exact HQ _)
 conv=>whnf
 refine⟨fun m ρ H1=>∃k:Nat,k+m=(z.shifts).length∧H1=[.arr 3 [mA z]]∧Sv 53 [(1,.ptr 0 1 0 0),(3,.int .i64 k)] ρ,(z.shifts).length,[],fun i ρ H1=>i=0∧H1=[.arr 3 [mA z]]∧Sv 53 [(1,.ptr 0 1 0 0)] ρ,?_,?_,?_⟩
 ·exact⟨0,Nat.zero_add _,rfl,Sv.intro rfl ⟨rfl,rfl,trivial⟩⟩
 ·rintro m ρ H1 ⟨k,hk,rfl,d,rfl⟩
  have hw:0<k→IntKind.i64.wrap ((k:Int)-1)=(k:Int)-1:=fun _=>aY _ (by omega) (by omega)
  repeat'((conv=>whnf);first|((first|apply aC.use|apply aC.draw);exact zO _;rintro r ⟨b,rfl⟩)|refine And.intro (by omega) ?_|refine And.intro rfl ?_|refine oA ?_|refine oM fun x hx hm=>?_|((first|apply aK|apply aL|apply aM|apply aF|apply aE)<;>intro h<;>try simp at h))
  any_goals((conv=>whnf);first|exact HQ _|(refine⟨m-1,by omega,Gp.cut (H:=[.arr 3 [mA z]]) rfl ⟨rfl,trivial⟩ rfl rfl ?_ fun ρ1 h=>⟨k+1,by omega,rfl,h⟩⟩;exact⟨rfl,aN (dT (by omega)),trivial⟩)|(refine Gp.cut (H:=[.arr 3 [mA z]]) rfl ⟨rfl,trivial⟩ rfl rfl ?_ fun ρ1 h=>⟨rfl,rfl,h⟩;exact⟨rfl,trivial⟩))
 ·rintro i ρ1 H1 ⟨rfl,rfl,d,rfl⟩
  conv=>whnf
  exact HQ _
set_option maxRecDepth 20000 in
theorem x9(x:Bool)(zs:List I0)(hl:zs.length≤100000)(nm:ByteArray):
  aC pr 183 [.list x 3 (mC mA zs),.str nm] (fun r=>∃(z:I0) (b:Bool),r=.tuple [.agg (mA z),.bool b]∧(b=true→z∈zs)):=by
 refine aC.weak (S:=fun r=>∃(z:I0) (b:Bool) (c:a6),r=.tuple [.agg [.str z.name,.int .i64 z.off,c],.bool b]∧gB c (.list false 2 (mC XV z.shifts))∧(b=true→z∈zs)) ?_ (by
  rintro r ⟨z,b,c,rfl,hc,hb⟩
  exact⟨_,.tuples (.cons (.aggs (.cons (.refl _) (.cons (.refl _) (.cons hc .nil)))) (.cons (.refl _) .nil)),z,b,rfl,hb⟩)
 refine aH k183.has rfl ?_
 conv=>whnf
 refine⟨fun m ρ H1=>∃k:Nat,k+m=(zs).length∧H1=[.arr 3 [[.str (bs []),.int .i64 0,.nil]]]∧Sv 25 [(0,.list x 3 (mC mA zs)),(1,.str nm),(4,.ptr 0 1 0 0),(6,.int .i64 k)] ρ,(zs).length,[],fun i ρ H1=>i=0∧H1=[.arr 3 [[.str (bs []),.int .i64 0,.nil]]]∧Sv 25 [(4,.ptr 0 1 0 0)] ρ,?_,?_,?_⟩
 ·exact⟨0,Nat.zero_add _,rfl,Sv.intro rfl ⟨rfl,rfl,rfl,rfl,trivial⟩⟩
 ·rintro m ρ H1 ⟨k,hk,rfl,d,rfl⟩
  repeat'((conv=>whnf);first|refine And.intro (by omega) ?_|refine And.intro rfl ?_|refine oA ?_|refine oM fun x hx hm=>?_|((first|apply aK|apply aL|apply aM|apply aF|apply aE)<;>intro h<;>try simp at h))
  any_goals((conv=>whnf);first|exact⟨_,dU (.closed _ rfl) (.closed _ rfl),_,_,_,rfl,.refl _,fun _=>by assumption⟩|(refine⟨m-1,by omega,Gp.cut (H:=[.arr 3 [[.str (bs []),.int .i64 0,.nil]]]) rfl ⟨rfl,trivial⟩ rfl rfl ?_ fun ρ1 h=>⟨k+1,by omega,rfl,h⟩⟩;exact⟨rfl,rfl,rfl,aN (dT (by omega)),trivial⟩)|(refine Gp.cut (H:=[.arr 3 [[.str (bs []),.int .i64 0,.nil]]]) rfl ⟨rfl,trivial⟩ rfl rfl ?_ fun ρ1 h=>⟨rfl,rfl,h⟩;exact⟨rfl,trivial⟩))
 ·rintro i ρ1 H1 ⟨rfl,rfl,d,rfl⟩
  conv=>whnf
  exact⟨_,dU (.closed _ rfl) (.closed _ rfl),⟨bs [],0,[]⟩,false,.nil,rfl,.nil _ _,nofun⟩
def YH(r:a6):Prop:=∃(k:Int×Bool) (e:Int),r=.tuple [.agg (kC k),.int .i64 e]
theorem J3{α:Type}(p:α→Bool):∀(l:List α) (i:Int),0≤i→fT p l i<i+l.length
 |[],i,h=>by simp[fT];omega
 |c::cs,i,h=>by
  rw[fT]
  split
  ·simp;omega
  ·have:=J3 p cs (i+1) (by omega)
   simp;omega
theorem dB(cs:List c8)(n:ByteArray)(h:0≤dZ cs n):(dZ cs n).toNat<cs.length:=by
 have:=J3 (s8 n) cs 0 (Int.le_refl _)
 unfold dZ at h⊢
 omega
set_option maxRecDepth 20000 in
set_option maxHeartbeats 2000000 in
theorem S0(n:oO)(x:List (Int×Bool))(e1 e2 e3:Bool)(cs:List c8)(zs:List I0)(hx:(x.length:Int)=vS n)(hc:cs.length≤100000)(hz:zs.length≤100000):
  aC pr 234 [.agg (fZ n),.list e1 2 (mC kC x),.list e2 3 (mC fY cs),.list e3 3 (mC mA zs)] YH:=by
 have h17:n.op=17→x.length=3:=fun h=>by unfold vS at hx;simp[h]at hx;omega
 have h20:n.op=20→x.length=1:=fun h=>by unfold vS at hx;simp[h]at hx;omega
 have hde:n.op≠0→n.op≠1→n.op≠21→n.op≠17→x.length=1∨x.length=2:=fun a b c d=>by
  unfold vS at hx
  (repeat' split at hx)<;>omega
 have hci:=dB cs n.name
 refine aH k234.has rfl ?_
 repeat'((conv=>whnf);first|((first|apply aC.use|apply aC.draw);exact aC.of (bB e2 cs (by omega) n.name);rintro r rfl)|((first|apply aC.use|apply aC.draw);exact BC _ _;rintro r ⟨k,b,rfl⟩)|((first|apply aC.use|apply aC.draw);exact rW _ _;rintro r ⟨b,rfl⟩)|((first|apply aC.use|apply aC.draw);exact x9 e3 zs hz _;rintro r ⟨z,b,rfl,hzb⟩)|((first|apply aC.use|apply aC.draw);exact QA _ _;rintro r ⟨k,b,rfl⟩)|((first|apply aC.use|apply aC.draw);exact LG _ _ _;rintro r ⟨k,b,rfl⟩)|refine And.intro (by omega) ?_|refine And.intro rfl ?_|refine oA ?_|refine oM fun x hx hm=>?_|((first|apply aK|apply aL|apply aM|apply aF|apply aE)<;>intro h<;>try simp at h))
 any_goals((conv=>whnf);first|exact⟨_,dU (.closed _ rfl) (.closed _ rfl),(_,_),_,rfl⟩)
theorem G8(l:List (Int×Bool)):bG (mC kC l)=true:=aV (fun _=>rfl) l
set_option maxRecDepth 20000 in
set_option maxHeartbeats 2000000 in
theorem DF(e1 e2 e3:Bool)(e:List oO)(cs:List c8)(zs:List I0)(he:Fl xU e)(hc:cs.length≤100000)(hz:Fl E2 zs):
  aC pr 185 [.list e1 6 (mC fZ e),.list e2 3 (mC fY cs),.list e3 3 (mC mA zs)] (fun r=>∃(k:Int) (b:Bool) (c:Int),r=.tuple [.int .i64 k,.bool b,.int .i64 c]):=by
 have fin:∀{H1:List aB}(k:Int) (b:Bool) (c:Int),∃r,dV H1 0 [] (.tuple [.int .i64 k,.bool b,.int .i64 c]) r∧∃(k:Int) (b:Bool) (c:Int),r=.tuple [.int .i64 k,.bool b,.int .i64 c] :=
  fun k b c=>⟨_,SJ (.closed _ rfl) (.closed _ rfl) (.closed _ rfl),k,b,c,rfl⟩
 refine aH k185.has rfl ?_
 (conv=>whnf);refine aC.use (lK e1 e he) (fun r hr=>?_)
 obtain⟨c,rfl,hv⟩:=hr
 (conv=>whnf);refine aE (fun h0=>?_) (fun h0=>?_)
 ·conv=>whnf
  exact fin _ _ _
 simp at h0
 obtain⟨hel,hop,hdep⟩:=hv h0
 repeat'((conv=>whnf);first|((first|apply aC.use|apply aC.draw);exact aC.of (dN e2 cs (by omega));rintro r rfl)|refine And.intro (by omega) ?_|refine And.intro rfl ?_|refine oA ?_|refine oM fun x hx hm=>?_|((first|apply aK|apply aL|apply aM|apply aF|apply aE)<;>intro h<;>try simp at h))
 any_goals((conv=>whnf);first|exact fin _ _ _)
 conv=>whnf
 refine⟨fun m ρ H1=>∃k:Nat,k+m=(zs).length∧H1=[]∧Sv 87 [(0,.list e1 6 (mC fZ e)),(1,.list e2 3 (mC fY cs)),(2,.list e3 3 (mC mA zs)),(11,.int .i64 k)] ρ,(zs).length,[],fun i ρ H1=>i=0∧H1=[]∧Sv 87 [(0,.list e1 6 (mC fZ e)),(1,.list e2 3 (mC fY cs)),(2,.list e3 3 (mC mA zs))] ρ,?_,?_,?_⟩
 ·exact⟨0,Nat.zero_add _,rfl,Sv.intro rfl ⟨rfl,rfl,rfl,rfl,trivial⟩⟩
 ·rintro m ρ H1 ⟨k,hk,rfl,d,rfl⟩
  have hzl:=hz.1
  repeat'((conv=>whnf);first|((first|apply aC.use|apply aC.draw);exact oJ _ (hz.2 _ (by assumption));rintro r ⟨c,rfl⟩)|refine And.intro (by omega) ?_|refine And.intro rfl ?_|refine oA ?_|refine oM fun x hx hm=>?_|((first|apply aK|apply aL|apply aM|apply aF|apply aE)<;>intro h<;>try simp at h))
  any_goals((conv=>whnf);first|exact fin _ _ _|(refine⟨m-1,by omega,Gp.cut (H:=[]) rfl trivial rfl rfl ?_ fun ρ1 h=>⟨k+1,by omega,rfl,h⟩⟩;exact⟨rfl,rfl,rfl,aN (dT (by omega)),trivial⟩)|(refine Gp.cut (H:=[]) rfl trivial rfl rfl ?_ fun ρ1 h=>⟨rfl,rfl,h⟩;exact⟨rfl,rfl,rfl,trivial⟩))
 ·rintro i ρ1 H1 ⟨rfl,rfl,d,rfl⟩
  conv=>whnf
  refine⟨fun m ρ H1=>∃(k:Nat) (st:List (Int×Bool)),k+m=e.length∧(st.length:Int)=xK (e.take k)∧st.length≤k∧H1=[.arr 2 (mC kC st)]∧Sv 87 [(0,.list e1 6 (mC fZ e)),(1,.list e2 3 (mC fY cs)),(2,.list e3 3 (mC mA zs)),(13,.sl 0 st.length 0 st.length),(14,.int .i64 k)] ρ,e.length,[(13,2)],
   fun i ρ H1=>i=2∧∃st:List (Int×Bool),st.length=1∧H1=[.arr 2 (mC kC st)]∧Sv 87 [(13,.sl 0 st.length 0 st.length)] ρ,?_,?_,?_⟩
  ·exact⟨0,[],by omega,rfl,Nat.le_refl _,rfl,Sv.intro rfl ⟨rfl,rfl,rfl,rfl,rfl,trivial⟩⟩
  ·rintro m ρ H1 ⟨k,st,hk,hD,hst,rfl,d,rfl⟩
   have hb:Nat.beq st.length (mC kC st).length=true:=by rw[aZ];exact Nat.beq_refl _
   (conv=>whnf);refine aE (fun hlt=>?_) (fun hlt=>?_)
   ·simp at hlt
    obtain⟨n,hnk,_,hm⟩:=aX (l:=e) (k:=k) (by omega)
    obtain⟨a0,a1⟩:=hop k n (by omega) hnk
    have ha:vS n≤st.length:=by omega
    (conv=>whnf);refine b8 (hb) ?_
    (conv=>whnf);refine And.intro (by omega) ?_
    (conv=>whnf);refine b4 (oZ hnk) ?_
    (conv=>whnf);refine aC.use (sY n) (fun r hr=>?_)
    obtain rfl:=hr
    obtain⟨r,hr⟩:∃r,r=(st.length:Int)-vS n:=⟨_,rfl⟩
    have hw:IntKind.i64.wrap ((st.length:Int)-vS n)=r:=by rw[hr];exact aY _ (by omega) (by omega)
    conv=>whnf
    rw[hw]
    (conv=>whnf);refine And.intro (by omega) ?_
    (conv=>whnf);refine b4 (oZ hnk) ?_
    (conv=>whnf);refine b8 (hb) ?_
    (conv=>whnf);refine And.intro (by omega) ?_
    have hdl:((st.drop r.toNat).length:Int)=vS n:=by rw[List.length_drop];omega
    have hL:∀H:List aB,H[0]?=some (.arr 2 (mC kC st))→vO H (.sl 0 st.length (0+r.toNat) (st.length-r.toNat)) (.list false 2 (mC kC (st.drop r.toNat))):=fun H ho=>by
     have:=vO.sl 0 st.length (0+r.toNat) (st.length-r.toNat) 2 (mC kC st) ho (aZ _ _).symm (G8 st)
     rwa [show((mC kC st).drop (0+r.toNat)).take (st.length-r.toNat)=mC kC (st.drop r.toNat)from by rw[Nat.zero_add,mC,←List.map_drop,List.take_of_length_le (by simp)];rfl]at this
    (conv=>whnf);refine aC.bor (S0 n (st.drop r.toNat) false e2 e3 cs zs hdl hc hz.1) (by rintro _ ⟨k,e,rfl⟩;rfl) (.cons (.same _ rfl) (.cons (hL _ rfl) (.cons (.same _ rfl) (.cons (.same _ rfl) .nil)))) (fun q hq=>?_)
    obtain⟨t,c,rfl⟩:=hq
    repeat((conv=>whnf);refine And.intro rfl ?_)
    (conv=>whnf);refine aE (fun hc0=>?_) (fun hc0=>?_)
    ·conv=>whnf
     exact fin _ _ _
    (conv=>whnf);refine b8 (hb) ?_
    (conv=>whnf);refine And.intro (⟨rfl,by omega,by omega⟩) ?_
    have hdn:xK (e.take (k+1))=xK (e.take k)-vS n+1:=by rw[lB hnk,ED]
    have hcc:(mC kC st).take r.toNat++[kC t]=mC kC (st.take r.toNat++[t]):=by rw[dD];simp[mC]
    have hll:(st.take r.toNat++[t]).length=r.toNat+1:=by simp;omega
    (conv=>whnf);refine aE (fun hr0=>?_) (fun hr0=>?_)
    ·simp at hr0
     (conv=>whnf);refine b8 (hb) ?_
     (conv=>whnf);refine Or.inr ⟨⟨by omega,by simp,by simp[aQ];omega,by simp[aQ];omega⟩,?_⟩
     repeat((conv=>whnf);refine And.intro rfl ?_)
     conv=>whnf
     refine⟨m-1,by omega,Gp.one 2 2 (mC kC (st.take r.toNat++[t])) ?_ (G8 _) rfl ?_ fun ρ1 h=>⟨k+1,st.take r.toNat++[t],by omega,by omega,by omega,rfl,h⟩⟩
     ·rw[←hcc];rfl
     ·refine⟨.closed _ rfl,.closed _ rfl,.closed _ rfl,?_,nB (dT (by omega)),trivial⟩
      exact kS (k:=0) rfl rfl (by rw[←aZ kC,←hcc];rfl) (by rw[←aZ kC,←hcc];rfl)
    ·simp at hr0
     have hz0:r.toNat=0:=by omega
     rw[hz0]at hcc hll
     (conv=>whnf);refine And.intro (⟨by simp[aQ],by simp[aQ],.inr rfl⟩) ?_
     repeat((conv=>whnf);refine And.intro rfl ?_)
     conv=>whnf
     refine⟨m-1,by omega,Gp.one 2 2 (mC kC (st.take 0++[t])) rfl (G8 _) rfl ?_ fun ρ1 h=>⟨k+1,st.take 0++[t],by omega,by omega,by omega,rfl,h⟩⟩
     refine⟨.closed _ rfl,.closed _ rfl,.closed _ rfl,?_,nB (dT (by omega)),trivial⟩
     exact kS (k:=0) rfl rfl rfl rfl
   ·simp at hlt
    have hk2:k=e.length:=by omega
    subst hk2
    rw[List.take_length]at hD
    conv=>whnf
    refine Gp.keep rfl ?_ fun ρ1 h=>⟨rfl,st,by omega,rfl,h⟩
    exact⟨rfl,trivial⟩
  ·rintro i ρ1 H1 ⟨rfl,st,hs1,rfl,d,rfl⟩
   have hb:Nat.beq st.length (mC kC st).length=true:=by rw[aZ];exact Nat.beq_refl _
   obtain⟨t,rfl⟩:=List.length_eq_one_iff.1 hs1
   (conv=>whnf);refine And.intro (by simp) ?_
   (conv=>whnf);refine And.intro (by simp) ?_
   conv=>whnf
   exact fin _ _ _
theorem gB.lst{x:Bool}{sz:Nat}{es fs:List (List a6)}(h:es=fs)(hp:bG fs=true):gB (.list x sz es) (.list false sz fs):=by
 subst h
 refine .list x false sz es es (fun h=>by cases h) rfl (fun i e f h1 h2=>by rw[h1]at h2;cases h2;rfl) (fun i j f c hf hc=>?_) (fun i j e f d c h1 h2 h3 h4=>by rw[h1]at h2;cases h2;rw[h3]at h4;cases h4;exact .refl _)
 have:=gW hp hf hc
 cases c<;>simp_all [a6.isPure,a6.isCell]
def L5(p:Prop)(r:a6):Prop:=∃e:Int,r=.int .i64 e∧(e=0→p)
theorem RP{p:Prop}(e:Int)(h:e=0→p){H:List aB}:∃r,dV H 0 [] (.int .i64 e) r∧L5 p r:=⟨_,.closed _ rfl,_,rfl,h⟩
theorem xA{p:Prop}(e:Int)(h:e≠0){H:List aB}:∃r,dV H 0 [] (.int .i64 e) r∧L5 p r:=⟨_,.closed _ rfl,_,rfl,fun h0=>absurd h0 h⟩
theorem gE(x:Bool)(l:List ByteArray)(hl:l.length≤100000)(s:ByteArray):aC pr 137 [.list x 1 (sC l),.str s] (fun r=>∃b,r=.bool b∧(b=true↔∃t∈l,OV s t=true)) :=
 (aC.of (vN x l (by omega) s)).mono fun r hr=>⟨_,hr,by rw[List.any_eq_true]⟩
set_option maxRecDepth 20000 in
theorem l8(x:Bool)(l:List ByteArray)(hl:l.length≤100000)(n:Int):
  aC pr 274 [.list x 1 (sC l),.int .i64 n] (L5 (n≤l.length∧l.length≤12)):=by
 refine aH k274.has rfl ?_
 repeat'((conv=>whnf);first|refine And.intro (by first|omega|(simp<;>omega)) ?_|refine And.intro rfl ?_|refine oA ?_|refine oM fun x hx hm=>?_|((first|apply aK|apply aL|apply aM|apply aF|apply aE)<;>intro h<;>(try simp at h)))
 any_goals((conv=>whnf);first|exact xA _ (by decide))
 conv=>whnf
 refine⟨fun m ρ H1=>∃k:Nat,k+m=(l).length∧H1=[]∧Sv 35 [(0,.list x 1 (sC l)),(5,.int .i64 k)] ρ,(l).length,[],fun i ρ H1=>i=0∧H1=[]∧Sv 35 [(0,.list x 1 (sC l))] ρ,?_,?_,?_⟩
 ·exact⟨0,Nat.zero_add _,rfl,Sv.intro rfl ⟨rfl,rfl,trivial⟩⟩
 ·rintro m ρ H1 ⟨k,hk,rfl,d,rfl⟩
  repeat'((conv=>whnf);first|((first|apply aC.use|apply aC.draw);exact fC _;rintro r ⟨b,rfl⟩)|((first|apply aC.use|apply aC.draw);exact aC.args (gE false (l.take k) (by simp;omega) _) (.cons (gB.lst (by simp[sC,List.map_take]) (aO _)) (.cons (.refl _) .nil));rintro r ⟨b,rfl,hb⟩)|refine And.intro (by first|omega|(simp<;>omega)) ?_|refine And.intro rfl ?_|refine oA ?_|refine oM fun x hx hm=>?_|((first|apply aK|apply aL|apply aM|apply aF|apply aE)<;>intro h<;>(try simp at h)))
  any_goals((conv=>whnf);first|exact xA _ (by decide)|(refine⟨m-1,by omega,Gp.cut (H:=[]) rfl trivial rfl rfl ?_ fun ρ1 h=>⟨k+1,by omega,rfl,h⟩⟩;exact⟨rfl,aN (dT (by omega)),trivial⟩)|(refine Gp.cut (H:=[]) rfl trivial rfl rfl ?_ fun ρ1 h=>⟨rfl,rfl,h⟩;exact⟨rfl,trivial⟩))
 ·rintro i ρ1 H1 ⟨rfl,rfl,d,rfl⟩
  conv=>whnf
  exact RP _ fun _=>⟨by omega,by omega⟩
theorem wU(s:ByteArray)(hs:bM s):aC pr 276 [.str s] L6:=by
 refine aH k276.has rfl ?_
 repeat'((conv=>whnf);first|((first|apply aC.use|apply aC.draw);exact i7 _ hs;rintro r ⟨b,rfl,hb⟩)|refine And.intro (by first|omega|(simp<;>omega)) ?_|refine And.intro rfl ?_|refine oA ?_|refine oM fun x hx hm=>?_|((first|apply aK|apply aL|apply aM|apply aF|apply aE)<;>intro h<;>(try simp at h)))
 any_goals((conv=>whnf);first|exact HQ _)
theorem x6(f:Int):aC pr 235 [.int .i64 f] (fun r=>∃a b c,r=.tuple [.bool a,.bool b,.bool c]):=by
 refine aH k235.has rfl ?_
 repeat'((conv=>whnf);first|refine And.intro (by first|omega|(simp<;>omega)) ?_|refine And.intro rfl ?_|refine oA ?_|refine oM fun x hx hm=>?_|((first|apply aK|apply aL|apply aM|apply aF|apply aE)<;>intro h<;>(try simp at h)))
 any_goals((conv=>whnf);first|exact⟨_,SJ (.closed _ rfl) (.closed _ rfl) (.closed _ rfl),_,_,_,rfl⟩)
set_option maxRecDepth 20000 in
set_option maxHeartbeats 4000000 in
theorem HL(s:rG):aC pr 272 [.agg (cD s)] E4:=by
 refine aH k272.has rfl ?_
 repeat'((conv=>whnf);first|refine And.intro (by first|omega|(simp<;>omega)) ?_|refine And.intro rfl ?_|refine oA ?_|refine oM fun x hx hm=>?_|((first|apply aK|apply aL|apply aM|apply aF|apply aE)<;>intro h<;>(try simp at h)<;>(try(exfalso;omega))))
 any_goals((conv=>whnf);first|exact G4 _)
set_option maxRecDepth 20000 in
set_option maxHeartbeats 1000000 in
theorem pX(x:Bool)(l:List X9)(hl:l.length≤100000)(i:Nat)(hi:i<l.length)(a b c e:Bool):
  aC pr 292 [.list x 5 (mC G6 l),.int .i64 i,.bool a,.bool b,.bool c,.bool e] L6:=by
 refine aH k292.has rfl ?_
 (conv=>whnf);refine And.intro (by omega) ?_
 obtain⟨y,hy,_⟩:=aX (l:=l) (k:=i) hi
 (conv=>whnf);refine b4 (oZ hy) ?_
 repeat'((conv=>whnf);first|((first|apply aC.use|apply aC.draw);exact fC _;rintro r ⟨b,rfl⟩)|refine And.intro (by first|omega|(simp<;>omega)) ?_|refine And.intro rfl ?_|refine oA ?_|refine oM fun x hx hm=>?_|((first|apply aK|apply aL|apply aM|apply aF|apply aE)<;>intro h<;>(try simp at h)))
 any_goals((conv=>whnf);first|exact HQ _)
 all_goals
  conv=>whnf
  refine⟨fun m ρ H1=>∃k:Nat,k+m=i∧H1=[.arr 5 [G6 y]]∧Sv 71 [(0,.list x 5 (mC G6 l)),(1,.int .i64 i),(13,.ptr 0 1 0 0),(14,.int .i64 k)] ρ,i,[],fun i ρ H1=>i=0∧H1=[.arr 5 [G6 y]]∧Sv 71 [(13,.ptr 0 1 0 0)] ρ,?_,?_,?_⟩
  ·exact⟨0,Nat.zero_add _,rfl,Sv.intro rfl ⟨rfl,rfl,rfl,rfl,trivial⟩⟩
  ·rintro m ρ H1 ⟨k,hk,rfl,d,rfl⟩
   repeat'((conv=>whnf);first|refine And.intro (by first|omega|(simp<;>omega)) ?_|refine And.intro rfl ?_|refine oA ?_|refine oM fun x hx hm=>?_|((first|apply aK|apply aL|apply aM|apply aF|apply aE)<;>intro h<;>(try simp at h)))
   any_goals((conv=>whnf);first|exact HQ _|(refine⟨m-1,by omega,Gp.cut (H:=[.arr 5 [G6 y]]) rfl ⟨rfl,trivial⟩ rfl rfl ?_ fun ρ1 h=>⟨k+1,by omega,rfl,h⟩⟩;exact⟨rfl,rfl,rfl,aN (dT (by omega)),trivial⟩)|(refine Gp.cut (H:=[.arr 5 [G6 y]]) rfl ⟨rfl,trivial⟩ rfl rfl ?_ fun ρ1 h=>⟨rfl,rfl,h⟩;exact⟨rfl,trivial⟩))
  ·rintro i ρ1 H1 ⟨rfl,rfl,d,rfl⟩
   conv=>whnf
   exact HQ _
set_option maxRecDepth 20000 in
set_option maxHeartbeats 1000000 in
theorem FX(s:rG)(hs:m5 s):aC pr 273 [.agg (cD s)] (L5 (s.items.length≤12)):=by
 obtain⟨_,_,_,hi,_⟩:=hs
 have hil:=hi.1
 refine aH k273.has rfl ?_
 repeat'((conv=>whnf);first|refine And.intro (by first|omega|(simp<;>omega)) ?_|refine And.intro rfl ?_|refine oA ?_|refine oM fun x hx hm=>?_|((first|apply aK|apply aL|apply aM|apply aF|apply aE)<;>intro h<;>(try simp at h)))
 any_goals((conv=>whnf);first|exact xA _ (by decide))
 conv=>whnf
 refine⟨fun m ρ H1=>∃k:Nat,k+m=(s.items).length∧H1=[.arr 6 [cD s]]∧Sv 40 [(1,.ptr 0 1 0 0),(3,.int .i64 k)] ρ,(s.items).length,[],fun i ρ H1=>i=0∧H1=[.arr 6 [cD s]]∧Sv 40 [(1,.ptr 0 1 0 0)] ρ,?_,?_,?_⟩
 ·exact⟨0,Nat.zero_add _,rfl,Sv.intro rfl ⟨rfl,rfl,trivial⟩⟩
 ·rintro m ρ H1 ⟨k,hk,rfl,d,rfl⟩
  repeat'((conv=>whnf);first|((first|apply aC.use|apply aC.draw);exact pX false s.items hil k (by assumption) _ _ _ _;rintro r ⟨c,rfl⟩)|((first|apply aC.use|apply aC.draw);exact lK false _ (hi.2 _ (by assumption)).2.2;rintro r ⟨c,rfl,hv⟩)|refine And.intro (by first|omega|(simp<;>omega)) ?_|refine And.intro rfl ?_|refine oA ?_|refine oM fun x hx hm=>?_|((first|apply aK|apply aL|apply aM|apply aF|apply aE)<;>intro h<;>(try simp at h)))
  any_goals((conv=>whnf);first|exact xA _ (by assumption)|(refine⟨m-1,by omega,Gp.cut (H:=[.arr 6 [cD s]]) rfl ⟨rfl,trivial⟩ rfl rfl ?_ fun ρ1 h=>⟨k+1,by omega,rfl,h⟩⟩;exact⟨rfl,aN (dT (by omega)),trivial⟩)|(refine Gp.cut (H:=[.arr 6 [cD s]]) rfl ⟨rfl,trivial⟩ rfl rfl ?_ fun ρ1 h=>⟨rfl,rfl,h⟩;exact⟨rfl,trivial⟩))
 ·rintro i ρ1 H1 ⟨rfl,rfl,d,rfl⟩
  conv=>whnf
  exact RP _ fun _=>by omega
set_option maxRecDepth 20000 in
set_option maxHeartbeats 1000000 in
theorem M6(s:rG)(hs:m5 s):aC pr 275 [.agg (cD s)] (L5 (s.names.length=s.others.length∧s.items.length≤12)):=by
 obtain⟨h1,h2,h3,hi,_⟩:=hs
 have hil:=hi.1
 refine aH k275.has rfl ?_
 repeat'((conv=>whnf);first|((first|apply aC.use|apply aC.draw);exact wU _ h1;rintro r ⟨c,rfl⟩)|((first|apply aC.use|apply aC.draw);exact l8 false s.names h2.1 _;rintro r ⟨c,rfl,hc⟩)|((first|apply aC.use|apply aC.draw);exact l8 false s.others h3.1 _;rintro r ⟨c,rfl,hc⟩)|refine And.intro (by first|omega|(simp<;>omega)) ?_|refine And.intro rfl ?_|refine oA ?_|refine oM fun x hx hm=>?_|((first|apply aK|apply aL|apply aM|apply aF|apply aE)<;>intro h<;>(try simp at h)))
 any_goals((conv=>whnf);first|exact xA _ (by assumption)|exact xA _ (by decide))
 conv=>whnf
 refine⟨fun m ρ H1=>∃k:Nat,k+m=(s.items).length∧H1=[.arr 6 [cD s]]∧Sv 59 [(1,.ptr 0 1 0 0),(6,.int .i64 k)] ρ,(s.items).length,[],fun i ρ H1=>i=0∧H1=[.arr 6 [cD s]]∧Sv 59 [(1,.ptr 0 1 0 0)] ρ,?_,?_,?_⟩
 ·exact⟨0,Nat.zero_add _,rfl,Sv.intro rfl ⟨rfl,rfl,trivial⟩⟩
 ·rintro m ρ H1 ⟨k,hk,rfl,d,rfl⟩
  repeat'((conv=>whnf);first|((first|apply aC.use|apply aC.draw);exact pX false s.items hil k (by assumption) _ _ _ _;rintro r ⟨c,rfl⟩)|((first|apply aC.use|apply aC.draw);exact fC _;rintro r ⟨b,rfl⟩)|refine And.intro (by first|omega|(simp<;>omega)) ?_|refine And.intro rfl ?_|refine oA ?_|refine oM fun x hx hm=>?_|((first|apply aK|apply aL|apply aM|apply aF|apply aE)<;>intro h<;>(try simp at h)))
  any_goals((conv=>whnf);first|exact xA _ (by assumption)|exact xA _ (by decide)|(refine⟨m-1,by omega,Gp.cut (H:=[.arr 6 [cD s]]) rfl ⟨rfl,trivial⟩ rfl rfl ?_ fun ρ1 h=>⟨k+1,by omega,rfl,h⟩⟩;exact⟨rfl,aN (dT (by omega)),trivial⟩)|(refine Gp.cut (H:=[.arr 6 [cD s]]) rfl ⟨rfl,trivial⟩ rfl rfl ?_ fun ρ1 h=>⟨rfl,rfl,h⟩;exact⟨rfl,trivial⟩))
 ·rintro i ρ1 H1 ⟨rfl,rfl,d,rfl⟩
  conv=>whnf
  exact RP _ fun _=>by omega
set_option maxRecDepth 20000 in
set_option maxHeartbeats 1000000 in
theorem IX(s:rG)(hs:m5 s):aC pr 277 [.agg (cD s)] (L5 (1≤s.names.length+s.items.length∧s.items.length≤12)):=by
 obtain⟨h1,h2,h3,hi,_⟩:=hs
 have hil:=hi.1
 have hnl:=h2.1
 have hw:IntKind.i64.wrap ((s.items.length:Int)+s.names.length)=(s.items.length:Int)+s.names.length:=aY _ (by omega) (by omega)
 refine aH k277.has rfl ?_
 repeat'((conv=>whnf);first|((first|apply aC.use|apply aC.draw);exact l8 false s.names h2.1 _;rintro r ⟨c,rfl,hc⟩)|refine And.intro (by first|omega|(simp<;>omega)) ?_|refine And.intro rfl ?_|refine oA ?_|refine oM fun x hx hm=>?_|((first|apply aK|apply aL|apply aM|apply aF|apply aE)<;>intro h<;>(try simp at h)))
 any_goals((conv=>whnf);first|exact xA _ (by assumption)|exact xA _ (by decide))
 conv=>whnf
 refine⟨fun m ρ H1=>∃k:Nat,k+m=(s.items).length∧H1=[.arr 6 [cD s]]∧Sv 78 [(1,.ptr 0 1 0 0),(4,.int .i64 k)] ρ,(s.items).length,[],fun i ρ H1=>i=0∧H1=[.arr 6 [cD s]]∧Sv 78 [(1,.ptr 0 1 0 0)] ρ,?_,?_,?_⟩
 ·exact⟨0,Nat.zero_add _,rfl,Sv.intro rfl ⟨rfl,rfl,trivial⟩⟩
 ·rintro m ρ H1 ⟨k,hk,rfl,d,rfl⟩
  repeat'((conv=>whnf);first|((first|apply aC.use|apply aC.draw);exact pX false s.items hil k (by assumption) _ _ _ _;rintro r ⟨c,rfl⟩)|((first|apply aC.use|apply aC.draw);exact fC _;rintro r ⟨b,rfl⟩)|((first|apply aC.use|apply aC.draw);exact gE false s.names hnl _;rintro r ⟨b,rfl,hb⟩)|refine And.intro (by first|omega|(simp<;>omega)) ?_|refine And.intro rfl ?_|refine oA ?_|refine oM fun x hx hm=>?_|((first|apply aK|apply aL|apply aM|apply aF|apply aE)<;>intro h<;>(try simp at h)<;>(try(exfalso;omega))))
  any_goals((conv=>whnf);first|exact xA _ (by assumption)|exact xA _ (by decide)|(refine⟨m-1,by omega,Gp.cut (H:=[.arr 6 [cD s]]) rfl ⟨rfl,trivial⟩ rfl rfl ?_ fun ρ1 h=>⟨k+1,by omega,rfl,h⟩⟩;exact⟨rfl,aN (dT (by omega)),trivial⟩)|(refine Gp.cut (H:=[.arr 6 [cD s]]) rfl ⟨rfl,trivial⟩ rfl rfl ?_ fun ρ1 h=>⟨rfl,rfl,h⟩;exact⟨rfl,trivial⟩))
 ·rintro i ρ1 H1 ⟨rfl,rfl,d,rfl⟩
  conv=>whnf
  exact RP _ fun _=>by simp at *;omega
set_option maxRecDepth 20000 in
set_option maxHeartbeats 1000000 in
theorem HN(s:rG)(hs:m5 s):aC pr 278 [.agg (cD s)] (L5 (s.items.length≤12)):=by
 obtain⟨h1,h2,h3,hi,_⟩:=hs
 have hil:=hi.1
 refine aH k278.has rfl ?_
 repeat'((conv=>whnf);first|((first|apply aC.use|apply aC.draw);exact l8 false s.names h2.1 _;rintro r ⟨c,rfl,hc⟩)|((first|apply aC.use|apply aC.draw);exact l8 false s.others h3.1 _;rintro r ⟨c,rfl,hc⟩)|refine And.intro (by first|omega|(simp<;>omega)) ?_|refine And.intro rfl ?_|refine oA ?_|refine oM fun x hx hm=>?_|((first|apply aK|apply aL|apply aM|apply aF|apply aE)<;>intro h<;>(try simp at h)))
 any_goals((conv=>whnf);first|exact xA _ (by assumption)|exact xA _ (by decide))
 conv=>whnf
 refine⟨fun m ρ H1=>∃k:Nat,k+m=(s.items).length∧H1=[.arr 6 [cD s]]∧Sv 97 [(1,.ptr 0 1 0 0),(5,.int .i64 k)] ρ,(s.items).length,[],fun i ρ H1=>i=0∧H1=[.arr 6 [cD s]]∧Sv 97 [(1,.ptr 0 1 0 0)] ρ,?_,?_,?_⟩
 ·exact⟨0,Nat.zero_add _,rfl,Sv.intro rfl ⟨rfl,rfl,trivial⟩⟩
 ·rintro m ρ H1 ⟨k,hk,rfl,d,rfl⟩
  repeat'((conv=>whnf);first|((first|apply aC.use|apply aC.draw);exact pX false s.items hil k (by assumption) _ _ _ _;rintro r ⟨c,rfl⟩)|((first|apply aC.use|apply aC.draw);exact fC _;rintro r ⟨b,rfl⟩)|((first|apply aC.use|apply aC.draw);exact x6 _;rintro r ⟨a,b,c,rfl⟩)|refine And.intro (by first|omega|(simp<;>omega)) ?_|refine And.intro rfl ?_|refine oA ?_|refine oM fun x hx hm=>?_|((first|apply aK|apply aL|apply aM|apply aF|apply aE)<;>intro h<;>(try simp at h)))
  any_goals((conv=>whnf);first|exact xA _ (by assumption)|exact xA _ (by decide)|(refine⟨m-1,by omega,Gp.cut (H:=[.arr 6 [cD s]]) rfl ⟨rfl,trivial⟩ rfl rfl ?_ fun ρ1 h=>⟨k+1,by omega,rfl,h⟩⟩;exact⟨rfl,aN (dT (by omega)),trivial⟩)|(refine Gp.cut (H:=[.arr 6 [cD s]]) rfl ⟨rfl,trivial⟩ rfl rfl ?_ fun ρ1 h=>⟨rfl,rfl,h⟩;exact⟨rfl,trivial⟩))
 ·rintro i ρ1 H1 ⟨rfl,rfl,d,rfl⟩
  conv=>whnf
  exact RP _ fun _=>by omega
def Vs(s:rG):Prop:=0≤s.op∧s.op≤12∧(s.op=0→mK s.src=true)∧(s.op=3→1≤s.names.length∧s.names.length≤12)∧(4≤s.op→s.op≤7→s.names.length=s.others.length)∧(s.op=11→1≤s.names.length+s.items.length)
set_option maxRecDepth 20000 in
set_option maxHeartbeats 1000000 in
theorem FA(s:rG)(hs:m5 s):aC pr 236 [.agg (cD s)] (L5 (Vs s)):=by
 have hs':=hs
 obtain⟨h1,h2,h3,hi,hcd⟩:=hs
 refine aH k236.has rfl ?_
 repeat'((conv=>whnf);first|((first|apply aC.use|apply aC.draw);exact HL s;rintro r ⟨b,rfl⟩)|((first|apply aC.use|apply aC.draw);exact i7 _ h1;rintro r ⟨b,rfl,hb⟩)|((first|apply aC.use|apply aC.draw);exact lK false _ hcd;rintro r ⟨c,rfl,hv⟩)|((first|apply aC.use|apply aC.draw);exact FX s hs';rintro r ⟨c,rfl,hc⟩)|((first|apply aC.use|apply aC.draw);exact l8 false s.names h2.1 _;rintro r ⟨c,rfl,hc⟩)|((first|apply aC.use|apply aC.draw);exact M6 s hs';rintro r ⟨c,rfl,hc⟩)|((first|apply aC.use|apply aC.draw);exact wU _ h1;rintro r ⟨c,rfl⟩)|((first|apply aC.use|apply aC.draw);exact IX s hs';rintro r ⟨c,rfl,hc⟩)|((first|apply aC.use|apply aC.draw);exact HN s hs';rintro r ⟨c,rfl,hc⟩)|refine And.intro (by first|omega|(simp<;>omega)) ?_|refine And.intro rfl ?_|refine oA ?_|refine oM fun x hx hm=>?_|((first|apply aK|apply aL|apply aM|apply aF|apply aE)<;>intro h<;>(try simp at h)<;>(try(exfalso;omega))))
 any_goals((conv=>whnf);first|exact xA _ (by decide)|(refine RP _ fun h0=>⟨by omega,by omega,?_,?_,?_,?_⟩<;>intros<;>first|omega|exact hb (by assumption)))
set_option maxRecDepth 20000 in
theorem sU(x:Bool)(q:List rG)(hq:Fl m5 q):aC pr 188 [.list x 6 (mC cD q)] (L5 (1≤q.length∧q.length≤16∧∀s∈q,Vs s)):=by
 have hql:=hq.1
 refine aH k188.has rfl ?_
 repeat'((conv=>whnf);first|refine And.intro (by first|omega|(simp<;>omega)) ?_|refine And.intro rfl ?_|refine oA ?_|refine oM fun x hx hm=>?_|((first|apply aK|apply aL|apply aM|apply aF|apply aE)<;>intro h<;>(try simp at h)))
 any_goals((conv=>whnf);first|exact xA _ (by decide))
 conv=>whnf
 refine⟨fun m ρ H1=>∃k:Nat,k+m=(q).length∧H1=[]∧(∀s∈q.take k,Vs s)∧Sv 36 [(0,.list x 6 (mC cD q)),(3,.int .i64 k)] ρ,(q).length,[],fun i ρ H1=>i=0∧H1=[]∧(∀s∈q,Vs s)∧Sv 36 [(0,.list x 6 (mC cD q))] ρ,?_,?_,?_⟩
 ·exact⟨0,Nat.zero_add _,rfl,fun s h=>by simp at h,Sv.intro rfl ⟨rfl,rfl,trivial⟩⟩
 ·rintro m ρ H1 ⟨k,hk,rfl,hv,d,rfl⟩
  have nxt:∀{y:rG},q[((k:Int)).toNat]?=some y→Vs y→∀s∈q.take (k+1),Vs s:=fun{y} hy hvy s hsm=>by
   rw[Int.toNat_natCast]at hy
   rw[lB hy]at hsm
   rcases List.mem_append.1 hsm with h|h
   ·exact hv s h
   ·simp at h;subst h;exact hvy
  repeat'((conv=>whnf);first|((first|apply aC.use|apply aC.draw);exact FA _ (hq.2 _ (by assumption));rintro r ⟨c,rfl,hc⟩)|refine And.intro (by first|omega|(simp<;>omega)) ?_|refine And.intro rfl ?_|refine oA ?_|refine oM fun x hx hm=>?_|((first|apply aK|apply aL|apply aM|apply aF|apply aE)<;>intro h<;>(try simp at h)))
  any_goals((conv=>whnf);first|exact xA _ (by assumption)|exact xA _ (by decide)|(refine⟨m-1,by omega,Gp.cut (H:=[]) rfl trivial rfl rfl ?_ fun ρ1 h=>⟨k+1,by omega,rfl,nxt (by assumption) (hc (by assumption)),h⟩⟩;exact⟨rfl,aN (dT (by omega)),trivial⟩)|(refine Gp.cut (H:=[]) rfl trivial rfl rfl ?_ fun ρ1 h=>⟨rfl,rfl,by rwa [List.take_of_length_le (by omega)]at hv,h⟩;exact⟨rfl,trivial⟩))
 ·rintro i ρ1 H1 ⟨rfl,rfl,hv,d,rfl⟩
  conv=>whnf
  exact RP _ fun _=>⟨by omega,by omega,hv⟩
theorem bU{n sz:Nat}{es:List (List a6)}(h:bG es=true):(aB.arr sz es).lowO n:=by
 show(es.all fun e=>e.all (a6.lowC n))=true
 rw[List.all_eq_true]
 intro e he
 rw[List.all_eq_true]
 intro d hd
 have:=List.all_eq_true.1 (List.all_eq_true.1 h e he) d hd
 cases d<;>simp_all [a6.isPure,a6.lowC]
theorem qW{H:List aB}{id n sz:Nat}{es:List (List a6)}(ho:H[id]?=some (.arr sz es))(hn:n=es.length)(hp:bG es=true):vO H (.sl id n 0 n) (.list false sz es):=by
 have:=vO.sl (H:=H) id n 0 n sz es ho hn hp
 rwa [show(es.drop 0).take n=es from by rw[List.drop_zero,List.take_of_length_le (by omega)]]at this
theorem GS{p:Bool→Prop}:∀r,(∃b,r=a6.bool b∧p b)→r.scalar=true:=by rintro _ ⟨b,rfl,_⟩;rfl
theorem eA(l:List ByteArray)(y:ByteArray):sC l++[[.str y]]=sC (l++[y]):=(jU l [y]).symm
theorem G9{α:Type}(f:α→List a6)(l:List α)(y:α):mC f l++[f y]=mC f (l++[y]):=(dD f l [y]).symm
theorem RA(l:List c8)(y:c8):cC l++[fY y]=cC (l++[y]):=(t7 l [y]).symm
theorem dF{α:Type}{p:α→Prop}{l:List α}{y:α}(h:∀x∈l,p x)(hy:p y):∀x∈l++[y],p x:=fun x hx=>by
 rcases List.mem_append.1 hx with hx|hx
 ·exact h x hx
 ·simp at hx;subst hx;exact hy
theorem eM{n:Nat}{es:List (List a6)}(h:n=es.length):Nat.beq n es.length=true:=by rw[h];exact Nat.beq_refl _
theorem VF{H:List aB}{n m sz:Nat}{es fs:List (List a6)}(ho:H[0]?=some (.arr sz es))(he:es=fs)(hn:n=fs.length)(hp:bG fs=true):dV H m [] (.sl 0 n 0 n) (.list false sz fs):=by
 subst he;exact sE ho hn hn hp
set_option maxRecDepth 20000 in
set_option maxHeartbeats 1000000 in
theorem PO(x:Bool)(q:List rG)(hq:Fl m5 q):aC pr 227 [.list x 6 (mC cD q)] (fun r=>∃l:List ByteArray,r=sL l∧Fl bM l∧l.length≤q.length):=by
 have hql:=hq.1
 refine aH k227.has rfl ?_
 conv=>whnf
 refine⟨fun m ρ H1=>∃(k:Nat) (l:List ByteArray),k+m=q.length∧l.length≤k∧(∀s∈l,bM s)∧H1=[.arr 1 (sC l)]∧Sv 49 [(0,.list x 6 (mC cD q)),(3,.sl 0 l.length 0 l.length),(4,.int .i64 k)] ρ,q.length,[(3,1)],
  fun i ρ H1=>i=0∧∃l:List ByteArray,l.length≤q.length∧(∀s∈l,bM s)∧H1=[.arr 1 (sC l)]∧Sv 49 [(3,.sl 0 l.length 0 l.length)] ρ,?_,?_,?_⟩
 ·exact⟨0,[],by omega,Nat.le_refl _,(fun s h=>by simp at h),rfl,Sv.intro rfl ⟨rfl,rfl,rfl,trivial⟩⟩
 ·rintro m ρ H1 ⟨k,l,hk,hlk,hls,rfl,d,rfl⟩
  have hll:l.length≤100000:=by omega
  repeat'((conv=>whnf);first|refine b8 (eM (aP l).symm) ?_|(refine aC.bor (gE false l hll _) GS (.cons (qW rfl (aP l).symm (aO l)) (.cons (.same _ rfl) .nil)) (fun r hr=>?_);obtain⟨b,rfl,hb⟩:=hr)|refine And.intro (⟨by simp[aQ];omega,by simp[aQ];omega,rfl,(aP l).symm⟩) ?_|refine And.intro (by first|omega|(simp<;>omega)) ?_|refine And.intro rfl ?_|refine oA ?_|refine oM fun x hx hm=>?_|((first|apply aK|apply aL|apply aM|apply aF|apply aE)<;>intro h<;>(try simp at h)))
  any_goals((conv=>whnf);first|(refine⟨m-1,by omega,Gp.cut (H:=[.arr 1 (sC l)]) rfl ⟨bU (aO l),trivial⟩ rfl rfl ?_ fun ρ1 h=>⟨k+1,l,by omega,by omega,hls,rfl,h⟩⟩;exact⟨rfl,rfl,aN (dT (by omega)),trivial⟩)|(refine⟨m-1,by omega,Gp.cut (H:=[.arr 1 (sC l++[[.str x.src]])]) rfl ⟨bU (by rw[eA];exact aO _),trivial⟩ rfl rfl ?_ fun ρ1 h=>⟨k+1,l++[x.src],by omega,by simp;omega,dF hls (hq.2 x (by assumption)).1,by rw[eA],h⟩⟩;exact⟨rfl,eS (by simp) (by simp),aN (dT (by omega)),trivial⟩)|(refine Gp.cut (H:=[.arr 1 (sC l)]) rfl ⟨bU (aO l),trivial⟩ rfl rfl ?_ fun ρ1 h=>⟨rfl,l,by omega,hls,rfl,h⟩;exact⟨rfl,trivial⟩))
 ·rintro i ρ1 H1 ⟨rfl,l,hl,hls,rfl,d,rfl⟩
  conv=>whnf
  exact⟨_,VF rfl rfl (aP l).symm (aO l),l,rfl,⟨by omega,hls⟩,hl⟩
set_option maxRecDepth 20000 in
set_option maxHeartbeats 1000000 in
theorem I1(fx:Bool)(l:List ByteArray)(hl:l.length≤300000)(nm:ByteArray):
  aC pr 182 [.list fx 1 (sC l),.str nm] (fun r=>∃l':List ByteArray,r=sL l'∧l'.length≤l.length+1∧∀s∈l',s∈l∨s=nm):=by
 refine aC.weak (S:=fun r=>∃(y:Bool) (l':List ByteArray),r=.list y 1 (sC l')∧l'.length≤l.length+1∧∀s∈l',s∈l∨s=nm) ?_ (by
  rintro r ⟨y,l',rfl,h⟩
  exact⟨_,.lst rfl (aO _),l',rfl,h⟩)
 refine aH k182.has rfl ?_
 conv=>whnf
 refine⟨fun m ρ H1=>∃k:Nat,k+m=l.length∧H1=[]∧Sv 46 [(0,.list fx 1 (sC l)),(1,.str nm),(5,.int .i64 k)] ρ,l.length,[],fun i ρ H1=>i=0∧∃k:Nat,k≤l.length∧H1=[]∧Sv 46 [(0,.list fx 1 (sC l)),(1,.str nm),(5,.int .i64 k)] ρ,?_,?_,?_⟩
 ·exact⟨0,Nat.zero_add _,rfl,Sv.intro rfl ⟨rfl,rfl,rfl,trivial⟩⟩
 ·rintro m ρ H1 ⟨k,hk,rfl,d,rfl⟩
  repeat'((conv=>whnf);first|refine aI ?_|refine oA ?_|refine oM fun x hx hm=>?_|((first|apply aK|apply aL|apply aM|apply aF|apply aE)<;>intro h<;>(try simp at h)))
  any_goals((conv=>whnf);first|(refine⟨m-1,by omega,Gp.cut (H:=[]) rfl trivial rfl rfl ?_ fun ρ1 h=>⟨k+1,by omega,rfl,h⟩⟩;exact⟨rfl,rfl,aN (dT (by omega)),trivial⟩)|(refine Gp.cut (H:=[]) rfl trivial rfl rfl ?_ fun ρ1 h=>⟨rfl,k,by omega,rfl,h⟩;exact⟨rfl,rfl,rfl,trivial⟩))
 ·rintro i ρ1 H1 ⟨rfl,k,hk,rfl,d,rfl⟩
  repeat'((conv=>whnf);first|refine aI ?_|refine oA ?_|refine oM fun x hx hm=>?_|((first|apply aK|apply aL|apply aM|apply aF|apply aE)<;>intro h<;>(try simp at h)))
  any_goals((conv=>whnf);first|exact⟨_,.closed _ rfl,fx,l,rfl,by omega,fun s h=>.inl h⟩)
  all_goals
   conv=>whnf
   have hcc:List.drop 0 (List.take ((k:Int)).toNat (sC l))++[[a6.str nm]]++List.drop ((k:Int)).toNat (List.take (sC l).length (sC l))=sC (l.take k++[nm]++l.drop k):=by
    rw[List.take_length];simp[sC,List.map_take,List.map_drop]
   exact⟨_,VF (fs:=sC (l.take k++[nm]++l.drop k)) rfl hcc (by rw[←hcc]) (aO _),false,l.take k++[nm]++l.drop k,rfl,by simp;omega,fun s hs=>by
    simp only[List.mem_append,List.mem_singleton]at hs
    rcases hs with(h|h)|h
    ·exact .inl (List.mem_of_mem_take h)
    ·exact .inr h
    ·exact .inl (List.mem_of_mem_drop h)⟩
theorem J1(cs:List c8)(names:List ByteArray):∀(l:List ByteArray) (k:Nat) (out:List Int),(∀i∈out,0≤i∧i.toNat<cs.length)→(∃e:Int,e≠0∧z7 cs names l k out=.tuple [.nil,.int .i64 e]) ∨
  ∃is:List Int,is.length=out.length+l.length∧(∀i∈is,0≤i∧i.toNat<cs.length)∧z7 cs names l k out=.tuple [.list false 1 (iC is),.int .i64 0]
 |[],k,out,h=>.inr ⟨out,by simp,h,rfl⟩
 |s::ss,k,out,h=>by
  rw[z7]
  split
  ·exact .inl ⟨5,by decide,rfl⟩
  ·rename_i h0
   split
   ·exact .inl ⟨6,by decide,rfl⟩
   ·rcases J1 cs names ss (k+1) (out++[dZ cs s]) (dF h ⟨by omega,dB cs s (by omega)⟩)with h1|⟨is,h1,h2,h3⟩
    ·exact .inl h1
    ·exact .inr ⟨is,by rw[h1];simp;omega,h2,h3⟩
theorem iM(e1 e2:Bool)(cs:List c8)(names:List ByteArray)(hc:cs.length≤100000)(hl:names.length≤100000):
  aC pr 238 [.list e1 3 (cC cs),.list e2 1 (sC names)] (fun r=>(∃e:Int,e≠0∧r=.tuple [.nil,.int .i64 e])∨∃is:List Int,is.length=names.length∧(∀i∈is,0≤i∧i.toNat<cs.length)∧r=.tuple [.list false 1 (iC is),.int .i64 0]) :=
 (aC.of (wI e1 e2 cs names (by omega) (by omega))).mono fun r hr=>by
  rcases J1 cs names names 0 [] (fun i h=>by simp at h)with⟨e,h1,h2⟩|⟨is,h1,h2,h3⟩
  ·exact .inl ⟨e,h1,hr.trans h2⟩
  ·exact .inr ⟨is,by simpa using h1,h2,hr.trans h3⟩
set_option maxRecDepth 20000 in
theorem BZ(e1 e3:Bool)(cs rs:List c8)(s:rG)(hc:cs.length≤100000)(hr:rs.length≤100000)(hs:m5 s)(hl:s.names.length=s.others.length):
  aC pr 241 [.list e1 3 (cC cs),.agg (cD s),.list e3 3 (cC rs)] L6:=by
 obtain⟨_,h2,h3,_,_⟩:=hs
 refine aH k241.has rfl ?_
 repeat'((conv=>whnf);first|((first|apply aC.use|apply aC.draw);exact iM e1 false cs s.names hc h2.1;rintro r (⟨e,he,rfl⟩|⟨a,ha1,ha2,rfl⟩))|((first|apply aC.use|apply aC.draw);exact iM e3 false rs s.others hr h3.1;rintro r (⟨e,he,rfl⟩|⟨b,hb1,hb2,rfl⟩))|refine aI ?_|refine oA ?_|refine oM fun x hx hm=>?_|((first|apply aK|apply aL|apply aM|apply aF|apply aE)<;>intro h<;>(try simp at h)<;>(try(exfalso;omega))))
 any_goals((conv=>whnf);first|exact HQ _)
 conv=>whnf
 refine⟨fun m ρ H1=>∃k:Nat,k+m=(a).length∧H1=[.arr 6 [cD s]]∧Sv 54 [(0,.list e1 3 (cC cs)),(2,.list e3 3 (cC rs)),(7,.list false 1 (iC a)),(9,.list false 1 (iC b)),(10,.int .i64 k)] ρ,(a).length,[],fun i ρ H1=>i=0∧H1=[.arr 6 [cD s]]∧Sv 54 [(0,.list e1 3 (cC cs))] ρ,?_,?_,?_⟩
 ·exact⟨0,Nat.zero_add _,rfl,Sv.intro rfl ⟨rfl,rfl,rfl,rfl,rfl,trivial⟩⟩
 ·rintro m ρ H1 ⟨k,hk,rfl,d,rfl⟩
  have hal:a.length≤100000:=by rw[ha1];exact h2.1
  have ha3:∀i∈a,0≤i:=fun i h=>(ha2 i h).1
  have hb3:∀i∈b,0≤i:=fun i h=>(hb2 i h).1
  repeat'((conv=>whnf);first|refine And.intro (ha3 _ (by assumption)) ?_|refine And.intro (hb3 _ (by assumption)) ?_|refine iP (ha2 _ (by assumption)).2 (fun x hx hm=>?_)|refine iP (hb2 _ (by assumption)).2 (fun x hx hm=>?_)|refine aI ?_|refine oA ?_|refine oM fun x hx hm=>?_|((first|apply aK|apply aL|apply aM|apply aF|apply aE)<;>intro h<;>(try simp at h)))
  any_goals((conv=>whnf);first|exact HQ _|(refine⟨m-1,by omega,Gp.cut (H:=[.arr 6 [cD s]]) rfl ⟨rfl,trivial⟩ rfl rfl ?_ fun ρ1 h=>⟨k+1,by omega,rfl,h⟩⟩;exact⟨rfl,rfl,rfl,rfl,aN (dT (by omega)),trivial⟩)|(refine Gp.cut (H:=[.arr 6 [cD s]]) rfl ⟨rfl,trivial⟩ rfl rfl ?_ fun ρ1 h=>⟨rfl,rfl,h⟩;exact⟨rfl,trivial⟩))
 ·rintro i ρ1 H1 ⟨rfl,rfl,d,rfl⟩
  conv=>whnf
  exact HQ _
def zT(p:List c8→Prop)(r:a6):Prop:=∃(c:a6) (cs:List c8) (e:Int),r=.tuple [c,.int .i64 e]∧gB c (cL cs)∧cs.length≤100000∧(e=0→p cs)
def VO(p:List c8→Prop)(r:a6):Prop:=∃(cs:List c8) (e:Int),r=.tuple [cL cs,.int .i64 e]∧cs.length≤100000∧(e=0→p cs)
def Cz(q:List c8):Prop:=1≤q.length∧q.length≤12∧∀c∈q,bM c.name
theorem Cz.le{q:List c8}(h:Cz q):q.length≤100000:=Nat.le_trans h.2.1 (by decide)
theorem Cz.ofV{q:List c8}(h:1≤q.length∧q.length≤12∧∀c∈q,eE c.name=true∧1≤c.kind∧c.kind≤4):Cz q:=⟨h.1,h.2.1,fun c hc=>Nat.le_trans (vA (h.2.2 c hc).1) (by decide)⟩
theorem Cz.ofE{cs q:List c8}(h:1≤cs.length∧cs.length≤12∧∀c∈cs,eE c.name=true∧1≤c.kind∧c.kind≤4)(e:q.length=cs.length∧∀c∈q,∃c'∈cs,c.name=c'.name):Cz q:=by
 refine⟨e.1▸h.1,e.1▸h.2.1,fun c hc=>?_⟩
 obtain⟨c',h1,h2⟩:=e.2 c hc
 rw[h2]
 exact(Cz.ofV h).2.2 c' h1
theorem FD:∀(a b:List c8),∀c∈nI a b,∃c'∈a,c.name=c'.name
 |x::a,y::b,c,h=>by
  rcases List.mem_cons.1 h with rfl|h
  ·exact⟨x,List.mem_cons_self ..,rfl⟩
  ·obtain⟨c',h1,h2⟩:=FD a b c h
   exact⟨c',List.mem_cons_of_mem _ h1,h2⟩
 |[],[],c,h=>by simp[nI]at h
 |x::a,[],c,h=>⟨c,h,rfl⟩
 |[],_::_,c,h=>by simp[nI]at h
theorem zE{cs:List c8}{a:List Int}(h:∀c∈cs,bM c.name):∀c∈mI zC cs a,bM c.name:=fun c hc=>by
 obtain⟨i,_,rfl⟩:=List.mem_map.1 hc
 split
 ·rename_i hi
  rw[List.getD_eq_getElem?_getD,List.getElem?_eq_getElem (by omega)]
  exact h _ (List.getElem_mem _)
 ·exact(by decide:(0:Nat)≤100000)
theorem zT.wk{p:List c8→Prop}:∀r,zT p r→∃r',gB r r'∧VO p r':=by
 rintro r ⟨c,cs,e,rfl,hw,hl,h⟩
 exact⟨_,.tuples (.cons hw (.cons (.refl _) .nil)),cs,e,rfl,hl,h⟩
theorem n8{p:List c8→Prop}{H:List aB}(e:Int)(he:e≠0):∃r,dV H 0 [] (.tuple [.nil,.int .i64 e]) r∧zT p r :=
 ⟨_,dU (.closed _ rfl) (.closed _ rfl),.nil,[],e,rfl,.nil _ _,by simp,fun h=>absurd h he⟩
theorem TY{p:List c8→Prop}{H:List aB}{id n:Nat}{es:List (List a6)}(cs:List c8)(ho:H[id]?=some (.arr 3 es))(he:es=cC cs)(hn:n=es.length)(hl:cs.length≤100000)(h:p cs):
  ∃r,dV H 0 [] (.tuple [.sl id n 0 n,.int .i64 0]) r∧zT p r:=by
 subst he
 exact⟨_,dU (sE ho hn hn (cI cs)) (.closed _ rfl),_,cs,0,rfl,.refl _,hl,fun _=>h⟩
theorem U9{H:List aB}{id n:Nat}{es:List (List a6)}(ho:H[id]?=some (.arr 3 es))(hn:n=es.length):
  ∃v H1,((n≤12∧v=.tuple [.sl id n 0 n,.int .i64 0]∨v=.tuple [.nil,.int .i64 2])∧H1=H)∧a7 pr 279 [.sl id n 0 n] H (fun r H'=>r=v∧H'=H1):=by
 refine d6 k279.has ?_
 (conv=>whnf);refine b4 (ho) ?_
 (conv=>whnf);refine b8 (eM hn) ?_
 (conv=>whnf);refine aE (fun h=>?_) (fun h=>?_)
 ·conv=>whnf
  exact⟨.inr rfl,rfl⟩
 ·simp at h
  conv=>whnf
  exact⟨.inl ⟨by omega,rfl⟩,rfl⟩
theorem tI{H:List aB}{id n:Nat}{es:List (List a6)}{k:a6→List aB→Prop}(ho:H[id]?=some (.arr 3 es))(hn:n=es.length)
  (h1:n≤12→k (.tuple [.sl id n 0 n,.int .i64 0]) H) (h2:k (.tuple [.nil,.int .i64 2]) H):bI pr 279 [.sl id n 0 n] H k:=by
 obtain⟨v,H1,⟨hv,rfl⟩,hc⟩:=U9 ho hn
 rcases hv with⟨hl,rfl⟩|rfl
 ·exact bI.of hc (h1 hl)
 ·exact bI.of hc h2
set_option maxRecDepth 20000 in
set_option maxHeartbeats 1000000 in
theorem rY(x:Bool)(cs:List c8)(hc:cs.length≤100000)(it:X9):
  aC pr 281 [.list x 3 (cC cs),.agg (G6 it)] (fun r=>∃(c:c8) (e:Int),r=.tuple [.agg (fY c),.int .i64 e]∧(bM it.name→bM c.name)):=by
 have hci:=dB cs it.col
 refine aH k281.has rfl ?_
 repeat'((conv=>whnf);first|((first|apply aC.use|apply aC.draw);exact aC.of (bB x cs (by omega) it.col);rintro r rfl)|refine aI ?_|refine oA ?_|refine oM fun x hx hm=>?_|((first|apply aK|apply aL|apply aM|apply aF|apply aE)<;>intro h<;>(try simp at h)<;>(try(exfalso;omega))))
 any_goals((conv=>whnf);first|exact⟨_,dU (.closed _ rfl) (.closed _ rfl),⟨_,_,_⟩,_,rfl,fun h=>h⟩|exact⟨_,dU (.closed _ rfl) (.closed _ rfl),⟨_,_,_⟩,_,rfl,fun _=>(by decide:(0:Nat)≤100000)⟩|fail)
set_option maxRecDepth 20000 in
theorem jF(e1 e2 e3:Bool)(e:List oO)(cs:List c8)(zs:List I0)(he:Fl xU e)(hc:cs.length≤100000)(hz:Fl E2 zs):
  aC pr 143 [.list e1 6 (mC fZ e),.list e2 3 (cC cs),.list e3 3 (mC mA zs)] L6:=by
 refine aH k143.has rfl ?_
 repeat'((conv=>whnf);first|((first|apply aC.use|apply aC.draw);exact DF e1 e2 e3 e cs zs he hc hz;rintro r ⟨k,b,c,rfl⟩)|refine aI ?_|refine oA ?_|refine oM fun x hx hm=>?_|((first|apply aK|apply aL|apply aM|apply aF|apply aE)<;>intro h<;>(try simp at h)))
 any_goals((conv=>whnf);first|exact HQ _|fail)
theorem MS(e1 e3:Bool)(cs rs:List c8)(s:rG)(hc:cs.length≤100000)(hr:rs.length≤100000):
  aC pr 242 [.list e1 3 (cC cs),.agg (cD s),.list e3 3 (cC rs)] (VO (fun q=>q.length=cs.length∧∀c∈q,∃c'∈cs,c.name=c'.name)):=by
 refine aC.weak ?_ zT.wk
 refine aH k242.has rfl ?_
 repeat'((conv=>whnf);first|((first|apply aC.use|apply aC.draw);exact aC.of (sG e1 e3 cs rs (by omega));rintro r rfl)|((first|apply aC.use|apply aC.draw);exact aC.of (A2 e1 e3 cs rs (by omega) (by omega));rintro r rfl)|refine aI ?_|refine oA ?_|refine oM fun x hx hm=>?_|((first|apply aK|apply aL|apply aM|apply aF|apply aE)<;>intro h<;>(try simp at h)))
 any_goals((conv=>whnf);first|exact n8 _ (by decide)|exact⟨_,dU (.closed _ rfl) (.closed _ rfl),_,cs,0,rfl,.lst rfl (cI _),by omega,fun _=>⟨rfl,fun c hc=>⟨c,hc,rfl⟩⟩⟩|exact⟨_,dU (.closed _ rfl) (.closed _ rfl),_,nI cs rs,0,rfl,.refl _,by rw[iS];omega,fun _=>⟨iS _ _,FD _ _⟩⟩|fail)
theorem zM(x:Bool)(zs:List I0)(hz:Fl E2 zs):aC pr 189 [.list x 3 (mC mA zs)] L6:=by
 have hzl:=hz.1
 refine aH k189.has rfl ?_
 conv=>whnf
 refine⟨fun m ρ H1=>∃k:Nat,k+m=(zs).length∧H1=[]∧Sv 19 [(0,.list x 3 (mC mA zs)),(3,.int .i64 k)] ρ,(zs).length,[],fun i ρ H1=>i=0∧H1=[]∧Sv 19 [(0,.list x 3 (mC mA zs))] ρ,?_,?_,?_⟩
 ·exact⟨0,Nat.zero_add _,rfl,Sv.intro rfl ⟨rfl,rfl,trivial⟩⟩
 ·rintro m ρ H1 ⟨k,hk,rfl,d,rfl⟩
  repeat'((conv=>whnf);first|((first|apply aC.use|apply aC.draw);exact oJ _ (hz.2 _ (by assumption));rintro r ⟨c,rfl⟩)|refine aI ?_|refine oA ?_|refine oM fun x hx hm=>?_|((first|apply aK|apply aL|apply aM|apply aF|apply aE)<;>intro h<;>(try simp at h)))
  any_goals((conv=>whnf);first|exact HQ _|(refine⟨m-1,by omega,Gp.cut (H:=[]) rfl trivial rfl rfl ?_ fun ρ1 h=>⟨k+1,by omega,rfl,h⟩⟩;exact⟨rfl,aN (dT (by omega)),trivial⟩)|(refine Gp.cut (H:=[]) rfl trivial rfl rfl ?_ fun ρ1 h=>⟨rfl,rfl,h⟩;exact⟨rfl,trivial⟩)|fail)
 ·rintro i ρ1 H1 ⟨rfl,rfl,d,rfl⟩
  conv=>whnf
  exact HQ _
theorem Gp.col{n:Nat}{live:List (Nat×a6)}{ρ:List a6}{H' G:List aB}{I:List a6→List aB→Prop}{o:aB}{es:List (List a6)}{out:List c8}(x:c8)(he:es=cC out)(hH:H'=[o,.arr 3 (es++[fY x])]++G)(ho:o.lowO 2)(hl:ρ.length=n)(hlow:M8 2 live=true)(h:vQ ρ live)
  (hI:∀ρ1,es++[fY x]=cC (out++[x])→Sv n live ρ1→I ρ1 [o,.arr 3 (es++[fY x])]):Gp [] ρ H' I :=
 have hx:es++[fY x]=cC (out++[x]):=by rw[he,RA]
 Gp.cut hH ⟨ho,bU (by rw[hx];exact cI _),trivial⟩ hl hlow h fun ρ1=>hI ρ1 hx
theorem Gp.cols{n:Nat}{live:List (Nat×a6)}{ρ:List a6}{H' G:List aB}{I:List a6→List aB→Prop}{o:aB}{es:List (List a6)}{out:List c8}(he:es=cC out)(hH:H'=[o,.arr 3 es]++G)(ho:o.lowO 2)(hl:ρ.length=n)(hlow:M8 2 live=true)(h:vQ ρ live)
  (hI:∀ρ1,Sv n live ρ1→I ρ1 [o,.arr 3 es]):Gp [] ρ H' I :=
 Gp.cut hH ⟨ho,bU (by rw[he];exact cI _),trivial⟩ hl hlow h hI
set_option maxRecDepth 20000 in
set_option maxHeartbeats 1000000 in
theorem FY(e1 e3:Bool)(cs:List c8)(s:rG)(zs:List I0)(hc1:1≤cs.length)(hcn:∀c∈cs,bM c.name)(hc:cs.length≤100000)(hs:m5 s)(hz:Fl E2 zs):
  aC pr 237 [.list e1 3 (cC cs),.agg (cD s),.list e3 3 (mC mA zs)] (VO Cz):=by
 obtain⟨h1,h2,h3,hi,_⟩:=hs
 have hil:=hi.1
 refine aC.weak ?_ zT.wk
 refine aH k237.has rfl ?_
 conv=>whnf
 refine⟨⟨by simp[aQ];omega,by simp[aQ];omega⟩,?_⟩
 conv=>whnf
 refine⟨fun m ρ H1=>∃(k:Nat) (es:List (List a6)),k+m=s.items.length∧(∃out:List c8,es=cC out∧1≤out.length∧out.length≤100000+k∧∀c∈out,bM c.name)∧H1=[.arr 6 [cD s],.arr 3 es]∧Sv 68 [(0,.list e1 3 (cC cs)),(2,.list e3 3 (mC mA zs)),(4,.ptr 0 1 0 0),(8,.sl 1 es.length 0 es.length),(9,.int .i64 k)] ρ,s.items.length,[],
  fun i ρ H1=>i=0∧∃es:List (List a6),(∃out:List c8,es=cC out∧1≤out.length∧out.length≤200000∧∀c∈out,bM c.name)∧H1=[.arr 6 [cD s],.arr 3 es]∧Sv 68 [(8,.sl 1 es.length 0 es.length)] ρ,?_,?_,?_⟩
 ·exact⟨0,cC cs,by omega,⟨cs,rfl,hc1,by omega,hcn⟩,rfl,Sv.intro rfl ⟨rfl,rfl,rfl,rfl,rfl,trivial⟩⟩
 ·rintro m ρ H1 ⟨k,es,hk,⟨out,he,ho1,ho2,ho3⟩,rfl,d,rfl⟩
  have hel:es.length=out.length:=by rw[he];simp
  repeat'((conv=>whnf);first|((first|apply aC.use|apply aC.draw);exact DF false e1 e3 _ cs zs (hi.2 _ (by assumption)).2.2 hc hz;rintro r ⟨kd,b,c,rfl⟩)|((first|apply aC.use|apply aC.draw);exact aC.of (bB e1 cs (by omega) _);rintro r rfl)|refine aI ?_|refine oA ?_|refine oM fun x hx hm=>?_|((first|apply aK|apply aL|apply aM|apply aF|apply aE)<;>intro h<;>(try simp at h)))
  any_goals((conv=>whnf);first|exact n8 _ (by assumption)|exact n8 _ (by decide)|(refine⟨m-1,by omega,Gp.col ⟨x.name,kd,b⟩ he rfl rfl rfl rfl ?_ fun ρ1 hx h=>⟨k+1,_,by omega,⟨_,hx,by simp,by simp;omega,dF ho3 (hi.2 _ (by assumption)).1⟩,rfl,h⟩⟩;exact⟨rfl,rfl,rfl,eS (by simp) (by simp),aN (dT (by omega)),trivial⟩)|(refine Gp.cols he rfl rfl rfl rfl ?_ fun ρ1 h=>⟨rfl,es,⟨out,he,ho1,by omega,ho3⟩,rfl,h⟩;exact⟨rfl,trivial⟩)|fail)
 ·rintro i ρ1 H1 ⟨rfl,es,⟨out,he,h1,h2,h8⟩,rfl,d,rfl⟩
  conv=>whnf
  refine tI rfl rfl (fun hl=>?_) ?_
  ·conv=>whnf
   exact TY out rfl he rfl (by rw[he]at hl;simp at hl;omega) ⟨h1,by rw[he]at hl;simpa using hl,h8⟩
  ·conv=>whnf
   exact n8 _ (by decide)
set_option maxRecDepth 20000 in
set_option maxHeartbeats 1000000 in
theorem I2(e1 e3:Bool)(cs rs:List c8)(s:rG)(hc1:1≤cs.length)(hcn:∀c∈cs,bM c.name)(hc:cs.length≤100000)(hr:rs.length≤100000)(hs:m5 s)(hl:s.names.length=s.others.length):
  aC pr 240 [.list e1 3 (cC cs),.agg (cD s),.list e3 3 (cC rs)] (VO Cz):=by
 have hs0:=hs
 obtain⟨h1,h2,h3,hi,_⟩:=hs
 have hil:=hi.1
 refine aC.weak ?_ zT.wk
 refine aH k240.has rfl ?_
 repeat'((conv=>whnf);first|((first|apply aC.use|apply aC.draw);exact BZ e1 e3 cs rs s hc hr hs0 hl;rintro r ⟨c,rfl⟩)|refine And.intro (⟨by simp[aQ];omega,by simp[aQ];omega⟩) ?_|refine aI ?_|refine oA ?_|refine oM fun x hx hm=>?_|((first|apply aK|apply aL|apply aM|apply aF|apply aE)<;>intro h<;>(try simp at h)<;>(try(exfalso;omega))))
 any_goals((conv=>whnf);first|exact n8 _ (by assumption)|fail)
 refine⟨fun m ρ H1=>∃(k:Nat) (es:List (List a6)),k+m=s.items.length∧(∃out:List c8,es=cC out∧1≤out.length∧out.length≤100000+k∧∀c∈out,bM c.name)∧H1=[.arr 6 [cD s],.arr 3 es]∧Sv 76 [(0,.list e1 3 (cC cs)),(2,.list e3 3 (cC rs)),(4,.ptr 0 1 0 0),(9,.sl 1 es.length 0 es.length),(10,.int .i64 k)] ρ,s.items.length,[],
  fun i ρ H1=>i=0∧∃es:List (List a6),(∃out:List c8,es=cC out∧1≤out.length∧out.length≤200000∧∀c∈out,bM c.name)∧H1=[.arr 6 [cD s],.arr 3 es]∧Sv 76 [(9,.sl 1 es.length 0 es.length)] ρ,?_,?_,?_⟩
 ·exact⟨0,cC cs,by omega,⟨cs,rfl,hc1,by omega,hcn⟩,rfl,Sv.intro rfl ⟨rfl,rfl,rfl,rfl,rfl,trivial⟩⟩
 ·rintro m ρ H1 ⟨k,es,hk,⟨out,he,ho1,ho2,ho3⟩,rfl,d,rfl⟩
  have hel:es.length=out.length:=by rw[he];simp
  repeat'((conv=>whnf);first|((first|apply aC.use|apply aC.draw);exact aC.of (bB e3 rs (by omega) _);rintro r rfl)|((first|apply aC.use|apply aC.draw);exact aC.of (bB e1 cs (by omega) _);rintro r rfl)|refine iP (dB rs _ (by assumption)) (fun y hy hm=>?_)|refine And.intro (by first|assumption|omega) ?_|refine aI ?_|refine oA ?_|refine oM fun x hx hm=>?_|((first|apply aK|apply aL|apply aM|apply aF|apply aE)<;>intro h<;>(try simp at h)))
  any_goals((conv=>whnf);first|exact n8 _ (by decide)|(refine⟨m-1,by omega,Gp.col ⟨x.name,_,_⟩ he rfl rfl rfl rfl ?_ fun ρ1 hx h=>⟨k+1,_,by omega,⟨_,hx,by simp,by simp;omega,dF ho3 (hi.2 x (by assumption)).1⟩,rfl,h⟩⟩;exact⟨rfl,rfl,rfl,eS (by simp) (by simp),aN (dT (by omega)),trivial⟩)|(refine Gp.cols he rfl rfl rfl rfl ?_ fun ρ1 h=>⟨rfl,es,⟨out,he,ho1,by omega,ho3⟩,rfl,h⟩;exact⟨rfl,trivial⟩)|fail)
 ·rintro i ρ1 H1 ⟨rfl,es,⟨out,he,h1,h2,h8⟩,rfl,d,rfl⟩
  conv=>whnf
  refine tI rfl rfl (fun hl=>?_) ?_
  ·conv=>whnf
   exact TY out rfl he rfl (by rw[he]at hl;simp at hl;omega) ⟨h1,by rw[he]at hl;simpa using hl,h8⟩
  ·conv=>whnf
   exact n8 _ (by decide)
set_option maxRecDepth 20000 in
set_option maxHeartbeats 1000000 in
theorem IY(e1:Bool)(cs:List c8)(s:rG)(hcn:∀c∈cs,bM c.name)(hc:cs.length≤100000)(hs:m5 s)(hn:1≤s.names.length+s.items.length):
  aC pr 243 [.list e1 3 (cC cs),.agg (cD s)] (VO Cz):=by
 obtain⟨h1,h2,h3,hi,_⟩:=hs
 have hil:=hi.1
 have hnl:=h2.1
 refine aC.weak ?_ zT.wk
 refine aH k243.has rfl ?_
 repeat'((conv=>whnf);first|((first|apply aC.use|apply aC.draw);exact iM e1 false cs s.names hc hnl;rintro r (⟨e,he,rfl⟩|⟨a,ha1,ha2,rfl⟩))|refine aI ?_|refine oA ?_|refine oM fun x hx hm=>?_|((first|apply aK|apply aL|apply aM|apply aF|apply aE)<;>intro h<;>(try simp at h)<;>(try(exfalso;omega))))
 any_goals((conv=>whnf);first|exact n8 _ (by assumption)|fail)
 (conv=>whnf);refine bI.of (a7.own1 rfl (qY e1 false cs a (by omega) (by omega)) (cI _)) ?_
 conv=>whnf
 have hpl:(cC (mI zC cs a)).length=a.length:=by simp[dY]
 refine⟨fun m ρ H1=>∃(k:Nat) (es:List (List a6)),k+m=s.items.length∧(∃out:List c8,es=cC out∧out.length=s.names.length+k∧∀c∈out,bM c.name)∧H1=[.arr 6 [cD s],.arr 3 es]∧Sv 53 [(0,.list e1 3 (cC cs)),(3,.ptr 0 1 0 0),(8,.sl 1 es.length 0 es.length),(9,.int .i64 k)] ρ,s.items.length,[],
  fun i ρ H1=>i=0∧∃es:List (List a6),(∃out:List c8,es=cC out∧1≤out.length∧out.length≤200000∧∀c∈out,bM c.name)∧H1=[.arr 6 [cD s],.arr 3 es]∧Sv 53 [(8,.sl 1 es.length 0 es.length)] ρ,?_,?_,?_⟩
 ·exact⟨0,cC (mI zC cs a),by omega,⟨_,rfl,by rw[dY];omega,zE hcn⟩,rfl,Sv.intro rfl ⟨rfl,rfl,eS hpl.symm hpl.symm,rfl,trivial⟩⟩
 ·rintro m ρ H1 ⟨k,es,hk,⟨out,he,ho2,ho3⟩,rfl,d,rfl⟩
  have hel:es.length=out.length:=by rw[he];simp
  repeat'((conv=>whnf);first|((first|apply aC.use|apply aC.draw);exact rY e1 cs hc _;rintro r ⟨c,e,rfl,hcf⟩)|refine And.intro (⟨by simp[aQ];omega,by simp[aQ];omega,rfl,rfl⟩) ?_|refine aI ?_|refine oA ?_|refine oM fun x hx hm=>?_|((first|apply aK|apply aL|apply aM|apply aF|apply aE)<;>intro h<;>(try simp at h)))
  any_goals((conv=>whnf);first|exact n8 _ (by assumption)|(refine⟨m-1,by omega,Gp.col c he rfl rfl rfl rfl ?_ fun ρ1 hx h=>⟨k+1,_,by omega,⟨_,hx,by simp;omega,dF ho3 (hcf (hi.2 _ (by assumption)).1)⟩,rfl,h⟩⟩;exact⟨rfl,rfl,eS (by simp) (by simp),aN (dT (by omega)),trivial⟩)|(refine Gp.cols he rfl rfl rfl rfl ?_ fun ρ1 h=>⟨rfl,es,⟨out,he,by omega,by omega,ho3⟩,rfl,h⟩;exact⟨rfl,trivial⟩)|fail)
 ·rintro i ρ1 H1 ⟨rfl,es,⟨out,he,h1,h2,h8⟩,rfl,d,rfl⟩
  conv=>whnf
  refine tI rfl rfl (fun hl=>?_) ?_
  ·conv=>whnf
   exact TY out rfl he rfl (by rw[he]at hl;simp at hl;omega) ⟨h1,by rw[he]at hl;simpa using hl,h8⟩
  ·conv=>whnf
   exact n8 _ (by decide)
set_option maxRecDepth 20000 in
set_option maxHeartbeats 1000000 in
theorem HO(e1:Bool)(cs:List c8)(s:rG)(hc1:1≤cs.length)(hcn:∀c∈cs,bM c.name)(hc:cs.length≤100000)(hs:m5 s):
  aC pr 244 [.list e1 3 (cC cs),.agg (cD s)] (VO Cz):=by
 obtain⟨h1,h2,h3,hi,_⟩:=hs
 have hil:=hi.1
 have hnl:=h2.1
 have hol:=h3.1
 refine aC.weak ?_ zT.wk
 refine aH k244.has rfl ?_
 repeat'((conv=>whnf);first|((first|apply aC.use|apply aC.draw);exact iM e1 false cs s.names hc hnl;rintro r (⟨e,he,rfl⟩|⟨a,ha1,ha2,rfl⟩))|((first|apply aC.use|apply aC.draw);exact iM e1 false cs s.others hc hol;rintro r (⟨e,he,rfl⟩|⟨b,hb1,hb2,rfl⟩))|refine And.intro (⟨by simp[aQ];omega,by simp[aQ];omega⟩) ?_|refine aI ?_|refine oA ?_|refine oM fun x hx hm=>?_|((first|apply aK|apply aL|apply aM|apply aF|apply aE)<;>intro h<;>(try simp at h)<;>(try(exfalso;omega))))
 any_goals((conv=>whnf);first|exact n8 _ (by assumption)|fail)
 refine⟨fun m ρ H1=>∃(k:Nat) (es:List (List a6)),k+m=s.items.length∧(∃out:List c8,es=cC out∧1≤out.length∧out.length≤100000+k∧∀c∈out,bM c.name)∧H1=[.arr 6 [cD s],.arr 3 es]∧Sv 69 [(0,.list e1 3 (cC cs)),(3,.ptr 0 1 0 0),(10,.sl 1 es.length 0 es.length),(11,.int .i64 k)] ρ,s.items.length,[],
  fun i ρ H1=>i=0∧∃es:List (List a6),(∃out:List c8,es=cC out∧1≤out.length∧out.length≤200000∧∀c∈out,bM c.name)∧H1=[.arr 6 [cD s],.arr 3 es]∧Sv 69 [(10,.sl 1 es.length 0 es.length)] ρ,?_,?_,?_⟩
 ·exact⟨0,cC cs,by omega,⟨cs,rfl,hc1,by omega,hcn⟩,rfl,Sv.intro rfl ⟨rfl,rfl,rfl,rfl,trivial⟩⟩
 ·rintro m ρ H1 ⟨k,es,hk,⟨out,he,ho1,ho2,ho3⟩,rfl,d,rfl⟩
  have hel:es.length=out.length:=by rw[he];simp
  repeat'((conv=>whnf);first|((first|apply aC.use|apply aC.draw);exact rY e1 cs hc _;rintro r ⟨c,e,rfl,hcf⟩)|((first|apply aC.use|apply aC.draw);exact aC.of (bB e1 cs (by omega) _);rintro r rfl)|refine And.intro (⟨by simp[aQ];omega,by simp[aQ];omega,rfl,rfl⟩) ?_|refine aI ?_|refine oA ?_|refine oM fun x hx hm=>?_|((first|apply aK|apply aL|apply aM|apply aF|apply aE)<;>intro h<;>(try simp at h)))
  any_goals((conv=>whnf);first|exact n8 _ (by assumption)|exact n8 _ (by decide)|(refine⟨m-1,by omega,Gp.col c he rfl rfl rfl rfl ?_ fun ρ1 hx h=>⟨k+1,_,by omega,⟨_,hx,by simp,by simp;omega,dF ho3 (hcf (hi.2 _ (by assumption)).1)⟩,rfl,h⟩⟩;exact⟨rfl,rfl,eS (by simp) (by simp),aN (dT (by omega)),trivial⟩)|(refine Gp.cols he rfl rfl rfl rfl ?_ fun ρ1 h=>⟨rfl,es,⟨out,he,ho1,by omega,ho3⟩,rfl,h⟩;exact⟨rfl,trivial⟩)|fail)
 ·rintro i ρ1 H1 ⟨rfl,es,⟨out,he,h1,h2,h8⟩,rfl,d,rfl⟩
  conv=>whnf
  refine tI rfl rfl (fun hl=>?_) ?_
  ·conv=>whnf
   exact TY out rfl he rfl (by rw[he]at hl;simp at hl;omega) ⟨h1,by rw[he]at hl;simpa using hl,h8⟩
  ·conv=>whnf
   exact n8 _ (by decide)
theorem SM{s:ByteArray}(h:mK s=true):s≠bs []:=by
 rintro rfl
 exact absurd h (by decide)
theorem W7{p:List c8→Prop}{H:List aB}(y:Bool)(cs:List c8)(hl:cs.length≤100000)(h:p cs):∃r,dV H 0 [] (.tuple [.list y 3 (cC cs),.int .i64 0]) r∧zT p r :=
 ⟨_,dU (.closed _ rfl) (.closed _ rfl),_,cs,0,rfl,.lst rfl (cI _),hl,fun _=>h⟩
theorem ZN{p:List c8→Prop}{H:List aB}{cs:List c8}{e:Int}(hl:cs.length≤100000)(h:e=0→p cs):∃r,dV H 0 [] (.tuple [cL cs,.int .i64 e]) r∧zT p r :=
 ⟨_,dU (.closed _ rfl) (.closed _ rfl),_,cs,e,rfl,.refl _,hl,h⟩
set_option maxRecDepth 20000 in
set_option maxHeartbeats 4000000 in
theorem DE(e1 e2 e3:Bool)(cs rs:List c8)(s:rG)(zs:List I0)(hc:cs.length≤100000)(hr:rs.length≤100000)(hs:m5 s)(hz:Fl E2 zs):
  aC pr 187 [.list e1 3 (cC cs),.agg (cD s),.list e2 3 (cC rs),.list e3 3 (mC mA zs)] (VO Cz):=by
 have hs':=hs
 obtain⟨h1,h2,h3,hi,hcd⟩:=hs
 have hnl:=h2.1
 refine aC.weak ?_ zT.wk
 refine aH k187.has rfl ?_
 repeat'((conv=>whnf);first|((first|apply aC.use|apply aC.draw);exact FA s hs';rintro r ⟨c,rfl,hv⟩)|((first|apply aC.use|apply aC.draw);exact aC.of (dN e1 cs (by omega));rintro r rfl)|((first|apply aC.use|apply aC.draw);exact aC.of (dN e2 rs (by omega));rintro r rfl)|((first|apply aC.use|apply aC.draw);exact zM e3 zs hz;rintro r ⟨c2,rfl⟩)|((first|apply aC.use|apply aC.draw);exact jF false e1 e3 s.cond cs zs hcd hc hz;rintro r ⟨c3,rfl⟩)|((first|apply aC.use|apply aC.draw);exact FY e1 e3 cs s zs (jI (by assumption)).1 (Cz.ofV (jI (by assumption))).2.2 hc hs' hz;rintro r ⟨c4,c5,rfl,hc6,hc7⟩)|((first|apply aC.use|apply aC.draw);exact iM e1 false cs s.names hc hnl;rintro r (⟨e,he,rfl⟩|⟨a,ha1,ha2,rfl⟩))|((first|apply aC.use|apply aC.draw);exact aC.of (y9 e1 false cs a (by omega) (by omega));rintro r rfl)|((first|apply aC.use|apply aC.draw);exact I2 e1 e2 cs rs s (jI (by assumption)).1 (Cz.ofV (jI (by assumption))).2.2 hc hr hs' ((hv (by assumption)).2.2.2.2.1 (by omega) (by omega));rintro r ⟨c4,c5,rfl,hc6,hc7⟩)|((first|apply aC.use|apply aC.draw);exact BZ e1 e2 cs rs s hc hr hs' ((hv (by assumption)).2.2.2.2.1 (by omega) (by omega));rintro r ⟨c3,rfl⟩)|((first|apply aC.use|apply aC.draw);exact MS e1 e2 cs rs s hc hr;rintro r ⟨c4,c5,rfl,hc6,hc7⟩)|((first|apply aC.use|apply aC.draw);exact IY e1 cs s (Cz.ofV (jI (by assumption))).2.2 hc hs' ((hv (by assumption)).2.2.2.2.2 (by omega));rintro r ⟨c4,c5,rfl,hc6,hc7⟩)|((first|apply aC.use|apply aC.draw);exact HO e1 cs s (jI (by assumption)).1 (Cz.ofV (jI (by assumption))).2.2 hc hs';rintro r ⟨c4,c5,rfl,hc6,hc7⟩)|refine aI ?_|refine oA ?_|refine oM fun x hx hm=>?_|((first|apply aK|apply aL|apply aM|apply aF|apply aE)<;>intro h<;>(try simp at h)<;>(try(exfalso;omega))))
 any_goals((conv=>whnf);first|exact n8 _ (by assumption)|exact ZN hc6 hc7|(refine ZN hc6 (fun h=>?_);exact Cz.ofE (jI (by assumption)) (hc7 h))|(refine W7 e1 cs hc ?_;exact Cz.ofV (jI (by assumption)))|(refine W7 _ (mI zC cs a) (by rw[dY];omega) ?_;exact⟨by rw[dY,ha1];exact((hv (by assumption)).2.2.2.1 (by assumption)).1,by rw[dY,ha1];exact((hv (by assumption)).2.2.2.1 (by assumption)).2,zE (Cz.ofV (jI (by assumption))).2.2⟩)|(refine W7 e2 rs hr ?_;first|exact absurd (ByteArray.ext (by assumption)) (SM ((hv (by assumption)).2.2.1 (by assumption)))|exact Cz.ofV (jI (by assumption)))|fail)
end Go.AW
namespace Go.AW
variable [dE]
def a6.clT:a6→Bool
 |.tuple vs=>vs.all a6.closed
 |v=>v.closed
theorem jK.clT{σ:Nat→Nat}:∀{r:a6},r.clT=true→jK σ r r:=by
 intro r h
 cases r with
 |tuple vs =>
  refine .tuple _ _ rfl fun i a b h1 h2=>?_
  rw[h1]at h2;cases h2
  exact .closed _ (List.all_eq_true.1 h a (List.mem_of_getElem? h1))
 |_=>exact .closed _ h
def cH(P:Program)(f:FuncId)(H0:List aB)(vs:List a6)(S:a6→Prop):Prop :=
 ∃r,S r∧r.clT=true∧a7 P f vs H0 (fun r' H'=>r'=r∧H'=H0)
theorem SD{ids:List Nat}{H:List aB}:∀(j:Nat),PG ids H j (H.drop j):=by
 intro j
 obtain⟨n,hn⟩:∃n,n=H.length-j:=⟨_,rfl⟩
 induction n generalizing j with
 |zero=>rw[List.drop_eq_nil_of_le (by omega)];trivial
 |succ n ih =>
  have hlt:j<H.length:=by omega
  rw[List.drop_eq_getElem_cons hlt]
  exact⟨.inr (List.getElem?_eq_getElem hlt),ih (j+1) (by omega)⟩
theorem cH.use{P:Program}{f:FuncId}{H H0:List aB}{vs0 vs:List a6}{S:a6→Prop}{k:a6→List aB→Prop}(ids:List Nat)(h:cH P f H0 vs0 S)(hnd:ids.Nodup)(hlen:ids.length=H0.length)
  (h0:JY (oD ids H.length) H 0 H0) (ha:mO (oD ids H.length) vs0 vs) (hk:∀r,S r→k r H):bI P f vs H k:=by
 obtain⟨r,hs,hc,h⟩:=h
 have ho:=SD (ids:=ids) (H:=H) 0
 rw[List.drop_zero]at ho
 exact bI.of (h.frL (H2:=H) ids hnd hlen h0 ha (.clT hc) (by omega) h0 ho) (hk r hs)
def JH:List Nat→List aB→Prop
 |[],_=>True
 |n::ns,o::os=>o.olen=n∧JH ns os
 |_::_,[]=>False
theorem JH.get:∀{ns:List Nat}{H:List aB},JH ns H→∀(k n:Nat),ns[k]?=some n→∃o,H[k]?=some o∧o.olen=n
 |[],H,_,k,n,h=>by simp at h
 |m::ns,o::os,h,k,n,hk=>by
  cases k with
  |zero=>simp at hk;subst hk;exact⟨o,rfl,h.1⟩
  |succ k=>exact JH.get h.2 k n (by simpa using hk)
 |m::ns,[],h,k,n,hk=>h.elim
theorem Gp.cutN{n0:List Nat}{n:Nat}{live:List (Nat×a6)}{ρ:List a6}{H H' G:List aB}{I:List a6→List aB→Prop}(hH:H'=H++G)(hn:JH n0 H)(hp:HV H.length H)(hl:ρ.length=n)(hlow:M8 H.length live=true)(h:vQ ρ live)
  (hI:∀ρ1,Sv n live ρ1→I ρ1 H):Gp n0 ρ H' I:=by
 subst hH
 refine Gp.keepL (List.range H.length) List.nodup_range (fun k m hk=>?_) (H1:=H) ?_ hl (lL.of h hlow) hI
 ·obtain⟨o,h1,h2⟩:=hn.get k m hk
  have hlt:=(List.getElem?_eq_some_iff.1 h1).1
  exact⟨List.getElem?_range hlt,o,by rw[List.getElem?_append_left hlt];exact h1,h2⟩
 ·have:=xQ (G:=G) hp 0 (Nat.zero_le _)
  rw[List.drop_zero,Nat.sub_zero]at this
  rw[List.range_eq_range']
  rwa [List.range_eq_range']at this
theorem bQ{P:Program}{f:FuncId}{ob:List Nat}{af:u3}{H0:List aB}{args:List a6}{S:a6→Prop}(hf:QQ P f ob af)(hp:HV H0.length H0)
  (h:dM (args++List.replicate (af.ntmps-args.length) (.tuple [])) fun ρ=>vT P (H0.map aB.olen) af.code (fun e ρ' H'=>match e with
   |.exit _=>False
   |_=>vI ρ' H' af.res fun vs=>wX vs fun v=>∃r G,H'=H0++G∧dV H' 0 (List.range H0.length) v r∧r.clT=true∧S r) ρ H0):cH P f H0 args S:=by
 obtain⟨v,H1,⟨r,G,rfl,hpb,hc,hs⟩,hc'⟩:=d6 (H:=H0) (Q:=fun v H'=>∃r G,H'=H0++G∧dV H' 0 (List.range H0.length) v r∧r.clT=true∧S r) hf h
 refine⟨r,hs,hc,a7.gpI hc' (List.range H0.length) List.nodup_range (fun k m hk=>?_) ?_ hpb⟩
 ·rw[List.getElem?_map]at hk
  cases ho:H0[k]? with
  |none=>rw[ho]at hk;simp at hk
  |some o =>
   rw[ho]at hk;simp at hk
   have hlt:=(List.getElem?_eq_some_iff.1 ho).1
   exact⟨List.getElem?_range hlt,o,by rw[List.getElem?_append_left hlt];exact ho,hk⟩
 ·have:=xQ (G:=G) hp 0 (Nat.zero_le _)
  rw[List.drop_zero,Nat.sub_zero]at this
  rw[List.range_eq_range']
  rwa [List.range_eq_range']at this
attribute [local irreducible] a7 bI oN Gp
structure jE where
 name:ByteArray
 ec:Bool
 cols:List c8
 kx:Option (List (Bool×List ByteArray))
def U7:Option (List (Bool×List ByteArray))→a6
 |none=>.nil
 |some l=>.list false 1 (z8 l)
def bS(r:jE):List a6:=[.str r.name,.list r.ec 3 (cC r.cols),U7 r.kx,.nil]
theorem cG(r:jE):(bS r).all a6.isPure=true:=by obtain⟨a,b,c,k⟩:=r;cases k<;>rfl
theorem bX(r:jE):(bS r).all a6.isCell=true:=by obtain⟨a,b,c,k⟩:=r;cases k<;>rfl
theorem jN(r:jE):(a6.agg (bS r)).closed=true:=by
 show(bS r).all a6.isPure=true
 exact cG r
abbrev i8(l:List jE):aB:=.arr 4 (mC bS l)
theorem bP(l:List jE)(n:Nat):(i8 l).lowO n:=bU (aV cG l)
def nH(r:jE):Prop:=bM r.name∧r.cols.length≤100000
def VG:jE:=⟨bs [],false,[],none⟩
theorem cH.weak{P:Program}{f:FuncId}{H0:List aB}{vs:List a6}{S T:a6→Prop}(h:cH P f H0 vs S)(hw:∀r,S r→∃r',gB r r'∧r'.clT=true∧T r'):cH P f H0 vs T:=by
 obtain⟨r,h1,h2,h3⟩:=h
 obtain⟨r',h4,h5,h6⟩:=hw r h1
 exact⟨r',h6,h5,a7.weakRD h3 fun r0 H0 ⟨e1,e2⟩=>by subst e1 e2;exact⟨r',h4,rfl,rfl⟩⟩
def Y8(l:List jE)(nm:ByteArray)(r:a6):Prop:=∃(x:jE) (b:Bool),r=.tuple [.agg (bS x),.bool b]∧(b=true→x∈l∧x.name=nm)∧(b=false→x=VG∧∀y∈l,y.name≠nm)
theorem AE{l:List jE}{x:jE}{b:Bool}{nm:ByteArray}(hl:Fl nH l)(h1:b=true→x∈l∧x.name=nm)(h2:b=false→x=VG∧∀y∈l,y.name≠nm):x.cols.length≤100000:=by
 cases b
 ·rw[(h2 rfl).1];simp[VG]
 ·exact(hl.2 _ (h1 rfl).1).2
set_option maxRecDepth 20000 in
set_option maxHeartbeats 1000000 in
theorem pU(l:List jE)(hl:l.length≤100000)(nm:ByteArray):cH pr 94 [i8 l] [.sl 0 l.length 0 l.length,.str nm] (Y8 l nm):=by
 refine cH.weak (S:=fun r=>Y8 l nm r∨(r=.tuple [.agg [.str (bs []),.nil,.nil,.nil],.bool false]∧∀y∈l,y.name≠nm)) ?_ (by
  rintro r (⟨x,b,rfl,h⟩|⟨rfl,h⟩)
  ·exact⟨_,.refl _,by show((a6.agg (bS x)).closed&&true)=true;rw[jN];rfl,x,b,rfl,h⟩
  ·exact⟨_,.tuples (.cons (.aggs (.cons (.refl _) (.cons (.nil _ _) (.cons (.refl _) (.cons (.refl _) .nil))))) (.cons (.refl _) .nil)),rfl,VG,false,rfl,(fun h=>by cases h),fun _=>⟨rfl,h⟩⟩)
 refine bQ k94.has ⟨bP l _,trivial⟩ ?_
 conv=>whnf
 refine⟨fun m ρ H1=>∃(k:Nat),k+m=l.length∧(∀y∈l.take k,y.name≠nm)∧H1=[i8 l,.arr 4 [[.str (bs []),.nil,.nil,.nil]]]∧Sv 25 [(0,.sl 0 l.length 0 l.length),(1,.str nm),(4,.ptr 1 1 0 0),(6,.int .i64 k)] ρ,l.length,[],
  fun i ρ H1=>i=0∧(∀y∈l,y.name≠nm)∧H1=[i8 l,.arr 4 [[.str (bs []),.nil,.nil,.nil]]]∧Sv 25 [(4,.ptr 1 1 0 0)] ρ,?_,?_,?_⟩
 ·exact⟨0,by omega,by simp,rfl,Sv.intro rfl ⟨rfl,rfl,rfl,rfl,trivial⟩⟩
 ·rintro m ρ H1 ⟨k,hk,hv,rfl,d,rfl⟩
  have nxt:∀{y:jE},l[((k:Int)).toNat]?=some y→y.name≠nm→∀s∈l.take (k+1),s.name≠nm:=fun{y} hy hvy s hsm=>by
   rw[Int.toNat_natCast]at hy
   rw[lB hy]at hsm
   rcases List.mem_append.1 hsm with h|h
   ·exact hv s h
   ·simp at h;subst h;exact hvy
  repeat'((conv=>whnf);first|refine b8 (eM (aZ bS l).symm) ?_|refine b8 ((bX _)) ?_|refine aI ?_|refine oA ?_|refine oM fun x hx hm=>?_|((first|apply aK|apply aL|apply aM|apply aF|apply aE)<;>intro h<;>(try simp at h)))
  any_goals((conv=>whnf);first|exact⟨_,_,rfl,dU (.closed _ (jN _)) (.closed _ rfl),(by show((a6.agg (bS _)).closed&&true)=true;rw[jN];rfl),.inl ⟨_,true,rfl,(fun _=>⟨by assumption,ByteArray.ext (by assumption)⟩),fun h=>by cases h⟩⟩|(refine⟨m-1,by omega,Gp.cutN (H:=[i8 l,.arr 4 [[.str (bs []),.nil,.nil,.nil]]]) rfl ⟨rfl,trivial⟩ ⟨bP l _,rfl,trivial⟩ rfl rfl ?_ fun ρ1 h=>⟨k+1,by omega,nxt (by first|assumption|(rw[←Nat.zero_add ((k:Int)).toNat];assumption)) (fun hh=>absurd (congrArg ByteArray.data hh) (by assumption)),rfl,h⟩⟩;exact⟨rfl,rfl,rfl,aN (dT (by omega)),trivial⟩)|(refine Gp.cutN (H:=[i8 l,.arr 4 [[.str (bs []),.nil,.nil,.nil]]]) rfl ⟨rfl,trivial⟩ ⟨bP l _,rfl,trivial⟩ rfl rfl ?_ fun ρ1 h=>⟨rfl,by rwa [List.take_of_length_le (by omega)]at hv,rfl,h⟩;exact⟨rfl,trivial⟩))
 ·rintro i ρ1 H1 ⟨rfl,hv,rfl,d,rfl⟩
  conv=>whnf
  exact⟨_,_,rfl,dU (.closed _ rfl) (.closed _ rfl),rfl,.inr ⟨rfl,hv⟩⟩
end Go.AW
