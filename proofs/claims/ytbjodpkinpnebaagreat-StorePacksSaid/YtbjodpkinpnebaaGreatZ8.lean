/-
  An abstract machine over the model, the code of functions on it, and their contracts: what the claim needs.
  No condition: definitions, plain laws, contracts over any program that has this code.
-/
import Derived.Test.YtbjodpkinpnebaaGreatZ7
set_option linter.all false
namespace Go.AW
variable [dE]
attribute [local irreducible] a7 bI oN Gp
def TS(d:rA)(r:a6):Prop:=∃(c:a6) (L:List jE) (e:Int),r=.tuple [c,.int .i64 e]∧gB c (.list false 4 (mC bS L))∧L.length≤192∧(∀x∈L,nH x∧Cz x.cols)∧(e=0→∀z∈d.models,∃x∈L,x.name=z.name)
def VQ(d:rA)(r:a6):Prop:=∃(L:List jE) (e:Int),r=.tuple [.list false 4 (mC bS L),.int .i64 e]∧L.length≤192∧(∀x∈L,nH x∧Cz x.cols)∧(e=0→∀z∈d.models,∃x∈L,x.name=z.name)
theorem TS.wk{d:rA}:∀r,TS d r→∃r',gB r r'∧r'.clT=true∧VQ d r':=by
 rintro r ⟨c,L,e,rfl,hw,hl,hx,h⟩
 exact⟨_,.tuples (.cons hw (.cons (.refl _) .nil)),rfl,L,e,rfl,hl,hx,h⟩
theorem YF{d:rA}{H H0 G:List aB}{ids:List Nat}(hH:H=H0++G)(e:Int)(he:e≠0):∃r G,H=H0++G∧dV H 0 ids (.tuple [.nil,.int .i64 e]) r∧r.clT=true∧TS d r :=
 ⟨_,_,hH,dU (.closed _ rfl) (.closed _ rfl),rfl,.nil,[],e,rfl,.nil _ _,by simp,(fun x h=>by simp at h),fun h=>absurd h he⟩
theorem RW{o:List ByteArray}{L:List jE}{k:Nat}{s:ByteArray}{y:jE}(h:∀s∈o.take k,∃x∈L,x.name=s)(hs:o[((k:Nat):Int).toNat]?=some s)(hy:y.name=s):∀s∈o.take (k+1),∃x∈L++[y],x.name=s :=
 sQ (p:=fun s=>∃x∈L++[y],x.name=s) (fun s hs=>by
  obtain⟨x,h1,h2⟩:=h s hs
  exact⟨x,List.mem_append_left _ h1,h2⟩) hs ⟨y,by simp,hy⟩
theorem XS{e:List a6}(h:e.all a6.isPure=true):bG [e]=true:=by simpa[bG]using h
abbrev UJ(d:rA)(L:List jE):List aB:=[d8 d,.arr 6 [bH d],i8 L]
set_option maxRecDepth 20000 in
set_option maxHeartbeats 4000000 in
theorem uD(d:rA)(hd:d.F)(hm:d.macros.length=0)(hsc:∀s∈d.sources,Cz s.cols):
  cH pr 32 [d8 d] [.agg (bH d)] (VQ d):=by
 have low:=gV d
 have hcl:=hd.c.1
 refine cH.weak ?_ TS.wk
 refine bQ k32.has ⟨low _,trivial⟩ ?_
 repeat'((conv=>whnf);first|(refine cH.use [0] (JK d hd hm) (by simp) rfl ⟨⟨_,rfl,.same (dX d)⟩,trivial⟩ ⟨fJ d rfl,trivial⟩ (fun r hr=>?_);obtain⟨o,e,rfl,hol,ho⟩:=hr)|(refine cH.use [0] (MG d hd) (by simp) rfl ⟨⟨_,rfl,.same (dX d)⟩,trivial⟩ ⟨fJ d rfl,trivial⟩ (fun r hr=>?_);obtain⟨b,rfl⟩:=hr)|refine aI ?_|refine oA ?_|refine oM fun x hx hm=>?_|((first|apply aK|apply aL|apply aM|apply aF|apply aE)<;>intro h<;>(try simp at h)<;>(try(exfalso;omega))))
 any_goals((conv=>whnf);first|exact YF (by exact rfl) _ (by assumption)|exact YF (by exact rfl) _ (by decide))
 obtain⟨hck,hz⟩:=ho (by assumption)
 refine⟨fun m ρ H1=>∃(k:Nat) (L:List jE),k+m=o.length∧L.length=k∧(∀x∈L,nH x∧Cz x.cols)∧(∀s∈o.take k,∃x∈L,x.name=s)∧H1=UJ d L∧Sv 64 [(1,.ptr 1 1 0 0),(4,sL o),(6,.sl 2 L.length 0 L.length),(7,.int .i64 k)] ρ,o.length,[(6,4)],fun i ρ H1=>i=0∧∃L:List jE,L.length=o.length∧(∀x∈L,nH x∧Cz x.cols)∧(∀s∈o,∃x∈L,x.name=s)∧H1=UJ d L∧Sv 64 [(1,.ptr 1 1 0 0),(6,.sl 2 L.length 0 L.length)] ρ,?_,?_,?_⟩
 ·exact⟨0,[],by omega,rfl,(fun x h=>by simp at h),(fun x h=>by simp at h),rfl,Sv.intro rfl ⟨rfl,rfl,rfl,rfl,trivial⟩⟩
 ·rintro m ρ H1 ⟨k,L,hk,hL,hLs,hn,rfl,dd,rfl⟩
  repeat'((conv=>whnf);first|(refine cH.use [0,2] (CS d _ L hd ⟨by omega,fun x hx=>(hLs x hx).1⟩ (by omega) hsc) (by simp) rfl ⟨⟨_,rfl,.same (dX d)⟩,⟨_,rfl,.same (aV cG L)⟩,trivial⟩ ⟨fJ d rfl,.closed _ rfl,r6 rfl rfl rfl,trivial⟩ (fun r hr=>?_);obtain⟨y,e,rfl,hy⟩:=hr)|refine b8 ((bX _)) ?_|refine b8 (XS (cG y)) ?_|refine b8 (eM (aZ bS L).symm) ?_|refine And.intro (⟨by simp[aQ];omega,by simp[aQ];omega,rfl,(aZ bS L).symm⟩) ?_|refine aI ?_|refine oA ?_|refine oM fun x hx hm=>?_|((first|apply aK|apply aL|apply aM|apply aF|apply aE)<;>intro h<;>(try simp at h)<;>(try(exfalso;omega))))
  any_goals((conv=>whnf);first|exact YF (by exact rfl) _ (by assumption)|(refine⟨m-1,by omega,Gp.cutN (H:=UJ d (L++[y])) (by rw[UJ,i8,dD];rfl) ⟨rfl,trivial⟩ ⟨low _,rfl,bP _ _,trivial⟩ rfl rfl ?_ fun ρ1 h=>⟨k+1,L++[y],by omega,by simp;omega,dF hLs ⟨(hy (by assumption)).1,(hy (by assumption)).2.2⟩,RW hn (by assumption) (hy (by assumption)).2.1,rfl,h⟩⟩;exact⟨rfl,rfl,eS (by simp) (by simp),aN (dT (by omega)),trivial⟩)|(refine Gp.cutN (H:=UJ d L) rfl ⟨rfl,trivial⟩ ⟨low _,rfl,bP _ _,trivial⟩ rfl rfl ?_ fun ρ1 h=>⟨rfl,L,by omega,hLs,by rwa [List.take_of_length_le (by omega)]at hn,rfl,h⟩;exact⟨rfl,rfl,trivial⟩))
 ·rintro i ρ1 H1 ⟨rfl,L,hL,hLs,hn,rfl,dd,rfl⟩
  conv=>whnf
  refine⟨fun m ρ H1=>∃k:Nat,k+m=d.checks.length∧H1=UJ d L∧Sv 64 [(1,.ptr 1 1 0 0),(6,.sl 2 L.length 0 L.length),(10,.int .i64 k)] ρ,d.checks.length,[],fun i ρ H1=>i=2∧H1=UJ d L∧Sv 64 [(6,.sl 2 L.length 0 L.length)] ρ,?_,?_,?_⟩
  ·exact⟨0,by omega,rfl,Sv.intro rfl ⟨rfl,rfl,rfl,trivial⟩⟩
  ·rintro m ρ H1 ⟨k,hk,rfl,dd,rfl⟩
   repeat'((conv=>whnf);first|(refine cH.use [0,2] (IE d _ L hd (hd.c.2 _ (by assumption)) (hck _ (by assumption)) ⟨by omega,fun x hx=>(hLs x hx).1⟩) (by simp) rfl ⟨⟨_,rfl,.same (dX d)⟩,⟨_,rfl,.same (aV cG L)⟩,trivial⟩ ⟨fJ d rfl,.closed _ rfl,r6 rfl rfl rfl,trivial⟩ (fun r hr=>?_);obtain⟨e,rfl⟩:=hr)|refine aI ?_|refine oA ?_|refine oM fun x hx hm=>?_|((first|apply aK|apply aL|apply aM|apply aF|apply aE)<;>intro h<;>(try simp at h)<;>(try(exfalso;omega))))
   any_goals((conv=>whnf);first|exact YF (by exact rfl) _ (by assumption)|(refine⟨m-1,by omega,Gp.cutN (H:=UJ d L) rfl ⟨rfl,trivial⟩ ⟨low _,rfl,bP _ _,trivial⟩ rfl rfl ?_ fun ρ1 h=>⟨k+1,by omega,rfl,h⟩⟩;exact⟨rfl,rfl,aN (dT (by omega)),trivial⟩)|(refine Gp.cutN (H:=UJ d L) rfl ⟨rfl,trivial⟩ ⟨low _,rfl,bP _ _,trivial⟩ rfl rfl ?_ fun ρ1 h=>⟨rfl,rfl,h⟩;exact⟨rfl,trivial⟩))
  ·rintro i ρ1 H1 ⟨rfl,rfl,dd,rfl⟩
   conv=>whnf
   exact⟨_,_,by exact rfl,dU (mJ (es:=mC bS L) PD rfl (aZ _ _).symm (aZ _ _).symm (aV cG L)) (.closed _ rfl),rfl,_,L,0,rfl,.refl _,by omega,hLs,fun _ z h=>hn _ (hz z h)⟩
def mB(p:ByteArray×ByteArray):List a6:=[.str p.1,.str p.2]
theorem fD(p:ByteArray×ByteArray):(mB p).all a6.isPure=true:=rfl
def YG(l:List (ByteArray×ByteArray)):a6:=.list false 2 (mC mB l)
def VS(r:a6):Prop:=∃(s:ByteArray) (b:Bool),r=.tuple [.str s,.bool b]
def YI(r:a6):Prop:=∃s:ByteArray,r=.str s
theorem mQ(x:Bool)(l:List (ByteArray×ByteArray))(hl:l.length≤9000000)(c:ByteArray):aC pr 197 [.list x 2 (mC mB l),.str c] VS:=by
 refine aH k197.has rfl ?_
 conv=>whnf
 refine⟨fun m ρ H1=>∃k:Nat,k+m=l.length∧H1=[]∧Sv 25 [(0,.list x 2 (mC mB l)),(1,.str c),(6,.int .i64 k)] ρ,l.length,[],fun i ρ H1=>i=0∧H1=[]∧Sv 25 [(1,.str c)] ρ,?_,?_,?_⟩
 ·exact⟨0,Nat.zero_add _,rfl,Sv.intro rfl ⟨rfl,rfl,rfl,trivial⟩⟩
 ·rintro m ρ H1 ⟨k,hk,rfl,d,rfl⟩
  repeat'((conv=>whnf);first|refine b8 (eM (aZ mB l).symm) ?_|refine aI ?_|refine oA ?_|refine oM fun x hx hm=>?_|((first|apply aK|apply aL|apply aM|apply aF|apply aE)<;>intro h<;>(try simp at h)))
  any_goals((conv=>whnf);first|exact⟨_,dU (.closed _ rfl) (.closed _ rfl),_,_,rfl⟩|(refine⟨m-1,by omega,Gp.cut (H:=[]) rfl trivial rfl rfl ?_ fun ρ1 h=>⟨k+1,by omega,rfl,h⟩⟩;exact⟨rfl,rfl,aN (dT (by omega)),trivial⟩)|(refine Gp.cut (H:=[]) rfl trivial rfl rfl ?_ fun ρ1 h=>⟨rfl,rfl,h⟩;exact⟨rfl,trivial⟩))
 ·rintro i ρ1 H1 ⟨rfl,rfl,d,rfl⟩
  conv=>whnf
  exact⟨_,dU (.closed _ rfl) (.closed _ rfl),_,_,rfl⟩
set_option maxRecDepth 20000 in
set_option maxHeartbeats 1000000 in
theorem FV(f1 f2:Bool)(e:List oO)(he:e.length≤1000000)(cs:List c8)(hc:cs.length≤100000)(z:ByteArray):aC pr 247 [.list f1 6 (mC fZ e),.list f2 3 (cC cs),.str z] YI:=by
 refine aH k247.has rfl ?_
 rcases e with _|⟨n0,_|⟨n1,e⟩⟩
 repeat'((conv=>whnf);first|((first|apply aC.use|apply aC.draw);exact aC.of (bB f2 cs (by omega) _);rintro r rfl)|refine iP (dB cs _ (by assumption)) (fun y hy hm=>?_)|refine And.intro (by assumption) ?_|refine aI ?_|refine oA ?_|refine oM fun x hx hm=>?_|((first|apply aK|apply aL|apply aM|apply aF|apply aE)<;>intro h<;>(try simp at h)<;>(try(exfalso;omega))))
 any_goals((conv=>whnf);first|exact⟨_,.closed _ rfl,_,rfl⟩)
def TT(N:Nat)(r:a6):Prop:=∃l:List (ByteArray×ByteArray),gB r (YG l)∧l.length≤N
def X5(N:Nat)(r:a6):Prop:=∃l:List (ByteArray×ByteArray),r=YG l∧l.length≤N
theorem TT.wk{N:Nat}:∀r,TT N r→∃r',gB r r'∧X5 N r':=by
 rintro r ⟨l,hw,hl⟩
 exact⟨_,hw,l,rfl,hl⟩
theorem SI{N:Nat}{H:List aB}{id n:Nat}(l:List (ByteArray×ByteArray))(ho:H[id]?=some (.arr 2 (mC mB l)))(hn:n=l.length)(hl:l.length≤N):∃r,dV H 0 [] (.sl id n 0 n) r∧TT N r :=
 ⟨_,sE ho (by rw[hn];simp) (by rw[hn];simp) (aV fD l),l,.refl _,hl⟩
set_option maxRecDepth 20000 in
set_option maxHeartbeats 4000000 in
theorem CC(f1 f2 f3:Bool)(s:rG)(hs:m5 s)(prx:List (ByteArray×ByteArray))(hp:prx.length≤5000000)(cs rs:List c8)(hc:cs.length≤100000)(hr:rs.length≤100000)(zn:ByteArray):
  aC pr 196 [.agg (cD s),.list f1 2 (mC mB prx),.list f2 3 (cC cs),.list f3 3 (cC rs),.str zn] (X5 (prx.length+100000)):=by
 obtain⟨h1,h2,h3,hi,_⟩:=hs
 have hil:=hi.1
 have hnl:=h2.1
 obtain⟨op,src,names,others,items,cnd⟩:=s
 dsimp only at h1 h2 h3 hi hil hnl
 refine aC.weak ?_ TT.wk
 refine aH k196.has rfl ?_
 rcases Decidable.em (op=0)with rfl|hn0
 ·conv=>whnf
  refine⟨fun m ρ H1=>∃(k:Nat) (out:List (ByteArray×ByteArray)),k+m=rs.length∧out.length≤k∧H1=[.arr 6 [cD ⟨0,src,names,others,items,cnd⟩],.arr 2 (mC mB out)]∧Sv 170 [(3,.list f3 3 (cC rs)),(11,.sl 1 out.length 0 out.length),(12,.int .i64 k)] ρ,rs.length,[(11,2)],fun i ρ H1=>i=1∧∃out:List (ByteArray×ByteArray),out.length≤prx.length+100000∧H1=[.arr 6 [cD ⟨0,src,names,others,items,cnd⟩],.arr 2 (mC mB out)]∧Sv 170 [(11,.sl 1 out.length 0 out.length)] ρ,?_,?_,?_⟩
  ·exact⟨0,[],by omega,by simp,rfl,Sv.intro rfl ⟨rfl,rfl,rfl,trivial⟩⟩
  ·rintro m ρ H1 ⟨k,out,hk,ho,rfl,d,rfl⟩
   repeat'((conv=>whnf);first|refine And.intro (⟨by simp[aQ];omega,by simp[aQ];omega,rfl,(aZ mB out).symm⟩) ?_|refine b8 (eM (aZ mB out).symm) ?_|refine aI ?_|refine oA ?_|refine oM fun x hx hm=>?_|((first|apply aK|apply aL|apply aM|apply aF|apply aE)<;>intro h<;>(try simp at h)<;>(try(exfalso;omega))))
   any_goals((conv=>whnf);first|(refine⟨m-1,by omega,Gp.cut (H:=[.arr 6 [cD ⟨0,src,names,others,items,cnd⟩],.arr 2 (mC mB (out++[(x.name,x.name)]))]) (by rw[dD];rfl) ⟨rfl,bU (aV fD _),trivial⟩ rfl rfl ?_ fun ρ1 h=>⟨k+1,_,by omega,by simp;omega,rfl,h⟩⟩;exact⟨rfl,eS (by simp) (by simp),aN (dT (by omega)),trivial⟩)|(refine⟨m-1,by omega,Gp.cut (H:=[.arr 6 [cD ⟨0,src,names,others,items,cnd⟩],.arr 2 (mC mB out)]) rfl ⟨rfl,bU (aV fD _),trivial⟩ rfl rfl ?_ fun ρ1 h=>⟨k+1,_,by omega,by omega,rfl,h⟩⟩;exact⟨rfl,rfl,aN (dT (by omega)),trivial⟩)|(refine Gp.cut (H:=[.arr 6 [cD ⟨0,src,names,others,items,cnd⟩],.arr 2 (mC mB out)]) rfl ⟨rfl,bU (aV fD _),trivial⟩ rfl rfl ?_ fun ρ1 h=>⟨rfl,out,by omega,rfl,h⟩;exact⟨rfl,trivial⟩))
  ·rintro i ρ1 H1 ⟨rfl,out,ho,rfl,d,rfl⟩
   conv=>whnf
   exact SI out rfl rfl ho
 rcases Decidable.em (op=2)with rfl|hn2
 ·repeat'((conv=>whnf);first|refine And.intro (⟨by simp[aQ];omega,by simp[aQ];omega⟩) ?_|refine aI ?_|refine oA ?_|refine oM fun x hx hm=>?_|((first|apply aK|apply aL|apply aM|apply aF|apply aE)<;>intro h<;>(try simp at h)<;>(try(exfalso;omega))))
  conv=>whnf
  refine⟨fun m ρ H1=>∃(k:Nat) (out:List (ByteArray×ByteArray)),k+m=items.length∧out.length≤prx.length+k∧H1=[.arr 6 [cD ⟨2,src,names,others,items,cnd⟩],.arr 2 (mC mB out)]∧Sv 170 [(1,.list f1 2 (mC mB prx)),(2,.list f2 3 (cC cs)),(4,.str zn),(5,.ptr 0 1 0 0),(11,.sl 1 out.length 0 out.length),(13,.int .i64 k)] ρ,items.length,[],fun i ρ H1=>i=3∧∃out:List (ByteArray×ByteArray),out.length≤prx.length+100000∧H1=[.arr 6 [cD ⟨2,src,names,others,items,cnd⟩],.arr 2 (mC mB out)]∧Sv 170 [(11,.sl 1 out.length 0 out.length)] ρ,?_,?_,?_⟩
  ·exact⟨0,prx,by omega,by omega,rfl,Sv.intro rfl ⟨rfl,rfl,rfl,rfl,eS (by simp) (by simp),rfl,trivial⟩⟩
  ·rintro m ρ H1 ⟨k,out,hk,ho,rfl,d,rfl⟩
   repeat'((conv=>whnf);first|refine iP (show _<items.length by omega) (fun x hx hm=>?_)|((first|apply aC.use|apply aC.draw);exact FV false f2 _ (Nat.le_trans (hi.2 _ (by assumption)).2.2.1 (by decide)) cs hc zn;rintro r ⟨c,rfl⟩)|((first|apply aC.use|apply aC.draw);exact mQ f1 prx (by omega) _;rintro r ⟨a,b,rfl⟩)|refine And.intro (⟨by simp[aQ];omega,by simp[aQ];omega,rfl,(aZ mB out).symm⟩) ?_|refine b8 (eM (aZ mB out).symm) ?_|refine aI ?_|refine oA ?_|refine oM fun x hx hm=>?_|((first|apply aK|apply aL|apply aM|apply aF|apply aE)<;>intro h<;>(try simp at h)<;>(try(exfalso;omega))))
   any_goals((conv=>whnf);first|(refine⟨m-1,by omega,Gp.cut (H:=[.arr 6 [cD ⟨2,src,names,others,items,cnd⟩],.arr 2 (mC mB (out++[(a,x.name)]))]) (by rw[dD];rfl) ⟨rfl,bU (aV fD _),trivial⟩ rfl rfl ?_ fun ρ1 h=>⟨k+1,_,by omega,by simp;omega,rfl,h⟩⟩;exact⟨rfl,rfl,rfl,rfl,eS (by simp) (by simp),aN (dT (by omega)),trivial⟩)|(refine⟨m-1,by omega,Gp.cut (H:=[.arr 6 [cD ⟨2,src,names,others,items,cnd⟩],.arr 2 (mC mB out)]) rfl ⟨rfl,bU (aV fD _),trivial⟩ rfl rfl ?_ fun ρ1 h=>⟨k+1,_,by omega,by omega,rfl,h⟩⟩;exact⟨rfl,rfl,rfl,rfl,rfl,aN (dT (by omega)),trivial⟩)|(refine Gp.cut (H:=[.arr 6 [cD ⟨2,src,names,others,items,cnd⟩],.arr 2 (mC mB out)]) rfl ⟨rfl,bU (aV fD _),trivial⟩ rfl rfl ?_ fun ρ1 h=>⟨rfl,out,by omega,rfl,h⟩;exact⟨rfl,trivial⟩))
  ·rintro i ρ1 H1 ⟨rfl,out,ho,rfl,d,rfl⟩
   conv=>whnf
   exact SI out rfl rfl ho
 rcases Decidable.em (op=3∨op=11)with h311|hn3
 ·rcases h311 with rfl|rfl
  ·conv=>whnf
   refine⟨fun m ρ H1=>∃(k:Nat) (out:List (ByteArray×ByteArray)),k+m=prx.length∧out.length≤k∧H1=[.arr 6 [cD ⟨3,src,names,others,items,cnd⟩],.arr 2 (mC mB out)]∧Sv 170 [(1,.list f1 2 (mC mB prx)),(5,.ptr 0 1 0 0),(11,.sl 1 out.length 0 out.length),(16,.int .i64 k)] ρ,prx.length,[(11,2)],fun i ρ H1=>i=5∧∃out:List (ByteArray×ByteArray),out.length≤prx.length+100000∧H1=[.arr 6 [cD ⟨3,src,names,others,items,cnd⟩],.arr 2 (mC mB out)]∧Sv 170 [(11,.sl 1 out.length 0 out.length)] ρ,?_,?_,?_⟩
   ·exact⟨0,[],by omega,by simp,rfl,Sv.intro rfl ⟨rfl,rfl,rfl,rfl,trivial⟩⟩
   ·rintro m ρ H1 ⟨k,out,hk,ho,rfl,d,rfl⟩
    repeat'((conv=>whnf);first|((first|apply aC.use|apply aC.draw);exact gE false names hnl _;rintro r ⟨b,rfl,hb⟩)|refine And.intro (⟨by simp[aQ];omega,by simp[aQ];omega,rfl,(aZ mB out).symm⟩) ?_|refine b8 (eM (aZ mB out).symm) ?_|refine aI ?_|refine oA ?_|refine oM fun x hx hm=>?_|((first|apply aK|apply aL|apply aM|apply aF|apply aE)<;>intro h<;>(try simp at h)<;>(try(exfalso;omega))))
    any_goals((conv=>whnf);first|(refine⟨m-1,by omega,Gp.cut (H:=[.arr 6 [cD ⟨3,src,names,others,items,cnd⟩],.arr 2 (mC mB (out++[x]))]) (by rw[dD];rfl) ⟨rfl,bU (aV fD _),trivial⟩ rfl rfl ?_ fun ρ1 h=>⟨k+1,_,by omega,by simp;omega,rfl,h⟩⟩;exact⟨rfl,rfl,eS (by simp) (by simp),aN (dT (by omega)),trivial⟩)|(refine⟨m-1,by omega,Gp.cut (H:=[.arr 6 [cD ⟨3,src,names,others,items,cnd⟩],.arr 2 (mC mB out)]) rfl ⟨rfl,bU (aV fD _),trivial⟩ rfl rfl ?_ fun ρ1 h=>⟨k+1,_,by omega,by omega,rfl,h⟩⟩;exact⟨rfl,rfl,rfl,aN (dT (by omega)),trivial⟩)|(refine Gp.cut (H:=[.arr 6 [cD ⟨3,src,names,others,items,cnd⟩],.arr 2 (mC mB out)]) rfl ⟨rfl,bU (aV fD _),trivial⟩ rfl rfl ?_ fun ρ1 h=>⟨rfl,out,by omega,rfl,h⟩;exact⟨rfl,trivial⟩))
   ·rintro i ρ1 H1 ⟨rfl,out,ho,rfl,d,rfl⟩
    conv=>whnf
    exact SI out rfl rfl ho
  ·conv=>whnf
   refine⟨fun m ρ H1=>∃(k:Nat) (out:List (ByteArray×ByteArray)),k+m=prx.length∧out.length≤k∧H1=[.arr 6 [cD ⟨11,src,names,others,items,cnd⟩],.arr 2 (mC mB out)]∧Sv 170 [(1,.list f1 2 (mC mB prx)),(5,.ptr 0 1 0 0),(11,.sl 1 out.length 0 out.length),(16,.int .i64 k)] ρ,prx.length,[(11,2)],fun i ρ H1=>i=5∧∃out:List (ByteArray×ByteArray),out.length≤prx.length+100000∧H1=[.arr 6 [cD ⟨11,src,names,others,items,cnd⟩],.arr 2 (mC mB out)]∧Sv 170 [(11,.sl 1 out.length 0 out.length)] ρ,?_,?_,?_⟩
   ·exact⟨0,[],by omega,by simp,rfl,Sv.intro rfl ⟨rfl,rfl,rfl,rfl,trivial⟩⟩
   ·rintro m ρ H1 ⟨k,out,hk,ho,rfl,d,rfl⟩
    repeat'((conv=>whnf);first|((first|apply aC.use|apply aC.draw);exact gE false names hnl _;rintro r ⟨b,rfl,hb⟩)|refine And.intro (⟨by simp[aQ];omega,by simp[aQ];omega,rfl,(aZ mB out).symm⟩) ?_|refine b8 (eM (aZ mB out).symm) ?_|refine aI ?_|refine oA ?_|refine oM fun x hx hm=>?_|((first|apply aK|apply aL|apply aM|apply aF|apply aE)<;>intro h<;>(try simp at h)<;>(try(exfalso;omega))))
    any_goals((conv=>whnf);first|(refine⟨m-1,by omega,Gp.cut (H:=[.arr 6 [cD ⟨11,src,names,others,items,cnd⟩],.arr 2 (mC mB (out++[x]))]) (by rw[dD];rfl) ⟨rfl,bU (aV fD _),trivial⟩ rfl rfl ?_ fun ρ1 h=>⟨k+1,_,by omega,by simp;omega,rfl,h⟩⟩;exact⟨rfl,rfl,eS (by simp) (by simp),aN (dT (by omega)),trivial⟩)|(refine⟨m-1,by omega,Gp.cut (H:=[.arr 6 [cD ⟨11,src,names,others,items,cnd⟩],.arr 2 (mC mB out)]) rfl ⟨rfl,bU (aV fD _),trivial⟩ rfl rfl ?_ fun ρ1 h=>⟨k+1,_,by omega,by omega,rfl,h⟩⟩;exact⟨rfl,rfl,rfl,aN (dT (by omega)),trivial⟩)|(refine Gp.cut (H:=[.arr 6 [cD ⟨11,src,names,others,items,cnd⟩],.arr 2 (mC mB out)]) rfl ⟨rfl,bU (aV fD _),trivial⟩ rfl rfl ?_ fun ρ1 h=>⟨rfl,out,by omega,rfl,h⟩;exact⟨rfl,trivial⟩))
   ·rintro i ρ1 H1 ⟨rfl,out,ho,rfl,d,rfl⟩
    conv=>whnf
    exact SI out rfl rfl ho
 rcases Decidable.em (op=12)with rfl|hn12
 ·conv=>whnf
  refine⟨fun m ρ H1=>∃(k:Nat) (out:List (ByteArray×ByteArray)),k+m=prx.length∧out.length≤k∧H1=[.arr 6 [cD ⟨12,src,names,others,items,cnd⟩],.arr 2 (mC mB out)]∧Sv 170 [(1,.list f1 2 (mC mB prx)),(5,.ptr 0 1 0 0),(11,.sl 1 out.length 0 out.length),(17,.int .i64 k)] ρ,prx.length,[(11,2)],fun i ρ H1=>i=7∧∃out:List (ByteArray×ByteArray),out.length≤prx.length+100000∧H1=[.arr 6 [cD ⟨12,src,names,others,items,cnd⟩],.arr 2 (mC mB out)]∧Sv 170 [(11,.sl 1 out.length 0 out.length)] ρ,?_,?_,?_⟩
  ·exact⟨0,[],by omega,by simp,rfl,Sv.intro rfl ⟨rfl,rfl,rfl,rfl,trivial⟩⟩
  ·rintro m ρ H1 ⟨k,out,hk,ho,rfl,d,rfl⟩
   (conv=>whnf);refine aK (fun h=>?_) (fun h=>?_)
   ·simp at h
    conv=>whnf
    refine⟨fun m1 ρ H1=>∃j:Nat,j+m1=names.length∧H1=[.arr 6 [cD ⟨12,src,names,others,items,cnd⟩],.arr 2 (mC mB out)]∧Sv 170 [(1,.list f1 2 (mC mB prx)),(5,.ptr 0 1 0 0),(11,.sl 1 out.length 0 out.length),(17,.int .i64 k),(18,.int .i64 j)] ρ,names.length,[],fun i ρ H1=>i=9∧∃out:List (ByteArray×ByteArray),out.length≤k+1∧H1=[.arr 6 [cD ⟨12,src,names,others,items,cnd⟩],.arr 2 (mC mB out)]∧Sv 170 [(1,.list f1 2 (mC mB prx)),(5,.ptr 0 1 0 0),(11,.sl 1 out.length 0 out.length),(17,.int .i64 k)] ρ,?_,?_,?_⟩
    ·exact⟨0,by omega,rfl,Sv.intro rfl ⟨rfl,rfl,rfl,rfl,rfl,trivial⟩⟩
    ·rintro m1 ρ H1 ⟨j,hj,rfl,d,rfl⟩
     repeat'((conv=>whnf);first|refine iP (show _<names.length by omega) (fun x hx hm=>?_)|((first|apply aC.use|apply aC.draw);exact mQ f1 prx (by omega) _;rintro r ⟨a,b,rfl⟩)|refine And.intro (⟨by simp[aQ];omega,by simp[aQ];omega,rfl,(aZ mB out).symm⟩) ?_|refine b8 (eM (aZ mB out).symm) ?_|refine aI ?_|refine oA ?_|refine oM fun x hx hm=>?_|((first|apply aK|apply aL|apply aM|apply aF|apply aE)<;>intro h<;>(try simp at h)<;>(try(exfalso;omega))))
     any_goals((conv=>whnf);first|(refine Gp.cut (H:=[.arr 6 [cD ⟨12,src,names,others,items,cnd⟩],.arr 2 (mC mB (out++[‹ByteArray×ByteArray›]))]) (by rw[dD];rfl) ⟨rfl,bU (aV fD _),trivial⟩ rfl rfl ?_ fun ρ1 h=>⟨rfl,_,by simp;omega,rfl,h⟩;exact⟨rfl,rfl,eS (by simp) (by simp),rfl,trivial⟩)|(refine⟨m1-1,by omega,Gp.cut (H:=[.arr 6 [cD ⟨12,src,names,others,items,cnd⟩],.arr 2 (mC mB out)]) rfl ⟨rfl,bU (aV fD _),trivial⟩ rfl rfl ?_ fun ρ1 h=>⟨j+1,by omega,rfl,h⟩⟩;exact⟨rfl,rfl,rfl,rfl,aN (dT (by omega)),trivial⟩)|(refine Gp.cut (H:=[.arr 6 [cD ⟨12,src,names,others,items,cnd⟩],.arr 2 (mC mB out)]) rfl ⟨rfl,bU (aV fD _),trivial⟩ rfl rfl ?_ fun ρ1 h=>⟨rfl,out,by omega,rfl,h⟩;exact⟨rfl,rfl,rfl,rfl,trivial⟩))
    ·rintro i ρ1 H1 ⟨rfl,out,ho,rfl,d,rfl⟩
     conv=>whnf
     refine⟨m-1,by omega,Gp.cut (H:=[.arr 6 [cD ⟨12,src,names,others,items,cnd⟩],.arr 2 (mC mB out)]) rfl ⟨rfl,bU (aV fD _),trivial⟩ rfl rfl ?_ fun ρ1 h=>⟨k+1,_,by omega,by omega,rfl,h⟩⟩;exact⟨rfl,rfl,rfl,aN (dT (by omega)),trivial⟩
   ·simp at h
    conv=>whnf
    refine Gp.cut (H:=[.arr 6 [cD ⟨12,src,names,others,items,cnd⟩],.arr 2 (mC mB out)]) rfl ⟨rfl,bU (aV fD _),trivial⟩ rfl rfl ?_ fun ρ1 h=>⟨rfl,out,by omega,rfl,h⟩;exact⟨rfl,trivial⟩
  ·rintro i ρ1 H1 ⟨rfl,out,ho,rfl,d,rfl⟩
   conv=>whnf
   exact SI out rfl rfl ho
 repeat'((conv=>whnf);first|refine sF ((by simp;omega)) ?_|refine aI ?_|refine oA ?_|refine oM fun x hx hm=>?_|((first|apply aK|apply aL|apply aM|apply aF|apply aE)<;>intro h<;>(try simp at h)<;>(try(exfalso;omega))))
 any_goals((conv=>whnf);first|exact⟨_,.closed _ rfl,prx,.lst rfl (aV fD prx),by omega⟩|exact⟨_,.closed _ rfl,[],.nil _ _,by simp⟩)
theorem ZB{H H0 G:List aB}{ids:List Nat}(hH:H=H0++G)(s:ByteArray)(b:Bool):∃r G,H=H0++G∧dV H 0 ids (.tuple [.str s,.bool b]) r∧r.clT=true∧VS r:=⟨_,_,hH,dU (.closed _ rfl) (.closed _ rfl),rfl,s,b,rfl⟩
set_option maxRecDepth 20000 in
set_option maxHeartbeats 2000000 in
theorem J6(x1 x3:Bool)(q:List rG)(l:List jE)(zs:List I0)(hq:Fl m5 q)(hl:Fl nH l)(hz:Fl E2 zs)(c z:ByteArray):
  cH pr 150 [i8 l] [.list x1 6 (mC cD q),.sl 0 l.length 0 l.length,.list x3 3 (mC mA zs),.str c,.str z] VS:=by
 have low:=bP l
 refine bQ k150.has ⟨low _,trivial⟩ ?_
 repeat'((conv=>whnf);first|(refine cH.use [0] (nR x1 x3 q l zs hq hl hz) (by simp) rfl ⟨⟨_,rfl,.same (aV cG l)⟩,trivial⟩ ⟨.closed _ rfl,.sl 0 _ _ _,.closed _ rfl,trivial⟩ (fun r hr=>?_);obtain⟨L,e,rfl,hL,hLp⟩:=hr)|refine aI ?_|refine oA ?_|refine oM fun x hx hm=>?_|((first|apply aK|apply aL|apply aM|apply aF|apply aE)<;>intro h<;>(try simp at h)<;>(try(exfalso;omega))))
 any_goals((conv=>whnf);first|exact ZB (by exact rfl) _ _)
 obtain⟨q1,q2,q3,q4⟩:=hLp (by assumption)
 refine⟨fun m ρ H1=>∃(k:Nat) (v:a6) (prx:List (ByteArray×ByteArray)),k+m=q.length∧((v=.nil∧prx=[])∨v=YG prx)∧prx.length≤100000*k∧H1=[i8 l]∧Sv 53 [(0,.list x1 6 (mC cD q)),(3,.str c),(4,.str z),(12,.list false 1 (mC IH L)),(14,v),(15,.int .i64 k)] ρ,q.length,[],fun i ρ H1=>i=0∧∃(v:a6) (prx:List (ByteArray×ByteArray)),((v=.nil∧prx=[])∨v=YG prx)∧prx.length≤1600000∧H1=[i8 l]∧Sv 53 [(3,.str c),(14,v)] ρ,?_,?_,?_⟩
 ·exact⟨0,.nil,[],by omega,.inl ⟨rfl,rfl⟩,by simp,rfl,Sv.intro rfl ⟨rfl,rfl,rfl,rfl,rfl,rfl,trivial⟩⟩
 ·rintro m ρ H1 ⟨k,v,prx,hk,hv,hp,rfl,d,rfl⟩
  have hw:IntKind.i64.wrap ((k:Int)-1)=(k:Int)-1:=aY _ (by omega) (by omega)
  rcases hv with⟨rfl,rfl⟩|rfl
  ·repeat'((conv=>whnf);first|((first|apply aC.use|apply aC.draw);exact(CC false false false _ (hq.2 _ (by assumption)) [] (by simp) _ _ (q3 _ (by assumption)).le (q3 _ (by assumption)).le z).args (.cons (.refl _) (.cons (.nil _ _) (.cons (.refl _) (.cons (.refl _) (.cons (.refl _) .nil)))));rintro r ⟨p2,rfl,hp2⟩)|refine iP (by rw[hw];omega) (fun y hy hm=>?_)|refine And.intro (by rw[hw];omega) ?_|refine aI ?_|refine oA ?_|refine oM fun x hx hm=>?_|((first|apply aK|apply aL|apply aM|apply aF|apply aE)<;>intro h<;>(try simp at h)<;>(try(exfalso;omega))))
   any_goals((conv=>whnf);first|(refine⟨m-1,by omega,Gp.cutN (H:=[i8 l]) rfl ⟨rfl,trivial⟩ ⟨low _,trivial⟩ rfl rfl ?_ fun ρ1 h=>⟨k+1,_,p2,by omega,.inr rfl,by first|omega|(simp at *;omega),rfl,h⟩⟩;exact⟨rfl,rfl,rfl,rfl,rfl,aN (dT (by omega)),trivial⟩)|(refine Gp.cutN (H:=[i8 l]) rfl ⟨rfl,trivial⟩ ⟨low _,trivial⟩ rfl rfl ?_ fun ρ1 h=>⟨rfl,_,[],.inl ⟨rfl,rfl⟩,by simp,rfl,h⟩;exact⟨rfl,rfl,trivial⟩))
  ·repeat'((conv=>whnf);first|((first|apply aC.use|apply aC.draw);exact(CC false false false _ (hq.2 _ (by assumption)) prx (by omega) _ _ (q3 _ (by assumption)).le (q3 _ (by assumption)).le z);rintro r ⟨p2,rfl,hp2⟩)|refine iP (by rw[hw];omega) (fun y hy hm=>?_)|refine And.intro (by rw[hw];omega) ?_|refine aI ?_|refine oA ?_|refine oM fun x hx hm=>?_|((first|apply aK|apply aL|apply aM|apply aF|apply aE)<;>intro h<;>(try simp at h)<;>(try(exfalso;omega))))
   any_goals((conv=>whnf);first|(refine⟨m-1,by omega,Gp.cutN (H:=[i8 l]) rfl ⟨rfl,trivial⟩ ⟨low _,trivial⟩ rfl rfl ?_ fun ρ1 h=>⟨k+1,_,p2,by omega,.inr rfl,by omega,rfl,h⟩⟩;exact⟨rfl,rfl,rfl,rfl,rfl,aN (dT (by omega)),trivial⟩)|(refine Gp.cutN (H:=[i8 l]) rfl ⟨rfl,trivial⟩ ⟨low _,trivial⟩ rfl rfl ?_ fun ρ1 h=>⟨rfl,_,prx,.inr rfl,by omega,rfl,h⟩;exact⟨rfl,rfl,trivial⟩))
 ·rintro i ρ1 H1 ⟨rfl,v,prx,hv,hp,rfl,d,rfl⟩
  rcases hv with⟨rfl,rfl⟩|rfl
  ·repeat'((conv=>whnf);first|((first|apply aC.use|apply aC.draw);exact(mQ false [] (by simp) c).args (.cons (.nil _ _) (.cons (.refl _) .nil));rintro r ⟨a,b,rfl⟩)|refine aI ?_|refine oA ?_|refine oM fun x hx hm=>?_|((first|apply aK|apply aL|apply aM|apply aF|apply aE)<;>intro h<;>(try simp at h)<;>(try(exfalso;omega))))
   any_goals((conv=>whnf);first|exact ZB (by exact rfl) _ _)
  ·repeat'((conv=>whnf);first|((first|apply aC.use|apply aC.draw);exact(mQ false prx (by omega) c);rintro r ⟨a,b,rfl⟩)|refine aI ?_|refine oA ?_|refine oM fun x hx hm=>?_|((first|apply aK|apply aL|apply aM|apply aF|apply aE)<;>intro h<;>(try simp at h)<;>(try(exfalso;omega))))
   any_goals((conv=>whnf);first|exact ZB (by exact rfl) _ _)
theorem UR{L:List jE}{cs:List c8}(hL:L.length≤192)(hLs:∀x∈L,nH x∧Cz x.cols)(hc:cs.length≤100000):Fl nH (L++[⟨uG,false,cs,none⟩]) :=
 ⟨by simp;omega,dF (fun y hy=>(hLs y hy).1) ⟨(by decide:uG.size≤100000),hc⟩⟩
set_option maxRecDepth 20000 in
set_option maxHeartbeats 2000000 in
theorem DG(d:rA)(hd:d.F)(hm:d.macros.length=0)(hsc:∀s∈d.sources,Cz s.cols):
  cH pr 97 [d8 d] [.agg (bH d)] L6:=by
 have low:=gV d
 have hql:=hd.q.1
 refine bQ k97.has ⟨low _,trivial⟩ ?_
 repeat'((conv=>whnf);first|(refine cH.use [0] (uD d hd hm hsc) (by simp) rfl ⟨⟨_,rfl,.same (dX d)⟩,trivial⟩ ⟨fJ d rfl,trivial⟩ (fun r hr=>?_);obtain⟨L,e,rfl,hL,hLs,hz⟩:=hr)|refine aI ?_|refine oA ?_|refine oM fun x hx hm=>?_|((first|apply aK|apply aL|apply aM|apply aF|apply aE)<;>intro h<;>(try simp at h)<;>(try(exfalso;omega))))
 any_goals((conv=>whnf);first|exact DQ (by exact rfl) _)
 refine⟨fun m ρ H1=>∃k:Nat,k+m=d.models.length∧H1=[d8 d,.arr 6 [bH d]]∧Sv 56 [(1,.ptr 1 1 0 0),(3,.list false 4 (mC bS L)),(5,.int .i64 k)] ρ,d.models.length,[],fun i ρ H1=>i=0∧H1=[d8 d,.arr 6 [bH d]]∧Sv 56 [(1,.ptr 1 1 0 0)] ρ,?_,?_,?_⟩
 ·exact⟨0,by omega,rfl,Sv.intro rfl ⟨rfl,rfl,rfl,trivial⟩⟩
 ·rintro m ρ H1 ⟨k,hk,rfl,dd,rfl⟩
  repeat'((conv=>whnf);first|(refine cH.use [3] (J6 false false x.query (L++[⟨uG,false,x.self,none⟩]) d.zones (hd.q.2 _ (by assumption)).2.2.1 (UR hL hLs (hd.q.2 _ (by assumption)).2.1.1) hd.z _ _) (by simp) rfl ⟨⟨_,rfl,JX (dD bS L [⟨uG,false,x.self,none⟩]) (aV cG _)⟩,trivial⟩ ⟨.closed _ rfl,r6 rfl (by simp) (by simp),.closed _ rfl,.closed _ rfl,.closed _ rfl,trivial⟩ (fun r hr=>?_);obtain⟨a,b,rfl⟩:=hr)|refine b8 (eM (aZ gQ d.models).symm) ?_|refine And.intro (⟨by simp[aQ];omega,by simp[aQ];omega⟩) ?_|refine aI ?_|refine oA ?_|refine oM fun x hx hm=>?_|((first|apply aK|apply aL|apply aM|apply aF|apply aE)<;>intro h<;>(try simp at h)<;>(try(exfalso;omega))))
  any_goals((conv=>whnf);first|exact DQ (by exact rfl) _|(refine⟨m-1,by omega,Gp.cutN (H:=[d8 d,.arr 6 [bH d]]) rfl ⟨rfl,trivial⟩ ⟨low _,rfl,trivial⟩ rfl rfl ?_ fun ρ1 h=>⟨k+1,by omega,rfl,h⟩⟩;exact⟨rfl,rfl,aN (dT (by omega)),trivial⟩)|(refine Gp.cutN (H:=[d8 d,.arr 6 [bH d]]) rfl ⟨rfl,trivial⟩ ⟨low _,rfl,trivial⟩ rfl rfl ?_ fun ρ1 h=>⟨rfl,rfl,h⟩;exact⟨rfl,trivial⟩))
 ·rintro i ρ1 H1 ⟨rfl,rfl,dd,rfl⟩
  conv=>whnf
  exact DQ (by exact rfl) _
theorem iG{n:Int}(h0:0≤n)(h1:n≤100000000){k:Int}(hk:1≤k):0≤IntKind.i64.wrap (n.tdiv k)∧IntKind.i64.wrap (n.tdiv k)≤n:=by
 rw[Int.tdiv_eq_ediv_of_nonneg h0]
 have h2:0≤n / k:=Int.ediv_nonneg h0 (by omega)
 have h3:n / k≤n:=Int.ediv_le_self _ h0
 rw[aY _ (by omega) (by omega)]
 exact⟨h2,h3⟩
def VP(r:a6):Prop:=∃ns:List ByteArray,gB r (sL ns)∧(∀s∈ns,bM s)∧ns.length≤2
def X3(r:a6):Prop:=∃ns:List ByteArray,r=sL ns∧(∀s∈ns,bM s)∧ns.length≤2
theorem VP.wk:∀r,VP r→∃r',gB r r'∧X3 r':=by
 rintro r ⟨l,hw,hl⟩
 exact⟨_,hw,l,rfl,hl⟩
theorem KM(x:Bool)(cs:List c8)(h1:1≤cs.length)(hc:cs.length≤100000)(hn:∀c∈cs,bM c.name)(n:Int)(h0:0≤n)(h9:n≤100000000):aC pr 146 [.list x 3 (cC cs),.int .i64 n] X3:=by
 refine aC.weak ?_ VP.wk
 refine aH k146.has rfl ?_
 repeat'((conv=>whnf);first|((first|apply aC.use|apply aC.draw);exact p7 x cs h1 hc hn _ (by first|exact h0|exact(iG h0 h9 (by decide)).1);rintro r ⟨s1,rfl,hs1⟩)|refine aI ?_|refine oA ?_|refine oM fun x hx hm=>?_|((first|apply aK|apply aL|apply aM|apply aF|apply aE)<;>intro h<;>(try simp at h)<;>(try(exfalso;omega))))
 any_goals((conv=>whnf);first|exact⟨_,.closed _ rfl,[_,_],.lst rfl rfl,by simp;exact⟨by assumption,by assumption⟩,by simp⟩|exact⟨_,.closed _ rfl,[_],.lst rfl rfl,by simp;assumption,by simp⟩)
def V8(n:Int)(k:Nat):ByteArray:=bs [110]++⟨(List.map (fun n=>UInt8.ofNat n.toNat) [IntKind.u8.wrap (IntKind.i64.wrap (97+(IntKind.i64.wrap (n+(k:Int))).tmod 26))]).toArray⟩
theorem NQ{n:Int}(h0:0≤n)(h9:n≤100000000){k:Nat}(hk:k≤26):IntKind.u8.wrap (IntKind.i64.wrap (97+(IntKind.i64.wrap (n+(k:Int))).tmod 26))=97+(n+k) % 26:=by
 rw[aY (n+k) (by omega) (by omega),Int.tmod_eq_emod_of_nonneg (by omega),aY _ (by omega) (by omega)]
 have:=m8 (97+(n+k) % 26)
 rw[u8]at this
 rw[this];omega
theorem U3{n:Int}(h0:0≤n)(h9:n≤100000000){j k:Nat}(hj:j<26)(hk:k<26)(h:V8 n j=V8 n k):j=k:=by
 have h1:=congrArg ByteArray.data h
 simp only[V8,ByteArray.data_append,NQ h0 h9 (Nat.le_of_lt hj),NQ h0 h9 (Nat.le_of_lt hk),List.map_cons,List.map_nil]at h1
 have h2:=congrArg Array.toList h1
 simp at h2
 have h3:=congrArg UInt8.toNat h2
 simp only[UInt8.toNat_ofNat']at h3
 omega
theorem II{cs:List c8}{s:ByteArray}(h:0≤dZ cs s):s∈cs.map c8.name:=by
 have:=(tG (s8 s) cs 0 (Int.le_refl _)).1 h
 rw[List.any_eq_true]at this
 obtain⟨c,h1,h2⟩:=this
 exact List.mem_map.2 ⟨c,h1,ByteArray.ext (Array.toList_inj.1 (by simpa[s8]using h2))⟩
theorem P0{cs:List c8}(hc:cs.length≤25){n:Int}(h0:0≤n)(h9:n≤100000000){k:Nat}(hk:k≤26)(h:∀j<k,0≤dZ cs (V8 n j)):k<26:=by
 refine Classical.byContradiction fun hn=>?_
 obtain rfl:k=26:=by omega
 have hnd:((List.range 26).map (V8 n)).Nodup:=by
  rw[List.nodup_iff_pairwise_ne,List.pairwise_map]
  refine List.Pairwise.imp_of_mem (fun{a b} ha hb hne he=>hne ?_) (List.nodup_iff_pairwise_ne.1 List.nodup_range)
  exact U3 h0 h9 (List.mem_range.1 ha) (List.mem_range.1 hb) he
 have:=CD _ (cs.map c8.name) hnd fun s hs=>by
  obtain⟨j,hj,rfl⟩:=List.mem_map.1 hs
  exact II (h j (List.mem_range.1 hj))
 simp at this
 omega
theorem U8{p:Nat→Prop}{k:Nat}(h:∀j<k,p j)(hk:p k):∀j<k+1,p j:=fun j hj=>by
 rcases Nat.lt_or_ge j k with h1|h1
 ·exact h j h1
 ·obtain rfl:j=k:=by omega
  exact hk
theorem xN(x:Bool)(cs:List c8)(hc:cs.length≤25)(n:Int)(h0:0≤n)(h9:n≤100000000):aC pr 190 [.list x 3 (cC cs),.int .i64 n] (fun r=>∃s,r=.str s∧bM s):=by
 refine aH k190.has rfl ?_
 conv=>whnf
 refine⟨fun m ρ H1=>∃k:Nat,k+m=26∧(∀j<k,0≤dZ cs (V8 n j))∧H1=[]∧Sv 23 [(0,.list x 3 (cC cs)),(1,.int .i64 n),(5,.int .i64 k)] ρ,26,[],fun i ρ H1=>False,?_,?_,?_⟩
 ·exact⟨0,by omega,(fun j hj=>by omega),rfl,Sv.intro rfl ⟨rfl,rfl,rfl,trivial⟩⟩
 ·rintro m ρ H1 ⟨k,hk,hj,rfl,d,rfl⟩
  have hlt:=P0 hc h0 h9 (by omega) hj
  repeat'((conv=>whnf);first|refine⟨_,eV [_],?_⟩|((first|apply aC.use|apply aC.draw);exact aC.of (bB x cs (by omega) (V8 n k));rintro r rfl)|refine And.intro (by exact(by decide:(2:Nat)≤4611686018427387904)) ?_|refine aI ?_|refine oA ?_|refine oM fun x hx hm=>?_|((first|apply aK|apply aL|apply aM|apply aF|apply aE)<;>intro h<;>(try simp at h)<;>(try(exfalso;omega))))
  any_goals((conv=>whnf);first|exact⟨_,.closed _ rfl,V8 n k,rfl,(by decide:(2:Nat)≤100000)⟩|(refine⟨m-1,by omega,Gp.cut (H:=[]) rfl trivial rfl rfl ?_ fun ρ1 h=>⟨k+1,by omega,U8 hj (by assumption),rfl,h⟩⟩;exact⟨rfl,rfl,aN (dT (by omega)),trivial⟩))
 ·intro i ρ H1 h
  exact h.elim
theorem w6(v:V):j3 pr 245 [.agg (iB v)] 6 (fun es=>es=mC fZ [⟨0,v,bs [],0⟩]):=by
 refine fB k245.has ?_
 conv=>whnf
 exact⟨_,_,_,rfl,rfl,rfl,rfl,rfl⟩
theorem zL(x y:Bool)(e:List oO)(cs:List c8)(he:Fl xU e)(hc:cs.length≤100000):aC pr 195 [.list x 6 (mC fZ e),.list y 3 (cC cs)] E4:=by
 refine aH k195.has rfl ?_
 repeat'((conv=>whnf);first|((first|apply aC.use|apply aC.draw);exact tT;rintro r rfl)|((first|apply aC.use|apply aC.draw);exact DF x y false e cs QG he hc AV;rintro r ⟨k,b,c,rfl⟩)|refine aI ?_|refine oA ?_|refine oM fun x hx hm=>?_|((first|apply aK|apply aL|apply aM|apply aF|apply aE)<;>intro h<;>(try simp at h)<;>(try(exfalso;omega))))
 any_goals((conv=>whnf);first|exact G4 _)
def Nd(N:Nat)(e:List oO):Prop:=e.length≤N∧∀n∈e,xU n
def DL(N:Nat)(es:List (List a6)):Prop:=∃e:List oO,es=mC fZ e∧Nd N e
theorem DL.mono{N M:Nat}{es:List (List a6)}(h:DL N es)(hm:N≤M):DL M es:=by
 obtain⟨e,rfl,h1,h2⟩:=h
 exact⟨e,rfl,Nat.le_trans h1 hm,h2⟩
def ZQ(e:List oO):List a6:=[nL e]
def TO(N:Nat)(es:List (List a6)):Prop:=∃L:List (List oO),es=mC ZQ L∧(∀e∈L,Nd N e)∧L.length≤3
theorem FL{N:Nat}{e:List oO}(h:Nd N e):TO N [[.list false 6 (mC fZ e)]]:=⟨[e],rfl,by simpa using h,by simp⟩
theorem FM{N:Nat}{e f:List oO}(h:Nd N e)(h2:Nd N f):TO N [[.list false 6 (mC fZ e)],[.list false 6 (mC fZ f)]]:=⟨[e,f],rfl,by simp;exact⟨h,h2⟩,by simp⟩
theorem FN{N:Nat}{e f g:List oO}(h:Nd N e)(h2:Nd N f)(h3:Nd N g):TO N [[.list false 6 (mC fZ e)],[.list false 6 (mC fZ f)],[.list false 6 (mC fZ g)]]:=⟨[e,f,g],rfl,by simp;exact⟨h,h2,h3⟩,by simp⟩
theorem WD{N k M:Nat}{out e:List oO}(ho:Nd (N*k) out)(he:Nd N e)(hk:M=N*k+N):Nd M (out++e):=by
 refine⟨by have:=ho.1;have:=he.1;simp;omega,fun n hn=>?_⟩
 rcases List.mem_append.1 hn with h|h
 ·exact ho.2 n h
 ·exact he.2 n h
theorem WE{N:Nat}{out:List oO}{op:Int}{v:V}(ho:Nd N out):Nd (N+1) (out++[⟨op,v,bs [],0⟩]):=by
 refine⟨by have:=ho.1;simp;omega,fun n hn=>?_⟩
 rcases List.mem_append.1 hn with h|h
 ·exact ho.2 n h
 ·simp at h;subst h;exact(by decide:(0:Nat)≤100000)
set_option maxRecDepth 20000 in
theorem iT(x:Bool)(op:Int){es:List (List a6)}{N:Nat}(hA:TO N es)(hN:N≤1000):j3 pr 192 [.int .i64 op,.list x 1 es] 6 (DL (3*N+1)):=by
 obtain⟨L,rfl,hL,hl⟩:=hA
 refine fB k192.has ?_
 conv=>whnf
 refine⟨fun m ρ H1=>∃(k:Nat) (out:List oO),k+m=L.length∧Nd (N*k) out∧H1=[.arr 6 (mC fZ out)]∧Sv 24 [(0,.int .i64 op),(1,.list x 1 (mC ZQ L)),(5,.sl 0 out.length 0 out.length),(6,.int .i64 k)] ρ,L.length,[(5,6)],fun i ρ H1=>i=0∧∃out:List oO,Nd (3*N) out∧H1=[.arr 6 (mC fZ out)]∧Sv 24 [(0,.int .i64 op),(5,.sl 0 out.length 0 out.length)] ρ,?_,?_,?_⟩
 ·exact⟨0,[],by omega,⟨by simp,fun n h=>by simp at h⟩,rfl,Sv.intro rfl ⟨rfl,rfl,rfl,rfl,trivial⟩⟩
 ·rintro m ρ H1 ⟨k,out,hk,ho,rfl,d,rfl⟩
  have hk3:N*k≤N*3:=Nat.mul_le_mul_left _ (by omega)
  have hk1:N*(k+1)=N*k+N:=Nat.mul_succ _ _
  have ho1:=ho.1
  repeat'((conv=>whnf);first|refine b8 (eM (aZ fZ out).symm) ?_|refine And.intro (by have:=(hL _ (by assumption)).1;exact⟨by simp[aQ];omega,by simp[aQ];omega,rfl,(aZ fZ out).symm⟩) ?_|refine aI ?_|refine oA ?_|refine oM fun x hx hm=>?_|((first|apply aK|apply aL|apply aM|apply aF|apply aE)<;>intro h<;>(try simp at h)<;>(try(exfalso;omega))))
  any_goals((conv=>whnf);first|(refine⟨m-1,by omega,Gp.cut (H:=[.arr 6 (mC fZ (out++x))]) (by rw[dD];rfl) ⟨bU (aV wE _),trivial⟩ rfl rfl ?_ fun ρ1 h=>⟨k+1,_,by omega,WD ho (hL _ (by assumption)) hk1,rfl,h⟩⟩;exact⟨rfl,rfl,eS (by simp) (by simp),aN (dT (by omega)),trivial⟩)|(refine Gp.cut (H:=[.arr 6 (mC fZ out)]) rfl ⟨bU (aV wE _),trivial⟩ rfl rfl ?_ fun ρ1 h=>⟨rfl,out,⟨by omega,ho.2⟩,rfl,h⟩;exact⟨rfl,rfl,trivial⟩))
 ·rintro i ρ1 H1 ⟨rfl,out,ho,rfl,d,rfl⟩
  have ho1:=ho.1
  repeat'((conv=>whnf);first|refine b8 (eM (aZ fZ out).symm) ?_|refine And.intro (⟨by simp[aQ];omega,by simp[aQ];omega,rfl,(aZ fZ out).symm⟩) ?_|refine aI ?_|refine oA ?_|refine oM fun x hx hm=>?_|((first|apply aK|apply aL|apply aM|apply aF|apply aE)<;>intro h<;>(try simp at h)<;>(try(exfalso;omega))))
  all_goals(conv=>whnf)
  exact⟨_,_,mC fZ (out++[⟨op,⟨0,0,bs []⟩,bs [],0⟩]),rfl,by rw[dD];rfl,by simp,aV wE _,_,rfl,WE ho⟩
theorem ZP{n:oO}(h:xU n):Nd 1 [n]:=⟨by simp,fun m hm=>by simp at hm;subst hm;exact h⟩
theorem WG{op:Int}{v:V}{a:Int}:xU ⟨op,v,bs [],a⟩:=(by decide:(0:Nat)≤100000)
set_option maxRecDepth 20000 in
set_option maxHeartbeats 1000000 in
theorem C8(f:Bool)(kind:Int)(cs:List c8)(hc:cs.length≤1000)(hn:∀c∈cs,bM c.name)(n:Int)(h0:0≤n)(h9:n≤100000000):
  j3 pr 191 [.int .i64 kind,.list f 3 (cC cs),.int .i64 n] 6 (DL 1):=by
 have hcl:=aW cs
 have hq:=iG h0 h9 (k:=4) (by decide)
 refine fB k191.has ?_
 conv=>whnf
 refine⟨fun m ρ H1=>∃k:Nat,k+m=cs.length∧H1=[]∧Sv 48 [(0,.int .i64 kind),(1,.list f 3 (cC cs)),(2,.int .i64 n),(7,.int .i64 k)] ρ,cs.length,[],fun i ρ H1=>i=0∧H1=[]∧Sv 48 [(0,.int .i64 kind),(2,.int .i64 n)] ρ,?_,?_,?_⟩
 ·exact⟨0,by omega,rfl,Sv.intro rfl ⟨rfl,rfl,rfl,rfl,trivial⟩⟩
 ·rintro m ρ H1 ⟨k,hk,rfl,d,rfl⟩
  rcases Nat.lt_or_ge k cs.length with hkl|hkl
  ·have hb:=GB (n:=IntKind.i64.wrap (IntKind.i64.wrap (n.tdiv 4)+k)) (m:=(cC cs).length) (by rw[aY _ (by omega) (by omega)];omega) (by omega)
   repeat'((conv=>whnf);first|refine And.intro (by omega) ?_|refine aI ?_|refine oA ?_|refine oM fun x hx hm=>?_|((first|apply aK|apply aL|apply aM|apply aF|apply aE)<;>intro h<;>(try simp at h)<;>(try(exfalso;omega))))
   any_goals((conv=>whnf);first|(refine⟨_,_,_,rfl,rfl,rfl,rfl,[⟨1,⟨0,0,bs []⟩,x.name,0⟩],rfl,ZP (hn _ (by assumption))⟩)|(refine⟨m-1,by omega,Gp.cut (H:=[]) rfl trivial rfl rfl ?_ fun ρ1 h=>⟨k+1,by omega,rfl,h⟩⟩;exact⟨rfl,rfl,rfl,aN (dT (by omega)),trivial⟩)|(refine Gp.cut (H:=[]) rfl trivial rfl rfl ?_ fun ρ1 h=>⟨rfl,rfl,h⟩;exact⟨rfl,rfl,trivial⟩))
  ·repeat'((conv=>whnf);first|refine And.intro (by omega) ?_|refine aI ?_|refine oA ?_|refine oM fun x hx hm=>?_|((first|apply aK|apply aL|apply aM|apply aF|apply aE)<;>intro h<;>(try simp at h)<;>(try(exfalso;omega))))
   any_goals((conv=>whnf);first|(refine Gp.cut (H:=[]) rfl trivial rfl rfl ?_ fun ρ1 h=>⟨rfl,rfl,h⟩;exact⟨rfl,rfl,trivial⟩))
 ·rintro i ρ1 H1 ⟨rfl,rfl,d,rfl⟩
  repeat'((conv=>whnf);first|((first|apply aC.use|apply aC.draw);exact aC.of (LA kind _);rintro r rfl)|refine j3.own (w6 (oK kind _)) rfl (fun es hes hp=>?_)|refine j3.own (w6 ⟨0,0,bs []⟩) rfl (fun es hes hp=>?_)|refine aI ?_|refine oA ?_|refine oM fun x hx hm=>?_|((first|apply aK|apply aL|apply aM|apply aF|apply aE)<;>intro h<;>(try simp at h)<;>(try(exfalso;omega))))
  any_goals((conv=>whnf);first|exact⟨_,_,_,rfl,rfl,rfl,hp,_,hes,ZP WG⟩)
def rD(P:Program)(id:FuncId)(f g:Bool)(cs:List c8)(l:List Int)(d:Int)(A:Int)(N:Nat):Prop :=
 ∀(kind v:Int),(0≤v∧v≤A)→j3 P id [.int .i64 kind,.list f 3 (cC cs),.list g 1 (iC l),.int .i64 v,.int .i64 d] 6 (DL N)
theorem Z5{at':Int}(h0:0≤at')(h9:at'≤100000000){k j:Int}(hk:0≤k)(hk3:k≤3)(hj:0≤j)(hj3:j≤3):IntKind.i64.wrap (IntKind.i64.wrap (k*at')+j)=k*at'+j:=by
 have h1:0≤k*at':=Int.mul_nonneg hk h0
 have h2:k*at'≤3*at':=Int.mul_le_mul_of_nonneg_right hk3 h0
 rw[aY (k*at') (by omega) (by omega),aY _ (by omega) (by omega)]
theorem kR{at' A:Int}(h0:0≤at')(h9:at'≤100000000)(hA:3*at'+3≤A){k j:Int}(hk:0≤k)(hk3:k≤3)(hj:0≤j)(hj3:j≤3):0≤IntKind.i64.wrap (IntKind.i64.wrap (k*at')+j)∧IntKind.i64.wrap (IntKind.i64.wrap (k*at')+j)≤A:=by
 have h1:0≤k*at':=Int.mul_nonneg hk h0
 have h2:k*at'≤3*at':=Int.mul_le_mul_of_nonneg_right hk3 h0
 rw[Z5 h0 h9 hk hk3 hj hj3]
 omega
theorem VB{n:Int}(h0:0≤n)(h3:n<3)(a b c:ByteArray):∃s,[[a6.str a],[a6.str b],[a6.str c]][n.toNat]?=some [.str s]∧(s=a∨s=b∨s=c):=by
 obtain h|h|h:n=0∨n=1∨n=2:=by omega
 all_goals subst h
 ·exact⟨a,rfl,.inl rfl⟩
 ·exact⟨b,rfl,.inr (.inl rfl)⟩
 ·exact⟨c,rfl,.inr (.inr rfl)⟩
theorem ZF{s:ByteArray}(h:s=bs [122,48]∨s=bs [122,49]∨s=bs [122,50]):bM s:=by
 rcases h with rfl|rfl|rfl<;>exact(by decide:(2:Nat)≤100000)
theorem RZ{N:Nat}{e:List oO}{s:ByteArray}(he:Nd N e)(hs:s=bs [122,48]∨s=bs [122,49]∨s=bs [122,50]):
  bG (mC fZ e++[[.int .i64 20,.int .i64 0,.int .i64 0,.str (bs []),.str s,.int .i64 0]])=true∧DL (3*N+1) (mC fZ e++[[.int .i64 20,.int .i64 0,.int .i64 0,.str (bs []),.str s,.int .i64 0]]):=by
 have hk:mC fZ e++[[.int .i64 20,.int .i64 0,.int .i64 0,.str (bs []),.str s,.int .i64 0]]=mC fZ (e++[⟨20,⟨0,0,bs []⟩,s,0⟩]):=by rw[dD];rfl
 rw[hk]
 have:=he.1
 exact⟨aV wE _,_,rfl,by simp;omega,dF he.2 (ZF hs)⟩
set_option maxRecDepth 20000 in
set_option maxHeartbeats 4000000 in
theorem J7(f g:Bool)(cs:List c8)(hc:cs.length≤1000)(hn:∀c∈cs,bM c.name)(l:List Int){d:Int}{A:Int}{N:Nat}(hN:N≤1000)(hE:rD pr 149 f g cs l (IntKind.i64.wrap (d-1)) A N)(at':Int)(h0:0≤at')(h9:at'≤100000000)(hA:3*at'+3≤A):
  j3 pr 193 [.list f 3 (cC cs),.list g 1 (iC l),.int .i64 at',.int .i64 d] 6 (DL (3*N+1)):=by
 refine fB k193.has ?_
 repeat'((conv=>whnf);first|((first|apply aC.use|apply aC.draw);exact aC.of (jX g l _);rintro r rfl)|((first|apply aC.use|apply aC.draw);exact(hE _ _ (by first|exact kR h0 h9 hA (by decide) (by decide) (by decide) (by decide)|(apply kR h0 h9 hA<;>decide))).frz rfl;rintro r ⟨es,rfl,e,rfl,he⟩)|(refine j3.own (iT true _ (by first|exact FN (by assumption) (by assumption) (by assumption)|exact FM (by assumption) (by assumption)|exact FL (by assumption)) hN) rfl (fun es hes hp=>?_))|refine aI ?_|refine oA ?_|refine oM fun x hx hm=>?_|((first|apply aK|apply aL|apply aM|apply aF|apply aE)<;>intro h<;>(try simp at h)<;>(try(exfalso;omega))))
 any_goals((conv=>whnf);first|exact⟨_,_,_,rfl,rfl,rfl,hp,hes⟩)
set_option maxRecDepth 20000 in
set_option maxHeartbeats 4000000 in
theorem JF(f g:Bool)(cs:List c8)(hc:cs.length≤1000)(hn:∀c∈cs,bM c.name)(l:List Int){d:Int}{A:Int}{N:Nat}(hN:N≤1000)(hE:rD pr 149 f g cs l (IntKind.i64.wrap (d-1)) A N)(at':Int)(h0:0≤at')(h9:at'≤100000000)(hA:3*at'+3≤A):
  j3 pr 194 [.list f 3 (cC cs),.list g 1 (iC l),.int .i64 at',.int .i64 d] 6 (DL (3*N+1)):=by
 have hat:=fI l at'
 obtain⟨s,hs,hs2⟩:=VB (n:=(IntKind.i64.wrap ((E6 l at').tdiv 9)).tmod 3) (Int.tmod_nonneg _ (iG hat.1 (by omega) (by decide)).1) (Int.tmod_lt_of_pos _ (by decide)) (bs [122,48]) (bs [122,49]) (bs [122,50])
 have hb:0≤(IntKind.i64.wrap ((E6 l at').tdiv 9)).tmod 3:=Int.tmod_nonneg _ (iG hat.1 (by omega) (by decide)).1
 refine fB k194.has ?_
 repeat'((conv=>whnf);first|((first|apply aC.use|apply aC.draw);exact aC.of (jX g l _);rintro r rfl)|refine aI ?_|refine oA ?_|refine oM fun x hx hm=>?_|((first|apply aK|apply aL|apply aM|apply aF|apply aE)<;>intro h<;>(try simp at h)<;>(try(exfalso;omega))))
 ·repeat'((conv=>whnf);first|((first|apply aC.use|apply aC.draw);exact(hE _ _ (by first|exact kR h0 h9 hA (by decide) (by decide) (by decide) (by decide)|(apply kR h0 h9 hA<;>decide))).frz rfl;rintro r ⟨es,rfl,e,rfl,he⟩)|(refine j3.own (iT true _ (by first|exact FN (by assumption) (by assumption) (by assumption)|exact FM (by assumption) (by assumption)|exact FL (by assumption)) hN) rfl (fun es hes hp=>?_))|refine aI ?_|refine oA ?_|refine oM fun x hx hm=>?_|((first|apply aK|apply aL|apply aM|apply aF|apply aE)<;>intro h<;>(try simp at h)<;>(try(exfalso;omega))))
  any_goals((conv=>whnf);first|exact⟨_,_,_,rfl,rfl,rfl,hp,hes⟩)
 ·repeat'((conv=>whnf);first|((first|apply aC.use|apply aC.draw);exact(hE _ _ (by first|exact kR h0 h9 hA (by decide) (by decide) (by decide) (by decide)|(apply kR h0 h9 hA<;>decide))).frz rfl;rintro r ⟨es,rfl,e,rfl,he⟩)|(refine j3.own (iT true _ (by first|exact FN (by assumption) (by assumption) (by assumption)|exact FM (by assumption) (by assumption)|exact FL (by assumption)) hN) rfl (fun es hes hp=>?_))|refine aI ?_|refine oA ?_|refine oM fun x hx hm=>?_|((first|apply aK|apply aL|apply aM|apply aF|apply aE)<;>intro h<;>(try simp at h)<;>(try(exfalso;omega))))
  any_goals((conv=>whnf);first|exact⟨_,_,_,rfl,rfl,rfl,hp,hes⟩)
 ·repeat'(first|refine aT (hs) ?_|((conv=>whnf);first|refine And.intro hb ?_|refine And.intro (by(conv=>whnf);exact And.intro hb (aT hs rfl)) ?_|(refine j3.own (hE _ _ (by first|exact kR h0 h9 hA (by decide) (by decide) (by decide) (by decide)|(apply kR h0 h9 hA<;>decide))) rfl (fun es hes hp=>?_);obtain⟨e,rfl,he⟩:=hes;have he1:=he.1)|refine b8 (eM (aZ fZ e).symm) ?_|refine And.intro (⟨by simp[aQ];omega,by simp[aQ];omega,rfl,rfl⟩) ?_|refine And.intro (by omega) ?_|refine aI ?_|refine oA ?_|refine oM fun x hx hm=>?_|((first|apply aK|apply aL|apply aM|apply aF|apply aE)<;>intro h<;>(try simp at h)<;>(try(exfalso;omega)))))
  all_goals(conv=>whnf)
  exact⟨_,_,_,rfl,rfl,rfl,(RZ he hs2).1,(RZ he hs2).2⟩
 ·repeat'((conv=>whnf);first|((first|apply aC.use|apply aC.draw);exact(hE _ _ (by first|exact kR h0 h9 hA (by decide) (by decide) (by decide) (by decide)|(apply kR h0 h9 hA<;>decide))).frz rfl;rintro r ⟨es,rfl,e,rfl,he⟩)|((first|apply aC.use|apply aC.draw);exact zL false f _ cs ⟨by have:=he.1;omega,he.2⟩ (by omega);rintro r ⟨b,rfl⟩)|(refine j3.own (iT true _ (by first|exact FN (by assumption) (by assumption) (by assumption)|exact FM (by assumption) (by assumption)|exact FL (by assumption)) hN) rfl (fun es hes hp=>?_))|(refine j3.own (C8 f _ cs hc hn _ (iG hat.1 (by omega) (by decide)).1 (Int.le_trans (iG hat.1 (by omega) (by decide)).2 (by omega))) rfl (fun es hes hp=>?_))|refine aI ?_|refine oA ?_|refine oM fun x hx hm=>?_|((first|apply aK|apply aL|apply aM|apply aF|apply aE)<;>intro h<;>(try simp at h)<;>(try(exfalso;omega))))
  any_goals((conv=>whnf);first|exact⟨_,_,_,rfl,rfl,rfl,hp,hes⟩|exact⟨_,_,_,rfl,rfl,rfl,hp,hes.mono (by omega)⟩)
 ·repeat'((conv=>whnf);first|((first|apply aC.use|apply aC.draw);exact(hE _ _ (by first|exact kR h0 h9 hA (by decide) (by decide) (by decide) (by decide)|(apply kR h0 h9 hA<;>decide))).frz rfl;rintro r ⟨es,rfl,e,rfl,he⟩)|(refine j3.own (iT true _ (by first|exact FN (by assumption) (by assumption) (by assumption)|exact FM (by assumption) (by assumption)|exact FL (by assumption)) hN) rfl (fun es hes hp=>?_))|refine aI ?_|refine oA ?_|refine oM fun x hx hm=>?_|((first|apply aK|apply aL|apply aM|apply aF|apply aE)<;>intro h<;>(try simp at h)<;>(try(exfalso;omega))))
  any_goals((conv=>whnf);first|exact⟨_,_,_,rfl,rfl,rfl,hp,hes⟩)
theorem ZC:∀r,E4 r→r.scalar=true:=by rintro _ ⟨b,rfl⟩;rfl
set_option maxRecDepth 20000 in
set_option maxHeartbeats 4000000 in
theorem OW(f g:Bool)(cs:List c8)(hc:cs.length≤1000)(hn:∀c∈cs,bM c.name)(l:List Int):rD pr 149 f g cs l 0 100000000 1:=by
 rintro kind at' ⟨h0,h9⟩
 have hat:=fI l at'
 refine fB k149.has ?_
 repeat'((conv=>whnf);first|((first|apply aC.use|apply aC.draw);exact aC.of (jX g l _);rintro r rfl)|(refine j3.own (C8 f _ cs hc hn _ (iG hat.1 (by omega) (by decide)).1 (Int.le_trans (iG hat.1 (by omega) (by decide)).2 (by omega))) rfl (fun es hes hp=>?_))|refine aI ?_|refine oA ?_|refine oM fun x hx hm=>?_|((first|apply aK|apply aL|apply aM|apply aF|apply aE)<;>intro h<;>(try simp at h)<;>(try(exfalso;omega))))
 any_goals((conv=>whnf);first|exact⟨_,_,_,rfl,rfl,rfl,hp,hes⟩|fail)
set_option maxRecDepth 20000 in
set_option maxHeartbeats 4000000 in
theorem EE(h1:149=149)(h2:149=149)(f g:Bool)(cs:List c8)(hc:cs.length≤1000)(hn:∀c∈cs,bM c.name)(l:List Int){d A B:Int}{N:Nat}(hN:N≤1000)(hd:1≤d)(hE:rD pr 149 f g cs l (IntKind.i64.wrap (d-1)) A N)(hB:B≤30000000)(hAB:12*B+12≤A):
  rD pr 149 f g cs l d B (3*N+1):=by
 rintro kind at' ⟨h0,h9⟩
 have h9:at'≤100000000:=by omega
 have hA:3*at'+3≤A:=by omega
 have hat:=fI l at'
 refine fB k149.has ?_
 repeat'((conv=>whnf);first|((first|apply aC.use|apply aC.draw);exact aC.of (jX g l _);rintro r rfl)|refine aI ?_|refine oA ?_|refine oM fun x hx hm=>?_|((first|apply aK|apply aL|apply aM|apply aF|apply aE)<;>intro h<;>(try simp at h)<;>(try(exfalso;omega))))
 ·repeat'((conv=>whnf);first|(refine j3.own (C8 f _ cs hc hn _ (iG hat.1 (by omega) (by decide)).1 (Int.le_trans (iG hat.1 (by omega) (by decide)).2 (by omega))) rfl (fun es hes hp=>?_))|refine aI ?_|refine oA ?_|refine oM fun x hx hm=>?_|((first|apply aK|apply aL|apply aM|apply aF|apply aE)<;>intro h<;>(try simp at h)<;>(try(exfalso;omega))))
  any_goals((conv=>whnf);first|exact⟨_,_,_,rfl,rfl,rfl,hp,hes.mono (by omega)⟩|fail)
 ·repeat'((conv=>whnf);first|((first|apply aC.use|apply aC.draw);exact(hE _ _ (by first|exact kR h0 h9 hA (by decide) (by decide) (by decide) (by decide)|(apply kR h0 h9 hA<;>decide))).frz rfl;rintro r ⟨es,rfl,e,rfl,he⟩)|(refine j3.own (iT true _ (by first|exact FN (by assumption) (by assumption) (by assumption)|exact FM (by assumption) (by assumption)|exact FL (by assumption)) hN) rfl (fun es hes hp=>?_))|refine aI ?_|refine oA ?_|refine oM fun x hx hm=>?_|((first|apply aK|apply aL|apply aM|apply aF|apply aE)<;>intro h<;>(try simp at h)<;>(try(exfalso;omega))))
  any_goals((conv=>whnf);first|exact⟨_,_,_,rfl,rfl,rfl,hp,hes⟩|fail)
 ·repeat'((conv=>whnf);first|((first|apply aC.use|apply aC.draw);exact(hE _ _ (by first|exact kR h0 h9 hA (by decide) (by decide) (by decide) (by decide)|(apply kR h0 h9 hA<;>decide))).frz rfl;rintro r ⟨es,rfl,e,rfl,he⟩)|(refine j3.own (iT true _ (by first|exact FN (by assumption) (by assumption) (by assumption)|exact FM (by assumption) (by assumption)|exact FL (by assumption)) hN) rfl (fun es hes hp=>?_))|refine aI ?_|refine oA ?_|refine oM fun x hx hm=>?_|((first|apply aK|apply aL|apply aM|apply aF|apply aE)<;>intro h<;>(try simp at h)<;>(try(exfalso;omega))))
  any_goals((conv=>whnf);first|exact⟨_,_,_,rfl,rfl,rfl,hp,hes⟩|fail)
 ·repeat'((conv=>whnf);first|(refine j3.own (J7 f g cs hc hn l hN (by rw[h1];exact hE) _ (by have hq:=kR (A:=3*at'+3) h0 h9 (Int.le_refl _) (k:=3) (j:=1) (by decide) (by decide) (by decide) (by decide);omega) (by have hq:=kR (A:=3*at'+3) h0 h9 (Int.le_refl _) (k:=3) (j:=1) (by decide) (by decide) (by decide) (by decide);omega) (by have hq:=kR (A:=3*at'+3) h0 h9 (Int.le_refl _) (k:=3) (j:=1) (by decide) (by decide) (by decide) (by decide);omega)) rfl (fun es hes hp=>?_))|refine aI ?_|refine oA ?_|refine oM fun x hx hm=>?_|((first|apply aK|apply aL|apply aM|apply aF|apply aE)<;>intro h<;>(try simp at h)<;>(try(exfalso;omega))))
  any_goals((conv=>whnf);first|exact⟨_,_,_,rfl,rfl,rfl,hp,hes⟩|fail)
 ·repeat'((conv=>whnf);first|(refine j3.own (JF f g cs hc hn l hN (by rw[h2];exact hE) _ (by have hq:=kR (A:=3*at'+3) h0 h9 (Int.le_refl _) (k:=3) (j:=1) (by decide) (by decide) (by decide) (by decide);omega) (by have hq:=kR (A:=3*at'+3) h0 h9 (Int.le_refl _) (k:=3) (j:=1) (by decide) (by decide) (by decide) (by decide);omega) (by have hq:=kR (A:=3*at'+3) h0 h9 (Int.le_refl _) (k:=3) (j:=1) (by decide) (by decide) (by decide) (by decide);omega)) rfl (fun es hes hp=>?_))|refine aI ?_|refine oA ?_|refine oM fun x hx hm=>?_|((first|apply aK|apply aL|apply aM|apply aF|apply aE)<;>intro h<;>(try simp at h)<;>(try(exfalso;omega))))
  any_goals((conv=>whnf);first|exact⟨_,_,_,rfl,rfl,rfl,hp,hes⟩|fail)
 ·repeat'((conv=>whnf);first|((first|apply aC.use|apply aC.draw);exact(hE _ _ (by first|exact kR h0 h9 hA (by decide) (by decide) (by decide) (by decide)|(apply kR h0 h9 hA<;>decide))).frz rfl;rintro r ⟨es,rfl,e,rfl,he⟩)|(refine j3.own (iT true _ (by first|exact FN (by assumption) (by assumption) (by assumption)|exact FM (by assumption) (by assumption)|exact FL (by assumption)) hN) rfl (fun es hes hp=>?_))|refine aI ?_|refine oA ?_|refine oM fun x hx hm=>?_|((first|apply aK|apply aL|apply aM|apply aF|apply aE)<;>intro h<;>(try simp at h)<;>(try(exfalso;omega))))
  any_goals((conv=>whnf);first|exact⟨_,_,_,rfl,rfl,rfl,hp,hes⟩|fail)
 ·repeat'((conv=>whnf);first|(refine j3.own (hE _ _ (by first|exact kR h0 h9 hA (by decide) (by decide) (by decide) (by decide)|(apply kR h0 h9 hA<;>decide))) rfl (fun es hes hp=>?_);obtain⟨e,rfl,he⟩:=hes;have he1:=he.1)|(refine aC.bor (zL false f e cs ⟨by omega,he.2⟩ (by omega)) ZC (.cons (qW rfl rfl hp) (.cons (.same _ rfl) .nil)) (fun r hr=>?_);obtain⟨b,rfl⟩:=hr)|refine aI ?_|refine oA ?_|refine oM fun x hx hm=>?_|((first|apply aK|apply aL|apply aM|apply aF|apply aE)<;>intro h<;>(try simp at h)<;>(try(exfalso;omega))))
  any_goals((conv=>whnf);first|exact⟨_,_,_,rfl,rfl,rfl,hp,DL.mono ⟨e,rfl,he⟩ (by omega)⟩|fail)
  conv=>whnf
  refine Gp.none (live:=[(0,.int .i64 kind),(1,.list f 3 (cC cs)),(2,.list g 1 (iC l)),(3,.int .i64 at'),(4,.int .i64 d),(11,.int .i64 (E6 l at')),(13,.int .i64 (IntKind.i64.wrap (IntKind.i64.wrap (3*at')+2))),(15,.list false 6 (mC fZ e))]) rfl ⟨.closed _ rfl,.closed _ rfl,.closed _ rfl,.closed _ rfl,.closed _ rfl,.closed _ rfl,.closed _ rfl,sE rfl rfl rfl hp,trivial⟩ fun ρ1 h=>?_
  obtain⟨dd,rfl⟩:=h
  repeat'((conv=>whnf);first|((first|apply aC.use|apply aC.draw);exact(hE _ _ (by first|exact kR h0 h9 hA (by decide) (by decide) (by decide) (by decide)|(apply kR h0 h9 hA<;>decide))).frz rfl;rintro r ⟨es,rfl,e,rfl,he⟩)|(refine j3.own (iT true _ (by first|exact FN (by assumption) (by assumption) (by assumption)|exact FM (by assumption) (by assumption)|exact FL (by assumption)) hN) rfl (fun es hes hp=>?_))|refine aI ?_|refine oA ?_|refine oM fun x hx hm=>?_|((first|apply aK|apply aL|apply aM|apply aF|apply aE)<;>intro h<;>(try simp at h)<;>(try(exfalso;omega))))
  any_goals((conv=>whnf);first|exact⟨_,_,_,rfl,rfl,rfl,hp,hes⟩|fail)
theorem BJ(h1:149=149)(h2:149=149)(f g:Bool)(cs:List c8)(hc:cs.length≤1000)(hn:∀c∈cs,bM c.name)(l:List Int){d:Int}(hd:d=1∨d=2):rD pr 149 f g cs l d 100000 13:=by
 have e0:=OW f g cs hc hn l
 have e1:rD pr 149 f g cs l 1 8000000 4:=EE h1 h2 f g cs hc hn l (d:=1) (A:=100000000) (N:=1) (by decide) (by decide) (by rw[show IntKind.i64.wrap (1-1)=0 by decide];exact e0) (by decide) (by decide)
 have e2:rD pr 149 f g cs l 2 600000 13:=EE h1 h2 f g cs hc hn l (d:=2) (A:=8000000) (N:=4) (by decide) (by decide) (by rw[show IntKind.i64.wrap (2-1)=1 by decide];exact e1) (by decide) (by decide)
 rintro kind v ⟨h0,h9⟩
 rcases hd with rfl|rfl
 ·obtain⟨es,ha,hb⟩:=e1 kind v ⟨h0,by omega⟩
  exact⟨es,ha.mono (by decide),hb⟩
 ·exact e2 kind v ⟨h0,by omega⟩
def LV{α:Type}(sz:Nat)(f:α→List a6)(p:α→Prop)(v:a6):Prop:=∃l:List α,gB v (.list false sz (mC f l))∧v.isPure=true∧Fl p l
theorem gA{α:Type}{p:α→Prop}:Fl p []:=⟨by simp,fun x h=>by simp at h⟩
theorem pV{α:Type}{p:α→Prop}{x:α}(h:p x):Fl p [x]:=⟨by simp,fun y hy=>by simp at hy;subst hy;exact h⟩
theorem LV.nil{α:Type}{sz:Nat}{f:α→List a6}{p:α→Prop}:LV sz f p .nil:=⟨[],.nil _ _,rfl,gA⟩
def LS(v:a6):Prop:=∃l:List ByteArray,gB v (sL l)∧v.isPure=true∧Fl bM l
theorem LS.nil:LS .nil:=⟨[],.nil _ _,rfl,gA⟩
theorem LS.one{s:ByteArray}(h:bM s):LS (.list true 1 [[.str s]]):=⟨[s],.lst rfl rfl,rfl,pV h⟩
theorem LS.l{l:List ByteArray}(h:∀s∈l,bM s)(h2:l.length≤2):LS (sL l):=⟨l,.refl _,rfl,by omega,h⟩
abbrev LI(v:a6):Prop:=LV 5 G6 XH v
abbrev LN(v:a6):Prop:=LV 6 fZ xU v
theorem LN.l{e:List oO}{N:Nat}(h:Nd N e)(hN:N≤100000):LN (.list false 6 (mC fZ e)):=⟨e,.refl _,rfl,Nat.le_trans h.1 hN,h.2⟩
theorem LI.one{a c:ByteArray}{fn num:Int}{X:a6}(ha:bM a)(hc:bM c)(hX:LN X):LI (.list true 5 [[.str a,.int .i64 fn,.str c,.int .i64 num,X]]):=by
 obtain⟨e,hw,hp,he⟩:=hX
 exact⟨[⟨a,fn,c,num,e⟩],gB.rows (by exact⟨⟨rfl,rfl,.cons (.refl _) (.cons (.refl _) (.cons (.refl _) (.cons (.refl _) (.cons hw .nil))))⟩,trivial⟩),rfl,pV ⟨ha,hc,he⟩⟩
def u6(r:a6):Prop:=∃s:rG,gB r (.agg (cD s))∧m5 s
def ND(r:a6):Prop:=∃s:rG,r=.agg (cD s)∧m5 s
theorem u6.wk:∀r,u6 r→∃r',gB r r'∧ND r':=by
 rintro r ⟨s,hw,hs⟩
 exact⟨_,hw,s,rfl,hs⟩
theorem u6.wkT:∀r,u6 r→∃r',gB r r'∧r'.clT=true∧ND r':=by
 rintro r ⟨s,hw,hs⟩
 exact⟨_,hw,rfl,s,rfl,hs⟩
theorem TA{op:Int}{nm:ByteArray}{N O I C:a6}(hnm:bM nm)(hN:LS N)(hO:LS O)(hI:LI I)(hC:LN C):(a6.agg [.int .i64 op,.str nm,N,O,I,C]).closed=true∧u6 (.agg [.int .i64 op,.str nm,N,O,I,C]):=by
 obtain⟨ns,w1,p1,f1⟩:=hN
 obtain⟨os,w2,p2,f2⟩:=hO
 obtain⟨is,w3,p3,f3⟩:=hI
 obtain⟨e,w4,p4,f4⟩:=hC
 refine⟨?_,⟨op,nm,ns,os,is,e⟩,.aggs (.cons (.refl _) (.cons (.refl _) (.cons w1 (.cons w2 (.cons w3 (.cons w4 .nil)))))),hnm,f1,f2,f3,f4⟩
 show[a6.int .i64 op,.str nm,N,O,I,C].all a6.isPure=true
 simp only[List.all_cons,p1,p2,p3,p4,List.all_nil]
 rfl
theorem V0{H:List aB}{op:Int}{nm:ByteArray}{N O I C:a6}(hnm:bM nm)(hN:LS N)(hO:LS O)(hI:LI I)(hC:LN C):∃r,dV H 0 [] (.agg [.int .i64 op,.str nm,N,O,I,C]) r∧u6 r:=⟨_,.closed _ (TA hnm hN hO hI hC).1,(TA hnm hN hO hI hC).2⟩
theorem ZD{H H0 G:List aB}{ids:List Nat}{op:Int}{nm:ByteArray}{N O I C:a6}(hH:H=H0++G)(hnm:bM nm)(hN:LS N)(hO:LS O)(hI:LI I)(hC:LN C):∃r G,H=H0++G∧dV H 0 ids (.agg [.int .i64 op,.str nm,N,O,I,C]) r∧r.clT=true∧u6 r:=⟨_,_,hH,.closed _ (TA hnm hN hO hI hC).1,(TA hnm hN hO hI hC).1,(TA hnm hN hO hI hC).2⟩
def ZV(N O:a6):Prop:=(N=.nil∧O=.nil)∨∃a b:ByteArray,bM a∧bM b∧N=.list true 1 [[.str a]]∧O=.list true 1 [[.str b]]
abbrev XI(r:jE)(op:Int)(N O:a6):List aB:=[.arr 4 [bS r],.arr 6 [[.int .i64 0,.str (bs []),.nil,.nil,.nil,.nil]],.arr 6 [[.int .i64 op,.str r.name,N,O,.nil,.nil]]]
def B2(r:jE):Prop:=nH r∧Cz r.cols
set_option maxRecDepth 20000 in
set_option maxHeartbeats 4000000 in
theorem C4(f:Bool)(op:Int)(cs:List c8)(hc:Cz cs)(right:jE)(hr:B2 right)(n:Int)(h0:0≤n)(h9:n≤100000000):
  aC pr 148 [.int .i64 op,.list f 3 (cC cs),.agg (bS right),.int .i64 n] ND:=by
 obtain⟨c1,c2,c3⟩:=hc
 obtain⟨⟨r1,r2⟩,r3,r4,r5⟩:=hr
 have hl1:=aW cs
 have hl2:=aW right.cols
 obtain⟨Q,hQ⟩:∃Q,Q=cs.length*right.cols.length:=⟨_,rfl⟩
 have hQ2:Q≤144:=by rw[hQ];exact Nat.mul_le_mul c2 r4
 have hw:IntKind.i64.wrap ((cs.length:Int)*(right.cols.length:Int))=Q:=by rw[←Int.natCast_mul,←hQ];exact aY _ (by omega) (by omega)
 have low:=bP [right]
 refine aC.weak ?_ u6.wk
 refine aH k148.has (by simp only[List.all_cons,List.all_nil,jN];rfl) ?_
 repeat'((conv=>whnf);first|refine b8 ((bX _)) ?_|refine aI ?_|refine oA ?_|refine oM fun x hx hm=>?_|((first|apply aK|apply aL|apply aM|apply aF|apply aE)<;>intro h<;>(try simp at h)<;>(try(exfalso;omega))))
 refine⟨fun m ρ H1=>∃k:Nat,k+m=Q∧H1=XI right op .nil .nil∧Sv 88 [(0,.int .i64 op),(1,.list f 3 (cC cs)),(3,.int .i64 n),(6,.ptr 0 1 0 0),(8,.ptr 1 1 0 0),(9,.ptr 2 1 0 0),(10,.int .i64 k)] ρ,Q,[],fun i ρ H1=>i=0∧∃N O,ZV N O∧H1=XI right op N O∧Sv 88 [(0,.int .i64 op),(1,.list f 3 (cC cs)),(3,.int .i64 n),(6,.ptr 0 1 0 0),(8,.ptr 1 1 0 0),(9,.ptr 2 1 0 0)] ρ,?_,?_,?_⟩
 ·exact⟨0,by omega,rfl,Sv.intro rfl ⟨rfl,rfl,rfl,rfl,rfl,rfl,rfl,trivial⟩⟩
 ·rintro m ρ H1 ⟨k,hk,rfl,d,rfl⟩
  rcases Nat.lt_or_ge k Q with hkQ|hkQ
  ·have hb1:=GB (n:=IntKind.i64.wrap (n+k)) (m:=(cC cs).length) (by rw[aY _ (by omega) (by omega)];omega) (by omega)
   have hq1:=iG (n:=n) h0 h9 (k:=8) (by decide)
   have hq2:=iG (n:=(k:Int)) (by omega) (by omega) (k:=((cC cs).length:Nat)) (by omega)
   have hb2:=GB (n:=IntKind.i64.wrap (IntKind.i64.wrap (n.tdiv 8)+IntKind.i64.wrap ((k:Int).tdiv ((cC cs).length:Nat)))) (m:=(cC right.cols).length) (by rw[aY (IntKind.i64.wrap (n.tdiv 8)+_) (by omega) (by omega)];omega) (by omega)
   obtain⟨x,hx0⟩:∃x,cs[((IntKind.i64.wrap (n+k)).tmod ((cC cs).length:Nat)).toNat]?=some x:=⟨_,List.getElem?_eq_getElem (by omega)⟩
   obtain⟨y,hy0⟩:∃y,right.cols[((IntKind.i64.wrap (IntKind.i64.wrap (n.tdiv 8)+IntKind.i64.wrap ((k:Int).tdiv ((cC cs).length:Nat)))).tmod ((cC right.cols).length:Nat)).toNat]?=some y:=⟨_,List.getElem?_eq_getElem (by omega)⟩
   have hx:=iI hx0
   have hy:=iI hy0
   repeat'(first|refine aT (hx) ?_|refine aT (hy) ?_|((conv=>whnf);first|refine And.intro (by(conv=>whnf);exact And.intro hb1.1 (aT hx rfl)) ?_|refine And.intro (by(conv=>whnf);exact And.intro hb2.1 (aT hy rfl)) ?_|refine b8 ((bX _)) ?_|refine aI ?_|refine oA ?_|refine oM fun x hx hm=>?_|((first|apply aK|apply aL|apply aM|apply aF|apply aE)<;>intro h<;>(try simp at h)<;>(try(exfalso;omega)))))
   any_goals((conv=>whnf);first|(refine Gp.cut (H:=XI right op (.list true 1 [[.str x.name]]) (.list true 1 [[.str y.name]])) rfl ⟨low _,rfl,rfl,trivial⟩ rfl rfl ?_ fun ρ1 h=>⟨rfl,_,_,.inr ⟨_,_,c3 _ (List.mem_of_getElem? hx0),r5 _ (List.mem_of_getElem? hy0),rfl,rfl⟩,rfl,h⟩;exact⟨rfl,rfl,rfl,rfl,rfl,rfl,trivial⟩)|(refine⟨m-1,by omega,Gp.cut (H:=XI right op .nil .nil) rfl ⟨low _,rfl,rfl,trivial⟩ rfl rfl ?_ fun ρ1 h=>⟨k+1,by omega,rfl,h⟩⟩;exact⟨rfl,rfl,rfl,rfl,rfl,rfl,aN (dT (by omega)),trivial⟩)|fail)
  ·repeat'((conv=>whnf);first|refine b8 ((bX _)) ?_|refine aI ?_|refine oA ?_|refine oM fun x hx hm=>?_|((first|apply aK|apply aL|apply aM|apply aF|apply aE)<;>intro h<;>(try simp at h)<;>(try(exfalso;omega))))
   any_goals((conv=>whnf);first|(refine Gp.cut (H:=XI right op .nil .nil) rfl ⟨low _,rfl,rfl,trivial⟩ rfl rfl ?_ fun ρ1 h=>⟨rfl,_,_,.inl ⟨rfl,rfl⟩,rfl,h⟩;exact⟨rfl,rfl,rfl,rfl,rfl,rfl,trivial⟩)|fail)
 ·rintro i ρ1 H1 ⟨rfl,N,O,hNO,rfl,dd,rfl⟩
  rcases hNO with⟨rfl,rfl⟩|⟨a,b,ha,hb,rfl,rfl⟩
  ·repeat'((conv=>whnf);first|((first|apply aC.use|apply aC.draw);exact xN f cs (by omega) n h0 h9;rintro r ⟨s1,rfl,hs1⟩)|((first|apply aC.use|apply aC.draw);exact p7 right.ec right.cols r3 (by omega) r5 _ (iG h0 h9 (by decide)).1;rintro r ⟨s2,rfl,hs2⟩)|refine b8 ((bX _)) ?_|refine aI ?_|refine oA ?_|refine oM fun x hx hm=>?_|((first|apply aK|apply aL|apply aM|apply aF|apply aE)<;>intro h<;>(try simp at h)<;>(try(exfalso;omega))))
   any_goals((conv=>whnf);first|exact V0 r1 LS.nil LS.nil (LI.one (by assumption) (by assumption) LV.nil) LV.nil|exact V0 r1 LS.nil LS.nil LV.nil LV.nil|fail)
  ·repeat'((conv=>whnf);first|((first|apply aC.use|apply aC.draw);exact xN f cs (by omega) n h0 h9;rintro r ⟨s1,rfl,hs1⟩)|((first|apply aC.use|apply aC.draw);exact p7 right.ec right.cols r3 (by omega) r5 _ (iG h0 h9 (by decide)).1;rintro r ⟨s2,rfl,hs2⟩)|refine b8 ((bX _)) ?_|refine aI ?_|refine oA ?_|refine oM fun x hx hm=>?_|((first|apply aK|apply aL|apply aM|apply aF|apply aE)<;>intro h<;>(try simp at h)<;>(try(exfalso;omega))))
   any_goals((conv=>whnf);first|exact V0 r1 (LS.one ha) (LS.one hb) (LI.one (by assumption) (by assumption) LV.nil) LV.nil|exact V0 r1 (LS.one ha) (LS.one hb) LV.nil LV.nil|fail)
theorem r8:bM (bs []):=(by decide:(0:Nat)≤100000)
theorem CJ{vs:List Int}{i:Int}(h0:0≤i)(h:i<vs.length):∃v,(iC vs)[i.toNat]?=some [a6.int .i64 v]:=⟨_,BW (by omega)⟩
theorem ZE{H H0 G:List aB}{ids:List Nat}{s:rG}(hH:H=H0++G)(hs:m5 s):∃r G,H=H0++G∧dV H 0 ids (.agg (cD s)) r∧r.clT=true∧u6 r:=⟨_,_,hH,.closed _ rfl,rfl,s,.refl _,hs⟩
set_option maxRecDepth 20000 in
set_option maxHeartbeats 8000000 in
theorem OP(h1:149=149)(h2:149=149)
  (f g:Bool) (cs:List c8) (hc:Cz cs) (rels:List jE) (hn1:1≤rels.length) (hn2:rels.length≤1000) (hr:∀r∈rels,B2 r) (l:List Int) (at':Int) (ha:0≤at') (ha2:at'≤90000) :
  cH pr 186 [i8 rels] [.list f 3 (cC cs),.sl 0 rels.length 0 rels.length,.list g 1 (iC l),.int .i64 at'] ND:=by
 obtain⟨c1,c2,c3⟩:=hc
 have hN:=fI l at'
 have hk:=fI l (IntKind.i64.wrap (at'+1))
 have hb:=GB (n:=E6 l (IntKind.i64.wrap (at'+1))) (m:=rels.length) hk.1 hn1
 obtain⟨right,hr0⟩:∃r,rels[((E6 l (IntKind.i64.wrap (at'+1))).tmod (rels.length:Nat)).toNat]?=some r:=⟨_,List.getElem?_eq_getElem (by omega)⟩
 have hright:=hr _ (List.mem_of_getElem? hr0)
 have hrm:(mC bS rels)[0+((E6 l (IntKind.i64.wrap (at'+1))).tmod (rels.length:Nat)).toNat]?=some (bS right):=by rw[Nat.zero_add];exact oZ hr0
 have hE:=BJ h1 h2 f g cs (by omega) c3 l (d:=2) (.inr rfl)
 have hw2:0≤IntKind.i64.wrap (at'+2)∧IntKind.i64.wrap (at'+2)≤100000:=by rw[aY _ (by omega) (by omega)];omega
 have hi8:0≤(IntKind.i64.wrap ((E6 l at').tdiv 13)).tmod 8:=Int.tmod_nonneg _ (iG hN.1 (by omega) (by decide)).1
 obtain⟨fv,hfv⟩:=CJ (vs:=[1,3,8,9,10,11,12,13]) hi8 (Int.tmod_lt_of_pos _ (by decide))
 have low:=bP rels
 refine cH.weak ?_ u6.wkT
 refine bQ k186.has ⟨low _,trivial⟩ ?_
 repeat'(first|refine aT (hrm) ?_|refine aT (hfv) ?_|((conv=>whnf);first|((first|apply aC.use|apply aC.draw);exact aC.of (jX g l _);rintro r rfl)|((first|apply aC.use|apply aC.draw);exact(hE _ _ hw2).frz rfl;rintro r ⟨es,rfl,e,rfl,he⟩)|((first|apply aC.use|apply aC.draw);exact xN f cs (by omega) _ hk.1 (Int.le_trans hk.2 (by decide));rintro r ⟨s1,rfl,hs1⟩)|((first|apply aC.use|apply aC.draw);exact KM f cs c1 (by omega) c3 _ (by first|exact hk.1|exact(iG hk.1 (Int.le_trans hk.2 (by decide)) (by decide)).1|fail) (by first|exact Int.le_trans hk.2 (by decide)|exact Int.le_trans (iG hk.1 (Int.le_trans hk.2 (by decide)) (by decide)).2 (Int.le_trans hk.2 (by decide))|fail);rintro r ⟨ns,rfl,hns1,hns2⟩)|((first|apply aC.use|apply aC.draw);exact p7 f cs c1 (by omega) c3 _ (by first|exact hk.1|exact(iG hk.1 (Int.le_trans hk.2 (by decide)) (by decide)).1|fail);rintro r ⟨s2,rfl,hs2⟩)|((first|apply aC.use|apply aC.draw);exact C4 f _ cs ⟨c1,c2,c3⟩ right hright _ (by first|exact hk.1|exact(iG hk.1 (Int.le_trans hk.2 (by decide)) (by decide)).1|fail) (by first|exact Int.le_trans hk.2 (by decide)|exact Int.le_trans (iG hk.1 (Int.le_trans hk.2 (by decide)) (by decide)).2 (Int.le_trans hk.2 (by decide))|fail);rintro r ⟨sj,rfl,hsj⟩)|((first|apply aC.use|apply aC.draw);exact x6 _;rintro r ⟨b1,b2,b3,rfl⟩)|refine And.intro hb ?_|refine And.intro hb.1 ?_|refine And.intro hi8 ?_|refine b8 ((bX _)) ?_|refine b8 (eM (aZ bS rels).symm) ?_|refine And.intro (by exact rfl) ?_|refine And.intro (by decide) ?_|refine aI ?_|refine oA ?_|refine oM fun x hx hm=>?_|((first|apply aK|apply aL|apply aM|apply aF|apply aE)<;>intro h<;>(try simp at h)<;>(try(exfalso;omega)))))
 any_goals((conv=>whnf);first|exact ZE (by exact rfl) hsj|exact ZD (by exact rfl) (by first|exact r8|exact hright.1.1|fail) (by first|exact LS.nil|exact LS.l (by assumption) (by assumption)|fail) (by first|exact LS.nil|exact LS.l (by assumption) (by assumption)|fail) (by first|exact LV.nil|exact LI.one (by first|assumption|exact r8|fail) (by first|assumption|exact r8|fail) (by first|exact LV.nil|exact LN.l (by assumption) (by decide)|fail)|fail) (by first|exact LV.nil|exact LN.l (by assumption) (by decide)|fail)|fail)
def TU(e:List a6):Prop:=∃s:rG,(e.length=6∧oQ e (cD s))∧m5 s
theorem TU.c{s:rG}(hs:m5 s):TU (cD s):=⟨s,⟨rfl,rfl,fun i a b h1 h2=>by rw[h1]at h2;cases h2;exact .refl _⟩,hs⟩
theorem TU.from{nm:ByteArray}(h:bM nm):TU [.int .i64 0,.str nm,.nil,.nil,.nil,.nil] :=
 ⟨⟨0,nm,[],[],[],[]⟩,⟨rfl,.cons (.refl _) (.cons (.refl _) (.cons (.nil _ _) (.cons (.nil _ _) (.cons (.nil _ _) (.cons (.nil _ _) .nil)))))⟩,h,gA,gA,gA,gA⟩
theorem ZS:∀{es:List (List a6)},(∀e∈es,TU e)→∃q:List rG,q.length=es.length∧rI es (mC cD q)∧∀s∈q,m5 s
 |[],_=>⟨[],rfl,trivial,fun s h=>by simp at h⟩
 |e::es,h=>by
  obtain⟨q,h1,h2,h3⟩:=ZS fun e' he=>h e' (List.mem_cons_of_mem _ he)
  obtain⟨s,⟨h4,h5⟩,h6⟩:=h e (List.mem_cons_self ..)
  exact⟨s::q,by simp[h1],⟨⟨h4,rfl,h5⟩,h2⟩,fun x hx=>by
   rcases List.mem_cons.1 hx with rfl|hx
   ·exact h6
   ·exact h3 x hx⟩
def VR(r:a6):Prop:=∃es:List (List a6),r=.list false 6 es∧(∀e∈es,TU e)∧es.length≤1001
def X6(r:a6):Prop:=∃q:List rG,r=PL q∧Fl m5 q
theorem VR.wk:∀r,VR r→∃r',gB r r'∧r'.clT=true∧X6 r':=by
 rintro r ⟨es,rfl,h,hl⟩
 obtain⟨q,h1,h2,h3⟩:=ZS h
 exact⟨PL q,gB.rows h2,rfl,q,rfl,by omega,h3⟩
theorem jR{es:List (List a6)}{e:List a6}(h:bG es=true)(he:e.all a6.isPure=true):bG (es++[e])=true:=by
 unfold bG at h⊢
 rw[List.all_append,h]
 simpa using he
set_option maxRecDepth 20000 in
set_option maxHeartbeats 4000000 in
theorem LJ(h1:149=149)(h2:149=149)
  (g:Bool) (rels:List jE) (hn1:1≤rels.length) (hn2:rels.length≤1000) (hr:∀r∈rels,B2 r) (l:List Int) (n:Int) (hn:n≤1000) :
  cH pr 144 [i8 rels] [.sl 0 rels.length 0 rels.length,.list g 1 (iC l),.int .i64 n] X6:=by
 have hN:=fI l 0
 have hb:=GB (n:=E6 l 0) (m:=rels.length) hN.1 hn1
 obtain⟨fi,hr0⟩:∃r,rels[((E6 l 0).tmod (rels.length:Nat)).toNat]?=some r:=⟨_,List.getElem?_eq_getElem (by omega)⟩
 have hfi:=hr _ (List.mem_of_getElem? hr0)
 have hrm:(mC bS rels)[0+((E6 l 0).tmod (rels.length:Nat)).toNat]?=some (bS fi):=by rw[Nat.zero_add];exact oZ hr0
 have hfl:Fl nH rels:=⟨by omega,fun r h=>(hr r h).1⟩
 have low:=bP rels
 have low2:=bP [fi]
 refine cH.weak ?_ VR.wk
 refine bQ k144.has ⟨low _,trivial⟩ ?_
 repeat'(first|refine aT (hrm) ?_|((conv=>whnf);first|((first|apply aC.use|apply aC.draw);exact aC.of (jX g l 0);rintro r rfl)|refine And.intro hb ?_|refine And.intro hb.1 ?_|refine b8 ((bX _)) ?_|refine b8 (eM (aZ bS rels).symm) ?_|refine And.intro (by exact rfl) ?_|refine And.intro (by decide) ?_|refine aI ?_|refine oA ?_|refine oM fun x hx hm=>?_|((first|apply aK|apply aL|apply aM|apply aF|apply aE)<;>intro h<;>(try simp at h)<;>(try(exfalso;omega)))))
 conv=>whnf
 refine⟨fun m ρ H1=>∃(k:Nat) (es:List (List a6)) (b:Bool) (cs:List c8),m=(n-(k:Int)).toNat∧k≤1001∧es.length≤k∧(∀e∈es,TU e)∧bG es=true∧Cz cs∧H1=[i8 rels,.arr 4 [bS fi],.arr 6 es]∧Sv 65 [(0,.sl 0 rels.length 0 rels.length),(1,.list g 1 (iC l)),(2,.int .i64 n),(8,.sl 2 es.length 0 es.length),(9,.list b 3 (cC cs)),(10,.int .i64 k)] ρ,(n-((1:Nat):Int)).toNat,[],fun i ρ H1=>i=0∧∃es:List (List a6),es.length≤1001∧(∀e∈es,TU e)∧bG es=true∧H1=[i8 rels,.arr 4 [bS fi],.arr 6 es]∧Sv 65 [(8,.sl 2 es.length 0 es.length)] ρ,?_,?_,?_⟩
 ·exact⟨1,[[.int .i64 0,.str fi.name,.nil,.nil,.nil,.nil]],fi.ec,fi.cols,rfl,by decide,Nat.le_refl 1,(fun e he=>by simp at he;subst he;exact .from hfi.1.1),rfl,hfi.2,rfl,Sv.intro rfl ⟨rfl,rfl,rfl,rfl,rfl,rfl,trivial⟩⟩
 ·rintro m ρ H1 ⟨k,es,b,cs,rfl,hk,hel,hes,hp,hcs,rfl,d,rfl⟩
  have hcl:=hcs.le
  repeat'((conv=>whnf);first|(refine cH.use [0] (OP h1 h2 b g cs hcs rels hn1 hn2 hr l (IntKind.i64.wrap (4*(k:Int))) (by rw[aY _ (by omega) (by omega)];omega) (by rw[aY _ (by omega) (by omega)];omega)) (by simp) rfl ⟨⟨_,rfl,.same (aV cG rels)⟩,trivial⟩ ⟨.closed _ rfl,.sl 0 _ _ _,.closed _ rfl,.closed _ rfl,trivial⟩ (fun r hr=>?_);obtain⟨s,rfl,hs⟩:=hr)|(refine cH.use [0] (pU rels (by omega) _) (by simp) rfl ⟨⟨_,rfl,.same (aV cG rels)⟩,trivial⟩ ⟨.sl 0 _ _ _,.closed _ rfl,trivial⟩ (fun r hr=>?_);obtain⟨x,b2,rfl,hf1,hf2⟩:=hr)|((first|apply aC.use|apply aC.draw);exact tT;rintro r rfl)|((first|apply aC.use|apply aC.draw);exact DE b x.ec false cs x.cols s QG hcl (AE hfl hf1 hf2) hs AV;rintro r ⟨c4,c5,rfl,hc6,hc7⟩)|refine b8 ((bX _)) ?_|refine b8 (eM rfl) ?_|refine And.intro (⟨by simp[aQ];omega,by simp[aQ];omega,rfl,rfl⟩) ?_|refine aI ?_|refine oA ?_|refine oM fun x hx hm=>?_|((first|apply aK|apply aL|apply aM|apply aF|apply aE)<;>intro h<;>(try simp at h)<;>(try(exfalso;omega))))
  any_goals((conv=>whnf);first|(refine⟨(n-((k+1:Nat):Int)).toNat,by omega,Gp.cutN (H:=[i8 rels,.arr 4 [bS fi],.arr 6 (es++[cD s])]) rfl ⟨rfl,trivial⟩ ⟨low _,low2 _,bU (jR hp (KQ s)),trivial⟩ rfl rfl ?_ fun ρ1 h=>⟨k+1,_,false,c4,rfl,by omega,by simp;omega,dF hes (TU.c hs),jR hp (KQ s),hc7 (by assumption),rfl,h⟩⟩;exact⟨rfl,rfl,rfl,eS (by simp) (by simp),rfl,aN (dT (by omega)),trivial⟩)|(refine⟨(n-((k+1:Nat):Int)).toNat,by omega,Gp.cutN (H:=[i8 rels,.arr 4 [bS fi],.arr 6 es]) rfl ⟨rfl,trivial⟩ ⟨low _,low2 _,bU hp,trivial⟩ rfl rfl ?_ fun ρ1 h=>⟨k+1,es,b,cs,rfl,by omega,by omega,hes,hp,hcs,rfl,h⟩⟩;exact⟨rfl,rfl,rfl,rfl,rfl,aN (dT (by omega)),trivial⟩)|(refine Gp.cutN (H:=[i8 rels,.arr 4 [bS fi],.arr 6 es]) rfl ⟨rfl,trivial⟩ ⟨low _,low2 _,bU hp,trivial⟩ rfl rfl ?_ fun ρ1 h=>⟨rfl,es,by omega,hes,hp,rfl,h⟩;exact⟨rfl,trivial⟩)|fail)
 ·rintro i ρ1 H1 ⟨rfl,es,hel,hes,hp,rfl,dd,rfl⟩
  conv=>whnf
  exact⟨_,_,by exact rfl,mJ PD rfl rfl rfl hp,rfl,es,rfl,hes,hel⟩
def L7(r:a6):Prop:=∃m:vP,gB r (.agg (gQ m))∧GA m
def NC(r:a6):Prop:=∃m:vP,r=.agg (gQ m)∧GA m
theorem L7.wkT:∀r,L7 r→∃r',gB r r'∧r'.clT=true∧NC r':=by
 rintro r ⟨s,hw,hs⟩
 exact⟨_,hw,rfl,s,rfl,hs⟩
theorem ZO{H H0 G:List aB}{ids:List Nat}{s p z o:ByteArray}{q:List rG}{a c:Int}(hH:H=H0++G)(hs:bM s)(hq:Fl m5 q)(hp:bM p)(hz:bM z)(ho:bM o):
  ∃r G,H=H0++G∧dV H 0 ids (.agg [.str s,.nil,PL q,.str p,.str z,.int .i64 a,.str o,.int .i64 c]) r∧r.clT=true∧L7 r :=
 ⟨_,_,hH,.closed _ rfl,rfl,⟨s,[],q,p,z,a,o,c⟩,.aggs (.cons (.refl _) (.cons (.nil _ _) (.cons (.refl _) (.cons (.refl _) (.cons (.refl _) (.cons (.refl _) (.cons (.refl _) (.cons (.refl _) .nil)))))))),hs,gA,hq,hp,hz,ho⟩
theorem sD{n:Int}(h0:0≤n)(h3:n<3){a b c:ByteArray}(ha:bM a)(hb:bM b)(hc:bM c):∃s,[[a6.str a],[a6.str b],[a6.str c]][n.toNat]?=some [.str s]∧bM s:=by
 obtain⟨s,h1,h2⟩:=VB h0 h3 a b c
 exact⟨s,h1,by rcases h2 with rfl|rfl|rfl<;>assumption⟩
theorem kN(a b:Nat):bM (bs [a,b]):=(by decide:(2:Nat)≤100000)
theorem XZ(a b c d:Nat):bM (bs [a,b,c,d]):=(by decide:(4:Nat)≤100000)
theorem CA{n:Int}(h0:0≤n):0≤n.tmod 3∧n.tmod 3<3:=⟨Int.tmod_nonneg _ h0,Int.tmod_lt_of_pos _ (by decide)⟩
set_option maxRecDepth 20000 in
set_option maxHeartbeats 4000000 in
theorem B7(h1:149=149)(h2:149=149)
  (g:Bool) (rels:List jE) (hn1:1≤rels.length) (hn2:rels.length≤1000) (hr:∀r∈rels,B2 r) (l:List Int) (hll:l.length≤1000000) (at':Int) (ha:0≤at') :
  cH pr 92 [i8 rels] [.int .i64 at',.sl 0 rels.length 0 rels.length,.list g 1 (iC l)] NC:=by
 obtain⟨n,hn⟩:∃n,n=E6 l 1:=⟨_,rfl⟩
 have hN:0≤n∧n≤131070:=by rw[hn];exact fI l 1
 have hat:aC pr 88 [.list g 1 (iC l),.int .i64 1] (fun r=>r=.int .i64 n):=by rw[hn];exact aC.of (jX g l 1)
 have hfl:Fl nH rels:=⟨by omega,fun r h=>(hr r h).1⟩
 have ha3:=CA ha
 obtain⟨s1,hs1,hf1⟩:=sD ha3.1 ha3.2 (kN 109 97) (kN 109 98) (kN 109 99)
 have hb3:=CA (iG hN.1 (by omega) (k:=16) (by decide)).1
 obtain⟨s2,hs2,hf2⟩:=sD hb3.1 hb3.2 r8 (XZ 101 97 115 116) (XZ 119 101 115 116)
 have hc3:=CA (iG hN.1 (by omega) (k:=7) (by decide)).1
 obtain⟨s3,hs3,hf3⟩:=sD hc3.1 hc3.2 (kN 122 48) (kN 122 49) (kN 122 50)
 have hq4:IntKind.i64.wrap (2+n.tmod 4)≤1000:=by
  have h3:0≤n.tmod 4:=Int.tmod_nonneg _ hN.1
  have h4:n.tmod 4<4:=Int.tmod_lt_of_pos _ (by decide)
  rw[aY _ (by omega) (by omega)];omega
 have low:=bP rels
 refine cH.weak ?_ L7.wkT
 refine bQ k92.has ⟨low _,trivial⟩ ?_
 repeat'(first|refine aT (hs1) ?_|refine aT (hs2) ?_|((conv=>whnf);first|((first|apply aC.use|apply aC.draw);exact hat;rintro r rfl)|((first|apply aC.use|apply aC.draw);exact TC g l 2 hll (by decide);rintro r ⟨y,l',rfl,hl'⟩)|(refine cH.use [0] (LJ h1 h2 y rels hn1 hn2 hr l' _ hq4) (by simp) rfl ⟨⟨_,rfl,.same (aV cG rels)⟩,trivial⟩ ⟨.sl 0 _ _ _,.closed _ rfl,.closed _ rfl,trivial⟩ (fun r hr=>?_);obtain⟨q,rfl,hq⟩:=hr)|((first|apply aC.use|apply aC.draw);exact tT;rintro r rfl)|(refine cH.use [0] (nR false false q rels QG hq hfl AV) (by simp) rfl ⟨⟨_,rfl,.same (aV cG rels)⟩,trivial⟩ ⟨.closed _ rfl,.sl 0 _ _ _,.closed _ rfl,trivial⟩ (fun r hr=>?_);obtain⟨L,e,rfl,hL,hLp⟩:=hr;have hw:IntKind.i64.wrap (((mC IH L).length:Int)-1)=L.length-1:=(by rw[aZ];exact aY ((L.length:Int)-1) (by omega) (by omega));rcases Decidable.em (e=0)with he|he;obtain⟨q1,q2,q3,q4⟩:=hLp he)|refine iP (by rw[hw];omega) (fun x hx hm=>?_)|refine And.intro ha3.1 ?_|refine And.intro hb3.1 ?_|refine And.intro hc3.1 ?_|refine And.intro (by(conv=>whnf);exact And.intro ha3.1 (aT hs1 rfl)) ?_|refine And.intro (by(conv=>whnf);exact And.intro hb3.1 (aT hs2 rfl)) ?_|refine And.intro (by(conv=>whnf);exact And.intro hc3.1 (aT hs3 rfl)) ?_|refine And.intro (by exact rfl) ?_|refine And.intro (by decide) ?_|refine aI ?_|refine oA ?_|refine oM fun x hx hm=>?_|((first|apply aK|apply aL|apply aM|apply aF|apply aE)<;>intro h<;>(try simp at h)<;>(try(exfalso;omega)))))
 any_goals((conv=>whnf);first|exact ZO (by exact rfl) hf1 hq r8 r8 hf2|fail)
 have hx1:=q3 x hm
 obtain⟨x1,x2,x3⟩:=hx1
 have hcx:=aW x
 conv=>whnf
 obtain⟨a,ha'⟩:∃a,a=(IntKind.i64.wrap (n.tdiv 4)).tmod 3:=⟨_,rfl⟩
 obtain⟨c,hc'⟩:∃c,c=IntKind.i64.wrap (1+(IntKind.i64.wrap (n.tdiv 64)).tmod 3):=⟨_,rfl⟩
 refine⟨fun m ρ H1=>∃(k:Nat) (p z:ByteArray),k+m=x.length∧bM p∧bM z∧H1=[i8 rels,.arr 8 [[.str (bs []),.nil,.nil,.str (bs []),.str (bs []),.int .i64 0,.str (bs []),.int .i64 0]],.arr 8 [[.str s1,.nil,PL q,.str p,.str z,.int .i64 a,.str s2,.int .i64 c]]]∧Sv 103 [(6,.ptr 1 1 0 0),(7,.int .i64 n),(8,.ptr 2 1 0 0),(11,cL x),(12,.int .i64 k)] ρ,x.length,[],fun i ρ H1=>i=0∧∃p z:ByteArray,bM p∧bM z∧H1=[i8 rels,.arr 8 [[.str (bs []),.nil,.nil,.str (bs []),.str (bs []),.int .i64 0,.str (bs []),.int .i64 0]],.arr 8 [[.str s1,.nil,PL q,.str p,.str z,.int .i64 a,.str s2,.int .i64 c]]]∧Sv 103 [(6,.ptr 1 1 0 0),(8,.ptr 2 1 0 0)] ρ,?_,?_,?_⟩
 ·exact⟨0,bs [],bs [],by omega,r8,r8,by rw[ha',hc'];rfl,Sv.intro rfl ⟨rfl,rfl,rfl,rfl,rfl,trivial⟩⟩
 ·rintro m ρ H1 ⟨k,p,z,hk,hp,hz,rfl,d,rfl⟩
  rcases Nat.lt_or_ge k x.length with hkx|hkx
  ·have hb:=GB (n:=IntKind.i64.wrap (n+k)) (m:=(cC x).length) (by rw[aY _ (by omega) (by omega)];omega) (by omega)
   obtain⟨y,hy0⟩:∃y,x[((IntKind.i64.wrap (n+k)).tmod ((cC x).length:Nat)).toNat]?=some y:=⟨_,List.getElem?_eq_getElem (by omega)⟩
   have hy:=iI hy0
   repeat'(first|refine aT (hy) ?_|refine aT (hs3) ?_|((conv=>whnf);first|refine And.intro hb ?_|refine And.intro ha3.1 ?_|refine And.intro hb3.1 ?_|refine And.intro hc3.1 ?_|refine And.intro (by(conv=>whnf);exact And.intro ha3.1 (aT hs1 rfl)) ?_|refine And.intro (by(conv=>whnf);exact And.intro hb3.1 (aT hs2 rfl)) ?_|refine And.intro (by(conv=>whnf);exact And.intro hc3.1 (aT hs3 rfl)) ?_|refine And.intro (by exact rfl) ?_|refine And.intro (by decide) ?_|refine aI ?_|refine oA ?_|refine oM fun x hx hm=>?_|((first|apply aK|apply aL|apply aM|apply aF|apply aE)<;>intro h<;>(try simp at h)<;>(try(exfalso;omega)))))
   any_goals((conv=>whnf);first|(refine⟨m-1,by omega,Gp.cutN (H:=[i8 rels,.arr 8 [[.str (bs []),.nil,.nil,.str (bs []),.str (bs []),.int .i64 0,.str (bs []),.int .i64 0]],.arr 8 [[.str s1,.nil,PL q,.str y.name,.str s3,.int .i64 a,.str s2,.int .i64 c]]]) rfl ⟨rfl,trivial⟩ ⟨low _,rfl,rfl,trivial⟩ rfl rfl ?_ fun ρ1 h=>⟨k+1,_,_,by omega,x3 _ (List.mem_of_getElem? hy0),hf3,rfl,h⟩⟩;exact⟨rfl,rfl,rfl,rfl,aN (dT (by omega)),trivial⟩)|(refine⟨m-1,by omega,Gp.cutN (H:=[i8 rels,.arr 8 [[.str (bs []),.nil,.nil,.str (bs []),.str (bs []),.int .i64 0,.str (bs []),.int .i64 0]],.arr 8 [[.str s1,.nil,PL q,.str p,.str z,.int .i64 a,.str s2,.int .i64 c]]]) rfl ⟨rfl,trivial⟩ ⟨low _,rfl,rfl,trivial⟩ rfl rfl ?_ fun ρ1 h=>⟨k+1,p,z,by omega,hp,hz,rfl,h⟩⟩;exact⟨rfl,rfl,rfl,rfl,aN (dT (by omega)),trivial⟩)|(refine Gp.cutN (H:=[i8 rels,.arr 8 [[.str (bs []),.nil,.nil,.str (bs []),.str (bs []),.int .i64 0,.str (bs []),.int .i64 0]],.arr 8 [[.str s1,.nil,PL q,.str p,.str z,.int .i64 a,.str s2,.int .i64 c]]]) rfl ⟨rfl,trivial⟩ ⟨low _,rfl,rfl,trivial⟩ rfl rfl ?_ fun ρ1 h=>⟨rfl,p,z,hp,hz,rfl,h⟩;exact⟨rfl,rfl,trivial⟩)|fail)
  ·repeat'((conv=>whnf);first|refine And.intro ha3.1 ?_|refine And.intro hb3.1 ?_|refine And.intro hc3.1 ?_|refine And.intro (by(conv=>whnf);exact And.intro ha3.1 (aT hs1 rfl)) ?_|refine And.intro (by(conv=>whnf);exact And.intro hb3.1 (aT hs2 rfl)) ?_|refine And.intro (by(conv=>whnf);exact And.intro hc3.1 (aT hs3 rfl)) ?_|refine And.intro (by exact rfl) ?_|refine And.intro (by decide) ?_|refine aI ?_|refine oA ?_|refine oM fun x hx hm=>?_|((first|apply aK|apply aL|apply aM|apply aF|apply aE)<;>intro h<;>(try simp at h)<;>(try(exfalso;omega))))
   any_goals((conv=>whnf);first|(refine Gp.cutN (H:=[i8 rels,.arr 8 [[.str (bs []),.nil,.nil,.str (bs []),.str (bs []),.int .i64 0,.str (bs []),.int .i64 0]],.arr 8 [[.str s1,.nil,PL q,.str p,.str z,.int .i64 a,.str s2,.int .i64 c]]]) rfl ⟨rfl,trivial⟩ ⟨low _,rfl,rfl,trivial⟩ rfl rfl ?_ fun ρ1 h=>⟨rfl,p,z,hp,hz,rfl,h⟩;exact⟨rfl,rfl,trivial⟩)|fail)
 ·rintro i ρ1 H1 ⟨rfl,p,z,hp,hz,rfl,dd,rfl⟩
  repeat'((conv=>whnf);first|refine aI ?_|refine oA ?_|refine oM fun x hx hm=>?_|((first|apply aK|apply aL|apply aM|apply aF|apply aE)<;>intro h<;>(try simp at h)<;>(try(exfalso;omega))))
  any_goals((conv=>whnf);first|exact ZO (by exact rfl) hf1 hq hp hz hf2|fail)
def ZI{α:Type}(f:α→List a6)(p:α→Prop)(e:List a6):Prop:=∃x:α,(e.length=(f x).length∧oQ e (f x))∧p x
theorem ZM{α:Type}{f:α→List a6}{p:α→Prop}(hf:∀x,(f x).all a6.isCell=true):∀{es:List (List a6)},(∀e∈es,ZI f p e)→∃q:List α,q.length=es.length∧rI es (mC f q)∧∀s∈q,p s
 |[],_=>⟨[],rfl,trivial,fun s h=>by simp at h⟩
 |e::es,h=>by
  obtain⟨q,h1,h2,h3⟩:=ZM hf fun e' he=>h e' (List.mem_cons_of_mem _ he)
  obtain⟨s,⟨h4,h5⟩,h6⟩:=h e (List.mem_cons_self ..)
  exact⟨s::q,by simp[h1],⟨⟨h4,hf s,h5⟩,h2⟩,fun x hx=>by
   rcases List.mem_cons.1 hx with rfl|hx
   ·exact h6
   ·exact h3 x hx⟩
theorem WQ{n:Int}(h0:0≤n)(s:Nat):0≤n.fdiv (2 ^ s)∧n.fdiv (2 ^ s)≤n:=by
 rw[Int.fdiv_eq_ediv_of_nonneg _ (Int.pow_nonneg (by omega))]
 exact⟨Int.ediv_nonneg h0 (Int.pow_nonneg (by omega)),Int.ediv_le_self _ h0⟩
abbrev YB(e:List a6):Prop:=ZI DC (fun s=>Q7 s∧Cz s.cols) e
theorem xY:Cz UH:=⟨by decide,by decide,fun c hc=>by
 simp only[UH,List.mem_cons,List.not_mem_nil,or_false]at hc
 rcases hc with rfl|rfl|rfl|rfl
 ·exact kN _ _
 ·exact(by decide:(1:Nat)≤100000)
 ·exact kN _ _
 ·exact(by decide:(1:Nat)≤100000)⟩
theorem LL:Cz W2:=⟨by decide,by decide,fun c hc=>by
 simp only[W2,List.mem_cons,List.not_mem_nil,or_false]at hc
 rcases hc with rfl|rfl|rfl|rfl
 ·exact(by decide:(1:Nat)≤100000)
 ·exact kN _ _
 ·exact(by decide:(1:Nat)≤100000)
 ·exact(by decide:(1:Nat)≤100000)⟩
theorem WV{nm z:ByteArray}{cs:List c8}{ks:List ByteArray}{a b:Int}(hn:bM nm)(hz:bM z)(hc:Cz cs)(hk:Fl bM ks):YB [.str nm,.list true 3 (cC cs),.list true 1 (sC ks),.str (bs [97,116]),.str z,.int .i64 a,.int .i64 b] :=
 ⟨⟨nm,cs,ks,bs [97,116],z,a,b⟩,⟨rfl,.cons (.refl _) (.cons (.lst rfl (cI _)) (.cons (.lst rfl (aO _)) (.cons (.refl _) (.cons (.refl _) (.cons (.refl _) (.cons (.refl _) .nil))))))⟩,⟨hn,⟨hc.le,hc.2.2⟩,hk,kN _ _,hz⟩,hc⟩
theorem YT:Fl bM [bs [105,100]]:=pV (kN _ _)
theorem YU:Fl bM [bs [99]]:=pV (by decide:(1:Nat)≤100000)
theorem YV:Fl bM [bs [105,100],bs [99]]:=⟨by decide,fun s hs=>by
 simp only[List.mem_cons,List.not_mem_nil,or_false]at hs
 rcases hs with rfl|rfl
 ·exact kN _ _
 ·exact(by decide:(1:Nat)≤100000)⟩
theorem YE:bM (bs [111,114,100,101,114,115]):=(by decide:(6:Nat)≤100000)
theorem Z2:bM (bs [99,117,115,116,111,109,101,114,115]):=(by decide:(9:Nat)≤100000)
theorem Z3:bM (bs [114,101,116,117,114,110,115]):=(by decide:(7:Nat)≤100000)
def VT(r:a6):Prop:=∃es:List (List a6),r=.list false 7 es∧(∀e∈es,YB e)∧es.length≤3
def X8(r:a6):Prop:=∃ss:List yP,r=.list false 7 (mC DC ss)∧Fl Q7 ss∧∀s∈ss,Cz s.cols
theorem VT.wk:∀r,VT r→∃r',gB r r'∧X8 r':=by
 rintro r ⟨es,rfl,h,hl⟩
 obtain⟨q,h1,h2,h3⟩:=ZM (fun _=>rfl) h
 exact⟨_,gB.rows h2,q,rfl,⟨by omega,fun s hs=>(h3 s hs).1⟩,fun s hs=>(h3 s hs).2⟩
set_option maxRecDepth 20000 in
set_option maxHeartbeats 4000000 in
theorem KN(n:Int)(h0:0≤n)(h9:n≤131070):aC pr 90 [.int .i64 n] X8:=by
 refine aC.weak ?_ VT.wk
 refine aH k90.has rfl ?_
 repeat'((conv=>whnf);first|((first|apply aC.use|apply aC.draw);exact(uF).frz rfl;rintro r ⟨es,rfl,rfl⟩)|refine aI ?_|refine oA ?_|refine oM fun x hx hm=>?_|((first|apply aK|apply aL|apply aM|apply aF|apply aE)<;>intro h<;>(try simp at h)<;>(try(exfalso;omega))))
 conv=>whnf
 refine⟨fun m ρ H1=>∃(k:Nat) (out:List (List a6)),k+m=3∧out.length=k∧(∀e∈out,YB e)∧bG out=true∧H1=[.arr 7 out]∧Sv 60 [(0,.int .i64 n),(3,.list false 4 (mC bS JW)),(4,.list true 1 [[.list true 1 [[.str (bs [105,100])]]],[.list true 1 [[.str (bs [99])]]],[.list true 1 [[.str (bs [105,100])],[.str (bs [99])]]]]),(5,.sl 0 out.length 0 out.length),(6,.int .i64 k)] ρ,3,[(5,7)],fun i ρ H1=>i=0∧∃out:List (List a6),out.length≤3∧(∀e∈out,YB e)∧bG out=true∧H1=[.arr 7 out]∧Sv 60 [(5,.sl 0 out.length 0 out.length)] ρ,?_,?_,?_⟩
 ·exact⟨0,[],by omega,rfl,(fun e h=>by simp at h),rfl,rfl,Sv.intro rfl ⟨rfl,rfl,rfl,rfl,rfl,trivial⟩⟩
 ·rintro m ρ H1 ⟨k,out,hk,ho,hes,hp,rfl,d,rfl⟩
  obtain rfl|rfl|rfl|rfl:k=0∨k=1∨k=2∨k=3:=by omega
  ·have hv:0≤(n.fdiv (2 ^ min (IntKind.u64.wrap (IntKind.i64.wrap (3*((0:Nat):Int)))).toNat IntKind.i64.bits))∧(n.fdiv (2 ^ min (IntKind.u64.wrap (IntKind.i64.wrap (3*((0:Nat):Int)))).toNat IntKind.i64.bits))≤n:=WQ h0 _
   have ha:=CA hv.1
   have hb:=CA (iG hv.1 (by omega) (k:=3) (by decide)).1
   have hc:0≤(IntKind.i64.wrap ((n.fdiv (2 ^ min (IntKind.u64.wrap (IntKind.i64.wrap (3*((0:Nat):Int)))).toNat IntKind.i64.bits)).tdiv 9)).tmod 4∧(IntKind.i64.wrap ((n.fdiv (2 ^ min (IntKind.u64.wrap (IntKind.i64.wrap (3*((0:Nat):Int)))).toNat IntKind.i64.bits)).tdiv 9)).tmod 4<4:=⟨Int.tmod_nonneg _ (iG hv.1 (by omega) (k:=9) (by decide)).1,Int.tmod_lt_of_pos _ (by decide)⟩
   obtain⟨s1,hs1,hf1⟩:=sD ha.1 ha.2 (kN 122 48) (kN 122 49) (kN 122 50)
   obtain⟨v1,hv1⟩:=CJ (vs:=[0,120,1440]) hb.1 hb.2
   obtain⟨v2,hv2⟩:=CJ (vs:=[0,600,2880,100000]) hc.1 hc.2
   repeat'(first|refine aT (hs1) ?_|refine aT (hv1) ?_|refine aT (hv2) ?_|((conv=>whnf);first|refine And.intro (by decide) ?_|refine And.intro ha.1 ?_|refine And.intro hb.1 ?_|refine And.intro hc.1 ?_|refine And.intro (⟨by simp[aQ];omega,by simp[aQ];omega,rfl,rfl⟩) ?_|refine b8 (eM rfl) ?_|refine aI ?_|refine oA ?_|refine oM fun x hx hm=>?_|((first|apply aK|apply aL|apply aM|apply aF|apply aE)<;>intro h<;>(try simp at h)<;>(try(exfalso;omega)))))
   any_goals((conv=>whnf);first|(refine⟨m-1,by omega,Gp.cut (H:=[.arr 7 (out++[_])]) rfl ⟨bU (jR hp rfl),trivial⟩ rfl rfl ?_ fun ρ1 h=>⟨1,_,by omega,by rw[List.length_append,ho];rfl,dF hes (WV (z:=s1) (a:=v1) (b:=v2) YE hf1 xY YT),jR hp rfl,rfl,h⟩⟩;exact⟨rfl,rfl,rfl,eS (by simp) (by simp),rfl,trivial⟩)|fail)
  ·have hv:0≤(n.fdiv (2 ^ min (IntKind.u64.wrap (IntKind.i64.wrap (3*((1:Nat):Int)))).toNat IntKind.i64.bits))∧(n.fdiv (2 ^ min (IntKind.u64.wrap (IntKind.i64.wrap (3*((1:Nat):Int)))).toNat IntKind.i64.bits))≤n:=WQ h0 _
   have ha:=CA hv.1
   have hb:=CA (iG hv.1 (by omega) (k:=3) (by decide)).1
   have hc:0≤(IntKind.i64.wrap ((n.fdiv (2 ^ min (IntKind.u64.wrap (IntKind.i64.wrap (3*((1:Nat):Int)))).toNat IntKind.i64.bits)).tdiv 9)).tmod 4∧(IntKind.i64.wrap ((n.fdiv (2 ^ min (IntKind.u64.wrap (IntKind.i64.wrap (3*((1:Nat):Int)))).toNat IntKind.i64.bits)).tdiv 9)).tmod 4<4:=⟨Int.tmod_nonneg _ (iG hv.1 (by omega) (k:=9) (by decide)).1,Int.tmod_lt_of_pos _ (by decide)⟩
   obtain⟨s1,hs1,hf1⟩:=sD ha.1 ha.2 (kN 122 48) (kN 122 49) (kN 122 50)
   obtain⟨v1,hv1⟩:=CJ (vs:=[0,120,1440]) hb.1 hb.2
   obtain⟨v2,hv2⟩:=CJ (vs:=[0,600,2880,100000]) hc.1 hc.2
   repeat'(first|refine aT (hs1) ?_|refine aT (hv1) ?_|refine aT (hv2) ?_|((conv=>whnf);first|refine And.intro (by decide) ?_|refine And.intro ha.1 ?_|refine And.intro hb.1 ?_|refine And.intro hc.1 ?_|refine And.intro (⟨by simp[aQ];omega,by simp[aQ];omega,rfl,rfl⟩) ?_|refine b8 (eM rfl) ?_|refine aI ?_|refine oA ?_|refine oM fun x hx hm=>?_|((first|apply aK|apply aL|apply aM|apply aF|apply aE)<;>intro h<;>(try simp at h)<;>(try(exfalso;omega)))))
   any_goals((conv=>whnf);first|(refine⟨m-1,by omega,Gp.cut (H:=[.arr 7 (out++[_])]) rfl ⟨bU (jR hp rfl),trivial⟩ rfl rfl ?_ fun ρ1 h=>⟨2,_,by omega,by rw[List.length_append,ho];rfl,dF hes (WV (z:=s1) (a:=v1) (b:=v2) Z2 hf1 LL YU),jR hp rfl,rfl,h⟩⟩;exact⟨rfl,rfl,rfl,eS (by simp) (by simp),rfl,trivial⟩)|fail)
  ·have hv:0≤(n.fdiv (2 ^ min (IntKind.u64.wrap (IntKind.i64.wrap (3*((2:Nat):Int)))).toNat IntKind.i64.bits))∧(n.fdiv (2 ^ min (IntKind.u64.wrap (IntKind.i64.wrap (3*((2:Nat):Int)))).toNat IntKind.i64.bits))≤n:=WQ h0 _
   have ha:=CA hv.1
   have hb:=CA (iG hv.1 (by omega) (k:=3) (by decide)).1
   have hc:0≤(IntKind.i64.wrap ((n.fdiv (2 ^ min (IntKind.u64.wrap (IntKind.i64.wrap (3*((2:Nat):Int)))).toNat IntKind.i64.bits)).tdiv 9)).tmod 4∧(IntKind.i64.wrap ((n.fdiv (2 ^ min (IntKind.u64.wrap (IntKind.i64.wrap (3*((2:Nat):Int)))).toNat IntKind.i64.bits)).tdiv 9)).tmod 4<4:=⟨Int.tmod_nonneg _ (iG hv.1 (by omega) (k:=9) (by decide)).1,Int.tmod_lt_of_pos _ (by decide)⟩
   obtain⟨s1,hs1,hf1⟩:=sD ha.1 ha.2 (kN 122 48) (kN 122 49) (kN 122 50)
   obtain⟨v1,hv1⟩:=CJ (vs:=[0,120,1440]) hb.1 hb.2
   obtain⟨v2,hv2⟩:=CJ (vs:=[0,600,2880,100000]) hc.1 hc.2
   repeat'(first|refine aT (hs1) ?_|refine aT (hv1) ?_|refine aT (hv2) ?_|((conv=>whnf);first|refine And.intro (by decide) ?_|refine And.intro ha.1 ?_|refine And.intro hb.1 ?_|refine And.intro hc.1 ?_|refine And.intro (⟨by simp[aQ];omega,by simp[aQ];omega,rfl,rfl⟩) ?_|refine b8 (eM rfl) ?_|refine aI ?_|refine oA ?_|refine oM fun x hx hm=>?_|((first|apply aK|apply aL|apply aM|apply aF|apply aE)<;>intro h<;>(try simp at h)<;>(try(exfalso;omega)))))
   any_goals((conv=>whnf);first|(refine⟨m-1,by omega,Gp.cut (H:=[.arr 7 (out++[_])]) rfl ⟨bU (jR hp rfl),trivial⟩ rfl rfl ?_ fun ρ1 h=>⟨3,_,by omega,by rw[List.length_append,ho];rfl,dF hes (WV (z:=s1) (a:=v1) (b:=v2) Z3 hf1 xY YV),jR hp rfl,rfl,h⟩⟩;exact⟨rfl,rfl,rfl,eS (by simp) (by simp),rfl,trivial⟩)|fail)
  ·repeat'((conv=>whnf);first|refine And.intro (by decide) ?_|refine aI ?_|refine oA ?_|refine oM fun x hx hm=>?_|((first|apply aK|apply aL|apply aM|apply aF|apply aE)<;>intro h<;>(try simp at h)<;>(try(exfalso;omega))))
   any_goals((conv=>whnf);first|(refine Gp.cut (H:=[.arr 7 out]) rfl ⟨bU hp,trivial⟩ rfl rfl ?_ fun ρ1 h=>⟨rfl,out,by omega,hes,hp,rfl,h⟩;exact⟨rfl,trivial⟩)|fail)
 ·rintro i ρ1 H1 ⟨rfl,out,ho,hes,hp,rfl,dd,rfl⟩
  conv=>whnf
  exact⟨_,sE rfl rfl rfl hp,out,rfl,hes,ho⟩
theorem sd:bM (bs [100]):=(by decide:(1:Nat)≤100000)
theorem sn:bM (bs [110]):=(by decide:(1:Nat)≤100000)
theorem sp:bM (bs [112]):=(by decide:(1:Nat)≤100000)
theorem XX:bM (bs [111,108,100]):=(by decide:(3:Nat)≤100000)
def UQ(z:ByteArray):vP:=⟨bs [114,117,110,110,105,110,103],[⟨bs [100],2,false⟩,⟨bs [110],2,false⟩,⟨bs [112],2,true⟩,⟨bs [111,108,100],2,true⟩],
 [⟨0,bs [111,114,100,101,114,115],[],[],[],[]⟩,⟨2,bs [],[],[],[⟨bs [100],0,bs [],0,[⟨1,⟨0,0,bs []⟩,bs [97,116],0⟩,⟨20,⟨0,0,bs []⟩,z,0⟩]⟩],[]⟩,
 ⟨11,bs [],[bs [100]],[],[⟨bs [110],1,bs [],0,[]⟩],[]⟩,
 ⟨2,bs [],[],[],[⟨bs [112],0,bs [],0,[⟨1,⟨0,0,bs []⟩,bs [100],0⟩,⟨0,⟨2,1,bs []⟩,bs [],0⟩,⟨5,⟨0,0,bs []⟩,bs [],0⟩]⟩],[]⟩,
 ⟨5,bs [115,101,108,102],[bs [112]],[bs [100]],[⟨bs [111,108,100],0,bs [110],0,[]⟩],[]⟩],bs [100],z,1,bs [],1⟩
theorem SW{z:ByteArray}(hz:bM z):GA (UQ z):=by
 refine⟨(by decide:(7:Nat)≤100000),⟨(by decide:(4:Nat)≤100000),fun c hc=>?_⟩,⟨(by decide:(5:Nat)≤100000),fun s hs=>?_⟩,sd,hz,r8⟩
 ·simp only[UQ,List.mem_cons,List.not_mem_nil,or_false]at hc
  rcases hc with rfl|rfl|rfl|rfl
  ·exact sd
  ·exact sn
  ·exact sp
  ·exact XX
 ·simp only[UQ,List.mem_cons,List.not_mem_nil,or_false]at hs
  rcases hs with rfl|rfl|rfl|rfl|rfl
  ·exact⟨YE,gA,gA,gA,gA⟩
  ·exact⟨r8,gA,gA,pV ⟨sd,r8,⟨by show(2:Nat)≤100000;decide,fun n hn=>by
    simp only[List.mem_cons,List.not_mem_nil,or_false]at hn
    rcases hn with rfl|rfl
    ·exact kN _ _
    ·exact hz⟩⟩,gA⟩
  ·exact⟨r8,pV sd,gA,pV ⟨sn,r8,gA⟩,gA⟩
  ·exact⟨r8,gA,gA,pV ⟨sp,r8,⟨by decide,fun n hn=>by
    simp only[List.mem_cons,List.not_mem_nil,or_false]at hn
    rcases hn with rfl|rfl|rfl
    ·exact sd
    ·exact r8
    ·exact r8⟩⟩,gA⟩
  ·exact⟨(by decide:(4:Nat)≤100000),pV sp,pV sd,pV ⟨XX,sn,gA⟩,gA⟩
theorem L7.wk:∀r,L7 r→∃r',gB r r'∧NC r':=by
 rintro r ⟨s,hw,hs⟩
 exact⟨_,hw,s,rfl,hs⟩
set_option maxRecDepth 20000 in
set_option maxHeartbeats 1000000 in
theorem zI(z:ByteArray)(hz:bM z):aC pr 95 [.str z] NC:=by
 refine aC.weak ?_ L7.wk
 refine aH k95.has rfl ?_
 conv=>whnf
 refine⟨_,.closed _ rfl,UQ z,?_,SW hz⟩
 refine gB.aggs ?_
 repeat'(first|exact gB.refl _|exact gB.nil _ _|exact gB.lst rfl rfl|refine oQ.cons ?_ ?_|exact oQ.nil|refine gB.rows ?_|refine And.intro ?_ ?_|exact trivial|exact rfl)
def TP(r:a6):Prop:=∃c:zQ,gB r (.agg (eN c))∧FQ c
def V4(r:a6):Prop:=∃c:zQ,r=.agg (eN c)∧FQ c
theorem TP.wkT:∀r,TP r→∃r',gB r r'∧r'.clT=true∧V4 r':=by
 rintro r ⟨s,hw,hs⟩
 exact⟨_,hw,rfl,s,rfl,hs⟩
theorem LS.f{l:List ByteArray}(h:Fl bM l):LS (sL l):=⟨l,.refl _,rfl,h⟩
theorem ZX{H H0 G:List aB}{ids:List Nat}{a t o:ByteArray}{kd lo hi l1 l2 l3 l4 po:Int}{C O E:a6}(hH:H=H0++G)(ha:bM a)(ht:bM t)(hC:LS C)(ho:bM o)(hO:LS O)(hE:LN E):
  ∃r G,H=H0++G∧dV H 0 ids (.agg [.str a,.str t,.int .i64 kd,C,.str o,O,.int .i64 lo,.int .i64 hi,E,.int .i64 l1,.int .i64 l2,.int .i64 l3,.int .i64 l4,.int .i64 po]) r∧r.clT=true∧TP r:=by
 obtain⟨cs,w1,p1,f1⟩:=hC
 obtain⟨os,w2,p2,f2⟩:=hO
 obtain⟨e,w3,p3,f3⟩:=hE
 have hcl:(a6.agg [.str a,.str t,.int .i64 kd,C,.str o,O,.int .i64 lo,.int .i64 hi,E,.int .i64 l1,.int .i64 l2,.int .i64 l3,.int .i64 l4,.int .i64 po]).closed=true:=by
  show[a6.str a,.str t,.int .i64 kd,C,.str o,O,.int .i64 lo,.int .i64 hi,E,.int .i64 l1,.int .i64 l2,.int .i64 l3,.int .i64 l4,.int .i64 po].all a6.isPure=true
  simp only[List.all_cons,p1,p2,p3,List.all_nil]
  rfl
 refine⟨_,_,hH,.closed _ hcl,hcl,⟨a,t,kd,cs,o,os,lo,hi,e,l1,l2,l3,l4,po⟩,.aggs ?_,ha,ht,f1,ho,f2,f3⟩
 repeat'(first|exact gB.refl _|exact oQ.nil|refine oQ.cons ?_ ?_|assumption)
theorem WN{n:Int}(h0:0≤n)(h4:n<4){a b c d:ByteArray}(ha:bM a)(hb:bM b)(hc:bM c)(hd:bM d):∃s,[[a6.str a],[a6.str b],[a6.str c],[a6.str d]][n.toNat]?=some [.str s]∧bM s:=by
 obtain h|h|h|h:n=0∨n=1∨n=2∨n=3:=by omega
 all_goals subst h
 ·exact⟨a,rfl,ha⟩
 ·exact⟨b,rfl,hb⟩
 ·exact⟨c,rfl,hc⟩
 ·exact⟨d,rfl,hd⟩
set_option maxRecDepth 20000 in
set_option maxHeartbeats 8000000 in
theorem pN(h1:149=149)(h2:149=149)
  (g:Bool) (rels:List jE) (hn1:1≤rels.length) (hn2:rels.length≤1000) (hr:∀r∈rels,B2 r) (l:List Int) (at':Int) (ha:0≤at') :
  cH pr 96 [i8 rels] [.int .i64 at',.sl 0 rels.length 0 rels.length,.list g 1 (iC l)] V4:=by
 obtain⟨n,hn⟩:∃n,n=E6 l 0:=⟨_,rfl⟩
 obtain⟨k,hk⟩:∃k,k=E6 l 1:=⟨_,rfl⟩
 have hN:0≤n∧n≤131070:=by rw[hn];exact fI l 0
 have hK:0≤k∧k≤131070:=by rw[hk];exact fI l 1
 have hat0:aC pr 88 [.list g 1 (iC l),.int .i64 0] (fun r=>r=.int .i64 n):=by rw[hn];exact aC.of (jX g l 0)
 have hat1:aC pr 88 [.list g 1 (iC l),.int .i64 1] (fun r=>r=.int .i64 k):=by rw[hk];exact aC.of (jX g l 1)
 have hbn:=GB (n:=n) (m:=rels.length) hN.1 hn1
 have hbk:=GB (n:=k) (m:=rels.length) hK.1 hn1
 obtain⟨tb,ht0⟩:∃r,rels[(n.tmod (rels.length:Nat)).toNat]?=some r:=⟨_,List.getElem?_eq_getElem (by omega)⟩
 obtain⟨ot,ho0⟩:∃r,rels[(k.tmod (rels.length:Nat)).toNat]?=some r:=⟨_,List.getElem?_eq_getElem (by omega)⟩
 have htb:=hr _ (List.mem_of_getElem? ht0)
 have hot:=hr _ (List.mem_of_getElem? ho0)
 have htm:(mC bS rels)[0+(n.tmod (rels.length:Nat)).toNat]?=some (bS tb):=by rw[Nat.zero_add];exact oZ ht0
 have hom:(mC bS rels)[0+(k.tmod (rels.length:Nat)).toNat]?=some (bS ot):=by rw[Nat.zero_add];exact oZ ho0
 have ha4:0≤at'.tmod 4∧at'.tmod 4<4:=⟨Int.tmod_nonneg _ ha,Int.tmod_lt_of_pos _ (by decide)⟩
 obtain⟨s1,hs1,hf1⟩:=WN ha4.1 ha4.2 (kN 99 97) (kN 99 98) (kN 99 99) (kN 99 100)
 obtain⟨⟨t1,t2⟩,t3,t4,t5⟩:=htb
 obtain⟨⟨o1,o2⟩,o3,o4,o5⟩:=hot
 have hE2:=BJ h1 h2 tb.ec g tb.cols (by omega) t5 l (d:=2) (.inr rfl)
 have hE1:=BJ h1 h2 tb.ec g tb.cols (by omega) t5 l (d:=1) (.inl rfl)
 have low:=bP rels
 refine cH.weak ?_ TP.wkT
 refine bQ k96.has ⟨low _,trivial⟩ ?_
 repeat'(first|refine aT (htm) ?_|refine aT (hom) ?_|refine aT (hs1) ?_|((conv=>whnf);first|((first|apply aC.use|apply aC.draw);exact hat0;rintro r rfl)|((first|apply aC.use|apply aC.draw);exact hat1;rintro r rfl)|((first|apply aC.use|apply aC.draw);exact KM tb.ec tb.cols t3 (by omega) t5 _ (by first|exact hK.1|exact(iG hK.1 (by omega) (by decide)).1|fail) (by first|omega|exact Int.le_trans (iG hK.1 (by omega) (by decide)).2 (by omega)|fail);rintro r ⟨ns,rfl,hns1,hns2⟩)|((first|apply aC.use|apply aC.draw);exact p7 tb.ec tb.cols t3 (by omega) t5 _ (by first|exact hK.1|exact(iG hK.1 (by omega) (by decide)).1|fail);rintro r ⟨s2,rfl,hs2⟩)|((first|apply aC.use|apply aC.draw);exact p7 ot.ec ot.cols o3 (by omega) o5 _ (by first|exact hK.1|exact(iG hK.1 (by omega) (by decide)).1|fail);rintro r ⟨s3,rfl,hs3⟩)|((first|apply aC.use|apply aC.draw);exact C4 tb.ec _ tb.cols ⟨t3,t4,t5⟩ ot ⟨⟨o1,o2⟩,o3,o4,o5⟩ _ (by first|exact hK.1|exact(iG hK.1 (by omega) (by decide)).1|fail) (by first|omega|exact Int.le_trans (iG hK.1 (by omega) (by decide)).2 (by omega)|fail);rintro r ⟨sj,rfl,hsj⟩)|((first|apply aC.use|apply aC.draw);exact(hE2 _ 2 (by decide)).frz rfl;rintro r ⟨es,rfl,e,rfl,he⟩)|((first|apply aC.use|apply aC.draw);exact(hE1 _ 2 (by decide)).frz rfl;rintro r ⟨es,rfl,e,rfl,he⟩)|refine And.intro hbn ?_|refine And.intro hbk ?_|refine And.intro hbn.1 ?_|refine And.intro hbk.1 ?_|refine And.intro ha4.1 ?_|refine And.intro (by(conv=>whnf);exact And.intro ha4.1 (aT hs1 rfl)) ?_|refine And.intro (show qS _ _ _ _ _ from by repeat' first|refine aT hom ?_|refine aT htm ?_|((conv=>whnf);done)|((conv=>whnf);first|refine b8 (eM (aZ bS rels).symm) ?_|refine And.intro hbk ?_|refine And.intro hbn ?_|exact rfl)) ?_|refine b8 ((bX _)) ?_|refine b8 (eM (aZ bS rels).symm) ?_|refine And.intro (by exact rfl) ?_|refine And.intro (by decide) ?_|refine aI ?_|refine oA ?_|refine oM fun x hx hm=>?_|((first|apply aK|apply aL|apply aM|apply aF|apply aE)<;>intro h<;>(try simp at h)<;>(try(exfalso;omega)))))
 any_goals((conv=>whnf);first|exact ZX (by exact rfl) hf1 t1 (by first|exact LS.nil|exact LS.l (by assumption) (by assumption)|exact LS.one (by assumption)|exact LS.f hsj.2.1|exact LS.f hsj.2.2.1|fail) (by first|exact r8|exact o1|fail) (by first|exact LS.nil|exact LS.l (by assumption) (by assumption)|exact LS.one (by assumption)|exact LS.f hsj.2.1|exact LS.f hsj.2.2.1|fail) (by first|exact LV.nil|exact LN.l (by assumption) (by decide)|fail)|fail)
theorem cH.args{P:Program}{f:FuncId}{H0:List aB}{vs ws:List a6}{S:a6→Prop}(h:cH P f H0 ws S)(hw:oQ vs ws):cH P f H0 vs S:=by
 obtain⟨r,h1,h2,h3⟩:=h
 exact⟨r,h1,h2,a7.weakD h3 hw⟩
set_option maxRecDepth 20000 in
set_option maxHeartbeats 1000000 in
theorem yY(f:Bool)(l:List jE)(hl:l.length≤100000)(nm:ByteArray):aC pr 94 [.list f 4 (mC bS l),.str nm] (Y8 l nm):=by
 refine aC.weak (S:=fun r=>Y8 l nm r∨(r=.tuple [.agg [.str (bs []),.nil,.nil,.nil],.bool false]∧∀y∈l,y.name≠nm)) ?_ (by
  rintro r (⟨x,b,rfl,h⟩|⟨rfl,h⟩)
  ·exact⟨_,.refl _,x,b,rfl,h⟩
  ·exact⟨_,.tuples (.cons (.aggs (.cons (.refl _) (.cons (.nil _ _) (.cons (.refl _) (.cons (.refl _) .nil))))) (.cons (.refl _) .nil)),VG,false,rfl,(fun h=>by cases h),fun _=>⟨rfl,h⟩⟩)
 refine aH k94.has rfl ?_
 conv=>whnf
 refine⟨fun m ρ H1=>∃(k:Nat),k+m=l.length∧(∀y∈l.take k,y.name≠nm)∧H1=[.arr 4 [[.str (bs []),.nil,.nil,.nil]]]∧Sv 25 [(0,.list f 4 (mC bS l)),(1,.str nm),(4,.ptr 0 1 0 0),(6,.int .i64 k)] ρ,l.length,[],
  fun i ρ H1=>i=0∧(∀y∈l,y.name≠nm)∧H1=[.arr 4 [[.str (bs []),.nil,.nil,.nil]]]∧Sv 25 [(4,.ptr 0 1 0 0)] ρ,?_,?_,?_⟩
 ·exact⟨0,by omega,by simp,rfl,Sv.intro rfl ⟨rfl,rfl,rfl,rfl,trivial⟩⟩
 ·rintro m ρ H1 ⟨k,hk,hv,rfl,d,rfl⟩
  have nxt:∀{y:jE},l[((k:Int)).toNat]?=some y→y.name≠nm→∀s∈l.take (k+1),s.name≠nm:=fun{y} hy hvy s hsm=>by
   rw[Int.toNat_natCast]at hy
   rw[lB hy]at hsm
   rcases List.mem_append.1 hsm with h|h
   ·exact hv s h
   ·simp at h;subst h;exact hvy
  repeat'((conv=>whnf);first|refine b8 ((bX _)) ?_|refine aI ?_|refine oA ?_|refine oM fun x hx hm=>?_|((first|apply aK|apply aL|apply aM|apply aF|apply aE)<;>intro h<;>(try simp at h)))
  any_goals((conv=>whnf);first|exact⟨_,dU (.closed _ (jN _)) (.closed _ rfl),.inl ⟨_,true,rfl,(fun _=>⟨by assumption,ByteArray.ext (by assumption)⟩),fun h=>by cases h⟩⟩|(refine⟨m-1,by omega,Gp.cut (H:=[.arr 4 [[.str (bs []),.nil,.nil,.nil]]]) rfl ⟨rfl,trivial⟩ rfl rfl ?_ fun ρ1 h=>⟨k+1,by omega,nxt (by first|assumption|(rw[←Nat.zero_add ((k:Int)).toNat];assumption)|fail) (fun hh=>absurd (congrArg ByteArray.data hh) (by assumption)),rfl,h⟩⟩;exact⟨rfl,rfl,rfl,aN (dT (by omega)),trivial⟩)|(refine Gp.cut (H:=[.arr 4 [[.str (bs []),.nil,.nil,.nil]]]) rfl ⟨rfl,trivial⟩ rfl rfl ?_ fun ρ1 h=>⟨rfl,by rwa [List.take_of_length_le (by omega)]at hv,rfl,h⟩;exact⟨rfl,trivial⟩)|fail)
 ·rintro i ρ1 H1 ⟨rfl,hv,rfl,d,rfl⟩
  conv=>whnf
  exact⟨_,dU (.closed _ rfl) (.closed _ rfl),.inr ⟨rfl,hv⟩⟩
abbrev cE(ss:List yP)(V N C:a6):List a6:=[Y6 QG,.list false 7 (mC DC ss),.nil,V,N,C]
abbrev TL:aB:=.arr 6 [[.nil,.nil,.nil,.nil,.nil,.nil]]
abbrev QJ(ss:List yP)(rels:List jE)(N C:a6):List aB:=[TL,.arr 6 [cE ss .nil N C],i8 rels]
abbrev LW(ss:List yP)(rels:List jE)(ms:List vP)(N C:a6):List aB:=[TL,.arr 6 [cE ss (.sl 3 ms.length 0 ms.length) N C],i8 rels,.arr 8 (mC gQ ms)]
theorem w7{σ:Nat→Nat}{ss:List yP}{N C:a6}{k id n m:Nat}(hk:σ k=id)(hn:n=m)(hN:N.isPure=true)(hC:C.isPure=true):jK σ (.agg (cE ss (.sl k n 0 n) N C)) (.agg (cE ss (.sl id m 0 m) N C)):=by
 refine .agg _ _ rfl fun i v r h1 h2=>?_
 rcases i with _|_|_|_|_|_|i
 ·cases h1;cases h2;exact .closed _ rfl
 ·cases h1;cases h2;exact .closed _ rfl
 ·cases h1;cases h2;exact .closed _ rfl
 ·cases h1;cases h2;exact r6 hk hn hn
 ·cases h1;cases h2;exact .closed _ (a6.closed_of_pure hN)
 ·cases h1;cases h2;exact .closed _ (a6.closed_of_pure hC)
 ·simp at h1
structure xD(ss:List yP)(ms:List vP)(N C:a6)(ns:List KX)(cs:List zQ):Prop where
 s:Fl Q7 ss
 z:∀s∈ss,Cz s.cols
 m:Fl GA ms
 wn:gB N (.list false 2 (mC T8 ns))
 pn:N.isPure=true
 fn:Fl WU ns
 wc:gB C (.list false 14 (mC eN cs))
 pc:C.isPure=true
 fc:Fl FQ cs
theorem xD.F{ss:List yP}{ms:List vP}{N C:a6}{ns:List KX}{cs:List zQ}(h:xD ss ms N C ns cs):(⟨QG,ss,[],ms,ns,cs⟩:rA).F:=⟨AV,h.s,gA,h.m,h.fn,h.fc⟩
theorem xD.w{ss:List yP}{ms:List vP}{N C V:a6}{ns:List KX}{cs:List zQ}(h:xD ss ms N C ns cs):oQ [.agg (cE ss V N C)] [.agg [Y6 QG,.list false 7 (mC DC ss),.list false 3 (mC XL []),V,.list false 2 (mC T8 ns),.list false 14 (mC eN cs)]] :=
 .cons (.aggs (.cons (.refl _) (.cons (.refl _) (.cons (.nil _ _) (.cons (.refl _) (.cons h.wn (.cons h.wc .nil))))))) .nil
theorem tL{ss:List yP}{ms:List vP}{N C:a6}{ns:List KX}{cs:List zQ}(h:xD ss ms N C ns cs):
  cH pr 32 [.arr 8 (mC gQ ms)] [.agg (cE ss (.sl 0 ms.length 0 ms.length) N C)] (VQ ⟨QG,ss,[],ms,ns,cs⟩) :=
 (uD ⟨QG,ss,[],ms,ns,cs⟩ h.F rfl h.z).args h.w
theorem qR{ss:List yP}{ms:List vP}{N C:a6}{ns:List KX}{cs:List zQ}(h:xD ss ms N C ns cs):
  cH pr 97 [.arr 8 (mC gQ ms)] [.agg (cE ss (.sl 0 ms.length 0 ms.length) N C)] L6 :=
 (DG ⟨QG,ss,[],ms,ns,cs⟩ h.F rfl h.z).args h.w
theorem Gp.dfs{n:Nat}{live:List (Nat×a6)}{ρ:List a6}{H':List aB}{I:List a6→List aB→Prop}{ss:List yP}{rels:List jE}{ms:List vP}{N C:a6}{id m:Nat}{es er:List (List a6)}(h0:H'[0]?=Option.some TL)(h1:H'[1]?=Option.some (.arr 6 [cE ss (.sl id m 0 m) N C]))(h2:H'[2]?=Option.some (.arr 4 er))(h3:H'[id]?=Option.some (.arr 8 es))(he:es=mC gQ ms)(hr:er=mC bS rels)(hm:m=ms.length)(hid:3≤id)
  (hN:N.isPure=true) (hC:C.isPure=true) (hl:ρ.length=n) (h:lL H' [0,1,2,id] ρ live) (hI:∀ρ1,Sv n live ρ1→I ρ1 (LW ss rels ms N C)):Gp [] ρ H' I:=by
 subst he hm hr
 refine Gp.keepL (H1:=LW ss rels ms N C) [0,1,2,id] (by simp;omega) dO ⟨⟨_,h0,.same _ _ rfl⟩,⟨_,h1,iN ?_⟩,⟨_,h2,.same _ _ (aV cG _)⟩,⟨_,h3,.same _ _ (aV eD _)⟩,trivial⟩ hl h hI
 exact⟨dJ rfl,dJ rfl,dJ rfl,hZ rfl rfl,dJ hN,dJ hC,trivial⟩
end Go.AW
