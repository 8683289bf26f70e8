/-
  An abstract machine over the model, the code of functions on it, and their contracts: what the claim needs.
  No condition: definitions, plain laws, contracts over any program that has this code.
-/
import Derived.Test.YtbjodpkinpnebaaGreatY7
set_option linter.all false
namespace Go.AW
variable [dK]
attribute [local irreducible] a7 bH oL Gp
def m8(p:ByteArray×ByteArray):List a6:=[.str p.1,.str p.2]
theorem fC(p:ByteArray×ByteArray):(m8 p).all a6.isPure=true:=rfl
def Y5(l:List (ByteArray×ByteArray)):a6:=.list false 2 (mC m8 l)
def VG(r:a6):Prop:=∃(s:ByteArray) (b:Bool),r=.tuple [.str s,.bool b]
def Y7(r:a6):Prop:=∃s:ByteArray,r=.str s
theorem mN(x:Bool)(l:List (ByteArray×ByteArray))(hl:l.length≤9000000)(c:ByteArray):aC pr 197 [.list x 2 (mC m8 l),.str c] VG:=by
 refine aH k197.has rfl ?_
 conv=>whnf
 refine⟨fun m ρ H1=>∃k:Nat,k+m=l.length∧H1=[]∧Sv 25 [(0,.list x 2 (mC m8 l)),(1,.str c),(6,.int .i64 k)] ρ,l.length,[],fun i ρ H1=>i=0∧H1=[]∧Sv 25 [(1,.str c)] ρ,?_,?_,?_⟩
 ·exact⟨0,Nat.zero_add _,rfl,Sv.intro rfl ⟨rfl,rfl,rfl,trivial⟩⟩
 ·rintro m ρ H1 ⟨k,hk,rfl,d,rfl⟩
  repeat'((conv=>whnf);first|refine b4 (eL (aZ m8 l).symm) ?_|refine aI ?_|refine oA ?_|refine oM fun x hx hm=>?_|((first|apply aK|apply aL|apply aM|apply aF|apply aE)<;>intro h<;>(try simp at h)))
  any_goals((conv=>whnf);first|exact⟨_,dP (.closed _ rfl) (.closed _ rfl),_,_,rfl⟩|(refine⟨m-1,by omega,Gp.cut (H:=[]) rfl trivial rfl rfl ?_ fun ρ1 h=>⟨k+1,by omega,rfl,h⟩⟩;exact⟨rfl,rfl,aN (dX (by omega)),trivial⟩)|(refine Gp.cut (H:=[]) rfl trivial rfl rfl ?_ fun ρ1 h=>⟨rfl,rfl,h⟩;exact⟨rfl,trivial⟩))
 ·rintro i ρ1 H1 ⟨rfl,rfl,d,rfl⟩
  conv=>whnf
  exact⟨_,dP (.closed _ rfl) (.closed _ rfl),_,_,rfl⟩
set_option maxRecDepth 20000 in
set_option maxHeartbeats 1000000 in
theorem FN(f1 f2:Bool)(e:List oN)(he:e.length≤1000000)(cs:List c8)(hc:cs.length≤100000)(z:ByteArray):aC pr 247 [.list f1 6 (mC fZ e),.list f2 3 (cC cs),.str z] Y7:=by
 refine aH k247.has rfl ?_
 rcases e with _|⟨n0,_|⟨n1,e⟩⟩
 repeat'((conv=>whnf);first|((first|apply aC.use|apply aC.draw);exact aC.of (bB f2 cs (by omega) _);rintro r rfl)|refine iQ (dB cs _ (by assumption)) (fun y hy hm=>?_)|refine And.intro (by assumption) ?_|refine aI ?_|refine oA ?_|refine oM fun x hx hm=>?_|((first|apply aK|apply aL|apply aM|apply aF|apply aE)<;>intro h<;>(try simp at h)<;>(try(exfalso;omega))))
 any_goals((conv=>whnf);first|exact⟨_,.closed _ rfl,_,rfl⟩)
def TI(N:Nat)(r:a6):Prop:=∃l:List (ByteArray×ByteArray),gG r (Y5 l)∧l.length≤N
def WT(N:Nat)(r:a6):Prop:=∃l:List (ByteArray×ByteArray),r=Y5 l∧l.length≤N
theorem TI.wk{N:Nat}:∀r,TI N r→∃r',gG r r'∧WT N r':=by
 rintro r ⟨l,hw,hl⟩
 exact⟨_,hw,l,rfl,hl⟩
theorem S7{N:Nat}{H:List aB}{id n:Nat}(l:List (ByteArray×ByteArray))(ho:H[id]?=some (.arr 2 (mC m8 l)))(hn:n=l.length)(hl:l.length≤N):∃r,dV H 0 [] (.sl id n 0 n) r∧TI N r :=
 ⟨_,qH ho (by rw[hn];simp) (by rw[hn];simp) (aV fC l),l,.refl _,hl⟩
set_option maxRecDepth 20000 in
set_option maxHeartbeats 4000000 in
theorem BY(f1 f2 f3:Bool)(s:rC)(hs:lZ s)(prx:List (ByteArray×ByteArray))(hp:prx.length≤5000000)(cs rs:List c8)(hc:cs.length≤100000)(hr:rs.length≤100000)(zn:ByteArray):
  aC pr 196 [.agg (cD s),.list f1 2 (mC m8 prx),.list f2 3 (cC cs),.list f3 3 (cC rs),.str zn] (WT (prx.length+100000)):=by
 obtain⟨h1,h2,h3,hi,_⟩:=hs
 have hil:=hi.1
 have hnl:=h2.1
 obtain⟨op,src,names,others,items,cnd⟩:=s
 dsimp only at h1 h2 h3 hi hil hnl
 refine aC.weak ?_ TI.wk
 refine aH k196.has rfl ?_
 rcases Decidable.em (op=0)with rfl|hn0
 ·conv=>whnf
  refine⟨fun m ρ H1=>∃(k:Nat) (out:List (ByteArray×ByteArray)),k+m=rs.length∧out.length≤k∧H1=[.arr 6 [cD ⟨0,src,names,others,items,cnd⟩],.arr 2 (mC m8 out)]∧Sv 170 [(3,.list f3 3 (cC rs)),(11,.sl 1 out.length 0 out.length),(12,.int .i64 k)] ρ,rs.length,[(11,2)],fun i ρ H1=>i=1∧∃out:List (ByteArray×ByteArray),out.length≤prx.length+100000∧H1=[.arr 6 [cD ⟨0,src,names,others,items,cnd⟩],.arr 2 (mC m8 out)]∧Sv 170 [(11,.sl 1 out.length 0 out.length)] ρ,?_,?_,?_⟩
  ·exact⟨0,[],by omega,by simp,rfl,Sv.intro rfl ⟨rfl,rfl,rfl,trivial⟩⟩
  ·rintro m ρ H1 ⟨k,out,hk,ho,rfl,d,rfl⟩
   repeat'((conv=>whnf);first|refine And.intro (⟨by simp[aQ];omega,by simp[aQ];omega,rfl,(aZ m8 out).symm⟩) ?_|refine b4 (eL (aZ m8 out).symm) ?_|refine aI ?_|refine oA ?_|refine oM fun x hx hm=>?_|((first|apply aK|apply aL|apply aM|apply aF|apply aE)<;>intro h<;>(try simp at h)<;>(try(exfalso;omega))))
   any_goals((conv=>whnf);first|(refine⟨m-1,by omega,Gp.cut (H:=[.arr 6 [cD ⟨0,src,names,others,items,cnd⟩],.arr 2 (mC m8 (out++[(x.name,x.name)]))]) (by rw[dD];rfl) ⟨rfl,bV (aV fC _),trivial⟩ rfl rfl ?_ fun ρ1 h=>⟨k+1,_,by omega,by simp;omega,rfl,h⟩⟩;exact⟨rfl,eQ (by simp) (by simp),aN (dX (by omega)),trivial⟩)|(refine⟨m-1,by omega,Gp.cut (H:=[.arr 6 [cD ⟨0,src,names,others,items,cnd⟩],.arr 2 (mC m8 out)]) rfl ⟨rfl,bV (aV fC _),trivial⟩ rfl rfl ?_ fun ρ1 h=>⟨k+1,_,by omega,by omega,rfl,h⟩⟩;exact⟨rfl,rfl,aN (dX (by omega)),trivial⟩)|(refine Gp.cut (H:=[.arr 6 [cD ⟨0,src,names,others,items,cnd⟩],.arr 2 (mC m8 out)]) rfl ⟨rfl,bV (aV fC _),trivial⟩ rfl rfl ?_ fun ρ1 h=>⟨rfl,out,by omega,rfl,h⟩;exact⟨rfl,trivial⟩))
  ·rintro i ρ1 H1 ⟨rfl,out,ho,rfl,d,rfl⟩
   conv=>whnf
   exact S7 out rfl rfl ho
 rcases Decidable.em (op=2)with rfl|hn2
 ·repeat'((conv=>whnf);first|refine And.intro (⟨by simp[aQ];omega,by simp[aQ];omega⟩) ?_|refine aI ?_|refine oA ?_|refine oM fun x hx hm=>?_|((first|apply aK|apply aL|apply aM|apply aF|apply aE)<;>intro h<;>(try simp at h)<;>(try(exfalso;omega))))
  conv=>whnf
  refine⟨fun m ρ H1=>∃(k:Nat) (out:List (ByteArray×ByteArray)),k+m=items.length∧out.length≤prx.length+k∧H1=[.arr 6 [cD ⟨2,src,names,others,items,cnd⟩],.arr 2 (mC m8 out)]∧Sv 170 [(1,.list f1 2 (mC m8 prx)),(2,.list f2 3 (cC cs)),(4,.str zn),(5,.ptr 0 1 0 0),(11,.sl 1 out.length 0 out.length),(13,.int .i64 k)] ρ,items.length,[],fun i ρ H1=>i=3∧∃out:List (ByteArray×ByteArray),out.length≤prx.length+100000∧H1=[.arr 6 [cD ⟨2,src,names,others,items,cnd⟩],.arr 2 (mC m8 out)]∧Sv 170 [(11,.sl 1 out.length 0 out.length)] ρ,?_,?_,?_⟩
  ·exact⟨0,prx,by omega,by omega,rfl,Sv.intro rfl ⟨rfl,rfl,rfl,rfl,eQ (by simp) (by simp),rfl,trivial⟩⟩
  ·rintro m ρ H1 ⟨k,out,hk,ho,rfl,d,rfl⟩
   repeat'((conv=>whnf);first|refine iQ (show _<items.length by omega) (fun x hx hm=>?_)|((first|apply aC.use|apply aC.draw);exact FN false f2 _ (Nat.le_trans (hi.2 _ (by assumption)).2.2.1 (by decide)) cs hc zn;rintro r ⟨c,rfl⟩)|((first|apply aC.use|apply aC.draw);exact mN f1 prx (by omega) _;rintro r ⟨a,b,rfl⟩)|refine And.intro (⟨by simp[aQ];omega,by simp[aQ];omega,rfl,(aZ m8 out).symm⟩) ?_|refine b4 (eL (aZ m8 out).symm) ?_|refine aI ?_|refine oA ?_|refine oM fun x hx hm=>?_|((first|apply aK|apply aL|apply aM|apply aF|apply aE)<;>intro h<;>(try simp at h)<;>(try(exfalso;omega))))
   any_goals((conv=>whnf);first|(refine⟨m-1,by omega,Gp.cut (H:=[.arr 6 [cD ⟨2,src,names,others,items,cnd⟩],.arr 2 (mC m8 (out++[(a,x.name)]))]) (by rw[dD];rfl) ⟨rfl,bV (aV fC _),trivial⟩ rfl rfl ?_ fun ρ1 h=>⟨k+1,_,by omega,by simp;omega,rfl,h⟩⟩;exact⟨rfl,rfl,rfl,rfl,eQ (by simp) (by simp),aN (dX (by omega)),trivial⟩)|(refine⟨m-1,by omega,Gp.cut (H:=[.arr 6 [cD ⟨2,src,names,others,items,cnd⟩],.arr 2 (mC m8 out)]) rfl ⟨rfl,bV (aV fC _),trivial⟩ rfl rfl ?_ fun ρ1 h=>⟨k+1,_,by omega,by omega,rfl,h⟩⟩;exact⟨rfl,rfl,rfl,rfl,rfl,aN (dX (by omega)),trivial⟩)|(refine Gp.cut (H:=[.arr 6 [cD ⟨2,src,names,others,items,cnd⟩],.arr 2 (mC m8 out)]) rfl ⟨rfl,bV (aV fC _),trivial⟩ rfl rfl ?_ fun ρ1 h=>⟨rfl,out,by omega,rfl,h⟩;exact⟨rfl,trivial⟩))
  ·rintro i ρ1 H1 ⟨rfl,out,ho,rfl,d,rfl⟩
   conv=>whnf
   exact S7 out rfl rfl ho
 rcases Decidable.em (op=3∨op=11)with h311|hn3
 ·rcases h311 with rfl|rfl
  ·conv=>whnf
   refine⟨fun m ρ H1=>∃(k:Nat) (out:List (ByteArray×ByteArray)),k+m=prx.length∧out.length≤k∧H1=[.arr 6 [cD ⟨3,src,names,others,items,cnd⟩],.arr 2 (mC m8 out)]∧Sv 170 [(1,.list f1 2 (mC m8 prx)),(5,.ptr 0 1 0 0),(11,.sl 1 out.length 0 out.length),(16,.int .i64 k)] ρ,prx.length,[(11,2)],fun i ρ H1=>i=5∧∃out:List (ByteArray×ByteArray),out.length≤prx.length+100000∧H1=[.arr 6 [cD ⟨3,src,names,others,items,cnd⟩],.arr 2 (mC m8 out)]∧Sv 170 [(11,.sl 1 out.length 0 out.length)] ρ,?_,?_,?_⟩
   ·exact⟨0,[],by omega,by simp,rfl,Sv.intro rfl ⟨rfl,rfl,rfl,rfl,trivial⟩⟩
   ·rintro m ρ H1 ⟨k,out,hk,ho,rfl,d,rfl⟩
    repeat'((conv=>whnf);first|((first|apply aC.use|apply aC.draw);exact gD false names hnl _;rintro r ⟨b,rfl,hb⟩)|refine And.intro (⟨by simp[aQ];omega,by simp[aQ];omega,rfl,(aZ m8 out).symm⟩) ?_|refine b4 (eL (aZ m8 out).symm) ?_|refine aI ?_|refine oA ?_|refine oM fun x hx hm=>?_|((first|apply aK|apply aL|apply aM|apply aF|apply aE)<;>intro h<;>(try simp at h)<;>(try(exfalso;omega))))
    any_goals((conv=>whnf);first|(refine⟨m-1,by omega,Gp.cut (H:=[.arr 6 [cD ⟨3,src,names,others,items,cnd⟩],.arr 2 (mC m8 (out++[x]))]) (by rw[dD];rfl) ⟨rfl,bV (aV fC _),trivial⟩ rfl rfl ?_ fun ρ1 h=>⟨k+1,_,by omega,by simp;omega,rfl,h⟩⟩;exact⟨rfl,rfl,eQ (by simp) (by simp),aN (dX (by omega)),trivial⟩)|(refine⟨m-1,by omega,Gp.cut (H:=[.arr 6 [cD ⟨3,src,names,others,items,cnd⟩],.arr 2 (mC m8 out)]) rfl ⟨rfl,bV (aV fC _),trivial⟩ rfl rfl ?_ fun ρ1 h=>⟨k+1,_,by omega,by omega,rfl,h⟩⟩;exact⟨rfl,rfl,rfl,aN (dX (by omega)),trivial⟩)|(refine Gp.cut (H:=[.arr 6 [cD ⟨3,src,names,others,items,cnd⟩],.arr 2 (mC m8 out)]) rfl ⟨rfl,bV (aV fC _),trivial⟩ rfl rfl ?_ fun ρ1 h=>⟨rfl,out,by omega,rfl,h⟩;exact⟨rfl,trivial⟩))
   ·rintro i ρ1 H1 ⟨rfl,out,ho,rfl,d,rfl⟩
    conv=>whnf
    exact S7 out rfl rfl ho
  ·conv=>whnf
   refine⟨fun m ρ H1=>∃(k:Nat) (out:List (ByteArray×ByteArray)),k+m=prx.length∧out.length≤k∧H1=[.arr 6 [cD ⟨11,src,names,others,items,cnd⟩],.arr 2 (mC m8 out)]∧Sv 170 [(1,.list f1 2 (mC m8 prx)),(5,.ptr 0 1 0 0),(11,.sl 1 out.length 0 out.length),(16,.int .i64 k)] ρ,prx.length,[(11,2)],fun i ρ H1=>i=5∧∃out:List (ByteArray×ByteArray),out.length≤prx.length+100000∧H1=[.arr 6 [cD ⟨11,src,names,others,items,cnd⟩],.arr 2 (mC m8 out)]∧Sv 170 [(11,.sl 1 out.length 0 out.length)] ρ,?_,?_,?_⟩
   ·exact⟨0,[],by omega,by simp,rfl,Sv.intro rfl ⟨rfl,rfl,rfl,rfl,trivial⟩⟩
   ·rintro m ρ H1 ⟨k,out,hk,ho,rfl,d,rfl⟩
    repeat'((conv=>whnf);first|((first|apply aC.use|apply aC.draw);exact gD false names hnl _;rintro r ⟨b,rfl,hb⟩)|refine And.intro (⟨by simp[aQ];omega,by simp[aQ];omega,rfl,(aZ m8 out).symm⟩) ?_|refine b4 (eL (aZ m8 out).symm) ?_|refine aI ?_|refine oA ?_|refine oM fun x hx hm=>?_|((first|apply aK|apply aL|apply aM|apply aF|apply aE)<;>intro h<;>(try simp at h)<;>(try(exfalso;omega))))
    any_goals((conv=>whnf);first|(refine⟨m-1,by omega,Gp.cut (H:=[.arr 6 [cD ⟨11,src,names,others,items,cnd⟩],.arr 2 (mC m8 (out++[x]))]) (by rw[dD];rfl) ⟨rfl,bV (aV fC _),trivial⟩ rfl rfl ?_ fun ρ1 h=>⟨k+1,_,by omega,by simp;omega,rfl,h⟩⟩;exact⟨rfl,rfl,eQ (by simp) (by simp),aN (dX (by omega)),trivial⟩)|(refine⟨m-1,by omega,Gp.cut (H:=[.arr 6 [cD ⟨11,src,names,others,items,cnd⟩],.arr 2 (mC m8 out)]) rfl ⟨rfl,bV (aV fC _),trivial⟩ rfl rfl ?_ fun ρ1 h=>⟨k+1,_,by omega,by omega,rfl,h⟩⟩;exact⟨rfl,rfl,rfl,aN (dX (by omega)),trivial⟩)|(refine Gp.cut (H:=[.arr 6 [cD ⟨11,src,names,others,items,cnd⟩],.arr 2 (mC m8 out)]) rfl ⟨rfl,bV (aV fC _),trivial⟩ rfl rfl ?_ fun ρ1 h=>⟨rfl,out,by omega,rfl,h⟩;exact⟨rfl,trivial⟩))
   ·rintro i ρ1 H1 ⟨rfl,out,ho,rfl,d,rfl⟩
    conv=>whnf
    exact S7 out rfl rfl ho
 rcases Decidable.em (op=12)with rfl|hn12
 ·conv=>whnf
  refine⟨fun m ρ H1=>∃(k:Nat) (out:List (ByteArray×ByteArray)),k+m=prx.length∧out.length≤k∧H1=[.arr 6 [cD ⟨12,src,names,others,items,cnd⟩],.arr 2 (mC m8 out)]∧Sv 170 [(1,.list f1 2 (mC m8 prx)),(5,.ptr 0 1 0 0),(11,.sl 1 out.length 0 out.length),(17,.int .i64 k)] ρ,prx.length,[(11,2)],fun i ρ H1=>i=7∧∃out:List (ByteArray×ByteArray),out.length≤prx.length+100000∧H1=[.arr 6 [cD ⟨12,src,names,others,items,cnd⟩],.arr 2 (mC m8 out)]∧Sv 170 [(11,.sl 1 out.length 0 out.length)] ρ,?_,?_,?_⟩
  ·exact⟨0,[],by omega,by simp,rfl,Sv.intro rfl ⟨rfl,rfl,rfl,rfl,trivial⟩⟩
  ·rintro m ρ H1 ⟨k,out,hk,ho,rfl,d,rfl⟩
   (conv=>whnf);refine aK (fun h=>?_) (fun h=>?_)
   ·simp at h
    conv=>whnf
    refine⟨fun m1 ρ H1=>∃j:Nat,j+m1=names.length∧H1=[.arr 6 [cD ⟨12,src,names,others,items,cnd⟩],.arr 2 (mC m8 out)]∧Sv 170 [(1,.list f1 2 (mC m8 prx)),(5,.ptr 0 1 0 0),(11,.sl 1 out.length 0 out.length),(17,.int .i64 k),(18,.int .i64 j)] ρ,names.length,[],fun i ρ H1=>i=9∧∃out:List (ByteArray×ByteArray),out.length≤k+1∧H1=[.arr 6 [cD ⟨12,src,names,others,items,cnd⟩],.arr 2 (mC m8 out)]∧Sv 170 [(1,.list f1 2 (mC m8 prx)),(5,.ptr 0 1 0 0),(11,.sl 1 out.length 0 out.length),(17,.int .i64 k)] ρ,?_,?_,?_⟩
    ·exact⟨0,by omega,rfl,Sv.intro rfl ⟨rfl,rfl,rfl,rfl,rfl,trivial⟩⟩
    ·rintro m1 ρ H1 ⟨j,hj,rfl,d,rfl⟩
     repeat'((conv=>whnf);first|refine iQ (show _<names.length by omega) (fun x hx hm=>?_)|((first|apply aC.use|apply aC.draw);exact mN f1 prx (by omega) _;rintro r ⟨a,b,rfl⟩)|refine And.intro (⟨by simp[aQ];omega,by simp[aQ];omega,rfl,(aZ m8 out).symm⟩) ?_|refine b4 (eL (aZ m8 out).symm) ?_|refine aI ?_|refine oA ?_|refine oM fun x hx hm=>?_|((first|apply aK|apply aL|apply aM|apply aF|apply aE)<;>intro h<;>(try simp at h)<;>(try(exfalso;omega))))
     any_goals((conv=>whnf);first|(refine Gp.cut (H:=[.arr 6 [cD ⟨12,src,names,others,items,cnd⟩],.arr 2 (mC m8 (out++[‹ByteArray×ByteArray›]))]) (by rw[dD];rfl) ⟨rfl,bV (aV fC _),trivial⟩ rfl rfl ?_ fun ρ1 h=>⟨rfl,_,by simp;omega,rfl,h⟩;exact⟨rfl,rfl,eQ (by simp) (by simp),rfl,trivial⟩)|(refine⟨m1-1,by omega,Gp.cut (H:=[.arr 6 [cD ⟨12,src,names,others,items,cnd⟩],.arr 2 (mC m8 out)]) rfl ⟨rfl,bV (aV fC _),trivial⟩ rfl rfl ?_ fun ρ1 h=>⟨j+1,by omega,rfl,h⟩⟩;exact⟨rfl,rfl,rfl,rfl,aN (dX (by omega)),trivial⟩)|(refine Gp.cut (H:=[.arr 6 [cD ⟨12,src,names,others,items,cnd⟩],.arr 2 (mC m8 out)]) rfl ⟨rfl,bV (aV fC _),trivial⟩ rfl rfl ?_ fun ρ1 h=>⟨rfl,out,by omega,rfl,h⟩;exact⟨rfl,rfl,rfl,rfl,trivial⟩))
    ·rintro i ρ1 H1 ⟨rfl,out,ho,rfl,d,rfl⟩
     conv=>whnf
     refine⟨m-1,by omega,Gp.cut (H:=[.arr 6 [cD ⟨12,src,names,others,items,cnd⟩],.arr 2 (mC m8 out)]) rfl ⟨rfl,bV (aV fC _),trivial⟩ rfl rfl ?_ fun ρ1 h=>⟨k+1,_,by omega,by omega,rfl,h⟩⟩;exact⟨rfl,rfl,rfl,aN (dX (by omega)),trivial⟩
   ·simp at h
    conv=>whnf
    refine Gp.cut (H:=[.arr 6 [cD ⟨12,src,names,others,items,cnd⟩],.arr 2 (mC m8 out)]) rfl ⟨rfl,bV (aV fC _),trivial⟩ rfl rfl ?_ fun ρ1 h=>⟨rfl,out,by omega,rfl,h⟩;exact⟨rfl,trivial⟩
  ·rintro i ρ1 H1 ⟨rfl,out,ho,rfl,d,rfl⟩
   conv=>whnf
   exact S7 out rfl rfl ho
 repeat'((conv=>whnf);first|refine s8 ((by simp;omega)) ?_|refine aI ?_|refine oA ?_|refine oM fun x hx hm=>?_|((first|apply aK|apply aL|apply aM|apply aF|apply aE)<;>intro h<;>(try simp at h)<;>(try(exfalso;omega))))
 any_goals((conv=>whnf);first|exact⟨_,.closed _ rfl,prx,.lst rfl (aV fC prx),by omega⟩|exact⟨_,.closed _ rfl,[],.nil _ _,by simp⟩)
theorem YZ{H H0 G:List aB}{ids:List Nat}(hH:H=H0++G)(s:ByteArray)(b:Bool):∃r G,H=H0++G∧dV H 0 ids (.tuple [.str s,.bool b]) r∧r.clT=true∧VG r:=⟨_,_,hH,dP (.closed _ rfl) (.closed _ rfl),rfl,s,b,rfl⟩
set_option maxRecDepth 20000 in
set_option maxHeartbeats 2000000 in
theorem IY(x1 x3:Bool)(q:List rC)(l:List jL)(zs:List HU)(hq:Fl lZ q)(hl:Fl nF l)(hz:Fl DS zs)(c z:ByteArray):
  cJ pr 150 [i8 l] [.list x1 6 (mC cD q),.sl 0 l.length 0 l.length,.list x3 3 (mC m5 zs),.str c,.str z] VG:=by
 have low:=bP l
 refine bQ k150.has ⟨low _,trivial⟩ ?_
 repeat'((conv=>whnf);first|(refine cJ.use [0] (nR x1 x3 q l zs hq hl hz) (by simp) rfl ⟨⟨_,rfl,.same (aV cI l)⟩,trivial⟩ ⟨.closed _ rfl,.sl 0 _ _ _,.closed _ rfl,trivial⟩ (fun r hr=>?_);obtain⟨L,e,rfl,hL,hLp⟩:=hr)|refine aI ?_|refine oA ?_|refine oM fun x hx hm=>?_|((first|apply aK|apply aL|apply aM|apply aF|apply aE)<;>intro h<;>(try simp at h)<;>(try(exfalso;omega))))
 any_goals((conv=>whnf);first|exact YZ (by exact rfl) _ _)
 obtain⟨q1,q2,q3,q4⟩:=hLp (by assumption)
 refine⟨fun m ρ H1=>∃(k:Nat) (v:a6) (prx:List (ByteArray×ByteArray)),k+m=q.length∧((v=.nil∧prx=[])∨v=Y5 prx)∧prx.length≤100000*k∧H1=[i8 l]∧Sv 53 [(0,.list x1 6 (mC cD q)),(3,.str c),(4,.str z),(12,.list false 1 (mC I9 L)),(14,v),(15,.int .i64 k)] ρ,q.length,[],fun i ρ H1=>i=0∧∃(v:a6) (prx:List (ByteArray×ByteArray)),((v=.nil∧prx=[])∨v=Y5 prx)∧prx.length≤1600000∧H1=[i8 l]∧Sv 53 [(3,.str c),(14,v)] ρ,?_,?_,?_⟩
 ·exact⟨0,.nil,[],by omega,.inl ⟨rfl,rfl⟩,by simp,rfl,Sv.intro rfl ⟨rfl,rfl,rfl,rfl,rfl,rfl,trivial⟩⟩
 ·rintro m ρ H1 ⟨k,v,prx,hk,hv,hp,rfl,d,rfl⟩
  have hw:IntKind.i64.wrap ((k:Int)-1)=(k:Int)-1:=aW _ (by omega) (by omega)
  rcases hv with⟨rfl,rfl⟩|rfl
  ·repeat'((conv=>whnf);first|((first|apply aC.use|apply aC.draw);exact(BY false false false _ (hq.2 _ (by assumption)) [] (by simp) _ _ (q3 _ (by assumption)).le (q3 _ (by assumption)).le z).args (.cons (.refl _) (.cons (.nil _ _) (.cons (.refl _) (.cons (.refl _) (.cons (.refl _) .nil)))));rintro r ⟨p2,rfl,hp2⟩)|refine iQ (by rw[hw];omega) (fun y hy hm=>?_)|refine And.intro (by rw[hw];omega) ?_|refine aI ?_|refine oA ?_|refine oM fun x hx hm=>?_|((first|apply aK|apply aL|apply aM|apply aF|apply aE)<;>intro h<;>(try simp at h)<;>(try(exfalso;omega))))
   any_goals((conv=>whnf);first|(refine⟨m-1,by omega,Gp.cutN (H:=[i8 l]) rfl ⟨rfl,trivial⟩ ⟨low _,trivial⟩ rfl rfl ?_ fun ρ1 h=>⟨k+1,_,p2,by omega,.inr rfl,by first|omega|(simp at *;omega),rfl,h⟩⟩;exact⟨rfl,rfl,rfl,rfl,rfl,aN (dX (by omega)),trivial⟩)|(refine Gp.cutN (H:=[i8 l]) rfl ⟨rfl,trivial⟩ ⟨low _,trivial⟩ rfl rfl ?_ fun ρ1 h=>⟨rfl,_,[],.inl ⟨rfl,rfl⟩,by simp,rfl,h⟩;exact⟨rfl,rfl,trivial⟩))
  ·repeat'((conv=>whnf);first|((first|apply aC.use|apply aC.draw);exact(BY false false false _ (hq.2 _ (by assumption)) prx (by omega) _ _ (q3 _ (by assumption)).le (q3 _ (by assumption)).le z);rintro r ⟨p2,rfl,hp2⟩)|refine iQ (by rw[hw];omega) (fun y hy hm=>?_)|refine And.intro (by rw[hw];omega) ?_|refine aI ?_|refine oA ?_|refine oM fun x hx hm=>?_|((first|apply aK|apply aL|apply aM|apply aF|apply aE)<;>intro h<;>(try simp at h)<;>(try(exfalso;omega))))
   any_goals((conv=>whnf);first|(refine⟨m-1,by omega,Gp.cutN (H:=[i8 l]) rfl ⟨rfl,trivial⟩ ⟨low _,trivial⟩ rfl rfl ?_ fun ρ1 h=>⟨k+1,_,p2,by omega,.inr rfl,by omega,rfl,h⟩⟩;exact⟨rfl,rfl,rfl,rfl,rfl,aN (dX (by omega)),trivial⟩)|(refine Gp.cutN (H:=[i8 l]) rfl ⟨rfl,trivial⟩ ⟨low _,trivial⟩ rfl rfl ?_ fun ρ1 h=>⟨rfl,_,prx,.inr rfl,by omega,rfl,h⟩;exact⟨rfl,rfl,trivial⟩))
 ·rintro i ρ1 H1 ⟨rfl,v,prx,hv,hp,rfl,d,rfl⟩
  rcases hv with⟨rfl,rfl⟩|rfl
  ·repeat'((conv=>whnf);first|((first|apply aC.use|apply aC.draw);exact(mN false [] (by simp) c).args (.cons (.nil _ _) (.cons (.refl _) .nil));rintro r ⟨a,b,rfl⟩)|refine aI ?_|refine oA ?_|refine oM fun x hx hm=>?_|((first|apply aK|apply aL|apply aM|apply aF|apply aE)<;>intro h<;>(try simp at h)<;>(try(exfalso;omega))))
   any_goals((conv=>whnf);first|exact YZ (by exact rfl) _ _)
  ·repeat'((conv=>whnf);first|((first|apply aC.use|apply aC.draw);exact(mN false prx (by omega) c);rintro r ⟨a,b,rfl⟩)|refine aI ?_|refine oA ?_|refine oM fun x hx hm=>?_|((first|apply aK|apply aL|apply aM|apply aF|apply aE)<;>intro h<;>(try simp at h)<;>(try(exfalso;omega))))
   any_goals((conv=>whnf);first|exact YZ (by exact rfl) _ _)
theorem UF{L:List jL}{cs:List c8}(hL:L.length≤192)(hLs:∀x∈L,nF x∧Cz x.cols)(hc:cs.length≤100000):Fl nF (L++[⟨u7,false,cs,none⟩]) :=
 ⟨by simp;omega,dE (fun y hy=>(hLs y hy).1) ⟨(by decide:u7.size≤100000),hc⟩⟩
set_option maxRecDepth 20000 in
set_option maxHeartbeats 2000000 in
theorem D6(d:qZ)(hd:d.F)(hm:d.macros.length=0)(hsc:∀s∈d.sources,Cz s.cols):
  cJ pr 97 [d8 d] [.agg (bI d)] KT:=by
 have low:=gW d
 have hql:=hd.q.1
 refine bQ k97.has ⟨low _,trivial⟩ ?_
 repeat'((conv=>whnf);first|(refine cJ.use [0] (u4 d hd hm hsc) (by simp) rfl ⟨⟨_,rfl,.same (dY d)⟩,trivial⟩ ⟨fK d rfl,trivial⟩ (fun r hr=>?_);obtain⟨L,e,rfl,hL,hLs,hz⟩:=hr)|refine aI ?_|refine oA ?_|refine oM fun x hx hm=>?_|((first|apply aK|apply aL|apply aM|apply aF|apply aE)<;>intro h<;>(try simp at h)<;>(try(exfalso;omega))))
 any_goals((conv=>whnf);first|exact DG (by exact rfl) _)
 refine⟨fun m ρ H1=>∃k:Nat,k+m=d.models.length∧H1=[d8 d,.arr 6 [bI d]]∧Sv 56 [(1,.ptr 1 1 0 0),(3,.list false 4 (mC bR L)),(5,.int .i64 k)] ρ,d.models.length,[],fun i ρ H1=>i=0∧H1=[d8 d,.arr 6 [bI d]]∧Sv 56 [(1,.ptr 1 1 0 0)] ρ,?_,?_,?_⟩
 ·exact⟨0,by omega,rfl,Sv.intro rfl ⟨rfl,rfl,rfl,trivial⟩⟩
 ·rintro m ρ H1 ⟨k,hk,rfl,dd,rfl⟩
  repeat'((conv=>whnf);first|(refine cJ.use [3] (IY false false x.query (L++[⟨u7,false,x.self,none⟩]) d.zones (hd.q.2 _ (by assumption)).2.2.1 (UF hL hLs (hd.q.2 _ (by assumption)).2.1.1) hd.z _ _) (by simp) rfl ⟨⟨_,rfl,JQ (dD bR L [⟨u7,false,x.self,none⟩]) (aV cI _)⟩,trivial⟩ ⟨.closed _ rfl,pF rfl (by simp) (by simp),.closed _ rfl,.closed _ rfl,.closed _ rfl,trivial⟩ (fun r hr=>?_);obtain⟨a,b,rfl⟩:=hr)|refine b4 (eL (aZ gR d.models).symm) ?_|refine And.intro (⟨by simp[aQ];omega,by simp[aQ];omega⟩) ?_|refine aI ?_|refine oA ?_|refine oM fun x hx hm=>?_|((first|apply aK|apply aL|apply aM|apply aF|apply aE)<;>intro h<;>(try simp at h)<;>(try(exfalso;omega))))
  any_goals((conv=>whnf);first|exact DG (by exact rfl) _|(refine⟨m-1,by omega,Gp.cutN (H:=[d8 d,.arr 6 [bI d]]) rfl ⟨rfl,trivial⟩ ⟨low _,rfl,trivial⟩ rfl rfl ?_ fun ρ1 h=>⟨k+1,by omega,rfl,h⟩⟩;exact⟨rfl,rfl,aN (dX (by omega)),trivial⟩)|(refine Gp.cutN (H:=[d8 d,.arr 6 [bI d]]) rfl ⟨rfl,trivial⟩ ⟨low _,rfl,trivial⟩ rfl rfl ?_ fun ρ1 h=>⟨rfl,rfl,h⟩;exact⟨rfl,trivial⟩))
 ·rintro i ρ1 H1 ⟨rfl,rfl,dd,rfl⟩
  conv=>whnf
  exact DG (by exact rfl) _
theorem iG{n:Int}(h0:0≤n)(h1:n≤100000000){k:Int}(hk:1≤k):0≤IntKind.i64.wrap (n.tdiv k)∧IntKind.i64.wrap (n.tdiv k)≤n:=by
 rw[Int.tdiv_eq_ediv_of_nonneg h0]
 have h2:0≤n / k:=Int.ediv_nonneg h0 (by omega)
 have h3:n / k≤n:=Int.ediv_le_self _ h0
 rw[aW _ (by omega) (by omega)]
 exact⟨h2,h3⟩
def VD(r:a6):Prop:=∃ns:List ByteArray,gG r (sL ns)∧(∀s∈ns,bM s)∧ns.length≤2
def WR(r:a6):Prop:=∃ns:List ByteArray,r=sL ns∧(∀s∈ns,bM s)∧ns.length≤2
theorem VD.wk:∀r,VD r→∃r',gG r r'∧WR r':=by
 rintro r ⟨l,hw,hl⟩
 exact⟨_,hw,l,rfl,hl⟩
theorem KF(x:Bool)(cs:List c8)(h1:1≤cs.length)(hc:cs.length≤100000)(hn:∀c∈cs,bM c.name)(n:Int)(h0:0≤n)(h9:n≤100000000):aC pr 146 [.list x 3 (cC cs),.int .i64 n] WR:=by
 refine aC.weak ?_ VD.wk
 refine aH k146.has rfl ?_
 repeat'((conv=>whnf);first|((first|apply aC.use|apply aC.draw);exact p6 x cs h1 hc hn _ (by first|exact h0|exact(iG h0 h9 (by decide)).1);rintro r ⟨s1,rfl,hs1⟩)|refine aI ?_|refine oA ?_|refine oM fun x hx hm=>?_|((first|apply aK|apply aL|apply aM|apply aF|apply aE)<;>intro h<;>(try simp at h)<;>(try(exfalso;omega))))
 any_goals((conv=>whnf);first|exact⟨_,.closed _ rfl,[_,_],.lst rfl rfl,by simp;exact⟨by assumption,by assumption⟩,by simp⟩|exact⟨_,.closed _ rfl,[_],.lst rfl rfl,by simp;assumption,by simp⟩)
def UW(n:Int)(k:Nat):ByteArray:=bs [110]++⟨(List.map (fun n=>UInt8.ofNat n.toNat) [IntKind.u8.wrap (IntKind.i64.wrap (97+(IntKind.i64.wrap (n+(k:Int))).tmod 26))]).toArray⟩
theorem NK{n:Int}(h0:0≤n)(h9:n≤100000000){k:Nat}(hk:k≤26):IntKind.u8.wrap (IntKind.i64.wrap (97+(IntKind.i64.wrap (n+(k:Int))).tmod 26))=97+(n+k) % 26:=by
 rw[aW (n+k) (by omega) (by omega),Int.tmod_eq_emod_of_nonneg (by omega),aW _ (by omega) (by omega)]
 have:=m3 (97+(n+k) % 26)
 rw[u8]at this
 rw[this];omega
theorem TS{n:Int}(h0:0≤n)(h9:n≤100000000){j k:Nat}(hj:j<26)(hk:k<26)(h:UW n j=UW n k):j=k:=by
 have h1:=congrArg ByteArray.data h
 simp only[UW,ByteArray.data_append,NK h0 h9 (Nat.le_of_lt hj),NK h0 h9 (Nat.le_of_lt hk),List.map_cons,List.map_nil]at h1
 have h2:=congrArg Array.toList h1
 simp at h2
 have h3:=congrArg UInt8.toNat h2
 simp only[UInt8.toNat_ofNat']at h3
 omega
theorem IA{cs:List c8}{s:ByteArray}(h:0≤eA cs s):s∈cs.map c8.name:=by
 have:=(t7 (s4 s) cs 0 (Int.le_refl _)).1 h
 rw[List.any_eq_true]at this
 obtain⟨c,h1,h2⟩:=this
 exact List.mem_map.2 ⟨c,h1,ByteArray.ext (Array.toList_inj.1 (by simpa[s4]using h2))⟩
theorem OS{cs:List c8}(hc:cs.length≤25){n:Int}(h0:0≤n)(h9:n≤100000000){k:Nat}(hk:k≤26)(h:∀j<k,0≤eA cs (UW n j)):k<26:=by
 refine Classical.byContradiction fun hn=>?_
 obtain rfl:k=26:=by omega
 have hnd:((List.range 26).map (UW n)).Nodup:=by
  rw[List.nodup_iff_pairwise_ne,List.pairwise_map]
  refine List.Pairwise.imp_of_mem (fun{a b} ha hb hne he=>hne ?_) (List.nodup_iff_pairwise_ne.1 List.nodup_range)
  exact TS h0 h9 (List.mem_range.1 ha) (List.mem_range.1 hb) he
 have:=BZ _ (cs.map c8.name) hnd fun s hs=>by
  obtain⟨j,hj,rfl⟩:=List.mem_map.1 hs
  exact IA (h j (List.mem_range.1 hj))
 simp at this
 omega
theorem TW{p:Nat→Prop}{k:Nat}(h:∀j<k,p j)(hk:p k):∀j<k+1,p j:=fun j hj=>by
 rcases Nat.lt_or_ge j k with h1|h1
 ·exact h j h1
 ·obtain rfl:j=k:=by omega
  exact hk
theorem xB(x:Bool)(cs:List c8)(hc:cs.length≤25)(n:Int)(h0:0≤n)(h9:n≤100000000):aC pr 190 [.list x 3 (cC cs),.int .i64 n] (fun r=>∃s,r=.str s∧bM s):=by
 refine aH k190.has rfl ?_
 conv=>whnf
 refine⟨fun m ρ H1=>∃k:Nat,k+m=26∧(∀j<k,0≤eA cs (UW n j))∧H1=[]∧Sv 23 [(0,.list x 3 (cC cs)),(1,.int .i64 n),(5,.int .i64 k)] ρ,26,[],fun i ρ H1=>False,?_,?_,?_⟩
 ·exact⟨0,by omega,(fun j hj=>by omega),rfl,Sv.intro rfl ⟨rfl,rfl,rfl,trivial⟩⟩
 ·rintro m ρ H1 ⟨k,hk,hj,rfl,d,rfl⟩
  have hlt:=OS hc h0 h9 (by omega) hj
  repeat'((conv=>whnf);first|refine⟨_,fX [_],?_⟩|((first|apply aC.use|apply aC.draw);exact aC.of (bB x cs (by omega) (UW n k));rintro r rfl)|refine And.intro (by exact(by decide:(2:Nat)≤4611686018427387904)) ?_|refine aI ?_|refine oA ?_|refine oM fun x hx hm=>?_|((first|apply aK|apply aL|apply aM|apply aF|apply aE)<;>intro h<;>(try simp at h)<;>(try(exfalso;omega))))
  any_goals((conv=>whnf);first|exact⟨_,.closed _ rfl,UW n k,rfl,(by decide:(2:Nat)≤100000)⟩|(refine⟨m-1,by omega,Gp.cut (H:=[]) rfl trivial rfl rfl ?_ fun ρ1 h=>⟨k+1,by omega,TW hj (by assumption),rfl,h⟩⟩;exact⟨rfl,rfl,aN (dX (by omega)),trivial⟩))
 ·intro i ρ H1 h
  exact h.elim
theorem vQ(v:V):j5 pr 245 [.agg (iS v)] 6 (fun es=>es=mC fZ [⟨0,v,bs [],0⟩]):=by
 refine fA k245.has ?_
 conv=>whnf
 exact⟨_,_,_,rfl,rfl,rfl,rfl,rfl⟩
theorem yZ(x y:Bool)(e:List oN)(cs:List c8)(he:Fl xI e)(hc:cs.length≤100000):aC pr 195 [.list x 6 (mC fZ e),.list y 3 (cC cs)] DV:=by
 refine aH k195.has rfl ?_
 repeat'((conv=>whnf);first|((first|apply aC.use|apply aC.draw);exact tI;rintro r rfl)|((first|apply aC.use|apply aC.draw);exact D5 x y false e cs Q6 he hc AK;rintro r ⟨k,b,c,rfl⟩)|refine aI ?_|refine oA ?_|refine oM fun x hx hm=>?_|((first|apply aK|apply aL|apply aM|apply aF|apply aE)<;>intro h<;>(try simp at h)<;>(try(exfalso;omega))))
 any_goals((conv=>whnf);first|exact FX _)
def Nd(N:Nat)(e:List oN):Prop:=e.length≤N∧∀n∈e,xI n
def DB(N:Nat)(es:List (List a6)):Prop:=∃e:List oN,es=mC fZ e∧Nd N e
theorem DB.mono{N M:Nat}{es:List (List a6)}(h:DB N es)(hm:N≤M):DB M es:=by
 obtain⟨e,rfl,h1,h2⟩:=h
 exact⟨e,rfl,Nat.le_trans h1 hm,h2⟩
def ZF(e:List oN):List a6:=[nL e]
def TD(N:Nat)(es:List (List a6)):Prop:=∃L:List (List oN),es=mC ZF L∧(∀e∈L,Nd N e)∧L.length≤3
theorem FD{N:Nat}{e:List oN}(h:Nd N e):TD N [[.list false 6 (mC fZ e)]]:=⟨[e],rfl,by simpa using h,by simp⟩
theorem FE{N:Nat}{e f:List oN}(h:Nd N e)(h2:Nd N f):TD N [[.list false 6 (mC fZ e)],[.list false 6 (mC fZ f)]]:=⟨[e,f],rfl,by simp;exact⟨h,h2⟩,by simp⟩
theorem FF{N:Nat}{e f g:List oN}(h:Nd N e)(h2:Nd N f)(h3:Nd N g):TD N [[.list false 6 (mC fZ e)],[.list false 6 (mC fZ f)],[.list false 6 (mC fZ g)]]:=⟨[e,f,g],rfl,by simp;exact⟨h,h2,h3⟩,by simp⟩
theorem VZ{N k M:Nat}{out e:List oN}(ho:Nd (N*k) out)(he:Nd N e)(hk:M=N*k+N):Nd M (out++e):=by
 refine⟨by have:=ho.1;have:=he.1;simp;omega,fun n hn=>?_⟩
 rcases List.mem_append.1 hn with h|h
 ·exact ho.2 n h
 ·exact he.2 n h
theorem W1{N:Nat}{out:List oN}{op:Int}{v:V}(ho:Nd N out):Nd (N+1) (out++[⟨op,v,bs [],0⟩]):=by
 refine⟨by have:=ho.1;simp;omega,fun n hn=>?_⟩
 rcases List.mem_append.1 hn with h|h
 ·exact ho.2 n h
 ·simp at h;subst h;exact(by decide:(0:Nat)≤100000)
set_option maxRecDepth 20000 in
theorem iV(x:Bool)(op:Int){es:List (List a6)}{N:Nat}(hA:TD N es)(hN:N≤1000):j5 pr 192 [.int .i64 op,.list x 1 es] 6 (DB (3*N+1)):=by
 obtain⟨L,rfl,hL,hl⟩:=hA
 refine fA k192.has ?_
 conv=>whnf
 refine⟨fun m ρ H1=>∃(k:Nat) (out:List oN),k+m=L.length∧Nd (N*k) out∧H1=[.arr 6 (mC fZ out)]∧Sv 24 [(0,.int .i64 op),(1,.list x 1 (mC ZF L)),(5,.sl 0 out.length 0 out.length),(6,.int .i64 k)] ρ,L.length,[(5,6)],fun i ρ H1=>i=0∧∃out:List oN,Nd (3*N) out∧H1=[.arr 6 (mC fZ out)]∧Sv 24 [(0,.int .i64 op),(5,.sl 0 out.length 0 out.length)] ρ,?_,?_,?_⟩
 ·exact⟨0,[],by omega,⟨by simp,fun n h=>by simp at h⟩,rfl,Sv.intro rfl ⟨rfl,rfl,rfl,rfl,trivial⟩⟩
 ·rintro m ρ H1 ⟨k,out,hk,ho,rfl,d,rfl⟩
  have hk3:N*k≤N*3:=Nat.mul_le_mul_left _ (by omega)
  have hk1:N*(k+1)=N*k+N:=Nat.mul_succ _ _
  have ho1:=ho.1
  repeat'((conv=>whnf);first|refine b4 (eL (aZ fZ out).symm) ?_|refine And.intro (by have:=(hL _ (by assumption)).1;exact⟨by simp[aQ];omega,by simp[aQ];omega,rfl,(aZ fZ out).symm⟩) ?_|refine aI ?_|refine oA ?_|refine oM fun x hx hm=>?_|((first|apply aK|apply aL|apply aM|apply aF|apply aE)<;>intro h<;>(try simp at h)<;>(try(exfalso;omega))))
  any_goals((conv=>whnf);first|(refine⟨m-1,by omega,Gp.cut (H:=[.arr 6 (mC fZ (out++x))]) (by rw[dD];rfl) ⟨bV (aV vY _),trivial⟩ rfl rfl ?_ fun ρ1 h=>⟨k+1,_,by omega,VZ ho (hL _ (by assumption)) hk1,rfl,h⟩⟩;exact⟨rfl,rfl,eQ (by simp) (by simp),aN (dX (by omega)),trivial⟩)|(refine Gp.cut (H:=[.arr 6 (mC fZ out)]) rfl ⟨bV (aV vY _),trivial⟩ rfl rfl ?_ fun ρ1 h=>⟨rfl,out,⟨by omega,ho.2⟩,rfl,h⟩;exact⟨rfl,rfl,trivial⟩))
 ·rintro i ρ1 H1 ⟨rfl,out,ho,rfl,d,rfl⟩
  have ho1:=ho.1
  repeat'((conv=>whnf);first|refine b4 (eL (aZ fZ out).symm) ?_|refine And.intro (⟨by simp[aQ];omega,by simp[aQ];omega,rfl,(aZ fZ out).symm⟩) ?_|refine aI ?_|refine oA ?_|refine oM fun x hx hm=>?_|((first|apply aK|apply aL|apply aM|apply aF|apply aE)<;>intro h<;>(try simp at h)<;>(try(exfalso;omega))))
  all_goals(conv=>whnf)
  exact⟨_,_,mC fZ (out++[⟨op,⟨0,0,bs []⟩,bs [],0⟩]),rfl,by rw[dD];rfl,by simp,aV vY _,_,rfl,W1 ho⟩
theorem ZE{n:oN}(h:xI n):Nd 1 [n]:=⟨by simp,fun m hm=>by simp at hm;subst hm;exact h⟩
theorem W2{op:Int}{v:V}{a:Int}:xI ⟨op,v,bs [],a⟩:=(by decide:(0:Nat)≤100000)
set_option maxRecDepth 20000 in
set_option maxHeartbeats 1000000 in
theorem BT(f:Bool)(kind:Int)(cs:List c8)(hc:cs.length≤1000)(hn:∀c∈cs,bM c.name)(n:Int)(h0:0≤n)(h9:n≤100000000):
  j5 pr 191 [.int .i64 kind,.list f 3 (cC cs),.int .i64 n] 6 (DB 1):=by
 have hcl:=aX cs
 have hq:=iG h0 h9 (k:=4) (by decide)
 refine fA k191.has ?_
 conv=>whnf
 refine⟨fun m ρ H1=>∃k:Nat,k+m=cs.length∧H1=[]∧Sv 48 [(0,.int .i64 kind),(1,.list f 3 (cC cs)),(2,.int .i64 n),(7,.int .i64 k)] ρ,cs.length,[],fun i ρ H1=>i=0∧H1=[]∧Sv 48 [(0,.int .i64 kind),(2,.int .i64 n)] ρ,?_,?_,?_⟩
 ·exact⟨0,by omega,rfl,Sv.intro rfl ⟨rfl,rfl,rfl,rfl,trivial⟩⟩
 ·rintro m ρ H1 ⟨k,hk,rfl,d,rfl⟩
  rcases Nat.lt_or_ge k cs.length with hkl|hkl
  ·have hb:=G4 (n:=IntKind.i64.wrap (IntKind.i64.wrap (n.tdiv 4)+k)) (m:=(cC cs).length) (by rw[aW _ (by omega) (by omega)];omega) (by omega)
   repeat'((conv=>whnf);first|refine And.intro (by omega) ?_|refine aI ?_|refine oA ?_|refine oM fun x hx hm=>?_|((first|apply aK|apply aL|apply aM|apply aF|apply aE)<;>intro h<;>(try simp at h)<;>(try(exfalso;omega))))
   any_goals((conv=>whnf);first|(refine⟨_,_,_,rfl,rfl,rfl,rfl,[⟨1,⟨0,0,bs []⟩,x.name,0⟩],rfl,ZE (hn _ (by assumption))⟩)|(refine⟨m-1,by omega,Gp.cut (H:=[]) rfl trivial rfl rfl ?_ fun ρ1 h=>⟨k+1,by omega,rfl,h⟩⟩;exact⟨rfl,rfl,rfl,aN (dX (by omega)),trivial⟩)|(refine Gp.cut (H:=[]) rfl trivial rfl rfl ?_ fun ρ1 h=>⟨rfl,rfl,h⟩;exact⟨rfl,rfl,trivial⟩))
  ·repeat'((conv=>whnf);first|refine And.intro (by omega) ?_|refine aI ?_|refine oA ?_|refine oM fun x hx hm=>?_|((first|apply aK|apply aL|apply aM|apply aF|apply aE)<;>intro h<;>(try simp at h)<;>(try(exfalso;omega))))
   any_goals((conv=>whnf);first|(refine Gp.cut (H:=[]) rfl trivial rfl rfl ?_ fun ρ1 h=>⟨rfl,rfl,h⟩;exact⟨rfl,rfl,trivial⟩))
 ·rintro i ρ1 H1 ⟨rfl,rfl,d,rfl⟩
  repeat'((conv=>whnf);first|((first|apply aC.use|apply aC.draw);exact aC.of (KX kind _);rintro r rfl)|refine j5.own (vQ (oJ kind _)) rfl (fun es hes hp=>?_)|refine j5.own (vQ ⟨0,0,bs []⟩) rfl (fun es hes hp=>?_)|refine aI ?_|refine oA ?_|refine oM fun x hx hm=>?_|((first|apply aK|apply aL|apply aM|apply aF|apply aE)<;>intro h<;>(try simp at h)<;>(try(exfalso;omega))))
  any_goals((conv=>whnf);first|exact⟨_,_,_,rfl,rfl,rfl,hp,_,hes,ZE W2⟩)
def r9(P:Program)(id:FuncId)(f g:Bool)(cs:List c8)(l:List Int)(d:Int)(A:Int)(N:Nat):Prop :=
 ∀(kind v:Int),(0≤v∧v≤A)→j5 P id [.int .i64 kind,.list f 3 (cC cs),.list g 1 (iC l),.int .i64 v,.int .i64 d] 6 (DB N)
theorem YT{at':Int}(h0:0≤at')(h9:at'≤100000000){k j:Int}(hk:0≤k)(hk3:k≤3)(hj:0≤j)(hj3:j≤3):IntKind.i64.wrap (IntKind.i64.wrap (k*at')+j)=k*at'+j:=by
 have h1:0≤k*at':=Int.mul_nonneg hk h0
 have h2:k*at'≤3*at':=Int.mul_le_mul_of_nonneg_right hk3 h0
 rw[aW (k*at') (by omega) (by omega),aW _ (by omega) (by omega)]
theorem kS{at' A:Int}(h0:0≤at')(h9:at'≤100000000)(hA:3*at'+3≤A){k j:Int}(hk:0≤k)(hk3:k≤3)(hj:0≤j)(hj3:j≤3):0≤IntKind.i64.wrap (IntKind.i64.wrap (k*at')+j)∧IntKind.i64.wrap (IntKind.i64.wrap (k*at')+j)≤A:=by
 have h1:0≤k*at':=Int.mul_nonneg hk h0
 have h2:k*at'≤3*at':=Int.mul_le_mul_of_nonneg_right hk3 h0
 rw[YT h0 h9 hk hk3 hj hj3]
 omega
theorem UZ{n:Int}(h0:0≤n)(h3:n<3)(a b c:ByteArray):∃s,[[a6.str a],[a6.str b],[a6.str c]][n.toNat]?=some [.str s]∧(s=a∨s=b∨s=c):=by
 obtain h|h|h:n=0∨n=1∨n=2:=by omega
 all_goals subst h
 ·exact⟨a,rfl,.inl rfl⟩
 ·exact⟨b,rfl,.inr (.inl rfl)⟩
 ·exact⟨c,rfl,.inr (.inr rfl)⟩
theorem Z3{s:ByteArray}(h:s=bs [122,48]∨s=bs [122,49]∨s=bs [122,50]):bM s:=by
 rcases h with rfl|rfl|rfl<;>exact(by decide:(2:Nat)≤100000)
theorem RP{N:Nat}{e:List oN}{s:ByteArray}(he:Nd N e)(hs:s=bs [122,48]∨s=bs [122,49]∨s=bs [122,50]):
  bG (mC fZ e++[[.int .i64 20,.int .i64 0,.int .i64 0,.str (bs []),.str s,.int .i64 0]])=true∧DB (3*N+1) (mC fZ e++[[.int .i64 20,.int .i64 0,.int .i64 0,.str (bs []),.str s,.int .i64 0]]):=by
 have hk:mC fZ e++[[.int .i64 20,.int .i64 0,.int .i64 0,.str (bs []),.str s,.int .i64 0]]=mC fZ (e++[⟨20,⟨0,0,bs []⟩,s,0⟩]):=by rw[dD];rfl
 rw[hk]
 have:=he.1
 exact⟨aV vY _,_,rfl,by simp;omega,dE he.2 (Z3 hs)⟩
set_option maxRecDepth 20000 in
set_option maxHeartbeats 4000000 in
theorem IZ(f g:Bool)(cs:List c8)(hc:cs.length≤1000)(hn:∀c∈cs,bM c.name)(l:List Int){d:Int}{A:Int}{N:Nat}(hN:N≤1000)(hE:r9 pr 149 f g cs l (IntKind.i64.wrap (d-1)) A N)(at':Int)(h0:0≤at')(h9:at'≤100000000)(hA:3*at'+3≤A):
  j5 pr 193 [.list f 3 (cC cs),.list g 1 (iC l),.int .i64 at',.int .i64 d] 6 (DB (3*N+1)):=by
 refine fA k193.has ?_
 repeat'((conv=>whnf);first|((first|apply aC.use|apply aC.draw);exact aC.of (jY g l _);rintro r rfl)|((first|apply aC.use|apply aC.draw);exact(hE _ _ (by first|exact kS h0 h9 hA (by decide) (by decide) (by decide) (by decide)|(apply kS h0 h9 hA<;>decide))).frz rfl;rintro r ⟨es,rfl,e,rfl,he⟩)|(refine j5.own (iV true _ (by first|exact FF (by assumption) (by assumption) (by assumption)|exact FE (by assumption) (by assumption)|exact FD (by assumption)) hN) rfl (fun es hes hp=>?_))|refine aI ?_|refine oA ?_|refine oM fun x hx hm=>?_|((first|apply aK|apply aL|apply aM|apply aF|apply aE)<;>intro h<;>(try simp at h)<;>(try(exfalso;omega))))
 any_goals((conv=>whnf);first|exact⟨_,_,_,rfl,rfl,rfl,hp,hes⟩)
set_option maxRecDepth 20000 in
set_option maxHeartbeats 4000000 in
theorem J7(f g:Bool)(cs:List c8)(hc:cs.length≤1000)(hn:∀c∈cs,bM c.name)(l:List Int){d:Int}{A:Int}{N:Nat}(hN:N≤1000)(hE:r9 pr 149 f g cs l (IntKind.i64.wrap (d-1)) A N)(at':Int)(h0:0≤at')(h9:at'≤100000000)(hA:3*at'+3≤A):
  j5 pr 194 [.list f 3 (cC cs),.list g 1 (iC l),.int .i64 at',.int .i64 d] 6 (DB (3*N+1)):=by
 have hat:=fJ l at'
 obtain⟨s,hs,hs2⟩:=UZ (n:=(IntKind.i64.wrap ((DX l at').tdiv 9)).tmod 3) (Int.tmod_nonneg _ (iG hat.1 (by omega) (by decide)).1) (Int.tmod_lt_of_pos _ (by decide)) (bs [122,48]) (bs [122,49]) (bs [122,50])
 have hb:0≤(IntKind.i64.wrap ((DX l at').tdiv 9)).tmod 3:=Int.tmod_nonneg _ (iG hat.1 (by omega) (by decide)).1
 refine fA k194.has ?_
 repeat'((conv=>whnf);first|((first|apply aC.use|apply aC.draw);exact aC.of (jY g l _);rintro r rfl)|refine aI ?_|refine oA ?_|refine oM fun x hx hm=>?_|((first|apply aK|apply aL|apply aM|apply aF|apply aE)<;>intro h<;>(try simp at h)<;>(try(exfalso;omega))))
 ·repeat'((conv=>whnf);first|((first|apply aC.use|apply aC.draw);exact(hE _ _ (by first|exact kS h0 h9 hA (by decide) (by decide) (by decide) (by decide)|(apply kS h0 h9 hA<;>decide))).frz rfl;rintro r ⟨es,rfl,e,rfl,he⟩)|(refine j5.own (iV true _ (by first|exact FF (by assumption) (by assumption) (by assumption)|exact FE (by assumption) (by assumption)|exact FD (by assumption)) hN) rfl (fun es hes hp=>?_))|refine aI ?_|refine oA ?_|refine oM fun x hx hm=>?_|((first|apply aK|apply aL|apply aM|apply aF|apply aE)<;>intro h<;>(try simp at h)<;>(try(exfalso;omega))))
  any_goals((conv=>whnf);first|exact⟨_,_,_,rfl,rfl,rfl,hp,hes⟩)
 ·repeat'((conv=>whnf);first|((first|apply aC.use|apply aC.draw);exact(hE _ _ (by first|exact kS h0 h9 hA (by decide) (by decide) (by decide) (by decide)|(apply kS h0 h9 hA<;>decide))).frz rfl;rintro r ⟨es,rfl,e,rfl,he⟩)|(refine j5.own (iV true _ (by first|exact FF (by assumption) (by assumption) (by assumption)|exact FE (by assumption) (by assumption)|exact FD (by assumption)) hN) rfl (fun es hes hp=>?_))|refine aI ?_|refine oA ?_|refine oM fun x hx hm=>?_|((first|apply aK|apply aL|apply aM|apply aF|apply aE)<;>intro h<;>(try simp at h)<;>(try(exfalso;omega))))
  any_goals((conv=>whnf);first|exact⟨_,_,_,rfl,rfl,rfl,hp,hes⟩)
 ·repeat'(first|refine aT (hs) ?_|((conv=>whnf);first|refine And.intro hb ?_|refine And.intro (by(conv=>whnf);exact And.intro hb (aT hs rfl)) ?_|(refine j5.own (hE _ _ (by first|exact kS h0 h9 hA (by decide) (by decide) (by decide) (by decide)|(apply kS h0 h9 hA<;>decide))) rfl (fun es hes hp=>?_);obtain⟨e,rfl,he⟩:=hes;have he1:=he.1)|refine b4 (eL (aZ fZ e).symm) ?_|refine And.intro (⟨by simp[aQ];omega,by simp[aQ];omega,rfl,rfl⟩) ?_|refine And.intro (by omega) ?_|refine aI ?_|refine oA ?_|refine oM fun x hx hm=>?_|((first|apply aK|apply aL|apply aM|apply aF|apply aE)<;>intro h<;>(try simp at h)<;>(try(exfalso;omega)))))
  all_goals(conv=>whnf)
  exact⟨_,_,_,rfl,rfl,rfl,(RP he hs2).1,(RP he hs2).2⟩
 ·repeat'((conv=>whnf);first|((first|apply aC.use|apply aC.draw);exact(hE _ _ (by first|exact kS h0 h9 hA (by decide) (by decide) (by decide) (by decide)|(apply kS h0 h9 hA<;>decide))).frz rfl;rintro r ⟨es,rfl,e,rfl,he⟩)|((first|apply aC.use|apply aC.draw);exact yZ false f _ cs ⟨by have:=he.1;omega,he.2⟩ (by omega);rintro r ⟨b,rfl⟩)|(refine j5.own (iV true _ (by first|exact FF (by assumption) (by assumption) (by assumption)|exact FE (by assumption) (by assumption)|exact FD (by assumption)) hN) rfl (fun es hes hp=>?_))|(refine j5.own (BT f _ cs hc hn _ (iG hat.1 (by omega) (by decide)).1 (Int.le_trans (iG hat.1 (by omega) (by decide)).2 (by omega))) rfl (fun es hes hp=>?_))|refine aI ?_|refine oA ?_|refine oM fun x hx hm=>?_|((first|apply aK|apply aL|apply aM|apply aF|apply aE)<;>intro h<;>(try simp at h)<;>(try(exfalso;omega))))
  any_goals((conv=>whnf);first|exact⟨_,_,_,rfl,rfl,rfl,hp,hes⟩|exact⟨_,_,_,rfl,rfl,rfl,hp,hes.mono (by omega)⟩)
 ·repeat'((conv=>whnf);first|((first|apply aC.use|apply aC.draw);exact(hE _ _ (by first|exact kS h0 h9 hA (by decide) (by decide) (by decide) (by decide)|(apply kS h0 h9 hA<;>decide))).frz rfl;rintro r ⟨es,rfl,e,rfl,he⟩)|(refine j5.own (iV true _ (by first|exact FF (by assumption) (by assumption) (by assumption)|exact FE (by assumption) (by assumption)|exact FD (by assumption)) hN) rfl (fun es hes hp=>?_))|refine aI ?_|refine oA ?_|refine oM fun x hx hm=>?_|((first|apply aK|apply aL|apply aM|apply aF|apply aE)<;>intro h<;>(try simp at h)<;>(try(exfalso;omega))))
  any_goals((conv=>whnf);first|exact⟨_,_,_,rfl,rfl,rfl,hp,hes⟩)
theorem Z0:∀r,DV r→r.scalar=true:=by rintro _ ⟨b,rfl⟩;rfl
set_option maxRecDepth 20000 in
set_option maxHeartbeats 4000000 in
theorem OO(f g:Bool)(cs:List c8)(hc:cs.length≤1000)(hn:∀c∈cs,bM c.name)(l:List Int):r9 pr 149 f g cs l 0 100000000 1:=by
 rintro kind at' ⟨h0,h9⟩
 have hat:=fJ l at'
 refine fA k149.has ?_
 repeat'((conv=>whnf);first|((first|apply aC.use|apply aC.draw);exact aC.of (jY g l _);rintro r rfl)|(refine j5.own (BT f _ cs hc hn _ (iG hat.1 (by omega) (by decide)).1 (Int.le_trans (iG hat.1 (by omega) (by decide)).2 (by omega))) rfl (fun es hes hp=>?_))|refine aI ?_|refine oA ?_|refine oM fun x hx hm=>?_|((first|apply aK|apply aL|apply aM|apply aF|apply aE)<;>intro h<;>(try simp at h)<;>(try(exfalso;omega))))
 any_goals((conv=>whnf);first|exact⟨_,_,_,rfl,rfl,rfl,hp,hes⟩|fail)
set_option maxRecDepth 20000 in
set_option maxHeartbeats 4000000 in
theorem E5(h1:149=149)(h2:149=149)(f g:Bool)(cs:List c8)(hc:cs.length≤1000)(hn:∀c∈cs,bM c.name)(l:List Int){d A B:Int}{N:Nat}(hN:N≤1000)(hd:1≤d)(hE:r9 pr 149 f g cs l (IntKind.i64.wrap (d-1)) A N)(hB:B≤30000000)(hAB:12*B+12≤A):
  r9 pr 149 f g cs l d B (3*N+1):=by
 rintro kind at' ⟨h0,h9⟩
 have h9:at'≤100000000:=by omega
 have hA:3*at'+3≤A:=by omega
 have hat:=fJ l at'
 refine fA k149.has ?_
 repeat'((conv=>whnf);first|((first|apply aC.use|apply aC.draw);exact aC.of (jY g l _);rintro r rfl)|refine aI ?_|refine oA ?_|refine oM fun x hx hm=>?_|((first|apply aK|apply aL|apply aM|apply aF|apply aE)<;>intro h<;>(try simp at h)<;>(try(exfalso;omega))))
 ·repeat'((conv=>whnf);first|(refine j5.own (BT f _ cs hc hn _ (iG hat.1 (by omega) (by decide)).1 (Int.le_trans (iG hat.1 (by omega) (by decide)).2 (by omega))) rfl (fun es hes hp=>?_))|refine aI ?_|refine oA ?_|refine oM fun x hx hm=>?_|((first|apply aK|apply aL|apply aM|apply aF|apply aE)<;>intro h<;>(try simp at h)<;>(try(exfalso;omega))))
  any_goals((conv=>whnf);first|exact⟨_,_,_,rfl,rfl,rfl,hp,hes.mono (by omega)⟩|fail)
 ·repeat'((conv=>whnf);first|((first|apply aC.use|apply aC.draw);exact(hE _ _ (by first|exact kS h0 h9 hA (by decide) (by decide) (by decide) (by decide)|(apply kS h0 h9 hA<;>decide))).frz rfl;rintro r ⟨es,rfl,e,rfl,he⟩)|(refine j5.own (iV true _ (by first|exact FF (by assumption) (by assumption) (by assumption)|exact FE (by assumption) (by assumption)|exact FD (by assumption)) hN) rfl (fun es hes hp=>?_))|refine aI ?_|refine oA ?_|refine oM fun x hx hm=>?_|((first|apply aK|apply aL|apply aM|apply aF|apply aE)<;>intro h<;>(try simp at h)<;>(try(exfalso;omega))))
  any_goals((conv=>whnf);first|exact⟨_,_,_,rfl,rfl,rfl,hp,hes⟩|fail)
 ·repeat'((conv=>whnf);first|((first|apply aC.use|apply aC.draw);exact(hE _ _ (by first|exact kS h0 h9 hA (by decide) (by decide) (by decide) (by decide)|(apply kS h0 h9 hA<;>decide))).frz rfl;rintro r ⟨es,rfl,e,rfl,he⟩)|(refine j5.own (iV true _ (by first|exact FF (by assumption) (by assumption) (by assumption)|exact FE (by assumption) (by assumption)|exact FD (by assumption)) hN) rfl (fun es hes hp=>?_))|refine aI ?_|refine oA ?_|refine oM fun x hx hm=>?_|((first|apply aK|apply aL|apply aM|apply aF|apply aE)<;>intro h<;>(try simp at h)<;>(try(exfalso;omega))))
  any_goals((conv=>whnf);first|exact⟨_,_,_,rfl,rfl,rfl,hp,hes⟩|fail)
 ·repeat'((conv=>whnf);first|(refine j5.own (IZ f g cs hc hn l hN (by rw[h1];exact hE) _ (by have hq:=kS (A:=3*at'+3) h0 h9 (Int.le_refl _) (k:=3) (j:=1) (by decide) (by decide) (by decide) (by decide);omega) (by have hq:=kS (A:=3*at'+3) h0 h9 (Int.le_refl _) (k:=3) (j:=1) (by decide) (by decide) (by decide) (by decide);omega) (by have hq:=kS (A:=3*at'+3) h0 h9 (Int.le_refl _) (k:=3) (j:=1) (by decide) (by decide) (by decide) (by decide);omega)) rfl (fun es hes hp=>?_))|refine aI ?_|refine oA ?_|refine oM fun x hx hm=>?_|((first|apply aK|apply aL|apply aM|apply aF|apply aE)<;>intro h<;>(try simp at h)<;>(try(exfalso;omega))))
  any_goals((conv=>whnf);first|exact⟨_,_,_,rfl,rfl,rfl,hp,hes⟩|fail)
 ·repeat'((conv=>whnf);first|(refine j5.own (J7 f g cs hc hn l hN (by rw[h2];exact hE) _ (by have hq:=kS (A:=3*at'+3) h0 h9 (Int.le_refl _) (k:=3) (j:=1) (by decide) (by decide) (by decide) (by decide);omega) (by have hq:=kS (A:=3*at'+3) h0 h9 (Int.le_refl _) (k:=3) (j:=1) (by decide) (by decide) (by decide) (by decide);omega) (by have hq:=kS (A:=3*at'+3) h0 h9 (Int.le_refl _) (k:=3) (j:=1) (by decide) (by decide) (by decide) (by decide);omega)) rfl (fun es hes hp=>?_))|refine aI ?_|refine oA ?_|refine oM fun x hx hm=>?_|((first|apply aK|apply aL|apply aM|apply aF|apply aE)<;>intro h<;>(try simp at h)<;>(try(exfalso;omega))))
  any_goals((conv=>whnf);first|exact⟨_,_,_,rfl,rfl,rfl,hp,hes⟩|fail)
 ·repeat'((conv=>whnf);first|((first|apply aC.use|apply aC.draw);exact(hE _ _ (by first|exact kS h0 h9 hA (by decide) (by decide) (by decide) (by decide)|(apply kS h0 h9 hA<;>decide))).frz rfl;rintro r ⟨es,rfl,e,rfl,he⟩)|(refine j5.own (iV true _ (by first|exact FF (by assumption) (by assumption) (by assumption)|exact FE (by assumption) (by assumption)|exact FD (by assumption)) hN) rfl (fun es hes hp=>?_))|refine aI ?_|refine oA ?_|refine oM fun x hx hm=>?_|((first|apply aK|apply aL|apply aM|apply aF|apply aE)<;>intro h<;>(try simp at h)<;>(try(exfalso;omega))))
  any_goals((conv=>whnf);first|exact⟨_,_,_,rfl,rfl,rfl,hp,hes⟩|fail)
 ·repeat'((conv=>whnf);first|(refine j5.own (hE _ _ (by first|exact kS h0 h9 hA (by decide) (by decide) (by decide) (by decide)|(apply kS h0 h9 hA<;>decide))) rfl (fun es hes hp=>?_);obtain⟨e,rfl,he⟩:=hes;have he1:=he.1)|(refine aC.bor (yZ false f e cs ⟨by omega,he.2⟩ (by omega)) Z0 (.cons (qR rfl rfl hp) (.cons (.same _ rfl) .nil)) (fun r hr=>?_);obtain⟨b,rfl⟩:=hr)|refine aI ?_|refine oA ?_|refine oM fun x hx hm=>?_|((first|apply aK|apply aL|apply aM|apply aF|apply aE)<;>intro h<;>(try simp at h)<;>(try(exfalso;omega))))
  any_goals((conv=>whnf);first|exact⟨_,_,_,rfl,rfl,rfl,hp,DB.mono ⟨e,rfl,he⟩ (by omega)⟩|fail)
  conv=>whnf
  refine Gp.none (live:=[(0,.int .i64 kind),(1,.list f 3 (cC cs)),(2,.list g 1 (iC l)),(3,.int .i64 at'),(4,.int .i64 d),(11,.int .i64 (DX l at')),(13,.int .i64 (IntKind.i64.wrap (IntKind.i64.wrap (3*at')+2))),(15,.list false 6 (mC fZ e))]) rfl ⟨.closed _ rfl,.closed _ rfl,.closed _ rfl,.closed _ rfl,.closed _ rfl,.closed _ rfl,.closed _ rfl,qH rfl rfl rfl hp,trivial⟩ fun ρ1 h=>?_
  obtain⟨dd,rfl⟩:=h
  repeat'((conv=>whnf);first|((first|apply aC.use|apply aC.draw);exact(hE _ _ (by first|exact kS h0 h9 hA (by decide) (by decide) (by decide) (by decide)|(apply kS h0 h9 hA<;>decide))).frz rfl;rintro r ⟨es,rfl,e,rfl,he⟩)|(refine j5.own (iV true _ (by first|exact FF (by assumption) (by assumption) (by assumption)|exact FE (by assumption) (by assumption)|exact FD (by assumption)) hN) rfl (fun es hes hp=>?_))|refine aI ?_|refine oA ?_|refine oM fun x hx hm=>?_|((first|apply aK|apply aL|apply aM|apply aF|apply aE)<;>intro h<;>(try simp at h)<;>(try(exfalso;omega))))
  any_goals((conv=>whnf);first|exact⟨_,_,_,rfl,rfl,rfl,hp,hes⟩|fail)
theorem B8(h1:149=149)(h2:149=149)(f g:Bool)(cs:List c8)(hc:cs.length≤1000)(hn:∀c∈cs,bM c.name)(l:List Int){d:Int}(hd:d=1∨d=2):r9 pr 149 f g cs l d 100000 13:=by
 have e0:=OO f g cs hc hn l
 have e1:r9 pr 149 f g cs l 1 8000000 4:=E5 h1 h2 f g cs hc hn l (d:=1) (A:=100000000) (N:=1) (by decide) (by decide) (by rw[show IntKind.i64.wrap (1-1)=0 by decide];exact e0) (by decide) (by decide)
 have e2:r9 pr 149 f g cs l 2 600000 13:=E5 h1 h2 f g cs hc hn l (d:=2) (A:=8000000) (N:=4) (by decide) (by decide) (by rw[show IntKind.i64.wrap (2-1)=1 by decide];exact e1) (by decide) (by decide)
 rintro kind v ⟨h0,h9⟩
 rcases hd with rfl|rfl
 ·obtain⟨es,ha,hb⟩:=e1 kind v ⟨h0,by omega⟩
  exact⟨es,ha.mono (by decide),hb⟩
 ·exact e2 kind v ⟨h0,by omega⟩
def LV{α:Type}(sz:Nat)(f:α→List a6)(p:α→Prop)(v:a6):Prop:=∃l:List α,gG v (.list false sz (mC f l))∧v.isPure=true∧Fl p l
theorem gA{α:Type}{p:α→Prop}:Fl p []:=⟨by simp,fun x h=>by simp at h⟩
theorem pT{α:Type}{p:α→Prop}{x:α}(h:p x):Fl p [x]:=⟨by simp,fun y hy=>by simp at hy;subst hy;exact h⟩
theorem LV.nil{α:Type}{sz:Nat}{f:α→List a6}{p:α→Prop}:LV sz f p .nil:=⟨[],.nil _ _,rfl,gA⟩
def LS(v:a6):Prop:=∃l:List ByteArray,gG v (sL l)∧v.isPure=true∧Fl bM l
theorem LS.nil:LS .nil:=⟨[],.nil _ _,rfl,gA⟩
theorem LS.one{s:ByteArray}(h:bM s):LS (.list true 1 [[.str s]]):=⟨[s],.lst rfl rfl,rfl,pT h⟩
theorem LS.l{l:List ByteArray}(h:∀s∈l,bM s)(h2:l.length≤2):LS (sL l):=⟨l,.refl _,rfl,by omega,h⟩
abbrev LI(v:a6):Prop:=LV 5 FZ X5 v
abbrev LN(v:a6):Prop:=LV 6 fZ xI v
theorem LN.l{e:List oN}{N:Nat}(h:Nd N e)(hN:N≤100000):LN (.list false 6 (mC fZ e)):=⟨e,.refl _,rfl,Nat.le_trans h.1 hN,h.2⟩
theorem LI.one{a c:ByteArray}{fn num:Int}{X:a6}(ha:bM a)(hc:bM c)(hX:LN X):LI (.list true 5 [[.str a,.int .i64 fn,.str c,.int .i64 num,X]]):=by
 obtain⟨e,hw,hp,he⟩:=hX
 exact⟨[⟨a,fn,c,num,e⟩],gG.rows (by exact⟨⟨rfl,rfl,.cons (.refl _) (.cons (.refl _) (.cons (.refl _) (.cons (.refl _) (.cons hw .nil))))⟩,trivial⟩),rfl,pT ⟨ha,hc,he⟩⟩
def tV(r:a6):Prop:=∃s:rC,gG r (.agg (cD s))∧lZ s
def N6(r:a6):Prop:=∃s:rC,r=.agg (cD s)∧lZ s
theorem tV.wk:∀r,tV r→∃r',gG r r'∧N6 r':=by
 rintro r ⟨s,hw,hs⟩
 exact⟨_,hw,s,rfl,hs⟩
theorem tV.wkT:∀r,tV r→∃r',gG r r'∧r'.clT=true∧N6 r':=by
 rintro r ⟨s,hw,hs⟩
 exact⟨_,hw,rfl,s,rfl,hs⟩
theorem SZ{op:Int}{nm:ByteArray}{N O I C:a6}(hnm:bM nm)(hN:LS N)(hO:LS O)(hI:LI I)(hC:LN C):(a6.agg [.int .i64 op,.str nm,N,O,I,C]).closed=true∧tV (.agg [.int .i64 op,.str nm,N,O,I,C]):=by
 obtain⟨ns,w1,p1,f1⟩:=hN
 obtain⟨os,w2,p2,f2⟩:=hO
 obtain⟨is,w3,p3,f3⟩:=hI
 obtain⟨e,w4,p4,f4⟩:=hC
 refine⟨?_,⟨op,nm,ns,os,is,e⟩,.aggs (.cons (.refl _) (.cons (.refl _) (.cons w1 (.cons w2 (.cons w3 (.cons w4 .nil)))))),hnm,f1,f2,f3,f4⟩
 show[a6.int .i64 op,.str nm,N,O,I,C].all a6.isPure=true
 simp only[List.all_cons,p1,p2,p3,p4,List.all_nil]
 rfl
theorem UO{H:List aB}{op:Int}{nm:ByteArray}{N O I C:a6}(hnm:bM nm)(hN:LS N)(hO:LS O)(hI:LI I)(hC:LN C):∃r,dV H 0 [] (.agg [.int .i64 op,.str nm,N,O,I,C]) r∧tV r:=⟨_,.closed _ (SZ hnm hN hO hI hC).1,(SZ hnm hN hO hI hC).2⟩
theorem Z1{H H0 G:List aB}{ids:List Nat}{op:Int}{nm:ByteArray}{N O I C:a6}(hH:H=H0++G)(hnm:bM nm)(hN:LS N)(hO:LS O)(hI:LI I)(hC:LN C):∃r G,H=H0++G∧dV H 0 ids (.agg [.int .i64 op,.str nm,N,O,I,C]) r∧r.clT=true∧tV r:=⟨_,_,hH,.closed _ (SZ hnm hN hO hI hC).1,(SZ hnm hN hO hI hC).1,(SZ hnm hN hO hI hC).2⟩
def ZK(N O:a6):Prop:=(N=.nil∧O=.nil)∨∃a b:ByteArray,bM a∧bM b∧N=.list true 1 [[.str a]]∧O=.list true 1 [[.str b]]
abbrev X6(r:jL)(op:Int)(N O:a6):List aB:=[.arr 4 [bR r],.arr 6 [[.int .i64 0,.str (bs []),.nil,.nil,.nil,.nil]],.arr 6 [[.int .i64 op,.str r.name,N,O,.nil,.nil]]]
def AQ(r:jL):Prop:=nF r∧Cz r.cols
set_option maxRecDepth 20000 in
set_option maxHeartbeats 4000000 in
theorem BP(f:Bool)(op:Int)(cs:List c8)(hc:Cz cs)(right:jL)(hr:AQ right)(n:Int)(h0:0≤n)(h9:n≤100000000):
  aC pr 148 [.int .i64 op,.list f 3 (cC cs),.agg (bR right),.int .i64 n] N6:=by
 obtain⟨c1,c2,c3⟩:=hc
 obtain⟨⟨r1,r2⟩,r3,r4,r5⟩:=hr
 have hl1:=aX cs
 have hl2:=aX right.cols
 obtain⟨Q,hQ⟩:∃Q,Q=cs.length*right.cols.length:=⟨_,rfl⟩
 have hQ2:Q≤144:=by rw[hQ];exact Nat.mul_le_mul c2 r4
 have hw:IntKind.i64.wrap ((cs.length:Int)*(right.cols.length:Int))=Q:=by rw[←Int.natCast_mul,←hQ];exact aW _ (by omega) (by omega)
 have low:=bP [right]
 refine aC.weak ?_ tV.wk
 refine aH k148.has (by simp only[List.all_cons,List.all_nil,jO];rfl) ?_
 repeat'((conv=>whnf);first|refine b4 ((bS _)) ?_|refine aI ?_|refine oA ?_|refine oM fun x hx hm=>?_|((first|apply aK|apply aL|apply aM|apply aF|apply aE)<;>intro h<;>(try simp at h)<;>(try(exfalso;omega))))
 refine⟨fun m ρ H1=>∃k:Nat,k+m=Q∧H1=X6 right op .nil .nil∧Sv 88 [(0,.int .i64 op),(1,.list f 3 (cC cs)),(3,.int .i64 n),(6,.ptr 0 1 0 0),(8,.ptr 1 1 0 0),(9,.ptr 2 1 0 0),(10,.int .i64 k)] ρ,Q,[],fun i ρ H1=>i=0∧∃N O,ZK N O∧H1=X6 right op N O∧Sv 88 [(0,.int .i64 op),(1,.list f 3 (cC cs)),(3,.int .i64 n),(6,.ptr 0 1 0 0),(8,.ptr 1 1 0 0),(9,.ptr 2 1 0 0)] ρ,?_,?_,?_⟩
 ·exact⟨0,by omega,rfl,Sv.intro rfl ⟨rfl,rfl,rfl,rfl,rfl,rfl,rfl,trivial⟩⟩
 ·rintro m ρ H1 ⟨k,hk,rfl,d,rfl⟩
  rcases Nat.lt_or_ge k Q with hkQ|hkQ
  ·have hb1:=G4 (n:=IntKind.i64.wrap (n+k)) (m:=(cC cs).length) (by rw[aW _ (by omega) (by omega)];omega) (by omega)
   have hq1:=iG (n:=n) h0 h9 (k:=8) (by decide)
   have hq2:=iG (n:=(k:Int)) (by omega) (by omega) (k:=((cC cs).length:Nat)) (by omega)
   have hb2:=G4 (n:=IntKind.i64.wrap (IntKind.i64.wrap (n.tdiv 8)+IntKind.i64.wrap ((k:Int).tdiv ((cC cs).length:Nat)))) (m:=(cC right.cols).length) (by rw[aW (IntKind.i64.wrap (n.tdiv 8)+_) (by omega) (by omega)];omega) (by omega)
   obtain⟨x,hx0⟩:∃x,cs[((IntKind.i64.wrap (n+k)).tmod ((cC cs).length:Nat)).toNat]?=some x:=⟨_,List.getElem?_eq_getElem (by omega)⟩
   obtain⟨y,hy0⟩:∃y,right.cols[((IntKind.i64.wrap (IntKind.i64.wrap (n.tdiv 8)+IntKind.i64.wrap ((k:Int).tdiv ((cC cs).length:Nat)))).tmod ((cC right.cols).length:Nat)).toNat]?=some y:=⟨_,List.getElem?_eq_getElem (by omega)⟩
   have hx:=iI hx0
   have hy:=iI hy0
   repeat'(first|refine aT (hx) ?_|refine aT (hy) ?_|((conv=>whnf);first|refine And.intro (by(conv=>whnf);exact And.intro hb1.1 (aT hx rfl)) ?_|refine And.intro (by(conv=>whnf);exact And.intro hb2.1 (aT hy rfl)) ?_|refine b4 ((bS _)) ?_|refine aI ?_|refine oA ?_|refine oM fun x hx hm=>?_|((first|apply aK|apply aL|apply aM|apply aF|apply aE)<;>intro h<;>(try simp at h)<;>(try(exfalso;omega)))))
   any_goals((conv=>whnf);first|(refine Gp.cut (H:=X6 right op (.list true 1 [[.str x.name]]) (.list true 1 [[.str y.name]])) rfl ⟨low _,rfl,rfl,trivial⟩ rfl rfl ?_ fun ρ1 h=>⟨rfl,_,_,.inr ⟨_,_,c3 _ (List.mem_of_getElem? hx0),r5 _ (List.mem_of_getElem? hy0),rfl,rfl⟩,rfl,h⟩;exact⟨rfl,rfl,rfl,rfl,rfl,rfl,trivial⟩)|(refine⟨m-1,by omega,Gp.cut (H:=X6 right op .nil .nil) rfl ⟨low _,rfl,rfl,trivial⟩ rfl rfl ?_ fun ρ1 h=>⟨k+1,by omega,rfl,h⟩⟩;exact⟨rfl,rfl,rfl,rfl,rfl,rfl,aN (dX (by omega)),trivial⟩)|fail)
  ·repeat'((conv=>whnf);first|refine b4 ((bS _)) ?_|refine aI ?_|refine oA ?_|refine oM fun x hx hm=>?_|((first|apply aK|apply aL|apply aM|apply aF|apply aE)<;>intro h<;>(try simp at h)<;>(try(exfalso;omega))))
   any_goals((conv=>whnf);first|(refine Gp.cut (H:=X6 right op .nil .nil) rfl ⟨low _,rfl,rfl,trivial⟩ rfl rfl ?_ fun ρ1 h=>⟨rfl,_,_,.inl ⟨rfl,rfl⟩,rfl,h⟩;exact⟨rfl,rfl,rfl,rfl,rfl,rfl,trivial⟩)|fail)
 ·rintro i ρ1 H1 ⟨rfl,N,O,hNO,rfl,dd,rfl⟩
  rcases hNO with⟨rfl,rfl⟩|⟨a,b,ha,hb,rfl,rfl⟩
  ·repeat'((conv=>whnf);first|((first|apply aC.use|apply aC.draw);exact xB f cs (by omega) n h0 h9;rintro r ⟨s1,rfl,hs1⟩)|((first|apply aC.use|apply aC.draw);exact p6 right.ec right.cols r3 (by omega) r5 _ (iG h0 h9 (by decide)).1;rintro r ⟨s2,rfl,hs2⟩)|refine b4 ((bS _)) ?_|refine aI ?_|refine oA ?_|refine oM fun x hx hm=>?_|((first|apply aK|apply aL|apply aM|apply aF|apply aE)<;>intro h<;>(try simp at h)<;>(try(exfalso;omega))))
   any_goals((conv=>whnf);first|exact UO r1 LS.nil LS.nil (LI.one (by assumption) (by assumption) LV.nil) LV.nil|exact UO r1 LS.nil LS.nil LV.nil LV.nil|fail)
  ·repeat'((conv=>whnf);first|((first|apply aC.use|apply aC.draw);exact xB f cs (by omega) n h0 h9;rintro r ⟨s1,rfl,hs1⟩)|((first|apply aC.use|apply aC.draw);exact p6 right.ec right.cols r3 (by omega) r5 _ (iG h0 h9 (by decide)).1;rintro r ⟨s2,rfl,hs2⟩)|refine b4 ((bS _)) ?_|refine aI ?_|refine oA ?_|refine oM fun x hx hm=>?_|((first|apply aK|apply aL|apply aM|apply aF|apply aE)<;>intro h<;>(try simp at h)<;>(try(exfalso;omega))))
   any_goals((conv=>whnf);first|exact UO r1 (LS.one ha) (LS.one hb) (LI.one (by assumption) (by assumption) LV.nil) LV.nil|exact UO r1 (LS.one ha) (LS.one hb) LV.nil LV.nil|fail)
theorem qX:bM (bs []):=(by decide:(0:Nat)≤100000)
theorem C9{vs:List Int}{i:Int}(h0:0≤i)(h:i<vs.length):∃v,(iC vs)[i.toNat]?=some [a6.int .i64 v]:=⟨_,BL (by omega)⟩
theorem Z2{H H0 G:List aB}{ids:List Nat}{s:rC}(hH:H=H0++G)(hs:lZ s):∃r G,H=H0++G∧dV H 0 ids (.agg (cD s)) r∧r.clT=true∧tV r:=⟨_,_,hH,.closed _ rfl,rfl,s,.refl _,hs⟩
set_option maxRecDepth 20000 in
set_option maxHeartbeats 8000000 in
theorem OI(h1:149=149)(h2:149=149)
  (f g:Bool) (cs:List c8) (hc:Cz cs) (rels:List jL) (hn1:1≤rels.length) (hn2:rels.length≤1000) (hr:∀r∈rels,AQ r) (l:List Int) (at':Int) (ha:0≤at') (ha2:at'≤90000) :
  cJ pr 186 [i8 rels] [.list f 3 (cC cs),.sl 0 rels.length 0 rels.length,.list g 1 (iC l),.int .i64 at'] N6:=by
 obtain⟨c1,c2,c3⟩:=hc
 have hN:=fJ l at'
 have hk:=fJ l (IntKind.i64.wrap (at'+1))
 have hb:=G4 (n:=DX l (IntKind.i64.wrap (at'+1))) (m:=rels.length) hk.1 hn1
 obtain⟨right,hr0⟩:∃r,rels[((DX l (IntKind.i64.wrap (at'+1))).tmod (rels.length:Nat)).toNat]?=some r:=⟨_,List.getElem?_eq_getElem (by omega)⟩
 have hright:=hr _ (List.mem_of_getElem? hr0)
 have hrm:(mC bR rels)[0+((DX l (IntKind.i64.wrap (at'+1))).tmod (rels.length:Nat)).toNat]?=some (bR right):=by rw[Nat.zero_add];exact oY hr0
 have hE:=B8 h1 h2 f g cs (by omega) c3 l (d:=2) (.inr rfl)
 have hw2:0≤IntKind.i64.wrap (at'+2)∧IntKind.i64.wrap (at'+2)≤100000:=by rw[aW _ (by omega) (by omega)];omega
 have hi8:0≤(IntKind.i64.wrap ((DX l at').tdiv 13)).tmod 8:=Int.tmod_nonneg _ (iG hN.1 (by omega) (by decide)).1
 obtain⟨fv,hfv⟩:=C9 (vs:=[1,3,8,9,10,11,12,13]) hi8 (Int.tmod_lt_of_pos _ (by decide))
 have low:=bP rels
 refine cJ.weak ?_ tV.wkT
 refine bQ k186.has ⟨low _,trivial⟩ ?_
 repeat'(first|refine aT (hrm) ?_|refine aT (hfv) ?_|((conv=>whnf);first|((first|apply aC.use|apply aC.draw);exact aC.of (jY g l _);rintro r rfl)|((first|apply aC.use|apply aC.draw);exact(hE _ _ hw2).frz rfl;rintro r ⟨es,rfl,e,rfl,he⟩)|((first|apply aC.use|apply aC.draw);exact xB f cs (by omega) _ hk.1 (Int.le_trans hk.2 (by decide));rintro r ⟨s1,rfl,hs1⟩)|((first|apply aC.use|apply aC.draw);exact KF f cs c1 (by omega) c3 _ (by first|exact hk.1|exact(iG hk.1 (Int.le_trans hk.2 (by decide)) (by decide)).1|fail) (by first|exact Int.le_trans hk.2 (by decide)|exact Int.le_trans (iG hk.1 (Int.le_trans hk.2 (by decide)) (by decide)).2 (Int.le_trans hk.2 (by decide))|fail);rintro r ⟨ns,rfl,hns1,hns2⟩)|((first|apply aC.use|apply aC.draw);exact p6 f cs c1 (by omega) c3 _ (by first|exact hk.1|exact(iG hk.1 (Int.le_trans hk.2 (by decide)) (by decide)).1|fail);rintro r ⟨s2,rfl,hs2⟩)|((first|apply aC.use|apply aC.draw);exact BP f _ cs ⟨c1,c2,c3⟩ right hright _ (by first|exact hk.1|exact(iG hk.1 (Int.le_trans hk.2 (by decide)) (by decide)).1|fail) (by first|exact Int.le_trans hk.2 (by decide)|exact Int.le_trans (iG hk.1 (Int.le_trans hk.2 (by decide)) (by decide)).2 (Int.le_trans hk.2 (by decide))|fail);rintro r ⟨sj,rfl,hsj⟩)|((first|apply aC.use|apply aC.draw);exact wO _;rintro r ⟨b1,b2,b3,rfl⟩)|refine And.intro hb ?_|refine And.intro hb.1 ?_|refine And.intro hi8 ?_|refine b4 ((bS _)) ?_|refine b4 (eL (aZ bR rels).symm) ?_|refine And.intro (by exact rfl) ?_|refine And.intro (by decide) ?_|refine aI ?_|refine oA ?_|refine oM fun x hx hm=>?_|((first|apply aK|apply aL|apply aM|apply aF|apply aE)<;>intro h<;>(try simp at h)<;>(try(exfalso;omega)))))
 any_goals((conv=>whnf);first|exact Z2 (by exact rfl) hsj|exact Z1 (by exact rfl) (by first|exact qX|exact hright.1.1|fail) (by first|exact LS.nil|exact LS.l (by assumption) (by assumption)|fail) (by first|exact LS.nil|exact LS.l (by assumption) (by assumption)|fail) (by first|exact LV.nil|exact LI.one (by first|assumption|exact qX|fail) (by first|assumption|exact qX|fail) (by first|exact LV.nil|exact LN.l (by assumption) (by decide)|fail)|fail) (by first|exact LV.nil|exact LN.l (by assumption) (by decide)|fail)|fail)
def TJ(e:List a6):Prop:=∃s:rC,(e.length=6∧oP e (cD s))∧lZ s
theorem TJ.c{s:rC}(hs:lZ s):TJ (cD s):=⟨s,⟨rfl,rfl,fun i a b h1 h2=>by rw[h1]at h2;cases h2;exact .refl _⟩,hs⟩
theorem TJ.from{nm:ByteArray}(h:bM nm):TJ [.int .i64 0,.str nm,.nil,.nil,.nil,.nil] :=
 ⟨⟨0,nm,[],[],[],[]⟩,⟨rfl,.cons (.refl _) (.cons (.refl _) (.cons (.nil _ _) (.cons (.nil _ _) (.cons (.nil _ _) (.cons (.nil _ _) .nil)))))⟩,h,gA,gA,gA,gA⟩
theorem ZH:∀{es:List (List a6)},(∀e∈es,TJ e)→∃q:List rC,q.length=es.length∧rD es (mC cD q)∧∀s∈q,lZ s
 |[],_=>⟨[],rfl,trivial,fun s h=>by simp at h⟩
 |e::es,h=>by
  obtain⟨q,h1,h2,h3⟩:=ZH fun e' he=>h e' (List.mem_cons_of_mem _ he)
  obtain⟨s,⟨h4,h5⟩,h6⟩:=h e (List.mem_cons_self ..)
  exact⟨s::q,by simp[h1],⟨⟨h4,rfl,h5⟩,h2⟩,fun x hx=>by
   rcases List.mem_cons.1 hx with rfl|hx
   ·exact h6
   ·exact h3 x hx⟩
def VF(r:a6):Prop:=∃es:List (List a6),r=.list false 6 es∧(∀e∈es,TJ e)∧es.length≤1001
def WU(r:a6):Prop:=∃q:List rC,r=PC q∧Fl lZ q
theorem VF.wk:∀r,VF r→∃r',gG r r'∧r'.clT=true∧WU r':=by
 rintro r ⟨es,rfl,h,hl⟩
 obtain⟨q,h1,h2,h3⟩:=ZH h
 exact⟨PC q,gG.rows h2,rfl,q,rfl,by omega,h3⟩
theorem jS{es:List (List a6)}{e:List a6}(h:bG es=true)(he:e.all a6.isPure=true):bG (es++[e])=true:=by
 unfold bG at h⊢
 rw[List.all_append,h]
 simpa using he
set_option maxRecDepth 20000 in
set_option maxHeartbeats 4000000 in
theorem LA(h1:149=149)(h2:149=149)
  (g:Bool) (rels:List jL) (hn1:1≤rels.length) (hn2:rels.length≤1000) (hr:∀r∈rels,AQ r) (l:List Int) (n:Int) (hn:n≤1000) :
  cJ pr 144 [i8 rels] [.sl 0 rels.length 0 rels.length,.list g 1 (iC l),.int .i64 n] WU:=by
 have hN:=fJ l 0
 have hb:=G4 (n:=DX l 0) (m:=rels.length) hN.1 hn1
 obtain⟨fi,hr0⟩:∃r,rels[((DX l 0).tmod (rels.length:Nat)).toNat]?=some r:=⟨_,List.getElem?_eq_getElem (by omega)⟩
 have hfi:=hr _ (List.mem_of_getElem? hr0)
 have hrm:(mC bR rels)[0+((DX l 0).tmod (rels.length:Nat)).toNat]?=some (bR fi):=by rw[Nat.zero_add];exact oY hr0
 have hfl:Fl nF rels:=⟨by omega,fun r h=>(hr r h).1⟩
 have low:=bP rels
 have low2:=bP [fi]
 refine cJ.weak ?_ VF.wk
 refine bQ k144.has ⟨low _,trivial⟩ ?_
 repeat'(first|refine aT (hrm) ?_|((conv=>whnf);first|((first|apply aC.use|apply aC.draw);exact aC.of (jY g l 0);rintro r rfl)|refine And.intro hb ?_|refine And.intro hb.1 ?_|refine b4 ((bS _)) ?_|refine b4 (eL (aZ bR rels).symm) ?_|refine And.intro (by exact rfl) ?_|refine And.intro (by decide) ?_|refine aI ?_|refine oA ?_|refine oM fun x hx hm=>?_|((first|apply aK|apply aL|apply aM|apply aF|apply aE)<;>intro h<;>(try simp at h)<;>(try(exfalso;omega)))))
 conv=>whnf
 refine⟨fun m ρ H1=>∃(k:Nat) (es:List (List a6)) (b:Bool) (cs:List c8),m=(n-(k:Int)).toNat∧k≤1001∧es.length≤k∧(∀e∈es,TJ e)∧bG es=true∧Cz cs∧H1=[i8 rels,.arr 4 [bR fi],.arr 6 es]∧Sv 65 [(0,.sl 0 rels.length 0 rels.length),(1,.list g 1 (iC l)),(2,.int .i64 n),(8,.sl 2 es.length 0 es.length),(9,.list b 3 (cC cs)),(10,.int .i64 k)] ρ,(n-((1:Nat):Int)).toNat,[],fun i ρ H1=>i=0∧∃es:List (List a6),es.length≤1001∧(∀e∈es,TJ e)∧bG es=true∧H1=[i8 rels,.arr 4 [bR fi],.arr 6 es]∧Sv 65 [(8,.sl 2 es.length 0 es.length)] ρ,?_,?_,?_⟩
 ·exact⟨1,[[.int .i64 0,.str fi.name,.nil,.nil,.nil,.nil]],fi.ec,fi.cols,rfl,by decide,Nat.le_refl 1,(fun e he=>by simp at he;subst he;exact .from hfi.1.1),rfl,hfi.2,rfl,Sv.intro rfl ⟨rfl,rfl,rfl,rfl,rfl,rfl,trivial⟩⟩
 ·rintro m ρ H1 ⟨k,es,b,cs,rfl,hk,hel,hes,hp,hcs,rfl,d,rfl⟩
  have hcl:=hcs.le
  repeat'((conv=>whnf);first|(refine cJ.use [0] (OI h1 h2 b g cs hcs rels hn1 hn2 hr l (IntKind.i64.wrap (4*(k:Int))) (by rw[aW _ (by omega) (by omega)];omega) (by rw[aW _ (by omega) (by omega)];omega)) (by simp) rfl ⟨⟨_,rfl,.same (aV cI rels)⟩,trivial⟩ ⟨.closed _ rfl,.sl 0 _ _ _,.closed _ rfl,.closed _ rfl,trivial⟩ (fun r hr=>?_);obtain⟨s,rfl,hs⟩:=hr)|(refine cJ.use [0] (pS rels (by omega) _) (by simp) rfl ⟨⟨_,rfl,.same (aV cI rels)⟩,trivial⟩ ⟨.sl 0 _ _ _,.closed _ rfl,trivial⟩ (fun r hr=>?_);obtain⟨x,b2,rfl,hf1,hf2⟩:=hr)|((first|apply aC.use|apply aC.draw);exact tI;rintro r rfl)|((first|apply aC.use|apply aC.draw);exact D4 b x.ec false cs x.cols s Q6 hcl (A2 hfl hf1 hf2) hs AK;rintro r ⟨c4,c5,rfl,hc6,hc7⟩)|refine b4 ((bS _)) ?_|refine b4 (eL rfl) ?_|refine And.intro (⟨by simp[aQ];omega,by simp[aQ];omega,rfl,rfl⟩) ?_|refine aI ?_|refine oA ?_|refine oM fun x hx hm=>?_|((first|apply aK|apply aL|apply aM|apply aF|apply aE)<;>intro h<;>(try simp at h)<;>(try(exfalso;omega))))
  any_goals((conv=>whnf);first|(refine⟨(n-((k+1:Nat):Int)).toNat,by omega,Gp.cutN (H:=[i8 rels,.arr 4 [bR fi],.arr 6 (es++[cD s])]) rfl ⟨rfl,trivial⟩ ⟨low _,low2 _,bV (jS hp (KJ s)),trivial⟩ rfl rfl ?_ fun ρ1 h=>⟨k+1,_,false,c4,rfl,by omega,by simp;omega,dE hes (TJ.c hs),jS hp (KJ s),hc7 (by assumption),rfl,h⟩⟩;exact⟨rfl,rfl,rfl,eQ (by simp) (by simp),rfl,aN (dX (by omega)),trivial⟩)|(refine⟨(n-((k+1:Nat):Int)).toNat,by omega,Gp.cutN (H:=[i8 rels,.arr 4 [bR fi],.arr 6 es]) rfl ⟨rfl,trivial⟩ ⟨low _,low2 _,bV hp,trivial⟩ rfl rfl ?_ fun ρ1 h=>⟨k+1,es,b,cs,rfl,by omega,by omega,hes,hp,hcs,rfl,h⟩⟩;exact⟨rfl,rfl,rfl,rfl,rfl,aN (dX (by omega)),trivial⟩)|(refine Gp.cutN (H:=[i8 rels,.arr 4 [bR fi],.arr 6 es]) rfl ⟨rfl,trivial⟩ ⟨low _,low2 _,bV hp,trivial⟩ rfl rfl ?_ fun ρ1 h=>⟨rfl,es,by omega,hes,hp,rfl,h⟩;exact⟨rfl,trivial⟩)|fail)
 ·rintro i ρ1 H1 ⟨rfl,es,hel,hes,hp,rfl,dd,rfl⟩
  conv=>whnf
  exact⟨_,_,by exact rfl,mG P4 rfl rfl rfl hp,rfl,es,rfl,hes,hel⟩
def KU(r:a6):Prop:=∃m:vE,gG r (.agg (gR m))∧G3 m
def N5(r:a6):Prop:=∃m:vE,r=.agg (gR m)∧G3 m
theorem KU.wkT:∀r,KU r→∃r',gG r r'∧r'.clT=true∧N5 r':=by
 rintro r ⟨s,hw,hs⟩
 exact⟨_,hw,rfl,s,rfl,hs⟩
theorem ZD{H H0 G:List aB}{ids:List Nat}{s p z o:ByteArray}{q:List rC}{a c:Int}(hH:H=H0++G)(hs:bM s)(hq:Fl lZ q)(hp:bM p)(hz:bM z)(ho:bM o):
  ∃r G,H=H0++G∧dV H 0 ids (.agg [.str s,.nil,PC q,.str p,.str z,.int .i64 a,.str o,.int .i64 c]) r∧r.clT=true∧KU r :=
 ⟨_,_,hH,.closed _ rfl,rfl,⟨s,[],q,p,z,a,o,c⟩,.aggs (.cons (.refl _) (.cons (.nil _ _) (.cons (.refl _) (.cons (.refl _) (.cons (.refl _) (.cons (.refl _) (.cons (.refl _) (.cons (.refl _) .nil)))))))),hs,gA,hq,hp,hz,ho⟩
theorem s7{n:Int}(h0:0≤n)(h3:n<3){a b c:ByteArray}(ha:bM a)(hb:bM b)(hc:bM c):∃s,[[a6.str a],[a6.str b],[a6.str c]][n.toNat]?=some [.str s]∧bM s:=by
 obtain⟨s,h1,h2⟩:=UZ h0 h3 a b c
 exact⟨s,h1,by rcases h2 with rfl|rfl|rfl<;>assumption⟩
theorem kO(a b:Nat):bM (bs [a,b]):=(by decide:(2:Nat)≤100000)
theorem XO(a b c d:Nat):bM (bs [a,b,c,d]):=(by decide:(4:Nat)≤100000)
theorem BW{n:Int}(h0:0≤n):0≤n.tmod 3∧n.tmod 3<3:=⟨Int.tmod_nonneg _ h0,Int.tmod_lt_of_pos _ (by decide)⟩
set_option maxRecDepth 20000 in
set_option maxHeartbeats 4000000 in
theorem AX(h1:149=149)(h2:149=149)
  (g:Bool) (rels:List jL) (hn1:1≤rels.length) (hn2:rels.length≤1000) (hr:∀r∈rels,AQ r) (l:List Int) (hll:l.length≤1000000) (at':Int) (ha:0≤at') :
  cJ pr 92 [i8 rels] [.int .i64 at',.sl 0 rels.length 0 rels.length,.list g 1 (iC l)] N5:=by
 obtain⟨n,hn⟩:∃n,n=DX l 1:=⟨_,rfl⟩
 have hN:0≤n∧n≤131070:=by rw[hn];exact fJ l 1
 have hat:aC pr 88 [.list g 1 (iC l),.int .i64 1] (fun r=>r=.int .i64 n):=by rw[hn];exact aC.of (jY g l 1)
 have hfl:Fl nF rels:=⟨by omega,fun r h=>(hr r h).1⟩
 have ha3:=BW ha
 obtain⟨s1,hs1,hf1⟩:=s7 ha3.1 ha3.2 (kO 109 97) (kO 109 98) (kO 109 99)
 have hb3:=BW (iG hN.1 (by omega) (k:=16) (by decide)).1
 obtain⟨s2,hs2,hf2⟩:=s7 hb3.1 hb3.2 qX (XO 101 97 115 116) (XO 119 101 115 116)
 have hc3:=BW (iG hN.1 (by omega) (k:=7) (by decide)).1
 obtain⟨s3,hs3,hf3⟩:=s7 hc3.1 hc3.2 (kO 122 48) (kO 122 49) (kO 122 50)
 have hq4:IntKind.i64.wrap (2+n.tmod 4)≤1000:=by
  have h3:0≤n.tmod 4:=Int.tmod_nonneg _ hN.1
  have h4:n.tmod 4<4:=Int.tmod_lt_of_pos _ (by decide)
  rw[aW _ (by omega) (by omega)];omega
 have low:=bP rels
 refine cJ.weak ?_ KU.wkT
 refine bQ k92.has ⟨low _,trivial⟩ ?_
 repeat'(first|refine aT (hs1) ?_|refine aT (hs2) ?_|((conv=>whnf);first|((first|apply aC.use|apply aC.draw);exact hat;rintro r rfl)|((first|apply aC.use|apply aC.draw);exact T1 g l 2 hll (by decide);rintro r ⟨y,l',rfl,hl'⟩)|(refine cJ.use [0] (LA h1 h2 y rels hn1 hn2 hr l' _ hq4) (by simp) rfl ⟨⟨_,rfl,.same (aV cI rels)⟩,trivial⟩ ⟨.sl 0 _ _ _,.closed _ rfl,.closed _ rfl,trivial⟩ (fun r hr=>?_);obtain⟨q,rfl,hq⟩:=hr)|((first|apply aC.use|apply aC.draw);exact tI;rintro r rfl)|(refine cJ.use [0] (nR false false q rels Q6 hq hfl AK) (by simp) rfl ⟨⟨_,rfl,.same (aV cI rels)⟩,trivial⟩ ⟨.closed _ rfl,.sl 0 _ _ _,.closed _ rfl,trivial⟩ (fun r hr=>?_);obtain⟨L,e,rfl,hL,hLp⟩:=hr;have hw:IntKind.i64.wrap (((mC I9 L).length:Int)-1)=L.length-1:=(by rw[aZ];exact aW ((L.length:Int)-1) (by omega) (by omega));rcases Decidable.em (e=0)with he|he;obtain⟨q1,q2,q3,q4⟩:=hLp he)|refine iQ (by rw[hw];omega) (fun x hx hm=>?_)|refine And.intro ha3.1 ?_|refine And.intro hb3.1 ?_|refine And.intro hc3.1 ?_|refine And.intro (by(conv=>whnf);exact And.intro ha3.1 (aT hs1 rfl)) ?_|refine And.intro (by(conv=>whnf);exact And.intro hb3.1 (aT hs2 rfl)) ?_|refine And.intro (by(conv=>whnf);exact And.intro hc3.1 (aT hs3 rfl)) ?_|refine And.intro (by exact rfl) ?_|refine And.intro (by decide) ?_|refine aI ?_|refine oA ?_|refine oM fun x hx hm=>?_|((first|apply aK|apply aL|apply aM|apply aF|apply aE)<;>intro h<;>(try simp at h)<;>(try(exfalso;omega)))))
 any_goals((conv=>whnf);first|exact ZD (by exact rfl) hf1 hq qX qX hf2|fail)
 have hx1:=q3 x hm
 obtain⟨x1,x2,x3⟩:=hx1
 have hcx:=aX x
 conv=>whnf
 obtain⟨a,ha'⟩:∃a,a=(IntKind.i64.wrap (n.tdiv 4)).tmod 3:=⟨_,rfl⟩
 obtain⟨c,hc'⟩:∃c,c=IntKind.i64.wrap (1+(IntKind.i64.wrap (n.tdiv 64)).tmod 3):=⟨_,rfl⟩
 refine⟨fun m ρ H1=>∃(k:Nat) (p z:ByteArray),k+m=x.length∧bM p∧bM z∧H1=[i8 rels,.arr 8 [[.str (bs []),.nil,.nil,.str (bs []),.str (bs []),.int .i64 0,.str (bs []),.int .i64 0]],.arr 8 [[.str s1,.nil,PC q,.str p,.str z,.int .i64 a,.str s2,.int .i64 c]]]∧Sv 103 [(6,.ptr 1 1 0 0),(7,.int .i64 n),(8,.ptr 2 1 0 0),(11,cL x),(12,.int .i64 k)] ρ,x.length,[],fun i ρ H1=>i=0∧∃p z:ByteArray,bM p∧bM z∧H1=[i8 rels,.arr 8 [[.str (bs []),.nil,.nil,.str (bs []),.str (bs []),.int .i64 0,.str (bs []),.int .i64 0]],.arr 8 [[.str s1,.nil,PC q,.str p,.str z,.int .i64 a,.str s2,.int .i64 c]]]∧Sv 103 [(6,.ptr 1 1 0 0),(8,.ptr 2 1 0 0)] ρ,?_,?_,?_⟩
 ·exact⟨0,bs [],bs [],by omega,qX,qX,by rw[ha',hc'];rfl,Sv.intro rfl ⟨rfl,rfl,rfl,rfl,rfl,trivial⟩⟩
 ·rintro m ρ H1 ⟨k,p,z,hk,hp,hz,rfl,d,rfl⟩
  rcases Nat.lt_or_ge k x.length with hkx|hkx
  ·have hb:=G4 (n:=IntKind.i64.wrap (n+k)) (m:=(cC x).length) (by rw[aW _ (by omega) (by omega)];omega) (by omega)
   obtain⟨y,hy0⟩:∃y,x[((IntKind.i64.wrap (n+k)).tmod ((cC x).length:Nat)).toNat]?=some y:=⟨_,List.getElem?_eq_getElem (by omega)⟩
   have hy:=iI hy0
   repeat'(first|refine aT (hy) ?_|refine aT (hs3) ?_|((conv=>whnf);first|refine And.intro hb ?_|refine And.intro ha3.1 ?_|refine And.intro hb3.1 ?_|refine And.intro hc3.1 ?_|refine And.intro (by(conv=>whnf);exact And.intro ha3.1 (aT hs1 rfl)) ?_|refine And.intro (by(conv=>whnf);exact And.intro hb3.1 (aT hs2 rfl)) ?_|refine And.intro (by(conv=>whnf);exact And.intro hc3.1 (aT hs3 rfl)) ?_|refine And.intro (by exact rfl) ?_|refine And.intro (by decide) ?_|refine aI ?_|refine oA ?_|refine oM fun x hx hm=>?_|((first|apply aK|apply aL|apply aM|apply aF|apply aE)<;>intro h<;>(try simp at h)<;>(try(exfalso;omega)))))
   any_goals((conv=>whnf);first|(refine⟨m-1,by omega,Gp.cutN (H:=[i8 rels,.arr 8 [[.str (bs []),.nil,.nil,.str (bs []),.str (bs []),.int .i64 0,.str (bs []),.int .i64 0]],.arr 8 [[.str s1,.nil,PC q,.str y.name,.str s3,.int .i64 a,.str s2,.int .i64 c]]]) rfl ⟨rfl,trivial⟩ ⟨low _,rfl,rfl,trivial⟩ rfl rfl ?_ fun ρ1 h=>⟨k+1,_,_,by omega,x3 _ (List.mem_of_getElem? hy0),hf3,rfl,h⟩⟩;exact⟨rfl,rfl,rfl,rfl,aN (dX (by omega)),trivial⟩)|(refine⟨m-1,by omega,Gp.cutN (H:=[i8 rels,.arr 8 [[.str (bs []),.nil,.nil,.str (bs []),.str (bs []),.int .i64 0,.str (bs []),.int .i64 0]],.arr 8 [[.str s1,.nil,PC q,.str p,.str z,.int .i64 a,.str s2,.int .i64 c]]]) rfl ⟨rfl,trivial⟩ ⟨low _,rfl,rfl,trivial⟩ rfl rfl ?_ fun ρ1 h=>⟨k+1,p,z,by omega,hp,hz,rfl,h⟩⟩;exact⟨rfl,rfl,rfl,rfl,aN (dX (by omega)),trivial⟩)|(refine Gp.cutN (H:=[i8 rels,.arr 8 [[.str (bs []),.nil,.nil,.str (bs []),.str (bs []),.int .i64 0,.str (bs []),.int .i64 0]],.arr 8 [[.str s1,.nil,PC q,.str p,.str z,.int .i64 a,.str s2,.int .i64 c]]]) rfl ⟨rfl,trivial⟩ ⟨low _,rfl,rfl,trivial⟩ rfl rfl ?_ fun ρ1 h=>⟨rfl,p,z,hp,hz,rfl,h⟩;exact⟨rfl,rfl,trivial⟩)|fail)
  ·repeat'((conv=>whnf);first|refine And.intro ha3.1 ?_|refine And.intro hb3.1 ?_|refine And.intro hc3.1 ?_|refine And.intro (by(conv=>whnf);exact And.intro ha3.1 (aT hs1 rfl)) ?_|refine And.intro (by(conv=>whnf);exact And.intro hb3.1 (aT hs2 rfl)) ?_|refine And.intro (by(conv=>whnf);exact And.intro hc3.1 (aT hs3 rfl)) ?_|refine And.intro (by exact rfl) ?_|refine And.intro (by decide) ?_|refine aI ?_|refine oA ?_|refine oM fun x hx hm=>?_|((first|apply aK|apply aL|apply aM|apply aF|apply aE)<;>intro h<;>(try simp at h)<;>(try(exfalso;omega))))
   any_goals((conv=>whnf);first|(refine Gp.cutN (H:=[i8 rels,.arr 8 [[.str (bs []),.nil,.nil,.str (bs []),.str (bs []),.int .i64 0,.str (bs []),.int .i64 0]],.arr 8 [[.str s1,.nil,PC q,.str p,.str z,.int .i64 a,.str s2,.int .i64 c]]]) rfl ⟨rfl,trivial⟩ ⟨low _,rfl,rfl,trivial⟩ rfl rfl ?_ fun ρ1 h=>⟨rfl,p,z,hp,hz,rfl,h⟩;exact⟨rfl,rfl,trivial⟩)|fail)
 ·rintro i ρ1 H1 ⟨rfl,p,z,hp,hz,rfl,dd,rfl⟩
  repeat'((conv=>whnf);first|refine aI ?_|refine oA ?_|refine oM fun x hx hm=>?_|((first|apply aK|apply aL|apply aM|apply aF|apply aE)<;>intro h<;>(try simp at h)<;>(try(exfalso;omega))))
  any_goals((conv=>whnf);first|exact ZD (by exact rfl) hf1 hq hp hz hf2|fail)
def Z6{α:Type}(f:α→List a6)(p:α→Prop)(e:List a6):Prop:=∃x:α,(e.length=(f x).length∧oP e (f x))∧p x
theorem ZA{α:Type}{f:α→List a6}{p:α→Prop}(hf:∀x,(f x).all a6.isCell=true):∀{es:List (List a6)},(∀e∈es,Z6 f p e)→∃q:List α,q.length=es.length∧rD es (mC f q)∧∀s∈q,p s
 |[],_=>⟨[],rfl,trivial,fun s h=>by simp at h⟩
 |e::es,h=>by
  obtain⟨q,h1,h2,h3⟩:=ZA hf fun e' he=>h e' (List.mem_cons_of_mem _ he)
  obtain⟨s,⟨h4,h5⟩,h6⟩:=h e (List.mem_cons_self ..)
  exact⟨s::q,by simp[h1],⟨⟨h4,hf s,h5⟩,h2⟩,fun x hx=>by
   rcases List.mem_cons.1 hx with rfl|hx
   ·exact h6
   ·exact h3 x hx⟩
theorem WD{n:Int}(h0:0≤n)(s:Nat):0≤n.fdiv (2 ^ s)∧n.fdiv (2 ^ s)≤n:=by
 rw[Int.fdiv_eq_ediv_of_nonneg _ (Int.pow_nonneg (by omega))]
 exact⟨Int.ediv_nonneg h0 (Int.pow_nonneg (by omega)),Int.ediv_le_self _ h0⟩
abbrev Y0(e:List a6):Prop:=Z6 D2 (fun s=>PW s∧Cz s.cols) e
theorem xM:Cz U5:=⟨by decide,by decide,fun c hc=>by
 simp only[U5,List.mem_cons,List.not_mem_nil,or_false]at hc
 rcases hc with rfl|rfl|rfl|rfl
 ·exact kO _ _
 ·exact(by decide:(1:Nat)≤100000)
 ·exact kO _ _
 ·exact(by decide:(1:Nat)≤100000)⟩
theorem LC:Cz VP:=⟨by decide,by decide,fun c hc=>by
 simp only[VP,List.mem_cons,List.not_mem_nil,or_false]at hc
 rcases hc with rfl|rfl|rfl|rfl
 ·exact(by decide:(1:Nat)≤100000)
 ·exact kO _ _
 ·exact(by decide:(1:Nat)≤100000)
 ·exact(by decide:(1:Nat)≤100000)⟩
theorem WJ{nm z:ByteArray}{cs:List c8}{ks:List ByteArray}{a b:Int}(hn:bM nm)(hz:bM z)(hc:Cz cs)(hk:Fl bM ks):Y0 [.str nm,.list true 3 (cC cs),.list true 1 (sC ks),.str (bs [97,116]),.str z,.int .i64 a,.int .i64 b] :=
 ⟨⟨nm,cs,ks,bs [97,116],z,a,b⟩,⟨rfl,.cons (.refl _) (.cons (.lst rfl (cG _)) (.cons (.lst rfl (aO _)) (.cons (.refl _) (.cons (.refl _) (.cons (.refl _) (.cons (.refl _) .nil))))))⟩,⟨hn,⟨hc.le,hc.2.2⟩,hk,kO _ _,hz⟩,hc⟩
theorem YI:Fl bM [bs [105,100]]:=pT (kO _ _)
theorem YJ:Fl bM [bs [99]]:=pT (by decide:(1:Nat)≤100000)
theorem YK:Fl bM [bs [105,100],bs [99]]:=⟨by decide,fun s hs=>by
 simp only[List.mem_cons,List.not_mem_nil,or_false]at hs
 rcases hs with rfl|rfl
 ·exact kO _ _
 ·exact(by decide:(1:Nat)≤100000)⟩
theorem Y3:bM (bs [111,114,100,101,114,115]):=(by decide:(6:Nat)≤100000)
theorem YQ:bM (bs [99,117,115,116,111,109,101,114,115]):=(by decide:(9:Nat)≤100000)
theorem YR:bM (bs [114,101,116,117,114,110,115]):=(by decide:(7:Nat)≤100000)
def VH(r:a6):Prop:=∃es:List (List a6),r=.list false 7 es∧(∀e∈es,Y0 e)∧es.length≤3
def WW(r:a6):Prop:=∃ss:List yD,r=.list false 7 (mC D2 ss)∧Fl PW ss∧∀s∈ss,Cz s.cols
theorem VH.wk:∀r,VH r→∃r',gG r r'∧WW r':=by
 rintro r ⟨es,rfl,h,hl⟩
 obtain⟨q,h1,h2,h3⟩:=ZA (fun _=>rfl) h
 exact⟨_,gG.rows h2,q,rfl,⟨by omega,fun s hs=>(h3 s hs).1⟩,fun s hs=>(h3 s hs).2⟩
set_option maxRecDepth 20000 in
set_option maxHeartbeats 4000000 in
theorem KG(n:Int)(h0:0≤n)(h9:n≤131070):aC pr 90 [.int .i64 n] WW:=by
 refine aC.weak ?_ VH.wk
 refine aH k90.has rfl ?_
 repeat'((conv=>whnf);first|((first|apply aC.use|apply aC.draw);exact(u6).frz rfl;rintro r ⟨es,rfl,rfl⟩)|refine aI ?_|refine oA ?_|refine oM fun x hx hm=>?_|((first|apply aK|apply aL|apply aM|apply aF|apply aE)<;>intro h<;>(try simp at h)<;>(try(exfalso;omega))))
 conv=>whnf
 refine⟨fun m ρ H1=>∃(k:Nat) (out:List (List a6)),k+m=3∧out.length=k∧(∀e∈out,Y0 e)∧bG out=true∧H1=[.arr 7 out]∧Sv 60 [(0,.int .i64 n),(3,.list false 4 (mC bR JP)),(4,.list true 1 [[.list true 1 [[.str (bs [105,100])]]],[.list true 1 [[.str (bs [99])]]],[.list true 1 [[.str (bs [105,100])],[.str (bs [99])]]]]),(5,.sl 0 out.length 0 out.length),(6,.int .i64 k)] ρ,3,[(5,7)],fun i ρ H1=>i=0∧∃out:List (List a6),out.length≤3∧(∀e∈out,Y0 e)∧bG out=true∧H1=[.arr 7 out]∧Sv 60 [(5,.sl 0 out.length 0 out.length)] ρ,?_,?_,?_⟩
 ·exact⟨0,[],by omega,rfl,(fun e h=>by simp at h),rfl,rfl,Sv.intro rfl ⟨rfl,rfl,rfl,rfl,rfl,trivial⟩⟩
 ·rintro m ρ H1 ⟨k,out,hk,ho,hes,hp,rfl,d,rfl⟩
  obtain rfl|rfl|rfl|rfl:k=0∨k=1∨k=2∨k=3:=by omega
  ·have hv:0≤(n.fdiv (2 ^ min (IntKind.u64.wrap (IntKind.i64.wrap (3*((0:Nat):Int)))).toNat IntKind.i64.bits))∧(n.fdiv (2 ^ min (IntKind.u64.wrap (IntKind.i64.wrap (3*((0:Nat):Int)))).toNat IntKind.i64.bits))≤n:=WD h0 _
   have ha:=BW hv.1
   have hb:=BW (iG hv.1 (by omega) (k:=3) (by decide)).1
   have hc:0≤(IntKind.i64.wrap ((n.fdiv (2 ^ min (IntKind.u64.wrap (IntKind.i64.wrap (3*((0:Nat):Int)))).toNat IntKind.i64.bits)).tdiv 9)).tmod 4∧(IntKind.i64.wrap ((n.fdiv (2 ^ min (IntKind.u64.wrap (IntKind.i64.wrap (3*((0:Nat):Int)))).toNat IntKind.i64.bits)).tdiv 9)).tmod 4<4:=⟨Int.tmod_nonneg _ (iG hv.1 (by omega) (k:=9) (by decide)).1,Int.tmod_lt_of_pos _ (by decide)⟩
   obtain⟨s1,hs1,hf1⟩:=s7 ha.1 ha.2 (kO 122 48) (kO 122 49) (kO 122 50)
   obtain⟨v1,hv1⟩:=C9 (vs:=[0,120,1440]) hb.1 hb.2
   obtain⟨v2,hv2⟩:=C9 (vs:=[0,600,2880,100000]) hc.1 hc.2
   repeat'(first|refine aT (hs1) ?_|refine aT (hv1) ?_|refine aT (hv2) ?_|((conv=>whnf);first|refine And.intro (by decide) ?_|refine And.intro ha.1 ?_|refine And.intro hb.1 ?_|refine And.intro hc.1 ?_|refine And.intro (⟨by simp[aQ];omega,by simp[aQ];omega,rfl,rfl⟩) ?_|refine b4 (eL rfl) ?_|refine aI ?_|refine oA ?_|refine oM fun x hx hm=>?_|((first|apply aK|apply aL|apply aM|apply aF|apply aE)<;>intro h<;>(try simp at h)<;>(try(exfalso;omega)))))
   any_goals((conv=>whnf);first|(refine⟨m-1,by omega,Gp.cut (H:=[.arr 7 (out++[_])]) rfl ⟨bV (jS hp rfl),trivial⟩ rfl rfl ?_ fun ρ1 h=>⟨1,_,by omega,by rw[List.length_append,ho];rfl,dE hes (WJ (z:=s1) (a:=v1) (b:=v2) Y3 hf1 xM YI),jS hp rfl,rfl,h⟩⟩;exact⟨rfl,rfl,rfl,eQ (by simp) (by simp),rfl,trivial⟩)|fail)
  ·have hv:0≤(n.fdiv (2 ^ min (IntKind.u64.wrap (IntKind.i64.wrap (3*((1:Nat):Int)))).toNat IntKind.i64.bits))∧(n.fdiv (2 ^ min (IntKind.u64.wrap (IntKind.i64.wrap (3*((1:Nat):Int)))).toNat IntKind.i64.bits))≤n:=WD h0 _
   have ha:=BW hv.1
   have hb:=BW (iG hv.1 (by omega) (k:=3) (by decide)).1
   have hc:0≤(IntKind.i64.wrap ((n.fdiv (2 ^ min (IntKind.u64.wrap (IntKind.i64.wrap (3*((1:Nat):Int)))).toNat IntKind.i64.bits)).tdiv 9)).tmod 4∧(IntKind.i64.wrap ((n.fdiv (2 ^ min (IntKind.u64.wrap (IntKind.i64.wrap (3*((1:Nat):Int)))).toNat IntKind.i64.bits)).tdiv 9)).tmod 4<4:=⟨Int.tmod_nonneg _ (iG hv.1 (by omega) (k:=9) (by decide)).1,Int.tmod_lt_of_pos _ (by decide)⟩
   obtain⟨s1,hs1,hf1⟩:=s7 ha.1 ha.2 (kO 122 48) (kO 122 49) (kO 122 50)
   obtain⟨v1,hv1⟩:=C9 (vs:=[0,120,1440]) hb.1 hb.2
   obtain⟨v2,hv2⟩:=C9 (vs:=[0,600,2880,100000]) hc.1 hc.2
   repeat'(first|refine aT (hs1) ?_|refine aT (hv1) ?_|refine aT (hv2) ?_|((conv=>whnf);first|refine And.intro (by decide) ?_|refine And.intro ha.1 ?_|refine And.intro hb.1 ?_|refine And.intro hc.1 ?_|refine And.intro (⟨by simp[aQ];omega,by simp[aQ];omega,rfl,rfl⟩) ?_|refine b4 (eL rfl) ?_|refine aI ?_|refine oA ?_|refine oM fun x hx hm=>?_|((first|apply aK|apply aL|apply aM|apply aF|apply aE)<;>intro h<;>(try simp at h)<;>(try(exfalso;omega)))))
   any_goals((conv=>whnf);first|(refine⟨m-1,by omega,Gp.cut (H:=[.arr 7 (out++[_])]) rfl ⟨bV (jS hp rfl),trivial⟩ rfl rfl ?_ fun ρ1 h=>⟨2,_,by omega,by rw[List.length_append,ho];rfl,dE hes (WJ (z:=s1) (a:=v1) (b:=v2) YQ hf1 LC YJ),jS hp rfl,rfl,h⟩⟩;exact⟨rfl,rfl,rfl,eQ (by simp) (by simp),rfl,trivial⟩)|fail)
  ·have hv:0≤(n.fdiv (2 ^ min (IntKind.u64.wrap (IntKind.i64.wrap (3*((2:Nat):Int)))).toNat IntKind.i64.bits))∧(n.fdiv (2 ^ min (IntKind.u64.wrap (IntKind.i64.wrap (3*((2:Nat):Int)))).toNat IntKind.i64.bits))≤n:=WD h0 _
   have ha:=BW hv.1
   have hb:=BW (iG hv.1 (by omega) (k:=3) (by decide)).1
   have hc:0≤(IntKind.i64.wrap ((n.fdiv (2 ^ min (IntKind.u64.wrap (IntKind.i64.wrap (3*((2:Nat):Int)))).toNat IntKind.i64.bits)).tdiv 9)).tmod 4∧(IntKind.i64.wrap ((n.fdiv (2 ^ min (IntKind.u64.wrap (IntKind.i64.wrap (3*((2:Nat):Int)))).toNat IntKind.i64.bits)).tdiv 9)).tmod 4<4:=⟨Int.tmod_nonneg _ (iG hv.1 (by omega) (k:=9) (by decide)).1,Int.tmod_lt_of_pos _ (by decide)⟩
   obtain⟨s1,hs1,hf1⟩:=s7 ha.1 ha.2 (kO 122 48) (kO 122 49) (kO 122 50)
   obtain⟨v1,hv1⟩:=C9 (vs:=[0,120,1440]) hb.1 hb.2
   obtain⟨v2,hv2⟩:=C9 (vs:=[0,600,2880,100000]) hc.1 hc.2
   repeat'(first|refine aT (hs1) ?_|refine aT (hv1) ?_|refine aT (hv2) ?_|((conv=>whnf);first|refine And.intro (by decide) ?_|refine And.intro ha.1 ?_|refine And.intro hb.1 ?_|refine And.intro hc.1 ?_|refine And.intro (⟨by simp[aQ];omega,by simp[aQ];omega,rfl,rfl⟩) ?_|refine b4 (eL rfl) ?_|refine aI ?_|refine oA ?_|refine oM fun x hx hm=>?_|((first|apply aK|apply aL|apply aM|apply aF|apply aE)<;>intro h<;>(try simp at h)<;>(try(exfalso;omega)))))
   any_goals((conv=>whnf);first|(refine⟨m-1,by omega,Gp.cut (H:=[.arr 7 (out++[_])]) rfl ⟨bV (jS hp rfl),trivial⟩ rfl rfl ?_ fun ρ1 h=>⟨3,_,by omega,by rw[List.length_append,ho];rfl,dE hes (WJ (z:=s1) (a:=v1) (b:=v2) YR hf1 xM YK),jS hp rfl,rfl,h⟩⟩;exact⟨rfl,rfl,rfl,eQ (by simp) (by simp),rfl,trivial⟩)|fail)
  ·repeat'((conv=>whnf);first|refine And.intro (by decide) ?_|refine aI ?_|refine oA ?_|refine oM fun x hx hm=>?_|((first|apply aK|apply aL|apply aM|apply aF|apply aE)<;>intro h<;>(try simp at h)<;>(try(exfalso;omega))))
   any_goals((conv=>whnf);first|(refine Gp.cut (H:=[.arr 7 out]) rfl ⟨bV hp,trivial⟩ rfl rfl ?_ fun ρ1 h=>⟨rfl,out,by omega,hes,hp,rfl,h⟩;exact⟨rfl,trivial⟩)|fail)
 ·rintro i ρ1 H1 ⟨rfl,out,ho,hes,hp,rfl,dd,rfl⟩
  conv=>whnf
  exact⟨_,qH rfl rfl rfl hp,out,rfl,hes,ho⟩
theorem sd:bM (bs [100]):=(by decide:(1:Nat)≤100000)
theorem sn:bM (bs [110]):=(by decide:(1:Nat)≤100000)
theorem sp:bM (bs [112]):=(by decide:(1:Nat)≤100000)
theorem XM:bM (bs [111,108,100]):=(by decide:(3:Nat)≤100000)
def UE(z:ByteArray):vE:=⟨bs [114,117,110,110,105,110,103],[⟨bs [100],2,false⟩,⟨bs [110],2,false⟩,⟨bs [112],2,true⟩,⟨bs [111,108,100],2,true⟩],
 [⟨0,bs [111,114,100,101,114,115],[],[],[],[]⟩,⟨2,bs [],[],[],[⟨bs [100],0,bs [],0,[⟨1,⟨0,0,bs []⟩,bs [97,116],0⟩,⟨20,⟨0,0,bs []⟩,z,0⟩]⟩],[]⟩,
 ⟨11,bs [],[bs [100]],[],[⟨bs [110],1,bs [],0,[]⟩],[]⟩,
 ⟨2,bs [],[],[],[⟨bs [112],0,bs [],0,[⟨1,⟨0,0,bs []⟩,bs [100],0⟩,⟨0,⟨2,1,bs []⟩,bs [],0⟩,⟨5,⟨0,0,bs []⟩,bs [],0⟩]⟩],[]⟩,
 ⟨5,bs [115,101,108,102],[bs [112]],[bs [100]],[⟨bs [111,108,100],0,bs [110],0,[]⟩],[]⟩],bs [100],z,1,bs [],1⟩
theorem SL{z:ByteArray}(hz:bM z):G3 (UE z):=by
 refine⟨(by decide:(7:Nat)≤100000),⟨(by decide:(4:Nat)≤100000),fun c hc=>?_⟩,⟨(by decide:(5:Nat)≤100000),fun s hs=>?_⟩,sd,hz,qX⟩
 ·simp only[UE,List.mem_cons,List.not_mem_nil,or_false]at hc
  rcases hc with rfl|rfl|rfl|rfl
  ·exact sd
  ·exact sn
  ·exact sp
  ·exact XM
 ·simp only[UE,List.mem_cons,List.not_mem_nil,or_false]at hs
  rcases hs with rfl|rfl|rfl|rfl|rfl
  ·exact⟨Y3,gA,gA,gA,gA⟩
  ·exact⟨qX,gA,gA,pT ⟨sd,qX,⟨by show(2:Nat)≤100000;decide,fun n hn=>by
    simp only[List.mem_cons,List.not_mem_nil,or_false]at hn
    rcases hn with rfl|rfl
    ·exact kO _ _
    ·exact hz⟩⟩,gA⟩
  ·exact⟨qX,pT sd,gA,pT ⟨sn,qX,gA⟩,gA⟩
  ·exact⟨qX,gA,gA,pT ⟨sp,qX,⟨by decide,fun n hn=>by
    simp only[List.mem_cons,List.not_mem_nil,or_false]at hn
    rcases hn with rfl|rfl|rfl
    ·exact sd
    ·exact qX
    ·exact qX⟩⟩,gA⟩
  ·exact⟨(by decide:(4:Nat)≤100000),pT sp,pT sd,pT ⟨XM,sn,gA⟩,gA⟩
theorem KU.wk:∀r,KU r→∃r',gG r r'∧N5 r':=by
 rintro r ⟨s,hw,hs⟩
 exact⟨_,hw,s,rfl,hs⟩
set_option maxRecDepth 20000 in
set_option maxHeartbeats 1000000 in
theorem yW(z:ByteArray)(hz:bM z):aC pr 95 [.str z] N5:=by
 refine aC.weak ?_ KU.wk
 refine aH k95.has rfl ?_
 conv=>whnf
 refine⟨_,.closed _ rfl,UE z,?_,SL hz⟩
 refine gG.aggs ?_
 repeat'(first|exact gG.refl _|exact gG.nil _ _|exact gG.lst rfl rfl|refine oP.cons ?_ ?_|exact oP.nil|refine gG.rows ?_|refine And.intro ?_ ?_|exact trivial|exact rfl)
def TE(r:a6):Prop:=∃c:zD,gG r (.agg (eM c))∧FJ c
def US(r:a6):Prop:=∃c:zD,r=.agg (eM c)∧FJ c
theorem TE.wkT:∀r,TE r→∃r',gG r r'∧r'.clT=true∧US r':=by
 rintro r ⟨s,hw,hs⟩
 exact⟨_,hw,rfl,s,rfl,hs⟩
theorem LS.f{l:List ByteArray}(h:Fl bM l):LS (sL l):=⟨l,.refl _,rfl,h⟩
theorem ZM{H H0 G:List aB}{ids:List Nat}{a t o:ByteArray}{kd lo hi l1 l2 l3 l4 po:Int}{C O E:a6}(hH:H=H0++G)(ha:bM a)(ht:bM t)(hC:LS C)(ho:bM o)(hO:LS O)(hE:LN E):
  ∃r G,H=H0++G∧dV H 0 ids (.agg [.str a,.str t,.int .i64 kd,C,.str o,O,.int .i64 lo,.int .i64 hi,E,.int .i64 l1,.int .i64 l2,.int .i64 l3,.int .i64 l4,.int .i64 po]) r∧r.clT=true∧TE r:=by
 obtain⟨cs,w1,p1,f1⟩:=hC
 obtain⟨os,w2,p2,f2⟩:=hO
 obtain⟨e,w3,p3,f3⟩:=hE
 have hcl:(a6.agg [.str a,.str t,.int .i64 kd,C,.str o,O,.int .i64 lo,.int .i64 hi,E,.int .i64 l1,.int .i64 l2,.int .i64 l3,.int .i64 l4,.int .i64 po]).closed=true:=by
  show[a6.str a,.str t,.int .i64 kd,C,.str o,O,.int .i64 lo,.int .i64 hi,E,.int .i64 l1,.int .i64 l2,.int .i64 l3,.int .i64 l4,.int .i64 po].all a6.isPure=true
  simp only[List.all_cons,p1,p2,p3,List.all_nil]
  rfl
 refine⟨_,_,hH,.closed _ hcl,hcl,⟨a,t,kd,cs,o,os,lo,hi,e,l1,l2,l3,l4,po⟩,.aggs ?_,ha,ht,f1,ho,f2,f3⟩
 repeat'(first|exact gG.refl _|exact oP.nil|refine oP.cons ?_ ?_|assumption)
theorem WA{n:Int}(h0:0≤n)(h4:n<4){a b c d:ByteArray}(ha:bM a)(hb:bM b)(hc:bM c)(hd:bM d):∃s,[[a6.str a],[a6.str b],[a6.str c],[a6.str d]][n.toNat]?=some [.str s]∧bM s:=by
 obtain h|h|h|h:n=0∨n=1∨n=2∨n=3:=by omega
 all_goals subst h
 ·exact⟨a,rfl,ha⟩
 ·exact⟨b,rfl,hb⟩
 ·exact⟨c,rfl,hc⟩
 ·exact⟨d,rfl,hd⟩
set_option maxRecDepth 20000 in
set_option maxHeartbeats 8000000 in
theorem pL(h1:149=149)(h2:149=149)
  (g:Bool) (rels:List jL) (hn1:1≤rels.length) (hn2:rels.length≤1000) (hr:∀r∈rels,AQ r) (l:List Int) (at':Int) (ha:0≤at') :
  cJ pr 96 [i8 rels] [.int .i64 at',.sl 0 rels.length 0 rels.length,.list g 1 (iC l)] US:=by
 obtain⟨n,hn⟩:∃n,n=DX l 0:=⟨_,rfl⟩
 obtain⟨k,hk⟩:∃k,k=DX l 1:=⟨_,rfl⟩
 have hN:0≤n∧n≤131070:=by rw[hn];exact fJ l 0
 have hK:0≤k∧k≤131070:=by rw[hk];exact fJ l 1
 have hat0:aC pr 88 [.list g 1 (iC l),.int .i64 0] (fun r=>r=.int .i64 n):=by rw[hn];exact aC.of (jY g l 0)
 have hat1:aC pr 88 [.list g 1 (iC l),.int .i64 1] (fun r=>r=.int .i64 k):=by rw[hk];exact aC.of (jY g l 1)
 have hbn:=G4 (n:=n) (m:=rels.length) hN.1 hn1
 have hbk:=G4 (n:=k) (m:=rels.length) hK.1 hn1
 obtain⟨tb,ht0⟩:∃r,rels[(n.tmod (rels.length:Nat)).toNat]?=some r:=⟨_,List.getElem?_eq_getElem (by omega)⟩
 obtain⟨ot,ho0⟩:∃r,rels[(k.tmod (rels.length:Nat)).toNat]?=some r:=⟨_,List.getElem?_eq_getElem (by omega)⟩
 have htb:=hr _ (List.mem_of_getElem? ht0)
 have hot:=hr _ (List.mem_of_getElem? ho0)
 have htm:(mC bR rels)[0+(n.tmod (rels.length:Nat)).toNat]?=some (bR tb):=by rw[Nat.zero_add];exact oY ht0
 have hom:(mC bR rels)[0+(k.tmod (rels.length:Nat)).toNat]?=some (bR ot):=by rw[Nat.zero_add];exact oY ho0
 have ha4:0≤at'.tmod 4∧at'.tmod 4<4:=⟨Int.tmod_nonneg _ ha,Int.tmod_lt_of_pos _ (by decide)⟩
 obtain⟨s1,hs1,hf1⟩:=WA ha4.1 ha4.2 (kO 99 97) (kO 99 98) (kO 99 99) (kO 99 100)
 obtain⟨⟨t1,t2⟩,t3,t4,t5⟩:=htb
 obtain⟨⟨o1,o2⟩,o3,o4,o5⟩:=hot
 have hE2:=B8 h1 h2 tb.ec g tb.cols (by omega) t5 l (d:=2) (.inr rfl)
 have hE1:=B8 h1 h2 tb.ec g tb.cols (by omega) t5 l (d:=1) (.inl rfl)
 have low:=bP rels
 refine cJ.weak ?_ TE.wkT
 refine bQ k96.has ⟨low _,trivial⟩ ?_
 repeat'(first|refine aT (htm) ?_|refine aT (hom) ?_|refine aT (hs1) ?_|((conv=>whnf);first|((first|apply aC.use|apply aC.draw);exact hat0;rintro r rfl)|((first|apply aC.use|apply aC.draw);exact hat1;rintro r rfl)|((first|apply aC.use|apply aC.draw);exact KF tb.ec tb.cols t3 (by omega) t5 _ (by first|exact hK.1|exact(iG hK.1 (by omega) (by decide)).1|fail) (by first|omega|exact Int.le_trans (iG hK.1 (by omega) (by decide)).2 (by omega)|fail);rintro r ⟨ns,rfl,hns1,hns2⟩)|((first|apply aC.use|apply aC.draw);exact p6 tb.ec tb.cols t3 (by omega) t5 _ (by first|exact hK.1|exact(iG hK.1 (by omega) (by decide)).1|fail);rintro r ⟨s2,rfl,hs2⟩)|((first|apply aC.use|apply aC.draw);exact p6 ot.ec ot.cols o3 (by omega) o5 _ (by first|exact hK.1|exact(iG hK.1 (by omega) (by decide)).1|fail);rintro r ⟨s3,rfl,hs3⟩)|((first|apply aC.use|apply aC.draw);exact BP tb.ec _ tb.cols ⟨t3,t4,t5⟩ ot ⟨⟨o1,o2⟩,o3,o4,o5⟩ _ (by first|exact hK.1|exact(iG hK.1 (by omega) (by decide)).1|fail) (by first|omega|exact Int.le_trans (iG hK.1 (by omega) (by decide)).2 (by omega)|fail);rintro r ⟨sj,rfl,hsj⟩)|((first|apply aC.use|apply aC.draw);exact(hE2 _ 2 (by decide)).frz rfl;rintro r ⟨es,rfl,e,rfl,he⟩)|((first|apply aC.use|apply aC.draw);exact(hE1 _ 2 (by decide)).frz rfl;rintro r ⟨es,rfl,e,rfl,he⟩)|refine And.intro hbn ?_|refine And.intro hbk ?_|refine And.intro hbn.1 ?_|refine And.intro hbk.1 ?_|refine And.intro ha4.1 ?_|refine And.intro (by(conv=>whnf);exact And.intro ha4.1 (aT hs1 rfl)) ?_|refine And.intro (show qS _ _ _ _ _ from by repeat' first|refine aT hom ?_|refine aT htm ?_|((conv=>whnf);done)|((conv=>whnf);first|refine b4 (eL (aZ bR rels).symm) ?_|refine And.intro hbk ?_|refine And.intro hbn ?_|exact rfl)) ?_|refine b4 ((bS _)) ?_|refine b4 (eL (aZ bR rels).symm) ?_|refine And.intro (by exact rfl) ?_|refine And.intro (by decide) ?_|refine aI ?_|refine oA ?_|refine oM fun x hx hm=>?_|((first|apply aK|apply aL|apply aM|apply aF|apply aE)<;>intro h<;>(try simp at h)<;>(try(exfalso;omega)))))
 any_goals((conv=>whnf);first|exact ZM (by exact rfl) hf1 t1 (by first|exact LS.nil|exact LS.l (by assumption) (by assumption)|exact LS.one (by assumption)|exact LS.f hsj.2.1|exact LS.f hsj.2.2.1|fail) (by first|exact qX|exact o1|fail) (by first|exact LS.nil|exact LS.l (by assumption) (by assumption)|exact LS.one (by assumption)|exact LS.f hsj.2.1|exact LS.f hsj.2.2.1|fail) (by first|exact LV.nil|exact LN.l (by assumption) (by decide)|fail)|fail)
theorem cJ.args{P:Program}{f:FuncId}{H0:List aB}{vs ws:List a6}{S:a6→Prop}(h:cJ P f H0 ws S)(hw:oP vs ws):cJ P f H0 vs S:=by
 obtain⟨r,h1,h2,h3⟩:=h
 exact⟨r,h1,h2,a7.weakD h3 hw⟩
set_option maxRecDepth 20000 in
set_option maxHeartbeats 1000000 in
theorem yM(f:Bool)(l:List jL)(hl:l.length≤100000)(nm:ByteArray):aC pr 94 [.list f 4 (mC bR l),.str nm] (XX l nm):=by
 refine aC.weak (S:=fun r=>XX l nm r∨(r=.tuple [.agg [.str (bs []),.nil,.nil,.nil],.bool false]∧∀y∈l,y.name≠nm)) ?_ (by
  rintro r (⟨x,b,rfl,h⟩|⟨rfl,h⟩)
  ·exact⟨_,.refl _,x,b,rfl,h⟩
  ·exact⟨_,.tuples (.cons (.aggs (.cons (.refl _) (.cons (.nil _ _) (.cons (.refl _) (.cons (.refl _) .nil))))) (.cons (.refl _) .nil)),V4,false,rfl,(fun h=>by cases h),fun _=>⟨rfl,h⟩⟩)
 refine aH k94.has rfl ?_
 conv=>whnf
 refine⟨fun m ρ H1=>∃(k:Nat),k+m=l.length∧(∀y∈l.take k,y.name≠nm)∧H1=[.arr 4 [[.str (bs []),.nil,.nil,.nil]]]∧Sv 25 [(0,.list f 4 (mC bR l)),(1,.str nm),(4,.ptr 0 1 0 0),(6,.int .i64 k)] ρ,l.length,[],
  fun i ρ H1=>i=0∧(∀y∈l,y.name≠nm)∧H1=[.arr 4 [[.str (bs []),.nil,.nil,.nil]]]∧Sv 25 [(4,.ptr 0 1 0 0)] ρ,?_,?_,?_⟩
 ·exact⟨0,by omega,by simp,rfl,Sv.intro rfl ⟨rfl,rfl,rfl,rfl,trivial⟩⟩
 ·rintro m ρ H1 ⟨k,hk,hv,rfl,d,rfl⟩
  have nxt:∀{y:jL},l[((k:Int)).toNat]?=some y→y.name≠nm→∀s∈l.take (k+1),s.name≠nm:=fun{y} hy hvy s hsm=>by
   rw[Int.toNat_natCast]at hy
   rw[lA hy]at hsm
   rcases List.mem_append.1 hsm with h|h
   ·exact hv s h
   ·simp at h;subst h;exact hvy
  repeat'((conv=>whnf);first|refine b4 ((bS _)) ?_|refine aI ?_|refine oA ?_|refine oM fun x hx hm=>?_|((first|apply aK|apply aL|apply aM|apply aF|apply aE)<;>intro h<;>(try simp at h)))
  any_goals((conv=>whnf);first|exact⟨_,dP (.closed _ (jO _)) (.closed _ rfl),.inl ⟨_,true,rfl,(fun _=>⟨by assumption,ByteArray.ext (by assumption)⟩),fun h=>by cases h⟩⟩|(refine⟨m-1,by omega,Gp.cut (H:=[.arr 4 [[.str (bs []),.nil,.nil,.nil]]]) rfl ⟨rfl,trivial⟩ rfl rfl ?_ fun ρ1 h=>⟨k+1,by omega,nxt (by first|assumption|(rw[←Nat.zero_add ((k:Int)).toNat];assumption)|fail) (fun hh=>absurd (congrArg ByteArray.data hh) (by assumption)),rfl,h⟩⟩;exact⟨rfl,rfl,rfl,aN (dX (by omega)),trivial⟩)|(refine Gp.cut (H:=[.arr 4 [[.str (bs []),.nil,.nil,.nil]]]) rfl ⟨rfl,trivial⟩ rfl rfl ?_ fun ρ1 h=>⟨rfl,by rwa [List.take_of_length_le (by omega)]at hv,rfl,h⟩;exact⟨rfl,trivial⟩)|fail)
 ·rintro i ρ1 H1 ⟨rfl,hv,rfl,d,rfl⟩
  conv=>whnf
  exact⟨_,dP (.closed _ rfl) (.closed _ rfl),.inr ⟨rfl,hv⟩⟩
abbrev cE(ss:List yD)(V N C:a6):List a6:=[XV Q6,.list false 7 (mC D2 ss),.nil,V,N,C]
abbrev TA:aB:=.arr 6 [[.nil,.nil,.nil,.nil,.nil,.nil]]
abbrev Q9(ss:List yD)(rels:List jL)(N C:a6):List aB:=[TA,.arr 6 [cE ss .nil N C],i8 rels]
abbrev LL(ss:List yD)(rels:List jL)(ms:List vE)(N C:a6):List aB:=[TA,.arr 6 [cE ss (.sl 3 ms.length 0 ms.length) N C],i8 rels,.arr 8 (mC gR ms)]
theorem vR{σ:Nat→Nat}{ss:List yD}{N C:a6}{k id n m:Nat}(hk:σ k=id)(hn:n=m)(hN:N.isPure=true)(hC:C.isPure=true):jB σ (.agg (cE ss (.sl k n 0 n) N C)) (.agg (cE ss (.sl id m 0 m) N C)):=by
 refine .agg _ _ rfl fun i v r h1 h2=>?_
 rcases i with _|_|_|_|_|_|i
 ·cases h1;cases h2;exact .closed _ rfl
 ·cases h1;cases h2;exact .closed _ rfl
 ·cases h1;cases h2;exact .closed _ rfl
 ·cases h1;cases h2;exact pF hk hn hn
 ·cases h1;cases h2;exact .closed _ (a6.closed_of_pure hN)
 ·cases h1;cases h2;exact .closed _ (a6.closed_of_pure hC)
 ·simp at h1
structure wV(ss:List yD)(ms:List vE)(N C:a6)(ns:List KP)(cs:List zD):Prop where
 s:Fl PW ss
 z:∀s∈ss,Cz s.cols
 m:Fl G3 ms
 wn:gG N (.list false 2 (mC SX ns))
 pn:N.isPure=true
 fn:Fl WI ns
 wc:gG C (.list false 14 (mC eM cs))
 pc:C.isPure=true
 fc:Fl FJ cs
theorem wV.F{ss:List yD}{ms:List vE}{N C:a6}{ns:List KP}{cs:List zD}(h:wV ss ms N C ns cs):(⟨Q6,ss,[],ms,ns,cs⟩:qZ).F:=⟨AK,h.s,gA,h.m,h.fn,h.fc⟩
theorem wV.w{ss:List yD}{ms:List vE}{N C V:a6}{ns:List KP}{cs:List zD}(h:wV ss ms N C ns cs):oP [.agg (cE ss V N C)] [.agg [XV Q6,.list false 7 (mC D2 ss),.list false 3 (mC XA []),V,.list false 2 (mC SX ns),.list false 14 (mC eM cs)]] :=
 .cons (.aggs (.cons (.refl _) (.cons (.refl _) (.cons (.nil _ _) (.cons (.refl _) (.cons h.wn (.cons h.wc .nil))))))) .nil
theorem tD{ss:List yD}{ms:List vE}{N C:a6}{ns:List KP}{cs:List zD}(h:wV ss ms N C ns cs):
  cJ pr 32 [.arr 8 (mC gR ms)] [.agg (cE ss (.sl 0 ms.length 0 ms.length) N C)] (VE ⟨Q6,ss,[],ms,ns,cs⟩) :=
 (u4 ⟨Q6,ss,[],ms,ns,cs⟩ h.F rfl h.z).args h.w
theorem qN{ss:List yD}{ms:List vE}{N C:a6}{ns:List KP}{cs:List zD}(h:wV ss ms N C ns cs):
  cJ pr 97 [.arr 8 (mC gR ms)] [.agg (cE ss (.sl 0 ms.length 0 ms.length) N C)] KT :=
 (D6 ⟨Q6,ss,[],ms,ns,cs⟩ h.F rfl h.z).args h.w
theorem Gp.dfs{n:Nat}{live:List (Nat×a6)}{ρ:List a6}{H':List aB}{I:List a6→List aB→Prop}{ss:List yD}{rels:List jL}{ms:List vE}{N C:a6}{id m:Nat}{es er:List (List a6)}(h0:H'[0]?=Option.some TA)(h1:H'[1]?=Option.some (.arr 6 [cE ss (.sl id m 0 m) N C]))(h2:H'[2]?=Option.some (.arr 4 er))(h3:H'[id]?=Option.some (.arr 8 es))(he:es=mC gR ms)(hr:er=mC bR rels)(hm:m=ms.length)(hid:3≤id)
  (hN:N.isPure=true) (hC:C.isPure=true) (hl:ρ.length=n) (h:lK H' [0,1,2,id] ρ live) (hI:∀ρ1,Sv n live ρ1→I ρ1 (LL ss rels ms N C)):Gp [] ρ H' I:=by
 subst he hm hr
 refine Gp.keepL (H1:=LL ss rels ms N C) [0,1,2,id] (by simp;omega) dN ⟨⟨_,h0,.same _ _ rfl⟩,⟨_,h1,iO ?_⟩,⟨_,h2,.same _ _ (aV cI _)⟩,⟨_,h3,.same _ _ (aV eE _)⟩,trivial⟩ hl h hI
 exact⟨dI rfl,dI rfl,dI rfl,i1 rfl rfl,dI hN,dI hC,trivial⟩
theorem mU(x:Bool)(l:List Int)(n:Int)(hn:0≤n):aC pr 93 [.list x 1 (iC l),.int .i64 n] (fun r=>∃(y:Bool) (l':List Int),r=.list y 1 (iC l')∧l'.length≤l.length):=by
 refine aH k93.has rfl ?_
 conv=>whnf
 refine And.intro (by rw[cA];constructor<;>split<;>omega) ?_
 conv=>whnf
 exact⟨_,.closed _ rfl,_,l.drop (if(n:Int)<((iC l).length:Nat)then(n:Int)else((iC l).length:Nat)).toNat,by rw[List.take_length,NO],by simp⟩
theorem i9{ss:List yD}{V N C:a6}(hV:V.isCell=true)(hN:N.isPure=true)(hC:C.isPure=true):(cE ss V N C).all a6.isCell=true:=by
 have h1:=(dI (H:=[]) (ids:=[]) hN).2
 have h2:=(dI (H:=[]) (ids:=[]) hC).2
 simp only[cE,List.all_cons,List.all_nil,hV,h1,h2]
 rfl
theorem mB{ss:List yD}{V N C:a6}{k:Nat}(hV:V.lowC k=true)(hN:N.isPure=true)(hC:C.isPure=true):(aB.arr 6 [cE ss V N C]).lowO k:=by
 have h1:N.lowC k=true:=by cases N<;>first|exact hN|cases hN
 have h2:C.lowC k=true:=by cases C<;>first|exact hC|cases hC
 show([cE ss V N C].all fun e=>e.all (a6.lowC k))=true
 simp only[cE,List.all_cons,List.all_nil,hV,h1,h2]
 rfl
theorem RO{ss:List yD}{N C:a6}{id:Nat}:HQ id [.agg (cE ss .nil N C)] [.agg (cE ss (.sl id 0 0 0) N C)]:=by
 refine⟨.agg _ _ rfl fun i v r h1 h2=>?_,trivial⟩
 rcases i with _|_|_|_|_|_|i
 ·cases h1;cases h2;exact .refl _
 ·cases h1;cases h2;exact .refl _
 ·cases h1;cases h2;exact .refl _
 ·cases h1;cases h2;exact .nil
 ·cases h1;cases h2;exact .refl _
 ·cases h1;cases h2;exact .refl _
 ·simp at h1
theorem NS{L:List jL}{x:jL}{b:Bool}{nm:ByteArray}(h1:b=true→x∈L∧x.name=nm)(h2:b=false→x=V4∧∀y∈L,y.name≠nm)(hz:∃y∈L,y.name=nm)(hL:∀x∈L,nF x∧Cz x.cols):Cz x.cols:=by
 cases b
 ·obtain⟨y,h3,h4⟩:=hz
  exact absurd h4 ((h2 rfl).2 y h3)
 ·exact(hL x (h1 rfl).1).2
theorem SD:∀r∈JP,AQ r:=fun r hr=>by
 simp only[JP,List.mem_cons,List.not_mem_nil,or_false]at hr
 rcases hr with rfl|rfl|rfl
 ·exact⟨⟨Y3,xM.le⟩,xM⟩
 ·exact⟨⟨YQ,LC.le⟩,LC⟩
 ·exact⟨⟨YR,xM.le⟩,xM⟩
theorem V7(ms:List vE)(md:vE):List.take ms.length (List.drop 0 (mC gR ms))++[gR md]=mC gR (ms++[md]):=by
 rw[List.drop_zero,List.take_of_length_le (by simp),dD];rfl
theorem RI{A B:(Nat→List a6→List aB→Prop)→(Nat→List a6→List aB→Prop)→Prop}(I X:Nat→List a6→List aB→Prop){G:Prop}
  (h:(∀(ρ:List a6) (H:List aB) (n:Nat),TB [] ρ H (I n)→∃(I:Nat→List a6→List aB→Prop) (n:Nat) (vs:List (Nat×Nat)) (X:Nat→List a6→List aB→Prop),TB vs ρ H (I n)∧A I X∧B I X)→G) (hA:A I X) (hB:B I X):G :=
 h fun ρ H n hn=>⟨I,n,[],X,hn,hA,hB⟩
theorem IE(ss:List yD)(rels:List jL)(ms:List vE)(md:vE)(N C:a6):[TA,.arr 6 [cE ss (.sl 3 (mC gR ms++[gR md]).length 0 (mC gR ms++[gR md]).length) N C],i8 rels,.arr 8 (mC gR ms++[gR md])]=LL ss rels (ms++[md]) N C:=by
 rw[G2,aZ]
theorem X2{H:List aB}{ids:List Nat}{id n sz:Nat}{es fs:List (List a6)}(he:es=fs)(ho:H[id]?=some (.arr sz es))(hid:id∉ids)(hn:n=es.length)(hp:bG fs=true):dV H 0 ids (.sl id n 0 n) (.list false sz fs)∧(a6.list false sz fs).isCell=true:=by
 subst he;exact oE ho hid hn hp
theorem Gp.chkA{n:Nat}{live:List (Nat×a6)}{ρ:List a6}{H':List aB}{I:List a6→List aB→Prop}{ss:List yD}{rels:List jL}{cs:List zD}{N C:a6}{id m:Nat}{es er:List (List a6)}(h0:H'[0]?=Option.some TA)(h1:H'[1]?=Option.some (.arr 6 [cE ss .nil N C]))(h2:H'[2]?=Option.some (.arr 4 er))(h3:H'[3]?=Option.some (.arr 6 [cE ss .nil N (.sl id m 0 m)]))(h4:H'[id]?=Option.some (.arr 14 es))(he:es=mC eM cs)(hr:er=mC bR rels)(hm:m=es.length)(hid:4≤id)
  (hN:N.isPure=true) (hC:C.isPure=true) (hl:ρ.length=n) (h:lK H' [0,1,2,3] ρ live) (hI:∀ρ1,Sv n live ρ1→I ρ1 [TA,.arr 6 [cE ss .nil N C],i8 rels,.arr 6 [cE ss .nil N (.list false 14 (mC eM cs))]]):Gp [] ρ H' I:=by
 subst hr
 refine Gp.keepL (H1:=[TA,.arr 6 [cE ss .nil N C],i8 rels,.arr 6 [cE ss .nil N (.list false 14 (mC eM cs))]]) [0,1,2,3] (by simp) dN ⟨⟨_,h0,.same _ _ rfl⟩,⟨_,h1,iO ?_⟩,⟨_,h2,.same _ _ (aV cI _)⟩,⟨_,h3,iO ?_⟩,trivial⟩ hl h hI
 ·exact⟨dI rfl,dI rfl,dI rfl,dI rfl,dI hN,dI hC,trivial⟩
 ·exact⟨dI rfl,dI rfl,dI rfl,dI rfl,dI hN,X2 he h4 (by simp;omega) hm (aV I8 _),trivial⟩
theorem Gp.chkB{n:Nat}{live:List (Nat×a6)}{ρ:List a6}{H':List aB}{I:List a6→List aB→Prop}{ss:List yD}{rels:List jL}{ms:List vE}{cs:List zD}{N C:a6}{id m:Nat}{es er:List (List a6)}(h0:H'[0]?=Option.some TA)(h1:H'[1]?=Option.some (.arr 6 [cE ss (.sl 3 ms.length 0 ms.length) N C]))(h2:H'[2]?=Option.some (.arr 4 er))(h5:H'[3]?=Option.some (.arr 8 (mC gR ms)))(h3:H'[4]?=Option.some (.arr 6 [cE ss (.sl 3 ms.length 0 ms.length) N (.sl id m 0 m)]))(h4:H'[id]?=Option.some (.arr 14 es))(he:es=mC eM cs)(hr:er=mC bR rels)(hm:m=es.length)(hid:5≤id)
  (hN:N.isPure=true) (hC:C.isPure=true) (hl:ρ.length=n) (h:lK H' [0,1,2,3,4] ρ live) (hI:∀ρ1,Sv n live ρ1→I ρ1 [TA,.arr 6 [cE ss (.sl 3 ms.length 0 ms.length) N C],i8 rels,.arr 8 (mC gR ms),.arr 6 [cE ss (.sl 3 ms.length 0 ms.length) N (.list false 14 (mC eM cs))]]):Gp [] ρ H' I:=by
 subst hr
 refine Gp.keepL (H1:=[TA,.arr 6 [cE ss (.sl 3 ms.length 0 ms.length) N C],i8 rels,.arr 8 (mC gR ms),.arr 6 [cE ss (.sl 3 ms.length 0 ms.length) N (.list false 14 (mC eM cs))]]) [0,1,2,3,4] (by simp) dN ⟨⟨_,h0,.same _ _ rfl⟩,⟨_,h1,iO ?_⟩,⟨_,h2,.same _ _ (aV cI _)⟩,⟨_,h5,.same _ _ (aV eE _)⟩,⟨_,h3,iO ?_⟩,trivial⟩ hl h hI
 ·exact⟨dI rfl,dI rfl,dI rfl,i1 rfl rfl,dI hN,dI hC,trivial⟩
 ·exact⟨dI rfl,dI rfl,dI rfl,i1 rfl rfl,dI hN,X2 he h4 (by simp;omega) hm (aV I8 _),trivial⟩
theorem BE{α:Type}{p:α→Prop}{l:List α}{x:α}(h:Fl p l)(hl:l.length≤99999)(hx:p x):Fl p (l++[x]):=⟨by simp;omega,dE h.2 hx⟩
theorem wV.snoc{ss:List yD}{ms:List vE}{N C:a6}{ns:List KP}{cs:List zD}{c:zD}(h:wV ss ms N C ns cs)(hl:cs.length≤99999)(hc:FJ c):wV ss ms N (.list false 14 (mC eM (cs++[c]))) ns (cs++[c]) :=
 ⟨h.s,h.z,h.m,h.wn,h.pn,h.fn,.refl _,rfl,BE h.fc hl hc⟩
def Z5(v:a6)(H:List aB):Prop:=∃(ss:List yD) (ms:List vE) (N C:a6) (ns:List KP) (cs:List zD),wV ss ms N C ns cs ∧
 ((ms=[]∧v=.agg (cE ss .nil N C))∨∃id,v=.agg (cE ss (.sl id ms.length 0 ms.length) N C)∧H[id]?=some (.arr 8 (mC gR ms)))
set_option maxRecDepth 20000 in
set_option maxHeartbeats 16000000 in
theorem R7(h1:149=149)(h2:149=149)(h3:149=149)(h4:149=149)(g:Bool)(l:List Int)(hll:l.length≤1000000):
  ∃v H1,Z5 v H1∧a7 pr 33 [.list g 1 (iC l)] [] (fun r H'=>r=v∧H'=H1):=by
 obtain⟨n,hn⟩:∃n,n=DX l 0:=⟨_,rfl⟩
 have hN:0≤n∧n≤131070:=by rw[hn];exact fJ l 0
 have hat0:aC pr 88 [.list g 1 (iC l),.int .i64 0] (fun r=>r=.int .i64 n):=by rw[hn];exact aC.of (jY g l 0)
 have hat1:=fJ l 1
 have hc3:=BW (iG hN.1 (by omega) (k:=12) (by decide)).1
 obtain⟨z3,hs3,hf3⟩:=s7 hc3.1 hc3.2 (kO 122 48) (kO 122 49) (kO 122 50)
 have hc4:=BW (iG hN.1 (by omega) (k:=128) (by decide)).1
 obtain⟨z4,hs4,hf4⟩:=s7 hc4.1 hc4.2 Y3 YQ YR
 refine d6 k33.has ?_
 repeat'((conv=>whnf);first|((first|apply aC.use|apply aC.draw);exact hat0;rintro r rfl)|((first|apply aC.use|apply aC.draw);exact aC.of (jY g l 1);rintro r rfl)|((first|apply aC.use|apply aC.draw);exact tI;rintro r rfl)|((first|apply aC.use|apply aC.draw);exact KG _ hat1.1 hat1.2;rintro r ⟨ss,rfl,hss,hsz⟩)|(refine j5.own (u6) rfl (fun es hes hp=>?_);subst hes)|refine aI ?_|refine oA ?_|refine oM fun x hx hm=>?_|((first|apply aK|apply aL|apply aM|apply aF|apply aE)<;>intro h<;>(try simp at h)<;>(try(exfalso;omega))))
 conv=>whnf
 refine⟨fun m ρ H1=>∃(k:Nat) (rels:List jL) (ms:List vE),k+m=3∧rels.length≤3+k∧1≤rels.length∧(∀r∈rels,AQ r)∧Fl G3 ms∧ms.length≤k∧((ms=[]∧H1=Q9 ss rels .nil .nil)∨H1=LL ss rels ms .nil .nil)∧Sv 132 [(0,.list g 1 (iC l)),(2,.ptr 0 1 0 0),(3,.int .i64 n),(4,.ptr 1 1 0 0),(5,.sl 2 rels.length 0 rels.length),(6,.int .i64 k)] ρ,3,[],fun i ρ H1=>i=0∧∃(rels:List jL) (ms:List vE),rels.length≤6∧1≤rels.length∧(∀r∈rels,AQ r)∧Fl G3 ms∧ms.length≤3∧((ms=[]∧H1=Q9 ss rels .nil .nil)∨H1=LL ss rels ms .nil .nil)∧Sv 132 [(0,.list g 1 (iC l)),(2,.ptr 0 1 0 0),(3,.int .i64 n),(4,.ptr 1 1 0 0),(5,.sl 2 rels.length 0 rels.length)] ρ,?_,?_,?_⟩
 ·exact⟨0,JP,[],by omega,Nat.le_refl 3,(by decide:1≤3),SD,gA,by simp,.inl ⟨rfl,rfl⟩,Sv.intro rfl ⟨rfl,rfl,rfl,rfl,rfl,rfl,trivial⟩⟩
 ·rintro m ρ H1 ⟨k,rels,ms,hk,hr1,hr2,hr3,hms,hml,hH,d,rfl⟩
  have hwp:0≤IntKind.i64.wrap (3+IntKind.i64.wrap (5*(k:Int))):=by rw[aW (5*(k:Int)) (by omega) (by omega),aW _ (by omega) (by omega)];omega
  rcases hH with⟨rfl,rfl⟩|rfl
  ·repeat'((conv=>whnf);first|((first|apply aC.use|apply aC.draw);exact mU g l _ hwp;rintro r ⟨y,l',rfl,hl'⟩)|(refine cJ.use [2] (AX h1 h2 y rels hr2 (by omega) hr3 l' (by omega) (k:Int) (by omega)) (by simp) rfl ⟨⟨_,rfl,.same (aV cI rels)⟩,trivial⟩ ⟨.closed _ rfl,pF rfl rfl rfl,.closed _ rfl,trivial⟩ (fun r hr=>?_);obtain⟨md,rfl,hmd⟩:=hr)|(refine cJ.use [5] (tD (ms:=[md]) (N:=.nil) (C:=.nil) (ns:=[]) (cs:=[]) ⟨hss,hsz,pT hmd,.nil _ _,rfl,gA,.nil _ _,rfl,gA⟩) (by simp) rfl ⟨⟨_,rfl,JQ rfl (aV eE _)⟩,trivial⟩ ⟨vR rfl rfl rfl rfl,trivial⟩ (fun r hr=>?_);obtain⟨L,e,rfl,hL,hLs,hz⟩:=hr)|((first|apply aC.use|apply aC.draw);exact yM false L (by omega) _;rintro r ⟨x,b,rfl,hf1,hf2⟩)|refine b4 (eL (aZ bR rels).symm) ?_|refine And.intro (⟨by simp[aQ];omega,by simp[aQ];omega,rfl,(aZ bR rels).symm⟩) ?_|refine b4 ((bS _)) ?_|refine And.intro (by exact rfl) ?_|refine And.intro (by decide) ?_|refine aI ?_|refine oA ?_|refine oM fun x hx hm=>?_|((first|apply aK|apply aL|apply aM|apply aF|apply aE)<;>intro h<;>(try simp at h)<;>(try(exfalso;omega))))
   any_goals((conv=>whnf);first|(have hmo:=NS hf1 hf2 (hz (by assumption) md (by simp)) hLs;refine⟨m-1,by omega,Gp.dfs (id:=5) (ms:=[md]) (rels:=(rels++[⟨md.name,x.ec,x.cols,none⟩])) rfl rfl rfl rfl rfl (by rw[dD];rfl) rfl (by decide) rfl rfl rfl ?_ fun ρ1 h=>⟨k+1,(rels++[⟨md.name,x.ec,x.cols,none⟩]),_,by omega,by simp;omega,by simp,dE hr3 (show AQ ⟨md.name,x.ec,x.cols,none⟩from⟨⟨hmd.1,hmo.le⟩,hmo⟩),pT hmd,by simp,.inr rfl,h⟩⟩;exact⟨.closed _ rfl,aU rfl,.closed _ rfl,aU rfl,(i1 rfl (by simp)).1,n8 (dX (by omega)),trivial⟩)|(refine⟨m-1,by omega,Gp.cut (H:=Q9 ss rels .nil .nil) rfl ⟨rfl,mB rfl rfl rfl,bP _ _,trivial⟩ rfl rfl ?_ fun ρ1 h=>⟨k+1,rels,[],by omega,by omega,hr2,hr3,hms,by simp,.inl ⟨rfl,rfl⟩,h⟩⟩;exact⟨rfl,rfl,rfl,rfl,rfl,aN (dX (by omega)),trivial⟩)|(refine Gp.cut (H:=Q9 ss rels .nil .nil) rfl ⟨rfl,mB rfl rfl rfl,bP _ _,trivial⟩ rfl rfl ?_ fun ρ1 h=>⟨rfl,rels,[],by omega,hr2,hr3,hms,by first|omega|(simp;done)|fail,.inl ⟨rfl,rfl⟩,h⟩;exact⟨rfl,rfl,rfl,rfl,rfl,trivial⟩)|fail)
  ·repeat'((conv=>whnf);first|((first|apply aC.use|apply aC.draw);exact mU g l _ hwp;rintro r ⟨y,l',rfl,hl'⟩)|(refine cJ.use [2] (AX h1 h2 y rels hr2 (by omega) hr3 l' (by omega) (k:Int) (by omega)) (by simp) rfl ⟨⟨_,rfl,.same (aV cI rels)⟩,trivial⟩ ⟨.closed _ rfl,pF rfl rfl rfl,.closed _ rfl,trivial⟩ (fun r hr=>?_);obtain⟨md,rfl,hmd⟩:=hr)|(refine cJ.use [6] (tD (ms:=ms++[md]) (N:=.nil) (C:=.nil) (ns:=[]) (cs:=[]) ⟨hss,hsz,BE hms (by omega) hmd,.nil _ _,rfl,gA,.nil _ _,rfl,gA⟩) (by simp) rfl ⟨⟨_,rfl,JQ (V7 ms md).symm (aV eE _)⟩,trivial⟩ ⟨vR rfl (by simp) rfl rfl,trivial⟩ (fun r hr=>?_);obtain⟨L,e,rfl,hL,hLs,hz⟩:=hr)|((first|apply aC.use|apply aC.draw);exact yM false L (by omega) _;rintro r ⟨x,b,rfl,hf1,hf2⟩)|refine b4 (eL (aZ bR rels).symm) ?_|refine And.intro (⟨by simp[aQ];omega,by simp[aQ];omega,rfl,(aZ bR rels).symm⟩) ?_|refine b4 (eL (aZ gR ms).symm) ?_|refine And.intro (⟨by simp[aQ];omega,by simp[aQ];omega⟩) ?_|refine And.intro (⟨by simp[aQ];omega,by simp[aQ];omega,rfl,rfl⟩) ?_|refine b4 ((bS _)) ?_|refine And.intro (by exact rfl) ?_|refine And.intro (by decide) ?_|refine aI ?_|refine oA ?_|refine oM fun x hx hm=>?_|((first|apply aK|apply aL|apply aM|apply aF|apply aE)<;>intro h<;>(try simp at h)<;>(try(exfalso;omega))))
   any_goals((conv=>whnf);first|(have hmo:=NS hf1 hf2 (hz (by assumption) md (by simp)) hLs;refine⟨m-1,by omega,Gp.dfs (id:=6) (ms:=ms++[md]) (rels:=(rels++[⟨md.name,x.ec,x.cols,none⟩])) rfl rfl rfl rfl (V7 ms md) (by rw[dD];rfl) (by simp) (by decide) rfl rfl rfl ?_ fun ρ1 h=>⟨k+1,(rels++[⟨md.name,x.ec,x.cols,none⟩]),_,by omega,by simp;omega,by simp,dE hr3 (show AQ ⟨md.name,x.ec,x.cols,none⟩from⟨⟨hmd.1,hmo.le⟩,hmo⟩),BE hms (by omega) hmd,by simp;omega,.inr rfl,h⟩⟩;exact⟨.closed _ rfl,aU rfl,.closed _ rfl,aU rfl,(i1 rfl (by simp)).1,n8 (dX (by omega)),trivial⟩)|(refine⟨m-1,by omega,Gp.cut (H:=LL ss rels ms .nil .nil) rfl ⟨rfl,mB rfl rfl rfl,bP _ _,bV (aV eE _),trivial⟩ rfl rfl ?_ fun ρ1 h=>⟨k+1,rels,ms,by omega,by omega,hr2,hr3,hms,by omega,.inr rfl,h⟩⟩;exact⟨rfl,rfl,rfl,rfl,rfl,aN (dX (by omega)),trivial⟩)|(refine Gp.cut (H:=LL ss rels ms .nil .nil) rfl ⟨rfl,mB rfl rfl rfl,bP _ _,bV (aV eE _),trivial⟩ rfl rfl ?_ fun ρ1 h=>⟨rfl,rels,ms,by omega,hr2,hr3,hms,by first|omega|(simp;done)|fail,.inr rfl,h⟩;exact⟨rfl,rfl,rfl,rfl,rfl,trivial⟩)|fail)
 ·apply RI (fun m ρ H1=>∃(k:Nat) (rels:List jL) (ms:List vE) (N C:a6) (ns:List KP) (cs:List zD),k+m=4∧rels.length≤6∧1≤rels.length∧(∀r∈rels,AQ r)∧wV ss ms N C ns cs∧cs.length≤k∧((C=.nil∧cs=[])∨C=.list false 14 (mC eM cs))∧((ms=[]∧H1=Q9 ss rels N C)∨H1=LL ss rels ms N C)∧Sv 132 [(0,.list g 1 (iC l)),(2,.ptr 0 1 0 0),(3,.int .i64 n),(4,.ptr 1 1 0 0),(5,.sl 2 rels.length 0 rels.length),(13,.int .i64 k)] ρ) (fun i ρ H1=>i=2∧∃(rels:List jL) (ms:List vE) (N C:a6) (ns:List KP) (cs:List zD),wV ss ms N C ns cs∧((ms=[]∧H1=Q9 ss rels N C)∨H1=LL ss rels ms N C)∧Sv 132 [(2,.ptr 0 1 0 0),(4,.ptr 1 1 0 0)] ρ)
  ·intro key
   rintro i ρ1 H1 ⟨rfl,rels,ms,hr1,hr2,hr3,hms,hml,hH,dd,rfl⟩
   rcases hH with⟨rfl,rfl⟩|rfl
   ·repeat'(first|refine aT (hs3) ?_|refine aT (hs4) ?_|((conv=>whnf);first|refine And.intro hc3.1 ?_|refine And.intro hc4.1 ?_|((first|apply aC.use|apply aC.draw);exact yW z3 hf3;rintro r ⟨mr,rfl,hmr⟩)|refine And.intro (⟨by simp[aQ],by simp[aQ]⟩) ?_|refine And.intro (by exact rfl) ?_|refine And.intro (by decide) ?_|refine aI ?_|refine oA ?_|refine oM fun x hx hm=>?_|((first|apply aK|apply aL|apply aM|apply aF|apply aE)<;>intro h<;>(try simp at h)<;>(try(exfalso;omega)))))
    all_goals
     conv=>whnf
     refine key _ _ 4 ?_
     (first|exact⟨0,rels,[],_,.nil,[],[],by omega,hr1,hr2,hr3,⟨hss,hsz,gA,.nil _ _,rfl,gA,.nil _ _,rfl,gA⟩,by simp,.inl ⟨rfl,rfl⟩,.inl ⟨rfl,rfl⟩,Sv.intro rfl ⟨rfl,rfl,rfl,rfl,rfl,rfl,trivial⟩⟩|exact⟨0,rels,[],_,.nil,[⟨bs [112,97,115,116],z4⟩],[],by omega,hr1,hr2,hr3,⟨hss,hsz,gA,.lst rfl rfl,rfl,pT ⟨(by decide:(4:Nat)≤100000),hf4⟩,.nil _ _,rfl,gA⟩,by simp,.inl ⟨rfl,rfl⟩,.inl ⟨rfl,rfl⟩,Sv.intro rfl ⟨rfl,rfl,rfl,rfl,rfl,rfl,trivial⟩⟩|exact⟨0,rels,[mr],_,.nil,[],[],by omega,hr1,hr2,hr3,⟨hss,hsz,pT hmr,.nil _ _,rfl,gA,.nil _ _,rfl,gA⟩,by simp,.inl ⟨rfl,rfl⟩,.inr rfl,Sv.intro rfl ⟨rfl,rfl,rfl,rfl,rfl,rfl,trivial⟩⟩|exact⟨0,rels,[mr],_,.nil,[⟨bs [112,97,115,116],z4⟩],[],by omega,hr1,hr2,hr3,⟨hss,hsz,pT hmr,.lst rfl rfl,rfl,pT ⟨(by decide:(4:Nat)≤100000),hf4⟩,.nil _ _,rfl,gA⟩,by simp,.inl ⟨rfl,rfl⟩,.inr rfl,Sv.intro rfl ⟨rfl,rfl,rfl,rfl,rfl,rfl,trivial⟩⟩|fail)
   ·repeat'(first|refine aT (hs3) ?_|refine aT (hs4) ?_|((conv=>whnf);first|refine And.intro hc3.1 ?_|refine And.intro hc4.1 ?_|((first|apply aC.use|apply aC.draw);exact yW z3 hf3;rintro r ⟨mr,rfl,hmr⟩)|refine b4 (eL (aZ gR ms).symm) ?_|refine And.intro (⟨by simp[aQ];omega,by simp[aQ];omega,rfl,(aZ gR ms).symm⟩) ?_|refine And.intro (⟨by simp[aQ];omega,by simp[aQ];omega⟩) ?_|refine And.intro (by exact rfl) ?_|refine And.intro (by decide) ?_|refine aI ?_|refine oA ?_|refine oM fun x hx hm=>?_|((first|apply aK|apply aL|apply aM|apply aF|apply aE)<;>intro h<;>(try simp at h)<;>(try(exfalso;omega)))))
    all_goals
     conv=>whnf
     refine key _ _ 4 ?_
     (first|exact⟨0,rels,ms,_,.nil,[],[],by omega,hr1,hr2,hr3,⟨hss,hsz,hms,.nil _ _,rfl,gA,.nil _ _,rfl,gA⟩,by simp,.inl ⟨rfl,rfl⟩,.inr rfl,Sv.intro rfl ⟨rfl,rfl,rfl,rfl,rfl,rfl,trivial⟩⟩|exact⟨0,rels,ms,_,.nil,[⟨bs [112,97,115,116],z4⟩],[],by omega,hr1,hr2,hr3,⟨hss,hsz,hms,.lst rfl rfl,rfl,pT ⟨(by decide:(4:Nat)≤100000),hf4⟩,.nil _ _,rfl,gA⟩,by simp,.inl ⟨rfl,rfl⟩,.inr rfl,Sv.intro rfl ⟨rfl,rfl,rfl,rfl,rfl,rfl,trivial⟩⟩|exact⟨0,rels,(ms++[mr]),_,.nil,[],[],by omega,hr1,hr2,hr3,⟨hss,hsz,BE hms (by omega) hmr,.nil _ _,rfl,gA,.nil _ _,rfl,gA⟩,by simp,.inl ⟨rfl,rfl⟩,.inr (IE _ _ _ _ _ _),Sv.intro rfl ⟨rfl,rfl,rfl,rfl,rfl,rfl,trivial⟩⟩|exact⟨0,rels,(ms++[mr]),_,.nil,[⟨bs [112,97,115,116],z4⟩],[],by omega,hr1,hr2,hr3,⟨hss,hsz,BE hms (by omega) hmr,.lst rfl rfl,rfl,pT ⟨(by decide:(4:Nat)≤100000),hf4⟩,.nil _ _,rfl,gA⟩,by simp,.inl ⟨rfl,rfl⟩,.inr (IE _ _ _ _ _ _),Sv.intro rfl ⟨rfl,rfl,rfl,rfl,rfl,rfl,trivial⟩⟩|fail)
  ·rintro m ρ H1 ⟨k,rels,ms1,N,C,ns,cs,hk,hr1,hr2,hr3,hok,hcl,hC,hH,d,rfl⟩
   have hwp:0≤IntKind.i64.wrap (20+IntKind.i64.wrap (7*(k:Int))):=by rw[aW (7*(k:Int)) (by omega) (by omega),aW _ (by omega) (by omega)];omega
   have hml1:=hok.m.1
   rcases hC with⟨rfl,rfl⟩|rfl
   ·rcases hH with⟨rfl,rfl⟩|rfl
    ·repeat'((conv=>whnf);first|((first|apply aC.use|apply aC.draw);exact mU g l _ hwp;rintro r ⟨y,l',rfl,hl'⟩)|(refine cJ.use [2] (pL h3 h4 y rels hr2 (by omega) hr3 l' (k:Int) (by omega)) (by simp) rfl ⟨⟨_,rfl,.same (aV cI rels)⟩,trivial⟩ ⟨.closed _ rfl,pF rfl rfl rfl,.closed _ rfl,trivial⟩ (fun r hr=>?_);obtain⟨c,rfl,hc⟩:=hr)|refine b4 (i9 (ss:=ss) (V:=.nil) (C:=.nil) rfl hok.pn rfl) ?_|refine b4 (i9 (ss:=ss) (V:=.nil) (C:=(.list false 14 (mC eM ([]++[c])))) rfl hok.pn rfl) ?_|refine And.intro (⟨by simp[aQ],by simp[aQ]⟩) ?_|refine And.intro (⟨by simp[aQ],by simp[aQ],rfl,rfl⟩) ?_|refine b4 (eL rfl) ?_|refine b4 ((bS _)) ?_|refine And.intro (by exact rfl) ?_|refine And.intro (by decide) ?_|refine aI ?_|refine oA ?_|refine oM fun x hx hm=>?_|((first|apply aK|apply aL|apply aM|apply aF|apply aE)<;>intro h<;>(try simp at h)<;>(try(exfalso;omega))))
     any_goals((conv=>whnf);first|(refine Gp.cut (H:=Q9 ss rels N .nil) rfl ⟨rfl,mB rfl hok.pn rfl,bP _ _,trivial⟩ rfl rfl ?_ fun ρ1 h=>⟨rfl,rels,_,N,_,ns,[],hok,.inl ⟨rfl,rfl⟩,h⟩;exact⟨rfl,rfl,trivial⟩)|fail)
     have hok2:=hok.snoc (by first|omega|(simp;done)|fail) hc
     (conv=>whnf)
     refine Gp.chkA (live:=[(0,.list g 1 (iC l)),(2,.ptr 0 1 0 0),(3,.int .i64 n),(4,.ptr 1 1 0 0),(5,.sl 2 rels.length 0 rels.length),(13,.int .i64 k),(14,.ptr 3 1 0 0)]) (id:=4) (rels:=rels) (cs:=[]++[c]) rfl rfl rfl rfl rfl rfl rfl rfl (by decide) hok.pn rfl rfl ⟨.closed _ rfl,aU rfl,.closed _ rfl,aU rfl,(i1 rfl rfl).1,.closed _ rfl,aU rfl,trivial⟩ fun ρ1 h=>?_
     obtain⟨dd,rfl⟩:=h
     repeat'((conv=>whnf);first|(refine cJ.useN 8 [4] (qN (ms:=[]) hok2) RO (by simp) rfl ⟨⟨_,rfl,.same rfl⟩,trivial⟩ ⟨vR rfl rfl hok.pn rfl,trivial⟩ (fun r hr=>?_);obtain⟨e,rfl⟩:=hr)|refine b4 (i9 (ss:=ss) (V:=.nil) (C:=.nil) rfl hok.pn rfl) ?_|refine b4 (i9 (ss:=ss) (V:=.nil) (C:=(.list false 14 (mC eM ([]++[c])))) rfl hok.pn rfl) ?_|refine b4 ((bS _)) ?_|refine And.intro (by exact rfl) ?_|refine And.intro (by decide) ?_|refine aI ?_|refine oA ?_|refine oM fun x hx hm=>?_|((first|apply aK|apply aL|apply aM|apply aF|apply aE)<;>intro h<;>(try simp at h)<;>(try(exfalso;omega))))
     any_goals((conv=>whnf);first|(refine⟨m-1,by omega,Gp.cut (H:=Q9 ss rels N (.list false 14 (mC eM ([]++[c])))) rfl ⟨rfl,mB rfl hok.pn rfl,bP _ _,trivial⟩ rfl rfl ?_ fun ρ1 h=>⟨k+1,rels,_,N,_,ns,[]++[c],by omega,hr1,hr2,hr3,hok2,by first|omega|(simp;done)|(simp;omega)|fail,.inr rfl,.inl ⟨rfl,rfl⟩,h⟩⟩;exact⟨rfl,rfl,rfl,rfl,rfl,aN (dX (by omega)),trivial⟩)|(refine⟨m-1,by omega,Gp.cut (H:=Q9 ss rels N .nil) rfl ⟨rfl,mB rfl hok.pn rfl,bP _ _,trivial⟩ rfl rfl ?_ fun ρ1 h=>⟨k+1,rels,_,N,_,ns,[],by omega,hr1,hr2,hr3,hok,by first|omega|(simp;done)|(simp;omega)|fail,.inl ⟨rfl,rfl⟩,.inl ⟨rfl,rfl⟩,h⟩⟩;exact⟨rfl,rfl,rfl,rfl,rfl,aN (dX (by omega)),trivial⟩)|fail)
    ·repeat'((conv=>whnf);first|((first|apply aC.use|apply aC.draw);exact mU g l _ hwp;rintro r ⟨y,l',rfl,hl'⟩)|(refine cJ.use [2] (pL h3 h4 y rels hr2 (by omega) hr3 l' (k:Int) (by omega)) (by simp) rfl ⟨⟨_,rfl,.same (aV cI rels)⟩,trivial⟩ ⟨.closed _ rfl,pF rfl rfl rfl,.closed _ rfl,trivial⟩ (fun r hr=>?_);obtain⟨c,rfl,hc⟩:=hr)|refine b4 (i9 (ss:=ss) (V:=.sl 3 ms1.length 0 ms1.length) (C:=.nil) rfl hok.pn rfl) ?_|refine b4 (i9 (ss:=ss) (V:=.sl 3 ms1.length 0 ms1.length) (C:=(.list false 14 (mC eM ([]++[c])))) rfl hok.pn rfl) ?_|refine And.intro (⟨by simp[aQ],by simp[aQ]⟩) ?_|refine And.intro (⟨by simp[aQ],by simp[aQ],rfl,rfl⟩) ?_|refine b4 (eL rfl) ?_|refine b4 ((bS _)) ?_|refine And.intro (by exact rfl) ?_|refine And.intro (by decide) ?_|refine aI ?_|refine oA ?_|refine oM fun x hx hm=>?_|((first|apply aK|apply aL|apply aM|apply aF|apply aE)<;>intro h<;>(try simp at h)<;>(try(exfalso;omega))))
     any_goals((conv=>whnf);first|(refine Gp.cut (H:=LL ss rels ms1 N .nil) rfl ⟨rfl,mB rfl hok.pn rfl,bP _ _,bV (aV eE _),trivial⟩ rfl rfl ?_ fun ρ1 h=>⟨rfl,rels,_,N,_,ns,[],hok,.inr rfl,h⟩;exact⟨rfl,rfl,trivial⟩)|fail)
     have hok2:=hok.snoc (by first|omega|(simp;done)|fail) hc
     (conv=>whnf)
     refine Gp.chkB (live:=[(0,.list g 1 (iC l)),(2,.ptr 0 1 0 0),(3,.int .i64 n),(4,.ptr 1 1 0 0),(5,.sl 2 rels.length 0 rels.length),(13,.int .i64 k),(14,.ptr 4 1 0 0)]) (id:=5) (rels:=rels) (cs:=[]++[c]) rfl rfl rfl rfl rfl rfl rfl rfl rfl (by decide) hok.pn rfl rfl ⟨.closed _ rfl,aU rfl,.closed _ rfl,aU rfl,(i1 rfl rfl).1,.closed _ rfl,aU rfl,trivial⟩ fun ρ1 h=>?_
     obtain⟨dd,rfl⟩:=h
     repeat'((conv=>whnf);first|(refine cJ.use [3] (qN hok2) (by simp) rfl ⟨⟨_,rfl,.same (aV eE _)⟩,trivial⟩ ⟨vR rfl rfl hok.pn rfl,trivial⟩ (fun r hr=>?_);obtain⟨e,rfl⟩:=hr)|refine b4 (i9 (ss:=ss) (V:=.sl 3 ms1.length 0 ms1.length) (C:=.nil) rfl hok.pn rfl) ?_|refine b4 (i9 (ss:=ss) (V:=.sl 3 ms1.length 0 ms1.length) (C:=(.list false 14 (mC eM ([]++[c])))) rfl hok.pn rfl) ?_|refine b4 ((bS _)) ?_|refine And.intro (by exact rfl) ?_|refine And.intro (by decide) ?_|refine aI ?_|refine oA ?_|refine oM fun x hx hm=>?_|((first|apply aK|apply aL|apply aM|apply aF|apply aE)<;>intro h<;>(try simp at h)<;>(try(exfalso;omega))))
     any_goals((conv=>whnf);first|(refine⟨m-1,by omega,Gp.cut (H:=LL ss rels ms1 N (.list false 14 (mC eM ([]++[c])))) rfl ⟨rfl,mB rfl hok.pn rfl,bP _ _,bV (aV eE _),trivial⟩ rfl rfl ?_ fun ρ1 h=>⟨k+1,rels,_,N,_,ns,[]++[c],by omega,hr1,hr2,hr3,hok2,by first|omega|(simp;done)|(simp;omega)|fail,.inr rfl,.inr rfl,h⟩⟩;exact⟨rfl,rfl,rfl,rfl,rfl,aN (dX (by omega)),trivial⟩)|(refine⟨m-1,by omega,Gp.cut (H:=LL ss rels ms1 N .nil) rfl ⟨rfl,mB rfl hok.pn rfl,bP _ _,bV (aV eE _),trivial⟩ rfl rfl ?_ fun ρ1 h=>⟨k+1,rels,_,N,_,ns,[],by omega,hr1,hr2,hr3,hok,by first|omega|(simp;done)|(simp;omega)|fail,.inl ⟨rfl,rfl⟩,.inr rfl,h⟩⟩;exact⟨rfl,rfl,rfl,rfl,rfl,aN (dX (by omega)),trivial⟩)|fail)
   ·rcases hH with⟨rfl,rfl⟩|rfl
    ·repeat'((conv=>whnf);first|((first|apply aC.use|apply aC.draw);exact mU g l _ hwp;rintro r ⟨y,l',rfl,hl'⟩)|(refine cJ.use [2] (pL h3 h4 y rels hr2 (by omega) hr3 l' (k:Int) (by omega)) (by simp) rfl ⟨⟨_,rfl,.same (aV cI rels)⟩,trivial⟩ ⟨.closed _ rfl,pF rfl rfl rfl,.closed _ rfl,trivial⟩ (fun r hr=>?_);obtain⟨c,rfl,hc⟩:=hr)|refine b4 (i9 (ss:=ss) (V:=.nil) (C:=(.list false 14 (mC eM cs))) rfl hok.pn rfl) ?_|refine b4 (i9 (ss:=ss) (V:=.nil) (C:=(.list false 14 (mC eM (cs++[c])))) rfl hok.pn rfl) ?_|refine And.intro (⟨by simp[aQ];omega,by simp[aQ];omega⟩) ?_|refine And.intro (⟨by simp[aQ];omega,by simp[aQ];omega,rfl,rfl⟩) ?_|refine b4 (eL rfl) ?_|refine b4 ((bS _)) ?_|refine And.intro (by exact rfl) ?_|refine And.intro (by decide) ?_|refine aI ?_|refine oA ?_|refine oM fun x hx hm=>?_|((first|apply aK|apply aL|apply aM|apply aF|apply aE)<;>intro h<;>(try simp at h)<;>(try(exfalso;omega))))
     any_goals((conv=>whnf);first|(refine Gp.cut (H:=Q9 ss rels N (.list false 14 (mC eM cs))) rfl ⟨rfl,mB rfl hok.pn rfl,bP _ _,trivial⟩ rfl rfl ?_ fun ρ1 h=>⟨rfl,rels,_,N,_,ns,cs,hok,.inl ⟨rfl,rfl⟩,h⟩;exact⟨rfl,rfl,trivial⟩)|fail)
     have hok2:=hok.snoc (by first|omega|(simp;done)|fail) hc
     (conv=>whnf)
     refine Gp.chkA (live:=[(0,.list g 1 (iC l)),(2,.ptr 0 1 0 0),(3,.int .i64 n),(4,.ptr 1 1 0 0),(5,.sl 2 rels.length 0 rels.length),(13,.int .i64 k),(14,.ptr 3 1 0 0)]) (id:=4) (rels:=rels) (cs:=cs++[c]) rfl rfl rfl rfl rfl (G2 eM cs c) rfl rfl (by decide) hok.pn rfl rfl ⟨.closed _ rfl,aU rfl,.closed _ rfl,aU rfl,(i1 rfl rfl).1,.closed _ rfl,aU rfl,trivial⟩ fun ρ1 h=>?_
     obtain⟨dd,rfl⟩:=h
     repeat'((conv=>whnf);first|(refine cJ.useN 8 [4] (qN (ms:=[]) hok2) RO (by simp) rfl ⟨⟨_,rfl,.same rfl⟩,trivial⟩ ⟨vR rfl rfl hok.pn rfl,trivial⟩ (fun r hr=>?_);obtain⟨e,rfl⟩:=hr)|refine b4 (i9 (ss:=ss) (V:=.nil) (C:=(.list false 14 (mC eM cs))) rfl hok.pn rfl) ?_|refine b4 (i9 (ss:=ss) (V:=.nil) (C:=(.list false 14 (mC eM (cs++[c])))) rfl hok.pn rfl) ?_|refine b4 ((bS _)) ?_|refine And.intro (by exact rfl) ?_|refine And.intro (by decide) ?_|refine aI ?_|refine oA ?_|refine oM fun x hx hm=>?_|((first|apply aK|apply aL|apply aM|apply aF|apply aE)<;>intro h<;>(try simp at h)<;>(try(exfalso;omega))))
     any_goals((conv=>whnf);first|(refine⟨m-1,by omega,Gp.cut (H:=Q9 ss rels N (.list false 14 (mC eM (cs++[c])))) rfl ⟨rfl,mB rfl hok.pn rfl,bP _ _,trivial⟩ rfl rfl ?_ fun ρ1 h=>⟨k+1,rels,_,N,_,ns,cs++[c],by omega,hr1,hr2,hr3,hok2,by first|omega|(simp;done)|(simp;omega)|fail,.inr rfl,.inl ⟨rfl,rfl⟩,h⟩⟩;exact⟨rfl,rfl,rfl,rfl,rfl,aN (dX (by omega)),trivial⟩)|(refine⟨m-1,by omega,Gp.cut (H:=Q9 ss rels N (.list false 14 (mC eM cs))) rfl ⟨rfl,mB rfl hok.pn rfl,bP _ _,trivial⟩ rfl rfl ?_ fun ρ1 h=>⟨k+1,rels,_,N,_,ns,cs,by omega,hr1,hr2,hr3,hok,by first|omega|(simp;done)|(simp;omega)|fail,.inr rfl,.inl ⟨rfl,rfl⟩,h⟩⟩;exact⟨rfl,rfl,rfl,rfl,rfl,aN (dX (by omega)),trivial⟩)|fail)
    ·repeat'((conv=>whnf);first|((first|apply aC.use|apply aC.draw);exact mU g l _ hwp;rintro r ⟨y,l',rfl,hl'⟩)|(refine cJ.use [2] (pL h3 h4 y rels hr2 (by omega) hr3 l' (k:Int) (by omega)) (by simp) rfl ⟨⟨_,rfl,.same (aV cI rels)⟩,trivial⟩ ⟨.closed _ rfl,pF rfl rfl rfl,.closed _ rfl,trivial⟩ (fun r hr=>?_);obtain⟨c,rfl,hc⟩:=hr)|refine b4 (i9 (ss:=ss) (V:=.sl 3 ms1.length 0 ms1.length) (C:=(.list false 14 (mC eM cs))) rfl hok.pn rfl) ?_|refine b4 (i9 (ss:=ss) (V:=.sl 3 ms1.length 0 ms1.length) (C:=(.list false 14 (mC eM (cs++[c])))) rfl hok.pn rfl) ?_|refine And.intro (⟨by simp[aQ];omega,by simp[aQ];omega⟩) ?_|refine And.intro (⟨by simp[aQ];omega,by simp[aQ];omega,rfl,rfl⟩) ?_|refine b4 (eL rfl) ?_|refine b4 ((bS _)) ?_|refine And.intro (by exact rfl) ?_|refine And.intro (by decide) ?_|refine aI ?_|refine oA ?_|refine oM fun x hx hm=>?_|((first|apply aK|apply aL|apply aM|apply aF|apply aE)<;>intro h<;>(try simp at h)<;>(try(exfalso;omega))))
     any_goals((conv=>whnf);first|(refine Gp.cut (H:=LL ss rels ms1 N (.list false 14 (mC eM cs))) rfl ⟨rfl,mB rfl hok.pn rfl,bP _ _,bV (aV eE _),trivial⟩ rfl rfl ?_ fun ρ1 h=>⟨rfl,rels,_,N,_,ns,cs,hok,.inr rfl,h⟩;exact⟨rfl,rfl,trivial⟩)|fail)
     have hok2:=hok.snoc (by first|omega|(simp;done)|fail) hc
     (conv=>whnf)
     refine Gp.chkB (live:=[(0,.list g 1 (iC l)),(2,.ptr 0 1 0 0),(3,.int .i64 n),(4,.ptr 1 1 0 0),(5,.sl 2 rels.length 0 rels.length),(13,.int .i64 k),(14,.ptr 4 1 0 0)]) (id:=5) (rels:=rels) (cs:=cs++[c]) rfl rfl rfl rfl rfl rfl (G2 eM cs c) rfl rfl (by decide) hok.pn rfl rfl ⟨.closed _ rfl,aU rfl,.closed _ rfl,aU rfl,(i1 rfl rfl).1,.closed _ rfl,aU rfl,trivial⟩ fun ρ1 h=>?_
     obtain⟨dd,rfl⟩:=h
     repeat'((conv=>whnf);first|(refine cJ.use [3] (qN hok2) (by simp) rfl ⟨⟨_,rfl,.same (aV eE _)⟩,trivial⟩ ⟨vR rfl rfl hok.pn rfl,trivial⟩ (fun r hr=>?_);obtain⟨e,rfl⟩:=hr)|refine b4 (i9 (ss:=ss) (V:=.sl 3 ms1.length 0 ms1.length) (C:=(.list false 14 (mC eM cs))) rfl hok.pn rfl) ?_|refine b4 (i9 (ss:=ss) (V:=.sl 3 ms1.length 0 ms1.length) (C:=(.list false 14 (mC eM (cs++[c])))) rfl hok.pn rfl) ?_|refine b4 ((bS _)) ?_|refine And.intro (by exact rfl) ?_|refine And.intro (by decide) ?_|refine aI ?_|refine oA ?_|refine oM fun x hx hm=>?_|((first|apply aK|apply aL|apply aM|apply aF|apply aE)<;>intro h<;>(try simp at h)<;>(try(exfalso;omega))))
     any_goals((conv=>whnf);first|(refine⟨m-1,by omega,Gp.cut (H:=LL ss rels ms1 N (.list false 14 (mC eM (cs++[c])))) rfl ⟨rfl,mB rfl hok.pn rfl,bP _ _,bV (aV eE _),trivial⟩ rfl rfl ?_ fun ρ1 h=>⟨k+1,rels,_,N,_,ns,cs++[c],by omega,hr1,hr2,hr3,hok2,by first|omega|(simp;done)|(simp;omega)|fail,.inr rfl,.inr rfl,h⟩⟩;exact⟨rfl,rfl,rfl,rfl,rfl,aN (dX (by omega)),trivial⟩)|(refine⟨m-1,by omega,Gp.cut (H:=LL ss rels ms1 N (.list false 14 (mC eM cs))) rfl ⟨rfl,mB rfl hok.pn rfl,bP _ _,bV (aV eE _),trivial⟩ rfl rfl ?_ fun ρ1 h=>⟨k+1,rels,_,N,_,ns,cs,by omega,hr1,hr2,hr3,hok,by first|omega|(simp;done)|(simp;omega)|fail,.inr rfl,.inr rfl,h⟩⟩;exact⟨rfl,rfl,rfl,rfl,rfl,aN (dX (by omega)),trivial⟩)|fail)
  ·rintro i ρ1 H1 ⟨rfl,rels,ms1,N,C,ns,cs,hok,hH,dd,rfl⟩
   rcases hH with⟨rfl,rfl⟩|rfl
   ·repeat'((conv=>whnf);first|refine b4 (i9 (ss:=ss) (V:=.nil) rfl hok.pn hok.pc) ?_|refine b4 ((bS _)) ?_|refine And.intro (by exact rfl) ?_|refine And.intro (by decide) ?_|refine aI ?_|refine oA ?_|refine oM fun x hx hm=>?_|((first|apply aK|apply aL|apply aM|apply aF|apply aE)<;>intro h<;>(try simp at h)<;>(try(exfalso;omega))))
    any_goals((conv=>whnf);first|exact⟨ss,[],N,C,ns,cs,hok,.inl ⟨rfl,rfl⟩⟩|fail)
   ·repeat'((conv=>whnf);first|refine b4 (i9 (ss:=ss) (V:=.sl 3 ms1.length 0 ms1.length) rfl hok.pn hok.pc) ?_|refine b4 ((bS _)) ?_|refine And.intro (by exact rfl) ?_|refine And.intro (by decide) ?_|refine aI ?_|refine oA ?_|refine oM fun x hx hm=>?_|((first|apply aK|apply aL|apply aM|apply aF|apply aE)<;>intro h<;>(try simp at h)<;>(try(exfalso;omega))))
    any_goals((conv=>whnf);first|exact⟨ss,ms1,N,C,ns,cs,hok,.inr ⟨3,rfl,rfl⟩⟩|fail)
theorem YE{ss:List yD}{N C:a6}(hN:N.isPure=true)(hC:C.isPure=true):(a6.agg (cE ss .nil N C)).closed=true:=by
 show(cE ss .nil N C).all a6.isPure=true
 simp only[cE,List.all_cons,List.all_nil,hN,hC]
 rfl
theorem xX{σ:Nat→Nat}:∀{vs:List a6},vs.all a6.closed=true→mL σ vs vs
 |[],_=>trivial
 |v::vs,h=>by
  simp only[List.all_cons,Bool.and_eq_true]at h
  exact⟨.closed _ h.1,xX h.2⟩
def WP(P:Program)(f:FuncId)(vs:List a6):Prop :=
 ∃(ss:List yD) (ms:List vE) (N C:a6) (ns:List KP) (cs:List zD),wV ss ms N C ns cs ∧
  ((ms=[]∧∀H,a7 P f vs H (fun r H'=>r=.agg (cE ss .nil N C)∧H'=H)) ∨
  ∀H,a7 P f vs H (fun r H'=>r=.agg (cE ss (.sl H.length ms.length 0 ms.length) N C)∧H'=H++[.arr 8 (mC gR ms)]))
theorem R8{P:Program}{f:FuncId}{vs:List a6}(ha:vs.all a6.closed=true)(h:∃v H1,Z5 v H1∧a7 P f vs [] (fun r H'=>r=v∧H'=H1)):WP P f vs:=by
 obtain⟨v,H1,⟨ss,ms,N,C,ns,cs,hok,hq⟩,hc⟩:=h
 refine⟨ss,ms,N,C,ns,cs,hok,?_⟩
 rcases hq with⟨rfl,rfl⟩|⟨id,rfl,ho⟩
 ·exact .inl ⟨rfl,fun H=>a7.pure ha (hc.mono fun _ _ ⟨e1,e2⟩=>by subst e1 e2;exact .closed _ (YE hok.pn hok.pc))⟩
 ·right
  intro H
  have hg:=a7.gpI hc [id] (by simp) (fun k m hk=>by simp at hk) (H2:=[.arr 8 (mC gR ms)]) ⟨⟨_,ho,.same _ _ (aV eE ms)⟩,trivial⟩ (R':=.agg (cE ss (.sl 0 ms.length 0 ms.length) N C)) (by
   refine .agg _ _ rfl fun i v r h1 h2=>?_
   rcases i with _|_|_|_|_|_|i
   ·cases h1;cases h2;exact .closed _ rfl
   ·cases h1;cases h2;exact .closed _ rfl
   ·cases h1;cases h2;exact .closed _ rfl
   ·cases h1;cases h2;exact(i1 rfl rfl).1
   ·cases h1;cases h2;exact(dI hok.pn).1
   ·cases h1;cases h2;exact(dI hok.pc).1
   ·simp at h1)
  have hm:nD [] H.length 0=H.length:=by rw[mZ (by simp)];simp
  refine hg.frL (H2:=H++[.arr 8 (mC gR ms)]) [] List.nodup_nil rfl trivial (xX ha) (vR hm rfl hok.pn hok.pc) (by simp) ?_ (AB fun i x hx=>by rw[Nat.zero_add,List.getElem?_append_left (nU hx)];exact hx)
  exact⟨⟨_,by rw[hm,List.getElem?_append_right (Nat.le_refl _)];simp,.same (aV eE ms)⟩,trivial⟩
end Go.AW
