/-
  An abstract machine over the model, the code of functions on it, and their contracts: what the claim needs.
  No condition: definitions, plain laws, contracts over any program that has this code.
-/
import Derived.Test.YtbjodpkinpnebaaGreatY3
set_option linter.all false
namespace Go.AW
variable [dK]
attribute [local irreducible] a7
structure c8 where
 name:ByteArray
 kind:Int
 nul:Bool
def gJ(c:c8):List a6:=[.str c.name,.int .i64 c.kind,.bool c.nul]
def cC(cs:List c8):List (List a6):=cs.map gJ
theorem aX(l:List c8):(cC l).length=l.length:=List.length_map ..
theorem sU(a b:List c8):cC (a++b)=cC a++cC b:=List.map_append
theorem cG(l:List c8):bG (cC l)=true:=by simp[bG,cC,gJ,a6.isPure]
theorem iI{l:List c8}{k:Nat}{x:c8}(h:l[k]?=some x):(cC l)[k]?=some (gJ x):=by
 rw[cC,List.getElem?_map,h];rfl
def fS{α:Type}(p:α→Bool):List α→Int→Int
 |[],_=>-1
 |c::cs,i=>if p c then i else fS p cs (i+1)
def s4(name:ByteArray)(c:c8):Bool:=c.name.data.toList==name.data.toList
def eA(cs:List c8)(name:ByteArray):Int:=fS (s4 name) cs 0
set_option maxRecDepth 20000 in
theorem AO(g:FuncId)(caps:List a6)(p:c8→Bool)(H:List aB)(hg:∀c:c8,a7 pr g ([.agg (gJ c)]++caps) H (fun r H'=>r=.bool (p c)∧H'=H))
  (ex:Bool) (cs:List c8) (hl:cs.length≤1000000) :
  a7 pr 215 [.list ex 3 (cC cs),.fn g caps] H (fun r H'=>r=.int .i64 (fS p cs 0)∧H'=H):=by
 refine aA k215.has ?_
 conv=>whnf
 refine⟨fun m ρ H1=>∃k:Nat,k+m=cs.length∧fS p (cs.drop k) k=fS p cs 0∧H1=H ∧
  Sv 19 [(0,.list ex 3 (cC cs)),(1,.fn g caps),(7,.int .i64 cs.length),(8,.int .i64 k)] ρ,cs.length,[],?_,?_⟩
 ·exact⟨0,by omega,rfl,rfl,Sv.intro rfl ⟨rfl,rfl,aN (by rw[aX]),rfl,trivial⟩⟩
 rintro m ρ H1 ⟨k,hk,hr,rfl,d,rfl⟩
 (conv=>whnf);refine aE (fun hlt=>?_) (fun hlt=>?_)
 ·simp at hlt
  obtain⟨c,hc,hd,_⟩:=aY hlt
  rw[hd]at hr
  conv=>whnf
  refine And.intro (by omega) ?_
  (conv=>whnf);refine b8 (iI hc) ?_
  conv=>whnf
  refine a7.use (hg c) ?_
  (conv=>whnf);refine aE (fun h=>?_) (fun hf=>?_)
  ·conv=>whnf
   refine⟨aN ?_,rfl⟩
   rw[←hr,fS,if_pos h]
  ·conv=>whnf
   refine⟨m-1,by omega,Gp.keep rfl ?_ fun ρ1 h=>⟨k+1,by omega,?_,rfl,h⟩⟩
   ·exact⟨rfl,rfl,rfl,aN (aW ((k:Int)+1) (by omega) (by omega)),trivial⟩
   ·rw[←hr,fS,if_neg (by rw[hf];simp)];rfl
 ·simp at hlt
  conv=>whnf
  rw[List.drop_eq_nil_of_le hlt]at hr
  exact⟨aN hr,rfl⟩
set_option maxRecDepth 20000 in
theorem F9(c:c8)(name:ByteArray):
  a7 pr 216 ([.agg (gJ c)]++[.ptr 0 1 0 0]) [.arr 1 [[.str name]]] (fun r H'=>r=.bool (s4 name c)∧H'=[.arr 1 [[.str name]]]):=by
 refine a7.drop rfl (aA k216.has ?_)
 conv=>whnf
 exact⟨rfl,_,rfl⟩
set_option maxRecDepth 20000 in
theorem wE(ex:Bool)(cs:List c8)(hl:cs.length≤1000000)(name:ByteArray)(H:List aB):
  a7 pr 163 [.list ex 3 (cC cs),.str name] H (fun r H'=>r=.int .i64 (eA cs name)∧H'=H):=by
 refine a7.pure (by simp[a6.closed,a6.isPure]) (aA k163.has ?_)
 conv=>whnf
 refine a7.use (AO _ _ (s4 name) _ (fun c=>F9 c name) ex cs hl) ?_
 conv=>whnf
 exact .closed _ rfl
set_option maxRecDepth 20000 in
theorem bB(ex:Bool)(cs:List c8)(hl:cs.length≤1000000)(name:ByteArray)(H:List aB):
  a7 pr 123 [.list ex 3 (cC cs),.str name] H (fun r H'=>r=.int .i64 (eA cs name)∧H'=H):=by
 refine a7.pure (by simp[a6.closed,a6.isPure]) (aA k123.has ?_)
 conv=>whnf
 refine⟨fun m ρ H1=>∃k:Nat,k+m=cs.length∧fS (s4 name) (cs.drop k) k=eA cs name∧H1=[] ∧
  Sv 20 [(0,.list ex 3 (cC cs)),(1,.str name),(5,.int .i64 k)] ρ,cs.length,[],?_,?_⟩
 ·exact⟨0,by omega,rfl,rfl,Sv.intro rfl ⟨rfl,rfl,rfl,trivial⟩⟩
 rintro m ρ H1 ⟨k,hk,hr,rfl,d,rfl⟩
 (conv=>whnf);refine aE (fun hlt=>?_) (fun hlt=>?_)
 ·simp[aX]at hlt
  obtain⟨c,hc,hd,_⟩:=aY hlt
  rw[hd]at hr
  conv=>whnf
  refine And.intro (by omega) ?_
  (conv=>whnf);refine b8 (iI hc) ?_
  (conv=>whnf);refine aE (fun h=>?_) (fun hf=>?_)
  ·conv=>whnf
   refine cZ ?_
   rw[←hr,fS,if_pos (show s4 name c=true from h)]
  ·conv=>whnf
   refine⟨m-1,by omega,Gp.keep rfl ?_ fun ρ1 h=>⟨k+1,by omega,?_,rfl,h⟩⟩
   ·exact⟨rfl,rfl,aN (aW ((k:Int)+1) (by omega) (by omega)),trivial⟩
   ·rw[←hr,fS,if_neg (by rw[show s4 name c=false from hf];simp)];rfl
 ·simp[aX]at hlt
  conv=>whnf
  rw[List.drop_eq_nil_of_le hlt]at hr
  exact cZ hr
def VN(c:c8)(v:V):Bool:=(v.kind==0 && !c.nul)||(v.kind != 0&&v.kind != c.kind)
def yI:List c8→List V→Int
 |c::cs,v::rs=>if c7 v=false then 8 else if VN c v=true then 7 else yI cs rs
 |_,_=>0
def kZ(cs:List c8)(rs:List V):Int:=if rs.length=cs.length then yI cs rs else 8
set_option maxRecDepth 20000 in
theorem sE(e1 e2:Bool)(cs:List c8)(rs:List V)(hl:rs.length≤1000000)(H:List aB):
  a7 pr 120 [.list e1 3 (cC cs),.list e2 3 (vC rs)] H (fun r H'=>r=.int .i64 (kZ cs rs)∧H'=H):=by
 refine a7.pure rfl (aA k120.has ?_)
 (conv=>whnf);refine aE (fun h0=>?_) (fun h0=>?_)
 ·simp[b9,aX]at h0
  conv=>whnf
  exact cZ (by rw[kZ,if_neg (by omega)])
 simp[b9,aX]at h0
 have hR:kZ cs rs=yI cs rs:=by rw[kZ,if_pos (by omega)]
 conv=>whnf
 refine⟨fun m ρ H1=>∃k:Nat,k+m=rs.length∧yI (cs.drop k) (rs.drop k)=kZ cs rs∧H1=[] ∧
  Sv 48 [(0,.list e1 3 (cC cs)),(13,.list e2 3 (vC rs)),(14,.int .i64 rs.length),(15,.int .i64 k)] ρ,rs.length,[],?_,?_⟩
 ·exact⟨0,by omega,hR.symm,rfl,Sv.intro rfl ⟨rfl,rfl,aN (by rw[b9]),rfl,trivial⟩⟩
 rintro m ρ H1 ⟨k,hk,hr,rfl,d,rfl⟩
 (conv=>whnf);refine aE (fun hlt=>?_) (fun hlt=>?_)
 ·simp at hlt
  obtain⟨v,hv,hdv,_⟩:=aY hlt
  obtain⟨c,hc,hdc,_⟩:=aY (show k<cs.length by omega)
  rw[hdv,hdc,yI]at hr
  repeat'((conv=>whnf);first|refine And.intro (by omega) ?_|refine b8 (sP hv) ?_|refine b8 (iI hc) ?_|refine a7.use (j0 v _) ?_|refine aE (fun h=>?_) (fun h=>?_))
  all_goals(conv=>whnf)
  all_goals first
   |refine⟨m-1,by omega,Gp.none rfl ?_ fun ρ1 h=>⟨k+1,by omega,?_,rfl,h⟩⟩
   |refine cZ ?_
  all_goals first
   |exact⟨.closed _ rfl,.closed _ rfl,.closed _ rfl,eR (aW ((k:Int)+1) (by omega) (by omega)),trivial⟩
   |skip
  all_goals
   rw[←hr]
   simp_all [VN]
 ·simp at hlt
  conv=>whnf
  rw[List.drop_eq_nil_of_le (show cs.length≤k by omega)]at hr
  exact cZ hr
set_option maxRecDepth 20000 in
theorem uV(e1 e2:Bool)(cs:List c8)(rs:List V)(hl:rs.length≤1000000)(H:List aB):
  a7 pr 74 [.list e1 3 (cC cs),.list e2 3 (vC rs)] H (fun r H'=>r=.int .i64 (kZ cs rs)∧H'=H):=by
 refine a7.pure rfl (aA k74.has ?_)
 (conv=>whnf);refine aE (fun h0=>?_) (fun h0=>?_)
 ·simp[b9,aX]at h0
  conv=>whnf
  exact cZ (by rw[kZ,if_neg (by omega)])
 simp[b9,aX]at h0
 have hR:kZ cs rs=yI cs rs:=by rw[kZ,if_pos (by omega)]
 conv=>whnf
 refine⟨fun m ρ H1=>∃k:Nat,k+m=rs.length∧yI (cs.drop k) (rs.drop k)=kZ cs rs∧H1=[] ∧
  Sv 58 [(0,.list e1 3 (cC cs)),(1,.list e2 3 (vC rs)),(5,.int .i64 k)] ρ,rs.length,[],?_,?_⟩
 ·exact⟨0,by omega,hR.symm,rfl,Sv.intro rfl ⟨rfl,rfl,rfl,trivial⟩⟩
 rintro m ρ H1 ⟨k,hk,hr,rfl,d,rfl⟩
 (conv=>whnf);refine aE (fun hlt=>?_) (fun hlt=>?_)
 ·simp[b9]at hlt
  obtain⟨v,hv,hdv,_⟩:=aY hlt
  obtain⟨c,hc,hdc,_⟩:=aY (show k<cs.length by omega)
  rw[hdv,hdc,yI]at hr
  repeat'((conv=>whnf);first|refine And.intro (by omega) ?_|refine b8 (sP hv) ?_|refine b8 (iI hc) ?_|refine a7.use (i4 v _) ?_|refine aE (fun h=>?_) (fun h=>?_))
  all_goals(conv=>whnf)
  all_goals first
   |refine⟨m-1,by omega,Gp.none rfl ?_ fun ρ1 h=>⟨k+1,by omega,?_,rfl,h⟩⟩
   |refine cZ ?_
  all_goals first
   |exact⟨.closed _ rfl,.closed _ rfl,eR (aW ((k:Int)+1) (by omega) (by omega)),trivial⟩
   |skip
  all_goals
   rw[←hr]
   simp_all [VN]
 ·simp[b9]at hlt
  conv=>whnf
  rw[List.drop_eq_nil_of_le (show cs.length≤k by omega)]at hr
  exact cZ hr
theorem fJ(l:List Int)(i:Int):0≤DX l i∧DX l i≤131070:=by
 unfold DX
 have h1:=rF i
 split
 ·omega
 ·have hl:0<(l.length:Int):=by omega
  have h2:=rF (l.getD ((c6 i 65535).tmod l.length).toNat 0)
  have h3:0≤(c6 i 65535).tdiv l.length:=Int.tdiv_nonneg (by omega) (by omega)
  have h4:(c6 i 65535).tdiv l.length≤c6 i 65535:=by
   rw[Int.tdiv_eq_ediv_of_nonneg (by omega)]
   exact Int.ediv_le_self _ (by omega)
  rw[aW ((c6 i 65535).tdiv l.length) (by omega) (by omega),aW _ (by omega) (by omega)]
  omega
theorem a7.frz1{P:Program}{f:FuncId}{args:List a6}{n sz:Nat}{es:List (List a6)}{H:List aB}(ha:args.all a6.closed=true)(h:a7 P f args [] (fun r H1=>r=.sl 0 n 0 n∧H1=[.arr sz es]))
  (hn:n=es.length) (hp:bG es=true):a7 P f args H (fun r H'=>r=.list false sz es∧H'=H):=by
 refine a7.pure ha (h.mono ?_)
 rintro r H1 ⟨rfl,rfl⟩
 exact qH rfl hn hn hp
theorem a7.own1{P:Program}{f:FuncId}{args:List a6}{n sz:Nat}{es:List (List a6)}{H:List aB}(ha:args.all a6.closed=true)(h:a7 P f args [] (fun r H1=>r=.sl 0 n 0 n∧H1=[.arr sz es]))
  (hp:bG es=true):a7 P f args H (fun r H'=>r=.sl H.length n 0 n∧H'=H++[.arr sz es]):=by
 refine a7.lift ha h ?_
 rintro r H1 ⟨rfl,rfl⟩
 exact⟨[0],_,[.arr sz es],kI (k:=0) rfl (Nat.add_zero _).symm rfl rfl,by simp,rfl,fun k id hk=>by
  cases k with
  |zero=>simp at hk;subst hk;exact⟨rfl,sz,_,rfl,hp⟩
  |succ k=>simp at hk,rfl,rfl⟩
def iL{α:Type}(W:List α)(z:α)(k:Nat):List α:=W.take k++List.replicate (W.length-k) z
theorem DF{α:Type}(W:List α)(z:α)(k:Nat)(h:k≤W.length):(iL W z k).length=W.length:=by simp[iL];omega
theorem IL{α:Type}(W:List α)(z:α):iL W z 0=List.replicate W.length z:=by simp[iL]
theorem LM{α:Type}(W:List α)(z:α):iL W z W.length=W:=by simp[iL]
theorem BB{α:Type}(W:List α)(z:α)(k:Nat)(x:α)(h:W[k]?=some x):(iL W z k).set k x=iL W z (k+1):=by
 have hk:=(List.getElem?_eq_some_iff.1 h).1
 unfold iL
 obtain⟨m,hm⟩:∃m,W.length-k=m+1:=⟨W.length-k-1,by omega⟩
 have h1:(W.take k).length=k:=by simp;omega
 rw[hm,List.replicate_succ,List.set_append_right _ _ (by omega),h1,Nat.sub_self,List.set_cons_zero,List.take_add_one,h,show W.length-(k+1)=m by omega]
 simp
theorem BA{α:Type}(W:List α)(z:α)(k:Nat)(hk:k<W.length):(iL W z k)[k]?=some z:=by
 have h1:(W.take k).length=k:=by simp;omega
 rw[iL,List.getElem?_append_right (by omega),h1,Nat.sub_self]
 obtain⟨m,hm⟩:∃m,W.length-k=m+1:=⟨W.length-k-1,by omega⟩
 rw[hm,List.replicate_succ];rfl
def zV:V:=⟨0,0,bs []⟩
theorem B6{rs:List V}(h:rs.length≤12)(hv:∀v∈rs,c7 v=true):x9 rs=.tuple [.list false 1 (bC (eY rs)),.int .i64 0]:=by
 unfold x9
 rw[if_neg (by omega),if_pos (by simpa using hv)]
theorem m3(n:Int):u8 n=n % 256:=by
 show IntKind.u8.wrap n=_
 simp[IntKind.wrap,IntKind.signed,IntKind.bits]
theorem RV(x:Int)(h0:0≤x)(h1:x<4294967296):num (w4 x)=x:=by
 simp only[num,w4,List.foldl_cons,List.foldl_nil,m3]
 rw[Int.fdiv_eq_ediv_of_nonneg _ (by omega),Int.fdiv_eq_ediv_of_nonneg _ (by omega),Int.fdiv_eq_ediv_of_nonneg _ (by omega)]
 omega
theorem nY(n:Int):0≤u8 n∧u8 n≤255:=by rw[m3];omega
theorem QY(v:V):fI (jM v):=by
 intro x hx
 unfold jM at hx
 rcases List.mem_cons.1 hx with rfl|hx
 ·exact nY _
 ·split at hx
  ·rcases List.mem_singleton.1 hx with rfl;exact nY _
  split at hx
  ·simp[w4]at hx;rcases hx with rfl|rfl|rfl|rfl<;>exact nY _
  split at hx
  ·simp[w4]at hx;rcases hx with rfl|rfl|rfl|rfl<;>exact nY _
  split at hx
  ·rcases List.mem_cons.1 hx with rfl|hx
   ·exact nY _
   ·obtain⟨b,_,rfl⟩:=List.mem_map.1 hx
    have:=b.toNat_lt
    omega
  ·simp at hx
theorem QX(rs:List V):fI (eY rs):=by
 intro x hx
 rcases List.mem_cons.1 hx with rfl|hx
 ·exact nY _
 ·obtain⟨v,_,hv⟩:=List.mem_flatMap.1 hx
  exact QY v x hv
theorem wJ(s:ByteArray):uB (dT s)=s:=by
 obtain⟨⟨l⟩⟩:=s
 simp only[uB,dT,List.map_map]
 congr
 rw[List.map_congr_left (g:=id)]
 ·simp
 ·intro b _
  simp
theorem V.ext'{a b:V}(h1:a.kind=b.kind)(h2:a.num=b.num)(h3:a.str=b.str):a=b:=by
 cases a;cases b;simp_all
theorem AJ{s:ByteArray}(h:s.data.toList=[]):s=bs []:=by
 obtain⟨⟨l⟩⟩:=s
 simp at h
 subst h;rfl
theorem R6(v:V)(hv:c7 v=true)(t:List Int):dW (jM v++t)=(v,((jM v).length:Int)):=by
 unfold c7 at hv
 split at hv
 ·rename_i hk
  simp at hv
  have hs:=AJ (show v.str.data.toList=[] by simp[hv.2])
  have e:jM v=[0]:=by simp[jM,hk,m3]
  rw[e]
  show oC ([0]++t) 0 _=_
  rw[LE (by simp)]
  rw[show v=⟨0,0,bs []⟩from V.ext' hk hv.1 hs];rfl
 split at hv
 ·rename_i hk
  simp at hv
  have hs:=AJ (show v.str.data.toList=[] by simp[hv.2])
  have e:jM v=[1,v.num]:=by
   have:u8 v.num=v.num:=by rw[m3];omega
   simp[jM,hk,this,m3]
  rw[e]
  show oC ([1,v.num]++t) 1 v.num=_
  rw[LF (by simp)]
  rw[show v=⟨1,v.num,bs []⟩from V.ext' hk rfl hs];rfl
 split at hv
 ·rename_i hk
  simp at hv
  have hs:=AJ (show v.str.data.toList=[] by simp[hv.2])
  have e:jM v=2::w4 (v.num+1073741824):=by
   simp only[jM,hk]
   rw[if_neg (by decide),if_pos trivial,aW (v.num+1073741824) (by omega) (by omega)]
   simp[m3]
  rw[e]
  show oC ((2::w4 (v.num+1073741824))++t) 2 _=_
  rw[LG (by simp[w4])]
  have:(((2::w4 (v.num+1073741824))++t).take 5).drop 1=w4 (v.num+1073741824):=by simp[w4]
  rw[this,RV _ (by omega) (by omega)]
  rw[show v=⟨2,v.num,bs []⟩from V.ext' hk rfl hs]
  simp[w4]
 split at hv
 ·rename_i hk
  simp at hv
  have e:jM v=3::(v.str.size:Int)::dT v.str:=by
   have:u8 (v.str.size:Int)=v.str.size:=by rw[m3];omega
   simp only[jM,hk]
   rw[if_neg (by decide),if_neg (by decide),if_neg (by decide),if_pos trivial,this]
   simp[m3]
  have hlen:(dT v.str).length=v.str.size:=by simp[dT]
  rw[e]
  show oC ((3::(v.str.size:Int)::dT v.str)++t) 3 (v.str.size:Int)=_
  rw[LH (by simp) (by simp[hlen];omega)]
  have:(((3::(v.str.size:Int)::dT v.str)++t).take (2+(v.str.size:Int)).toNat).drop 2=dT v.str:=by
   rw[show(2+(v.str.size:Int)).toNat=v.str.size+1+1 by omega]
   simp[←hlen]
  rw[this,wJ]
  rw[show(⟨3,0,v.str⟩:V)=v from V.ext' hk.symm hv.1.symm rfl]
  simp[hlen];omega
 split at hv
 ·rename_i hk
  simp at hv
  have hs:=AJ (show v.str.data.toList=[] by simp[hv.2])
  have e:jM v=4::w4 v.num:=by
   simp only[jM,hk]
   rw[if_neg (by decide),if_neg (by decide),if_pos trivial]
   simp[m3]
  rw[e]
  show oC ((4::w4 v.num)++t) 4 _=_
  rw[LJ (by simp[w4])]
  have:(((4::w4 v.num)++t).take 5).drop 1=w4 v.num:=by simp[w4]
  rw[this,RV _ (by omega) (by omega)]
  rw[show v=⟨4,v.num,bs []⟩from V.ext' hk rfl hs]
  simp[w4]
 ·cases hv
theorem RA(v:V):0<(jM v).length:=by simp[jM]
theorem ID:∀(rs:List V) (t:List Int),(∀v∈rs,c7 v=true)→oB rs.length (rs.flatMap jM++t)=some (rs,t)
 |[],t,_=>rfl
 |v::rs,t,h=>by
  have hv:=h v (by simp)
  have e:(v::rs).flatMap jM++t=jM v++(rs.flatMap jM++t):=by simp
  rw[e,List.length_cons,jR,R6 v hv]
  have:=RA v
  rw[if_neg (by rw[hv];simp only[Bool.true_eq_false,or_false];omega)]
  simp only[Int.toNat_natCast,List.drop_left]
  rw[ID rs t fun w hw=>h w (by simp[hw])]
theorem R5(rs:List V)(hl:rs.length≤12)(h:∀v∈rs,c7 v=true):rL (eY rs)=.tuple [.list false 3 (vC rs),.int .i64 0]:=by
 have hu:u8 (rs.length:Int)=rs.length:=by rw[m3];omega
 have e:eY rs=(rs.length:Int)::rs.flatMap jM:=by rw[eY,hu]
 rw[e]
 unfold rL
 rw[if_neg (by simp;omega)]
 have:=ID rs [] h
 rw[List.append_nil]at this
 simp[this]
theorem qK:∀(a b:List V),bF a b=0↔a=b
 |[],[]=>by simp[bF]
 |[],_::_=>by simp[bF]
 |_::_,[]=>by simp[bF]
 |x::a,y::b=>by
  have hz:=mS.zero x y
  rw[bF]
  by_cases h:iT x y=0
  ·rw[if_pos h,qK a b,hz.1 h];simp
  ·rw[if_neg h]
   constructor
   ·intro h2;exact absurd h2 h
   ·intro h2;simp at h2;exact absurd (hz.2 h2.1) h
theorem VV{H:List aB}{id ep len sz:Nat}{es:List (List a6)}(ho:H[id]?=some (.arr sz es))(he:ep=es.length)(hl:len=es.length)(hp:bG es=true):vD H (.sl id ep 0 len) (.list false sz es):=by
 subst he hl
 have:=vD.sl id es.length 0 es.length sz es ho rfl hp
 rwa [List.drop_zero,List.take_length]at this
def zC:c8:=⟨bs [],0,false⟩
theorem K3(l:List c8)(k:Nat)(v:c8):qW (cC l) k (gJ v)=cC (l.set k v):=by rw[wG];simp[cC]
def mF{α:Type}(z:α)(l:List α)(is:List Int):List α:=is.map fun i=>if 0≤i∧i<(l.length:Int)then l.getD i.toNat z else z
theorem dZ{α:Type}(z:α)(l:List α)(is:List Int):(mF z l is).length=is.length:=by simp[mF]
theorem S4{α:Type}(z:α)(l:List α)(is:List Int)(k:Nat)(i:Int)(x:α)(h:is[k]?=some i)(h0:0≤i)(hx:l[i.toNat]?=some x):(mF z l is)[k]?=some x:=by
 have hi:=(List.getElem?_eq_some_iff.1 hx).1
 rw[mF,List.getElem?_map,h,Option.map_some,if_pos ⟨h0,by omega⟩,List.getD_eq_getElem?_getD,hx];rfl
theorem EN{α:Type}(z:α)(l:List α)(is:List Int)(k:Nat)(i:Int)(h:is[k]?=some i)(h0:¬(0≤i∧i<(l.length:Int))):(mF z l is)[k]?=some z:=by
 rw[mF,List.getElem?_map,h,Option.map_some,if_neg h0]
theorem yL{α:Type}(W:List α)(z:α)(k:Nat)(h:W[k]?=some z):iL W z k=iL W z (k+1):=by
 rw[←BB W z k z h]
 have hg:=BA W z k (List.getElem?_eq_some_iff.1 h).1
 obtain⟨hl,he⟩:=List.getElem?_eq_some_iff.1 hg
 conv=>lhs;rw[←List.set_getElem_self hl]
 rw[he]
theorem IS{l:List Int}{k:Nat}{x:Int}(h:l[k]?=some x):(iC l)[k]?=some [.int .i64 x]:=by simp[iC,h]
set_option maxRecDepth 20000 in
theorem qU(e1 e2:Bool)(r:List c8)(is:List Int)(hr:r.length≤1000000)(hl:is.length≤1000000):
  a7 pr 239 [.list e1 3 (cC r),.list e2 1 (iC is)] [] (fun q H'=>q=.sl 0 is.length 0 is.length∧H'=[.arr 3 (cC (mF zC r is))]):=by
 refine aA k239.has ?_
 conv=>whnf
 refine And.intro ⟨by omega,by omega,by rw[cA];show(is.length:Int)*32≤1099511627776;omega,by rw[cA];show(is.length:Int)≤1099511627776;omega⟩ ?_
 conv=>whnf
 refine⟨fun m ρ H=>∃k:Nat,k+m=is.length∧H=[.arr 3 (cC (iL (mF zC r is) zC k))]∧Sv 41 [(0,.list e1 3 (cC r)),(1,.list e2 1 (iC is)),(5,.sl 0 is.length 0 is.length),(6,.int .i64 k)] ρ,is.length,[],?_,?_⟩
 ·refine⟨0,by omega,?_,Sv.intro rfl ⟨rfl,rfl,eQ ?_ ?_,rfl,trivial⟩⟩
  ·rw[IL,dZ]
   simp[cC,cA];exact .inr rfl
  ·simp[cA]
  ·simp[cA]
 rintro m ρ H ⟨k,hk,rfl,d,rfl⟩
 (conv=>whnf);refine aE (fun hlt=>?_) (fun hlt=>?_)
 ·simp[cA]at hlt
  obtain⟨i,hi,_,_⟩:=aY hlt
  have hlen:(cC (iL (mF zC r is) zC k)).length=is.length:=by rw[aX,DF _ _ _ (by rw[dZ];omega),dZ]
  have e1:=aW ((k:Int)+1) (by omega) (by omega)
  conv=>whnf
  refine And.intro (by omega) ?_
  (conv=>whnf);refine b8 (IS hi) ?_
  conv=>whnf
  refine aE (fun h0=>?_) (fun h0=>?_)
  ·replace h0:decide (i≥0)=true:=h0
   simp at h0
   conv=>whnf
   refine And.intro (by omega) ?_
   (conv=>whnf);refine b8 (IS hi) ?_
   (conv=>whnf);refine aE (fun h1=>?_) (fun h1=>?_)
   ·replace h1:decide (i<((cC r).length:Int))=true:=h1
    simp[aX]at h1
    obtain⟨x,hx,_,_⟩:=aY (l:=r) (k:=i.toNat) (by omega)
    have hw:=S4 zC r is k i x hi h0 hx
    conv=>whnf
    refine And.intro (by omega) ?_
    (conv=>whnf);refine b8 (IS hi) ?_
    (conv=>whnf);refine And.intro h0 ?_
    (conv=>whnf);refine b8 (iI hx) ?_
    (conv=>whnf);refine b4 (by rw[hlen];exact Nat.beq_refl _) ?_
    conv=>whnf
    refine And.intro ⟨by omega,by omega⟩ ?_
    (conv=>whnf);refine b4 (by rw[hlen];exact Nat.beq_refl _) ?_
    conv=>whnf
    have hidx:(cC (iL (mF zC r is) zC k))[0+(k:Int).toNat]?=some (gJ zC):=by
     rw[Nat.zero_add,Int.toNat_natCast]
     exact iI (BA _ _ _ (by rw[dZ];omega))
    refine b8 hidx ?_
    conv=>whnf
    refine⟨m-1,by omega,Gp.keep rfl ?_ fun ρ1 h=>⟨k+1,by omega,?_,h⟩⟩
    ·exact⟨rfl,rfl,rfl,aN e1,trivial⟩
    ·rw[←BB _ _ _ _ hw,←K3]
     show[aB.arr 3 (qW (cC (iL (mF zC r is) zC k)) (0+(k:Int).toNat) (gJ x))]=_
     rw[Nat.zero_add,Int.toNat_natCast]
   ·replace h1:decide (i<((cC r).length:Int))=false:=h1
    simp[aX]at h1
    conv=>whnf
    refine⟨m-1,by omega,Gp.keep rfl ?_ fun ρ1 h=>⟨k+1,by omega,?_,h⟩⟩
    ·exact⟨rfl,rfl,rfl,aN e1,trivial⟩
    ·rw[←yL _ _ _ (EN zC r is k i hi (by omega))]
  ·replace h0:decide (i≥0)=false:=h0
   simp at h0
   conv=>whnf
   refine⟨m-1,by omega,Gp.keep rfl ?_ fun ρ1 h=>⟨k+1,by omega,?_,h⟩⟩
   ·exact⟨rfl,rfl,rfl,aN e1,trivial⟩
   ·rw[←yL _ _ _ (EN zC r is k i hi (by omega))]
 ·simp[cA]at hlt
  have:k=is.length:=by omega
  subst this
  conv=>whnf
  refine⟨rfl,?_⟩
  rw[←dZ zC r is,LM]
theorem xS(e1 e2:Bool)(r:List c8)(is:List Int)(hr:r.length≤1000000)(hl:is.length≤1000000)(H:List aB):
  a7 pr 239 [.list e1 3 (cC r),.list e2 1 (iC is)] H (fun q H'=>q=.list false 3 (cC (mF zC r is))∧H'=H) :=
 a7.frz1 (by simp[a6.closed,a6.isPure]) (qU e1 e2 r is hr hl) (by rw[aX,dZ]) (cG _)
theorem xO(l:List Int):bG (iC l)=true:=by simp[bG,iC,a6.isPure]
theorem OT(a b:List Int):iC (a++b)=iC a++iC b:=List.map_append
def sC(l:List ByteArray):List (List a6):=l.map fun s=>[.str s]
theorem aP(l:List ByteArray):(sC l).length=l.length:=List.length_map ..
theorem jV(a b:List ByteArray):sC (a++b)=sC a++sC b:=List.map_append
theorem aO(l:List ByteArray):bG (sC l)=true:=by simp[bG,sC,a6.isPure]
theorem mI{l:List ByteArray}{k:Nat}{x:ByteArray}(h:l[k]?=some x):(sC l)[k]?=some [.str x]:=by simp[sC,h]
def ON(s t:ByteArray):Bool:=s.data.toList==t.data.toList
theorem t7{α:Type}(p:α→Bool):∀(l:List α) (i:Int),0≤i→(fS p l i≥0↔l.any p=true)
 |[],i,h=>by simp[fS]
 |c::cs,i,h=>by
  rw[fS]
  split
  ·simp_all
  ·rw[t7 p cs (i+1) (by omega)];simp_all
set_option maxRecDepth 20000 in
theorem vB(ex:Bool)(l:List ByteArray)(hl:l.length≤1000000)(s:ByteArray)(H:List aB):
  a7 pr 137 [.list ex 1 (sC l),.str s] H (fun r H'=>r=.bool (l.any (ON s))∧H'=H):=by
 refine a7.pure (by simp[a6.closed,a6.isPure]) (aA k137.has ?_)
 conv=>whnf
 refine⟨fun m ρ H1=>∃k:Nat,k+m=l.length∧(l.drop k).any (ON s)=l.any (ON s)∧H1=[] ∧
  Sv 18 [(0,.list ex 1 (sC l)),(1,.str s),(5,.int .i64 k)] ρ,l.length,[],?_,?_⟩
 ·exact⟨0,by omega,rfl,rfl,Sv.intro rfl ⟨rfl,rfl,rfl,trivial⟩⟩
 rintro m ρ H1 ⟨k,hk,hr,rfl,d,rfl⟩
 (conv=>whnf);refine aE (fun hlt=>?_) (fun hlt=>?_)
 ·simp[aP]at hlt
  obtain⟨c,hc,hd,_⟩:=aY hlt
  rw[hd,List.any_cons]at hr
  have hcm:ON s c=(c.data.toList==s.data.toList):=by rw[ON,BEq.comm]
  conv=>whnf
  refine And.intro (by omega) ?_
  (conv=>whnf);refine b8 (mI hc) ?_
  (conv=>whnf);refine aE (fun h=>?_) (fun hf=>?_)
  ·conv=>whnf
   refine iB ?_
   rw[←hr,hcm,show(c.data.toList==s.data.toList)=true from h];rfl
  ·conv=>whnf
   refine⟨m-1,by omega,Gp.keep rfl ?_ fun ρ1 h=>⟨k+1,by omega,?_,rfl,h⟩⟩
   ·exact⟨rfl,rfl,aN (aW ((k:Int)+1) (by omega) (by omega)),trivial⟩
   ·rw[←hr,hcm,show(c.data.toList==s.data.toList)=false from hf];rfl
 ·simp[aP]at hlt
  conv=>whnf
  rw[List.drop_eq_nil_of_le hlt]at hr
  exact iB hr
def yO(cs:List c8)(names:List ByteArray):List ByteArray→Nat→List Int→a6
 |[],_,out=>.tuple [.list false 1 (iC out),.int .i64 0]
 |s::ss,k,out=>if eA cs s<0 then .tuple [.nil,.int .i64 5]else if(names.take k).any (ON s)=true then .tuple [.nil,.int .i64 6]else yO cs names ss (k+1) (out++[eA cs s])
def X3(cs:List c8)(names:List ByteArray):a6:=yO cs names names 0 []
set_option maxRecDepth 20000 in
theorem w7(e1 e2:Bool)(cs:List c8)(names:List ByteArray)(hc:cs.length≤1000000)(hl:names.length≤1000000)(H:List aB):
  a7 pr 238 [.list e1 3 (cC cs),.list e2 1 (sC names)] H (fun r H'=>r=X3 cs names∧H'=H):=by
 refine a7.pure (by simp[a6.closed,a6.isPure]) (aA k238.has ?_)
 conv=>whnf
 refine⟨fun m ρ H1=>∃(k:Nat) (out:List Int),k+m=names.length∧out.length=k∧yO cs names (names.drop k) k out=X3 cs names∧H1=[.arr 1 (iC out)] ∧
  Sv 36 [(0,.list e1 3 (cC cs)),(1,.list e2 1 (sC names)),(6,.sl 0 k 0 k),(7,.int .i64 k)] ρ,names.length,[(6,1)],?_,?_⟩
 ·exact⟨0,[],by omega,rfl,rfl,by rfl,Sv.intro rfl ⟨rfl,rfl,rfl,rfl,trivial⟩⟩
 rintro m ρ H1 ⟨k,out,hk,ho,hr,rfl,d,rfl⟩
 have hol:(iC out).length=k:=by rw[cA,ho]
 (conv=>whnf);refine aE (fun hlt=>?_) (fun hlt=>?_)
 ·simp[aP]at hlt
  obtain⟨s,hs,hd,_⟩:=aY hlt
  rw[hd,yO]at hr
  conv=>whnf
  refine And.intro (by omega) ?_
  (conv=>whnf);refine b8 (mI hs) ?_
  conv=>whnf
  refine a7.use (bB e1 cs hc s _) ?_
  (conv=>whnf);refine aE (fun h=>?_) (fun h=>?_)
  ·replace h:decide (eA cs s<0)=true:=h
   simp at h
   conv=>whnf
   rw[←hr,if_pos h]
   exact dP (.closed _ rfl) (.closed _ rfl)
  ·replace h:decide (eA cs s<0)=false:=h
   simp at h
   rw[if_neg (by omega)]at hr
   have hC:=fun H=>vB (e2&&(some (bA.t 24)).isNone) (names.take k) (by simp;omega) s H
   have htk:sC (names.take k)=List.drop 0 (List.take (k:Int).toNat (sC names)):=by simp[sC]
   rw[htk]at hC
   conv=>whnf
   refine And.intro ⟨by omega,by rw[aP];omega⟩ ?_
   conv=>whnf
   refine And.intro (by omega) ?_
   (conv=>whnf);refine b8 (mI hs) ?_
   conv=>whnf
   refine⟨_,hC _,?_⟩
   (conv=>whnf);refine aE (fun g=>?_) (fun g=>?_)
   ·rw[if_pos g]at hr
    conv=>whnf
    rw[←hr]
    exact dP (.closed _ rfl) (.closed _ rfl)
   ·rw[if_neg (by rw[show(names.take k).any (ON s)=false from g];simp)]at hr
    (conv=>whnf);refine b4 (by rw[hol];exact Nat.beq_refl _) ?_
    (conv=>whnf);refine And.intro ⟨cN (by simp;omega) (by omega),bK (by simp;omega),rfl,by rw[hol]⟩ ?_
    conv=>whnf
    have hl1:(iC out++[[a6.int .i64 (eA cs s)]]).length=k+1:=by rw[List.length_append,hol];rfl
    refine⟨m-1,by omega,Gp.one 0 1 (iC (out++[eA cs s])) (by rw[OT];rfl) (xO _) rfl ?_ fun ρ1 h=>⟨k+1,out++[eA cs s],by omega,by simp[ho],hr,rfl,h⟩⟩
    exact⟨.closed _ rfl,.closed _ rfl,kI (k:=0) rfl rfl hl1 hl1,eR (aW ((k:Int)+1) (by omega) (by omega)),trivial⟩
 ·simp[aP]at hlt
  rw[List.drop_eq_nil_of_le hlt,yO]at hr
  conv=>whnf
  rw[←hr]
  exact dP (qH rfl hol.symm hol.symm (xO _)) (.closed _ rfl)
structure cW where
 row:List V
 cnt:Int
def jN(e:cW):List a6:=[.list false 3 (vC e.row),.int .i64 e.cnt]
def eC(l:List cW):List (List a6):=l.map jN
theorem aR(l:List cW):(eC l).length=l.length:=List.length_map ..
theorem l5(a b:List cW):eC (a++b)=eC a++eC b:=List.map_append
theorem gP(l:List cW):bG (eC l)=true:=by simp[bG,eC,jN,a6.isPure]
theorem fE{l:List cW}{k:Nat}{x:cW}(h:l[k]?=some x):(eC l)[k]?=some (jN x):=by
 rw[eC,List.getElem?_map,h];rfl
def iF(e:cW):Int:=if 12<e.row.length∨e.cnt < -65536∨65536<e.cnt then 2 else if e.row.all c7 then 0 else 8
theorem oW(e:cW)(h:iF e=0):e.row.length≤12 ∧ -65536≤e.cnt∧e.cnt≤65536∧∀v∈e.row,c7 v=true:=by
 unfold iF at h
 split at h
 ·cases h
 ·split at h
  ·rename_i h1 h2
   exact⟨by omega,by omega,by omega,by simpa using h2⟩
  ·cases h
set_option maxRecDepth 20000 in
theorem IN(x:cW)(H:List aB):
  a7 pr 166 [.agg (jN x)] H (fun r H'=>r=.int .i64 (iF x)∧H'=H):=by
 refine a7.pure (by simp[a6.closed,jN,a6.isPure]) (aA k166.has ?_)
 (conv=>whnf);refine aE (fun h0=>?_) (fun h0=>?_)
 ·simp[b9]at h0
  conv=>whnf
  exact cZ (by rw[iF,if_pos (by omega)])
 simp[b9]at h0
 (conv=>whnf);refine aE (fun h1=>?_) (fun h1=>?_)
 ·simp at h1
  conv=>whnf
  exact cZ (by rw[iF,if_pos (by omega)])
 simp at h1
 (conv=>whnf);refine aE (fun h2=>?_) (fun h2=>?_)
 ·simp at h2
  conv=>whnf
  exact cZ (by rw[iF,if_pos (by omega)])
 simp at h2
 have hR:iF x=if x.row.all c7 then 0 else 8:=by rw[iF,if_neg (by omega)]
 conv=>whnf
 refine⟨fun m ρ H1=>∃k:Nat,k+m=x.row.length∧(x.row.drop k).all c7=x.row.all c7∧H1=[.arr 2 [jN x]] ∧
  Sv 30 [(20,.list false 3 (vC x.row)),(21,.int .i64 x.row.length),(22,.int .i64 k)] ρ,x.row.length,[],?_,?_⟩
 ·exact⟨0,by omega,rfl,rfl,Sv.intro rfl ⟨rfl,aN (by rw[b9]),rfl,trivial⟩⟩
 rintro m ρ H1 ⟨k,hk,hr,rfl,d,rfl⟩
 (conv=>whnf);refine aE (fun hlt=>?_) (fun hlt=>?_)
 ·simp at hlt
  obtain⟨v,hv,hd,_⟩:=aY hlt
  rw[hd,List.all_cons]at hr
  conv=>whnf
  refine And.intro (by omega) ?_
  (conv=>whnf);refine b8 (sP hv) ?_
  conv=>whnf
  refine a7.use (j0 v _) ?_
  (conv=>whnf);refine aE (fun h=>?_) (fun hf=>?_)
  ·replace h:(!(c7 v))=true:=h
   conv=>whnf
   exact cZ (by rw[hR,←hr,if_neg (by simp_all)])
  ·replace hf:(!(c7 v))=false:=hf
   conv=>whnf
   refine⟨m-1,by omega,Gp.one 0 2 [jN x] rfl (by simp[bG,jN,a6.isPure]) rfl ?_ fun ρ1 h=>⟨k+1,by omega,?_,rfl,h⟩⟩
   ·exact⟨.closed _ rfl,.closed _ rfl,eR (aW ((k:Int)+1) (by omega) (by omega)),trivial⟩
   ·rw[←hr];simp_all
 ·simp at hlt
  conv=>whnf
  rw[List.drop_eq_nil_of_le hlt]at hr
  exact cZ (by rw[hR,←hr];rfl)
theorem CW(n:Int)(H:List aB):
  a7 pr 170 [.int .i64 n] H (fun r H'=>r=.bool (decide (-65536≤n)&&decide (n≤65536))∧H'=H):=by
 refine a7.pure rfl (aA k170.has ?_)
 (conv=>whnf);refine aE (fun h=>?_) (fun h=>?_)
 ·simp at h
  conv=>whnf
  exact iB (by simp[h])
 ·simp at h
  conv=>whnf
  exact iB (by simp;omega)
set_option maxRecDepth 20000 in
theorem E7(x:cW)(H:List aB):
  a7 pr 124 [.agg (jN x)] H (fun r H'=>r=.int .i64 (iF x)∧H'=H):=by
 refine a7.pure (by simp[a6.closed,jN,a6.isPure]) (aA k124.has ?_)
 (conv=>whnf);refine aE (fun h0=>?_) (fun h0=>?_)
 ·simp[b9]at h0
  conv=>whnf
  exact cZ (by rw[iF,if_pos (by omega)])
 simp[b9]at h0
 (conv=>whnf);refine a7.use (CW _ _) ?_
 (conv=>whnf);refine aE (fun h1=>?_) (fun h1=>?_)
 ·replace h1:(!(decide (-65536≤x.cnt)&&decide (x.cnt≤65536)))=true:=h1
  simp at h1
  conv=>whnf
  exact cZ (by rw[iF,if_pos (by omega)])
 replace h1:(!(decide (-65536≤x.cnt)&&decide (x.cnt≤65536)))=false:=h1
 simp at h1
 have hR:iF x=if x.row.all c7 then 0 else 8:=by rw[iF,if_neg (by omega)]
 conv=>whnf
 refine⟨fun m ρ H1=>∃k:Nat,k+m=x.row.length∧(x.row.drop k).all c7=x.row.all c7∧H1=[.arr 2 [jN x]] ∧
  Sv 28 [(1,.ptr 0 1 0 0),(3,.int .i64 k)] ρ,x.row.length,[],?_,?_⟩
 ·exact⟨0,by omega,rfl,rfl,Sv.intro rfl ⟨rfl,rfl,trivial⟩⟩
 rintro m ρ H1 ⟨k,hk,hr,rfl,d,rfl⟩
 (conv=>whnf);refine aE (fun hlt=>?_) (fun hlt=>?_)
 ·simp[b9]at hlt
  obtain⟨v,hv,hd,_⟩:=aY hlt
  rw[hd,List.all_cons]at hr
  conv=>whnf
  refine And.intro (by omega) ?_
  (conv=>whnf);refine b8 (sP hv) ?_
  conv=>whnf
  refine a7.use (i4 v _) ?_
  (conv=>whnf);refine aE (fun h=>?_) (fun hf=>?_)
  ·replace h:(!(c7 v))=true:=h
   conv=>whnf
   exact cZ (by rw[hR,←hr,if_neg (by simp_all)])
  ·replace hf:(!(c7 v))=false:=hf
   conv=>whnf
   refine⟨m-1,by omega,Gp.keep rfl ?_ fun ρ1 h=>⟨k+1,by omega,?_,rfl,h⟩⟩
   ·exact⟨rfl,aN (aW ((k:Int)+1) (by omega) (by omega)),trivial⟩
   ·rw[←hr];simp_all
 ·simp[b9]at hlt
  conv=>whnf
  rw[List.drop_eq_nil_of_le hlt]at hr
  exact cZ (by rw[hR,←hr];rfl)
def C4:Option (List V)→List V→Bool
 |some q,r=>decide (bF q r≥0)
 |none,_=>false
def x6:List cW→Option (List V)→Int
 |[],_=>0
 |e::es,p=>if iF e≠0 then iF e else if e.cnt=0 then 8 else if C4 p e.row=true then 14 else x6 es (some e.row)
def gI(b:List cW):Int:=if 4096<b.length then 2 else x6 b none
def yT(b:List cW):Nat→Option (List V)
 |0=>none
 |k+1=>(b[k]?).map cW.row
theorem g7{b:List cW}{k:Nat}{x:cW}(h:b[k]?=some x):yT b (k+1)=some x.row:=by rw[yT,h];rfl
set_option maxRecDepth 20000 in
theorem nJ(ex:Bool)(b:List cW)(H:List aB):
  a7 pr 118 [.list ex 2 (eC b)] H (fun r H'=>r=.int .i64 (gI b)∧H'=H):=by
 refine a7.pure (by simp[a6.closed,a6.isPure]) (aA k118.has ?_)
 (conv=>whnf);refine aE (fun h0=>?_) (fun h0=>?_)
 ·simp[aR]at h0
  conv=>whnf
  exact cZ (by rw[gI,if_pos (by omega)])
 simp[aR]at h0
 have hR:gI b=x6 b none:=by rw[gI,if_neg (by omega)]
 conv=>whnf
 refine⟨fun m ρ H1=>∃k:Nat,k+m=b.length∧x6 (b.drop k) (yT b k)=gI b∧(∀q,yT b k=some q→q.length≤12)∧H1=[] ∧
  Sv 39 [(0,.list ex 2 (eC b)),(9,.list ex 2 (eC b)),(10,.int .i64 b.length),(11,.int .i64 k)] ρ,b.length,[],?_,?_⟩
 ·exact⟨0,by omega,hR.symm,fun q h=>(by cases h),rfl,Sv.intro rfl ⟨rfl,rfl,aN (by rw[aR]),rfl,trivial⟩⟩
 rintro m ρ H1 ⟨k,hk,hr,hq,rfl,d,rfl⟩
 (conv=>whnf);refine aE (fun hlt=>?_) (fun hlt=>?_)
 ·simp at hlt
  obtain⟨x,hx,hd,_⟩:=aY hlt
  rw[hd,x6]at hr
  have ew:=aW ((k:Int)+1) (by omega) (by omega)
  conv=>whnf
  refine And.intro (by omega) ?_
  (conv=>whnf);refine b8 (fE hx) ?_
  conv=>whnf
  refine a7.use (IN x _) ?_
  (conv=>whnf);refine aE (fun h=>?_) (fun h=>?_)
  ·replace h:(!(iF x==0))=true:=h
   simp at h
   conv=>whnf
   exact cZ (by rw[←hr,if_pos h])
  replace h:(!(iF x==0))=false:=h
  simp at h
  obtain⟨g1,g2,g3,g4⟩:=oW x h
  rw[if_neg (by simp[h])]at hr
  (conv=>whnf);refine aE (fun hz=>?_) (fun hz=>?_)
  ·replace hz:(x.cnt==0)=true:=hz
   simp at hz
   conv=>whnf
   exact cZ (by rw[←hr,if_pos hz])
  replace hz:(x.cnt==0)=false:=hz
  simp at hz
  rw[if_neg hz]at hr
  (conv=>whnf);refine aE (fun hp=>?_) (fun hp=>?_)
  ·replace hp:decide ((k:Int)>0)=true:=hp
   simp at hp
   obtain⟨j,rfl⟩:∃j,k=j+1:=⟨k-1,by omega⟩
   obtain⟨y,hy,_,_⟩:=aY (l:=b) (k:=j) (by omega)
   have ej:=aW (((j+1:Nat):Int)-1) (by omega) (by omega)
   have hy2:(eC b)[(IntKind.i64.wrap (((j+1:Nat):Int)-1)).toNat]?=some (jN y):=by
    rw[ej,show((((j+1:Nat):Int)-1).toNat)=j by omega];exact fE hy
   rw[g7 hy]at hq hr
   have hql:=hq _ rfl
   (conv=>whnf);refine And.intro (by rw[ej];omega) ?_
   (conv=>whnf);refine b8 hy2 ?_
   conv=>whnf
   refine⟨_,qO false false y.row x.row (by omega) _,?_⟩
   (conv=>whnf);refine aE (fun hc=>?_) (fun hc=>?_)
   ·replace hc:decide (bF y.row x.row≥0)=true:=hc
    conv=>whnf
    exact cZ (by rw[←hr,if_pos (show C4 (some y.row) x.row=true from hc)])
   ·replace hc:decide (bF y.row x.row≥0)=false:=hc
    conv=>whnf
    rw[if_neg (by rw[show C4 (some y.row) x.row=false from hc];simp)]at hr
    refine⟨m-1,by omega,Gp.none rfl ?_ fun ρ1 h=>⟨j+1+1,by omega,?_,?_,rfl,h⟩⟩
    ·exact⟨.closed _ rfl,.closed _ rfl,.closed _ rfl,eR ew,trivial⟩
    ·rw[g7 hx];exact hr
    ·rw[g7 hx];intro q hq2;cases hq2;exact g1
  ·replace hp:decide ((k:Int)>0)=false:=hp
   simp at hp
   subst hp
   conv=>whnf
   rw[if_neg (by simp[yT,C4])]at hr
   refine⟨m-1,by omega,Gp.none rfl ?_ fun ρ1 h=>⟨0+1,by omega,?_,?_,rfl,h⟩⟩
   ·exact⟨.closed _ rfl,.closed _ rfl,.closed _ rfl,eR ew,trivial⟩
   ·rw[g7 hx];exact hr
   ·rw[g7 hx];intro q hq2;cases hq2;exact g1
 ·simp at hlt
  conv=>whnf
  rw[List.drop_eq_nil_of_le hlt]at hr
  exact cZ hr
set_option maxRecDepth 20000 in
theorem n9(ex:Bool)(b:List cW)(H:List aB):
  a7 pr 72 [.list ex 2 (eC b)] H (fun r H'=>r=.int .i64 (gI b)∧H'=H):=by
 refine a7.pure (by simp[a6.closed,a6.isPure]) (aA k72.has ?_)
 (conv=>whnf);refine aE (fun h0=>?_) (fun h0=>?_)
 ·simp[aR]at h0
  conv=>whnf
  exact cZ (by rw[gI,if_pos (by omega)])
 simp[aR]at h0
 have hR:gI b=x6 b none:=by rw[gI,if_neg (by omega)]
 conv=>whnf
 refine⟨fun m ρ H1=>∃k:Nat,k+m=b.length∧x6 (b.drop k) (yT b k)=gI b∧(∀q,yT b k=some q→q.length≤12)∧H1=[] ∧
  Sv 45 [(0,.list ex 2 (eC b)),(3,.int .i64 k)] ρ,b.length,[],?_,?_⟩
 ·exact⟨0,by omega,hR.symm,fun q h=>(by cases h),rfl,Sv.intro rfl ⟨rfl,rfl,trivial⟩⟩
 rintro m ρ H1 ⟨k,hk,hr,hq,rfl,d,rfl⟩
 (conv=>whnf);refine aE (fun hlt=>?_) (fun hlt=>?_)
 ·simp[aR]at hlt
  obtain⟨x,hx,hd,_⟩:=aY hlt
  rw[hd,x6]at hr
  have ew:=aW ((k:Int)+1) (by omega) (by omega)
  conv=>whnf
  refine And.intro (by omega) ?_
  (conv=>whnf);refine b8 (fE hx) ?_
  conv=>whnf
  refine a7.use (E7 x _) ?_
  (conv=>whnf);refine aE (fun h=>?_) (fun h=>?_)
  ·replace h:(!(iF x==0))=true:=h
   simp at h
   conv=>whnf
   exact cZ (by rw[←hr,if_pos h])
  replace h:(!(iF x==0))=false:=h
  simp at h
  obtain⟨g1,g2,g3,g4⟩:=oW x h
  rw[if_neg (by simp[h])]at hr
  (conv=>whnf);refine And.intro (by omega) ?_
  (conv=>whnf);refine b8 (fE hx) ?_
  (conv=>whnf);refine aE (fun hz=>?_) (fun hz=>?_)
  ·replace hz:(x.cnt==0)=true:=hz
   simp at hz
   conv=>whnf
   exact cZ (by rw[←hr,if_pos hz])
  replace hz:(x.cnt==0)=false:=hz
  simp at hz
  rw[if_neg hz]at hr
  (conv=>whnf);refine aE (fun hp=>?_) (fun hp=>?_)
  ·replace hp:decide ((k:Int)>0)=true:=hp
   simp at hp
   obtain⟨j,rfl⟩:∃j,k=j+1:=⟨k-1,by omega⟩
   obtain⟨y,hy,_,_⟩:=aY (l:=b) (k:=j) (by omega)
   have ej:=aW (((j+1:Nat):Int)-1) (by omega) (by omega)
   have hy2:(eC b)[(IntKind.i64.wrap (((j+1:Nat):Int)-1)).toNat]?=some (jN y):=by
    rw[ej,show((((j+1:Nat):Int)-1).toNat)=j by omega];exact fE hy
   rw[g7 hy]at hq hr
   have hql:=hq _ rfl
   (conv=>whnf);refine And.intro (by rw[ej];omega) ?_
   (conv=>whnf);refine b8 hy2 ?_
   (conv=>whnf);refine And.intro (by omega) ?_
   (conv=>whnf);refine b8 (fE hx) ?_
   conv=>whnf
   refine⟨_,kU false false y.row x.row (by omega) _,?_⟩
   (conv=>whnf);refine aE (fun hc=>?_) (fun hc=>?_)
   ·replace hc:decide (bF y.row x.row≥0)=true:=hc
    conv=>whnf
    exact cZ (by rw[←hr,if_pos (show C4 (some y.row) x.row=true from hc)])
   ·replace hc:decide (bF y.row x.row≥0)=false:=hc
    conv=>whnf
    rw[if_neg (by rw[show C4 (some y.row) x.row=false from hc];simp)]at hr
    refine⟨m-1,by omega,Gp.none rfl ?_ fun ρ1 h=>⟨j+1+1,by omega,?_,?_,rfl,h⟩⟩
    ·exact⟨.closed _ rfl,eR ew,trivial⟩
    ·rw[g7 hx];exact hr
    ·rw[g7 hx];intro q hq2;cases hq2;exact g1
  ·replace hp:decide ((k:Int)>0)=false:=hp
   simp at hp
   subst hp
   conv=>whnf
   rw[if_neg (by simp[yT,C4])]at hr
   refine⟨m-1,by omega,Gp.none rfl ?_ fun ρ1 h=>⟨0+1,by omega,?_,?_,rfl,h⟩⟩
   ·exact⟨.closed _ rfl,eR ew,trivial⟩
   ·rw[g7 hx];exact hr
   ·rw[g7 hx];intro q hq2;cases hq2;exact g1
 ·simp[aR]at hlt
  conv=>whnf
  rw[List.drop_eq_nil_of_le hlt]at hr
  exact cZ hr
end Go.AW
namespace Go.AW
variable [dK]
theorem a7.weakR{P:Program}{f:FuncId}{args:List a6}{H:List aB}{Q Q':a6→List aB→Prop}(h:a7 P f args H Q)(hq:∀r H',Q r H'→∃r',Wk r r'∧Q' r' H'):a7 P f args H Q':=by
 intro C τ w vs hw hl hr
 have h:=h C τ w vs hw hl hr
 unfold eS at h⊢
 split at h
 ·exact Calls.mono h fun e w' ⟨v,r,C',τ',H',h1,h2,h3,h4⟩=>by
   obtain⟨r',hk,hq'⟩:=hq _ _ h2
   exact⟨v,r',C',τ',H',h1,hq',h3.weak hk,h4⟩
 ·obtain⟨v,r,C',τ',H',h1,h2,h3,h4⟩:=h
  obtain⟨r',hk,hq'⟩:=hq _ _ h2
  exact⟨v,r',C',τ',H',h1,hq',h3.weak hk,h4⟩
 ·exact h
attribute [local irreducible] a7
def kN(n:Int):Bool:=decide (-65536≤n)&&decide (n≤65536)
def nE:List cW→List cW→List cW
 |[],b=>b
 |x::a,[]=>x::a
 |x::a,y::b=>if bF x.row y.row<0 then x::nE a (y::b)else if 0<bF x.row y.row then y::nE (x::a) b else⟨x.row,x.cnt+y.cnt⟩::nE a b
termination_by a b=>a.length+b.length
theorem kG(b:List cW):nE [] b=b:=by rw[nE]
theorem oZ(a:List cW):nE a []=a:=by
 cases a with
 |nil=>rw[nE]
 |cons x a=>rw[nE]
theorem lQ(x y:cW)(a b:List cW):nE (x::a) (y::b)=if bF x.row y.row<0 then x::nE a (y::b)else if 0<bF x.row y.row then y::nE (x::a) b else⟨x.row,x.cnt+y.cnt⟩::nE a b:=by rw[nE]
def v8(e:cW):Bool:=!(e.cnt==0)
def zS(l:List cW):a6 :=
 if(l.all fun e=>kN e.cnt)=true∧(l.filter v8).length≤4096 then .tuple [.list false 2 (eC (l.filter v8)),.int .i64 0]else .tuple [.nil,.int .i64 2]
def HL(e:cW):Prop:=e.row.length≤12 ∧ -65536≤e.cnt∧e.cnt≤65536
theorem SF(l:List cW)(h:(l.all fun e=>kN e.cnt)=false):zS l=.tuple [.nil,.int .i64 2]:=by
 rw[zS,if_neg (by simp[h])]
theorem XB{a b a1:List cW}{x:cW}(ha:a=x::a1)(h:b=[]∨∃y b1,b=y::b1∧bF x.row y.row<0):nE a b=x::nE a1 b:=by
 subst ha
 rcases h with rfl|⟨y,b1,rfl,h⟩
 ·rw[oZ,oZ]
 ·rw[lQ,if_pos h]
theorem XC{a b b1:List cW}{y:cW}(hb:b=y::b1)(h:a=[]∨∃x a1,a=x::a1∧0<bF x.row y.row):nE a b=y::nE a b1:=by
 subst hb
 rcases h with rfl|⟨x,a1,rfl,h⟩
 ·rw[kG,kG]
 ·rw[lQ,if_neg (by omega),if_pos h]
theorem YO{a b a1 b1:List cW}{x y:cW}(ha:a=x::a1)(hb:b=y::b1)(h:bF x.row y.row=0):nE a b=⟨x.row,x.cnt+y.cnt⟩::nE a1 b1:=by
 subst ha hb
 rw[lQ,if_neg (by omega),if_neg (by omega)]
theorem EZ(es:List cW):List.drop (1:Int).toNat (List.take (eC es).length (eC es))=eC (es.drop 1):=by
 rw[List.take_length];simp[eC]
theorem P9{H1:List aB}{n:Nat}{ids:List Nat}{f:Bool}{sz:Nat}{X Y:List (List a6)}(h:X=Y):dV H1 n ids (.list f sz X) (.list f sz Y):=by subst h;exact .closed _ rfl
theorem qC:∀(a b:List cW),(nE a b).length≤a.length+b.length
 |[],b=>by rw[kG];omega
 |x::a,[]=>by rw[oZ];omega
 |x::a,y::b=>by
  rw[lQ]
  have h1:=qC a (y::b)
  have h2:=qC (x::a) b
  have h3:=qC a b
  split
  ·simp at h1 ⊢;omega
  split
  ·simp at h2 ⊢;omega
  ·simp;omega
termination_by a b=>a.length+b.length
theorem W6(O:List cW)(row:List V)(c:Int)(n:Nat)(H:List aB)(h1:H[1]?=some (.arr 3 (vC row)))(hn:n=row.length):
  zY H [0] (.arr 2 (eC O++[[.sl 1 n 0 n,.int .i64 c]])) (.arr 2 (eC (O++[⟨row,c⟩]))):=by
 have hp:dV H 0 [0] (.sl 1 n 0 n) (.list false 3 (vC row)):=by
  have h:=dV.frz (n:=0) (ids:=[0]) 1 (vC row).length 0 (vC row).length 3 (vC row) h1 rfl (l9 _) (by simp)
  rw[List.drop_zero,List.take_length,b9,←hn]at h
  exact h
 have hcell:∀(e:cW) (j:Nat) (d d1:a6),(jN e)[j]?=some d→(jN e)[j]?=some d1→dV H 0 [0] d d1∧d1.isCell=true:=by
  intro e j d d1 h2 h3
  rcases j with _|_|j
  ·cases h2;cases h3;exact⟨.closed _ rfl,rfl⟩
  ·cases h2;cases h3;exact⟨.closed _ rfl,rfl⟩
  ·simp[jN]at h2
 have hi:∀(i:Nat) (e e1:List a6),(eC O++[[.sl 1 n 0 n,.int .i64 c]])[i]?=some e→(eC (O++[⟨row,c⟩]))[i]?=some e1 →
   (∃x:cW,e=jN x∧e1=jN x)∨(e=[.sl 1 n 0 n,.int .i64 c]∧e1=jN ⟨row,c⟩):=by
  intro i e e1 h2 h3
  rw[l5]at h3
  by_cases hlt:i<(eC O).length
  ·rw[List.getElem?_append_left hlt]at h2 h3
   rw[eC,List.getElem?_map]at h2 h3
   rcases hO:O[i]? with _|x
   ·rw[hO]at h2;cases h2
   ·rw[hO]at h2 h3
    cases h2;cases h3
    exact .inl ⟨x,rfl,rfl⟩
  ·rw[List.getElem?_append_right (by omega)]at h2 h3
   rcases hk:i-(eC O).length with _|k
   ·rw[hk]at h2 h3
    simp at h2;simp[eC]at h3
    exact .inr ⟨h2.symm,h3.symm⟩
   ·rw[hk]at h2;simp at h2
 refine .map 2 _ _ (by simp[eC]) (fun i e e1 h2 h3=>?_) (fun i j e e1 d d1 h2 h3 h4 h5=>?_)
 ·rcases hi i e e1 h2 h3 with⟨x,rfl,rfl⟩|⟨rfl,rfl⟩<;>rfl
 ·rcases hi i e e1 h2 h3 with⟨x,rfl,rfl⟩|⟨rfl,rfl⟩
  ·exact hcell x j d d1 h4 h5
  ·rcases j with _|_|j
   ·cases h4;cases h5;exact⟨hp,rfl⟩
   ·cases h4;cases h5;exact⟨.closed _ rfl,rfl⟩
   ·simp at h4
theorem tK(pre l:List cW)(h:∃t,l=pre++t):(pre.filter v8).length≤(l.filter v8).length:=by
 obtain⟨t,rfl⟩:=h
 rw[List.filter_append,List.length_append];omega
set_option maxRecDepth 20000 in
theorem xV(ex:Bool)(l:List cW)(hl:l.length≤100000)(hr:∀e∈l,e.row.length≤1000)(H:List aB):
  a7 pr 199 [.list ex 2 (eC l)] H (fun r H'=>r=zS l∧H'=H):=by
 refine a7.pure (by simp[a6.closed,a6.isPure]) (aA k199.has ?_)
 conv=>whnf
 refine⟨fun m ρ H=>∃k:Nat,k+m=l.length∧((l.take k).all fun e=>kN e.cnt)=true∧((l.take k).filter v8).length≤4096∧H=[.arr 2 (eC ((l.take k).filter v8))] ∧
   Sv 46 [(0,.list ex 2 (eC l)),(4,.sl 0 ((l.take k).filter v8).length 0 ((l.take k).filter v8).length),(5,.int .i64 k)] ρ,l.length,[(4,2)],?_,?_⟩
 ·exact⟨0,by omega,rfl,by simp,by rfl,Sv.intro rfl ⟨rfl,rfl,rfl,trivial⟩⟩
 rintro m ρ H ⟨k,hk,hP,hO,rfl,d,rfl⟩
 (conv=>whnf);refine aE (fun hlt=>?_) (fun hlt=>?_)
 ·simp[aR]at hlt
  obtain⟨x,hx,hxd,hxm⟩:=aY hlt
  have ew:=aW ((k:Int)+1) (by omega) (by omega)
  have hxr:=hr x hxm
  have hT:l.take (k+1)=l.take k++[x]:=by rw[List.take_add_one,hx];rfl
  have hl2:l=l.take k++x::l.drop (k+1):=by rw[←hxd,List.take_append_drop]
  conv=>whnf
  refine And.intro (by omega) ?_
  (conv=>whnf);refine b8 (fE hx) ?_
  (conv=>whnf);refine aE (fun hz=>?_) (fun hz=>?_)
  ·replace hz:(x.cnt==0)=true:=hz
   simp at hz
   have hF:(l.take (k+1)).filter v8=(l.take k).filter v8:=by rw[hT,List.filter_append];simp[v8,hz]
   conv=>whnf
   refine⟨m-1,by omega,Gp.keep rfl ?_ fun ρ1 h=>⟨k+1,by omega,?_,?_,?_,h⟩⟩
   ·exact⟨rfl,by rw[hF];rfl,aN ew,trivial⟩
   ·rw[hT,List.all_append,hP];simp[kN,hz]
   ·rw[hF];exact hO
   ·rw[hF]
  replace hz:(x.cnt==0)=false:=hz
  simp at hz
  conv=>whnf
  refine And.intro (by omega) ?_
  (conv=>whnf);refine b8 (fE hx) ?_
  conv=>whnf
  refine a7.use (CW _ _) ?_
  (conv=>whnf);refine aE (fun hs=>?_) (fun hs=>?_)
  ·replace hs:(!(kN x.cnt))=true:=hs
   simp at hs
   conv=>whnf
   rw[SF l (by rw[hl2];simp[hs])]
   exact dP (.closed _ rfl) (.closed _ rfl)
  replace hs:(!(kN x.cnt))=false:=hs
  simp at hs
  have hF:(l.take (k+1)).filter v8=(l.take k).filter v8++[x]:=by rw[hT,List.filter_append];simp[v8,hz]
  (conv=>whnf);refine b4 (by rw[aR];exact Nat.beq_refl _) ?_
  (conv=>whnf);refine aE (fun hq=>?_) (fun hq=>?_)
  ·replace hq:((((l.take k).filter v8).length:Int)==4096)=true:=hq
   simp at hq
   conv=>whnf
   have h3:=tK (l.take (k+1)) l ⟨l.drop (k+1),(List.take_append_drop _ _).symm⟩
   rw[hF,List.length_append]at h3
   rw[zS,if_neg (by simp at h3;omega)]
   exact dP (.closed _ rfl) (.closed _ rfl)
  ·replace hq:((((l.take k).filter v8).length:Int)==4096)=false:=hq
   simp at hq
   conv=>whnf
   refine And.intro (by omega) ?_
   (conv=>whnf);refine b8 (fE hx) ?_
   (conv=>whnf);refine And.intro ⟨cN (by rw[b9];omega) (by omega),bK (by rw[b9];omega)⟩ ?_
   (conv=>whnf);refine And.intro (by omega) ?_
   (conv=>whnf);refine b8 (fE hx) ?_
   (conv=>whnf);refine b4 (by rw[aR];exact Nat.beq_refl _) ?_
   (conv=>whnf);refine And.intro ⟨cN (by simp;omega) (by omega),bK (by simp;omega),rfl,by rw[aR]⟩ ?_
   conv=>whnf
   refine And.intro (by(conv=>whnf);try rfl) ?_
   conv=>whnf
   refine And.intro (by(conv=>whnf);refine And.intro (by omega) ?_;(conv=>whnf);refine b8 (fE hx) ?_;(conv=>whnf);try rfl) ?_
   conv=>whnf
   have hFl:(eC ((l.take k).filter v8)++[[a6.sl 1 (vC x.row).length 0 (vC x.row).length,.int .i64 x.cnt]]).length=((l.take (k+1)).filter v8).length:=by
    rw[hF];simp[aR]
   refine⟨m-1,by omega,Gp.some (H1:=[.arr 2 (eC ((l.take k).filter v8++[x]))]) [0] (by simp) ?_ rfl ?_ fun ρ1 h=>⟨k+1,by omega,?_,?_,?_,h⟩⟩
   ·exact⟨⟨_,rfl,W6 ((l.take k).filter v8) x.row x.cnt (vC x.row).length _ rfl (b9 _)⟩,trivial⟩
   ·exact⟨.closed _ rfl,kI (k:=0) rfl rfl hFl hFl,eR ew,trivial⟩
   ·rw[hT,List.all_append,hP];simp[hs]
   ·rw[hF,List.length_append];simp;omega
   ·rw[hF]
 ·simp[aR]at hlt
  have hT:l.take k=l:=List.take_of_length_le hlt
  conv=>whnf
  rw[hT]at hP hO ⊢
  rw[zS,if_pos ⟨hP,hO⟩]
  exact dP (qH rfl (aR _).symm (aR _).symm (gP _)) (.closed _ rfl)
theorem NA:∀(b:List cW) (p:Option (List V)),x6 b p=0→∀e∈b,iF e=0∧e.cnt≠0
 |[],_,_,e,h=>by simp at h
 |x::b,p,h,e,he=>by
  rw[x6]at h
  by_cases h1:iF x=0
  ·rw[if_neg (by simp[h1])]at h
   by_cases h2:x.cnt=0
   ·rw[if_pos h2]at h;cases h
   ·rw[if_neg h2]at h
    split at h
    ·cases h
    ·rcases List.mem_cons.1 he with rfl|he
     ·exact⟨h1,h2⟩
     ·exact NA b _ h e he
  ·rw[if_pos h1]at h;exact absurd h h1
theorem TK{b:List cW}(h:gI b=0):b.length≤4096∧(∀e∈b,HL e)∧x6 b none=0:=by
 rw[gI]at h
 split at h
 ·cases h
 ·refine⟨by omega,fun e he=>?_,h⟩
  obtain⟨g1,g2,g3,_⟩:=oW e (NA b none h e he).1
  exact⟨g1,g2,g3⟩
theorem CJ(l:List cW):zS l=.tuple [.nil,.int .i64 2]∨zS l=.tuple [.list false 2 (eC (l.filter v8)),.int .i64 0]:=by
 unfold zS
 split
 ·exact .inr rfl
 ·exact .inl rfl
structure KR where
 n:Int
 vals:List cW
def XE(e:cW):Bool:=match e.row with
 |[v]=>!(v.kind==0)
 |_=>false
def SJ(n:Int):Bool:=decide (-268435456≤n)&&decide (n≤268435456)
def LU(g:KR):Int:=if SJ g.n=false then 1 else if gI g.vals≠0 then gI g.vals else if g.vals.all XE then 0 else 8
end Go.AW
namespace Go.AW
variable [dK]
section
variable {P:Program}{C:Nat→Nat}{τ:Nat→Option Loc}{H:List aB}{w:World}
inductive gG:a6→a6→Prop where
 |refl (a:a6):gG a a
 |nil (x:Bool) (sz:Nat):gG .nil (.list x sz [])
 |list (x y:Bool) (sz:Nat) (es fs:List (List a6)) (h:y=true→x=true) (hl:es.length=fs.length)
   (hl2:∀(i:Nat) (e f:List a6),es[i]?=some e→fs[i]?=some f→e.length=f.length)
   (hcell:∀(i j:Nat) (f:List a6) (c:a6),fs[i]?=some f→f[j]?=some c→c.isCell=true)
   (hc:∀(i j:Nat) (e f:List a6) (d c:a6),es[i]?=some e→fs[i]?=some f→e[j]?=some d→f[j]?=some c→gG d c):gG (.list x sz es) (.list y sz fs)
 |agg (asv bs:List a6) (hl:asv.length=bs.length) (h:∀(i:Nat) (a b:a6),asv[i]?=some a→bs[i]?=some b→gG a b):gG (.agg asv) (.agg bs)
 |tuple (asv bs:List a6) (hl:asv.length=bs.length) (h:∀(i:Nat) (a b:a6),asv[i]?=some a→bs[i]?=some b→gG a b):gG (.tuple asv) (.tuple bs)
theorem Rd.weakD{a b:a6}{v:Value}(h:Rd C w a v)(hw:gG a b):Rd C w b v:=by
 induction hw generalizing v with
 |refl=>exact h
 |nil x sz=>cases h;exact .list0 x sz none 0 (fun _=>rfl)
 |list x y sz es fs hxy hl hl2 hcell hc ih =>
  have hsome:∀{i:Nat}{f:List a6},fs[i]?=some f→∃e,es[i]?=some e∧e.length=f.length:=fun{i f} hf=>by
   have hi:i<es.length:=by have:=(List.getElem?_eq_some_iff.1 hf).1;omega
   exact⟨es[i],List.getElem?_eq_getElem hi,hl2 i _ _ (List.getElem?_eq_getElem hi) hf⟩
  cases h with
  |list0 _ _ a cap hx =>
   cases fs with
   |nil=>exact .list0 y sz a cap fun hy=>hx (hxy hy)
   |cons f fs=>simp at hl
  |list _ _ _ b off cap vs hx hcap hsz hC hcl hp hrd =>
   rw[hl]
   refine .list y sz fs b off cap vs (fun hy=>by rw[←hl];exact hx (hxy hy)) (by omega) (fun f hf=>?_) (by rw[←hl];exact hC) (fun i j hi hj=>hcl i j (by omega) hj) hcell (fun i j f c hf hcc=>?_)
   ·obtain⟨i,hi,rfl⟩:=List.getElem_of_mem hf
    obtain⟨e,he,hle⟩:=hsome (List.getElem?_eq_getElem hi)
    rw[←hle];exact hsz e (List.mem_of_getElem? he)
   ·obtain⟨e,he,hle⟩:=hsome hf
    have hj:j<e.length:=by have:=(List.getElem?_eq_some_iff.1 hcc).1;omega
    exact ih i j e f e[j] c he hf (List.getElem?_eq_getElem hj) hcc (hrd i j e e[j] he (List.getElem?_eq_getElem hj))
 |agg=>cases h
 |tuple=>cases h
theorem bW.weakD{a b:a6}{v:Value}(h:bW C w τ H a v)(hw:gG a b):bW C w τ H b v:=by
 induction hw generalizing v with
 |refl=>exact h
 |nil x sz =>
  cases h with
  |rd h=>exact .rd (h.weakD (.nil x sz))
 |list x y sz es fs hxy hl hl2 hcell hc ih =>
  cases h with
  |rd h=>exact .rd (h.weakD (.list x y sz es fs hxy hl hl2 hcell hc))
 |agg asv bs hl h2 ih =>
  cases h with
  |rd h=>cases h
  |agg _ vs hlv hv =>
   refine .agg bs vs (by omega) fun i c u hc hu=>?_
   have hi:i<asv.length:=by have:=(List.getElem?_eq_some_iff.1 hc).1;omega
   exact ih i asv[i] c (List.getElem?_eq_getElem hi) hc (hv i asv[i] u (List.getElem?_eq_getElem hi) hu)
 |tuple asv bs hl h2 ih =>
  cases h with
  |rd h=>cases h
  |tuple _ vs hlv hv =>
   refine .tuple bs vs (by omega) fun i c u hc hu=>?_
   have hi:i<asv.length:=by have:=(List.getElem?_eq_some_iff.1 hc).1;omega
   exact ih i asv[i] c (List.getElem?_eq_getElem hi) hc (hv i asv[i] u (List.getElem?_eq_getElem hi) hu)
def oP(asv bs:List a6):Prop:=asv.length=bs.length∧∀(i:Nat) (a b:a6),asv[i]?=some a→bs[i]?=some b→gG a b
theorem oP.nil:oP [] []:=⟨rfl,fun i a b h=>by simp at h⟩
theorem oP.cons{a b:a6}{asv bs:List a6}(h:gG a b)(hs:oP asv bs):oP (a::asv) (b::bs):=by
 refine⟨by simp[hs.1],fun i x y hx hy=>?_⟩
 cases i with
 |zero=>simp at hx hy;subst hx hy;exact h
 |succ i=>exact hs.2 i x y (by simpa using hx) (by simpa using hy)
theorem gG.aggs{asv bs:List a6}(h:oP asv bs):gG (.agg asv) (.agg bs):=.agg asv bs h.1 h.2
theorem gG.tuples{asv bs:List a6}(h:oP asv bs):gG (.tuple asv) (.tuple bs):=.tuple asv bs h.1 h.2
theorem a7.weakD{f:FuncId}{args bs:List a6}{Q:a6→List aB→Prop}(h:a7 P f bs H Q)(hw:oP args bs):a7 P f args H Q:=by
 intro C τ w vs hwf hl hr
 refine h C τ w vs hwf (by rw[←hw.1];exact hl) fun i b v hb hv=>?_
 have hi:i<args.length:=by have:=(List.getElem?_eq_some_iff.1 hb).1;have:=hw.1;omega
 exact(hr i args[i] v (List.getElem?_eq_getElem hi) hv).weakD (hw.2 i args[i] b (List.getElem?_eq_getElem hi) hb)
theorem a7.weakRD{f:FuncId}{args:List a6}{Q Q':a6→List aB→Prop}(h:a7 P f args H Q)(hq:∀r H',Q r H'→∃r',gG r r'∧Q' r' H'):a7 P f args H Q':=by
 intro C τ w vs hw hl hr
 have h:=h C τ w vs hw hl hr
 unfold eS at h⊢
 split at h
 ·exact Calls.mono h fun e w' ⟨v,r,C',τ',H',h1,h2,h3,h4⟩=>by
   obtain⟨r',hk,hq'⟩:=hq _ _ h2
   exact⟨v,r',C',τ',H',h1,hq',h3.weakD hk,h4⟩
 ·obtain⟨v,r,C',τ',H',h1,h2,h3,h4⟩:=h
  obtain⟨r',hk,hq'⟩:=hq _ _ h2
  exact⟨v,r',C',τ',H',h1,hq',h3.weakD hk,h4⟩
 ·exact h
end
attribute [local irreducible] a7
def WK(a b:List cW):Int :=
 if gI a≠0 then gI a else if gI b≠0 then gI b else if((nE a b).all fun e=>kN e.cnt)=true∧((nE a b).filter v8).length≤4096 then 0 else 2
def WL(a b:List cW):List cW:=(nE a b).filter v8
def P1(a b:KR):Int:=if SJ (a.n+b.n)=false then 2 else WK a.vals b.vals
def VY(a b:KR):KR:=if P1 a b=0 then⟨a.n+b.n,WL a.vals b.vals⟩else⟨0,[]⟩
def P5(v:V)(c:Int):KR:=⟨c,if v.kind≠0∧c≠0 then[⟨[v],c⟩]else[]⟩
def MC(g:KR)(v:V)(c:Int):Int:=if LU g≠0 then LU g else if c7 v=false then 8 else if kN c=false then 1 else 0
def DW(g:KR)(v:V)(c:Int):Int:=if MC g v c≠0 then MC g v c else P1 g (P5 v c)
def N7(g:KR)(v:V)(c:Int):KR:=if MC g v c≠0 then⟨0,[]⟩else VY g (P5 v c)
def RT(n:Int):V:=if n < -1073741824∨1073741824<n then zV else⟨2,n,bs []⟩
def YS(e:cW):Int:=(e.row.getD 0 zV).num
def F0:List cW→Int→Int→Int×Int
 |[],s,c=>(s,c)
 |e::es,s,c=>F0 es (F3 (s+F3 (YS e*e.cnt))) (F3 (c+e.cnt))
set_option maxRecDepth 20000 in
theorem zE(g:FuncId)(caps:List a6)(p:cW→Bool)(H:List aB)(cs:List cW)(hg:∀c∈cs,a7 pr g ([.agg (jN c)]++caps) H (fun r H'=>r=.bool (p c)∧H'=H))
  (ex:Bool) (hl:cs.length≤1000000) :
  a7 pr 220 [.list ex 2 (eC cs),.fn g caps] H (fun r H'=>r=.int .i64 (fS p cs 0)∧H'=H):=by
 refine aA k220.has ?_
 conv=>whnf
 refine⟨fun m ρ H1=>∃k:Nat,k+m=cs.length∧fS p (cs.drop k) k=fS p cs 0∧H1=H ∧
  Sv 19 [(0,.list ex 2 (eC cs)),(1,.fn g caps),(7,.int .i64 cs.length),(8,.int .i64 k)] ρ,cs.length,[],?_,?_⟩
 ·exact⟨0,by omega,rfl,rfl,Sv.intro rfl ⟨rfl,rfl,aN (by rw[aR]),rfl,trivial⟩⟩
 rintro m ρ H1 ⟨k,hk,hr,rfl,d,rfl⟩
 (conv=>whnf);refine aE (fun hlt=>?_) (fun hlt=>?_)
 ·simp at hlt
  obtain⟨c,hc,hd,hmem⟩:=aY hlt
  rw[hd]at hr
  conv=>whnf
  refine And.intro (by omega) ?_
  (conv=>whnf);refine b8 (fE hc) ?_
  conv=>whnf
  refine a7.use (hg c hmem) ?_
  (conv=>whnf);refine aE (fun h=>?_) (fun hf=>?_)
  ·conv=>whnf
   refine⟨aN ?_,rfl⟩
   rw[←hr,fS,if_pos h]
  ·conv=>whnf
   refine⟨m-1,by omega,Gp.keep rfl ?_ fun ρ1 h=>⟨k+1,by omega,?_,rfl,h⟩⟩
   ·exact⟨rfl,rfl,rfl,aN (aW ((k:Int)+1) (by omega) (by omega)),trivial⟩
   ·rw[←hr,fS,if_neg (by rw[hf];simp)];rfl
 ·simp at hlt
  conv=>whnf
  rw[List.drop_eq_nil_of_le hlt]at hr
  exact⟨aN hr,rfl⟩
def YU(e:cW):Bool:=decide (e.cnt>0)
def W5(e:cW):Bool:=!((e.row.getD 0 zV).kind==2)
def YW(e:cW):V:=e.row.getD 0 zV
def S6(l:List cW):List V:=(l.filter YU).map YW
def VR(s c:Int):Int:=if s.tmod c<0 then F3 (F3 (s.tdiv c)-1)else F3 (s.tdiv c)
def ME(f:Int)(g:KR):Int:=if f<1∨7<f then 1 else if LU g≠0 then LU g else if(f=3∨f=7)∧g.vals.any W5=true then 7 else 0
def XI(f:Int)(g:KR):V :=
 if f=1 then RT g.n else if f=2 then RT (F0 g.vals 0 0).2 else if f=6 then RT (S6 g.vals).length
 else if f=4 then(S6 g.vals).head?.getD zV else if f=5 then(S6 g.vals).getLast?.getD zV
 else if f=3 then(if g.vals=[]then zV else RT (F0 g.vals 0 0).1)
 else if 0<(F0 g.vals 0 0).2 then RT (VR (F0 g.vals 0 0).1 (F0 g.vals 0 0).2)else zV
def UC(f:Int)(g:KR):V:=if ME f g≠0 then zV else XI f g
end Go.AW
namespace Go.AW
variable [dK]
theorem wB:∀(a b:List V),bF a b = -1∨bF a b=0∨bF a b=1
 |[],[]=>.inr (.inl rfl)
 |[],_::_=>.inl rfl
 |_::_,[]=>.inr (.inr rfl)
 |x::xs,y::ys=>by
  rw[bF]
  split
  ·exact wB xs ys
  ·exact mS.vals x y
theorem wA:∀(a b:List V),bF b a = - bF a b
 |[],[]=>rfl
 |[],_::_=>rfl
 |_::_,[]=>rfl
 |x::xs,y::ys=>by
  rw[bF,bF,mS.anti x y]
  by_cases h:iT x y=0
  ·rw[if_pos h,if_pos (by omega),wA xs ys]
  ·rw[if_neg h,if_neg (by omega)]
theorem lG:∀(a b d:List V),bF a b<0→bF b d<0→bF a d<0
 |[],_,[],_,h2=>by
  rename_i b _
  cases b with
  |nil=>exact h2
  |cons y ys=>rw[bF]at h2;omega
 |[],_,_::_,_,_=>by rw[bF];omega
 |x::xs,[],_,h1,_=>by rw[bF]at h1;omega
 |x::xs,y::ys,[],_,h2=>by rw[bF]at h2;omega
 |x::xs,y::ys,z::zs,h1,h2=>by
  rw[bF]at h1 h2 ⊢
  by_cases e1:iT x y=0
  ·rw[if_pos e1]at h1
   have hxy:=(mS.zero x y).1 e1
   subst hxy
   by_cases e2:iT x z=0
   ·rw[if_pos e2]at h2 ⊢;exact lG xs ys zs h1 h2
   ·rw[if_neg e2]at h2 ⊢;exact h2
  ·rw[if_neg e1]at h1
   by_cases e2:iT y z=0
   ·have hyz:=(mS.zero y z).1 e2
    subst hyz
    rw[if_neg e1];exact h1
   ·rw[if_neg e2]at h2
    have:=mS.trans x y z h1 h2
    rw[if_neg (by omega)];exact this
def QO(l:List cW):Prop:=l.Pairwise fun x y=>bF x.row y.row<0
theorem pY:∀(a b:List cW) (e:cW),e∈nE a b→(∃x∈a,x.row=e.row)∨∃y∈b,y.row=e.row
 |[],b,e,h=>by rw[kG]at h;exact .inr ⟨e,h,rfl⟩
 |x::a,[],e,h=>by rw[oZ]at h;exact .inl ⟨e,h,rfl⟩
 |x::a,y::b,e,h=>by
  rw[lQ]at h
  have la:∀{e:cW},(∃x∈a,x.row=e.row)→∃z∈x::a,z.row=e.row:=fun⟨z,h1,h2⟩=>⟨z,List.mem_cons_of_mem _ h1,h2⟩
  have lb:∀{e:cW},(∃x∈b,x.row=e.row)→∃z∈y::b,z.row=e.row:=fun⟨z,h1,h2⟩=>⟨z,List.mem_cons_of_mem _ h1,h2⟩
  split at h
  ·rcases List.mem_cons.1 h with rfl|h
   ·exact .inl ⟨e,List.mem_cons_self ..,rfl⟩
   ·exact(pY a (y::b) e h).imp la id
  split at h
  ·rcases List.mem_cons.1 h with rfl|h
   ·exact .inr ⟨e,List.mem_cons_self ..,rfl⟩
   ·exact(pY (x::a) b e h).imp id lb
  ·rcases List.mem_cons.1 h with rfl|h
   ·exact .inl ⟨x,List.mem_cons_self ..,rfl⟩
   ·exact(pY a b e h).imp la lb
termination_by a b=>a.length+b.length
theorem AH:∀(a b:List cW),QO a→QO b→QO (nE a b)
 |[],b,_,hb=>by rw[kG];exact hb
 |x::a,[],ha,_=>by rw[oZ];exact ha
 |x::a,y::b,ha,hb=>by
  have ax:=(List.pairwise_cons.1 ha).1
  have bx:=(List.pairwise_cons.1 hb).1
  have ha':=(List.pairwise_cons.1 ha).2
  have hb':=(List.pairwise_cons.1 hb).2
  rw[lQ]
  split
  ·rename_i hc
   refine List.pairwise_cons.2 ⟨fun e he=>?_,AH a (y::b) ha' hb⟩
   rcases pY a (y::b) e he with⟨z,hz,hzr⟩|⟨z,hz,hzr⟩
   ·rw[←hzr];exact ax z hz
   ·rw[←hzr]
    rcases List.mem_cons.1 hz with rfl|hz
    ·exact hc
    ·exact lG _ _ _ hc (bx z hz)
  split
  ·rename_i hc0 hc
   have hc':bF y.row x.row<0:=by rw[wA];omega
   refine List.pairwise_cons.2 ⟨fun e he=>?_,AH (x::a) b ha hb'⟩
   rcases pY (x::a) b e he with⟨z,hz,hzr⟩|⟨z,hz,hzr⟩
   ·rw[←hzr]
    rcases List.mem_cons.1 hz with rfl|hz
    ·exact hc'
    ·exact lG _ _ _ hc' (ax z hz)
   ·rw[←hzr];exact bx z hz
  ·have hr:x.row=y.row:=(qK _ _).1 (by have:=wB x.row y.row;omega)
   refine List.pairwise_cons.2 ⟨fun e he=>?_,AH a b ha' hb'⟩
   rcases pY a b e he with⟨z,hz,hzr⟩|⟨z,hz,hzr⟩
   ·rw[←hzr];exact ax z hz
   ·rw[←hzr];show bF x.row z.row<0;rw[hr];exact bx z hz
termination_by a b=>a.length+b.length
theorem N1{l:List cW}(p:cW→Bool)(h:QO l):QO (l.filter p):=List.Pairwise.filter p h
theorem BD(e:cW):iF e=0↔e.row.length≤12∧kN e.cnt=true∧e.row.all c7=true:=by
 simp only[kN,Bool.and_eq_true,decide_eq_true_eq]
 unfold iF
 constructor
 ·intro h
  split at h
  ·cases h
  ·split at h
   ·rename_i h1 h2;exact⟨by omega,⟨by omega,by omega⟩,h2⟩
   ·cases h
 ·rintro⟨h1,⟨h2,h3⟩,h4⟩
  rw[if_neg (by omega),if_pos h4]
theorem vM:∀(l:List cW) (p:Option (List V)),x6 l p=0↔(∀e∈l,iF e=0∧e.cnt≠0)∧QO l∧∀q,p=some q→∀e∈l,bF q e.row<0
 |[],p=>⟨fun _=>⟨fun e h=>(by simp at h),List.Pairwise.nil,fun q _ e h=>by simp at h⟩,fun _=>rfl⟩
 |x::l,p=>by
  rw[x6]
  have nb:C4 p x.row=true↔∃q,p=some q∧¬bF q x.row<0:=by
   cases p with
   |none=>simp[C4]
   |some q=>simp[C4]
  constructor
  ·intro h
   by_cases h1:iF x=0
   ·rw[if_neg (by simp[h1])]at h
    by_cases h2:x.cnt=0
    ·rw[if_pos h2]at h;cases h
    ·rw[if_neg h2]at h
     by_cases h3:C4 p x.row=true
     ·rw[if_pos h3]at h;cases h
     ·rw[if_neg h3]at h
      obtain⟨g1,g2,g3⟩:=(vM l (some x.row)).1 h
      have hp:∀q,p=some q→bF q x.row<0:=fun q hq=>Classical.byContradiction fun hn=>h3 (nb.2 ⟨q,hq,hn⟩)
      refine⟨fun e he=>?_,List.pairwise_cons.2 ⟨g3 _ rfl,g2⟩,fun q hq e he=>?_⟩
      ·rcases List.mem_cons.1 he with rfl|he
       ·exact⟨h1,h2⟩
       ·exact g1 e he
      ·rcases List.mem_cons.1 he with rfl|he
       ·exact hp q hq
       ·exact lG _ _ _ (hp q hq) (g3 _ rfl e he)
   ·rw[if_pos h1]at h;exact absurd h h1
  ·rintro⟨h1,h2,h3⟩
   have hx:=h1 x (List.mem_cons_self ..)
   rw[if_neg (by simp[hx.1]),if_neg hx.2,if_neg (fun h=>by
    obtain⟨q,hq,hn⟩:=nb.1 h
    exact hn (h3 q hq x (List.mem_cons_self ..)))]
   exact(vM l (some x.row)).2 ⟨fun e he=>h1 e (List.mem_cons_of_mem _ he),(List.pairwise_cons.1 h2).2,fun q hq e he=>by cases hq;exact(List.pairwise_cons.1 h2).1 e he⟩
theorem vJ(l:List cW):gI l=0↔l.length≤4096∧(∀e∈l,iF e=0∧e.cnt≠0)∧QO l:=by
 rw[gI]
 constructor
 ·intro h
  split at h
  ·cases h
  ·have:=(vM l none).1 h
   exact⟨by omega,this.1,this.2.1⟩
 ·rintro⟨h1,h2,h3⟩
  rw[if_neg (by omega)]
  exact(vM l none).2 ⟨h2,h3,fun q hq=>by cases hq⟩
attribute [local irreducible] a7
def g0:KR:=⟨0,[]⟩
def n5:V:=⟨2,5,bs []⟩
theorem p5:c7 n5=true:=by kernel_rfl
theorem G5(v:V)(a b:Int):nE [⟨[v],a⟩] [⟨[v],b⟩]=[⟨[v],a+b⟩]:=by
 have h:bF [v] [v]=0:=(qK _ _).2 rfl
 rw[lQ,if_neg (by show ¬bF [v] [v]<0;omega),if_neg (by show ¬0<bF [v] [v];omega),kG]
theorem UM(e:cW):QO [e]:=List.pairwise_singleton ..
theorem vK(v:V)(c:Int)(hv:c7 v=true)(hc:c≠0)(hs:kN c=true):gI [⟨[v],c⟩]=0 :=
 (vJ _).2 ⟨by simp,fun e he=>by
  rw[List.mem_singleton]at he;subst he
  exact⟨(BD _).2 ⟨by simp,hs,by simp[hv]⟩,hc⟩,UM _⟩
theorem QS:gI []=0:=rfl
theorem uN{g:KR}(h1:SJ g.n=true)(h2:gI g.vals=0)(h3:g.vals.all XE=true):LU g=0:=by
 rw[LU,if_neg (by simp[h1]),if_neg (by simp[h2]),if_pos h3]
theorem k1:DW g0 n5 2=0∧N7 g0 n5 2=⟨2,[⟨[n5],2⟩]⟩:=by
 have hp:MC g0 n5 2=0:=by rw[MC,if_neg (by simp[uN (g:=g0) rfl rfl rfl]),if_neg (by simp[p5]),if_neg (by decide)]
 have ho:P5 n5 2=⟨2,[⟨[n5],2⟩]⟩:=by rw[P5,if_pos ⟨by decide,by decide⟩]
 have hm:P1 g0 ⟨2,[⟨[n5],2⟩]⟩=0:=by
  rw[P1,if_neg (by decide),WK,if_neg (by simp[g0,QS]),if_neg (by simp[vK n5 2 p5 (by decide) (by decide)]),if_pos ⟨by simp[g0,kG,kN],by simp[g0,kG,v8]⟩]
 have e1:DW g0 n5 2=0:=by rw[DW,if_neg (by simp[hp]),ho,hm]
 refine⟨e1,?_⟩
 rw[N7,if_neg (by simp[hp]),ho,VY,if_pos hm]
 simp[g0,WL,kG,v8]
theorem k2:DW ⟨2,[⟨[n5],2⟩]⟩ n5 (-1)=0∧N7 ⟨2,[⟨[n5],2⟩]⟩ n5 (-1)=⟨1,[⟨[n5],1⟩]⟩:=by
 have hb:=vK n5 2 p5 (by decide) (by decide)
 have hp:MC ⟨2,[⟨[n5],2⟩]⟩ n5 (-1)=0:=by rw[MC,if_neg (by simp[uN (g:=⟨2,[⟨[n5],2⟩]⟩) rfl hb rfl]),if_neg (by simp[p5]),if_neg (by decide)]
 have ho:P5 n5 (-1)=⟨-1,[⟨[n5],-1⟩]⟩:=by rw[P5,if_pos ⟨by decide,by decide⟩]
 have hm:P1 ⟨2,[⟨[n5],2⟩]⟩ ⟨-1,[⟨[n5],-1⟩]⟩=0:=by
  rw[P1,if_neg (by decide),WK,if_neg (by simp[hb]),if_neg (by simp[vK n5 (-1) p5 (by decide) (by decide)]),if_pos ⟨by simp[G5,kN],by simp[G5,v8]⟩]
 have e1:DW ⟨2,[⟨[n5],2⟩]⟩ n5 (-1)=0:=by rw[DW,if_neg (by simp[hp]),ho,hm]
 refine⟨e1,?_⟩
 rw[N7,if_neg (by simp[hp]),ho,VY,if_pos hm]
 simp[WL,G5,v8]
def gk:KR:=⟨1,[⟨[n5],1⟩]⟩
theorem UX:LU gk=0:=uN rfl (vK n5 1 p5 (by decide) (by decide)) rfl
theorem k3:ME 3 gk=0∧UC 3 gk=n5∧ME 1 gk=0∧UC 1 gk=⟨2,1,bs []⟩:=by
 have h3:ME 3 gk=0:=by rw[ME,if_neg (by decide),if_neg (by simp[UX])];rfl
 have h1:ME 1 gk=0:=by rw[ME,if_neg (by decide),if_neg (by simp[UX])];rfl
 refine⟨h3,?_,h1,?_⟩
 ·rw[UC,if_neg (by simp[h3])];kernel_rfl
 ·rw[UC,if_neg (by simp[h1])];kernel_rfl
def j2:Nat→Int→List Int
 |0,_=>[]
 |k+1,n=>j2 k (n / 256)++[n % 256]
theorem bX:∀(k:Nat) (n:Int),(j2 k n).length=k
 |0,_=>rfl
 |k+1,n=>by rw[j2,List.length_append,bX k];rfl
theorem A0:∀(k:Nat) (n:Int),fI (j2 k n)
 |0,_=>fun x h=>by simp[j2]at h
 |k+1,n=>fun x h=>by
  rw[j2]at h
  rcases List.mem_append.1 h with h|h
  ·exact A0 k _ x h
  ·rw[List.mem_singleton]at h;subst h;omega
theorem AU:∀(k:Nat) (n:Int),j2 (k+1) n=(n / 256 ^ k) % 256::j2 k n
 |0,n=>by simp[j2]
 |k+1,n=>by
  rw[j2,AU k (n / 256),j2,List.cons_append]
  congr 2
  rw[Int.ediv_ediv_of_nonneg (by omega),Int.pow_succ,Int.mul_comm]
def w2(n:Int):List Int:=[u8 (n.fdiv (2 ^ 8)),u8 n]
theorem XT(n:Int):w4 n=j2 4 n:=by
 simp only[w4,j2,m3,List.nil_append,List.singleton_append,List.cons_append]
 rw[Int.fdiv_eq_ediv_of_nonneg _ (by omega),Int.fdiv_eq_ediv_of_nonneg _ (by omega),Int.fdiv_eq_ediv_of_nonneg _ (by omega)]
 congr 1
 ·omega
 congr 1
 ·omega
def p4(n:Int):List Int:=w2 (IntKind.i64.wrap (n.fdiv (2 ^ 16)))++[u8 (n.fdiv (2 ^ 8)),u8 n]
theorem eJ(s:ByteArray):bU s.data.toList=bC (dT s):=by simp[bU,bC,dT]
theorem bT(s:ByteArray):(dT s).length=s.size:=by simp[dT]
set_option maxRecDepth 20000 in
theorem GC(H:List aB)(id:Nat)(es:List (List a6))(s:ByteArray)(ho:H[id]?=some (.arr 1 es))(hl:es.length≤100000)(hs:s.size≤100000):
  a7 pr 67 [.sl id es.length 0 es.length,.str s] H (fun r H'=>r=.sl id (es++bC (u8 s.size::dT s)).length 0 (es++bC (u8 s.size::dT s)).length∧H'=H.set id (.arr 1 (es++bC (u8 s.size::dT s)))):=by
 have hid:=(List.getElem?_eq_some_iff.1 ho).1
 have hbl:=bT s
 refine aA k67.has ?_
 (conv=>whnf);refine b8 (ho) ?_
 (conv=>whnf);refine b4 (Nat.beq_refl _) ?_
 conv=>whnf
 refine And.intro ⟨?_,?_,rfl,rfl⟩ ?_
 ·exact fG (by simp;omega)
 ·exact bK (by simp;omega)
 rw[fO]
 have ho2:(H.set id (.arr 1 (es++[[a6.int .u8 (u8 s.size)]])))[id]?=some (.arr 1 (es++[[a6.int .u8 (u8 s.size)]])):=List.getElem?_set_self hid
 (conv=>whnf);refine b8 (ho2) ?_
 (conv=>whnf);refine b4 (Nat.beq_refl _) ?_
 conv=>whnf
 refine And.intro ⟨?_,?_,rfl,rfl⟩ ?_
 ·exact fG (by rw[eJ];simp[aD];omega)
 ·exact bK (by rw[eJ];simp[aD];omega)
 rw[fO]
 conv=>whnf
 have e:es++bC (u8 s.size::dT s)=es++[[a6.int .u8 (u8 s.size)]]++bU s.data.toList:=by rw[eJ];simp[bC]
 rw[e]
 exact⟨rfl,by rw[List.set_set]⟩
def OQ(s c:Int):Int:=IntKind.u32.wrap (IntKind.u32.wrap (BitVec.ofInt 32 s ^^^ BitVec.ofInt 32 (IntKind.u32.wrap c)).toNat*16777619)
def TR(l:List Int)(s:Int):Int:=l.foldl OQ s
def RB(l:List Int):Int:=TR l 2166136261
theorem wM(n:Int):IntKind.u32.wrap n=n % 4294967296:=by simp[IntKind.wrap,IntKind.bits,IntKind.signed]
theorem BH(s c:Int):0≤OQ s c∧OQ s c<4294967296:=by rw[OQ,wM];omega
theorem BG:∀(l:List Int) (s:Int),0≤s→s<4294967296→0≤TR l s∧TR l s<4294967296
 |[],s,h1,h2=>⟨h1,h2⟩
 |c::l,s,_,_=>BG l (OQ s c) (BH s c).1 (BH s c).2
theorem E8(l:List Int):0≤RB l∧RB l<4294967296:=BG l _ (by decide) (by decide)
theorem QQ{l:List Int}{k:Nat}{x:Int}(h:l[k]?=some x):(bC l)[k]?=some [.int .u8 x]:=by rw[bC,List.getElem?_map,h];rfl
set_option maxRecDepth 20000 in
theorem DA(ex:Bool)(l:List Int)(hl:l.length≤100000000)(H:List aB):
  a7 pr 203 [.list ex 1 (bC l)] H (fun r H'=>r=.int .u32 (RB l)∧H'=H):=by
 refine a7.pure rfl (aA k203.has ?_)
 conv=>whnf
 refine⟨fun m ρ H1=>∃(k:Nat) (s:Int),k+m=l.length∧TR (l.drop k) s=RB l∧H1=[] ∧
  Sv 19 [(3,.int .u32 s),(6,.list ex 1 (bC l)),(7,.int .i64 l.length),(8,.int .i64 k)] ρ,l.length,[],?_,?_⟩
 ·exact⟨0,_,by omega,rfl,rfl,Sv.intro rfl ⟨rfl,rfl,aN (by rw[aD]),rfl,trivial⟩⟩
 rintro m ρ H1 ⟨k,s,hk,hr,rfl,d,rfl⟩
 (conv=>whnf);refine aE (fun hlt=>?_) (fun hlt=>?_)
 ·simp at hlt
  obtain⟨x,hx,hd,_⟩:=aY hlt
  rw[hd]at hr
  (conv=>whnf);refine And.intro (by omega) ?_
  (conv=>whnf);refine b8 (QQ hx) ?_
  conv=>whnf
  refine⟨m-1,by omega,Gp.keep rfl ?_ fun ρ1 h=>⟨k+1,OQ s x,by omega,hr,rfl,h⟩⟩
  exact⟨rfl,rfl,rfl,aN (aW ((k:Int)+1) (by omega) (by omega)),trivial⟩
 ·simp at hlt
  conv=>whnf
  rw[List.drop_eq_nil_of_le hlt]at hr
  exact cZ hr
theorem CV(l:List Int)(k:Nat)(v:Int):qW (bC l) k [.int .u8 v]=bC (l.set k v):=by rw[wG];simp[bC]
def xJ(k j:Nat)(n:Int):List Int:=List.replicate (k-j) 0++j2 j n
theorem yP{k j:Nat}(n:Int)(h:j≤k):(xJ k j n).length=k:=by rw[xJ,List.length_append,List.length_replicate,bX];omega
theorem RS{k j:Nat}(n:Int)(h:j<k):(xJ k j n).set (k-1-j) ((n / 256 ^ j) % 256)=xJ k (j+1) n:=by
 rw[xJ,xJ,AU,show k-j=(k-(j+1))+1 by omega,List.replicate_succ',List.append_assoc,List.set_append,if_neg (by simp;omega)]
 simp[show k-1-j-(k-(j+1))=0 by omega]
theorem TP(n:Int)(j:Nat):n / 256 ^ j / 256=n / 256 ^ (j+1):=by
 rw[Int.ediv_ediv_of_nonneg (Int.pow_nonneg (by omega)),Int.pow_succ]
set_option maxRecDepth 20000 in
theorem xR(n:Int)(k:Nat)(hn:0≤n)(hn2:n≤9000000000000000000)(hk:k≤100):
  a7 pr 41 [.int .i64 n,.int .i64 k] [] (fun r H'=>r=.sl 0 k 0 k∧H'=[.arr 1 (bC (j2 k n))]):=by
 refine aA k41.has ?_
 (conv=>whnf);refine And.intro (⟨by omega,by omega,by show(k:Int)*((1:Nat):Int)≤1099511627776;omega,by show(k:Int)≤1099511627776;omega⟩) ?_
 conv=>whnf
 have ew:IntKind.i64.wrap ((k:Int)-1)=(k:Int)-1:=aW _ (by omega) (by omega)
 refine⟨fun m ρ H1=>∃j:Nat,j+m=k∧H1=[.arr 1 (bC (xJ k j n))] ∧
  Sv 24 [(0,.int .i64 (n / 256 ^ j)),(5,.sl 0 k 0 k),(6,.int .i64 ((k:Int)-1-j))] ρ,k,[],?_,?_⟩
 ·refine⟨0,by omega,?_,Sv.intro rfl ⟨aN (by simp),rfl,aN (by rw[ew];omega),trivial⟩⟩
  simp[xJ,j2,bC]
 rintro m ρ H1 ⟨j,hj,rfl,d,rfl⟩
 have hlen:(bC (xJ k j n)).length=k:=by rw[aD,yP n (by omega)]
 have hq0:0≤n / 256 ^ j:=Int.ediv_nonneg hn (Int.pow_nonneg (by omega))
 have hq1:n / 256 ^ j≤n:=Int.ediv_le_self _ hn
 (conv=>whnf);refine aE (fun hlt=>?_) (fun hlt=>?_)
 ·replace hlt:decide ((k:Int)-1-j≥0)=true:=hlt
  simp at hlt
  have hjn:((k:Int)-1-j).toNat=k-1-j:=by omega
  have hg:(bC (xJ k j n))[0+((k:Int)-1-j).toNat]?=some [.int .u8 ((xJ k j n)[k-1-j]'(by rw[yP n (by omega)];omega))]:=by
   rw[Nat.zero_add,hjn];exact QQ (List.getElem?_eq_getElem _)
  (conv=>whnf);refine And.intro (by decide) ?_
  (conv=>whnf);refine b4 (by rw[hlen];exact Nat.beq_refl _) ?_
  (conv=>whnf);refine And.intro (⟨by omega,by omega⟩) ?_
  (conv=>whnf);refine b4 (by rw[hlen];exact Nat.beq_refl _) ?_
  (conv=>whnf);refine b8 (hg) ?_
  (conv=>whnf);refine And.intro (by decide) ?_
  conv=>whnf
  refine⟨m-1,by omega,Gp.keep rfl ?_ fun ρ1 h=>⟨j+1,by omega,?_,h⟩⟩
  ·refine⟨aN ?_,rfl,aN ?_,trivial⟩
   ·show IntKind.i64.wrap ((n / 256 ^ j).tdiv 256)=_
    rw[Int.tdiv_eq_ediv_of_nonneg hq0,TP,aW _ (by have:=Int.ediv_nonneg hn (Int.pow_nonneg (n:=256) (m:=j+1) (by omega));omega) (by have:=Int.ediv_le_self (256 ^ (j+1)) hn;omega)]
   ·show IntKind.i64.wrap ((k:Int)-1-j-1)=_
    rw[aW _ (by omega) (by omega)];omega
  ·have hv:IntKind.u8.wrap ((n / 256 ^ j).tmod 256)=(n / 256 ^ j) % 256:=by
    have:=m3 ((n / 256 ^ j).tmod 256)
    rw[show u8 ((n / 256 ^ j).tmod 256)=IntKind.u8.wrap ((n / 256 ^ j).tmod 256)from rfl]at this
    rw[this,Int.tmod_eq_emod_of_nonneg hq0];omega
   rw[←RS n (by omega),←CV,←hv,←hjn]
   show[aB.arr 1 (qW (bC (xJ k j n)) (0+((k:Int)-1-j).toNat) _)]=_
   rw[Nat.zero_add]
 ·replace hlt:decide ((k:Int)-1-j≥0)=false:=hlt
  simp at hlt
  have:j=k:=by omega
  subst this
  conv=>whnf
  refine⟨rfl,?_⟩
  simp[xJ]
theorem w6(n:Int)(k:Nat)(hn:0≤n)(hn2:n≤9000000000000000000)(hk:k≤100)(H:List aB):
  a7 pr 41 [.int .i64 n,.int .i64 k] H (fun r H'=>r=.list false 1 (bC (j2 k n))∧H'=H) :=
 a7.frz1 rfl (xR n k hn hn2 hk) (by rw[aD,bX]) (dQ _)
structure XZ where
 del:Bool
 seq:Int
 row:List V
structure ZJ where
 id:ByteArray
 src:ByteArray
 recs:List XZ
def DM(row:List V):Int:=if 12<row.length then 2 else if row.all c7 then 0 else 8
theorem ER{row:List V}(h:DM row=0):row.length≤12∧row.all c7=true:=by
 unfold DM at h
 split at h
 ·cases h
 ·split at h
  ·exact⟨by omega,by assumption⟩
  ·cases h
theorem rO{row:List V}(h:DM row=0):(eY row).length≤793:=by
 obtain⟨h1,h2⟩:=ER h
 have:=B5 row row.length (by rw[List.take_length];exact h2)
 rw[m9,List.take_length]at this
 show(u8 row.length::row.flatMap jM).length≤793
 omega
structure dH where
 rest:List Int
 bad:Bool
def fV(s:dH):aB:=.arr 2 [[.list false 1 (bC s.rest),.bool s.bad]]
def QD(n:Int)(s:dH):Bool:=!s.bad&&decide (n≤s.rest.length)
def pJ(n:Int)(s:dH):List Int:=if QD n s then s.rest.take n.toNat else[]
def kQ(n:Int)(s:dH):dH:=if QD n s then⟨s.rest.drop n.toNat,false⟩else⟨s.rest,true⟩
theorem lH{n:Int}{s:dH}(h:fI s.rest):fI (pJ n s):=by
 intro x hx
 unfold pJ at hx
 split at hx
 ·exact h x (List.mem_of_mem_take hx)
 ·simp at hx
theorem gY{n:Int}{s:dH}(h:fI s.rest):fI (kQ n s).rest:=by
 unfold kQ
 split
 ·exact fun x hx=>h x (List.mem_of_mem_drop hx)
 ·exact h
theorem GV(n:Int)(s:dH):(kQ n s).rest.length≤s.rest.length:=by
 unfold kQ
 split
 ·simp
 ·exact Nat.le_refl _
theorem qL{n:Int}{s:dH}(hn:0≤n):((pJ n s).length:Int)≤n:=by
 unfold pJ
 split
 ·rw[List.length_take];omega
 ·simp;omega
theorem wK(n:Int)(s:dH):(pJ n s).length≤s.rest.length:=by
 unfold pJ
 split
 ·rw[List.length_take];omega
 ·simp
set_option maxRecDepth 20000 in
theorem sK(F:FT)(n:Int)(hn:0≤n)(s:dH):
  a7 pr F.id [.ptr 0 1 0 0,.int .i64 n] [fV s] (fun r H'=>r=.list false 1 (bC (pJ n s))∧H'=[fV (kQ n s)]):=by
 refine a7.weakR (Q:=fun r H'=>(r=.nil∧QD n s=false∧H'=[fV (kQ n s)])∨(r=.list false 1 (bC (pJ n s))∧H'=[fV (kQ n s)])) ?_ (by
  rintro r H' (⟨rfl,h,rfl⟩|⟨rfl,rfl⟩)
  ·exact⟨_,.nil false 1,by rw[pJ,h];rfl,rfl⟩
  ·exact⟨_,.refl _,rfl,rfl⟩)
 refine aA F.has ?_
 (conv=>whnf);refine aE (fun hb=>?_) (fun hb=>?_)
 ·replace hb:s.bad=true:=hb
  have ht:QD n s=false:=by rw[QD,hb];rfl
  conv=>whnf
  exact .inl ⟨rfl,ht,by rw[kQ,ht];rfl⟩
 replace hb:s.bad=false:=hb
 (conv=>whnf);refine aE (fun hl=>?_) (fun hl=>?_)
 ·simp[aD]at hl
  have ht:QD n s=false:=by rw[QD,hb];simp;omega
  conv=>whnf
  exact .inl ⟨rfl,ht,by rw[kQ,ht];rfl⟩
 simp[aD]at hl
 have ht:QD n s=true:=by rw[QD,hb];simp;omega
 (conv=>whnf);refine And.intro (⟨by omega,by rw[aD];omega⟩) ?_
 (conv=>whnf);refine And.intro (⟨by omega,by rw[aD];omega⟩) ?_
 conv=>whnf
 refine .inr ⟨?_,?_⟩
 ·rw[pJ,ht,if_pos rfl,←nI];rfl
 ·rw[kQ,ht,if_pos rfl,fV]
  simp only[hb]
  rw[←lC]
  show[aB.arr 2 [[.list false 1 (((bC s.rest).take (bC s.rest).length).drop n.toNat),.bool false]]]=_
  rw[List.take_length]
theorem tH(F:FT)(n:Int)(hn:0≤n)(s:dH)(H:List aB)(id:Nat)(ho:H[id]?=some (fV s)):
  a7 pr F.id [.ptr id 1 0 0,.int .i64 n] H (fun r H'=>r=.list false 1 (bC (pJ n s))∧H'=H.set id (fV (kQ n s))) :=
 (sK F n hn s).fr ho rfl rfl (.pt (.cl rfl trivial)) (.closed _ rfl)
def lR(n:Int)(s:dH):Int:=num (pJ n s)
theorem AA(l:List Int)(h:fI l):0≤num l∧num l<256 ^ l.length:=by
 have key:∀(l:List Int),fI l→∀(a:Int) (k:Nat),0≤a→a<256 ^ k→0≤l.foldl (fun n x=>n*256+x) a∧l.foldl (fun n x=>n*256+x) a<256 ^ (k+l.length):=by
  intro l
  induction l with
  |nil=>intro _ a k h1 h2;exact⟨h1,h2⟩
  |cons x l ih =>
   intro hb a k h1 h2
   have hx:=hb x (List.mem_cons_self ..)
   have hp:(256:Int) ^ (k+1)=256 ^ k*256:=Int.pow_succ ..
   have:=ih (fun y hy=>hb y (List.mem_cons_of_mem _ hy)) (a*256+x) (k+1) (by omega) (by omega)
   rw[List.length_cons,show k+(l.length+1)=k+1+l.length by omega]
   exact this
 have:=key l h 0 0 (by omega) (by decide)
 rwa [Nat.zero_add]at this
set_option maxRecDepth 20000 in
theorem mT{n:Int}{s:dH}(hn:0≤n)(hn4:n≤4)(h:fI s.rest):0≤lR n s∧lR n s<4294967296:=by
 have h1:=AA _ (lH (n:=n) h)
 have h2:=qL (s:=s) hn
 have h3:(256:Int) ^ (pJ n s).length≤256 ^ 4:=by
  have:(256:Nat) ^ (pJ n s).length≤256 ^ 4:=Nat.pow_le_pow_right (by omega) (by omega)
  exact_mod_cast this
 rw[lR];omega
set_option maxRecDepth 20000 in
theorem yU(n:Int)(hn:0≤n)(hn6:n≤4)(s:dH)(hby:fI s.rest):
  a7 pr 110 [.ptr 0 1 0 0,.int .i64 n] [fV s] (fun r H'=>r=.int .i64 (lR n s)∧H'=[fV (kQ n s)]):=by
 have hl:=qL (s:=s) hn
 have hb:=lH (n:=n) hby
 refine aA k110.has ?_
 (conv=>whnf);refine a7.mono (sK ⟨131,k131.has⟩ n hn s) ?_
 rintro r H' ⟨rfl,rfl⟩
 conv=>whnf
 refine⟨fun m ρ H=>∃(k:Nat) (acc:Int),k+m=(pJ n s).length∧0≤acc∧acc<256 ^ k∧((pJ n s).drop k).foldl (fun n x=>n*256+x) acc=num (pJ n s)∧H=[fV (kQ n s)] ∧
  Sv 23 [(5,.int .i64 acc),(10,.list false 1 (bC (pJ n s))),(11,.int .i64 (pJ n s).length),(12,.int .i64 k)] ρ,(pJ n s).length,[],?_,?_⟩
 ·exact⟨0,0,by omega,by omega,by omega,rfl,rfl,Sv.intro rfl ⟨rfl,rfl,aN (by rw[aD]),rfl,trivial⟩⟩
 rintro m ρ H ⟨k,acc,hk,h0,h1,hr,rfl,d,rfl⟩
 (conv=>whnf);refine aE (fun hlt=>?_) (fun hlt=>?_)
 ·simp at hlt
  obtain⟨x,hx,hd,hmem⟩:=aY hlt
  have hxb:=hb x hmem
  (conv=>whnf);refine And.intro (by omega) ?_
  (conv=>whnf);refine b8 (jZ hx) ?_
  (conv=>whnf);refine And.intro (by decide) ?_
  conv=>whnf
  have hp:(256:Int) ^ k≤256 ^ 4:=by
   have:(256:Nat) ^ k≤256 ^ 4:=Nat.pow_le_pow_right (by omega) (by omega)
   exact_mod_cast this
  have hp2:(256:Int) ^ (k+1)=256 ^ k*256:=Int.pow_succ ..
  refine⟨m-1,by omega,Gp.keep rfl ?_ fun ρ1 h=>⟨k+1,acc*256+x,by omega,by omega,by omega,?_,rfl,h⟩⟩
  ·refine⟨aN ?_,rfl,rfl,aN (aW ((k:Int)+1) (by omega) (by omega)),trivial⟩
   show G8 (IntKind.i64.wrap (acc*2 ^ 8)) (IntKind.i64.wrap x)=_
   rw[aW _ (by omega) (by omega),aW x (by omega) (by omega),lT acc x 8 h0 hxb.1 (by omega) (by omega)]
   omega
  ·rw[←hr,hd];rfl
 ·simp at hlt
  conv=>whnf
  rw[List.drop_eq_nil_of_le hlt]at hr
  exact⟨aN hr,rfl⟩
theorem d9(n:Int)(hn:0≤n)(hn6:n≤4)(s:dH)(hby:fI s.rest)(H:List aB)(id:Nat)(ho:H[id]?=some (fV s)):
  a7 pr 110 [.ptr id 1 0 0,.int .i64 n] H (fun r H'=>r=.int .i64 (lR n s)∧H'=H.set id (fV (kQ n s))) :=
 (yU n hn hn6 s hby).fr ho rfl rfl (.pt (.cl rfl trivial)) (.closed _ rfl)
def fH(s:dH):ByteArray:=uB (pJ (lR 1 s) (kQ 1 s))
def uD(s:dH):dH:=kQ (lR 1 s) (kQ 1 s)
set_option maxRecDepth 20000 in
theorem PI(s:dH)(hby:fI s.rest):
  a7 pr 129 [.ptr 0 1 0 0] [fV s] (fun r H'=>r=.str (fH s)∧H'=[fV (uD s)]):=by
 refine aA k129.has ?_
 (conv=>whnf);refine a7.mono (yU 1 (by omega) (by omega) s hby) ?_
 rintro r H' ⟨rfl,rfl⟩
 (conv=>whnf);refine a7.mono (sK ⟨131,k131.has⟩ _ (mT (by omega) (by omega) hby).1 (kQ 1 s)) ?_
 rintro r H' ⟨rfl,rfl⟩
 (conv=>whnf);refine⟨_,fX _,?_⟩
 conv=>whnf
 exact⟨rfl,rfl⟩
theorem nA(s:dH)(hby:fI s.rest)(H:List aB)(id:Nat)(ho:H[id]?=some (fV s)):
  a7 pr 129 [.ptr id 1 0 0] H (fun r H'=>r=.str (fH s)∧H'=H.set id (fV (uD s))) :=
 (PI s hby).fr ho rfl rfl (.pt trivial) (.closed _ rfl)
def Q8(l:List Int):Option (List V) :=
 if l.length=0∨12<l.getD 0 0 then none else match oB (l.getD 0 0).toNat (l.drop 1)with
  |some (rs,[])=>some rs
  |_=>none
theorem sW(l:List Int):rL l=match Q8 l with|some rs=>.tuple [.list false 3 (vC rs),.int .i64 0]|none=>.tuple [.nil,.int .i64 11]:=by
 unfold rL Q8 rK
 split
 ·rfl
 ·generalize oB (l.getD 0 0).toNat (List.drop 1 l)=o
  cases o with
  |none=>rfl
  |some p =>
   obtain⟨rs,r⟩:=p
   cases r<;>rfl
theorem iZ{s:dH}(h:fI s.rest):fI (uD s).rest:=gY (gY h)
theorem UP(s:dH):(uD s).rest.length≤s.rest.length:=Nat.le_trans (GV _ _) (GV _ _)
theorem NB:∀{a b:List Int},fI a→fI b→(a.map fun n=>UInt8.ofNat n.toNat)=(b.map fun n=>UInt8.ofNat n.toNat)→a=b
 |[],[],_,_,_=>rfl
 |[],_::_,_,_,h=>by simp at h
 |_::_,[],_,_,h=>by simp at h
 |x::a,y::b,ha,hb,h=>by
  rw[List.map_cons,List.map_cons,List.cons.injEq]at h
  have hx:=ha x (List.mem_cons_self ..)
  have hy:=hb y (List.mem_cons_self ..)
  have e1:x=y:=by
   have:=congrArg UInt8.toNat h.1
   rw[UInt8.toNat_ofNat',UInt8.toNat_ofNat']at this
   omega
  rw[e1,NB (fun z hz=>ha z (List.mem_cons_of_mem _ hz)) (fun z hz=>hb z (List.mem_cons_of_mem _ hz)) h.2]
theorem FH{a b:List Int}(ha:fI a)(hb:fI b):((a.map fun n=>UInt8.ofNat n.toNat)==(b.map fun n=>UInt8.ofNat n.toNat))=(a==b):=by
 rw[Bool.eq_iff_iff,beq_iff_eq,beq_iff_eq]
 exact⟨NB ha hb,fun h=>by rw[h]⟩
theorem zJ(e1 e2:Bool)(a b:List Int)(ha:fI a)(hb:fI b)(H:List aB):
  a7 pr 77 [.list e1 1 (bC a),.list e2 1 (bC b)] H (fun r H'=>r=.bool (a==b)∧H'=H):=by
 refine a7.pure rfl (aA k77.has ?_)
 (conv=>whnf);refine⟨_,fX _,?_⟩
 (conv=>whnf);refine⟨_,fX _,?_⟩
 conv=>whnf
 exact iB (FH ha hb)
def f0:ZJ:=⟨bs [],bs [],[]⟩
def dS(l:List Int):dH:=⟨l.take (l.length-4),false⟩
theorem N2(l:List Int):(uB l).size=l.length:=by simp[uB,ByteArray.size]
set_option maxRecDepth 20000 in
theorem T3{s:dH}(h:fI s.rest):(fH s).size≤255:=by
 rw[fH,N2]
 have h1:=AA _ (lH (n:=1) h)
 have h2:=qL (n:=1) (s:=s) (by omega)
 have h3:(256:Int) ^ (pJ 1 s).length≤256 ^ 1:=by
  have:(256:Nat) ^ (pJ 1 s).length≤256 ^ 1:=Nat.pow_le_pow_right (by omega) (by omega)
  exact_mod_cast this
 have h4:=qL (n:=lR 1 s) (s:=kQ 1 s) h1.1
 have h5:lR 1 s<256:=by rw[lR];omega
 omega
def Z4(n:Int)(s:dH):List Int:=if QD n s then s.rest.take n.toNat else List.replicate n.toNat 0
def zt(s:dH):ByteArray:=uB (Z4 (lR 1 s) (kQ 1 s))
def z1(l:List Int):dH:=kQ 4 (dS l)
def z2(l:List Int):dH:=uD (z1 l)
def z3(l:List Int):dH:=uD (z2 l)
def z4(l:List Int):dH:=kQ 2 (z3 l)
end Go.AW
namespace Go.AW
variable [dK]
theorem y8(x rest:List Int)(n:Int)(hn:n=x.length):pJ n ⟨x++rest,false⟩=x∧Z4 n ⟨x++rest,false⟩=x∧kQ n ⟨x++rest,false⟩=⟨rest,false⟩:=by
 subst hn
 have h:QD x.length ⟨x++rest,false⟩=true:=by simp[QD];omega
 refine⟨?_,?_,?_⟩
 ·rw[pJ,h,if_pos rfl];simp
 ·rw[Z4,h,if_pos rfl];simp
 ·rw[kQ,h,if_pos rfl];simp
theorem RU:∀(k:Nat) (n:Int),0≤n→n<256 ^ k→num (j2 k n)=n
 |0,n,h0,h1=>by simp at h1;rw[j2];show(0:Int)=n;omega
 |k+1,n,h0,h1=>by
  rw[Int.pow_succ]at h1
  have ih:=RU k (n / 256) (by omega) (by omega)
  rw[num]at ih
  rw[j2,num,List.foldl_append,ih]
  show n / 256*256+n % 256=n
  omega
theorem M5(x rest:List Int)(n:Int)(hn:n=x.length):lR n ⟨x++rest,false⟩=num x:=by rw[lR,(y8 x rest n hn).1]
theorem KL(s:ByteArray)(rest:List Int)(hs:s.size≤255):
  fH ⟨(u8 s.size::dT s)++rest,false⟩=s∧zt ⟨(u8 s.size::dT s)++rest,false⟩=s∧uD ⟨(u8 s.size::dT s)++rest,false⟩=⟨rest,false⟩:=by
 have e1:(u8 s.size::dT s)++rest=[u8 s.size]++(dT s++rest):=rfl
 have hn:lR 1 ⟨(u8 s.size::dT s)++rest,false⟩=s.size:=by
  rw[e1,M5 [u8 s.size] _ 1 rfl]
  show 0*256+u8 s.size=_
  rw[m3];omega
 have ht:kQ 1 ⟨(u8 s.size::dT s)++rest,false⟩=⟨dT s++rest,false⟩:=by
  rw[e1];exact(y8 [u8 s.size] _ 1 rfl).2.2
 have hb:=y8 (dT s) rest s.size (by rw[bT])
 rw[fH,zt,uD,hn,ht,hb.1,hb.2.1,hb.2.2,wJ]
 exact⟨rfl,rfl,rfl⟩
theorem T5{a b:V}(h:iS a=iS b):a=b:=by
 cases a;cases b
 simp[iS]at h
 obtain⟨rfl,rfl,rfl⟩:=h
 rfl
theorem N3:∀{a b:List V},vC a=vC b→a=b
 |[],[],_=>rfl
 |[],_::_,h=>by simp[vC]at h
 |_::_,[],h=>by simp[vC]at h
 |x::a,y::b,h=>by
  simp only[vC,List.map_cons,List.cons.injEq]at h
  rw[T5 h.1,N3 (a:=a) (b:=b) h.2]
theorem TO{row:List V}(h:DM row=0):Q8 (eY row)=some row:=by
 obtain⟨h1,h2⟩:=ER h
 have h3:=R5 row h1 fun v hv=>List.all_eq_true.1 h2 v hv
 rw[sW]at h3
 cases hc:Q8 (eY row)with
 |none=>rw[hc]at h3;simp at h3
 |some rs =>
  rw[hc]at h3
  simp only[a6.tuple.injEq,List.cons.injEq,a6.list.injEq]at h3
  rw[N3 h3.1.2.2]
theorem uS{s:ByteArray}(h:eF s=true):s.size≤24:=by
 simp only[eF,Bool.and_eq_true,decide_eq_true_eq]at h;exact h.1
theorem MD{s:ByteArray}(h:mH s=true):s.size≤49:=by
 unfold mH at h
 split at h
 ·rename_i h0
  simp only[Bool.and_eq_true]at h
  have h1:=uS h.1
  have h2:=uS h.2
  have hd:j3 s<s.size:=by
   rcases BM s.data.toList 46 with hx|⟨i,hx,hl⟩
   ·rw[j3,hx]at h0;omega
   ·rw[j3,hx]
    have:s.data.toList.length=s.size:=by simp
    omega
  rw[ByteArray.size_extract]at h1 h2
  omega
 ·have:=uS h;omega
attribute [local irreducible] a7
theorem mG{H1:List aB}{n:Nat}{ids:List Nat}{id ep len sz:Nat}{es:List (List a6)}(hid:id∉ids)(ho:H1[id]?=some (.arr sz es))(he:ep=es.length)(hl:len=es.length)(hp:bG es=true):dV H1 n ids (.sl id ep 0 len) (.list false sz es):=by
 subst hl he
 have:=dV.frz (n:=n) (ids:=ids) id es.length 0 es.length sz es ho rfl hp hid
 rwa [List.drop_zero,List.take_length]at this
theorem S5(x k:Int)(hk:1≤k)(hk2:k≤1000000):(IntKind.i64.wrap (x.tmod k+k)).tmod k=x % k:=by
 have h1:=Int.tmod_lt_of_pos x (show 0<k by omega)
 have h2:=Int.lt_tmod_of_pos x (show 0<k by omega)
 rw[aW _ (by omega) (by omega),Int.tmod_eq_emod_of_nonneg (by omega),Int.add_emod_right,Int.tmod_def,Int.sub_mul_emod_self_left]
theorem gU(x k:Int)(hk:1≤k)(hk2:k≤1000000)(H:List aB):
  a7 pr 12 [.int .i64 x,.int .i64 k] H (fun r H'=>r=.int .i64 (x % k)∧H'=H):=by
 refine a7.pure rfl (aA k12.has ?_)
 (conv=>whnf);refine s8 (by simp;omega) ?_
 (conv=>whnf);refine And.intro (by omega) ?_
 (conv=>whnf);refine And.intro (by omega) ?_
 conv=>whnf
 exact eR (S5 x k hk hk2)
def gO(l:List Int)(i:Nat):aB:=.arr 2 [[.list false 1 (iC l),.int .i64 i]]
def nx(l:List Int)(i:Nat)(n:Int):Int×Nat:=if l.length≤i∨n<1 then(0,i)else(l.getD i 0 % n,i+1)
theorem uT(l:List Int)(i:Nat)(n:Int)(hn:1≤n):0≤(nx l i n).1∧(nx l i n).1<n:=by
 unfold nx
 split
 ·exact⟨by simp,by simp;omega⟩
 ·exact⟨Int.emod_nonneg _ (by omega),Int.emod_lt_of_pos _ (by omega)⟩
theorem EH(l:List Int)(i:Nat)(n:Int)(h:i≤l.length):(nx l i n).2≤l.length:=by
 unfold nx
 split
 ·exact h
 ·rename_i h1
  show i+1≤_
  omega
set_option maxRecDepth 20000 in
theorem QK(l:List Int)(i:Nat)(n:Int)(hi:i≤l.length)(hl:l.length≤1000000)(hn:n≤1000000):
  a7 pr 43 [.ptr 0 1 0 0,.int .i64 n] [gO l i] (fun r H'=>r=.int .i64 (nx l i n).1∧H'=[gO l (nx l i n).2]):=by
 refine aA k43.has ?_
 (conv=>whnf);refine aE (fun h1=>?_) (fun h1=>?_)
 ·simp[cA]at h1
  conv=>whnf
  rw[nx,if_pos (.inl h1)]
  exact⟨rfl,rfl⟩
 simp[cA]at h1
 (conv=>whnf);refine aE (fun h2=>?_) (fun h2=>?_)
 ·simp at h2
  conv=>whnf
  rw[nx,if_pos (.inr h2)]
  exact⟨rfl,rfl⟩
 simp at h2
 have e1:IntKind.i64.wrap ((i:Int)+1)=((i+1:Nat):Int):=by rw[aW _ (by omega) (by omega)];omega
 have e2:IntKind.i64.wrap (IntKind.i64.wrap ((i:Int)+1)-1)=i:=by rw[e1,aW _ (by omega) (by omega)];omega
 have e3:(IntKind.i64.wrap (IntKind.i64.wrap ((i:Int)+1)-1)).toNat=i:=by rw[e2,Int.toNat_natCast]
 have eg:(iC l)[i]?=some [.int .i64 (l.getD i 0)]:=BL (by omega)
 (conv=>whnf);refine And.intro (by rw[e2];omega) ?_
 (conv=>whnf);refine b8 (by rw[e3];exact eg) ?_
 (conv=>whnf);refine⟨_,gU (l.getD i 0) n (by omega) (by omega) _,?_⟩
 conv=>whnf
 rw[nx,if_neg (by omega)]
 refine⟨rfl,?_⟩
 show[aB.arr 2 [[.list false 1 (iC l),.int .i64 (IntKind.i64.wrap ((i:Int)+1))]]]=_
 rw[e1];rfl
def ZN(l:List ByteArray)(s:ByteArray):Bool:=l.any fun x=>ON x s
theorem gE(l:List Int)(i:Nat)(n:Int)(hi:i≤l.length)(hl:l.length≤1000000)(hn:n≤1000000)(H:List aB)(id:Nat)(ho:H[id]?=some (gO l i)):
  a7 pr 43 [.ptr id 1 0 0,.int .i64 n] H (fun r H'=>r=.int .i64 (nx l i n).1∧H'=H.set id (gO l (nx l i n).2)) :=
 (QK l i n hi hl hn).fr ho rfl rfl (.pt (.cl rfl trivial)) (.closed _ rfl)
def X4:List Int:=[0,719,1380,1400,1439,1440,1500,2000,2879,2880,4000,4320,5000,7199,7200,9000]
def nN:Nat→List Int
 |0=>X4
 |k+1=>(nN k).set k (IntKind.i64.wrap ((nN k).getD k 0+144000))
theorem EA:∀k,(nN k).length=16
 |0=>rfl
 |k+1=>by rw[nN,List.length_set,EA k]
def BN:List Int:=[144000,144719,145380,145400,145439,145440,145500,146000,146879,146880,148000,148320,149000,151199,151200,153000]
theorem RD:nN 16=BN:=by decide
theorem SN(l:List Int)(k:Nat)(v:Int):qW (iC l) k [.int .i64 v]=iC (l.set k v):=by rw[wG];simp[iC]
set_option maxRecDepth 20000 in
theorem tU(H:List aB):
  a7 pr 198 [] H (fun r H'=>r=.list false 1 (iC BN)∧H'=H):=by
 refine a7.pure rfl (aA k198.has ?_)
 conv=>whnf
 refine⟨fun m ρ H1=>∃k:Nat,k+m=16∧H1=[.arr 1 (iC (nN k))]∧Sv 17 [(1,.sl 0 16 0 16),(2,.int .i64 k)] ρ,16,[],?_,?_⟩
 ·exact⟨0,by omega,rfl,Sv.intro rfl ⟨rfl,rfl,trivial⟩⟩
 rintro m ρ H1 ⟨k,hk,rfl,d,rfl⟩
 have hl:=EA k
 (conv=>whnf);refine b4 (by rw[cA,hl];rfl) ?_
 (conv=>whnf);refine aE (fun hlt=>?_) (fun hlt=>?_)
 ·simp at hlt
  have eg:(iC (nN k))[k]?=some [.int .i64 ((nN k).getD k 0)]:=BL (by omega)
  have hb:Nat.beq 16 (iC (nN k)).length=true:=by rw[cA,hl];rfl
  have hidx:(iC (nN k))[0+(k:Int).toNat]?=some [.int .i64 ((nN k).getD k 0)]:=by rw[Nat.zero_add,Int.toNat_natCast];exact eg
  (conv=>whnf);refine b4 (hb) ?_
  (conv=>whnf);refine And.intro (⟨by omega,by omega⟩) ?_
  (conv=>whnf);refine b4 (hb) ?_
  (conv=>whnf);refine b8 (hidx) ?_
  (conv=>whnf);refine b4 (hb) ?_
  (conv=>whnf);refine And.intro (⟨by omega,by omega⟩) ?_
  (conv=>whnf);refine b4 (hb) ?_
  (conv=>whnf);refine b8 (hidx) ?_
  conv=>whnf
  refine⟨m-1,by omega,Gp.keep rfl ?_ fun ρ1 h=>⟨k+1,by omega,?_,h⟩⟩
  ·exact⟨rfl,aN (aW _ (by omega) (by omega)),trivial⟩
  ·show[aB.arr 1 (qW (iC (nN k)) (0+(k:Int).toNat) [.int .i64 (IntKind.i64.wrap ((nN k).getD k 0+144000))])]=_
   rw[Nat.zero_add,Int.toNat_natCast,SN,nN]
 ·simp at hlt
  have:k=16:=by omega
  subst this
  rw[RD]
  conv=>whnf
  exact qH rfl rfl rfl (xO _)
def D7:List ByteArray:=[bs [],bs [97],bs [98],bs [105,116,39,115],bs [122,122]]
def QE(k:Int)(l:List Int)(i:Nat):V×Nat :=
 if k=1 then(⟨1,(nx l i 2).1,bs []⟩,(nx l i 2).2)
 else if k=2 then(⟨2,(nx l i 7).1-1,bs []⟩,(nx l i 7).2)
 else if k=3 then(⟨3,0,D7.getD (nx l i 5).1.toNat (bs [])⟩,(nx l i 5).2)
 else(⟨4,BN.getD (nx l i 16).1.toNat 0,bs []⟩,(nx l i 16).2)
def wv(c:c8)(l:List Int)(i:Nat):V×Nat :=
 if c.nul then(if(nx l i 5).1=0 then(zV,(nx l i 5).2)else QE c.kind l (nx l i 5).2)else QE c.kind l i
set_option maxRecDepth 20000 in
theorem OC(c:c8)(l:List Int)(i:Nat)(hi:i≤l.length)(hl:l.length≤1000000):
  a7 pr 151 [.agg (gJ c),.ptr 0 1 0 0] [gO l i] (fun r H'=>r=.agg (iS (wv c l i).1)∧H'=[gO l (wv c l i).2]):=by
 refine a7.gp (Q0:=fun r H'=>r=.agg (iS (wv c l i).1)∧∃x y,H'=[gO l (wv c l i).2,x,y]) ?_ (by
  rintro r H' ⟨rfl,x,y,rfl⟩
  exact Gp.res [0] (by simp) (bY rfl rfl rfl) (H1:=[gO l (wv c l i).2]) ⟨⟨_,rfl,.same _ _ rfl⟩,trivial⟩ (.closed _ rfl) ⟨_,rfl,rfl,rfl⟩)
 refine aA k151.has ?_
 obtain⟨nm,kd,nl⟩:=c
 cases nl with
 |true =>
  (conv=>whnf);refine a7.mono (gE l i 5 hi hl (by decide) _ 0 rfl) ?_
  rintro r H' ⟨rfl,rfl⟩
  have hj:=EH l i 5 hi
  (conv=>whnf);refine aE (fun h0=>?_) (fun h0=>?_)
  ·simp at h0
   conv=>whnf
   rw[wv,if_pos rfl,if_pos h0]
   exact⟨rfl,_,_,rfl⟩
  simp at h0
  (conv=>whnf);refine aE (fun k1=>?_) (fun k1=>?_)
  ·simp at k1
   (conv=>whnf);refine a7.mono (gE l ((nx l i 5).2) 2 (hj) hl (by decide) _ 0 rfl) ?_
   rintro r H' ⟨rfl,rfl⟩
   conv=>whnf
   rw[wv,if_pos rfl,if_neg h0]
   rw[QE,if_pos k1]
   exact⟨rfl,_,_,rfl⟩
  simp at k1
  (conv=>whnf);refine aE (fun k2=>?_) (fun k2=>?_)
  ·simp at k2
   (conv=>whnf);refine a7.mono (gE l ((nx l i 5).2) 7 (hj) hl (by decide) _ 0 rfl) ?_
   rintro r H' ⟨rfl,rfl⟩
   have hb:=uT l ((nx l i 5).2) 7 (by decide)
   conv=>whnf
   rw[wv,if_pos rfl,if_neg h0]
   rw[QE,if_neg k1,if_pos k2]
   refine⟨?_,_,_,rfl⟩
   show a6.agg [.int .i64 2,.int .i64 (IntKind.i64.wrap ((nx l ((nx l i 5).2) 7).1-1)),.str (bs [])]=_
   rw[aW _ (by omega) (by omega)]
   rfl
  simp at k2
  (conv=>whnf);refine aE (fun k3=>?_) (fun k3=>?_)
  ·simp at k3
   (conv=>whnf);refine a7.mono (gE l ((nx l i 5).2) 5 (hj) hl (by decide) _ 0 rfl) ?_
   rintro r H' ⟨rfl,rfl⟩
   have hb:=uT l ((nx l i 5).2) 5 (by decide)
   (conv=>whnf);refine And.intro (hb.1) ?_
   (conv=>whnf);refine b8 (mI (l:=D7) (x:=D7.getD (nx l ((nx l i 5).2) 5).1.toNat (bs [])) (by rw[List.getD_eq_getElem?_getD,List.getElem?_eq_getElem (by show(nx l ((nx l i 5).2) 5).1.toNat<5;omega)];rfl)) ?_
   conv=>whnf
   rw[wv,if_pos rfl,if_neg h0]
   rw[QE,if_neg k1,if_neg k2,if_pos k3]
   exact⟨rfl,_,_,rfl⟩
  simp at k3
  (conv=>whnf);refine a7.use (tU _) ?_
  (conv=>whnf);refine a7.mono (gE l ((nx l i 5).2) 16 (hj) hl (by decide) _ 0 rfl) ?_
  rintro r H' ⟨rfl,rfl⟩
  have hb:=uT l ((nx l i 5).2) 16 (by decide)
  (conv=>whnf);refine And.intro (hb.1) ?_
  (conv=>whnf);refine b8 (IS (l:=BN) (x:=BN.getD (nx l ((nx l i 5).2) 16).1.toNat 0) (by rw[List.getD_eq_getElem?_getD,List.getElem?_eq_getElem (by show(nx l ((nx l i 5).2) 16).1.toNat<16;omega)];rfl)) ?_
  conv=>whnf
  rw[wv,if_pos rfl,if_neg h0]
  rw[QE,if_neg k1,if_neg k2,if_neg k3]
  exact⟨rfl,_,_,rfl⟩
 |false =>
  (conv=>whnf);refine aE (fun k1=>?_) (fun k1=>?_)
  ·simp at k1
   (conv=>whnf);refine a7.mono (gE l (i) 2 (hi) hl (by decide) _ 0 rfl) ?_
   rintro r H' ⟨rfl,rfl⟩
   conv=>whnf
   rw[wv,if_neg (by simp)]
   rw[QE,if_pos k1]
   exact⟨rfl,_,_,rfl⟩
  simp at k1
  (conv=>whnf);refine aE (fun k2=>?_) (fun k2=>?_)
  ·simp at k2
   (conv=>whnf);refine a7.mono (gE l (i) 7 (hi) hl (by decide) _ 0 rfl) ?_
   rintro r H' ⟨rfl,rfl⟩
   have hb:=uT l (i) 7 (by decide)
   conv=>whnf
   rw[wv,if_neg (by simp)]
   rw[QE,if_neg k1,if_pos k2]
   refine⟨?_,_,_,rfl⟩
   show a6.agg [.int .i64 2,.int .i64 (IntKind.i64.wrap ((nx l (i) 7).1-1)),.str (bs [])]=_
   rw[aW _ (by omega) (by omega)]
   rfl
  simp at k2
  (conv=>whnf);refine aE (fun k3=>?_) (fun k3=>?_)
  ·simp at k3
   (conv=>whnf);refine a7.mono (gE l (i) 5 (hi) hl (by decide) _ 0 rfl) ?_
   rintro r H' ⟨rfl,rfl⟩
   have hb:=uT l (i) 5 (by decide)
   (conv=>whnf);refine And.intro (hb.1) ?_
   (conv=>whnf);refine b8 (mI (l:=D7) (x:=D7.getD (nx l (i) 5).1.toNat (bs [])) (by rw[List.getD_eq_getElem?_getD,List.getElem?_eq_getElem (by show(nx l (i) 5).1.toNat<5;omega)];rfl)) ?_
   conv=>whnf
   rw[wv,if_neg (by simp)]
   rw[QE,if_neg k1,if_neg k2,if_pos k3]
   exact⟨rfl,_,_,rfl⟩
  simp at k3
  (conv=>whnf);refine a7.use (tU _) ?_
  (conv=>whnf);refine a7.mono (gE l (i) 16 (hi) hl (by decide) _ 0 rfl) ?_
  rintro r H' ⟨rfl,rfl⟩
  have hb:=uT l (i) 16 (by decide)
  (conv=>whnf);refine And.intro (hb.1) ?_
  (conv=>whnf);refine b8 (IS (l:=BN) (x:=BN.getD (nx l (i) 16).1.toNat 0) (by rw[List.getD_eq_getElem?_getD,List.getElem?_eq_getElem (by show(nx l (i) 16).1.toNat<16;omega)];rfl)) ?_
  conv=>whnf
  rw[wv,if_neg (by simp)]
  rw[QE,if_neg k1,if_neg k2,if_neg k3]
  exact⟨rfl,_,_,rfl⟩
theorem T8(k:Int)(l:List Int)(i:Nat)(h:i≤l.length):(QE k l i).2≤l.length:=by
 unfold QE
 repeat' split
 all_goals exact EH _ _ _ h
theorem T9(c:c8)(l:List Int)(i:Nat)(h:i≤l.length):(wv c l i).2≤l.length:=by
 unfold wv
 repeat' split
 ·exact EH _ _ _ h
 ·exact T8 _ _ _ (EH _ _ _ h)
 ·exact T8 _ _ _ h
theorem z8(c:c8)(l:List Int)(i:Nat)(hi:i≤l.length)(hl:l.length≤1000000)(H:List aB)(id:Nat)(ho:H[id]?=some (gO l i)):
  a7 pr 151 [.agg (gJ c),.ptr id 1 0 0] H (fun r H'=>r=.agg (iS (wv c l i).1)∧H'=H.set id (gO l (wv c l i).2)) :=
 (OC c l i hi hl).fr ho rfl rfl (.cl rfl (.pt trivial)) (.closed _ rfl)
def wr(l:List Int):List c8→Nat→List V→List V×Nat
 |[],i,out=>(out,i)
 |c::cs,i,out=>wr l cs (wv c l i).2 (out++[(wv c l i).1])
theorem T7(l:List Int):∀(cs:List c8) (i:Nat) (out:List V),(wr l cs i out).1.length=out.length+cs.length
 |[],_,_=>rfl
 |c::cs,i,out=>by rw[wr,T7 l cs];simp;omega
theorem V9(l:List Int):∀(cs:List c8) (i:Nat) (out:List V),i≤l.length→(wr l cs i out).2≤l.length
 |[],_,_,h=>h
 |c::cs,i,out,h=>by rw[wr];exact V9 l cs _ _ (T9 c l i h)
set_option maxRecDepth 20000 in
theorem QM(cs:List c8)(hc:cs≠[])(hcl:cs.length≤1000)(l:List Int)(i:Nat)(hi:i≤l.length)(hl:l.length≤1000000):
  a7 pr 98 [.list false 3 (cC cs),.ptr 0 1 0 0] [gO l i] (fun r H'=>r=.sl 1 cs.length 0 cs.length∧H'=[gO l (wr l cs i []).2,.arr 3 (vC (wr l cs i []).1)]):=by
 refine aA k98.has ?_
 conv=>whnf
 refine⟨fun m ρ H1=>∃(k j:Nat) (out:List V),k+m=cs.length∧j≤l.length∧out.length=k∧wr l (cs.drop k) j out=wr l cs i [] ∧
  ((k=0∧H1=[gO l j]∧Sv 23 [(0,.list false 3 (cC cs)),(1,.ptr 0 1 0 0),(5,.nil),(6,.int .i64 0)] ρ) ∨
  (0<k∧H1=[gO l j,.arr 3 (vC out)]∧Sv 23 [(0,.list false 3 (cC cs)),(1,.ptr 0 1 0 0),(5,.sl 1 k 0 k),(6,.int .i64 k)] ρ)),cs.length,[],?_,?_⟩
 ·exact⟨0,i,[],by omega,hi,rfl,rfl,.inl ⟨rfl,rfl,Sv.intro rfl ⟨rfl,rfl,rfl,rfl,trivial⟩⟩⟩
 rintro m ρ H1 ⟨k,j,out,hk,hj,ho,hr,⟨rfl,rfl,d,rfl⟩|⟨hk0,rfl,d,rfl⟩⟩
 ·have hlt0:0<cs.length:=List.length_pos_iff.2 hc
  (conv=>whnf);refine b4 (by rw[aX];simp;omega) ?_
  have hx:cs[0]?=some cs[0]:=List.getElem?_eq_getElem hlt0
  have r7:cs.drop 0=cs[0]::cs.drop 1:=List.drop_eq_getElem_cons hlt0
  have ho0:out=[]:=List.eq_nil_of_length_eq_zero (by omega)
  subst ho0
  rw[r7,wr]at hr
  (conv=>whnf);refine And.intro (by omega) ?_
  (conv=>whnf);refine b8 (iI hx) ?_
  (conv=>whnf);refine a7.mono (z8 cs[0] l j hj hl _ 0 rfl) ?_
  rintro r H' ⟨rfl,rfl⟩
  (conv=>whnf);refine And.intro (⟨cN (by simp) (by omega),bK (by simp)⟩) ?_
  conv=>whnf
  refine⟨m-1,by omega,Gp.keep (live:=[(0,.list false 3 (cC cs)),(1,.ptr 0 1 0 0),(5,.sl 1 1 0 1),(6,.int .i64 (1:Nat))]) rfl ?_ fun ρ1 h=>⟨1,(wv cs[0] l j).2,[(wv cs[0] l j).1],by omega,T9 _ _ _ hj,rfl,hr,.inr ⟨by omega,rfl,h⟩⟩⟩
  exact⟨rfl,rfl,rfl,rfl,trivial⟩
 ·(conv=>whnf);refine aE (fun hlt=>?_) (fun hlt=>?_)
  ·simp[aX]at hlt
   have hx:cs[k]?=some cs[k]:=List.getElem?_eq_getElem hlt
   rw[List.drop_eq_getElem_cons hlt,wr]at hr
   (conv=>whnf);refine And.intro (by omega) ?_
   (conv=>whnf);refine b8 (iI hx) ?_
   (conv=>whnf);refine a7.mono (z8 cs[k] l j hj hl _ 0 rfl) ?_
   rintro r H' ⟨rfl,rfl⟩
   (conv=>whnf);refine b4 (by rw[b9,ho];exact Nat.beq_refl _) ?_
   (conv=>whnf);refine And.intro (⟨cN (by simp;omega) (by omega),bK (by simp;omega),rfl,by rw[b9,ho]⟩) ?_
   conv=>whnf
   have hcn:vC out++[iS (wv cs[k] l j).1]=vC (out++[(wv cs[k] l j).1]):=by rw[y9];rfl
   have hln:(vC out++[iS (wv cs[k] l j).1]).length=k+1:=by rw[hcn,b9];simp[ho]
   refine⟨m-1,by omega,Gp.keep (live:=[(0,.list false 3 (cC cs)),(1,.ptr 0 1 0 0),(5,.sl 1 (k+1) 0 (k+1)),(6,.int .i64 (k+1:Nat))]) rfl ?_ fun ρ1 h=>⟨k+1,(wv cs[k] l j).2,out++[(wv cs[k] l j).1],by omega,T9 _ _ _ hj,by simp[ho],hr,.inr ⟨by omega,by rw[←hcn];rfl,h⟩⟩⟩
   exact⟨rfl,rfl,eQ hln hln,aN (aW _ (by omega) (by omega)),trivial⟩
  ·simp[aX]at hlt
   have hkl:k=cs.length:=by omega
   rw[List.drop_of_length_le (by omega),wr]at hr
   conv=>whnf
   subst hkl
   rw[←hr]
   exact⟨rfl,rfl⟩
theorem Q3(cs:List c8)(hc:cs≠[])(hcl:cs.length≤1000)(l:List Int)(i:Nat)(hi:i≤l.length)(hl:l.length≤1000000)(H:List aB)(id:Nat)(ho:H[id]?=some (gO l i)):
  a7 pr 98 [.list false 3 (cC cs),.ptr id 1 0 0] H (fun r H'=>r=.sl H.length cs.length 0 cs.length∧H'=H.set id (gO l (wr l cs i []).2)++[.arr 3 (vC (wr l cs i []).1)]):=by
 refine(QM cs hc hcl l i hi hl).frG (G:=[.arr 3 (vC (wr l cs i []).1)]) ho rfl rfl ?_ (.cl rfl (.pt trivial)) ?_
 ·intro x hx
  rw[List.mem_singleton.1 hx]
  exact l9 _
 ·exact .sl 1 cs.length 0 cs.length
structure Y1 where
 cols:List c8
 key:List ByteArray
 late:Int
 reopen:Int
def ZP:ByteArray:=bs [97,116]
def NR(key:List ByteArray)(c:c8):Bool:=ZN key c.name||ON c.name ZP
def X1(key:List ByteArray):List c8→List V→List V
 |c::cs,v::vs=>(if NR key c then v else zV)::X1 key cs vs
 |_,_=>[]
def wk(s:Y1)(l:List Int)(i:Nat):Int×Nat:=nx l (wr l s.cols (nx l i 4).2 []).2 24
def Q5(s:Y1)(l:List Int)(i:Nat):List V:=(wr l s.cols (nx l i 4).2 []).1
def XU(s:Y1)(l:List Int)(i:Nat):XZ×Nat :=
 if(wk s l i).1<5 then(⟨true,(nx l i 4).1,X1 s.key s.cols (Q5 s l i)⟩,(wk s l i).2)
 else if(wk s l i).1=5 then(⟨true,(nx l i 4).1,Q5 s l i⟩,(wk s l i).2)
 else if(wk s l i).1=6 then(⟨false,(nx l i 4).1,(Q5 s l i).take (s.cols.length-1)⟩,(wk s l i).2)
 else if(wk s l i).1=7 then(⟨false,(nx l i 4).1,(Q5 s l i).set (nx l (wk s l i).2 s.cols.length).1.toNat ⟨1,1,bs []⟩⟩,(nx l (wk s l i).2 s.cols.length).2)
 else if(wk s l i).1=8 then(⟨false,-1,Q5 s l i⟩,(wk s l i).2)
 else(⟨false,(nx l i 4).1,Q5 s l i⟩,(wk s l i).2)
def wf(s:Y1)(l:List Int):Nat→Nat→List XZ→List XZ×Nat
 |0,i,L=>(L,i)
 |k+1,i,L=>wf s l k (XU s l i).2 (L++[(XU s l i).1])
def tO(x y z:List Int):aB:=.arr 1 [[.list false 1 (bC x)],[.list false 1 (bC y)],[.list false 1 (bC z)]]
def GA(e:cW):Bool:=decide (0<e.cnt)
theorem N9{b:List cW}(h:gI b=0):b.length≤1000000:=by
 unfold gI at h
 split at h
 ·cases h
 ·omega
set_option maxRecDepth 20000 in
theorem uW(ex:Bool)(b:List cW)(hl:b.length≤1000000)(H:List aB):
  a7 pr 126 [.list ex 2 (eC b)] H (fun r H'=>r=.bool (b.all GA)∧H'=H):=by
 refine a7.pure (by simp[a6.closed,a6.isPure]) (aA k126.has ?_)
 conv=>whnf
 refine⟨fun m ρ H1=>∃k:Nat,k+m=b.length∧b.all GA=(b.drop k).all GA∧H1=[]∧Sv 16 [(0,.list ex 2 (eC b)),(3,.int .i64 k)] ρ,b.length,[],?_,?_⟩
 ·exact⟨0,by omega,rfl,rfl,Sv.intro rfl ⟨rfl,rfl,trivial⟩⟩
 rintro m ρ H1 ⟨k,hk,hr,rfl,d,rfl⟩
 (conv=>whnf);refine aE (fun hlt=>?_) (fun hlt=>?_)
 ·simp[aR]at hlt
  have hx:b[k]?=some b[k]:=List.getElem?_eq_getElem hlt
  rw[List.drop_eq_getElem_cons hlt,List.all_cons]at hr
  (conv=>whnf);refine And.intro (by omega) ?_
  (conv=>whnf);refine b8 (fE hx) ?_
  (conv=>whnf);refine aE (fun h5=>?_) (fun h5=>?_)
  ·simp at h5
   conv=>whnf
   exact iB (by rw[hr,GA,decide_eq_false (by omega)];rfl)
  ·simp at h5
   rw[GA,decide_eq_true (by omega),Bool.true_and]at hr
   conv=>whnf
   refine⟨m-1,by omega,Gp.keep rfl ?_ fun ρ1 h=>⟨k+1,by omega,hr,rfl,h⟩⟩
   exact⟨rfl,aN (aW _ (by omega) (by omega)),trivial⟩
 ·simp[aR]at hlt
  rw[List.drop_of_length_le (by omega)]at hr
  conv=>whnf
  exact iB hr.symm
def nC:Nat→List cW→List cW
 |0,l=>l
 |n+1,l=>if l.length<2 then l else nE (nC n (l.take (l.length / 2))) (nC n (l.drop (l.length / 2)))
theorem EY{l:List cW}(h:l.length<2):QO l:=by
 match l,h with
 |[],_=>exact List.Pairwise.nil
 |[x],_=>exact List.pairwise_singleton _ _
theorem D3:∀(n:Nat) (l:List cW),l.length≤n+1→QO (nC n l)
 |0,l,h=>by rw[nC];exact EY (by omega)
 |n+1,l,h=>by
  rw[nC]
  split
  ·exact EY (by assumption)
  ·exact AH _ _ (D3 n _ (by rw[List.length_take];omega)) (D3 n _ (by rw[List.length_drop];omega))
def mK(B:Int)(e:cW):Prop:=e.row.length≤12 ∧ -B≤e.cnt∧e.cnt≤B
set_option maxRecDepth 20000 in
theorem zQ{B:Int}(hB0:B≤4000000000000)(e1 e2:Bool)(a b:List cW)(ha:a.length≤100000)(hb:b.length≤100000)(hA:∀e∈a,mK B e)(hB:∀e∈b,mK B e):
  a7 pr 248 [.list e1 2 (eC a),.list e2 2 (eC b)] [] (fun r H'=>r=.sl 0 (nE a b).length 0 (nE a b).length∧H'=[.arr 2 (eC (nE a b))]):=by
 refine aA k248.has ?_
 conv=>whnf
 refine⟨fun m ρ H=>∃(a' b' pre:List cW) (f1 f2:Bool),m=a'.length+b'.length∧nE a b=pre++nE a' b' ∧
   pre.length+a'.length+b'.length≤a.length+b.length∧(∀e∈a',mK B e)∧(∀e∈b',mK B e)∧H=[.arr 2 (eC pre)] ∧
   Sv 74 [(0,.list f1 2 (eC a')),(1,.list f2 2 (eC b')),(5,.sl 0 pre.length 0 pre.length)] ρ,a.length+b.length,[(5,2)],?_,?_⟩
 ·exact⟨a,b,[],e1,e2,rfl,rfl,by simp,hA,hB,by rfl,Sv.intro rfl ⟨rfl,rfl,rfl,trivial⟩⟩
 rintro m ρ H ⟨a',b',pre,f1,f2,hm,hM,hlen,hA',hB',rfl,d,rfl⟩
 (conv=>whnf);refine aE (fun hz=>?_) (fun hz=>?_)
 ·replace hz:decide (((eC a').length:Int)>0)=true:=hz
  rw[aR]at hz
  have hzl:a'.length≠0:=by simp at hz;omega
  obtain⟨x,hx,hxd,hxm⟩:=aY (l:=a') (k:=0) (by omega)
  obtain⟨kx1,kx2,kx3⟩:=hA' x hxm
  rw[List.drop_zero]at hxd
  (conv=>whnf);refine s8 (by rw[aR];simpa using hzl) ?_
  (conv=>whnf);refine aE (fun hw=>?_) (fun hw=>?_)
  ·replace hw:decide (((eC b').length:Int)>0)=true:=hw
   rw[aR]at hw
   have hwl:b'.length≠0:=by simp at hw;omega
   obtain⟨y,hy,hyd,hym⟩:=aY (l:=b') (k:=0) (by omega)
   obtain⟨ky1,ky2,ky3⟩:=hB' y hym
   rw[List.drop_zero]at hyd
   (conv=>whnf);refine And.intro (by decide) ?_
   (conv=>whnf);refine b8 (fE hx) ?_
   (conv=>whnf);refine And.intro (by decide) ?_
   (conv=>whnf);refine b8 (fE hy) ?_
   conv=>whnf
   refine⟨_,kU false false x.row y.row (by omega) _,?_⟩
   (conv=>whnf);refine aE (fun hc=>?_) (fun hc=>?_)
   ·replace hc:decide (bF x.row y.row<0)=true:=hc
    simp at hc
    (conv=>whnf);refine And.intro (by decide) ?_
    (conv=>whnf);refine b8 (fE hx) ?_
    have hN:nE a b=(pre++[⟨x.row,x.cnt⟩])++nE (a'.drop 1) (b'):=by
     rw[hM,XB hxd (.inr ⟨_,_,hyd,hc⟩),List.append_assoc];rfl
    have hlN:pre.length+1+(a'.drop 1).length+(b').length≤a.length+b.length:=by simp[List.length_drop];omega
    have hmN:(a'.drop 1).length+(b').length<m:=by simp[List.length_drop];omega
    have hAN:∀e∈(a'.drop 1),mK B e:=fun e h=>hA' e (by first|exact h|exact List.mem_of_mem_drop h)
    have hBN:∀e∈(b'),mK B e:=fun e h=>hB' e (by first|exact h|exact List.mem_of_mem_drop h)
    have hFl:(eC pre++[jN ⟨x.row,x.cnt⟩]).length=(pre++[(⟨x.row,x.cnt⟩:cW)]).length:=by simp[aR]
    (conv=>whnf);refine b4 (by rw[aR];exact Nat.beq_refl _) ?_
    (conv=>whnf);refine And.intro ⟨cN (by simp;omega) (by omega),bK (by simp;omega),rfl,by rw[aR]⟩ ?_
    (conv=>whnf);refine And.intro ⟨by omega,by rw[aR];omega⟩ ?_
    (conv=>whnf);refine And.intro (by(conv=>whnf);exact⟨⟨by omega,by rw[aR];omega⟩,rfl⟩) ?_
    conv=>whnf
    refine⟨(a'.drop 1).length+(b').length,hmN,Gp.one 0 2 (eC (pre++[⟨x.row,x.cnt⟩])) (by rw[l5];rfl) (gP _) rfl ?_ fun ρ1 h=>⟨a'.drop 1,b',pre++[⟨x.row,x.cnt⟩],(f1&&(none:Option bA).isNone),f2,rfl,hN,by simpa using hlN,hAN,hBN,rfl,h⟩⟩
    exact⟨P9 (EZ a'),.closed _ rfl,kI (k:=0) rfl rfl hFl hFl,trivial⟩
   ·replace hc:decide (bF x.row y.row<0)=false:=hc
    simp at hc
    (conv=>whnf);refine aE (fun hg=>?_) (fun hg=>?_)
    ·replace hg:decide (bF x.row y.row>0)=true:=hg
     simp at hg
     (conv=>whnf);refine And.intro (by decide) ?_
     (conv=>whnf);refine b8 (fE hy) ?_
     have hN:nE a b=(pre++[⟨y.row,y.cnt⟩])++nE (a') (b'.drop 1):=by
      rw[hM,XC hyd (.inr ⟨_,_,hxd,hg⟩),List.append_assoc];rfl
     have hlN:pre.length+1+(a').length+(b'.drop 1).length≤a.length+b.length:=by simp[List.length_drop];omega
     have hmN:(a').length+(b'.drop 1).length<m:=by simp[List.length_drop];omega
     have hAN:∀e∈(a'),mK B e:=fun e h=>hA' e (by first|exact h|exact List.mem_of_mem_drop h)
     have hBN:∀e∈(b'.drop 1),mK B e:=fun e h=>hB' e (by first|exact h|exact List.mem_of_mem_drop h)
     have hFl:(eC pre++[jN ⟨y.row,y.cnt⟩]).length=(pre++[(⟨y.row,y.cnt⟩:cW)]).length:=by simp[aR]
     (conv=>whnf);refine b4 (by rw[aR];exact Nat.beq_refl _) ?_
     (conv=>whnf);refine And.intro ⟨cN (by simp;omega) (by omega),bK (by simp;omega),rfl,by rw[aR]⟩ ?_
     (conv=>whnf);refine And.intro ⟨by omega,by rw[aR];omega⟩ ?_
     (conv=>whnf);refine And.intro (by(conv=>whnf);exact⟨⟨by omega,by rw[aR];omega⟩,rfl⟩) ?_
     conv=>whnf
     refine⟨(a').length+(b'.drop 1).length,hmN,Gp.one 0 2 (eC (pre++[⟨y.row,y.cnt⟩])) (by rw[l5];rfl) (gP _) rfl ?_ fun ρ1 h=>⟨a',b'.drop 1,pre++[⟨y.row,y.cnt⟩],f1,(f2&&(none:Option bA).isNone),rfl,hN,by simpa using hlN,hAN,hBN,rfl,h⟩⟩
     exact⟨.closed _ rfl,P9 (EZ b'),kI (k:=0) rfl rfl hFl hFl,trivial⟩
    ·replace hg:decide (bF x.row y.row>0)=false:=hg
     simp at hg
     (conv=>whnf);refine And.intro (by decide) ?_
     (conv=>whnf);refine b8 (fE hx) ?_
     (conv=>whnf);refine And.intro (by decide) ?_
     (conv=>whnf);refine b8 (fE hx) ?_
     (conv=>whnf);refine And.intro (by decide) ?_
     (conv=>whnf);refine b8 (fE hy) ?_
     have em2:IntKind.i64.wrap (x.cnt+y.cnt)=x.cnt+y.cnt:=aW _ (by omega) (by omega)
     have hN:nE a b=(pre++[⟨x.row,IntKind.i64.wrap (x.cnt+y.cnt)⟩])++nE (a'.drop 1) (b'.drop 1):=by
      rw[hM,em2,YO hxd hyd (by omega),List.append_assoc];rfl
     have hlN:pre.length+1+(a'.drop 1).length+(b'.drop 1).length≤a.length+b.length:=by simp[List.length_drop];omega
     have hmN:(a'.drop 1).length+(b'.drop 1).length<m:=by simp[List.length_drop];omega
     have hAN:∀e∈(a'.drop 1),mK B e:=fun e h=>hA' e (by first|exact h|exact List.mem_of_mem_drop h)
     have hBN:∀e∈(b'.drop 1),mK B e:=fun e h=>hB' e (by first|exact h|exact List.mem_of_mem_drop h)
     have hFl:(eC pre++[jN ⟨x.row,IntKind.i64.wrap (x.cnt+y.cnt)⟩]).length=(pre++[(⟨x.row,IntKind.i64.wrap (x.cnt+y.cnt)⟩:cW)]).length:=by simp[aR]
     (conv=>whnf);refine b4 (by rw[aR];exact Nat.beq_refl _) ?_
     (conv=>whnf);refine And.intro ⟨cN (by simp;omega) (by omega),bK (by simp;omega),rfl,by rw[aR]⟩ ?_
     (conv=>whnf);refine And.intro ⟨by omega,by rw[aR];omega⟩ ?_
     (conv=>whnf);refine And.intro ⟨by omega,by rw[aR];omega⟩ ?_
     conv=>whnf
     refine⟨(a'.drop 1).length+(b'.drop 1).length,hmN,Gp.one 0 2 (eC (pre++[⟨x.row,IntKind.i64.wrap (x.cnt+y.cnt)⟩])) (by rw[l5];rfl) (gP _) rfl ?_ fun ρ1 h=>⟨a'.drop 1,b'.drop 1,pre++[⟨x.row,IntKind.i64.wrap (x.cnt+y.cnt)⟩],(f1&&(none:Option bA).isNone),(f2&&(none:Option bA).isNone),rfl,hN,by simpa using hlN,hAN,hBN,rfl,h⟩⟩
     exact⟨P9 (EZ a'),P9 (EZ b'),kI (k:=0) rfl rfl hFl hFl,trivial⟩
  ·replace hw:decide (((eC b').length:Int)>0)=false:=hw
   rw[aR]at hw
   have hwn:b'=[]:=by simp at hw;exact hw
   have hwl:b'.length=0:=by rw[hwn];rfl
   (conv=>whnf);refine And.intro (by decide) ?_
   (conv=>whnf);refine b8 (fE hx) ?_
   have hN:nE a b=(pre++[⟨x.row,x.cnt⟩])++nE (a'.drop 1) (b'):=by
    rw[hM,XB hxd (.inl hwn),List.append_assoc];rfl
   have hlN:pre.length+1+(a'.drop 1).length+(b').length≤a.length+b.length:=by simp[List.length_drop];omega
   have hmN:(a'.drop 1).length+(b').length<m:=by simp[List.length_drop];omega
   have hAN:∀e∈(a'.drop 1),mK B e:=fun e h=>hA' e (by first|exact h|exact List.mem_of_mem_drop h)
   have hBN:∀e∈(b'),mK B e:=fun e h=>hB' e (by first|exact h|exact List.mem_of_mem_drop h)
   have hFl:(eC pre++[jN ⟨x.row,x.cnt⟩]).length=(pre++[(⟨x.row,x.cnt⟩:cW)]).length:=by simp[aR]
   (conv=>whnf);refine b4 (by rw[aR];exact Nat.beq_refl _) ?_
   (conv=>whnf);refine And.intro ⟨cN (by simp;omega) (by omega),bK (by simp;omega),rfl,by rw[aR]⟩ ?_
   (conv=>whnf);refine And.intro ⟨by omega,by rw[aR];omega⟩ ?_
   (conv=>whnf);refine And.intro (by(conv=>whnf);exact⟨⟨by omega,by rw[aR];omega⟩,rfl⟩) ?_
   conv=>whnf
   refine⟨(a'.drop 1).length+(b').length,hmN,Gp.one 0 2 (eC (pre++[⟨x.row,x.cnt⟩])) (by rw[l5];rfl) (gP _) rfl ?_ fun ρ1 h=>⟨a'.drop 1,b',pre++[⟨x.row,x.cnt⟩],(f1&&(none:Option bA).isNone),f2,rfl,hN,by simpa using hlN,hAN,hBN,rfl,h⟩⟩
   exact⟨P9 (EZ a'),.closed _ rfl,kI (k:=0) rfl rfl hFl hFl,trivial⟩
 ·replace hz:decide (((eC a').length:Int)>0)=false:=hz
  rw[aR]at hz
  have hzn:a'=[]:=by simp at hz;exact hz
  have hzl:a'.length=0:=by rw[hzn];rfl
  (conv=>whnf);refine aE (fun hw=>?_) (fun hw=>?_)
  ·replace hw:decide (((eC b').length:Int)>0)=true:=hw
   rw[aR]at hw
   have hwl:b'.length≠0:=by simp at hw;omega
   obtain⟨y,hy,hyd,hym⟩:=aY (l:=b') (k:=0) (by omega)
   obtain⟨ky1,ky2,ky3⟩:=hB' y hym
   rw[List.drop_zero]at hyd
   (conv=>whnf);refine b4 (by rw[aR];simpa using hzl) ?_
   (conv=>whnf);refine And.intro (by decide) ?_
   (conv=>whnf);refine b8 (fE hy) ?_
   have hN:nE a b=(pre++[⟨y.row,y.cnt⟩])++nE (a') (b'.drop 1):=by
    rw[hM,XC hyd (.inl hzn),List.append_assoc];rfl
   have hlN:pre.length+1+(a').length+(b'.drop 1).length≤a.length+b.length:=by simp[List.length_drop];omega
   have hmN:(a').length+(b'.drop 1).length<m:=by simp[List.length_drop];omega
   have hAN:∀e∈(a'),mK B e:=fun e h=>hA' e (by first|exact h|exact List.mem_of_mem_drop h)
   have hBN:∀e∈(b'.drop 1),mK B e:=fun e h=>hB' e (by first|exact h|exact List.mem_of_mem_drop h)
   have hFl:(eC pre++[jN ⟨y.row,y.cnt⟩]).length=(pre++[(⟨y.row,y.cnt⟩:cW)]).length:=by simp[aR]
   (conv=>whnf);refine b4 (by rw[aR];exact Nat.beq_refl _) ?_
   (conv=>whnf);refine And.intro ⟨cN (by simp;omega) (by omega),bK (by simp;omega),rfl,by rw[aR]⟩ ?_
   (conv=>whnf);refine And.intro ⟨by omega,by rw[aR];omega⟩ ?_
   (conv=>whnf);refine And.intro (by(conv=>whnf);exact⟨⟨by omega,by rw[aR];omega⟩,rfl⟩) ?_
   conv=>whnf
   refine⟨(a').length+(b'.drop 1).length,hmN,Gp.one 0 2 (eC (pre++[⟨y.row,y.cnt⟩])) (by rw[l5];rfl) (gP _) rfl ?_ fun ρ1 h=>⟨a',b'.drop 1,pre++[⟨y.row,y.cnt⟩],f1,(f2&&(none:Option bA).isNone),rfl,hN,by simpa using hlN,hAN,hBN,rfl,h⟩⟩
   exact⟨.closed _ rfl,P9 (EZ b'),kI (k:=0) rfl rfl hFl hFl,trivial⟩
  ·replace hw:decide (((eC b').length:Int)>0)=false:=hw
   rw[aR]at hw
   have hwn:b'=[]:=by simp at hw;exact hw
   have hMM:nE a b=pre:=by rw[hM,hzn,hwn,kG];simp
   conv=>whnf
   rw[hMM]
   exact⟨rfl,rfl⟩
theorem xU{B:Int}(hB0:B≤4000000000000)(e1 e2:Bool)(a b:List cW)(ha:a.length≤100000)(hb:b.length≤100000)(hA:∀e∈a,mK B e)(hB:∀e∈b,mK B e)(H:List aB):
  a7 pr 248 [.list e1 2 (eC a),.list e2 2 (eC b)] H (fun r H'=>r=.list false 2 (eC (nE a b))∧H'=H) :=
 a7.frz1 (by simp[a6.closed,a6.isPure]) (zQ hB0 e1 e2 a b ha hb hA hB) (aR _).symm (gP _)
theorem A8{A B:Int}(hA0:0≤A)(hB0:0≤B):∀(a b:List cW),(∀e∈a,mK A e)→(∀e∈b,mK B e)→∀e∈nE a b,mK (A+B) e
 |[],b,ha,hb,e,he=>by
  rw[kG]at he
  obtain⟨h1,h2,h3⟩:=hb e he
  exact⟨h1,by omega,by omega⟩
 |x::a,[],ha,hb,e,he=>by
  rw[oZ]at he
  obtain⟨h1,h2,h3⟩:=ha e he
  exact⟨h1,by omega,by omega⟩
 |x::a,y::b,ha,hb,e,he=>by
  obtain⟨h1,h2,h3⟩:=ha x (List.mem_cons_self ..)
  obtain⟨k1,k2,k3⟩:=hb y (List.mem_cons_self ..)
  have ha':∀e∈a,mK A e:=fun e h=>ha e (List.mem_cons_of_mem _ h)
  have hb':∀e∈b,mK B e:=fun e h=>hb e (List.mem_cons_of_mem _ h)
  rw[lQ]at he
  split at he
  ·rcases List.mem_cons.1 he with rfl|he
   ·exact⟨h1,by omega,by omega⟩
   ·exact A8 hA0 hB0 a (y::b) ha' hb e he
  split at he
  ·rcases List.mem_cons.1 he with rfl|he
   ·exact⟨k1,by omega,by omega⟩
   ·exact A8 hA0 hB0 (x::a) b ha hb' e he
  ·rcases List.mem_cons.1 he with rfl|he
   ·exact⟨h1,by simp only[];omega,by simp only[];omega⟩
   ·exact A8 hA0 hB0 a b ha' hb' e he
termination_by a b=>a.length+b.length
theorem oU{A B:Int}(h:A≤B){e:cW}(he:mK A e):mK B e:=⟨he.1,by have:=he.2.1;omega,by have:=he.2.2;omega⟩
theorem sH:∀(n:Nat) (l:List cW),(∀e∈l,HL e)→∀e∈nC n l,mK (65536*(l.length:Int)) e
 |0,l,h,e,he=>by
  rw[nC]at he
  have:=List.length_pos_of_mem he
  exact oU (A:=65536) (by omega) (h e he)
 |n+1,l,h,e,he=>by
  rw[nC]at he
  split at he
  ·have:=List.length_pos_of_mem he
   exact oU (A:=65536) (by omega) (h e he)
  ·refine oU ?_ (A8 (by omega) (by omega) _ _ (sH n _ fun e h1=>h e (List.mem_of_mem_take h1)) (sH n _ fun e h1=>h e (List.mem_of_mem_drop h1)) e he)
   rw[List.length_take,List.length_drop];omega
theorem lY:∀(n:Nat) (l:List cW),(nC n l).length≤l.length
 |0,l=>Nat.le_refl _
 |n+1,l=>by
  rw[nC]
  split
  ·exact Nat.le_refl _
  ·have h:=qC (nC n (l.take (l.length / 2))) (nC n (l.drop (l.length / 2)))
   have h1:=lY n (l.take (l.length / 2))
   have h2:=lY n (l.drop (l.length / 2))
   rw[List.length_take]at h1
   rw[List.length_drop]at h2
   omega
set_option maxRecDepth 20000 in
theorem xW:∀(n:Nat) (ex:Bool) (l:List cW),l.length≤n→l.length≤100000→(∀e∈l,HL e)→∀(H:List aB),
  a7 pr 200 [.list ex 2 (eC l)] H (fun r H'=>r=.list false 2 (eC (nC n l))∧H'=H):=by
 intro n
 induction n with
 |zero =>
  intro ex l hl _ hE H
  have:l=[]:=List.length_eq_zero_iff.1 (by omega)
  subst this
  refine a7.pure rfl (aA k200.has ?_)
  (conv=>whnf);refine And.intro (by decide) ?_
  conv=>whnf
  exact qH rfl rfl rfl rfl
 |succ n ih =>
  intro ex l hl hl2 hE H
  refine a7.pure (by simp[a6.closed,a6.isPure]) (aA k200.has ?_)
  (conv=>whnf);refine aE (fun h=>?_) (fun h=>?_)
  ·simp[aR]at h
   (conv=>whnf);refine And.intro (⟨cN (by simp[aR];omega) (by omega),bK (by simp[aR];omega)⟩) ?_
   conv=>whnf
   rw[nC,if_pos (by omega)]
   exact qH rfl rfl rfl (gP _)
  ·simp[aR]at h
   have ew:IntKind.i64.wrap (((eC l).length:Int).tdiv 2)=((l.length / 2:Nat):Int):=by
    rw[aR,Int.tdiv_eq_ediv_of_nonneg (by omega),aW _ (by omega) (by omega)];omega
   have es1:List.drop 0 (List.take (IntKind.i64.wrap (((eC l).length:Int).tdiv 2)).toNat (eC l))=eC (l.take (l.length / 2)):=by rw[ew,Int.toNat_natCast,List.drop_zero,eC,eC,List.map_take]
   have es2:List.drop (IntKind.i64.wrap (((eC l).length:Int).tdiv 2)).toNat (List.take (eC l).length (eC l))=eC (l.drop (l.length / 2)):=by rw[ew,Int.toNat_natCast,List.take_length,eC,eC,List.map_drop]
   (conv=>whnf);refine And.intro (by decide) ?_
   (conv=>whnf);refine And.intro (⟨by rw[ew];omega,by rw[ew,aR];omega⟩) ?_
   conv=>whnf
   rw[es1]
   (conv=>whnf);refine⟨_,ih _ (l.take (l.length / 2)) (by rw[List.length_take];omega) (by rw[List.length_take];omega) (fun e h=>hE e (List.mem_of_mem_take h)) _,?_⟩
   (conv=>whnf);refine And.intro (by decide) ?_
   (conv=>whnf);refine And.intro (⟨by rw[ew];omega,by rw[ew,aR];omega⟩) ?_
   conv=>whnf
   rw[es2]
   (conv=>whnf);refine⟨_,ih _ (l.drop (l.length / 2)) (by rw[List.length_drop];omega) (by rw[List.length_drop];omega) (fun e h=>hE e (List.mem_of_mem_drop h)) _,?_⟩
   have b1:=sH n (l.take (l.length / 2)) fun e h=>hE e (List.mem_of_mem_take h)
   have b2:=sH n (l.drop (l.length / 2)) fun e h=>hE e (List.mem_of_mem_drop h)
   have c1:=lY n (l.take (l.length / 2))
   have c2:=lY n (l.drop (l.length / 2))
   rw[List.length_take]at b1 c1
   rw[List.length_drop]at b2 c2
   (conv=>whnf);refine⟨_,xU (B:=65536*100000) (by decide) false false _ _ (by omega) (by omega) (fun e h=>oU (by omega) (b1 e h)) (fun e h=>oU (by omega) (b2 e h)) _,?_⟩
   conv=>whnf
   rw[nC,if_neg (by omega)]
   exact .closed _ (by simp[a6.closed,a6.isPure])
set_option maxRecDepth 20000 in
theorem DK(ex:Bool)(l:List cW)(hl:l.length≤100000)(hE:∀e∈l,HL e)(H:List aB):
  a7 pr 152 [.list ex 2 (eC l)] H (fun r H'=>r=zS (nC l.length l)∧H'=H):=by
 refine a7.pure (by simp[a6.closed,a6.isPure]) (aA k152.has ?_)
 (conv=>whnf);refine a7.use (xW l.length ex l (Nat.le_refl _) hl hE _) ?_
 have hb:=sH l.length l hE
 have hc:=lY l.length l
 (conv=>whnf);refine a7.use (xV false (nC l.length l) (by omega) (fun e h=>by have:=(hb e h).1;omega) _) ?_
 rcases CJ (nC l.length l)with h|h
 all_goals
  rw[h]
  conv=>whnf
  exact dP (.closed _ rfl) (.closed _ rfl)
def BJ:List cW→Int
 |[]=>0
 |e::l=>if iF e≠0 then iF e else BJ l
def RR(l:List cW):a6:=if BJ l≠0 then .tuple [.nil,.int .i64 (BJ l)]else zS (nC l.length l)
theorem FU:∀(l:List cW),BJ l=0→∀e∈l,iF e=0
 |[],_,e,he=>by cases he
 |x::l,h,e,he=>by
  rw[BJ]at h
  by_cases hx:iF x=0
  ·rw[if_neg (by simp[hx])]at h
   rcases List.mem_cons.1 he with rfl|he
   ·exact hx
   ·exact FU l h e he
  ·rw[if_pos hx]at h;exact absurd h hx
theorem VQ{e:cW}(h:iF e=0):HL e:=by
 obtain⟨h1,h2,h3,_⟩:=oW e h
 exact⟨h1,h2,h3⟩
set_option maxRecDepth 20000 in
theorem tL(ex:Bool)(l:List cW)(hl:l.length≤100000)(H:List aB):
  a7 pr 99 [.list ex 2 (eC l)] H (fun r H'=>r=RR l∧H'=H):=by
 refine a7.pure (by simp[a6.closed,a6.isPure]) (aA k99.has ?_)
 conv=>whnf
 refine⟨fun m ρ H1=>∃k:Nat,k+m=l.length∧BJ l=BJ (l.drop k)∧H1=[]∧Sv 24 [(0,.list ex 2 (eC l)),(4,.int .i64 k)] ρ,l.length,[],?_,?_⟩
 ·exact⟨0,by omega,rfl,rfl,Sv.intro rfl ⟨rfl,rfl,trivial⟩⟩
 rintro m ρ H1 ⟨k,hk,hr,rfl,d,rfl⟩
 (conv=>whnf);refine aE (fun hlt=>?_) (fun hlt=>?_)
 ·simp[aR]at hlt
  have hx:l[k]?=some l[k]:=List.getElem?_eq_getElem hlt
  rw[List.drop_eq_getElem_cons hlt,BJ]at hr
  (conv=>whnf);refine And.intro (by omega) ?_
  (conv=>whnf);refine b8 (fE hx) ?_
  (conv=>whnf);refine a7.use (E7 l[k] _) ?_
  (conv=>whnf);refine aE (fun h1=>?_) (fun h1=>?_)
  ·replace h1:(!(iF l[k]==0))=true:=h1
   have h2:iF l[k]≠0:=by simpa using h1
   rw[if_pos h2]at hr
   conv=>whnf
   rw[RR,hr,if_pos h2]
   exact dP (.closed _ rfl) (.closed _ rfl)
  ·replace h1:(!(iF l[k]==0))=false:=h1
   have h2:iF l[k]=0:=by simpa using h1
   rw[if_neg (by simp[h2])]at hr
   conv=>whnf
   refine⟨m-1,by omega,Gp.keep rfl ?_ fun ρ1 h=>⟨k+1,by omega,hr,rfl,h⟩⟩
   exact⟨rfl,aN (aW _ (by omega) (by omega)),trivial⟩
 ·simp[aR]at hlt
  rw[List.drop_of_length_le (by omega),BJ]at hr
  (conv=>whnf);refine a7.use (DK ex l hl (fun e h=>VQ (FU l hr e h)) _) ?_
  rw[RR,if_neg (by simp[hr])]
  rcases CJ (nC l.length l)with h|h
  all_goals
   rw[h]
   conv=>whnf
   exact dP (.closed _ rfl) (.closed _ rfl)
def GU(b:List cW):Bool:=(gI b==0)&&b.all GA
def TZ(e:cW):Bool:=decide (e.cnt<0)
theorem uI(e:cW)(H:List aB):
  a7 pr 169 [.agg (jN e)] H (fun r H'=>r=.bool (TZ e)∧H'=H):=by
 refine a7.pure (by simp[a6.closed,jN,a6.isPure]) (aA k169.has ?_)
 conv=>whnf
 exact .closed _ rfl
theorem AL(g:FuncId)(p:cW→Bool)(hg:∀c H,a7 pr g [.agg (jN c)] H (fun r H'=>r=.bool (p c)∧H'=H))(ex:Bool)(l:List cW)(hl:l.length≤1000000)(H:List aB):
  a7 pr 168 [.list ex 2 (eC l),.fn g []] H (fun r H'=>r=.bool (l.any p)∧H'=H):=by
 refine a7.pure (by simp[a6.closed,a6.isPure]) (aA k168.has ?_)
 (conv=>whnf);refine a7.use (zE g [] p _ l (fun c _=>hg c _) ex hl) ?_
 conv=>whnf
 refine iB ?_
 have h:=t7 p l 0 (by omega)
 rw[Bool.eq_iff_iff,←h];simp
theorem U0{b:List cW}(h:gI b=0):(!(b.any TZ))=b.all GA:=by
 have hn:=fun e he=>(((vJ b).1 h).2.1 e he).2
 rw[Bool.eq_iff_iff]
 simp only[Bool.not_eq_true',List.any_eq_false,List.all_eq_true,TZ,GA,decide_eq_true_eq]
 constructor
 ·intro h1 e he
  have:=h1 e he
  have:=hn e he
  omega
 ·intro h1 e he
  have:=h1 e he
  omega
set_option maxRecDepth 20000 in
theorem x5(ex:Bool)(b:List cW)(H:List aB):
  a7 pr 119 [.list ex 2 (eC b)] H (fun r H'=>r=.bool (GU b)∧H'=H):=by
 refine a7.pure (by simp[a6.closed,a6.isPure]) (aA k119.has ?_)
 (conv=>whnf);refine a7.use (nJ ex b _) ?_
 (conv=>whnf);refine aE (fun h=>?_) (fun h=>?_)
 ·replace h:(gI b==0)=true:=h
  have h1:gI b=0:=by simpa using h
  (conv=>whnf);refine a7.use (AL 169 TZ (fun c H=>uI c H) ex b (N9 h1) _) ?_
  conv=>whnf
  exact iB (by rw[U0 h1,GU,h,Bool.true_and])
 ·replace h:(gI b==0)=false:=h
  conv=>whnf
  exact iB (by rw[GU,h,Bool.false_and])
set_option maxRecDepth 20000 in
theorem w8(ex:Bool)(b:List cW)(H:List aB):
  a7 pr 73 [.list ex 2 (eC b)] H (fun r H'=>r=.bool (GU b)∧H'=H):=by
 refine a7.pure (by simp[a6.closed,a6.isPure]) (aA k73.has ?_)
 (conv=>whnf);refine a7.use (n9 ex b _) ?_
 (conv=>whnf);refine aE (fun h=>?_) (fun h=>?_)
 ·replace h:(gI b==0)=true:=h
  have h1:gI b=0:=by simpa using h
  (conv=>whnf);refine a7.use (uW ex b (N9 h1) _) ?_
  conv=>whnf
  exact iB (by rw[GU,h,Bool.true_and])
 ·replace h:(gI b==0)=false:=h
  conv=>whnf
  exact iB (by rw[GU,h,Bool.false_and])
def ES(e:cW):Prop:=e.row.length≤12∧e.row.all c7=true
def SE(l:List cW):List cW×Int:=if(l.all fun e=>kN e.cnt)=true∧(l.filter v8).length≤4096 then(l.filter v8,0)else([],2)
def tR(p:List cW×Int):a6:=if p.2≠0 then .tuple [.nil,.int .i64 p.2]else .tuple [.list false 2 (eC p.1),.int .i64 0]
def rV(p:List cW×Int):a6:=.tuple [.list false 2 (eC p.1),.int .i64 p.2]
theorem WB(l:List cW):zS l=tR (SE l):=by
 rw[zS,SE]
 split<;>rfl
theorem XQ{p:List cW×Int}(h:p.2≠0→p.1=[]):gG (tR p) (rV p):=by
 unfold tR rV
 split
 ·rename_i h1
  rw[h h1]
  exact .tuples (.cons (.nil false 2) (.cons (.refl _) ⟨rfl,fun i a b h=>by simp at h⟩))
 ·rename_i h1
  have:p.2=0:=Classical.byContradiction fun h=>h1 h
  rw[this]
  exact .refl _
def QF(p:List cW×Int):Prop:=gI p.1=0∧(p.2≠0→p.1=[])
theorem IzO(n:Int):QF ([],n):=⟨rfl,fun _=>rfl⟩
theorem PG{l:List cW}(hs:QO l)(hf:∀e∈l,ES e):QF (SE l):=by
 unfold SE
 split
 ·rename_i h
  refine⟨(vJ _).2 ⟨h.2,fun e he=>?_,N1 _ hs⟩,fun h=>absurd rfl h⟩
  obtain⟨h1,h2⟩:=List.mem_filter.1 he
  exact⟨(BD e).2 ⟨(hf e h1).1,List.all_eq_true.1 h.1 e h1,(hf e h1).2⟩,by simpa[v8]using h2⟩
 ·exact IzO 2
theorem BV:∀(n:Nat) (l:List cW) (e:cW),e∈nC n l→∃x∈l,x.row=e.row
 |0,l,e,h=>⟨e,h,rfl⟩
 |n+1,l,e,h=>by
  rw[nC]at h
  split at h
  ·exact⟨e,h,rfl⟩
  ·rcases pY _ _ e h with⟨x,hx,hr⟩|⟨x,hx,hr⟩
   ·obtain⟨y,hy,hyr⟩:=BV n _ x hx
    exact⟨y,List.mem_of_mem_take hy,hyr.trans hr⟩
   ·obtain⟨y,hy,hyr⟩:=BV n _ x hx
    exact⟨y,List.mem_of_mem_drop hy,hyr.trans hr⟩
theorem SI{x e:cW}(h:ES x)(hr:x.row=e.row):ES e:=by rw[ES,←hr];exact h
def XP(l:List cW):List cW×Int:=SE (nC l.length l)
theorem PX{l:List cW}(hf:∀e∈l,ES e):QF (XP l) :=
 PG (D3 _ _ (by omega)) fun e he=>by
  obtain⟨x,hx,hr⟩:=BV _ _ e he
  exact SI (hf x hx) hr
def P3(l:List cW):List cW×Int:=if BJ l≠0 then([],BJ l)else XP l
theorem W4(l:List cW):RR l=tR (P3 l):=by
 rw[RR,P3]
 split
 ·rename_i h;rw[tR,if_pos h]
 ·exact WB _
theorem OP{e:cW}(h:iF e=0):ES e:=by
 have:=(BD e).1 h
 exact⟨this.1,this.2.2⟩
theorem EG(l:List cW):QF (P3 l):=by
 unfold P3
 split
 ·exact IzO _
 ·rename_i h
  exact PX fun e he=>OP (FU l (Classical.byContradiction fun hn=>h hn) e he)
theorem a7.goodW{P:Program}{f:FuncId}{args:List a6}{H:List aB}{R:a6}{p:List cW×Int}(h:a7 P f args H (fun r H'=>r=R∧H'=H))(hR:R=tR p)(hp:QF p):a7 P f args H (fun r H'=>r=rV p∧H'=H) :=
 a7.weakRD h (by rintro r H' ⟨rfl,rfl⟩;exact⟨_,by rw[hR];exact XQ hp.2,rfl,rfl⟩)
section
variable {P:Program}
theorem xT(ex:Bool)(l:List cW)(hl:l.length≤100000)(H:List aB):
  a7 pr 99 [.list ex 2 (eC l)] H (fun r H'=>r=rV (P3 l)∧H'=H):=(tL ex l hl H).goodW (W4 l) (EG l)
end
theorem ZO{a b c e:Int}(ha:0≤a∧a≤255)(hb:0≤b∧b≤255)(hc:0≤c∧c≤255)(he:0≤e∧e≤255):
  G8 (G8 (G8 (IntKind.i64.wrap (IntKind.i64.wrap a*2 ^ 24)) (IntKind.i64.wrap (IntKind.i64.wrap b*2 ^ 16))) (IntKind.i64.wrap (IntKind.i64.wrap c*2 ^ 8))) (IntKind.i64.wrap e)=num [a,b,c,e]:=by
 have w:∀x:Int,0≤x→x≤4294967296→IntKind.i64.wrap x=x:=fun x h1 h2=>aW x (by omega) (by omega)
 rw[w a (by omega) (by omega),w b (by omega) (by omega),w c (by omega) (by omega),w e (by omega) (by omega),w (a*2 ^ 24) (by omega) (by omega),w (b*2 ^ 16) (by omega) (by omega),w (c*2 ^ 8) (by omega) (by omega)]
 rw[lT a (b*2 ^ 16) 24 (by omega) (by omega) (by omega) (by omega)]
 rw[show a*2 ^ 24+b*2 ^ 16=(a*256+b)*2 ^ 16 by omega,lT (a*256+b) (c*2 ^ 8) 16 (by omega) (by omega) (by omega) (by omega)]
 rw[show(a*256+b)*2 ^ 16+c*2 ^ 8=((a*256+b)*256+c)*2 ^ 8 by omega,lT ((a*256+b)*256+c) e 8 (by omega) (by omega) (by omega) (by omega)]
 simp only[num,List.foldl]
 omega
theorem YG{l:List Int}(h:4≤l.length):∃a b c e t,l=a::b::c::e::t:=by
 match l,h with
 |a::b::c::e::t,_=>exact⟨a,b,c,e,t,rfl⟩
set_option maxRecDepth 20000 in
theorem G0(ex:Bool)(l:List Int)(hl:4≤l.length)(hby:fI l)(H:List aB):
  a7 pr 159 [.list ex 1 (bC l)] H (fun r H'=>r=.int .i64 (num (l.take 4))∧H'=H):=by
 obtain⟨a,b,c,e,t,rfl⟩:=YG hl
 have ha:=hby a (by simp)
 have hb:=hby b (by simp)
 have hc:=hby c (by simp)
 have he:=hby e (by simp)
 refine a7.pure rfl (aA k159.has ?_)
 (conv=>whnf);refine And.intro (by decide) ?_
 (conv=>whnf);refine And.intro (by decide) ?_
 (conv=>whnf);refine And.intro (by decide) ?_
 (conv=>whnf);refine And.intro (by decide) ?_
 (conv=>whnf);refine And.intro (by decide) ?_
 (conv=>whnf);refine And.intro (by decide) ?_
 (conv=>whnf);refine And.intro (by decide) ?_
 conv=>whnf
 exact cZ (ZO ha hb hc he)
def n7(p:List Int):List Int:=j2 4 p.length++p
set_option maxRecDepth 20000 in
theorem OX(n:Int):
  a7 pr 155 [.nil,.int .u32 n] [] (fun r H'=>r=.sl 0 4 0 4∧H'=[.arr 1 (bC (j2 4 n))]):=by
 refine aA k155.has ?_
 (conv=>whnf);refine And.intro (by decide) ?_
 (conv=>whnf);refine And.intro (by decide) ?_
 (conv=>whnf);refine And.intro (by decide) ?_
 (conv=>whnf);refine And.intro (⟨fG (by simp),bK (by simp)⟩) ?_
 conv=>whnf
 rw[←XT]
 exact⟨rfl,rfl⟩
theorem PY{n:Nat}(h:n<4294967296):IntKind.u32.wrap (n:Int)=n:=by rw[wM];omega
set_option maxRecDepth 20000 in
theorem OY(ex:Bool)(p:List Int)(hl:p.length≤10000000)(H:List aB):
  a7 pr 156 [.list ex 1 (bC p)] H (fun r H'=>r=.int .u32 (RB (n7 p))∧H'=H):=by
 have e1:IntKind.u32.wrap ((bC p).length:Int)=p.length:=by rw[aD];exact PY (by omega)
 refine a7.pure rfl (aA k156.has ?_)
 conv=>whnf
 rw[e1]
 (conv=>whnf);refine a7.mono (OX p.length) ?_
 rintro r H1 ⟨rfl,rfl⟩
 (conv=>whnf);refine And.intro (⟨fG (by simp[aD,bX];omega),bK (by simp[aD,bX];omega),rfl,rfl⟩) ?_
 conv=>whnf
 have hl3:(bC (j2 4 (p.length:Int))++bC p).length=(bC (n7 p)).length:=by rw[n7,c9]
 have key:=a7.bor (H:=[.arr 1 (bC (n7 p))]) (R:=.int .u32 (RB (n7 p))) rfl ((DA false (n7 p) (by rw[n7,List.length_append,bX];omega) []).mono fun _ _ h=>h.1) (.cons (VV (id:=0) (ep:=(bC (j2 4 (p.length:Int))++bC p).length) (len:=(bC (j2 4 (p.length:Int))++bC p).length) rfl hl3 hl3 (dQ _)) .nil)
 rw[n7,c9]at key
 refine a7.use key ?_
 conv=>whnf
 exact .closed _ rfl
set_option maxRecDepth 20000 in
theorem L7(ex:Bool)(l:List Int)(hl:l.length≤90000000):
  a7 pr 63 [.list ex 1 (bC l)] [] (fun r H'=>(r=.nil∧l=[]∧H'=[])∨(r=.sl 0 l.length 0 l.length∧H'=[.arr 1 (bC l)])):=by
 refine aA k63.has ?_
 conv=>whnf
 refine And.intro (fun h=>?_) ?_
 ·conv=>whnf
  exact .inl ⟨rfl,by simpa[bC]using h,rfl⟩
 ·(conv=>whnf);refine And.intro (⟨fG (by simp[aD];omega),bK (by simp[aD];omega),.inr rfl⟩) ?_
  conv=>whnf
  exact .inr ⟨eQ (aD l) (aD l),rfl⟩
end Go.AW
namespace Go.AW
variable [dK]
def eV(W:World)(v:Value)(l:List Int):Prop :=
 (l=[]∧∃a cap,v=.slice a 0 cap)∨(l≠[]∧∃b off cap,v=.slice (some ⟨b,off,none⟩) l.length cap∧l.length≤cap∧b<W.heap.size∧∀i x,l[i]?=some x→W.cell? ⟨b,off+i,none⟩=some (.int .u8 x))
theorem eV.rd{W:World}{v:Value}{l:List Int}(h:eV W v l):∃C:Nat→Nat,Rd C W (.list false 1 (bC l)) v∧(∀b,0<C b→b<W.heap.size)∧(∀b,0<C b→v.ownBlock=some b):=by
 rcases h with⟨rfl,a,cap,rfl⟩|⟨h0,b,off,cap,rfl,hcap,hb,hc⟩
 ·exact⟨fun _=>0,.list0 _ _ _ _ (by simp),fun b h=>absurd h (by simp),fun b h=>absurd h (by simp)⟩
 ·refine⟨fun x=>if x=b then off+l.length else 0,?_,fun x hx=>?_,fun x hx=>?_⟩
  ·have hl:=aD l
   have:=Rd.list (C:=fun x=>if x=b then off+l.length else 0) (w:=W) false 1 (bC l) b off cap (fun i _=>.int .u8 (l.getD i 0)) (by simp) (by rw[hl];exact hcap) (fun e he=>by
     rw[bC]at he
     obtain⟨x,_,rfl⟩:=List.mem_map.1 he
     rfl) (by rw[hl,Nat.mul_one];simp) (fun i j hi hj=>by
     obtain rfl:j=0:=by omega
     rw[hl]at hi
     rw[Nat.mul_one,Nat.add_zero,hc i l[i] (List.getElem?_eq_getElem hi),List.getD_eq_getElem?_getD,List.getElem?_eq_getElem hi];rfl) (fun i j e d he hd=>by
     rw[bC,List.getElem?_map]at he
     obtain⟨x,_,rfl⟩:=Option.map_eq_some_iff.1 he
     rcases j with _|j
     ·cases hd;rfl
     ·simp at hd) (fun i j e d he hd=>by
     rw[bC,List.getElem?_map]at he
     obtain⟨x,hx,rfl⟩:=Option.map_eq_some_iff.1 he
     rcases j with _|j
     ·cases hd
      rw[List.getD_eq_getElem?_getD,hx]
      exact .int _ _
     ·simp at hd)
   rwa [hl]at this
  ·by_cases hx2:x=b
   ·rw[hx2];exact hb
   ·simp[hx2]at hx
  ·by_cases hx2:x=b
   ·rw[hx2];rfl
   ·simp[hx2]at hx
theorem eV.of_rd{C:Nat→Nat}{W:World}{x:Bool}{v:Value}{l:List Int}(h:Rd C W (.list x 1 (bC l)) v)(hC:∀b,0<C b→b<W.heap.size):eV W v l∧(l≠[]→∃b,v.ownBlock=some b∧0<C b):=by
 generalize he:bC l=es at h
 cases h with
 |list0 _ _ a cap hx =>
  have:l=[]:=by simpa[bC]using he
  subst this
  exact⟨.inl ⟨rfl,a,cap,rfl⟩,fun h=>absurd rfl h⟩
 |list _ _ es b off cap vs hx hcap hsz hC2 hcell hp hrd =>
  subst he
  have hl:=aD l
  rw[hl]at hcap hC2 ⊢
  by_cases h0:l=[]
  ·subst h0
   exact⟨.inl ⟨rfl,_,_,rfl⟩,fun h=>absurd rfl h⟩
  ·have hpos:=List.length_pos_iff.2 h0
   have hb:0<C b:=by omega
   refine⟨.inr ⟨h0,b,off,cap,rfl,hcap,hC b hb,fun i y hy=>?_⟩,fun _=>⟨b,rfl,hb⟩⟩
   have hi:=(List.getElem?_eq_some_iff.1 hy).1
   have h1:=hcell i 0 (by omega) (by omega)
   have h2:=hrd i 0 [.int .u8 y] (.int .u8 y) (by rw[bC,List.getElem?_map,hy];rfl) rfl
   rw[Nat.mul_one,Nat.add_zero]at h1
   generalize vs i 0=z at h1 h2
   cases h2
   exact h1
theorem ZI{C:Nat→Nat}{W:World}(h:∀b,0<C b→b<W.heap.size):WF C (fun _=>none) [] W :=
 ⟨fun id o h=>by simp at h,fun id o h=>by simp at h,fun id o l h=>by simp at h,fun id l h=>by simp at h,fun i j li lj h=>by simp at h,h⟩
theorem grown0{C C':Nat→Nat}{τ':Nat→Option Loc}{H':List aB}{W W':World}(h:St W (cX (fun _=>none) [] W) C' τ' H' W'):W.grownBy W' none :=
 ⟨h.fr.os,h.fr.tape,h.fr.output,h.fr.size,fun k hk _=>h.fr.prot k ⟨hk,by rintro⟨id,l,h,_⟩;simp at h⟩⟩
theorem a7.int1{P:Program}{f:FuncId}{l:List Int}{k:IntKind}{n:Int}(eg:∀args w,(callFunc f args).run P w=.ok (.enter f args) w)(h:a7 P f [.list false 1 (bC l)] [] (fun r _=>r=.int k n)){W:World}{v:Value}(hr:eV W v l):
  Calls P f #[v] W fun e W'=>e=.returned (.int k n)∧W.grownBy W' none:=by
 obtain⟨C,hrd,hC,_⟩:=hr.rd
 have h:=h C (fun _=>none) W #[v] (ZI hC) rfl fun i a u ha hu=>by
  rcases i with _|i
  ·cases ha;cases hu;exact .rd hrd
  ·simp at ha
 unfold eS at h
 rw[eg]at h
 refine Calls.mono h fun e w'=>?_
 rintro⟨u,r,C',τ',H',rfl,rfl,hrv,hst,_⟩
 refine⟨?_,grown0 (C:=C) hst⟩
 cases hrv with
 |rd h=>cases h;rfl
theorem eV.of_sl{C:Nat→Nat}{τ:Nat→Option Loc}{H:List aB}{W:World}{v:Value}{l:List Int}{id:Nat}(hw:WF C τ H W)(ho:H[id]?=some (.arr 1 (bC l)))(h:bW C W τ H (.sl id l.length 0 l.length) v):eV W v l:=by
 cases h with
 |rd h=>cases h
 |sl id ep off len a cap esz es ho2 hep hh =>
  rw[ho]at ho2
  cases ho2
  obtain⟨h1,h2,h3⟩:=hh (aD l).symm
  by_cases h0:l=[]
  ·subst h0;exact .inl ⟨rfl,_,_,rfl⟩
  ·have hp:=List.length_pos_iff.2 h0
   rcases h3 with⟨_,h3⟩|⟨lc,h3,h4,h5⟩
   ·omega
   ·rcases h5 with h5|rfl
    ·omega
    ·obtain⟨hle,cells,elem,fz,hb,hsz,hfz,hcs⟩:=hw.objs id _ lc ho h3
     refine .inr ⟨h0,_,_,_,rfl,h2,cQ hb,fun i x hx=>?_⟩
     obtain⟨y,hy,hy2⟩:=hcs i 0 [.int .u8 x] (.int .u8 x) (by rw[bC,List.getElem?_map,hx];rfl) rfl
     have hyx:y=.int .u8 x:=by
      cases hy2 with
      |rd h=>cases h;rfl
     subst hyx
     rw[Nat.mul_one,Nat.add_zero]at hy
     rw[Nat.mul_one,Nat.zero_add]
     simp only[World.cell?,hb]
     exact hy
theorem eV.of_slPart{C:Nat→Nat}{τ:Nat→Option Loc}{H:List aB}{W:World}{v:Value}{l:List Int}{rest:List (List a6)}{id ep:Nat}(hw:WF C τ H W)(ho:H[id]?=some (.arr 1 (bC l++rest)))(hep:ep=l.length+rest.length)(h:bW C W τ H (.sl id ep 0 l.length) v):eV W v l:=by
 cases h with
 |rd h=>cases h
 |sl id ep off len a cap esz es ho2 hep2 hh =>
  rw[ho]at ho2
  cases ho2
  obtain⟨h1,h2,h3⟩:=hh (by rw[List.length_append,aD];exact hep)
  by_cases h0:l=[]
  ·subst h0;exact .inl ⟨rfl,_,_,rfl⟩
  ·have hp:=List.length_pos_iff.2 h0
   rcases h3 with⟨_,h3⟩|⟨lc,h3,h4,h5⟩
   ·omega
   ·rcases h5 with h5|rfl
    ·omega
    ·obtain⟨hle,cells,elem,fz,hb,hsz,hfz,hcs⟩:=hw.objs id _ lc ho h3
     refine .inr ⟨h0,_,_,_,rfl,h2,cQ hb,fun i x hx=>?_⟩
     have hil:i<(bC l).length:=by rw[aD];exact(List.getElem?_eq_some_iff.1 hx).1
     obtain⟨y,hy,hy2⟩:=hcs i 0 [.int .u8 x] (.int .u8 x) (by rw[List.getElem?_append_left hil,bC,List.getElem?_map,hx];rfl) rfl
     have hyx:y=.int .u8 x:=by
      cases hy2 with
      |rd h=>cases h;rfl
     subst hyx
     rw[Nat.mul_one,Nat.add_zero]at hy
     rw[Nat.mul_one,Nat.zero_add]
     simp only[World.cell?,hb]
     exact hy
theorem a7.fresh1{P:Program}{f:FuncId}{l l':List Int}(eg:∀args w,(callFunc f args).run P w=.ok (.enter f args) w)(h:a7 P f [.list false 1 (bC l)] [] (fun r H'=>(r=.nil∧l'=[]∧H'=[])∨(r=.sl 0 l'.length 0 l'.length∧H'=[.arr 1 (bC l')]))){W:World}{v:Value}(hr:eV W v l):
  Calls P f #[v] W fun e W'=>∃a c,e=.returned (.slice a l'.length c)∧eV W' (.slice a l'.length c) l'∧W.grownBy W' none∧(l'≠[]→∀b,(Value.slice a l'.length c).ownBlock=some b→W.heap.size≤b):=by
 obtain⟨C,hrd,hC,hC2⟩:=hr.rd
 have h:=h C (fun _=>none) W #[v] (ZI hC) rfl fun i a u ha hu=>by
  rcases i with _|i
  ·cases ha;cases hu;exact .rd hrd
  ·simp at ha
 unfold eS at h
 rw[eg]at h
 refine Calls.mono h fun e w'=>?_
 rintro⟨u,r,C',τ',H',rfl,hq,hrv,hst,hstep⟩
 rcases hq with⟨rfl,rfl,rfl⟩|⟨rfl,rfl⟩
 ·cases hrv with
  |rd h =>
   cases h
   exact⟨_,_,rfl,.inl ⟨rfl,_,_,rfl⟩,grown0 (C:=C) hst,fun h=>absurd rfl h⟩
 ·cases hrv with
  |rd h=>cases h
  |sl id ep off len a cap esz es ho hep hh =>
   cases ho
   obtain⟨h1,h2,h3⟩:=hh (aD l').symm
   refine⟨a,cap,rfl,?_,grown0 (C:=C) hst,?_⟩
   ·by_cases h0:l'=[]
    ·subst h0;exact .inl ⟨rfl,_,_,rfl⟩
    ·have hp:=List.length_pos_iff.2 h0
     rcases h3 with⟨_,h3⟩|⟨lc,h3,h4,h5⟩
     ·omega
     ·rcases h5 with h5|rfl
      ·omega
      ·obtain⟨hle,cells,elem,fz,hb,hsz,hfz,hcs⟩:=hst.wf.objs 0 _ lc rfl h3
       refine .inr ⟨h0,_,_,_,rfl,h2,cQ hb,fun i x hx=>?_⟩
       obtain⟨y,hy,hy2⟩:=hcs i 0 [.int .u8 x] (.int .u8 x) (by rw[bC,List.getElem?_map,hx];rfl) rfl
       have hyx:y=.int .u8 x:=by
        cases hy2 with
        |rd h=>cases h;rfl
       subst hyx
       rw[Nat.mul_one,Nat.add_zero]at hy
       rw[Nat.mul_one,Nat.zero_add]
       simp only[World.cell?,hb]
       exact hy
   ·intro h0 b hbb
    have hp:=List.length_pos_iff.2 h0
    rcases h3 with⟨_,h3⟩|⟨lc,h3,h4,h5⟩
    ·omega
    ·rcases h5 with h5|rfl
     ·omega
     ·cases hbb
      have:=hst.own lc.b ⟨0,lc,by simp,h3,rfl⟩
      by_cases hlt:W.heap.size≤lc.b
      ·exact hlt
      ·exact absurd ⟨by omega,by rintro⟨id,l,h,_⟩;simp at h⟩ this
def r7(zs:List Int)(k:Nat):Int:=num ((zs.drop k).take 4)
def TC(zs:List Int)(k:Nat):Bool :=
 decide (k+8≤zs.length)&&(decide (r7 zs k≤65536)&&decide (r7 zs k≤(zs.length:Int)-k-8))&&decide (IntKind.u32.wrap (r7 zs (k+4))=RB (n7 ((zs.drop (k+8)).take (r7 zs k).toNat)))
def j6(zs:List Int)(k:Nat):List (Nat×Nat) :=
 if h:TC zs k=true then(k+8,(r7 zs k).toNat)::j6 zs (k+8+(r7 zs k).toNat)else[]
termination_by zs.length-k
decreasing_by
 simp[TC]at h
 omega
theorem C5:∀(l:List Int) (a:Int),0≤a→(∀x∈l,0≤x)→0≤l.foldl (fun n x=>n*256+x) a
 |[],a,h,_=>h
 |x::l,a,h,hx=>C5 l _ (by have:=hx x (List.mem_cons_self ..);show 0≤a*256+x;omega) fun y hy=>hx y (List.mem_cons_of_mem _ hy)
theorem uP{zs:List Int}(h:fI zs)(k:Nat):0≤r7 zs k:=C5 _ 0 (Int.le_refl _) fun x hx=>(h x (List.mem_of_mem_drop (List.mem_of_mem_take hx))).1
theorem kD{zs:List Int}{k:Nat}(h:TC zs k=false):j6 zs k=[]:=by rw[j6,dif_neg (by simp[h])]
theorem sX{zs:List Int}{k:Nat}(h:TC zs k=true):j6 zs k=(k+8,(r7 zs k).toNat)::j6 zs (k+8+(r7 zs k).toNat):=by rw[j6,dif_pos h]
theorem xK{zs:List Int}{k:Nat}(h:¬k+8≤zs.length):TC zs k=false:=by simp[TC,h]
theorem NW{zs:List Int}{k:Nat}{N:Nat}(hN:r7 zs k=N)(h:65536<N∨(zs.length:Int)-k-8<N):TC zs k=false:=by
 simp only[TC,hN]
 rcases h with h|h
 ·rw[decide_eq_false (p:=(N:Int)≤65536) (by omega)];simp
 ·rw[decide_eq_false (p:=(N:Int)≤(zs.length:Int)-k-8) (by omega)];simp
theorem U2{zs:List Int}{k:Nat}{N:Nat}(hN:r7 zs k=N)(h8:k+8≤zs.length)(h1:¬65536<N)(h2:¬(zs.length:Int)-k-8<N):TC zs k=decide (IntKind.u32.wrap (r7 zs (k+4))=RB (n7 ((zs.drop (k+8)).take N))):=by
 simp only[TC,hN,Int.toNat_natCast]
 rw[decide_eq_true h8,decide_eq_true (p:=(N:Int)≤65536) (by omega),decide_eq_true (p:=(N:Int)≤(zs.length:Int)-k-8) (by omega)]
 rfl
def vS(l:List (Nat×Nat)):Nat:=l.foldl (fun _ x=>x.1+x.2) 0
theorem OM(l:List (Nat×Nat))(x:Nat×Nat):vS (l++[x])=x.1+x.2:=by simp[vS]
def oF(zs:List Int)(x:Nat×Nat):List Int:=(zs.drop x.1).take x.2
def xN(zs:List Int):a6:=.list false 1 ((j6 zs 0).map fun x=>[.list false 1 (bC (oF zs x))])
structure HN(P:Program)(f:FuncId):Prop where
 pure:∀(ex:Bool) (zs:List Int) (_:zs.length≤10000000) (_:fI zs) (H:List aB),
  a7 P f [.list ex 1 (bC zs)] H (fun r H'=>r=.tuple [xN zs,.int .i64 (vS (j6 zs 0))]∧H'=H)
 own:∀(zs:List Int) (n:Nat) (_:n=zs.length) (_:zs.length≤10000000) (_:fI zs) (H:List aB) (id:Nat) (_:H[id]?=some (.arr 1 (bC zs))),
  a7 P f [.sl id n 0 n] H (fun r H'=>r=.tuple [xN zs,.int .i64 (vS (j6 zs 0))]∧H'=H)
 part:∀(zs:List Int) (rest:List (List a6)) (ep n:Nat) (_:ep=zs.length+rest.length) (_:n=zs.length) (_:zs.length≤10000000) (_:fI zs) (H:List aB) (id:Nat) (_:H[id]?=some (.arr 1 (bC zs++rest))),
  a7 P f [.sl id ep 0 n] H (fun r H'=>r=.tuple [xN zs,.int .i64 (vS (j6 zs 0))]∧H'=H)
def UN(zs:List Int):Nat:=vS (j6 zs 0)
attribute [local irreducible] a7
theorem TL:fI []:=fun x hx=>by simp at hx
theorem pM{a b:List Int}(ha:fI a)(hb:fI b):fI (a++b):=fun x hx=>(List.mem_append.1 hx).elim (ha x) (hb x)
theorem pG{H:List aB}{o:aB}{n:Nat}{k:Nat→List aB→Prop}(h:k (n+H.length) (H++[o])):i5 H o n k:=by rw[dG];exact h
theorem eD{H:List aB}{n:Nat}{o:aB}{k:List aB→Prop}{H':List aB}(h:H.set n o=H')(hk:k H'):uZ H n o k:=by rw[fO,h];exact hk
theorem gB(H:List aB)(o:aB):(H++[o])[0+H.length]?=some o:=by simp
theorem pD(H:List aB)(o o':aB):(H++[o]).set (0+H.length) o'=H++[o']:=by simp
theorem pK{H X:List aB}{i:Nat}{o:aB}(h:H[i]?=some o):(H++X)[i]?=some o:=by rw[List.getElem?_append_left (List.getElem?_eq_some_iff.1 h).1];exact h
theorem g8{H:List aB}{i:Nat}{o o':aB}(h:H[i]?=some o):(H.set i o')[i]?=some o':=by
 rw[List.getElem?_set_self (List.getElem?_eq_some_iff.1 h).1]
theorem dJ{K:List aB}{i j:Nat}{a:aB}(hne:i≠j):(K.set i a)[j]?=K[j]?:=List.getElem?_set_ne hne
theorem MM{H:List aB}{i:Nat}{o:aB}(h:H[i]?=some o):H.set i o=H:=by
 apply List.ext_getElem?
 intro j
 by_cases e:i=j
 ·subst e;rw[g8 h,h]
 ·rw[dJ e]
def FG(id:Nat)(l:List Int):a6:=.sl id l.length 0 l.length
def bO(l:List Int):aB:=.arr 1 (bC l)
def eU(s:ByteArray):List Int:=u8 s.size::dT s
theorem uA(H:List aB)(id:Nat)(l:List Int)(s:ByteArray)(ho:H[id]?=some (bO l))(hl:l.length≤100000)(hs:s.size≤100000):
  a7 pr 67 [FG id l,.str s] H (fun r H'=>r=FG id (l++eU s)∧H'=H.set id (bO (l++eU s))):=by
 have:=GC  H id (bC l) s ho (by rw[aD];exact hl) hs
 rw[←c9,aD,aD]at this
 exact this
set_option maxRecDepth 20000 in
theorem DR(H:List aB)(id:Nat)(l:List Int)(t:Bool)(ho:H[id]?=some (bO l))(hl:l.length≤1000000):
  a7 pr 68 [FG id l,.bool t] H (fun r H'=>r=FG id (l++[bif t then 1 else 0])∧H'=H.set id (bO (l++[bif t then 1 else 0]))):=by
 have hl2:=aD l
 have hl3:∀x,(bC l++[[a6.int .u8 x]]).length=(l++[x]).length:=fun x=>by simp[aD]
 have hl4:∀x,bC l++[[a6.int .u8 x]]=bC (l++[x]):=fun x=>by simp[bC]
 refine aA k68.has ?_
 cases t with
 |true =>
  (conv=>whnf);refine b8 (ho) ?_
  (conv=>whnf);refine b4 (by rw[hl2];exact Nat.beq_refl _) ?_
  (conv=>whnf);refine And.intro (⟨fG (by simp;omega),bK (by simp;omega),rfl,by rw[hl2]⟩) ?_
  (conv=>whnf)
  refine eD (congrArg (fun e=>H.set id (aB.arr 1 e)) (hl4 1)) ?_
  conv=>whnf
  exact⟨by show a6.sl id (bC l++[[a6.int .u8 1]]).length 0 (bC l++[[a6.int .u8 1]]).length=_;rw[hl3];rfl,rfl⟩
 |false =>
  (conv=>whnf);refine b8 (ho) ?_
  (conv=>whnf);refine b4 (by rw[hl2];exact Nat.beq_refl _) ?_
  (conv=>whnf);refine And.intro (⟨fG (by simp;omega),bK (by simp;omega),rfl,by rw[hl2]⟩) ?_
  (conv=>whnf)
  refine eD (congrArg (fun e=>H.set id (aB.arr 1 e)) (hl4 0)) ?_
  conv=>whnf
  exact⟨by show a6.sl id (bC l++[[a6.int .u8 0]]).length 0 (bC l++[[a6.int .u8 0]]).length=_;rw[hl3];rfl,rfl⟩
set_option maxRecDepth 20000 in
theorem y7(H:List aB)(id:Nat)(l:List Int)(n:Nat)(x:Int)(ho:H[id]?=some (bO l))(hl:l.length≤90000000)(hn:n≤4)(hx:0≤x):
  a7 pr 69 [FG id l,.int .i64 n,.int .i64 x] H (fun r H'=>r=FG id (l++j2 n x)∧H'=H.set id (bO (l++j2 n x))):=by
 have hid:=(List.getElem?_eq_some_iff.1 ho).1
 have hw:∀m:Nat,m≤4→IntKind.i64.wrap ((m:Int)-1)=(m:Int)-1:=fun m h=>aW _ (by omega) (by omega)
 refine aA k69.has ?_
 conv=>whnf
 refine⟨fun m ρ H1=>∃d:List Int,m≤n∧d++j2 m x=j2 n x∧H1=H.set id (bO (l++d)) ∧
  Sv 22 [(0,FG id (l++d)),(1,.int .i64 ((m:Int)-1)),(2,.int .i64 x)] ρ,n,[],?_,?_⟩
 ·refine⟨[],Nat.le_refl _,rfl,?_,Sv.intro rfl ⟨?_,?_,rfl,trivial⟩⟩
  ·rw[List.append_nil]
   exact(MM ho).symm
  ·rw[List.append_nil];rfl
  ·exact aN (hw n hn)
 rintro m ρ H1 ⟨d,hm,hd,rfl,dd,rfl⟩
 (conv=>whnf);refine aE (fun hge=>?_) (fun hge=>?_)
 ·simp at hge
  obtain⟨m,rfl⟩:∃j,m=j+1:=⟨m-1,by omega⟩
  rw[AU]at hd
  have hdl:d.length≤4:=by have:=congrArg List.length hd;rw[List.length_append,bX,List.length_cons]at this;omega
  have e8:IntKind.i64.wrap (8*((m:Int)))=8*m:=aW _ (by omega) (by omega)
  have e9:((m+1:Nat):Int)-1=m:=by omega
  have ebyte:u8 (x.fdiv (2 ^ (min (8*(m:Int)).toNat 64)))=(x / 256 ^ m) % 256:=by
   rw[m3,Int.fdiv_eq_ediv_of_nonneg _ (Int.pow_nonneg (by omega)),show min (8*(m:Int)).toNat 64=8*m by omega,Int.pow_mul];rfl
  have hl2:(bC (l++d)).length=(l++d).length:=aD _
  have hl5:(l++d).length≤90000010:=by simp;omega
  rw[e9]
  (conv=>whnf)
  rw[e8]
  (conv=>whnf);refine And.intro (by omega) ?_
  (conv=>whnf);refine b8 (g8 ho) ?_
  (conv=>whnf);refine b4 (by rw[hl2];exact Nat.beq_refl _) ?_
  (conv=>whnf);refine And.intro (⟨fG (by simp;omega),bK (by simp;omega),rfl,by rw[hl2]⟩) ?_
  have hob:bC (l++d)++[[a6.int .u8 (IntKind.u8.wrap (x.fdiv (2 ^ min (8*(m:Int)).toNat IntKind.i64.bits)))]]=bC (l++(d++[(x / 256 ^ m) % 256])):=by
   rw[←ebyte,←List.append_assoc,c9 (l++d)];rfl
  refine eD ((List.set_set ..).trans (congrArg (fun e=>H.set id (aB.arr 1 e)) hob)) ?_
  (conv=>whnf)
  refine⟨m,by omega,Gp.keep rfl ?_ fun ρ1 h=>⟨d++[(x / 256 ^ m) % 256],by omega,by rw[←hd];simp,rfl,h⟩⟩
  refine⟨?_,aN (hw m (by omega)),rfl,trivial⟩
  show a6.sl id (bC (l++d)++[[a6.int .u8 (IntKind.u8.wrap (x.fdiv (2 ^ min (8*(m:Int)).toNat IntKind.i64.bits)))]]).length 0 (bC (l++d)++[[a6.int .u8 (IntKind.u8.wrap (x.fdiv (2 ^ min (8*(m:Int)).toNat IntKind.i64.bits)))]]).length=_
  rw[hob,aD];rfl
 ·simp at hge
  obtain rfl:m=0:=by omega
  rw[j2,List.append_nil]at hd
  subst hd
  conv=>whnf
  exact⟨rfl,rfl⟩
def uF(full:List c8):List c8→Int→Int
 |[],_=>0
 |c::cs,i=>if eF c.name=false then 4 else if c.kind<1∨4<c.kind then 7 else if eA full c.name<i then 6 else uF full cs (i+1)
def qY(cs:List c8):Int:=if cs.length<1∨12<cs.length then 2 else uF cs cs 0
theorem IU{α:Type}(p:α→Bool):∀(l:List α) (i:Int) (k:Nat) (x:α),l[k]?=some x→p x=true→fS p l i≤i+k
 |[],_,_,_,h,_=>by simp at h
 |c::cs,i,0,x,h,hp=>by
  simp at h;subst h
  rw[fS,if_pos hp];simp
 |c::cs,i,k+1,x,h,hp=>by
  rw[fS]
  split
  ·omega
  ·have:=IU p cs (i+1) k x (by simpa using h) hp
   omega
theorem OJ(cs:List c8)(k:Nat)(c:c8)(h:cs[k]?=some c):eA cs c.name≤k:=by
 have:=IU (s4 c.name) cs 0 k c h (by simp[s4])
 rw[eA];omega
set_option maxRecDepth 20000 in
theorem sF(e1:Bool)(cs:List c8)(hl:cs.length≤1000000)(H:List aB):
  a7 pr 116 [.list e1 3 (cC cs)] H (fun r H'=>r=.int .i64 (qY cs)∧H'=H):=by
 refine a7.pure (by simp[a6.closed,a6.isPure]) (aA k116.has ?_)
 (conv=>whnf);refine aE (fun h0=>?_) (fun h0=>?_)
 ·simp[aX]at h0
  conv=>whnf
  exact cZ (by rw[qY,if_pos (by omega)])
 simp[aX]at h0
 (conv=>whnf);refine aE (fun h1=>?_) (fun h1=>?_)
 ·simp[aX]at h1
  conv=>whnf
  exact cZ (by rw[qY,if_pos (by omega)])
 simp[aX]at h1
 have h2:0<cs.length:=by omega
 have hR:qY cs=uF cs cs 0:=by rw[qY,if_neg (by omega)]
 conv=>whnf
 refine⟨fun m ρ H1=>∃k:Nat,k+m=cs.length∧uF cs (cs.drop k) k=qY cs∧H1=[] ∧
  Sv 42 [(0,.list e1 3 (cC cs)),(13,.list e1 3 (cC cs)),(14,.int .i64 cs.length),(15,.int .i64 k)] ρ,cs.length,[],?_,?_⟩
 ·exact⟨0,by omega,hR.symm,rfl,Sv.intro rfl ⟨rfl,rfl,aN (by rw[aX]),rfl,trivial⟩⟩
 rintro m ρ H1 ⟨k,hk,hr,rfl,d,rfl⟩
 (conv=>whnf);refine aE (fun hlt=>?_) (fun hlt=>?_)
 ·simp at hlt
  obtain⟨c,hc,hdc,_⟩:=aY (show k<cs.length by omega)
  rw[hdc,uF]at hr
  repeat'((conv=>whnf);first|refine And.intro (by omega) ?_|refine b8 (iI hc) ?_|refine a7.use (eI c.name _) ?_|refine a7.use (wE e1 cs hl c.name _) ?_|refine aE (fun h=>?_) (fun h=>?_))
  all_goals(conv=>whnf)
  all_goals first
   |refine⟨m-1,by omega,Gp.none rfl ?_ fun ρ1 h=>⟨k+1,by omega,?_,rfl,h⟩⟩
   |refine cZ ?_
  all_goals first
   |exact⟨.closed _ rfl,.closed _ rfl,.closed _ rfl,eR (aW ((k:Int)+1) (by omega) (by omega)),trivial⟩
   |skip
  all_goals first
   |(rw[←hr];simp_all;done)
   |(rw[←hr,if_neg (by simp_all),if_neg (by simp_all<;>omega),if_neg (by simp_all<;>omega)];rfl)
 ·simp at hlt
  conv=>whnf
  rw[List.drop_eq_nil_of_le (show cs.length≤k by omega)]at hr
  exact cZ hr
set_option maxRecDepth 20000 in
theorem dM(e1:Bool)(cs:List c8)(hl:cs.length≤1000000)(H:List aB):
  a7 pr 71 [.list e1 3 (cC cs)] H (fun r H'=>r=.int .i64 (qY cs)∧H'=H):=by
 refine a7.pure (by simp[a6.closed,a6.isPure]) (aA k71.has ?_)
 (conv=>whnf);refine aE (fun h0=>?_) (fun h0=>?_)
 ·simp[aX]at h0
  conv=>whnf
  exact cZ (by rw[qY,if_pos (by omega)])
 simp[aX]at h0
 (conv=>whnf);refine aE (fun h1=>?_) (fun h1=>?_)
 ·simp[aX]at h1
  conv=>whnf
  exact cZ (by rw[qY,if_pos (by omega)])
 simp[aX]at h1
 have h2:0<cs.length:=by omega
 have hR:qY cs=uF cs cs 0:=by rw[qY,if_neg (by omega)]
 conv=>whnf
 refine⟨fun m ρ H1=>∃k:Nat,k+m=cs.length∧uF cs (cs.drop k) k=qY cs∧H1=[] ∧
  Sv 48 [(0,.list e1 3 (cC cs)),(3,.int .i64 k)] ρ,cs.length,[],?_,?_⟩
 ·exact⟨0,by omega,hR.symm,rfl,Sv.intro rfl ⟨rfl,rfl,trivial⟩⟩
 rintro m ρ H1 ⟨k,hk,hr,rfl,d,rfl⟩
 (conv=>whnf);refine aE (fun hlt=>?_) (fun hlt=>?_)
 ·simp[aX]at hlt
  obtain⟨c,hc,hdc,_⟩:=aY (show k<cs.length by omega)
  have hle:=OJ cs k c hc
  have hiff:eA cs c.name<k↔¬eA cs c.name=k:=by omega
  rw[hdc,uF]at hr
  repeat'((conv=>whnf);first|refine And.intro (by omega) ?_|refine b8 (iI hc) ?_|refine a7.use (eH c.name _) ?_|refine a7.use (bB e1 cs hl c.name _) ?_|refine aE (fun h=>?_) (fun h=>?_))
  all_goals(conv=>whnf)
  all_goals first
   |refine⟨m-1,by omega,Gp.none rfl ?_ fun ρ1 h=>⟨k+1,by omega,?_,rfl,h⟩⟩
   |refine cZ ?_
  all_goals first
   |exact⟨.closed _ rfl,eR (aW ((k:Int)+1) (by omega) (by omega)),trivial⟩
   |skip
  all_goals first
   |(rw[←hr];simp_all;done)
   |(rw[←hr,if_neg (by simp_all),if_neg (by simp_all<;>omega),if_neg (by simp_all<;>omega)];rfl)
 ·simp[aX]at hlt
  conv=>whnf
  rw[List.drop_eq_nil_of_le (show cs.length≤k by omega)]at hr
  exact cZ hr
end Go.AW
