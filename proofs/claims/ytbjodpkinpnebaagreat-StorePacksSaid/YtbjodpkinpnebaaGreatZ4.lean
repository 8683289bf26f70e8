/-
  An abstract machine over the model, the code of functions on it, and their contracts: what the claim needs.
  No condition: definitions, plain laws, contracts over any program that has this code.
-/
import Derived.Test.YtbjodpkinpnebaaGreatZ3
set_option linter.all false
namespace Go.AW
variable [dE]
attribute [local irreducible] a7
structure c8 where
 name:ByteArray
 kind:Int
 nul:Bool
def fY(c:c8):List a6:=[.str c.name,.int .i64 c.kind,.bool c.nul]
def cC(cs:List c8):List (List a6):=cs.map fY
theorem aW(l:List c8):(cC l).length=l.length:=List.length_map ..
theorem t7(a b:List c8):cC (a++b)=cC a++cC b:=List.map_append
theorem cI(l:List c8):bG (cC l)=true:=by simp[bG,cC,fY,a6.isPure]
theorem iI{l:List c8}{k:Nat}{x:c8}(h:l[k]?=some x):(cC l)[k]?=some (fY x):=by
 rw[cC,List.getElem?_map,h];rfl
theorem I8{e:List a6}(h:jY [.str,.int .i64,.bool] e):∃c:c8,e=fY c∧c.name.size≤maxLen∧(Lit.int .i64 c.kind).wf=true:=by
 match e,h with
 |[a,b,c],h =>
  obtain⟨h1,h2,h3,_⟩:=h
  cases h1;cases h2;cases h3
  exact⟨⟨_,_,_⟩,rfl,by assumption,by assumption⟩
def fT{α:Type}(p:α→Bool):List α→Int→Int
 |[],_=>-1
 |c::cs,i=>if p c then i else fT p cs (i+1)
def s8(name:ByteArray)(c:c8):Bool:=c.name.data.toList==name.data.toList
def dZ(cs:List c8)(name:ByteArray):Int:=fT (s8 name) cs 0
set_option maxRecDepth 20000 in
theorem B0(g:FuncId)(caps:List a6)(p:c8→Bool)(H:List aB)(hg:∀c:c8,a7 pr g ([.agg (fY c)]++caps) H (fun r H'=>r=.bool (p c)∧H'=H))
  (ex:Bool) (cs:List c8) (hl:cs.length≤1000000) :
  a7 pr 215 [.list ex 3 (cC cs),.fn g caps] H (fun r H'=>r=.int .i64 (fT p cs 0)∧H'=H):=by
 refine aA k215.has ?_
 conv=>whnf
 refine⟨fun m ρ H1=>∃k:Nat,k+m=cs.length∧fT p (cs.drop k) k=fT p cs 0∧H1=H ∧
  Sv 19 [(0,.list ex 3 (cC cs)),(1,.fn g caps),(7,.int .i64 cs.length),(8,.int .i64 k)] ρ,cs.length,[],?_,?_⟩
 ·exact⟨0,by omega,rfl,rfl,Sv.intro rfl ⟨rfl,rfl,aN (by rw[aW]),rfl,trivial⟩⟩
 rintro m ρ H1 ⟨k,hk,hr,rfl,d,rfl⟩
 (conv=>whnf);refine aE (fun hlt=>?_) (fun hlt=>?_)
 ·simp at hlt
  obtain⟨c,hc,hd,_⟩:=aX hlt
  rw[hd]at hr
  conv=>whnf
  refine And.intro (by omega) ?_
  (conv=>whnf);refine b4 (iI hc) ?_
  conv=>whnf
  refine a7.use (hg c) ?_
  (conv=>whnf);refine aE (fun h=>?_) (fun hf=>?_)
  ·conv=>whnf
   refine⟨aN ?_,rfl⟩
   rw[←hr,fT,if_pos h]
  ·conv=>whnf
   refine⟨m-1,by omega,Gp.keep rfl ?_ fun ρ1 h=>⟨k+1,by omega,?_,rfl,h⟩⟩
   ·exact⟨rfl,rfl,rfl,aN (aY ((k:Int)+1) (by omega) (by omega)),trivial⟩
   ·rw[←hr,fT,if_neg (by rw[hf];simp)];rfl
 ·simp at hlt
  conv=>whnf
  rw[List.drop_eq_nil_of_le hlt]at hr
  exact⟨aN hr,rfl⟩
set_option maxRecDepth 20000 in
theorem FH(c:c8)(name:ByteArray):
  a7 pr 216 ([.agg (fY c)]++[.ptr 0 1 0 0]) [.arr 1 [[.str name]]] (fun r H'=>r=.bool (s8 name c)∧H'=[.arr 1 [[.str name]]]):=by
 refine a7.drop rfl (aA k216.has ?_)
 conv=>whnf
 exact⟨rfl,_,rfl⟩
set_option maxRecDepth 20000 in
theorem wQ(ex:Bool)(cs:List c8)(hl:cs.length≤1000000)(name:ByteArray)(H:List aB):
  a7 pr 163 [.list ex 3 (cC cs),.str name] H (fun r H'=>r=.int .i64 (dZ cs name)∧H'=H):=by
 refine a7.pure (by simp[a6.closed,a6.isPure]) (aA k163.has ?_)
 conv=>whnf
 refine a7.use (B0 _ _ (s8 name) _ (fun c=>FH c name) ex cs hl) ?_
 conv=>whnf
 exact .closed _ rfl
set_option maxRecDepth 20000 in
theorem bB(ex:Bool)(cs:List c8)(hl:cs.length≤1000000)(name:ByteArray)(H:List aB):
  a7 pr 123 [.list ex 3 (cC cs),.str name] H (fun r H'=>r=.int .i64 (dZ cs name)∧H'=H):=by
 refine a7.pure (by simp[a6.closed,a6.isPure]) (aA k123.has ?_)
 conv=>whnf
 refine⟨fun m ρ H1=>∃k:Nat,k+m=cs.length∧fT (s8 name) (cs.drop k) k=dZ cs name∧H1=[] ∧
  Sv 20 [(0,.list ex 3 (cC cs)),(1,.str name),(5,.int .i64 k)] ρ,cs.length,[],?_,?_⟩
 ·exact⟨0,by omega,rfl,rfl,Sv.intro rfl ⟨rfl,rfl,rfl,trivial⟩⟩
 rintro m ρ H1 ⟨k,hk,hr,rfl,d,rfl⟩
 (conv=>whnf);refine aE (fun hlt=>?_) (fun hlt=>?_)
 ·simp[aW]at hlt
  obtain⟨c,hc,hd,_⟩:=aX hlt
  rw[hd]at hr
  conv=>whnf
  refine And.intro (by omega) ?_
  (conv=>whnf);refine b4 (iI hc) ?_
  (conv=>whnf);refine aE (fun h=>?_) (fun hf=>?_)
  ·conv=>whnf
   refine cZ ?_
   rw[←hr,fT,if_pos (show s8 name c=true from h)]
  ·conv=>whnf
   refine⟨m-1,by omega,Gp.keep rfl ?_ fun ρ1 h=>⟨k+1,by omega,?_,rfl,h⟩⟩
   ·exact⟨rfl,rfl,aN (aY ((k:Int)+1) (by omega) (by omega)),trivial⟩
   ·rw[←hr,fT,if_neg (by rw[show s8 name c=false from hf];simp)];rfl
 ·simp[aW]at hlt
  conv=>whnf
  rw[List.drop_eq_nil_of_le hlt]at hr
  exact cZ hr
def VZ(c:c8)(v:V):Bool:=(v.kind==0 && !c.nul)||(v.kind != 0&&v.kind != c.kind)
def yU:List c8→List V→Int
 |c::cs,v::rs=>if c7 v=false then 8 else if VZ c v=true then 7 else yU cs rs
 |_,_=>0
def kZ(cs:List c8)(rs:List V):Int:=if rs.length=cs.length then yU cs rs else 8
set_option maxRecDepth 20000 in
theorem sK(e1 e2:Bool)(cs:List c8)(rs:List V)(hl:rs.length≤1000000)(H:List aB):
  a7 pr 120 [.list e1 3 (cC cs),.list e2 3 (vC rs)] H (fun r H'=>r=.int .i64 (kZ cs rs)∧H'=H):=by
 refine a7.pure rfl (aA k120.has ?_)
 (conv=>whnf);refine aE (fun h0=>?_) (fun h0=>?_)
 ·simp[b9,aW]at h0
  conv=>whnf
  exact cZ (by rw[kZ,if_neg (by omega)])
 simp[b9,aW]at h0
 have hR:kZ cs rs=yU cs rs:=by rw[kZ,if_pos (by omega)]
 conv=>whnf
 refine⟨fun m ρ H1=>∃k:Nat,k+m=rs.length∧yU (cs.drop k) (rs.drop k)=kZ cs rs∧H1=[] ∧
  Sv 48 [(0,.list e1 3 (cC cs)),(13,.list e2 3 (vC rs)),(14,.int .i64 rs.length),(15,.int .i64 k)] ρ,rs.length,[],?_,?_⟩
 ·exact⟨0,by omega,hR.symm,rfl,Sv.intro rfl ⟨rfl,rfl,aN (by rw[b9]),rfl,trivial⟩⟩
 rintro m ρ H1 ⟨k,hk,hr,rfl,d,rfl⟩
 (conv=>whnf);refine aE (fun hlt=>?_) (fun hlt=>?_)
 ·simp at hlt
  obtain⟨v,hv,hdv,_⟩:=aX hlt
  obtain⟨c,hc,hdc,_⟩:=aX (show k<cs.length by omega)
  rw[hdv,hdc,yU]at hr
  repeat'((conv=>whnf);first|refine And.intro (by omega) ?_|refine b4 (r7 hv) ?_|refine b4 (iI hc) ?_|refine a7.use (iY v _) ?_|refine aE (fun h=>?_) (fun h=>?_))
  all_goals(conv=>whnf)
  all_goals first
   |refine⟨m-1,by omega,Gp.none rfl ?_ fun ρ1 h=>⟨k+1,by omega,?_,rfl,h⟩⟩
   |refine cZ ?_
  all_goals first
   |exact⟨.closed _ rfl,.closed _ rfl,.closed _ rfl,eT (aY ((k:Int)+1) (by omega) (by omega)),trivial⟩
   |skip
  all_goals
   rw[←hr]
   simp_all [VZ]
 ·simp at hlt
  conv=>whnf
  rw[List.drop_eq_nil_of_le (show cs.length≤k by omega)]at hr
  exact cZ hr
set_option maxRecDepth 20000 in
theorem vF(e1 e2:Bool)(cs:List c8)(rs:List V)(hl:rs.length≤1000000)(H:List aB):
  a7 pr 74 [.list e1 3 (cC cs),.list e2 3 (vC rs)] H (fun r H'=>r=.int .i64 (kZ cs rs)∧H'=H):=by
 refine a7.pure rfl (aA k74.has ?_)
 (conv=>whnf);refine aE (fun h0=>?_) (fun h0=>?_)
 ·simp[b9,aW]at h0
  conv=>whnf
  exact cZ (by rw[kZ,if_neg (by omega)])
 simp[b9,aW]at h0
 have hR:kZ cs rs=yU cs rs:=by rw[kZ,if_pos (by omega)]
 conv=>whnf
 refine⟨fun m ρ H1=>∃k:Nat,k+m=rs.length∧yU (cs.drop k) (rs.drop k)=kZ cs rs∧H1=[] ∧
  Sv 58 [(0,.list e1 3 (cC cs)),(1,.list e2 3 (vC rs)),(5,.int .i64 k)] ρ,rs.length,[],?_,?_⟩
 ·exact⟨0,by omega,hR.symm,rfl,Sv.intro rfl ⟨rfl,rfl,rfl,trivial⟩⟩
 rintro m ρ H1 ⟨k,hk,hr,rfl,d,rfl⟩
 (conv=>whnf);refine aE (fun hlt=>?_) (fun hlt=>?_)
 ·simp[b9]at hlt
  obtain⟨v,hv,hdv,_⟩:=aX hlt
  obtain⟨c,hc,hdc,_⟩:=aX (show k<cs.length by omega)
  rw[hdv,hdc,yU]at hr
  repeat'((conv=>whnf);first|refine And.intro (by omega) ?_|refine b4 (r7 hv) ?_|refine b4 (iI hc) ?_|refine a7.use (i4 v _) ?_|refine aE (fun h=>?_) (fun h=>?_))
  all_goals(conv=>whnf)
  all_goals first
   |refine⟨m-1,by omega,Gp.none rfl ?_ fun ρ1 h=>⟨k+1,by omega,?_,rfl,h⟩⟩
   |refine cZ ?_
  all_goals first
   |exact⟨.closed _ rfl,.closed _ rfl,eT (aY ((k:Int)+1) (by omega) (by omega)),trivial⟩
   |skip
  all_goals
   rw[←hr]
   simp_all [VZ]
 ·simp[b9]at hlt
  conv=>whnf
  rw[List.drop_eq_nil_of_le (show cs.length≤k by omega)]at hr
  exact cZ hr
theorem fI(l:List Int)(i:Int):0≤E6 l i∧E6 l i≤131070:=by
 unfold E6
 have h1:=rK i
 split
 ·omega
 ·have hl:0<(l.length:Int):=by omega
  have h2:=rK (l.getD ((c6 i 65535).tmod l.length).toNat 0)
  have h3:0≤(c6 i 65535).tdiv l.length:=Int.tdiv_nonneg (by omega) (by omega)
  have h4:(c6 i 65535).tdiv l.length≤c6 i 65535:=by
   rw[Int.tdiv_eq_ediv_of_nonneg (by omega)]
   exact Int.ediv_le_self _ (by omega)
  rw[aY ((c6 i 65535).tdiv l.length) (by omega) (by omega),aY _ (by omega) (by omega)]
  omega
theorem a7.frz1{P:Program}{f:FuncId}{args:List a6}{n sz:Nat}{es:List (List a6)}{H:List aB}(ha:args.all a6.closed=true)(h:a7 P f args [] (fun r H1=>r=.sl 0 n 0 n∧H1=[.arr sz es]))
  (hn:n=es.length) (hp:bG es=true):a7 P f args H (fun r H'=>r=.list false sz es∧H'=H):=by
 refine a7.pure ha (h.mono ?_)
 rintro r H1 ⟨rfl,rfl⟩
 exact sE rfl hn hn hp
theorem a7.own1{P:Program}{f:FuncId}{args:List a6}{n sz:Nat}{es:List (List a6)}{H:List aB}(ha:args.all a6.closed=true)(h:a7 P f args [] (fun r H1=>r=.sl 0 n 0 n∧H1=[.arr sz es]))
  (hp:bG es=true):a7 P f args H (fun r H'=>r=.sl H.length n 0 n∧H'=H++[.arr sz es]):=by
 refine a7.lift ha h ?_
 rintro r H1 ⟨rfl,rfl⟩
 exact⟨[0],_,[.arr sz es],kS (k:=0) rfl (Nat.add_zero _).symm rfl rfl,by simp,rfl,fun k id hk=>by
  cases k with
  |zero=>simp at hk;subst hk;exact⟨rfl,sz,_,rfl,hp⟩
  |succ k=>simp at hk,rfl,rfl⟩
def iL{α:Type}(W:List α)(z:α)(k:Nat):List α:=W.take k++List.replicate (W.length-k) z
theorem DP{α:Type}(W:List α)(z:α)(k:Nat)(h:k≤W.length):(iL W z k).length=W.length:=by simp[iL];omega
theorem IT{α:Type}(W:List α)(z:α):iL W z 0=List.replicate W.length z:=by simp[iL]
theorem LX{α:Type}(W:List α)(z:α):iL W z W.length=W:=by simp[iL]
theorem BM{α:Type}(W:List α)(z:α)(k:Nat)(x:α)(h:W[k]?=some x):(iL W z k).set k x=iL W z (k+1):=by
 have hk:=(List.getElem?_eq_some_iff.1 h).1
 unfold iL
 obtain⟨m,hm⟩:∃m,W.length-k=m+1:=⟨W.length-k-1,by omega⟩
 have h1:(W.take k).length=k:=by simp;omega
 rw[hm,List.replicate_succ,List.set_append_right _ _ (by omega),h1,Nat.sub_self,List.set_cons_zero,List.take_add_one,h,show W.length-(k+1)=m by omega]
 simp
theorem BL{α:Type}(W:List α)(z:α)(k:Nat)(hk:k<W.length):(iL W z k)[k]?=some z:=by
 have h1:(W.take k).length=k:=by simp;omega
 rw[iL,List.getElem?_append_right (by omega),h1,Nat.sub_self]
 obtain⟨m,hm⟩:∃m,W.length-k=m+1:=⟨W.length-k-1,by omega⟩
 rw[hm,List.replicate_succ];rfl
def zV:V:=⟨0,0,bs []⟩
theorem BH{rs:List V}(h:rs.length≤12)(hv:∀v∈rs,c7 v=true):xL rs=.tuple [.list false 1 (bC (eZ rs)),.int .i64 0]:=by
 unfold xL
 rw[if_neg (by omega),if_pos (by simpa using hv)]
theorem m8(n:Int):u8 n=n % 256:=by
 show IntKind.u8.wrap n=_
 simp[IntKind.wrap,IntKind.signed,IntKind.bits]
theorem S5(x:Int)(h0:0≤x)(h1:x<4294967296):num (w4 x)=x:=by
 simp only[num,w4,List.foldl_cons,List.foldl_nil,m8]
 rw[Int.fdiv_eq_ediv_of_nonneg _ (by omega),Int.fdiv_eq_ediv_of_nonneg _ (by omega),Int.fdiv_eq_ediv_of_nonneg _ (by omega)]
 omega
theorem nX(n:Int):0≤u8 n∧u8 n≤255:=by rw[m8];omega
theorem R9(v:V):fO (jL v):=by
 intro x hx
 unfold jL at hx
 rcases List.mem_cons.1 hx with rfl|hx
 ·exact nX _
 ·split at hx
  ·rcases List.mem_singleton.1 hx with rfl;exact nX _
  split at hx
  ·simp[w4]at hx;rcases hx with rfl|rfl|rfl|rfl<;>exact nX _
  split at hx
  ·simp[w4]at hx;rcases hx with rfl|rfl|rfl|rfl<;>exact nX _
  split at hx
  ·rcases List.mem_cons.1 hx with rfl|hx
   ·exact nX _
   ·obtain⟨b,_,rfl⟩:=List.mem_map.1 hx
    have:=b.toNat_lt
    omega
  ·simp at hx
theorem R8(rs:List V):fO (eZ rs):=by
 intro x hx
 rcases List.mem_cons.1 hx with rfl|hx
 ·exact nX _
 ·obtain⟨v,_,hv⟩:=List.mem_flatMap.1 hx
  exact R9 v x hv
theorem wV(s:ByteArray):uK (dQ s)=s:=by
 obtain⟨⟨l⟩⟩:=s
 simp only[uK,dQ,List.map_map]
 congr
 rw[List.map_congr_left (g:=id)]
 ·simp
 ·intro b _
  simp
theorem V.ext'{a b:V}(h1:a.kind=b.kind)(h2:a.num=b.num)(h3:a.str=b.str):a=b:=by
 cases a;cases b;simp_all
theorem AU{s:ByteArray}(h:s.data.toList=[]):s=bs []:=by
 obtain⟨⟨l⟩⟩:=s
 simp at h
 subst h;rfl
theorem RG(v:V)(hv:c7 v=true)(t:List Int):dW (jL v++t)=(v,((jL v).length:Int)):=by
 unfold c7 at hv
 split at hv
 ·rename_i hk
  simp at hv
  have hs:=AU (show v.str.data.toList=[] by simp[hv.2])
  have e:jL v=[0]:=by simp[jL,hk,m8]
  rw[e]
  show oB ([0]++t) 0 _=_
  rw[LO (by simp)]
  rw[show v=⟨0,0,bs []⟩from V.ext' hk hv.1 hs];rfl
 split at hv
 ·rename_i hk
  simp at hv
  have hs:=AU (show v.str.data.toList=[] by simp[hv.2])
  have e:jL v=[1,v.num]:=by
   have:u8 v.num=v.num:=by rw[m8];omega
   simp[jL,hk,this,m8]
  rw[e]
  show oB ([1,v.num]++t) 1 v.num=_
  rw[LP (by simp)]
  rw[show v=⟨1,v.num,bs []⟩from V.ext' hk rfl hs];rfl
 split at hv
 ·rename_i hk
  simp at hv
  have hs:=AU (show v.str.data.toList=[] by simp[hv.2])
  have e:jL v=2::w4 (v.num+1073741824):=by
   simp only[jL,hk]
   rw[if_neg (by decide),if_pos trivial,aY (v.num+1073741824) (by omega) (by omega)]
   simp[m8]
  rw[e]
  show oB ((2::w4 (v.num+1073741824))++t) 2 _=_
  rw[LQ (by simp[w4])]
  have:(((2::w4 (v.num+1073741824))++t).take 5).drop 1=w4 (v.num+1073741824):=by simp[w4]
  rw[this,S5 _ (by omega) (by omega)]
  rw[show v=⟨2,v.num,bs []⟩from V.ext' hk rfl hs]
  simp[w4]
 split at hv
 ·rename_i hk
  simp at hv
  have e:jL v=3::(v.str.size:Int)::dQ v.str:=by
   have:u8 (v.str.size:Int)=v.str.size:=by rw[m8];omega
   simp only[jL,hk]
   rw[if_neg (by decide),if_neg (by decide),if_neg (by decide),if_pos trivial,this]
   simp[m8]
  have hlen:(dQ v.str).length=v.str.size:=by simp[dQ]
  rw[e]
  show oB ((3::(v.str.size:Int)::dQ v.str)++t) 3 (v.str.size:Int)=_
  rw[LR (by simp) (by simp[hlen];omega)]
  have:(((3::(v.str.size:Int)::dQ v.str)++t).take (2+(v.str.size:Int)).toNat).drop 2=dQ v.str:=by
   rw[show(2+(v.str.size:Int)).toNat=v.str.size+1+1 by omega]
   simp[←hlen]
  rw[this,wV]
  rw[show(⟨3,0,v.str⟩:V)=v from V.ext' hk.symm hv.1.symm rfl]
  simp[hlen];omega
 split at hv
 ·rename_i hk
  simp at hv
  have hs:=AU (show v.str.data.toList=[] by simp[hv.2])
  have e:jL v=4::w4 v.num:=by
   simp only[jL,hk]
   rw[if_neg (by decide),if_neg (by decide),if_pos trivial]
   simp[m8]
  rw[e]
  show oB ((4::w4 v.num)++t) 4 _=_
  rw[LT (by simp[w4])]
  have:(((4::w4 v.num)++t).take 5).drop 1=w4 v.num:=by simp[w4]
  rw[this,S5 _ (by omega) (by omega)]
  rw[show v=⟨4,v.num,bs []⟩from V.ext' hk rfl hs]
  simp[w4]
 ·cases hv
theorem RK(v:V):0<(jL v).length:=by simp[jL]
theorem IM:∀(rs:List V) (t:List Int),(∀v∈rs,c7 v=true)→o9 rs.length (rs.flatMap jL++t)=some (rs,t)
 |[],t,_=>rfl
 |v::rs,t,h=>by
  have hv:=h v (by simp)
  have e:(v::rs).flatMap jL++t=jL v++(rs.flatMap jL++t):=by simp
  rw[e,List.length_cons,jQ,RG v hv]
  have:=RK v
  rw[if_neg (by rw[hv];simp only[Bool.true_eq_false,or_false];omega)]
  simp only[Int.toNat_natCast,List.drop_left]
  rw[IM rs t fun w hw=>h w (by simp[hw])]
theorem RF(rs:List V)(hl:rs.length≤12)(h:∀v∈rs,c7 v=true):rP (eZ rs)=.tuple [.list false 3 (vC rs),.int .i64 0]:=by
 have hu:u8 (rs.length:Int)=rs.length:=by rw[m8];omega
 have e:eZ rs=(rs.length:Int)::rs.flatMap jL:=by rw[eZ,hu]
 rw[e]
 unfold rP
 rw[if_neg (by simp;omega)]
 have:=IM rs [] h
 rw[List.append_nil]at this
 simp[this]
theorem qM:∀(a b:List V),bF a b=0↔a=b
 |[],[]=>by simp[bF]
 |[],_::_=>by simp[bF]
 |_::_,[]=>by simp[bF]
 |x::a,y::b=>by
  have hz:=mV.zero x y
  rw[bF]
  by_cases h:iR x y=0
  ·rw[if_pos h,qM a b,hz.1 h];simp
  ·rw[if_neg h]
   constructor
   ·intro h2;exact absurd h2 h
   ·intro h2;simp at h2;exact absurd (hz.2 h2.1) h
theorem W9{H:List aB}{id ep len sz:Nat}{es:List (List a6)}(ho:H[id]?=some (.arr sz es))(he:ep=es.length)(hl:len=es.length)(hp:bG es=true):vO H (.sl id ep 0 len) (.list false sz es):=by
 subst he hl
 have:=vO.sl id es.length 0 es.length sz es ho rfl hp
 rwa [List.drop_zero,List.take_length]at this
def zC:c8:=⟨bs [],0,false⟩
theorem KA(l:List c8)(k:Nat)(v:c8):uH (cC l) k (fY v)=cC (l.set k v):=by rw[wS];simp[cC]
def mI{α:Type}(z:α)(l:List α)(is:List Int):List α:=is.map fun i=>if 0≤i∧i<(l.length:Int)then l.getD i.toNat z else z
theorem dY{α:Type}(z:α)(l:List α)(is:List Int):(mI z l is).length=is.length:=by simp[mI]
theorem SF{α:Type}(z:α)(l:List α)(is:List Int)(k:Nat)(i:Int)(x:α)(h:is[k]?=some i)(h0:0≤i)(hx:l[i.toNat]?=some x):(mI z l is)[k]?=some x:=by
 have hi:=(List.getElem?_eq_some_iff.1 hx).1
 rw[mI,List.getElem?_map,h,Option.map_some,if_pos ⟨h0,by omega⟩,List.getD_eq_getElem?_getD,hx];rfl
theorem EW{α:Type}(z:α)(l:List α)(is:List Int)(k:Nat)(i:Int)(h:is[k]?=some i)(h0:¬(0≤i∧i<(l.length:Int))):(mI z l is)[k]?=some z:=by
 rw[mI,List.getElem?_map,h,Option.map_some,if_neg h0]
theorem yX{α:Type}(W:List α)(z:α)(k:Nat)(h:W[k]?=some z):iL W z k=iL W z (k+1):=by
 rw[←BM W z k z h]
 have hg:=BL W z k (List.getElem?_eq_some_iff.1 h).1
 obtain⟨hl,he⟩:=List.getElem?_eq_some_iff.1 hg
 conv=>lhs;rw[←List.set_getElem_self hl]
 rw[he]
theorem J0{l:List Int}{k:Nat}{x:Int}(h:l[k]?=some x):(iC l)[k]?=some [.int .i64 x]:=by simp[iC,h]
set_option maxRecDepth 20000 in
theorem qY(e1 e2:Bool)(r:List c8)(is:List Int)(hr:r.length≤1000000)(hl:is.length≤1000000):
  a7 pr 239 [.list e1 3 (cC r),.list e2 1 (iC is)] [] (fun q H'=>q=.sl 0 is.length 0 is.length∧H'=[.arr 3 (cC (mI zC r is))]):=by
 refine aA k239.has ?_
 conv=>whnf
 refine And.intro ⟨by omega,by omega,by rw[cA];show(is.length:Int)*32≤1099511627776;omega,by rw[cA];show(is.length:Int)≤1099511627776;omega⟩ ?_
 conv=>whnf
 refine⟨fun m ρ H=>∃k:Nat,k+m=is.length∧H=[.arr 3 (cC (iL (mI zC r is) zC k))]∧Sv 41 [(0,.list e1 3 (cC r)),(1,.list e2 1 (iC is)),(5,.sl 0 is.length 0 is.length),(6,.int .i64 k)] ρ,is.length,[],?_,?_⟩
 ·refine⟨0,by omega,?_,Sv.intro rfl ⟨rfl,rfl,eS ?_ ?_,rfl,trivial⟩⟩
  ·rw[IT,dY]
   simp[cC,cA];exact .inr rfl
  ·simp[cA]
  ·simp[cA]
 rintro m ρ H ⟨k,hk,rfl,d,rfl⟩
 (conv=>whnf);refine aE (fun hlt=>?_) (fun hlt=>?_)
 ·simp[cA]at hlt
  obtain⟨i,hi,_,_⟩:=aX hlt
  have hlen:(cC (iL (mI zC r is) zC k)).length=is.length:=by rw[aW,DP _ _ _ (by rw[dY];omega),dY]
  have e1:=aY ((k:Int)+1) (by omega) (by omega)
  conv=>whnf
  refine And.intro (by omega) ?_
  (conv=>whnf);refine b4 (J0 hi) ?_
  conv=>whnf
  refine aE (fun h0=>?_) (fun h0=>?_)
  ·replace h0:decide (i≥0)=true:=h0
   simp at h0
   conv=>whnf
   refine And.intro (by omega) ?_
   (conv=>whnf);refine b4 (J0 hi) ?_
   (conv=>whnf);refine aE (fun h1=>?_) (fun h1=>?_)
   ·replace h1:decide (i<((cC r).length:Int))=true:=h1
    simp[aW]at h1
    obtain⟨x,hx,_,_⟩:=aX (l:=r) (k:=i.toNat) (by omega)
    have hw:=SF zC r is k i x hi h0 hx
    conv=>whnf
    refine And.intro (by omega) ?_
    (conv=>whnf);refine b4 (J0 hi) ?_
    (conv=>whnf);refine And.intro h0 ?_
    (conv=>whnf);refine b4 (iI hx) ?_
    (conv=>whnf);refine b8 (by rw[hlen];exact Nat.beq_refl _) ?_
    conv=>whnf
    refine And.intro ⟨by omega,by omega⟩ ?_
    (conv=>whnf);refine b8 (by rw[hlen];exact Nat.beq_refl _) ?_
    conv=>whnf
    have hidx:(cC (iL (mI zC r is) zC k))[0+(k:Int).toNat]?=some (fY zC):=by
     rw[Nat.zero_add,Int.toNat_natCast]
     exact iI (BL _ _ _ (by rw[dY];omega))
    refine b4 hidx ?_
    conv=>whnf
    refine⟨m-1,by omega,Gp.keep rfl ?_ fun ρ1 h=>⟨k+1,by omega,?_,h⟩⟩
    ·exact⟨rfl,rfl,rfl,aN e1,trivial⟩
    ·rw[←BM _ _ _ _ hw,←KA]
     show[aB.arr 3 (uH (cC (iL (mI zC r is) zC k)) (0+(k:Int).toNat) (fY x))]=_
     rw[Nat.zero_add,Int.toNat_natCast]
   ·replace h1:decide (i<((cC r).length:Int))=false:=h1
    simp[aW]at h1
    conv=>whnf
    refine⟨m-1,by omega,Gp.keep rfl ?_ fun ρ1 h=>⟨k+1,by omega,?_,h⟩⟩
    ·exact⟨rfl,rfl,rfl,aN e1,trivial⟩
    ·rw[←yX _ _ _ (EW zC r is k i hi (by omega))]
  ·replace h0:decide (i≥0)=false:=h0
   simp at h0
   conv=>whnf
   refine⟨m-1,by omega,Gp.keep rfl ?_ fun ρ1 h=>⟨k+1,by omega,?_,h⟩⟩
   ·exact⟨rfl,rfl,rfl,aN e1,trivial⟩
   ·rw[←yX _ _ _ (EW zC r is k i hi (by omega))]
 ·simp[cA]at hlt
  have:k=is.length:=by omega
  subst this
  conv=>whnf
  refine⟨rfl,?_⟩
  rw[←dY zC r is,LX]
theorem y9(e1 e2:Bool)(r:List c8)(is:List Int)(hr:r.length≤1000000)(hl:is.length≤1000000)(H:List aB):
  a7 pr 239 [.list e1 3 (cC r),.list e2 1 (iC is)] H (fun q H'=>q=.list false 3 (cC (mI zC r is))∧H'=H) :=
 a7.frz1 (by simp[a6.closed,a6.isPure]) (qY e1 e2 r is hr hl) (by rw[aW,dY]) (cI _)
theorem y5(l:List Int):bG (iC l)=true:=by simp[bG,iC,a6.isPure]
theorem P1(a b:List Int):iC (a++b)=iC a++iC b:=List.map_append
def sC(l:List ByteArray):List (List a6):=l.map fun s=>[.str s]
theorem aP(l:List ByteArray):(sC l).length=l.length:=List.length_map ..
theorem jU(a b:List ByteArray):sC (a++b)=sC a++sC b:=List.map_append
theorem aO(l:List ByteArray):bG (sC l)=true:=by simp[bG,sC,a6.isPure]
theorem mL{l:List ByteArray}{k:Nat}{x:ByteArray}(h:l[k]?=some x):(sC l)[k]?=some [.str x]:=by simp[sC,h]
def OV(s t:ByteArray):Bool:=s.data.toList==t.data.toList
theorem tG{α:Type}(p:α→Bool):∀(l:List α) (i:Int),0≤i→(fT p l i≥0↔l.any p=true)
 |[],i,h=>by simp[fT]
 |c::cs,i,h=>by
  rw[fT]
  split
  ·simp_all
  ·rw[tG p cs (i+1) (by omega)];simp_all
set_option maxRecDepth 20000 in
theorem vN(ex:Bool)(l:List ByteArray)(hl:l.length≤1000000)(s:ByteArray)(H:List aB):
  a7 pr 137 [.list ex 1 (sC l),.str s] H (fun r H'=>r=.bool (l.any (OV s))∧H'=H):=by
 refine a7.pure (by simp[a6.closed,a6.isPure]) (aA k137.has ?_)
 conv=>whnf
 refine⟨fun m ρ H1=>∃k:Nat,k+m=l.length∧(l.drop k).any (OV s)=l.any (OV s)∧H1=[] ∧
  Sv 18 [(0,.list ex 1 (sC l)),(1,.str s),(5,.int .i64 k)] ρ,l.length,[],?_,?_⟩
 ·exact⟨0,by omega,rfl,rfl,Sv.intro rfl ⟨rfl,rfl,rfl,trivial⟩⟩
 rintro m ρ H1 ⟨k,hk,hr,rfl,d,rfl⟩
 (conv=>whnf);refine aE (fun hlt=>?_) (fun hlt=>?_)
 ·simp[aP]at hlt
  obtain⟨c,hc,hd,_⟩:=aX hlt
  rw[hd,List.any_cons]at hr
  have hcm:OV s c=(c.data.toList==s.data.toList):=by rw[OV,BEq.comm]
  conv=>whnf
  refine And.intro (by omega) ?_
  (conv=>whnf);refine b4 (mL hc) ?_
  (conv=>whnf);refine aE (fun h=>?_) (fun hf=>?_)
  ·conv=>whnf
   refine i3 ?_
   rw[←hr,hcm,show(c.data.toList==s.data.toList)=true from h];rfl
  ·conv=>whnf
   refine⟨m-1,by omega,Gp.keep rfl ?_ fun ρ1 h=>⟨k+1,by omega,?_,rfl,h⟩⟩
   ·exact⟨rfl,rfl,aN (aY ((k:Int)+1) (by omega) (by omega)),trivial⟩
   ·rw[←hr,hcm,show(c.data.toList==s.data.toList)=false from hf];rfl
 ·simp[aP]at hlt
  conv=>whnf
  rw[List.drop_eq_nil_of_le hlt]at hr
  exact i3 hr
def z7(cs:List c8)(names:List ByteArray):List ByteArray→Nat→List Int→a6
 |[],_,out=>.tuple [.list false 1 (iC out),.int .i64 0]
 |s::ss,k,out=>if dZ cs s<0 then .tuple [.nil,.int .i64 5]else if(names.take k).any (OV s)=true then .tuple [.nil,.int .i64 6]else z7 cs names ss (k+1) (out++[dZ cs s])
def XF(cs:List c8)(names:List ByteArray):a6:=z7 cs names names 0 []
set_option maxRecDepth 20000 in
theorem wI(e1 e2:Bool)(cs:List c8)(names:List ByteArray)(hc:cs.length≤1000000)(hl:names.length≤1000000)(H:List aB):
  a7 pr 238 [.list e1 3 (cC cs),.list e2 1 (sC names)] H (fun r H'=>r=XF cs names∧H'=H):=by
 refine a7.pure (by simp[a6.closed,a6.isPure]) (aA k238.has ?_)
 conv=>whnf
 refine⟨fun m ρ H1=>∃(k:Nat) (out:List Int),k+m=names.length∧out.length=k∧z7 cs names (names.drop k) k out=XF cs names∧H1=[.arr 1 (iC out)] ∧
  Sv 36 [(0,.list e1 3 (cC cs)),(1,.list e2 1 (sC names)),(6,.sl 0 k 0 k),(7,.int .i64 k)] ρ,names.length,[(6,1)],?_,?_⟩
 ·exact⟨0,[],by omega,rfl,rfl,by rfl,Sv.intro rfl ⟨rfl,rfl,rfl,rfl,trivial⟩⟩
 rintro m ρ H1 ⟨k,out,hk,ho,hr,rfl,d,rfl⟩
 have hol:(iC out).length=k:=by rw[cA,ho]
 (conv=>whnf);refine aE (fun hlt=>?_) (fun hlt=>?_)
 ·simp[aP]at hlt
  obtain⟨s,hs,hd,_⟩:=aX hlt
  rw[hd,z7]at hr
  conv=>whnf
  refine And.intro (by omega) ?_
  (conv=>whnf);refine b4 (mL hs) ?_
  conv=>whnf
  refine a7.use (bB e1 cs hc s _) ?_
  (conv=>whnf);refine aE (fun h=>?_) (fun h=>?_)
  ·replace h:decide (dZ cs s<0)=true:=h
   simp at h
   conv=>whnf
   rw[←hr,if_pos h]
   exact dU (.closed _ rfl) (.closed _ rfl)
  ·replace h:decide (dZ cs s<0)=false:=h
   simp at h
   rw[if_neg (by omega)]at hr
   have hC:=fun H=>vN (e2&&(some (bA.t 24)).isNone) (names.take k) (by simp;omega) s H
   have htk:sC (names.take k)=List.drop 0 (List.take (k:Int).toNat (sC names)):=by simp[sC]
   rw[htk]at hC
   conv=>whnf
   refine And.intro ⟨by omega,by rw[aP];omega⟩ ?_
   conv=>whnf
   refine And.intro (by omega) ?_
   (conv=>whnf);refine b4 (mL hs) ?_
   conv=>whnf
   refine⟨_,hC _,?_⟩
   (conv=>whnf);refine aE (fun g=>?_) (fun g=>?_)
   ·rw[if_pos g]at hr
    conv=>whnf
    rw[←hr]
    exact dU (.closed _ rfl) (.closed _ rfl)
   ·rw[if_neg (by rw[show(names.take k).any (OV s)=false from g];simp)]at hr
    (conv=>whnf);refine b8 (by rw[hol];exact Nat.beq_refl _) ?_
    (conv=>whnf);refine And.intro ⟨cM (by simp;omega) (by omega),bK (by simp;omega),rfl,by rw[hol]⟩ ?_
    conv=>whnf
    have hl1:(iC out++[[a6.int .i64 (dZ cs s)]]).length=k+1:=by rw[List.length_append,hol];rfl
    refine⟨m-1,by omega,Gp.one 0 1 (iC (out++[dZ cs s])) (by rw[P1];rfl) (y5 _) rfl ?_ fun ρ1 h=>⟨k+1,out++[dZ cs s],by omega,by simp[ho],hr,rfl,h⟩⟩
    exact⟨.closed _ rfl,.closed _ rfl,kS (k:=0) rfl rfl hl1 hl1,eT (aY ((k:Int)+1) (by omega) (by omega)),trivial⟩
 ·simp[aP]at hlt
  rw[List.drop_eq_nil_of_le hlt,z7]at hr
  conv=>whnf
  rw[←hr]
  exact dU (sE rfl hol.symm hol.symm (y5 _)) (.closed _ rfl)
structure cU where
 row:List V
 cnt:Int
def j4(e:cU):List a6:=[.list false 3 (vC e.row),.int .i64 e.cnt]
def eC(l:List cU):List (List a6):=l.map j4
theorem aR(l:List cU):(eC l).length=l.length:=List.length_map ..
theorem l5(a b:List cU):eC (a++b)=eC a++eC b:=List.map_append
theorem gM(l:List cU):bG (eC l)=true:=by simp[bG,eC,j4,a6.isPure]
theorem eP{l:List cU}{k:Nat}{x:cU}(h:l[k]?=some x):(eC l)[k]?=some (j4 x):=by
 rw[eC,List.getElem?_map,h];rfl
def iF(e:cU):Int:=if 12<e.row.length∨e.cnt < -65536∨65536<e.cnt then 2 else if e.row.all c7 then 0 else 8
theorem oX(e:cU)(h:iF e=0):e.row.length≤12 ∧ -65536≤e.cnt∧e.cnt≤65536∧∀v∈e.row,c7 v=true:=by
 unfold iF at h
 split at h
 ·cases h
 ·split at h
  ·rename_i h1 h2
   exact⟨by omega,by omega,by omega,by simpa using h2⟩
  ·cases h
set_option maxRecDepth 20000 in
theorem IV(x:cU)(H:List aB):
  a7 pr 166 [.agg (j4 x)] H (fun r H'=>r=.int .i64 (iF x)∧H'=H):=by
 refine a7.pure (by simp[a6.closed,j4,a6.isPure]) (aA k166.has ?_)
 (conv=>whnf);refine aE (fun h0=>?_) (fun h0=>?_)
 ·simp[b9]at h0
  conv=>whnf
  exact cZ (by rw[iF,if_pos (by omega)])
 simp[b9]at h0
 (conv=>whnf);refine aE (fun h1=>?_) (fun h1=>?_)
 ·simp at h1
  conv=>whnf
  exact cZ (by rw[iF,if_pos (by omega)])
 simp at h1
 (conv=>whnf);refine aE (fun h2=>?_) (fun h2=>?_)
 ·simp at h2
  conv=>whnf
  exact cZ (by rw[iF,if_pos (by omega)])
 simp at h2
 have hR:iF x=if x.row.all c7 then 0 else 8:=by rw[iF,if_neg (by omega)]
 conv=>whnf
 refine⟨fun m ρ H1=>∃k:Nat,k+m=x.row.length∧(x.row.drop k).all c7=x.row.all c7∧H1=[.arr 2 [j4 x]] ∧
  Sv 30 [(20,.list false 3 (vC x.row)),(21,.int .i64 x.row.length),(22,.int .i64 k)] ρ,x.row.length,[],?_,?_⟩
 ·exact⟨0,by omega,rfl,rfl,Sv.intro rfl ⟨rfl,aN (by rw[b9]),rfl,trivial⟩⟩
 rintro m ρ H1 ⟨k,hk,hr,rfl,d,rfl⟩
 (conv=>whnf);refine aE (fun hlt=>?_) (fun hlt=>?_)
 ·simp at hlt
  obtain⟨v,hv,hd,_⟩:=aX hlt
  rw[hd,List.all_cons]at hr
  conv=>whnf
  refine And.intro (by omega) ?_
  (conv=>whnf);refine b4 (r7 hv) ?_
  conv=>whnf
  refine a7.use (iY v _) ?_
  (conv=>whnf);refine aE (fun h=>?_) (fun hf=>?_)
  ·replace h:(!(c7 v))=true:=h
   conv=>whnf
   exact cZ (by rw[hR,←hr,if_neg (by simp_all)])
  ·replace hf:(!(c7 v))=false:=hf
   conv=>whnf
   refine⟨m-1,by omega,Gp.one 0 2 [j4 x] rfl (by simp[bG,j4,a6.isPure]) rfl ?_ fun ρ1 h=>⟨k+1,by omega,?_,rfl,h⟩⟩
   ·exact⟨.closed _ rfl,.closed _ rfl,eT (aY ((k:Int)+1) (by omega) (by omega)),trivial⟩
   ·rw[←hr];simp_all
 ·simp at hlt
  conv=>whnf
  rw[List.drop_eq_nil_of_le hlt]at hr
  exact cZ (by rw[hR,←hr];rfl)
theorem D7(n:Int)(H:List aB):
  a7 pr 170 [.int .i64 n] H (fun r H'=>r=.bool (decide (-65536≤n)&&decide (n≤65536))∧H'=H):=by
 refine a7.pure rfl (aA k170.has ?_)
 (conv=>whnf);refine aE (fun h=>?_) (fun h=>?_)
 ·simp at h
  conv=>whnf
  exact i3 (by simp[h])
 ·simp at h
  conv=>whnf
  exact i3 (by simp;omega)
set_option maxRecDepth 20000 in
theorem EG(x:cU)(H:List aB):
  a7 pr 124 [.agg (j4 x)] H (fun r H'=>r=.int .i64 (iF x)∧H'=H):=by
 refine a7.pure (by simp[a6.closed,j4,a6.isPure]) (aA k124.has ?_)
 (conv=>whnf);refine aE (fun h0=>?_) (fun h0=>?_)
 ·simp[b9]at h0
  conv=>whnf
  exact cZ (by rw[iF,if_pos (by omega)])
 simp[b9]at h0
 (conv=>whnf);refine a7.use (D7 _ _) ?_
 (conv=>whnf);refine aE (fun h1=>?_) (fun h1=>?_)
 ·replace h1:(!(decide (-65536≤x.cnt)&&decide (x.cnt≤65536)))=true:=h1
  simp at h1
  conv=>whnf
  exact cZ (by rw[iF,if_pos (by omega)])
 replace h1:(!(decide (-65536≤x.cnt)&&decide (x.cnt≤65536)))=false:=h1
 simp at h1
 have hR:iF x=if x.row.all c7 then 0 else 8:=by rw[iF,if_neg (by omega)]
 conv=>whnf
 refine⟨fun m ρ H1=>∃k:Nat,k+m=x.row.length∧(x.row.drop k).all c7=x.row.all c7∧H1=[.arr 2 [j4 x]] ∧
  Sv 28 [(1,.ptr 0 1 0 0),(3,.int .i64 k)] ρ,x.row.length,[],?_,?_⟩
 ·exact⟨0,by omega,rfl,rfl,Sv.intro rfl ⟨rfl,rfl,trivial⟩⟩
 rintro m ρ H1 ⟨k,hk,hr,rfl,d,rfl⟩
 (conv=>whnf);refine aE (fun hlt=>?_) (fun hlt=>?_)
 ·simp[b9]at hlt
  obtain⟨v,hv,hd,_⟩:=aX hlt
  rw[hd,List.all_cons]at hr
  conv=>whnf
  refine And.intro (by omega) ?_
  (conv=>whnf);refine b4 (r7 hv) ?_
  conv=>whnf
  refine a7.use (i4 v _) ?_
  (conv=>whnf);refine aE (fun h=>?_) (fun hf=>?_)
  ·replace h:(!(c7 v))=true:=h
   conv=>whnf
   exact cZ (by rw[hR,←hr,if_neg (by simp_all)])
  ·replace hf:(!(c7 v))=false:=hf
   conv=>whnf
   refine⟨m-1,by omega,Gp.keep rfl ?_ fun ρ1 h=>⟨k+1,by omega,?_,rfl,h⟩⟩
   ·exact⟨rfl,aN (aY ((k:Int)+1) (by omega) (by omega)),trivial⟩
   ·rw[←hr];simp_all
 ·simp[b9]at hlt
  conv=>whnf
  rw[List.drop_eq_nil_of_le hlt]at hr
  exact cZ (by rw[hR,←hr];rfl)
def CE:Option (List V)→List V→Bool
 |some q,r=>decide (bF q r≥0)
 |none,_=>false
def xI:List cU→Option (List V)→Int
 |[],_=>0
 |e::es,p=>if iF e≠0 then iF e else if e.cnt=0 then 8 else if CE p e.row=true then 14 else xI es (some e.row)
def gI(b:List cU):Int:=if 4096<b.length then 2 else xI b none
def zF(b:List cU):Nat→Option (List V)
 |0=>none
 |k+1=>(b[k]?).map cU.row
theorem g7{b:List cU}{k:Nat}{x:cU}(h:b[k]?=some x):zF b (k+1)=some x.row:=by rw[zF,h];rfl
set_option maxRecDepth 20000 in
theorem nK(ex:Bool)(b:List cU)(H:List aB):
  a7 pr 118 [.list ex 2 (eC b)] H (fun r H'=>r=.int .i64 (gI b)∧H'=H):=by
 refine a7.pure (by simp[a6.closed,a6.isPure]) (aA k118.has ?_)
 (conv=>whnf);refine aE (fun h0=>?_) (fun h0=>?_)
 ·simp[aR]at h0
  conv=>whnf
  exact cZ (by rw[gI,if_pos (by omega)])
 simp[aR]at h0
 have hR:gI b=xI b none:=by rw[gI,if_neg (by omega)]
 conv=>whnf
 refine⟨fun m ρ H1=>∃k:Nat,k+m=b.length∧xI (b.drop k) (zF b k)=gI b∧(∀q,zF b k=some q→q.length≤12)∧H1=[] ∧
  Sv 39 [(0,.list ex 2 (eC b)),(9,.list ex 2 (eC b)),(10,.int .i64 b.length),(11,.int .i64 k)] ρ,b.length,[],?_,?_⟩
 ·exact⟨0,by omega,hR.symm,fun q h=>(by cases h),rfl,Sv.intro rfl ⟨rfl,rfl,aN (by rw[aR]),rfl,trivial⟩⟩
 rintro m ρ H1 ⟨k,hk,hr,hq,rfl,d,rfl⟩
 (conv=>whnf);refine aE (fun hlt=>?_) (fun hlt=>?_)
 ·simp at hlt
  obtain⟨x,hx,hd,_⟩:=aX hlt
  rw[hd,xI]at hr
  have ew:=aY ((k:Int)+1) (by omega) (by omega)
  conv=>whnf
  refine And.intro (by omega) ?_
  (conv=>whnf);refine b4 (eP hx) ?_
  conv=>whnf
  refine a7.use (IV x _) ?_
  (conv=>whnf);refine aE (fun h=>?_) (fun h=>?_)
  ·replace h:(!(iF x==0))=true:=h
   simp at h
   conv=>whnf
   exact cZ (by rw[←hr,if_pos h])
  replace h:(!(iF x==0))=false:=h
  simp at h
  obtain⟨g1,g2,g3,g4⟩:=oX x h
  rw[if_neg (by simp[h])]at hr
  (conv=>whnf);refine aE (fun hz=>?_) (fun hz=>?_)
  ·replace hz:(x.cnt==0)=true:=hz
   simp at hz
   conv=>whnf
   exact cZ (by rw[←hr,if_pos hz])
  replace hz:(x.cnt==0)=false:=hz
  simp at hz
  rw[if_neg hz]at hr
  (conv=>whnf);refine aE (fun hp=>?_) (fun hp=>?_)
  ·replace hp:decide ((k:Int)>0)=true:=hp
   simp at hp
   obtain⟨j,rfl⟩:∃j,k=j+1:=⟨k-1,by omega⟩
   obtain⟨y,hy,_,_⟩:=aX (l:=b) (k:=j) (by omega)
   have ej:=aY (((j+1:Nat):Int)-1) (by omega) (by omega)
   have hy2:(eC b)[(IntKind.i64.wrap (((j+1:Nat):Int)-1)).toNat]?=some (j4 y):=by
    rw[ej,show((((j+1:Nat):Int)-1).toNat)=j by omega];exact eP hy
   rw[g7 hy]at hq hr
   have hql:=hq _ rfl
   (conv=>whnf);refine And.intro (by rw[ej];omega) ?_
   (conv=>whnf);refine b4 hy2 ?_
   conv=>whnf
   refine⟨_,qT false false y.row x.row (by omega) _,?_⟩
   (conv=>whnf);refine aE (fun hc=>?_) (fun hc=>?_)
   ·replace hc:decide (bF y.row x.row≥0)=true:=hc
    conv=>whnf
    exact cZ (by rw[←hr,if_pos (show CE (some y.row) x.row=true from hc)])
   ·replace hc:decide (bF y.row x.row≥0)=false:=hc
    conv=>whnf
    rw[if_neg (by rw[show CE (some y.row) x.row=false from hc];simp)]at hr
    refine⟨m-1,by omega,Gp.none rfl ?_ fun ρ1 h=>⟨j+1+1,by omega,?_,?_,rfl,h⟩⟩
    ·exact⟨.closed _ rfl,.closed _ rfl,.closed _ rfl,eT ew,trivial⟩
    ·rw[g7 hx];exact hr
    ·rw[g7 hx];intro q hq2;cases hq2;exact g1
  ·replace hp:decide ((k:Int)>0)=false:=hp
   simp at hp
   subst hp
   conv=>whnf
   rw[if_neg (by simp[zF,CE])]at hr
   refine⟨m-1,by omega,Gp.none rfl ?_ fun ρ1 h=>⟨0+1,by omega,?_,?_,rfl,h⟩⟩
   ·exact⟨.closed _ rfl,.closed _ rfl,.closed _ rfl,eT ew,trivial⟩
   ·rw[g7 hx];exact hr
   ·rw[g7 hx];intro q hq2;cases hq2;exact g1
 ·simp at hlt
  conv=>whnf
  rw[List.drop_eq_nil_of_le hlt]at hr
  exact cZ hr
set_option maxRecDepth 20000 in
theorem nC(ex:Bool)(b:List cU)(H:List aB):
  a7 pr 72 [.list ex 2 (eC b)] H (fun r H'=>r=.int .i64 (gI b)∧H'=H):=by
 refine a7.pure (by simp[a6.closed,a6.isPure]) (aA k72.has ?_)
 (conv=>whnf);refine aE (fun h0=>?_) (fun h0=>?_)
 ·simp[aR]at h0
  conv=>whnf
  exact cZ (by rw[gI,if_pos (by omega)])
 simp[aR]at h0
 have hR:gI b=xI b none:=by rw[gI,if_neg (by omega)]
 conv=>whnf
 refine⟨fun m ρ H1=>∃k:Nat,k+m=b.length∧xI (b.drop k) (zF b k)=gI b∧(∀q,zF b k=some q→q.length≤12)∧H1=[] ∧
  Sv 45 [(0,.list ex 2 (eC b)),(3,.int .i64 k)] ρ,b.length,[],?_,?_⟩
 ·exact⟨0,by omega,hR.symm,fun q h=>(by cases h),rfl,Sv.intro rfl ⟨rfl,rfl,trivial⟩⟩
 rintro m ρ H1 ⟨k,hk,hr,hq,rfl,d,rfl⟩
 (conv=>whnf);refine aE (fun hlt=>?_) (fun hlt=>?_)
 ·simp[aR]at hlt
  obtain⟨x,hx,hd,_⟩:=aX hlt
  rw[hd,xI]at hr
  have ew:=aY ((k:Int)+1) (by omega) (by omega)
  conv=>whnf
  refine And.intro (by omega) ?_
  (conv=>whnf);refine b4 (eP hx) ?_
  conv=>whnf
  refine a7.use (EG x _) ?_
  (conv=>whnf);refine aE (fun h=>?_) (fun h=>?_)
  ·replace h:(!(iF x==0))=true:=h
   simp at h
   conv=>whnf
   exact cZ (by rw[←hr,if_pos h])
  replace h:(!(iF x==0))=false:=h
  simp at h
  obtain⟨g1,g2,g3,g4⟩:=oX x h
  rw[if_neg (by simp[h])]at hr
  (conv=>whnf);refine And.intro (by omega) ?_
  (conv=>whnf);refine b4 (eP hx) ?_
  (conv=>whnf);refine aE (fun hz=>?_) (fun hz=>?_)
  ·replace hz:(x.cnt==0)=true:=hz
   simp at hz
   conv=>whnf
   exact cZ (by rw[←hr,if_pos hz])
  replace hz:(x.cnt==0)=false:=hz
  simp at hz
  rw[if_neg hz]at hr
  (conv=>whnf);refine aE (fun hp=>?_) (fun hp=>?_)
  ·replace hp:decide ((k:Int)>0)=true:=hp
   simp at hp
   obtain⟨j,rfl⟩:∃j,k=j+1:=⟨k-1,by omega⟩
   obtain⟨y,hy,_,_⟩:=aX (l:=b) (k:=j) (by omega)
   have ej:=aY (((j+1:Nat):Int)-1) (by omega) (by omega)
   have hy2:(eC b)[(IntKind.i64.wrap (((j+1:Nat):Int)-1)).toNat]?=some (j4 y):=by
    rw[ej,show((((j+1:Nat):Int)-1).toNat)=j by omega];exact eP hy
   rw[g7 hy]at hq hr
   have hql:=hq _ rfl
   (conv=>whnf);refine And.intro (by rw[ej];omega) ?_
   (conv=>whnf);refine b4 hy2 ?_
   (conv=>whnf);refine And.intro (by omega) ?_
   (conv=>whnf);refine b4 (eP hx) ?_
   conv=>whnf
   refine⟨_,kU false false y.row x.row (by omega) _,?_⟩
   (conv=>whnf);refine aE (fun hc=>?_) (fun hc=>?_)
   ·replace hc:decide (bF y.row x.row≥0)=true:=hc
    conv=>whnf
    exact cZ (by rw[←hr,if_pos (show CE (some y.row) x.row=true from hc)])
   ·replace hc:decide (bF y.row x.row≥0)=false:=hc
    conv=>whnf
    rw[if_neg (by rw[show CE (some y.row) x.row=false from hc];simp)]at hr
    refine⟨m-1,by omega,Gp.none rfl ?_ fun ρ1 h=>⟨j+1+1,by omega,?_,?_,rfl,h⟩⟩
    ·exact⟨.closed _ rfl,eT ew,trivial⟩
    ·rw[g7 hx];exact hr
    ·rw[g7 hx];intro q hq2;cases hq2;exact g1
  ·replace hp:decide ((k:Int)>0)=false:=hp
   simp at hp
   subst hp
   conv=>whnf
   rw[if_neg (by simp[zF,CE])]at hr
   refine⟨m-1,by omega,Gp.none rfl ?_ fun ρ1 h=>⟨0+1,by omega,?_,?_,rfl,h⟩⟩
   ·exact⟨.closed _ rfl,eT ew,trivial⟩
   ·rw[g7 hx];exact hr
   ·rw[g7 hx];intro q hq2;cases hq2;exact g1
 ·simp[aR]at hlt
  conv=>whnf
  rw[List.drop_eq_nil_of_le hlt]at hr
  exact cZ hr
end Go.AW
namespace Go.AW
variable [dE]
theorem a7.weakR{P:Program}{f:FuncId}{args:List a6}{H:List aB}{Q Q':a6→List aB→Prop}(h:a7 P f args H Q)(hq:∀r H',Q r H'→∃r',Wk r r'∧Q' r' H'):a7 P f args H Q':=by
 intro C τ w vs hw hl hr
 have h:=h C τ w vs hw hl hr
 unfold eU at h⊢
 split at h
 ·exact Calls.mono h fun e w' ⟨v,r,C',τ',H',h1,h2,h3,h4⟩=>by
   obtain⟨r',hk,hq'⟩:=hq _ _ h2
   exact⟨v,r',C',τ',H',h1,hq',h3.weak hk,h4⟩
 ·obtain⟨v,r,C',τ',H',h1,h2,h3,h4⟩:=h
  obtain⟨r',hk,hq'⟩:=hq _ _ h2
  exact⟨v,r',C',τ',H',h1,hq',h3.weak hk,h4⟩
 ·exact h
attribute [local irreducible] a7
def kM(n:Int):Bool:=decide (-65536≤n)&&decide (n≤65536)
def nG:List cU→List cU→List cU
 |[],b=>b
 |x::a,[]=>x::a
 |x::a,y::b=>if bF x.row y.row<0 then x::nG a (y::b)else if 0<bF x.row y.row then y::nG (x::a) b else⟨x.row,x.cnt+y.cnt⟩::nG a b
termination_by a b=>a.length+b.length
theorem kG(b:List cU):nG [] b=b:=by rw[nG]
theorem p5(a:List cU):nG a []=a:=by
 cases a with
 |nil=>rw[nG]
 |cons x a=>rw[nG]
theorem lR(x y:cU)(a b:List cU):nG (x::a) (y::b)=if bF x.row y.row<0 then x::nG a (y::b)else if 0<bF x.row y.row then y::nG (x::a) b else⟨x.row,x.cnt+y.cnt⟩::nG a b:=by rw[nG]
def vM(e:cU):Bool:=!(e.cnt==0)
def A5(l:List cU):a6 :=
 if(l.all fun e=>kM e.cnt)=true∧(l.filter vM).length≤4096 then .tuple [.list false 2 (eC (l.filter vM)),.int .i64 0]else .tuple [.nil,.int .i64 2]
def HS(e:cU):Prop:=e.row.length≤12 ∧ -65536≤e.cnt∧e.cnt≤65536
theorem SQ(l:List cU)(h:(l.all fun e=>kM e.cnt)=false):A5 l=.tuple [.nil,.int .i64 2]:=by
 rw[A5,if_neg (by simp[h])]
theorem XM{a b a1:List cU}{x:cU}(ha:a=x::a1)(h:b=[]∨∃y b1,b=y::b1∧bF x.row y.row<0):nG a b=x::nG a1 b:=by
 subst ha
 rcases h with rfl|⟨y,b1,rfl,h⟩
 ·rw[p5,p5]
 ·rw[lR,if_pos h]
theorem XN{a b b1:List cU}{y:cU}(hb:b=y::b1)(h:a=[]∨∃x a1,a=x::a1∧0<bF x.row y.row):nG a b=y::nG a b1:=by
 subst hb
 rcases h with rfl|⟨x,a1,rfl,h⟩
 ·rw[kG,kG]
 ·rw[lR,if_neg (by omega),if_pos h]
theorem Z0{a b a1 b1:List cU}{x y:cU}(ha:a=x::a1)(hb:b=y::b1)(h:bF x.row y.row=0):nG a b=⟨x.row,x.cnt+y.cnt⟩::nG a1 b1:=by
 subst ha hb
 rw[lR,if_neg (by omega),if_neg (by omega)]
theorem F7(es:List cU):List.drop (1:Int).toNat (List.take (eC es).length (eC es))=eC (es.drop 1):=by
 rw[List.take_length];simp[eC]
theorem PI{H1:List aB}{n:Nat}{ids:List Nat}{f:Bool}{sz:Nat}{X Y:List (List a6)}(h:X=Y):dV H1 n ids (.list f sz X) (.list f sz Y):=by subst h;exact .closed _ rfl
theorem qE:∀(a b:List cU),(nG a b).length≤a.length+b.length
 |[],b=>by rw[kG];omega
 |x::a,[]=>by rw[p5];omega
 |x::a,y::b=>by
  rw[lR]
  have h1:=qE a (y::b)
  have h2:=qE (x::a) b
  have h3:=qE a b
  split
  ·simp at h1 ⊢;omega
  split
  ·simp at h2 ⊢;omega
  ·simp;omega
termination_by a b=>a.length+b.length
theorem WJ(O:List cU)(row:List V)(c:Int)(n:Nat)(H:List aB)(h1:H[1]?=some (.arr 3 (vC row)))(hn:n=row.length):
  A9 H [0] (.arr 2 (eC O++[[.sl 1 n 0 n,.int .i64 c]])) (.arr 2 (eC (O++[⟨row,c⟩]))):=by
 have hp:dV H 0 [0] (.sl 1 n 0 n) (.list false 3 (vC row)):=by
  have h:=dV.frz (n:=0) (ids:=[0]) 1 (vC row).length 0 (vC row).length 3 (vC row) h1 rfl (l9 _) (by simp)
  rw[List.drop_zero,List.take_length,b9,←hn]at h
  exact h
 have hcell:∀(e:cU) (j:Nat) (d d1:a6),(j4 e)[j]?=some d→(j4 e)[j]?=some d1→dV H 0 [0] d d1∧d1.isCell=true:=by
  intro e j d d1 h2 h3
  rcases j with _|_|j
  ·cases h2;cases h3;exact⟨.closed _ rfl,rfl⟩
  ·cases h2;cases h3;exact⟨.closed _ rfl,rfl⟩
  ·simp[j4]at h2
 have hi:∀(i:Nat) (e e1:List a6),(eC O++[[.sl 1 n 0 n,.int .i64 c]])[i]?=some e→(eC (O++[⟨row,c⟩]))[i]?=some e1 →
   (∃x:cU,e=j4 x∧e1=j4 x)∨(e=[.sl 1 n 0 n,.int .i64 c]∧e1=j4 ⟨row,c⟩):=by
  intro i e e1 h2 h3
  rw[l5]at h3
  by_cases hlt:i<(eC O).length
  ·rw[List.getElem?_append_left hlt]at h2 h3
   rw[eC,List.getElem?_map]at h2 h3
   rcases hO:O[i]? with _|x
   ·rw[hO]at h2;cases h2
   ·rw[hO]at h2 h3
    cases h2;cases h3
    exact .inl ⟨x,rfl,rfl⟩
  ·rw[List.getElem?_append_right (by omega)]at h2 h3
   rcases hk:i-(eC O).length with _|k
   ·rw[hk]at h2 h3
    simp at h2;simp[eC]at h3
    exact .inr ⟨h2.symm,h3.symm⟩
   ·rw[hk]at h2;simp at h2
 refine .map 2 _ _ (by simp[eC]) (fun i e e1 h2 h3=>?_) (fun i j e e1 d d1 h2 h3 h4 h5=>?_)
 ·rcases hi i e e1 h2 h3 with⟨x,rfl,rfl⟩|⟨rfl,rfl⟩<;>rfl
 ·rcases hi i e e1 h2 h3 with⟨x,rfl,rfl⟩|⟨rfl,rfl⟩
  ·exact hcell x j d d1 h4 h5
  ·rcases j with _|_|j
   ·cases h4;cases h5;exact⟨hp,rfl⟩
   ·cases h4;cases h5;exact⟨.closed _ rfl,rfl⟩
   ·simp at h4
theorem tV(pre l:List cU)(h:∃t,l=pre++t):(pre.filter vM).length≤(l.filter vM).length:=by
 obtain⟨t,rfl⟩:=h
 rw[List.filter_append,List.length_append];omega
set_option maxRecDepth 20000 in
theorem yC(ex:Bool)(l:List cU)(hl:l.length≤100000)(hr:∀e∈l,e.row.length≤1000)(H:List aB):
  a7 pr 199 [.list ex 2 (eC l)] H (fun r H'=>r=A5 l∧H'=H):=by
 refine a7.pure (by simp[a6.closed,a6.isPure]) (aA k199.has ?_)
 conv=>whnf
 refine⟨fun m ρ H=>∃k:Nat,k+m=l.length∧((l.take k).all fun e=>kM e.cnt)=true∧((l.take k).filter vM).length≤4096∧H=[.arr 2 (eC ((l.take k).filter vM))] ∧
   Sv 46 [(0,.list ex 2 (eC l)),(4,.sl 0 ((l.take k).filter vM).length 0 ((l.take k).filter vM).length),(5,.int .i64 k)] ρ,l.length,[(4,2)],?_,?_⟩
 ·exact⟨0,by omega,rfl,by simp,by rfl,Sv.intro rfl ⟨rfl,rfl,rfl,trivial⟩⟩
 rintro m ρ H ⟨k,hk,hP,hO,rfl,d,rfl⟩
 (conv=>whnf);refine aE (fun hlt=>?_) (fun hlt=>?_)
 ·simp[aR]at hlt
  obtain⟨x,hx,hxd,hxm⟩:=aX hlt
  have ew:=aY ((k:Int)+1) (by omega) (by omega)
  have hxr:=hr x hxm
  have hT:l.take (k+1)=l.take k++[x]:=by rw[List.take_add_one,hx];rfl
  have hl2:l=l.take k++x::l.drop (k+1):=by rw[←hxd,List.take_append_drop]
  conv=>whnf
  refine And.intro (by omega) ?_
  (conv=>whnf);refine b4 (eP hx) ?_
  (conv=>whnf);refine aE (fun hz=>?_) (fun hz=>?_)
  ·replace hz:(x.cnt==0)=true:=hz
   simp at hz
   have hF:(l.take (k+1)).filter vM=(l.take k).filter vM:=by rw[hT,List.filter_append];simp[vM,hz]
   conv=>whnf
   refine⟨m-1,by omega,Gp.keep rfl ?_ fun ρ1 h=>⟨k+1,by omega,?_,?_,?_,h⟩⟩
   ·exact⟨rfl,by rw[hF];rfl,aN ew,trivial⟩
   ·rw[hT,List.all_append,hP];simp[kM,hz]
   ·rw[hF];exact hO
   ·rw[hF]
  replace hz:(x.cnt==0)=false:=hz
  simp at hz
  conv=>whnf
  refine And.intro (by omega) ?_
  (conv=>whnf);refine b4 (eP hx) ?_
  conv=>whnf
  refine a7.use (D7 _ _) ?_
  (conv=>whnf);refine aE (fun hs=>?_) (fun hs=>?_)
  ·replace hs:(!(kM x.cnt))=true:=hs
   simp at hs
   conv=>whnf
   rw[SQ l (by rw[hl2];simp[hs])]
   exact dU (.closed _ rfl) (.closed _ rfl)
  replace hs:(!(kM x.cnt))=false:=hs
  simp at hs
  have hF:(l.take (k+1)).filter vM=(l.take k).filter vM++[x]:=by rw[hT,List.filter_append];simp[vM,hz]
  (conv=>whnf);refine b8 (by rw[aR];exact Nat.beq_refl _) ?_
  (conv=>whnf);refine aE (fun hq=>?_) (fun hq=>?_)
  ·replace hq:((((l.take k).filter vM).length:Int)==4096)=true:=hq
   simp at hq
   conv=>whnf
   have h3:=tV (l.take (k+1)) l ⟨l.drop (k+1),(List.take_append_drop _ _).symm⟩
   rw[hF,List.length_append]at h3
   rw[A5,if_neg (by simp at h3;omega)]
   exact dU (.closed _ rfl) (.closed _ rfl)
  ·replace hq:((((l.take k).filter vM).length:Int)==4096)=false:=hq
   simp at hq
   conv=>whnf
   refine And.intro (by omega) ?_
   (conv=>whnf);refine b4 (eP hx) ?_
   (conv=>whnf);refine And.intro ⟨cM (by rw[b9];omega) (by omega),bK (by rw[b9];omega)⟩ ?_
   (conv=>whnf);refine And.intro (by omega) ?_
   (conv=>whnf);refine b4 (eP hx) ?_
   (conv=>whnf);refine b8 (by rw[aR];exact Nat.beq_refl _) ?_
   (conv=>whnf);refine And.intro ⟨cM (by simp;omega) (by omega),bK (by simp;omega),rfl,by rw[aR]⟩ ?_
   conv=>whnf
   refine And.intro (by(conv=>whnf);try rfl) ?_
   conv=>whnf
   refine And.intro (by(conv=>whnf);refine And.intro (by omega) ?_;(conv=>whnf);refine b4 (eP hx) ?_;(conv=>whnf);try rfl) ?_
   conv=>whnf
   have hFl:(eC ((l.take k).filter vM)++[[a6.sl 1 (vC x.row).length 0 (vC x.row).length,.int .i64 x.cnt]]).length=((l.take (k+1)).filter vM).length:=by
    rw[hF];simp[aR]
   refine⟨m-1,by omega,Gp.some (H1:=[.arr 2 (eC ((l.take k).filter vM++[x]))]) [0] (by simp) ?_ rfl ?_ fun ρ1 h=>⟨k+1,by omega,?_,?_,?_,h⟩⟩
   ·exact⟨⟨_,rfl,WJ ((l.take k).filter vM) x.row x.cnt (vC x.row).length _ rfl (b9 _)⟩,trivial⟩
   ·exact⟨.closed _ rfl,kS (k:=0) rfl rfl hFl hFl,eT ew,trivial⟩
   ·rw[hT,List.all_append,hP];simp[hs]
   ·rw[hF,List.length_append];simp;omega
   ·rw[hF]
 ·simp[aR]at hlt
  have hT:l.take k=l:=List.take_of_length_le hlt
  conv=>whnf
  rw[hT]at hP hO ⊢
  rw[A5,if_pos ⟨hP,hO⟩]
  exact dU (sE rfl (aR _).symm (aR _).symm (gM _)) (.closed _ rfl)
theorem NH:∀(b:List cU) (p:Option (List V)),xI b p=0→∀e∈b,iF e=0∧e.cnt≠0
 |[],_,_,e,h=>by simp at h
 |x::b,p,h,e,he=>by
  rw[xI]at h
  by_cases h1:iF x=0
  ·rw[if_neg (by simp[h1])]at h
   by_cases h2:x.cnt=0
   ·rw[if_pos h2]at h;cases h
   ·rw[if_neg h2]at h
    split at h
    ·cases h
    ·rcases List.mem_cons.1 he with rfl|he
     ·exact⟨h1,h2⟩
     ·exact NH b _ h e he
  ·rw[if_pos h1]at h;exact absurd h h1
theorem TV{b:List cU}(h:gI b=0):b.length≤4096∧(∀e∈b,HS e)∧xI b none=0:=by
 rw[gI]at h
 split at h
 ·cases h
 ·refine⟨by omega,fun e he=>?_,h⟩
  obtain⟨g1,g2,g3,_⟩:=oX e (NH b none h e he).1
  exact⟨g1,g2,g3⟩
theorem CV(l:List cU):A5 l=.tuple [.nil,.int .i64 2]∨A5 l=.tuple [.list false 2 (eC (l.filter vM)),.int .i64 0]:=by
 unfold A5
 split
 ·exact .inr rfl
 ·exact .inl rfl
structure KZ where
 n:Int
 vals:List cU
def XP(e:cU):Bool:=match e.row with
 |[v]=>!(v.kind==0)
 |_=>false
def SU(n:Int):Bool:=decide (-268435456≤n)&&decide (n≤268435456)
def M3(g:KZ):Int:=if SU g.n=false then 1 else if gI g.vals≠0 then gI g.vals else if g.vals.all XP then 0 else 8
end Go.AW
namespace Go.AW
variable [dE]
section
variable {P:Program}{C:Nat→Nat}{τ:Nat→Option Loc}{H:List aB}{w:World}
inductive gB:a6→a6→Prop where
 |refl (a:a6):gB a a
 |nil (x:Bool) (sz:Nat):gB .nil (.list x sz [])
 |list (x y:Bool) (sz:Nat) (es fs:List (List a6)) (h:y=true→x=true) (hl:es.length=fs.length)
   (hl2:∀(i:Nat) (e f:List a6),es[i]?=some e→fs[i]?=some f→e.length=f.length)
   (hcell:∀(i j:Nat) (f:List a6) (c:a6),fs[i]?=some f→f[j]?=some c→c.isCell=true)
   (hc:∀(i j:Nat) (e f:List a6) (d c:a6),es[i]?=some e→fs[i]?=some f→e[j]?=some d→f[j]?=some c→gB d c):gB (.list x sz es) (.list y sz fs)
 |agg (asv bs:List a6) (hl:asv.length=bs.length) (h:∀(i:Nat) (a b:a6),asv[i]?=some a→bs[i]?=some b→gB a b):gB (.agg asv) (.agg bs)
 |tuple (asv bs:List a6) (hl:asv.length=bs.length) (h:∀(i:Nat) (a b:a6),asv[i]?=some a→bs[i]?=some b→gB a b):gB (.tuple asv) (.tuple bs)
theorem Rd.weakD{a b:a6}{v:Value}(h:Rd C w a v)(hw:gB a b):Rd C w b v:=by
 induction hw generalizing v with
 |refl=>exact h
 |nil x sz=>cases h;exact .list0 x sz none 0 (fun _=>rfl)
 |list x y sz es fs hxy hl hl2 hcell hc ih =>
  have hsome:∀{i:Nat}{f:List a6},fs[i]?=some f→∃e,es[i]?=some e∧e.length=f.length:=fun{i f} hf=>by
   have hi:i<es.length:=by have:=(List.getElem?_eq_some_iff.1 hf).1;omega
   exact⟨es[i],List.getElem?_eq_getElem hi,hl2 i _ _ (List.getElem?_eq_getElem hi) hf⟩
  cases h with
  |list0 _ _ a cap hx =>
   cases fs with
   |nil=>exact .list0 y sz a cap fun hy=>hx (hxy hy)
   |cons f fs=>simp at hl
  |list _ _ _ b off cap vs hx hcap hsz hC hcl hp hrd =>
   rw[hl]
   refine .list y sz fs b off cap vs (fun hy=>by rw[←hl];exact hx (hxy hy)) (by omega) (fun f hf=>?_) (by rw[←hl];exact hC) (fun i j hi hj=>hcl i j (by omega) hj) hcell (fun i j f c hf hcc=>?_)
   ·obtain⟨i,hi,rfl⟩:=List.getElem_of_mem hf
    obtain⟨e,he,hle⟩:=hsome (List.getElem?_eq_getElem hi)
    rw[←hle];exact hsz e (List.mem_of_getElem? he)
   ·obtain⟨e,he,hle⟩:=hsome hf
    have hj:j<e.length:=by have:=(List.getElem?_eq_some_iff.1 hcc).1;omega
    exact ih i j e f e[j] c he hf (List.getElem?_eq_getElem hj) hcc (hrd i j e e[j] he (List.getElem?_eq_getElem hj))
 |agg=>cases h
 |tuple=>cases h
theorem bV.weakD{a b:a6}{v:Value}(h:bV C w τ H a v)(hw:gB a b):bV C w τ H b v:=by
 induction hw generalizing v with
 |refl=>exact h
 |nil x sz =>
  cases h with
  |rd h=>exact .rd (h.weakD (.nil x sz))
 |list x y sz es fs hxy hl hl2 hcell hc ih =>
  cases h with
  |rd h=>exact .rd (h.weakD (.list x y sz es fs hxy hl hl2 hcell hc))
 |agg asv bs hl h2 ih =>
  cases h with
  |rd h=>cases h
  |agg _ vs hlv hv =>
   refine .agg bs vs (by omega) fun i c u hc hu=>?_
   have hi:i<asv.length:=by have:=(List.getElem?_eq_some_iff.1 hc).1;omega
   exact ih i asv[i] c (List.getElem?_eq_getElem hi) hc (hv i asv[i] u (List.getElem?_eq_getElem hi) hu)
 |tuple asv bs hl h2 ih =>
  cases h with
  |rd h=>cases h
  |tuple _ vs hlv hv =>
   refine .tuple bs vs (by omega) fun i c u hc hu=>?_
   have hi:i<asv.length:=by have:=(List.getElem?_eq_some_iff.1 hc).1;omega
   exact ih i asv[i] c (List.getElem?_eq_getElem hi) hc (hv i asv[i] u (List.getElem?_eq_getElem hi) hu)
def oQ(asv bs:List a6):Prop:=asv.length=bs.length∧∀(i:Nat) (a b:a6),asv[i]?=some a→bs[i]?=some b→gB a b
theorem oQ.nil:oQ [] []:=⟨rfl,fun i a b h=>by simp at h⟩
theorem oQ.cons{a b:a6}{asv bs:List a6}(h:gB a b)(hs:oQ asv bs):oQ (a::asv) (b::bs):=by
 refine⟨by simp[hs.1],fun i x y hx hy=>?_⟩
 cases i with
 |zero=>simp at hx hy;subst hx hy;exact h
 |succ i=>exact hs.2 i x y (by simpa using hx) (by simpa using hy)
theorem gB.aggs{asv bs:List a6}(h:oQ asv bs):gB (.agg asv) (.agg bs):=.agg asv bs h.1 h.2
theorem gB.tuples{asv bs:List a6}(h:oQ asv bs):gB (.tuple asv) (.tuple bs):=.tuple asv bs h.1 h.2
theorem a7.weakD{f:FuncId}{args bs:List a6}{Q:a6→List aB→Prop}(h:a7 P f bs H Q)(hw:oQ args bs):a7 P f args H Q:=by
 intro C τ w vs hwf hl hr
 refine h C τ w vs hwf (by rw[←hw.1];exact hl) fun i b v hb hv=>?_
 have hi:i<args.length:=by have:=(List.getElem?_eq_some_iff.1 hb).1;have:=hw.1;omega
 exact(hr i args[i] v (List.getElem?_eq_getElem hi) hv).weakD (hw.2 i args[i] b (List.getElem?_eq_getElem hi) hb)
theorem a7.weakRD{f:FuncId}{args:List a6}{Q Q':a6→List aB→Prop}(h:a7 P f args H Q)(hq:∀r H',Q r H'→∃r',gB r r'∧Q' r' H'):a7 P f args H Q':=by
 intro C τ w vs hw hl hr
 have h:=h C τ w vs hw hl hr
 unfold eU at h⊢
 split at h
 ·exact Calls.mono h fun e w' ⟨v,r,C',τ',H',h1,h2,h3,h4⟩=>by
   obtain⟨r',hk,hq'⟩:=hq _ _ h2
   exact⟨v,r',C',τ',H',h1,hq',h3.weakD hk,h4⟩
 ·obtain⟨v,r,C',τ',H',h1,h2,h3,h4⟩:=h
  obtain⟨r',hk,hq'⟩:=hq _ _ h2
  exact⟨v,r',C',τ',H',h1,hq',h3.weakD hk,h4⟩
 ·exact h
end
attribute [local irreducible] a7
def WW(a b:List cU):Int :=
 if gI a≠0 then gI a else if gI b≠0 then gI b else if((nG a b).all fun e=>kM e.cnt)=true∧((nG a b).filter vM).length≤4096 then 0 else 2
def WX(a b:List cU):List cU:=(nG a b).filter vM
def PA(a b:KZ):Int:=if SU (a.n+b.n)=false then 2 else WW a.vals b.vals
def WC(a b:KZ):KZ:=if PA a b=0 then⟨a.n+b.n,WX a.vals b.vals⟩else⟨0,[]⟩
def PE(v:V)(c:Int):KZ:=⟨c,if v.kind≠0∧c≠0 then[⟨[v],c⟩]else[]⟩
def MJ(g:KZ)(v:V)(c:Int):Int:=if M3 g≠0 then M3 g else if c7 v=false then 8 else if kM c=false then 1 else 0
def E5(g:KZ)(v:V)(c:Int):Int:=if MJ g v c≠0 then MJ g v c else PA g (PE v c)
def NE(g:KZ)(v:V)(c:Int):KZ:=if MJ g v c≠0 then⟨0,[]⟩else WC g (PE v c)
def S3(n:Int):V:=if n < -1073741824∨1073741824<n then zV else⟨2,n,bs []⟩
def Z4(e:cU):Int:=(e.row.getD 0 zV).num
def F8:List cU→Int→Int→Int×Int
 |[],s,c=>(s,c)
 |e::es,s,c=>F8 es (FB (s+FB (Z4 e*e.cnt))) (FB (c+e.cnt))
set_option maxRecDepth 20000 in
theorem zR(g:FuncId)(caps:List a6)(p:cU→Bool)(H:List aB)(cs:List cU)(hg:∀c∈cs,a7 pr g ([.agg (j4 c)]++caps) H (fun r H'=>r=.bool (p c)∧H'=H))
  (ex:Bool) (hl:cs.length≤1000000) :
  a7 pr 220 [.list ex 2 (eC cs),.fn g caps] H (fun r H'=>r=.int .i64 (fT p cs 0)∧H'=H):=by
 refine aA k220.has ?_
 conv=>whnf
 refine⟨fun m ρ H1=>∃k:Nat,k+m=cs.length∧fT p (cs.drop k) k=fT p cs 0∧H1=H ∧
  Sv 19 [(0,.list ex 2 (eC cs)),(1,.fn g caps),(7,.int .i64 cs.length),(8,.int .i64 k)] ρ,cs.length,[],?_,?_⟩
 ·exact⟨0,by omega,rfl,rfl,Sv.intro rfl ⟨rfl,rfl,aN (by rw[aR]),rfl,trivial⟩⟩
 rintro m ρ H1 ⟨k,hk,hr,rfl,d,rfl⟩
 (conv=>whnf);refine aE (fun hlt=>?_) (fun hlt=>?_)
 ·simp at hlt
  obtain⟨c,hc,hd,hmem⟩:=aX hlt
  rw[hd]at hr
  conv=>whnf
  refine And.intro (by omega) ?_
  (conv=>whnf);refine b4 (eP hc) ?_
  conv=>whnf
  refine a7.use (hg c hmem) ?_
  (conv=>whnf);refine aE (fun h=>?_) (fun hf=>?_)
  ·conv=>whnf
   refine⟨aN ?_,rfl⟩
   rw[←hr,fT,if_pos h]
  ·conv=>whnf
   refine⟨m-1,by omega,Gp.keep rfl ?_ fun ρ1 h=>⟨k+1,by omega,?_,rfl,h⟩⟩
   ·exact⟨rfl,rfl,rfl,aN (aY ((k:Int)+1) (by omega) (by omega)),trivial⟩
   ·rw[←hr,fT,if_neg (by rw[hf];simp)];rfl
 ·simp at hlt
  conv=>whnf
  rw[List.drop_eq_nil_of_le hlt]at hr
  exact⟨aN hr,rfl⟩
def Z6(e:cU):Bool:=decide (e.cnt>0)
def WI(e:cU):Bool:=!((e.row.getD 0 zV).kind==2)
def Z8(e:cU):V:=e.row.getD 0 zV
def SH(l:List cU):List V:=(l.filter Z6).map Z8
def W5(s c:Int):Int:=if s.tmod c<0 then FB (FB (s.tdiv c)-1)else FB (s.tdiv c)
def ML(f:Int)(g:KZ):Int:=if f<1∨7<f then 1 else if M3 g≠0 then M3 g else if(f=3∨f=7)∧g.vals.any WI=true then 7 else 0
def XT(f:Int)(g:KZ):V :=
 if f=1 then S3 g.n else if f=2 then S3 (F8 g.vals 0 0).2 else if f=6 then S3 (SH g.vals).length
 else if f=4 then(SH g.vals).head?.getD zV else if f=5 then(SH g.vals).getLast?.getD zV
 else if f=3 then(if g.vals=[]then zV else S3 (F8 g.vals 0 0).1)
 else if 0<(F8 g.vals 0 0).2 then S3 (W5 (F8 g.vals 0 0).1 (F8 g.vals 0 0).2)else zV
def UO(f:Int)(g:KZ):V:=if ML f g≠0 then zV else XT f g
end Go.AW
namespace Go.AW
variable [dE]
theorem wN:∀(a b:List V),bF a b = -1∨bF a b=0∨bF a b=1
 |[],[]=>.inr (.inl rfl)
 |[],_::_=>.inl rfl
 |_::_,[]=>.inr (.inr rfl)
 |x::xs,y::ys=>by
  rw[bF]
  split
  ·exact wN xs ys
  ·exact mV.vals x y
theorem wM:∀(a b:List V),bF b a = - bF a b
 |[],[]=>rfl
 |[],_::_=>rfl
 |_::_,[]=>rfl
 |x::xs,y::ys=>by
  rw[bF,bF,mV.anti x y]
  by_cases h:iR x y=0
  ·rw[if_pos h,if_pos (by omega),wM xs ys]
  ·rw[if_neg h,if_neg (by omega)]
theorem lH:∀(a b d:List V),bF a b<0→bF b d<0→bF a d<0
 |[],_,[],_,h2=>by
  rename_i b _
  cases b with
  |nil=>exact h2
  |cons y ys=>rw[bF]at h2;omega
 |[],_,_::_,_,_=>by rw[bF];omega
 |x::xs,[],_,h1,_=>by rw[bF]at h1;omega
 |x::xs,y::ys,[],_,h2=>by rw[bF]at h2;omega
 |x::xs,y::ys,z::zs,h1,h2=>by
  rw[bF]at h1 h2 ⊢
  by_cases e1:iR x y=0
  ·rw[if_pos e1]at h1
   have hxy:=(mV.zero x y).1 e1
   subst hxy
   by_cases e2:iR x z=0
   ·rw[if_pos e2]at h2 ⊢;exact lH xs ys zs h1 h2
   ·rw[if_neg e2]at h2 ⊢;exact h2
  ·rw[if_neg e1]at h1
   by_cases e2:iR y z=0
   ·have hyz:=(mV.zero y z).1 e2
    subst hyz
    rw[if_neg e1];exact h1
   ·rw[if_neg e2]at h2
    have:=mV.trans x y z h1 h2
    rw[if_neg (by omega)];exact this
def QZ(l:List cU):Prop:=l.Pairwise fun x y=>bF x.row y.row<0
theorem q0:∀(a b:List cU) (e:cU),e∈nG a b→(∃x∈a,x.row=e.row)∨∃y∈b,y.row=e.row
 |[],b,e,h=>by rw[kG]at h;exact .inr ⟨e,h,rfl⟩
 |x::a,[],e,h=>by rw[p5]at h;exact .inl ⟨e,h,rfl⟩
 |x::a,y::b,e,h=>by
  rw[lR]at h
  have la:∀{e:cU},(∃x∈a,x.row=e.row)→∃z∈x::a,z.row=e.row:=fun⟨z,h1,h2⟩=>⟨z,List.mem_cons_of_mem _ h1,h2⟩
  have lb:∀{e:cU},(∃x∈b,x.row=e.row)→∃z∈y::b,z.row=e.row:=fun⟨z,h1,h2⟩=>⟨z,List.mem_cons_of_mem _ h1,h2⟩
  split at h
  ·rcases List.mem_cons.1 h with rfl|h
   ·exact .inl ⟨e,List.mem_cons_self ..,rfl⟩
   ·exact(q0 a (y::b) e h).imp la id
  split at h
  ·rcases List.mem_cons.1 h with rfl|h
   ·exact .inr ⟨e,List.mem_cons_self ..,rfl⟩
   ·exact(q0 (x::a) b e h).imp id lb
  ·rcases List.mem_cons.1 h with rfl|h
   ·exact .inl ⟨x,List.mem_cons_self ..,rfl⟩
   ·exact(q0 a b e h).imp la lb
termination_by a b=>a.length+b.length
theorem AS:∀(a b:List cU),QZ a→QZ b→QZ (nG a b)
 |[],b,_,hb=>by rw[kG];exact hb
 |x::a,[],ha,_=>by rw[p5];exact ha
 |x::a,y::b,ha,hb=>by
  have ax:=(List.pairwise_cons.1 ha).1
  have bx:=(List.pairwise_cons.1 hb).1
  have ha':=(List.pairwise_cons.1 ha).2
  have hb':=(List.pairwise_cons.1 hb).2
  rw[lR]
  split
  ·rename_i hc
   refine List.pairwise_cons.2 ⟨fun e he=>?_,AS a (y::b) ha' hb⟩
   rcases q0 a (y::b) e he with⟨z,hz,hzr⟩|⟨z,hz,hzr⟩
   ·rw[←hzr];exact ax z hz
   ·rw[←hzr]
    rcases List.mem_cons.1 hz with rfl|hz
    ·exact hc
    ·exact lH _ _ _ hc (bx z hz)
  split
  ·rename_i hc0 hc
   have hc':bF y.row x.row<0:=by rw[wM];omega
   refine List.pairwise_cons.2 ⟨fun e he=>?_,AS (x::a) b ha hb'⟩
   rcases q0 (x::a) b e he with⟨z,hz,hzr⟩|⟨z,hz,hzr⟩
   ·rw[←hzr]
    rcases List.mem_cons.1 hz with rfl|hz
    ·exact hc'
    ·exact lH _ _ _ hc' (ax z hz)
   ·rw[←hzr];exact bx z hz
  ·have hr:x.row=y.row:=(qM _ _).1 (by have:=wN x.row y.row;omega)
   refine List.pairwise_cons.2 ⟨fun e he=>?_,AS a b ha' hb'⟩
   rcases q0 a b e he with⟨z,hz,hzr⟩|⟨z,hz,hzr⟩
   ·rw[←hzr];exact ax z hz
   ·rw[←hzr];show bF x.row z.row<0;rw[hr];exact bx z hz
termination_by a b=>a.length+b.length
theorem N7{l:List cU}(p:cU→Bool)(h:QZ l):QZ (l.filter p):=List.Pairwise.filter p h
theorem BO(e:cU):iF e=0↔e.row.length≤12∧kM e.cnt=true∧e.row.all c7=true:=by
 simp only[kM,Bool.and_eq_true,decide_eq_true_eq]
 unfold iF
 constructor
 ·intro h
  split at h
  ·cases h
  ·split at h
   ·rename_i h1 h2;exact⟨by omega,⟨by omega,by omega⟩,h2⟩
   ·cases h
 ·rintro⟨h1,⟨h2,h3⟩,h4⟩
  rw[if_neg (by omega),if_pos h4]
theorem vX:∀(l:List cU) (p:Option (List V)),xI l p=0↔(∀e∈l,iF e=0∧e.cnt≠0)∧QZ l∧∀q,p=some q→∀e∈l,bF q e.row<0
 |[],p=>⟨fun _=>⟨fun e h=>(by simp at h),List.Pairwise.nil,fun q _ e h=>by simp at h⟩,fun _=>rfl⟩
 |x::l,p=>by
  rw[xI]
  have nb:CE p x.row=true↔∃q,p=some q∧¬bF q x.row<0:=by
   cases p with
   |none=>simp[CE]
   |some q=>simp[CE]
  constructor
  ·intro h
   by_cases h1:iF x=0
   ·rw[if_neg (by simp[h1])]at h
    by_cases h2:x.cnt=0
    ·rw[if_pos h2]at h;cases h
    ·rw[if_neg h2]at h
     by_cases h3:CE p x.row=true
     ·rw[if_pos h3]at h;cases h
     ·rw[if_neg h3]at h
      obtain⟨g1,g2,g3⟩:=(vX l (some x.row)).1 h
      have hp:∀q,p=some q→bF q x.row<0:=fun q hq=>Classical.byContradiction fun hn=>h3 (nb.2 ⟨q,hq,hn⟩)
      refine⟨fun e he=>?_,List.pairwise_cons.2 ⟨g3 _ rfl,g2⟩,fun q hq e he=>?_⟩
      ·rcases List.mem_cons.1 he with rfl|he
       ·exact⟨h1,h2⟩
       ·exact g1 e he
      ·rcases List.mem_cons.1 he with rfl|he
       ·exact hp q hq
       ·exact lH _ _ _ (hp q hq) (g3 _ rfl e he)
   ·rw[if_pos h1]at h;exact absurd h h1
  ·rintro⟨h1,h2,h3⟩
   have hx:=h1 x (List.mem_cons_self ..)
   rw[if_neg (by simp[hx.1]),if_neg hx.2,if_neg (fun h=>by
    obtain⟨q,hq,hn⟩:=nb.1 h
    exact hn (h3 q hq x (List.mem_cons_self ..)))]
   exact(vX l (some x.row)).2 ⟨fun e he=>h1 e (List.mem_cons_of_mem _ he),(List.pairwise_cons.1 h2).2,fun q hq e he=>by cases hq;exact(List.pairwise_cons.1 h2).1 e he⟩
theorem vU(l:List cU):gI l=0↔l.length≤4096∧(∀e∈l,iF e=0∧e.cnt≠0)∧QZ l:=by
 rw[gI]
 constructor
 ·intro h
  split at h
  ·cases h
  ·have:=(vX l none).1 h
   exact⟨by omega,this.1,this.2.1⟩
 ·rintro⟨h1,h2,h3⟩
  rw[if_neg (by omega)]
  exact(vX l none).2 ⟨h2,h3,fun q hq=>by cases hq⟩
attribute [local irreducible] a7
def g0:KZ:=⟨0,[]⟩
def n5:V:=⟨2,5,bs []⟩
theorem p6:c7 n5=true:=by kernel_rfl
theorem GC(v:V)(a b:Int):nG [⟨[v],a⟩] [⟨[v],b⟩]=[⟨[v],a+b⟩]:=by
 have h:bF [v] [v]=0:=(qM _ _).2 rfl
 rw[lR,if_neg (by show ¬bF [v] [v]<0;omega),if_neg (by show ¬0<bF [v] [v];omega),kG]
theorem UY(e:cU):QZ [e]:=List.pairwise_singleton ..
theorem vV(v:V)(c:Int)(hv:c7 v=true)(hc:c≠0)(hs:kM c=true):gI [⟨[v],c⟩]=0 :=
 (vU _).2 ⟨by simp,fun e he=>by
  rw[List.mem_singleton]at he;subst he
  exact⟨(BO _).2 ⟨by simp,hs,by simp[hv]⟩,hc⟩,UY _⟩
theorem R3:gI []=0:=rfl
theorem uZ{g:KZ}(h1:SU g.n=true)(h2:gI g.vals=0)(h3:g.vals.all XP=true):M3 g=0:=by
 rw[M3,if_neg (by simp[h1]),if_neg (by simp[h2]),if_pos h3]
theorem k1:E5 g0 n5 2=0∧NE g0 n5 2=⟨2,[⟨[n5],2⟩]⟩:=by
 have hp:MJ g0 n5 2=0:=by rw[MJ,if_neg (by simp[uZ (g:=g0) rfl rfl rfl]),if_neg (by simp[p6]),if_neg (by decide)]
 have ho:PE n5 2=⟨2,[⟨[n5],2⟩]⟩:=by rw[PE,if_pos ⟨by decide,by decide⟩]
 have hm:PA g0 ⟨2,[⟨[n5],2⟩]⟩=0:=by
  rw[PA,if_neg (by decide),WW,if_neg (by simp[g0,R3]),if_neg (by simp[vV n5 2 p6 (by decide) (by decide)]),if_pos ⟨by simp[g0,kG,kM],by simp[g0,kG,vM]⟩]
 have e1:E5 g0 n5 2=0:=by rw[E5,if_neg (by simp[hp]),ho,hm]
 refine⟨e1,?_⟩
 rw[NE,if_neg (by simp[hp]),ho,WC,if_pos hm]
 simp[g0,WX,kG,vM]
theorem k2:E5 ⟨2,[⟨[n5],2⟩]⟩ n5 (-1)=0∧NE ⟨2,[⟨[n5],2⟩]⟩ n5 (-1)=⟨1,[⟨[n5],1⟩]⟩:=by
 have hb:=vV n5 2 p6 (by decide) (by decide)
 have hp:MJ ⟨2,[⟨[n5],2⟩]⟩ n5 (-1)=0:=by rw[MJ,if_neg (by simp[uZ (g:=⟨2,[⟨[n5],2⟩]⟩) rfl hb rfl]),if_neg (by simp[p6]),if_neg (by decide)]
 have ho:PE n5 (-1)=⟨-1,[⟨[n5],-1⟩]⟩:=by rw[PE,if_pos ⟨by decide,by decide⟩]
 have hm:PA ⟨2,[⟨[n5],2⟩]⟩ ⟨-1,[⟨[n5],-1⟩]⟩=0:=by
  rw[PA,if_neg (by decide),WW,if_neg (by simp[hb]),if_neg (by simp[vV n5 (-1) p6 (by decide) (by decide)]),if_pos ⟨by simp[GC,kM],by simp[GC,vM]⟩]
 have e1:E5 ⟨2,[⟨[n5],2⟩]⟩ n5 (-1)=0:=by rw[E5,if_neg (by simp[hp]),ho,hm]
 refine⟨e1,?_⟩
 rw[NE,if_neg (by simp[hp]),ho,WC,if_pos hm]
 simp[WX,GC,vM]
def gk:KZ:=⟨1,[⟨[n5],1⟩]⟩
theorem V9:M3 gk=0:=uZ rfl (vV n5 1 p6 (by decide) (by decide)) rfl
theorem k3:ML 3 gk=0∧UO 3 gk=n5∧ML 1 gk=0∧UO 1 gk=⟨2,1,bs []⟩:=by
 have h3:ML 3 gk=0:=by rw[ML,if_neg (by decide),if_neg (by simp[V9])];rfl
 have h1:ML 1 gk=0:=by rw[ML,if_neg (by decide),if_neg (by simp[V9])];rfl
 refine⟨h3,?_,h1,?_⟩
 ·rw[UO,if_neg (by simp[h3])];kernel_rfl
 ·rw[UO,if_neg (by simp[h1])];kernel_rfl
theorem I9{e:List a6}(h:jY [.slice [.int .i64,.int .i64,.str],.int .i64] e):∃x:cU,e=j4 x∧x.row.length≤maxLen∧(Lit.int .i64 x.cnt).wf=true:=by
 match e,h with
 |[a,b],h =>
  obtain⟨h1,h2,_⟩:=h
  obtain⟨es,rfl,hl,h1⟩:=lA h1
  obtain⟨m,rfl,hm⟩:=jM (g:=iB) es fun e he=>OQ (h1 e he)
  cases h2
  rename_i n hn
  exact⟨⟨m,n⟩,rfl,by simpa using hl,hn⟩
def j0:Nat→Int→List Int
 |0,_=>[]
 |k+1,n=>j0 k (n / 256)++[n % 256]
theorem bW:∀(k:Nat) (n:Int),(j0 k n).length=k
 |0,_=>rfl
 |k+1,n=>by rw[j0,List.length_append,bW k];rfl
theorem AB:∀(k:Nat) (n:Int),fO (j0 k n)
 |0,_=>fun x h=>by simp[j0]at h
 |k+1,n=>fun x h=>by
  rw[j0]at h
  rcases List.mem_append.1 h with h|h
  ·exact AB k _ x h
  ·rw[List.mem_singleton]at h;subst h;omega
theorem B5:∀(k:Nat) (n:Int),j0 (k+1) n=(n / 256 ^ k) % 256::j0 k n
 |0,n=>by simp[j0]
 |k+1,n=>by
  rw[j0,B5 k (n / 256),j0,List.cons_append]
  congr 2
  rw[Int.ediv_ediv_of_nonneg (by omega),Int.pow_succ,Int.mul_comm]
def w2(n:Int):List Int:=[u8 (n.fdiv (2 ^ 8)),u8 n]
theorem Y4(n:Int):w4 n=j0 4 n:=by
 simp only[w4,j0,m8,List.nil_append,List.singleton_append,List.cons_append]
 rw[Int.fdiv_eq_ediv_of_nonneg _ (by omega),Int.fdiv_eq_ediv_of_nonneg _ (by omega),Int.fdiv_eq_ediv_of_nonneg _ (by omega)]
 congr 1
 ·omega
 congr 1
 ·omega
def p4(n:Int):List Int:=w2 (IntKind.i64.wrap (n.fdiv (2 ^ 16)))++[u8 (n.fdiv (2 ^ 8)),u8 n]
theorem eK(s:ByteArray):bT s.data.toList=bC (dQ s):=by simp[bT,bC,dQ]
theorem bR(s:ByteArray):(dQ s).length=s.size:=by simp[dQ]
set_option maxRecDepth 20000 in
theorem GK(H:List aB)(id:Nat)(es:List (List a6))(s:ByteArray)(ho:H[id]?=some (.arr 1 es))(hl:es.length≤100000)(hs:s.size≤100000):
  a7 pr 67 [.sl id es.length 0 es.length,.str s] H (fun r H'=>r=.sl id (es++bC (u8 s.size::dQ s)).length 0 (es++bC (u8 s.size::dQ s)).length∧H'=H.set id (.arr 1 (es++bC (u8 s.size::dQ s)))):=by
 have hid:=(List.getElem?_eq_some_iff.1 ho).1
 have hbl:=bR s
 refine aA k67.has ?_
 (conv=>whnf);refine b4 (ho) ?_
 (conv=>whnf);refine b8 (Nat.beq_refl _) ?_
 conv=>whnf
 refine And.intro ⟨?_,?_,rfl,rfl⟩ ?_
 ·exact fG (by simp;omega)
 ·exact bK (by simp;omega)
 rw[fN]
 have ho2:(H.set id (.arr 1 (es++[[a6.int .u8 (u8 s.size)]])))[id]?=some (.arr 1 (es++[[a6.int .u8 (u8 s.size)]])):=List.getElem?_set_self hid
 (conv=>whnf);refine b4 (ho2) ?_
 (conv=>whnf);refine b8 (Nat.beq_refl _) ?_
 conv=>whnf
 refine And.intro ⟨?_,?_,rfl,rfl⟩ ?_
 ·exact fG (by rw[eK];simp[aD];omega)
 ·exact bK (by rw[eK];simp[aD];omega)
 rw[fN]
 conv=>whnf
 have e:es++bC (u8 s.size::dQ s)=es++[[a6.int .u8 (u8 s.size)]]++bT s.data.toList:=by rw[eK];simp[bC]
 rw[e]
 exact⟨rfl,by rw[List.set_set]⟩
def OY(s c:Int):Int:=IntKind.u32.wrap (IntKind.u32.wrap (BitVec.ofInt 32 s ^^^ BitVec.ofInt 32 (IntKind.u32.wrap c)).toNat*16777619)
def U2(l:List Int)(s:Int):Int:=l.foldl OY s
def RL(l:List Int):Int:=U2 l 2166136261
theorem wY(n:Int):IntKind.u32.wrap n=n % 4294967296:=by simp[IntKind.wrap,IntKind.bits,IntKind.signed]
theorem BS(s c:Int):0≤OY s c∧OY s c<4294967296:=by rw[OY,wY];omega
theorem BR:∀(l:List Int) (s:Int),0≤s→s<4294967296→0≤U2 l s∧U2 l s<4294967296
 |[],s,h1,h2=>⟨h1,h2⟩
 |c::l,s,_,_=>BR l (OY s c) (BS s c).1 (BS s c).2
theorem EH(l:List Int):0≤RL l∧RL l<4294967296:=BR l _ (by decide) (by decide)
theorem R2{l:List Int}{k:Nat}{x:Int}(h:l[k]?=some x):(bC l)[k]?=some [.int .u8 x]:=by rw[bC,List.getElem?_map,h];rfl
set_option maxRecDepth 20000 in
theorem DK(ex:Bool)(l:List Int)(hl:l.length≤100000000)(H:List aB):
  a7 pr 203 [.list ex 1 (bC l)] H (fun r H'=>r=.int .u32 (RL l)∧H'=H):=by
 refine a7.pure rfl (aA k203.has ?_)
 conv=>whnf
 refine⟨fun m ρ H1=>∃(k:Nat) (s:Int),k+m=l.length∧U2 (l.drop k) s=RL l∧H1=[] ∧
  Sv 19 [(3,.int .u32 s),(6,.list ex 1 (bC l)),(7,.int .i64 l.length),(8,.int .i64 k)] ρ,l.length,[],?_,?_⟩
 ·exact⟨0,_,by omega,rfl,rfl,Sv.intro rfl ⟨rfl,rfl,aN (by rw[aD]),rfl,trivial⟩⟩
 rintro m ρ H1 ⟨k,s,hk,hr,rfl,d,rfl⟩
 (conv=>whnf);refine aE (fun hlt=>?_) (fun hlt=>?_)
 ·simp at hlt
  obtain⟨x,hx,hd,_⟩:=aX hlt
  rw[hd]at hr
  (conv=>whnf);refine And.intro (by omega) ?_
  (conv=>whnf);refine b4 (R2 hx) ?_
  conv=>whnf
  refine⟨m-1,by omega,Gp.keep rfl ?_ fun ρ1 h=>⟨k+1,OY s x,by omega,hr,rfl,h⟩⟩
  exact⟨rfl,rfl,rfl,aN (aY ((k:Int)+1) (by omega) (by omega)),trivial⟩
 ·simp at hlt
  conv=>whnf
  rw[List.drop_eq_nil_of_le hlt]at hr
  exact cZ hr
theorem SY(l:List Int)(k:Nat)(v:Int):uH (bC l) k [.int .u8 v]=bC (l.set k v):=by rw[wS];simp[bC]
def xV(k j:Nat)(n:Int):List Int:=List.replicate (k-j) 0++j0 j n
theorem zA{k j:Nat}(n:Int)(h:j≤k):(xV k j n).length=k:=by rw[xV,List.length_append,List.length_replicate,bW];omega
theorem S2{k j:Nat}(n:Int)(h:j<k):(xV k j n).set (k-1-j) ((n / 256 ^ j) % 256)=xV k (j+1) n:=by
 rw[xV,xV,B5,show k-j=(k-(j+1))+1 by omega,List.replicate_succ',List.append_assoc,List.set_append,if_neg (by simp;omega)]
 simp[show k-1-j-(k-(j+1))=0 by omega]
theorem U0(n:Int)(j:Nat):n / 256 ^ j / 256=n / 256 ^ (j+1):=by
 rw[Int.ediv_ediv_of_nonneg (Int.pow_nonneg (by omega)),Int.pow_succ]
set_option maxRecDepth 20000 in
theorem y8(n:Int)(k:Nat)(hn:0≤n)(hn2:n≤9000000000000000000)(hk:k≤100):
  a7 pr 41 [.int .i64 n,.int .i64 k] [] (fun r H'=>r=.sl 0 k 0 k∧H'=[.arr 1 (bC (j0 k n))]):=by
 refine aA k41.has ?_
 (conv=>whnf);refine And.intro (⟨by omega,by omega,by show(k:Int)*((1:Nat):Int)≤1099511627776;omega,by show(k:Int)≤1099511627776;omega⟩) ?_
 conv=>whnf
 have ew:IntKind.i64.wrap ((k:Int)-1)=(k:Int)-1:=aY _ (by omega) (by omega)
 refine⟨fun m ρ H1=>∃j:Nat,j+m=k∧H1=[.arr 1 (bC (xV k j n))] ∧
  Sv 24 [(0,.int .i64 (n / 256 ^ j)),(5,.sl 0 k 0 k),(6,.int .i64 ((k:Int)-1-j))] ρ,k,[],?_,?_⟩
 ·refine⟨0,by omega,?_,Sv.intro rfl ⟨aN (by simp),rfl,aN (by rw[ew];omega),trivial⟩⟩
  simp[xV,j0,bC]
 rintro m ρ H1 ⟨j,hj,rfl,d,rfl⟩
 have hlen:(bC (xV k j n)).length=k:=by rw[aD,zA n (by omega)]
 have hq0:0≤n / 256 ^ j:=Int.ediv_nonneg hn (Int.pow_nonneg (by omega))
 have hq1:n / 256 ^ j≤n:=Int.ediv_le_self _ hn
 (conv=>whnf);refine aE (fun hlt=>?_) (fun hlt=>?_)
 ·replace hlt:decide ((k:Int)-1-j≥0)=true:=hlt
  simp at hlt
  have hjn:((k:Int)-1-j).toNat=k-1-j:=by omega
  have hg:(bC (xV k j n))[0+((k:Int)-1-j).toNat]?=some [.int .u8 ((xV k j n)[k-1-j]'(by rw[zA n (by omega)];omega))]:=by
   rw[Nat.zero_add,hjn];exact R2 (List.getElem?_eq_getElem _)
  (conv=>whnf);refine And.intro (by decide) ?_
  (conv=>whnf);refine b8 (by rw[hlen];exact Nat.beq_refl _) ?_
  (conv=>whnf);refine And.intro (⟨by omega,by omega⟩) ?_
  (conv=>whnf);refine b8 (by rw[hlen];exact Nat.beq_refl _) ?_
  (conv=>whnf);refine b4 (hg) ?_
  (conv=>whnf);refine And.intro (by decide) ?_
  conv=>whnf
  refine⟨m-1,by omega,Gp.keep rfl ?_ fun ρ1 h=>⟨j+1,by omega,?_,h⟩⟩
  ·refine⟨aN ?_,rfl,aN ?_,trivial⟩
   ·show IntKind.i64.wrap ((n / 256 ^ j).tdiv 256)=_
    rw[Int.tdiv_eq_ediv_of_nonneg hq0,U0,aY _ (by have:=Int.ediv_nonneg hn (Int.pow_nonneg (n:=256) (m:=j+1) (by omega));omega) (by have:=Int.ediv_le_self (256 ^ (j+1)) hn;omega)]
   ·show IntKind.i64.wrap ((k:Int)-1-j-1)=_
    rw[aY _ (by omega) (by omega)];omega
  ·have hv:IntKind.u8.wrap ((n / 256 ^ j).tmod 256)=(n / 256 ^ j) % 256:=by
    have:=m8 ((n / 256 ^ j).tmod 256)
    rw[show u8 ((n / 256 ^ j).tmod 256)=IntKind.u8.wrap ((n / 256 ^ j).tmod 256)from rfl]at this
    rw[this,Int.tmod_eq_emod_of_nonneg hq0];omega
   rw[←S2 n (by omega),←SY,←hv,←hjn]
   show[aB.arr 1 (uH (bC (xV k j n)) (0+((k:Int)-1-j).toNat) _)]=_
   rw[Nat.zero_add]
 ·replace hlt:decide ((k:Int)-1-j≥0)=false:=hlt
  simp at hlt
  have:j=k:=by omega
  subst this
  conv=>whnf
  refine⟨rfl,?_⟩
  simp[xV]
theorem wH(n:Int)(k:Nat)(hn:0≤n)(hn2:n≤9000000000000000000)(hk:k≤100)(H:List aB):
  a7 pr 41 [.int .i64 n,.int .i64 k] H (fun r H'=>r=.list false 1 (bC (j0 k n))∧H'=H) :=
 a7.frz1 rfl (y8 n k hn hn2 hk) (by rw[aD,bW]) (eG _)
structure YA where
 del:Bool
 seq:Int
 row:List V
structure ZU where
 id:ByteArray
 src:ByteArray
 recs:List YA
def DW(row:List V):Int:=if 12<row.length then 2 else if row.all c7 then 0 else 8
theorem EZ{row:List V}(h:DW row=0):row.length≤12∧row.all c7=true:=by
 unfold DW at h
 split at h
 ·cases h
 ·split at h
  ·exact⟨by omega,by assumption⟩
  ·cases h
theorem rS{row:List V}(h:DW row=0):(eZ row).length≤793:=by
 obtain⟨h1,h2⟩:=EZ h
 have:=BG row row.length (by rw[List.take_length];exact h2)
 rw[mD,List.take_length]at this
 show(u8 row.length::row.flatMap jL).length≤793
 omega
structure dI where
 rest:List Int
 bad:Bool
def fW(s:dI):aB:=.arr 2 [[.list false 1 (bC s.rest),.bool s.bad]]
def QN(n:Int)(s:dI):Bool:=!s.bad&&decide (n≤s.rest.length)
def pL(n:Int)(s:dI):List Int:=if QN n s then s.rest.take n.toNat else[]
def kP(n:Int)(s:dI):dI:=if QN n s then⟨s.rest.drop n.toNat,false⟩else⟨s.rest,true⟩
theorem lI{n:Int}{s:dI}(h:fO s.rest):fO (pL n s):=by
 intro x hx
 unfold pL at hx
 split at hx
 ·exact h x (List.mem_of_mem_take hx)
 ·simp at hx
theorem gX{n:Int}{s:dI}(h:fO s.rest):fO (kP n s).rest:=by
 unfold kP
 split
 ·exact fun x hx=>h x (List.mem_of_mem_drop hx)
 ·exact h
theorem HE(n:Int)(s:dI):(kP n s).rest.length≤s.rest.length:=by
 unfold kP
 split
 ·simp
 ·exact Nat.le_refl _
theorem qP{n:Int}{s:dI}(hn:0≤n):((pL n s).length:Int)≤n:=by
 unfold pL
 split
 ·rw[List.length_take];omega
 ·simp;omega
theorem wW(n:Int)(s:dI):(pL n s).length≤s.rest.length:=by
 unfold pL
 split
 ·rw[List.length_take];omega
 ·simp
set_option maxRecDepth 20000 in
theorem sR(F:FT)(n:Int)(hn:0≤n)(s:dI):
  a7 pr F.id [.ptr 0 1 0 0,.int .i64 n] [fW s] (fun r H'=>r=.list false 1 (bC (pL n s))∧H'=[fW (kP n s)]):=by
 refine a7.weakR (Q:=fun r H'=>(r=.nil∧QN n s=false∧H'=[fW (kP n s)])∨(r=.list false 1 (bC (pL n s))∧H'=[fW (kP n s)])) ?_ (by
  rintro r H' (⟨rfl,h,rfl⟩|⟨rfl,rfl⟩)
  ·exact⟨_,.nil false 1,by rw[pL,h];rfl,rfl⟩
  ·exact⟨_,.refl _,rfl,rfl⟩)
 refine aA F.has ?_
 (conv=>whnf);refine aE (fun hb=>?_) (fun hb=>?_)
 ·replace hb:s.bad=true:=hb
  have ht:QN n s=false:=by rw[QN,hb];rfl
  conv=>whnf
  exact .inl ⟨rfl,ht,by rw[kP,ht];rfl⟩
 replace hb:s.bad=false:=hb
 (conv=>whnf);refine aE (fun hl=>?_) (fun hl=>?_)
 ·simp[aD]at hl
  have ht:QN n s=false:=by rw[QN,hb];simp;omega
  conv=>whnf
  exact .inl ⟨rfl,ht,by rw[kP,ht];rfl⟩
 simp[aD]at hl
 have ht:QN n s=true:=by rw[QN,hb];simp;omega
 (conv=>whnf);refine And.intro (⟨by omega,by rw[aD];omega⟩) ?_
 (conv=>whnf);refine And.intro (⟨by omega,by rw[aD];omega⟩) ?_
 conv=>whnf
 refine .inr ⟨?_,?_⟩
 ·rw[pL,ht,if_pos rfl,←sZ];rfl
 ·rw[kP,ht,if_pos rfl,fW]
  simp only[hb]
  rw[←lD]
  show[aB.arr 2 [[.list false 1 (((bC s.rest).take (bC s.rest).length).drop n.toNat),.bool false]]]=_
  rw[List.take_length]
theorem tS(F:FT)(n:Int)(hn:0≤n)(s:dI)(H:List aB)(id:Nat)(ho:H[id]?=some (fW s)):
  a7 pr F.id [.ptr id 1 0 0,.int .i64 n] H (fun r H'=>r=.list false 1 (bC (pL n s))∧H'=H.set id (fW (kP n s))) :=
 (sR F n hn s).fr ho rfl rfl (.pt (.cl rfl trivial)) (.closed _ rfl)
def lS(n:Int)(s:dI):Int:=num (pL n s)
theorem AN(l:List Int)(h:fO l):0≤num l∧num l<256 ^ l.length:=by
 have key:∀(l:List Int),fO l→∀(a:Int) (k:Nat),0≤a→a<256 ^ k→0≤l.foldl (fun n x=>n*256+x) a∧l.foldl (fun n x=>n*256+x) a<256 ^ (k+l.length):=by
  intro l
  induction l with
  |nil=>intro _ a k h1 h2;exact⟨h1,h2⟩
  |cons x l ih =>
   intro hb a k h1 h2
   have hx:=hb x (List.mem_cons_self ..)
   have hp:(256:Int) ^ (k+1)=256 ^ k*256:=Int.pow_succ ..
   have:=ih (fun y hy=>hb y (List.mem_cons_of_mem _ hy)) (a*256+x) (k+1) (by omega) (by omega)
   rw[List.length_cons,show k+(l.length+1)=k+1+l.length by omega]
   exact this
 have:=key l h 0 0 (by omega) (by decide)
 rwa [Nat.zero_add]at this
set_option maxRecDepth 20000 in
theorem mW{n:Int}{s:dI}(hn:0≤n)(hn4:n≤4)(h:fO s.rest):0≤lS n s∧lS n s<4294967296:=by
 have h1:=AN _ (lI (n:=n) h)
 have h2:=qP (s:=s) hn
 have h3:(256:Int) ^ (pL n s).length≤256 ^ 4:=by
  have:(256:Nat) ^ (pL n s).length≤256 ^ 4:=Nat.pow_le_pow_right (by omega) (by omega)
  exact_mod_cast this
 rw[lS];omega
set_option maxRecDepth 20000 in
theorem zG(n:Int)(hn:0≤n)(hn6:n≤4)(s:dI)(hby:fO s.rest):
  a7 pr 110 [.ptr 0 1 0 0,.int .i64 n] [fW s] (fun r H'=>r=.int .i64 (lS n s)∧H'=[fW (kP n s)]):=by
 have hl:=qP (s:=s) hn
 have hb:=lI (n:=n) hby
 refine aA k110.has ?_
 (conv=>whnf);refine a7.mono (sR ⟨131,k131.has⟩ n hn s) ?_
 rintro r H' ⟨rfl,rfl⟩
 conv=>whnf
 refine⟨fun m ρ H=>∃(k:Nat) (acc:Int),k+m=(pL n s).length∧0≤acc∧acc<256 ^ k∧((pL n s).drop k).foldl (fun n x=>n*256+x) acc=num (pL n s)∧H=[fW (kP n s)] ∧
  Sv 23 [(5,.int .i64 acc),(10,.list false 1 (bC (pL n s))),(11,.int .i64 (pL n s).length),(12,.int .i64 k)] ρ,(pL n s).length,[],?_,?_⟩
 ·exact⟨0,0,by omega,by omega,by omega,rfl,rfl,Sv.intro rfl ⟨rfl,rfl,aN (by rw[aD]),rfl,trivial⟩⟩
 rintro m ρ H ⟨k,acc,hk,h0,h1,hr,rfl,d,rfl⟩
 (conv=>whnf);refine aE (fun hlt=>?_) (fun hlt=>?_)
 ·simp at hlt
  obtain⟨x,hx,hd,hmem⟩:=aX hlt
  have hxb:=hb x hmem
  (conv=>whnf);refine And.intro (by omega) ?_
  (conv=>whnf);refine b4 (jZ hx) ?_
  (conv=>whnf);refine And.intro (by decide) ?_
  conv=>whnf
  have hp:(256:Int) ^ k≤256 ^ 4:=by
   have:(256:Nat) ^ k≤256 ^ 4:=Nat.pow_le_pow_right (by omega) (by omega)
   exact_mod_cast this
  have hp2:(256:Int) ^ (k+1)=256 ^ k*256:=Int.pow_succ ..
  refine⟨m-1,by omega,Gp.keep rfl ?_ fun ρ1 h=>⟨k+1,acc*256+x,by omega,by omega,by omega,?_,rfl,h⟩⟩
  ·refine⟨aN ?_,rfl,rfl,aN (aY ((k:Int)+1) (by omega) (by omega)),trivial⟩
   show GF (IntKind.i64.wrap (acc*2 ^ 8)) (IntKind.i64.wrap x)=_
   rw[aY _ (by omega) (by omega),aY x (by omega) (by omega),lU acc x 8 h0 hxb.1 (by omega) (by omega)]
   omega
  ·rw[←hr,hd];rfl
 ·simp at hlt
  conv=>whnf
  rw[List.drop_eq_nil_of_le hlt]at hr
  exact⟨aN hr,rfl⟩
theorem d9(n:Int)(hn:0≤n)(hn6:n≤4)(s:dI)(hby:fO s.rest)(H:List aB)(id:Nat)(ho:H[id]?=some (fW s)):
  a7 pr 110 [.ptr id 1 0 0,.int .i64 n] H (fun r H'=>r=.int .i64 (lS n s)∧H'=H.set id (fW (kP n s))) :=
 (zG n hn hn6 s hby).fr ho rfl rfl (.pt (.cl rfl trivial)) (.closed _ rfl)
def fH(s:dI):ByteArray:=uK (pL (lS 1 s) (kP 1 s))
def uM(s:dI):dI:=kP (lS 1 s) (kP 1 s)
set_option maxRecDepth 20000 in
theorem PS(s:dI)(hby:fO s.rest):
  a7 pr 129 [.ptr 0 1 0 0] [fW s] (fun r H'=>r=.str (fH s)∧H'=[fW (uM s)]):=by
 refine aA k129.has ?_
 (conv=>whnf);refine a7.mono (zG 1 (by omega) (by omega) s hby) ?_
 rintro r H' ⟨rfl,rfl⟩
 (conv=>whnf);refine a7.mono (sR ⟨131,k131.has⟩ _ (mW (by omega) (by omega) hby).1 (kP 1 s)) ?_
 rintro r H' ⟨rfl,rfl⟩
 (conv=>whnf);refine⟨_,eV _,?_⟩
 conv=>whnf
 exact⟨rfl,rfl⟩
theorem nD(s:dI)(hby:fO s.rest)(H:List aB)(id:Nat)(ho:H[id]?=some (fW s)):
  a7 pr 129 [.ptr id 1 0 0] H (fun r H'=>r=.str (fH s)∧H'=H.set id (fW (uM s))) :=
 (PS s hby).fr ho rfl rfl (.pt trivial) (.closed _ rfl)
def QI(l:List Int):Option (List V) :=
 if l.length=0∨12<l.getD 0 0 then none else match o9 (l.getD 0 0).toNat (l.drop 1)with
  |some (rs,[])=>some rs
  |_=>none
theorem tA(l:List Int):rP l=match QI l with|some rs=>.tuple [.list false 3 (vC rs),.int .i64 0]|none=>.tuple [.nil,.int .i64 11]:=by
 unfold rP QI rO
 split
 ·rfl
 ·generalize o9 (l.getD 0 0).toNat (List.drop 1 l)=o
  cases o with
  |none=>rfl
  |some p =>
   obtain⟨rs,r⟩:=p
   cases r<;>rfl
theorem iX{s:dI}(h:fO s.rest):fO (uM s).rest:=gX (gX h)
theorem V1(s:dI):(uM s).rest.length≤s.rest.length:=Nat.le_trans (HE _ _) (HE _ _)
theorem NI:∀{a b:List Int},fO a→fO b→(a.map fun n=>UInt8.ofNat n.toNat)=(b.map fun n=>UInt8.ofNat n.toNat)→a=b
 |[],[],_,_,_=>rfl
 |[],_::_,_,_,h=>by simp at h
 |_::_,[],_,_,h=>by simp at h
 |x::a,y::b,ha,hb,h=>by
  rw[List.map_cons,List.map_cons,List.cons.injEq]at h
  have hx:=ha x (List.mem_cons_self ..)
  have hy:=hb y (List.mem_cons_self ..)
  have e1:x=y:=by
   have:=congrArg UInt8.toNat h.1
   rw[UInt8.toNat_ofNat',UInt8.toNat_ofNat']at this
   omega
  rw[e1,NI (fun z hz=>ha z (List.mem_cons_of_mem _ hz)) (fun z hz=>hb z (List.mem_cons_of_mem _ hz)) h.2]
theorem AC{a b:List Int}(ha:fO a)(hb:fO b):((a.map fun n=>UInt8.ofNat n.toNat)==(b.map fun n=>UInt8.ofNat n.toNat))=(a==b):=by
 rw[Bool.eq_iff_iff,beq_iff_eq,beq_iff_eq]
 exact⟨NI ha hb,fun h=>by rw[h]⟩
theorem zX(e1 e2:Bool)(a b:List Int)(ha:fO a)(hb:fO b)(H:List aB):
  a7 pr 77 [.list e1 1 (bC a),.list e2 1 (bC b)] H (fun r H'=>r=.bool (a==b)∧H'=H):=by
 refine a7.pure rfl (aA k77.has ?_)
 (conv=>whnf);refine⟨_,eV _,?_⟩
 (conv=>whnf);refine⟨_,eV _,?_⟩
 conv=>whnf
 exact i3 (AC ha hb)
def f0:ZU:=⟨bs [],bs [],[]⟩
def dS(l:List Int):dI:=⟨l.take (l.length-4),false⟩
theorem N8(l:List Int):(uK l).size=l.length:=by simp[uK,ByteArray.size]
set_option maxRecDepth 20000 in
theorem TE{s:dI}(h:fO s.rest):(fH s).size≤255:=by
 rw[fH,N8]
 have h1:=AN _ (lI (n:=1) h)
 have h2:=qP (n:=1) (s:=s) (by omega)
 have h3:(256:Int) ^ (pL 1 s).length≤256 ^ 1:=by
  have:(256:Nat) ^ (pL 1 s).length≤256 ^ 1:=Nat.pow_le_pow_right (by omega) (by omega)
  exact_mod_cast this
 have h4:=qP (n:=lS 1 s) (s:=kP 1 s) h1.1
 have h5:lS 1 s<256:=by rw[lS];omega
 omega
def ZG(n:Int)(s:dI):List Int:=if QN n s then s.rest.take n.toNat else List.replicate n.toNat 0
def zt(s:dI):ByteArray:=uK (ZG (lS 1 s) (kP 1 s))
def z1(l:List Int):dI:=kP 4 (dS l)
def z2(l:List Int):dI:=uM (z1 l)
def z3(l:List Int):dI:=uM (z2 l)
def z4(l:List Int):dI:=kP 2 (z3 l)
end Go.AW
namespace Go.AW
variable [dE]
theorem yJ(x rest:List Int)(n:Int)(hn:n=x.length):pL n ⟨x++rest,false⟩=x∧ZG n ⟨x++rest,false⟩=x∧kP n ⟨x++rest,false⟩=⟨rest,false⟩:=by
 subst hn
 have h:QN x.length ⟨x++rest,false⟩=true:=by simp[QN];omega
 refine⟨?_,?_,?_⟩
 ·rw[pL,h,if_pos rfl];simp
 ·rw[ZG,h,if_pos rfl];simp
 ·rw[kP,h,if_pos rfl];simp
theorem S4:∀(k:Nat) (n:Int),0≤n→n<256 ^ k→num (j0 k n)=n
 |0,n,h0,h1=>by simp at h1;rw[j0];show(0:Int)=n;omega
 |k+1,n,h0,h1=>by
  rw[Int.pow_succ]at h1
  have ih:=S4 k (n / 256) (by omega) (by omega)
  rw[num]at ih
  rw[j0,num,List.foldl_append,ih]
  show n / 256*256+n % 256=n
  omega
theorem MC(x rest:List Int)(n:Int)(hn:n=x.length):lS n ⟨x++rest,false⟩=num x:=by rw[lS,(yJ x rest n hn).1]
theorem KS(s:ByteArray)(rest:List Int)(hs:s.size≤255):
  fH ⟨(u8 s.size::dQ s)++rest,false⟩=s∧zt ⟨(u8 s.size::dQ s)++rest,false⟩=s∧uM ⟨(u8 s.size::dQ s)++rest,false⟩=⟨rest,false⟩:=by
 have e1:(u8 s.size::dQ s)++rest=[u8 s.size]++(dQ s++rest):=rfl
 have hn:lS 1 ⟨(u8 s.size::dQ s)++rest,false⟩=s.size:=by
  rw[e1,MC [u8 s.size] _ 1 rfl]
  show 0*256+u8 s.size=_
  rw[m8];omega
 have ht:kP 1 ⟨(u8 s.size::dQ s)++rest,false⟩=⟨dQ s++rest,false⟩:=by
  rw[e1];exact(yJ [u8 s.size] _ 1 rfl).2.2
 have hb:=yJ (dQ s) rest s.size (by rw[bR])
 rw[fH,zt,uM,hn,ht,hb.1,hb.2.1,hb.2.2,wV]
 exact⟨rfl,rfl,rfl⟩
theorem TG{a b:V}(h:iB a=iB b):a=b:=by
 cases a;cases b
 simp[iB]at h
 obtain⟨rfl,rfl,rfl⟩:=h
 rfl
theorem N9:∀{a b:List V},vC a=vC b→a=b
 |[],[],_=>rfl
 |[],_::_,h=>by simp[vC]at h
 |_::_,[],h=>by simp[vC]at h
 |x::a,y::b,h=>by
  simp only[vC,List.map_cons,List.cons.injEq]at h
  rw[TG h.1,N9 (a:=a) (b:=b) h.2]
theorem TZ{row:List V}(h:DW row=0):QI (eZ row)=some row:=by
 obtain⟨h1,h2⟩:=EZ h
 have h3:=RF row h1 fun v hv=>List.all_eq_true.1 h2 v hv
 rw[tA]at h3
 cases hc:QI (eZ row)with
 |none=>rw[hc]at h3;simp at h3
 |some rs =>
  rw[hc]at h3
  simp only[a6.tuple.injEq,List.cons.injEq,a6.list.injEq]at h3
  rw[N9 h3.1.2.2]
theorem vB{s:ByteArray}(h:eE s=true):s.size≤24:=by
 simp only[eE,Bool.and_eq_true,decide_eq_true_eq]at h;exact h.1
theorem MK{s:ByteArray}(h:mK s=true):s.size≤49:=by
 unfold mK at h
 split at h
 ·rename_i h0
  simp only[Bool.and_eq_true]at h
  have h1:=vB h.1
  have h2:=vB h.2
  have hd:j1 s<s.size:=by
   rcases BX s.data.toList 46 with hx|⟨i,hx,hl⟩
   ·rw[j1,hx]at h0;omega
   ·rw[j1,hx]
    have:s.data.toList.length=s.size:=by simp
    omega
  rw[ByteArray.size_extract]at h1 h2
  omega
 ·have:=vB h;omega
attribute [local irreducible] a7
theorem mJ{H1:List aB}{n:Nat}{ids:List Nat}{id ep len sz:Nat}{es:List (List a6)}(hid:id∉ids)(ho:H1[id]?=some (.arr sz es))(he:ep=es.length)(hl:len=es.length)(hp:bG es=true):dV H1 n ids (.sl id ep 0 len) (.list false sz es):=by
 subst hl he
 have:=dV.frz (n:=n) (ids:=ids) id es.length 0 es.length sz es ho rfl hp hid
 rwa [List.drop_zero,List.take_length]at this
theorem SG(x k:Int)(hk:1≤k)(hk2:k≤1000000):(IntKind.i64.wrap (x.tmod k+k)).tmod k=x % k:=by
 have h1:=Int.tmod_lt_of_pos x (show 0<k by omega)
 have h2:=Int.lt_tmod_of_pos x (show 0<k by omega)
 rw[aY _ (by omega) (by omega),Int.tmod_eq_emod_of_nonneg (by omega),Int.add_emod_right,Int.tmod_def,Int.sub_mul_emod_self_left]
theorem uQ(x k:Int)(hk:1≤k)(hk2:k≤1000000)(H:List aB):
  a7 pr 12 [.int .i64 x,.int .i64 k] H (fun r H'=>r=.int .i64 (x % k)∧H'=H):=by
 refine a7.pure rfl (aA k12.has ?_)
 (conv=>whnf);refine sF (by simp;omega) ?_
 (conv=>whnf);refine And.intro (by omega) ?_
 (conv=>whnf);refine And.intro (by omega) ?_
 conv=>whnf
 exact eT (SG x k hk hk2)
theorem mY(e1 e2:Bool)(a b:List Int)(ha:fO a)(hb:fO b)(H:List aB):
  a7 pr 30 [.list e1 1 (bC a),.list e2 1 (bC b)] H (fun r H'=>r=.bool (a==b)∧H'=H):=by
 refine a7.pure rfl (aA k30.has ?_)
 (conv=>whnf);refine⟨_,eV _,?_⟩
 (conv=>whnf);refine⟨_,eV _,?_⟩
 conv=>whnf
 exact i3 (AC ha hb)
def gO(l:List Int)(i:Nat):aB:=.arr 2 [[.list false 1 (iC l),.int .i64 i]]
def nx(l:List Int)(i:Nat)(n:Int):Int×Nat:=if l.length≤i∨n<1 then(0,i)else(l.getD i 0 % n,i+1)
theorem vD(l:List Int)(i:Nat)(n:Int)(hn:1≤n):0≤(nx l i n).1∧(nx l i n).1<n:=by
 unfold nx
 split
 ·exact⟨by simp,by simp;omega⟩
 ·exact⟨Int.emod_nonneg _ (by omega),Int.emod_lt_of_pos _ (by omega)⟩
theorem EQ(l:List Int)(i:Nat)(n:Int)(h:i≤l.length):(nx l i n).2≤l.length:=by
 unfold nx
 split
 ·exact h
 ·rename_i h1
  show i+1≤_
  omega
set_option maxRecDepth 20000 in
theorem QV(l:List Int)(i:Nat)(n:Int)(hi:i≤l.length)(hl:l.length≤1000000)(hn:n≤1000000):
  a7 pr 43 [.ptr 0 1 0 0,.int .i64 n] [gO l i] (fun r H'=>r=.int .i64 (nx l i n).1∧H'=[gO l (nx l i n).2]):=by
 refine aA k43.has ?_
 (conv=>whnf);refine aE (fun h1=>?_) (fun h1=>?_)
 ·simp[cA]at h1
  conv=>whnf
  rw[nx,if_pos (.inl h1)]
  exact⟨rfl,rfl⟩
 simp[cA]at h1
 (conv=>whnf);refine aE (fun h2=>?_) (fun h2=>?_)
 ·simp at h2
  conv=>whnf
  rw[nx,if_pos (.inr h2)]
  exact⟨rfl,rfl⟩
 simp at h2
 have e1:IntKind.i64.wrap ((i:Int)+1)=((i+1:Nat):Int):=by rw[aY _ (by omega) (by omega)];omega
 have e2:IntKind.i64.wrap (IntKind.i64.wrap ((i:Int)+1)-1)=i:=by rw[e1,aY _ (by omega) (by omega)];omega
 have e3:(IntKind.i64.wrap (IntKind.i64.wrap ((i:Int)+1)-1)).toNat=i:=by rw[e2,Int.toNat_natCast]
 have eg:(iC l)[i]?=some [.int .i64 (l.getD i 0)]:=BW (by omega)
 (conv=>whnf);refine And.intro (by rw[e2];omega) ?_
 (conv=>whnf);refine b4 (by rw[e3];exact eg) ?_
 (conv=>whnf);refine⟨_,uQ (l.getD i 0) n (by omega) (by omega) _,?_⟩
 conv=>whnf
 rw[nx,if_neg (by omega)]
 refine⟨rfl,?_⟩
 show[aB.arr 2 [[.list false 1 (iC l),.int .i64 (IntKind.i64.wrap ((i:Int)+1))]]]=_
 rw[e1];rfl
def ZY(l:List ByteArray)(s:ByteArray):Bool:=l.any fun x=>OV x s
theorem gG(l:List Int)(i:Nat)(n:Int)(hi:i≤l.length)(hl:l.length≤1000000)(hn:n≤1000000)(H:List aB)(id:Nat)(ho:H[id]?=some (gO l i)):
  a7 pr 43 [.ptr id 1 0 0,.int .i64 n] H (fun r H'=>r=.int .i64 (nx l i n).1∧H'=H.set id (gO l (nx l i n).2)) :=
 (QV l i n hi hl hn).fr ho rfl rfl (.pt (.cl rfl trivial)) (.closed _ rfl)
def XG:List Int:=[0,719,1380,1400,1439,1440,1500,2000,2879,2880,4000,4320,5000,7199,7200,9000]
def nO:Nat→List Int
 |0=>XG
 |k+1=>(nO k).set k (IntKind.i64.wrap ((nO k).getD k 0+144000))
theorem EJ:∀k,(nO k).length=16
 |0=>rfl
 |k+1=>by rw[nO,List.length_set,EJ k]
def BY:List Int:=[144000,144719,145380,145400,145439,145440,145500,146000,146879,146880,148000,148320,149000,151199,151200,153000]
theorem RN:nO 16=BY:=by decide
theorem SZ(l:List Int)(k:Nat)(v:Int):uH (iC l) k [.int .i64 v]=iC (l.set k v):=by rw[wS];simp[iC]
set_option maxRecDepth 20000 in
theorem u5(H:List aB):
  a7 pr 198 [] H (fun r H'=>r=.list false 1 (iC BY)∧H'=H):=by
 refine a7.pure rfl (aA k198.has ?_)
 conv=>whnf
 refine⟨fun m ρ H1=>∃k:Nat,k+m=16∧H1=[.arr 1 (iC (nO k))]∧Sv 17 [(1,.sl 0 16 0 16),(2,.int .i64 k)] ρ,16,[],?_,?_⟩
 ·exact⟨0,by omega,rfl,Sv.intro rfl ⟨rfl,rfl,trivial⟩⟩
 rintro m ρ H1 ⟨k,hk,rfl,d,rfl⟩
 have hl:=EJ k
 (conv=>whnf);refine b8 (by rw[cA,hl];rfl) ?_
 (conv=>whnf);refine aE (fun hlt=>?_) (fun hlt=>?_)
 ·simp at hlt
  have eg:(iC (nO k))[k]?=some [.int .i64 ((nO k).getD k 0)]:=BW (by omega)
  have hb:Nat.beq 16 (iC (nO k)).length=true:=by rw[cA,hl];rfl
  have hidx:(iC (nO k))[0+(k:Int).toNat]?=some [.int .i64 ((nO k).getD k 0)]:=by rw[Nat.zero_add,Int.toNat_natCast];exact eg
  (conv=>whnf);refine b8 (hb) ?_
  (conv=>whnf);refine And.intro (⟨by omega,by omega⟩) ?_
  (conv=>whnf);refine b8 (hb) ?_
  (conv=>whnf);refine b4 (hidx) ?_
  (conv=>whnf);refine b8 (hb) ?_
  (conv=>whnf);refine And.intro (⟨by omega,by omega⟩) ?_
  (conv=>whnf);refine b8 (hb) ?_
  (conv=>whnf);refine b4 (hidx) ?_
  conv=>whnf
  refine⟨m-1,by omega,Gp.keep rfl ?_ fun ρ1 h=>⟨k+1,by omega,?_,h⟩⟩
  ·exact⟨rfl,aN (aY _ (by omega) (by omega)),trivial⟩
  ·show[aB.arr 1 (uH (iC (nO k)) (0+(k:Int).toNat) [.int .i64 (IntKind.i64.wrap ((nO k).getD k 0+144000))])]=_
   rw[Nat.zero_add,Int.toNat_natCast,SZ,nO]
 ·simp at hlt
  have:k=16:=by omega
  subst this
  rw[RN]
  conv=>whnf
  exact sE rfl rfl rfl (y5 _)
def DH:List ByteArray:=[bs [],bs [97],bs [98],bs [105,116,39,115],bs [122,122]]
def QO(k:Int)(l:List Int)(i:Nat):V×Nat :=
 if k=1 then(⟨1,(nx l i 2).1,bs []⟩,(nx l i 2).2)
 else if k=2 then(⟨2,(nx l i 7).1-1,bs []⟩,(nx l i 7).2)
 else if k=3 then(⟨3,0,DH.getD (nx l i 5).1.toNat (bs [])⟩,(nx l i 5).2)
 else(⟨4,BY.getD (nx l i 16).1.toNat 0,bs []⟩,(nx l i 16).2)
def wv(c:c8)(l:List Int)(i:Nat):V×Nat :=
 if c.nul then(if(nx l i 5).1=0 then(zV,(nx l i 5).2)else QO c.kind l (nx l i 5).2)else QO c.kind l i
set_option maxRecDepth 20000 in
theorem OG(c:c8)(l:List Int)(i:Nat)(hi:i≤l.length)(hl:l.length≤1000000):
  a7 pr 151 [.agg (fY c),.ptr 0 1 0 0] [gO l i] (fun r H'=>r=.agg (iB (wv c l i).1)∧H'=[gO l (wv c l i).2]):=by
 refine a7.gp (Q0:=fun r H'=>r=.agg (iB (wv c l i).1)∧∃x y,H'=[gO l (wv c l i).2,x,y]) ?_ (by
  rintro r H' ⟨rfl,x,y,rfl⟩
  exact Gp.res [0] (by simp) (bY rfl rfl rfl) (H1:=[gO l (wv c l i).2]) ⟨⟨_,rfl,.same _ _ rfl⟩,trivial⟩ (.closed _ rfl) ⟨_,rfl,rfl,rfl⟩)
 refine aA k151.has ?_
 obtain⟨nm,kd,nl⟩:=c
 cases nl with
 |true =>
  (conv=>whnf);refine a7.mono (gG l i 5 hi hl (by decide) _ 0 rfl) ?_
  rintro r H' ⟨rfl,rfl⟩
  have hj:=EQ l i 5 hi
  (conv=>whnf);refine aE (fun h0=>?_) (fun h0=>?_)
  ·simp at h0
   conv=>whnf
   rw[wv,if_pos rfl,if_pos h0]
   exact⟨rfl,_,_,rfl⟩
  simp at h0
  (conv=>whnf);refine aE (fun k1=>?_) (fun k1=>?_)
  ·simp at k1
   (conv=>whnf);refine a7.mono (gG l ((nx l i 5).2) 2 (hj) hl (by decide) _ 0 rfl) ?_
   rintro r H' ⟨rfl,rfl⟩
   conv=>whnf
   rw[wv,if_pos rfl,if_neg h0]
   rw[QO,if_pos k1]
   exact⟨rfl,_,_,rfl⟩
  simp at k1
  (conv=>whnf);refine aE (fun k2=>?_) (fun k2=>?_)
  ·simp at k2
   (conv=>whnf);refine a7.mono (gG l ((nx l i 5).2) 7 (hj) hl (by decide) _ 0 rfl) ?_
   rintro r H' ⟨rfl,rfl⟩
   have hb:=vD l ((nx l i 5).2) 7 (by decide)
   conv=>whnf
   rw[wv,if_pos rfl,if_neg h0]
   rw[QO,if_neg k1,if_pos k2]
   refine⟨?_,_,_,rfl⟩
   show a6.agg [.int .i64 2,.int .i64 (IntKind.i64.wrap ((nx l ((nx l i 5).2) 7).1-1)),.str (bs [])]=_
   rw[aY _ (by omega) (by omega)]
   rfl
  simp at k2
  (conv=>whnf);refine aE (fun k3=>?_) (fun k3=>?_)
  ·simp at k3
   (conv=>whnf);refine a7.mono (gG l ((nx l i 5).2) 5 (hj) hl (by decide) _ 0 rfl) ?_
   rintro r H' ⟨rfl,rfl⟩
   have hb:=vD l ((nx l i 5).2) 5 (by decide)
   (conv=>whnf);refine And.intro (hb.1) ?_
   (conv=>whnf);refine b4 (mL (l:=DH) (x:=DH.getD (nx l ((nx l i 5).2) 5).1.toNat (bs [])) (by rw[List.getD_eq_getElem?_getD,List.getElem?_eq_getElem (by show(nx l ((nx l i 5).2) 5).1.toNat<5;omega)];rfl)) ?_
   conv=>whnf
   rw[wv,if_pos rfl,if_neg h0]
   rw[QO,if_neg k1,if_neg k2,if_pos k3]
   exact⟨rfl,_,_,rfl⟩
  simp at k3
  (conv=>whnf);refine a7.use (u5 _) ?_
  (conv=>whnf);refine a7.mono (gG l ((nx l i 5).2) 16 (hj) hl (by decide) _ 0 rfl) ?_
  rintro r H' ⟨rfl,rfl⟩
  have hb:=vD l ((nx l i 5).2) 16 (by decide)
  (conv=>whnf);refine And.intro (hb.1) ?_
  (conv=>whnf);refine b4 (J0 (l:=BY) (x:=BY.getD (nx l ((nx l i 5).2) 16).1.toNat 0) (by rw[List.getD_eq_getElem?_getD,List.getElem?_eq_getElem (by show(nx l ((nx l i 5).2) 16).1.toNat<16;omega)];rfl)) ?_
  conv=>whnf
  rw[wv,if_pos rfl,if_neg h0]
  rw[QO,if_neg k1,if_neg k2,if_neg k3]
  exact⟨rfl,_,_,rfl⟩
 |false =>
  (conv=>whnf);refine aE (fun k1=>?_) (fun k1=>?_)
  ·simp at k1
   (conv=>whnf);refine a7.mono (gG l (i) 2 (hi) hl (by decide) _ 0 rfl) ?_
   rintro r H' ⟨rfl,rfl⟩
   conv=>whnf
   rw[wv,if_neg (by simp)]
   rw[QO,if_pos k1]
   exact⟨rfl,_,_,rfl⟩
  simp at k1
  (conv=>whnf);refine aE (fun k2=>?_) (fun k2=>?_)
  ·simp at k2
   (conv=>whnf);refine a7.mono (gG l (i) 7 (hi) hl (by decide) _ 0 rfl) ?_
   rintro r H' ⟨rfl,rfl⟩
   have hb:=vD l (i) 7 (by decide)
   conv=>whnf
   rw[wv,if_neg (by simp)]
   rw[QO,if_neg k1,if_pos k2]
   refine⟨?_,_,_,rfl⟩
   show a6.agg [.int .i64 2,.int .i64 (IntKind.i64.wrap ((nx l (i) 7).1-1)),.str (bs [])]=_
   rw[aY _ (by omega) (by omega)]
   rfl
  simp at k2
  (conv=>whnf);refine aE (fun k3=>?_) (fun k3=>?_)
  ·simp at k3
   (conv=>whnf);refine a7.mono (gG l (i) 5 (hi) hl (by decide) _ 0 rfl) ?_
   rintro r H' ⟨rfl,rfl⟩
   have hb:=vD l (i) 5 (by decide)
   (conv=>whnf);refine And.intro (hb.1) ?_
   (conv=>whnf);refine b4 (mL (l:=DH) (x:=DH.getD (nx l (i) 5).1.toNat (bs [])) (by rw[List.getD_eq_getElem?_getD,List.getElem?_eq_getElem (by show(nx l (i) 5).1.toNat<5;omega)];rfl)) ?_
   conv=>whnf
   rw[wv,if_neg (by simp)]
   rw[QO,if_neg k1,if_neg k2,if_pos k3]
   exact⟨rfl,_,_,rfl⟩
  simp at k3
  (conv=>whnf);refine a7.use (u5 _) ?_
  (conv=>whnf);refine a7.mono (gG l (i) 16 (hi) hl (by decide) _ 0 rfl) ?_
  rintro r H' ⟨rfl,rfl⟩
  have hb:=vD l (i) 16 (by decide)
  (conv=>whnf);refine And.intro (hb.1) ?_
  (conv=>whnf);refine b4 (J0 (l:=BY) (x:=BY.getD (nx l (i) 16).1.toNat 0) (by rw[List.getD_eq_getElem?_getD,List.getElem?_eq_getElem (by show(nx l (i) 16).1.toNat<16;omega)];rfl)) ?_
  conv=>whnf
  rw[wv,if_neg (by simp)]
  rw[QO,if_neg k1,if_neg k2,if_neg k3]
  exact⟨rfl,_,_,rfl⟩
theorem TJ(k:Int)(l:List Int)(i:Nat)(h:i≤l.length):(QO k l i).2≤l.length:=by
 unfold QO
 repeat' split
 all_goals exact EQ _ _ _ h
theorem TK(c:c8)(l:List Int)(i:Nat)(h:i≤l.length):(wv c l i).2≤l.length:=by
 unfold wv
 repeat' split
 ·exact EQ _ _ _ h
 ·exact TJ _ _ _ (EQ _ _ _ h)
 ·exact TJ _ _ _ h
theorem zN(c:c8)(l:List Int)(i:Nat)(hi:i≤l.length)(hl:l.length≤1000000)(H:List aB)(id:Nat)(ho:H[id]?=some (gO l i)):
  a7 pr 151 [.agg (fY c),.ptr id 1 0 0] H (fun r H'=>r=.agg (iB (wv c l i).1)∧H'=H.set id (gO l (wv c l i).2)) :=
 (OG c l i hi hl).fr ho rfl rfl (.cl rfl (.pt trivial)) (.closed _ rfl)
def wr(l:List Int):List c8→Nat→List V→List V×Nat
 |[],i,out=>(out,i)
 |c::cs,i,out=>wr l cs (wv c l i).2 (out++[(wv c l i).1])
theorem TI(l:List Int):∀(cs:List c8) (i:Nat) (out:List V),(wr l cs i out).1.length=out.length+cs.length
 |[],_,_=>rfl
 |c::cs,i,out=>by rw[wr,TI l cs];simp;omega
theorem VL(l:List Int):∀(cs:List c8) (i:Nat) (out:List V),i≤l.length→(wr l cs i out).2≤l.length
 |[],_,_,h=>h
 |c::cs,i,out,h=>by rw[wr];exact VL l cs _ _ (TK c l i h)
set_option maxRecDepth 20000 in
theorem QX(cs:List c8)(hc:cs≠[])(hcl:cs.length≤1000)(l:List Int)(i:Nat)(hi:i≤l.length)(hl:l.length≤1000000):
  a7 pr 98 [.list false 3 (cC cs),.ptr 0 1 0 0] [gO l i] (fun r H'=>r=.sl 1 cs.length 0 cs.length∧H'=[gO l (wr l cs i []).2,.arr 3 (vC (wr l cs i []).1)]):=by
 refine aA k98.has ?_
 conv=>whnf
 refine⟨fun m ρ H1=>∃(k j:Nat) (out:List V),k+m=cs.length∧j≤l.length∧out.length=k∧wr l (cs.drop k) j out=wr l cs i [] ∧
  ((k=0∧H1=[gO l j]∧Sv 23 [(0,.list false 3 (cC cs)),(1,.ptr 0 1 0 0),(5,.nil),(6,.int .i64 0)] ρ) ∨
  (0<k∧H1=[gO l j,.arr 3 (vC out)]∧Sv 23 [(0,.list false 3 (cC cs)),(1,.ptr 0 1 0 0),(5,.sl 1 k 0 k),(6,.int .i64 k)] ρ)),cs.length,[],?_,?_⟩
 ·exact⟨0,i,[],by omega,hi,rfl,rfl,.inl ⟨rfl,rfl,Sv.intro rfl ⟨rfl,rfl,rfl,rfl,trivial⟩⟩⟩
 rintro m ρ H1 ⟨k,j,out,hk,hj,ho,hr,⟨rfl,rfl,d,rfl⟩|⟨hk0,rfl,d,rfl⟩⟩
 ·have hlt0:0<cs.length:=List.length_pos_iff.2 hc
  (conv=>whnf);refine b8 (by rw[aW];simp;omega) ?_
  have hx:cs[0]?=some cs[0]:=List.getElem?_eq_getElem hlt0
  have rB:cs.drop 0=cs[0]::cs.drop 1:=List.drop_eq_getElem_cons hlt0
  have ho0:out=[]:=List.eq_nil_of_length_eq_zero (by omega)
  subst ho0
  rw[rB,wr]at hr
  (conv=>whnf);refine And.intro (by omega) ?_
  (conv=>whnf);refine b4 (iI hx) ?_
  (conv=>whnf);refine a7.mono (zN cs[0] l j hj hl _ 0 rfl) ?_
  rintro r H' ⟨rfl,rfl⟩
  (conv=>whnf);refine And.intro (⟨cM (by simp) (by omega),bK (by simp)⟩) ?_
  conv=>whnf
  refine⟨m-1,by omega,Gp.keep (live:=[(0,.list false 3 (cC cs)),(1,.ptr 0 1 0 0),(5,.sl 1 1 0 1),(6,.int .i64 (1:Nat))]) rfl ?_ fun ρ1 h=>⟨1,(wv cs[0] l j).2,[(wv cs[0] l j).1],by omega,TK _ _ _ hj,rfl,hr,.inr ⟨by omega,rfl,h⟩⟩⟩
  exact⟨rfl,rfl,rfl,rfl,trivial⟩
 ·(conv=>whnf);refine aE (fun hlt=>?_) (fun hlt=>?_)
  ·simp[aW]at hlt
   have hx:cs[k]?=some cs[k]:=List.getElem?_eq_getElem hlt
   rw[List.drop_eq_getElem_cons hlt,wr]at hr
   (conv=>whnf);refine And.intro (by omega) ?_
   (conv=>whnf);refine b4 (iI hx) ?_
   (conv=>whnf);refine a7.mono (zN cs[k] l j hj hl _ 0 rfl) ?_
   rintro r H' ⟨rfl,rfl⟩
   (conv=>whnf);refine b8 (by rw[b9,ho];exact Nat.beq_refl _) ?_
   (conv=>whnf);refine And.intro (⟨cM (by simp;omega) (by omega),bK (by simp;omega),rfl,by rw[b9,ho]⟩) ?_
   conv=>whnf
   have hcn:vC out++[iB (wv cs[k] l j).1]=vC (out++[(wv cs[k] l j).1]):=by rw[yK];rfl
   have hln:(vC out++[iB (wv cs[k] l j).1]).length=k+1:=by rw[hcn,b9];simp[ho]
   refine⟨m-1,by omega,Gp.keep (live:=[(0,.list false 3 (cC cs)),(1,.ptr 0 1 0 0),(5,.sl 1 (k+1) 0 (k+1)),(6,.int .i64 (k+1:Nat))]) rfl ?_ fun ρ1 h=>⟨k+1,(wv cs[k] l j).2,out++[(wv cs[k] l j).1],by omega,TK _ _ _ hj,by simp[ho],hr,.inr ⟨by omega,by rw[←hcn];rfl,h⟩⟩⟩
   exact⟨rfl,rfl,eS hln hln,aN (aY _ (by omega) (by omega)),trivial⟩
  ·simp[aW]at hlt
   have hkl:k=cs.length:=by omega
   rw[List.drop_of_length_le (by omega),wr]at hr
   conv=>whnf
   subst hkl
   rw[←hr]
   exact⟨rfl,rfl⟩
theorem QD(cs:List c8)(hc:cs≠[])(hcl:cs.length≤1000)(l:List Int)(i:Nat)(hi:i≤l.length)(hl:l.length≤1000000)(H:List aB)(id:Nat)(ho:H[id]?=some (gO l i)):
  a7 pr 98 [.list false 3 (cC cs),.ptr id 1 0 0] H (fun r H'=>r=.sl H.length cs.length 0 cs.length∧H'=H.set id (gO l (wr l cs i []).2)++[.arr 3 (vC (wr l cs i []).1)]):=by
 refine(QX cs hc hcl l i hi hl).frG (G:=[.arr 3 (vC (wr l cs i []).1)]) ho rfl rfl ?_ (.cl rfl (.pt trivial)) ?_
 ·intro x hx
  rw[List.mem_singleton.1 hx]
  exact l9 _
 ·exact .sl 1 cs.length 0 cs.length
structure YC where
 cols:List c8
 key:List ByteArray
 late:Int
 reopen:Int
def sAt:ByteArray:=bs [97,116]
def NX(key:List ByteArray)(c:c8):Bool:=ZY key c.name||OV c.name sAt
def XD(key:List ByteArray):List c8→List V→List V
 |c::cs,v::vs=>(if NX key c then v else zV)::XD key cs vs
 |_,_=>[]
def wk(s:YC)(l:List Int)(i:Nat):Int×Nat:=nx l (wr l s.cols (nx l i 4).2 []).2 24
def QF(s:YC)(l:List Int)(i:Nat):List V:=(wr l s.cols (nx l i 4).2 []).1
def Y5(s:YC)(l:List Int)(i:Nat):YA×Nat :=
 if(wk s l i).1<5 then(⟨true,(nx l i 4).1,XD s.key s.cols (QF s l i)⟩,(wk s l i).2)
 else if(wk s l i).1=5 then(⟨true,(nx l i 4).1,QF s l i⟩,(wk s l i).2)
 else if(wk s l i).1=6 then(⟨false,(nx l i 4).1,(QF s l i).take (s.cols.length-1)⟩,(wk s l i).2)
 else if(wk s l i).1=7 then(⟨false,(nx l i 4).1,(QF s l i).set (nx l (wk s l i).2 s.cols.length).1.toNat ⟨1,1,bs []⟩⟩,(nx l (wk s l i).2 s.cols.length).2)
 else if(wk s l i).1=8 then(⟨false,-1,QF s l i⟩,(wk s l i).2)
 else(⟨false,(nx l i 4).1,QF s l i⟩,(wk s l i).2)
def wf(s:YC)(l:List Int):Nat→Nat→List YA→List YA×Nat
 |0,i,L=>(L,i)
 |k+1,i,L=>wf s l k (Y5 s l i).2 (L++[(Y5 s l i).1])
def tO(x y z:List Int):aB:=.arr 1 [[.list false 1 (bC x)],[.list false 1 (bC y)],[.list false 1 (bC z)]]
def GI(e:cU):Bool:=decide (0<e.cnt)
theorem NG{b:List cU}(h:gI b=0):b.length≤1000000:=by
 unfold gI at h
 split at h
 ·cases h
 ·omega
set_option maxRecDepth 20000 in
theorem vG(ex:Bool)(b:List cU)(hl:b.length≤1000000)(H:List aB):
  a7 pr 126 [.list ex 2 (eC b)] H (fun r H'=>r=.bool (b.all GI)∧H'=H):=by
 refine a7.pure (by simp[a6.closed,a6.isPure]) (aA k126.has ?_)
 conv=>whnf
 refine⟨fun m ρ H1=>∃k:Nat,k+m=b.length∧b.all GI=(b.drop k).all GI∧H1=[]∧Sv 16 [(0,.list ex 2 (eC b)),(3,.int .i64 k)] ρ,b.length,[],?_,?_⟩
 ·exact⟨0,by omega,rfl,rfl,Sv.intro rfl ⟨rfl,rfl,trivial⟩⟩
 rintro m ρ H1 ⟨k,hk,hr,rfl,d,rfl⟩
 (conv=>whnf);refine aE (fun hlt=>?_) (fun hlt=>?_)
 ·simp[aR]at hlt
  have hx:b[k]?=some b[k]:=List.getElem?_eq_getElem hlt
  rw[List.drop_eq_getElem_cons hlt,List.all_cons]at hr
  (conv=>whnf);refine And.intro (by omega) ?_
  (conv=>whnf);refine b4 (eP hx) ?_
  (conv=>whnf);refine aE (fun h5=>?_) (fun h5=>?_)
  ·simp at h5
   conv=>whnf
   exact i3 (by rw[hr,GI,decide_eq_false (by omega)];rfl)
  ·simp at h5
   rw[GI,decide_eq_true (by omega),Bool.true_and]at hr
   conv=>whnf
   refine⟨m-1,by omega,Gp.keep rfl ?_ fun ρ1 h=>⟨k+1,by omega,hr,rfl,h⟩⟩
   exact⟨rfl,aN (aY _ (by omega) (by omega)),trivial⟩
 ·simp[aR]at hlt
  rw[List.drop_of_length_le (by omega)]at hr
  conv=>whnf
  exact i3 hr.symm
def nF:Nat→List cU→List cU
 |0,l=>l
 |n+1,l=>if l.length<2 then l else nG (nF n (l.take (l.length / 2))) (nF n (l.drop (l.length / 2)))
theorem F6{l:List cU}(h:l.length<2):QZ l:=by
 match l,h with
 |[],_=>exact List.Pairwise.nil
 |[x],_=>exact List.pairwise_singleton _ _
theorem DD:∀(n:Nat) (l:List cU),l.length≤n+1→QZ (nF n l)
 |0,l,h=>by rw[nF];exact F6 (by omega)
 |n+1,l,h=>by
  rw[nF]
  split
  ·exact F6 (by assumption)
  ·exact AS _ _ (DD n _ (by rw[List.length_take];omega)) (DD n _ (by rw[List.length_drop];omega))
def mN(B:Int)(e:cU):Prop:=e.row.length≤12 ∧ -B≤e.cnt∧e.cnt≤B
set_option maxRecDepth 20000 in
theorem A3{B:Int}(hB0:B≤4000000000000)(e1 e2:Bool)(a b:List cU)(ha:a.length≤100000)(hb:b.length≤100000)(hA:∀e∈a,mN B e)(hB:∀e∈b,mN B e):
  a7 pr 248 [.list e1 2 (eC a),.list e2 2 (eC b)] [] (fun r H'=>r=.sl 0 (nG a b).length 0 (nG a b).length∧H'=[.arr 2 (eC (nG a b))]):=by
 refine aA k248.has ?_
 conv=>whnf
 refine⟨fun m ρ H=>∃(a' b' pre:List cU) (f1 f2:Bool),m=a'.length+b'.length∧nG a b=pre++nG a' b' ∧
   pre.length+a'.length+b'.length≤a.length+b.length∧(∀e∈a',mN B e)∧(∀e∈b',mN B e)∧H=[.arr 2 (eC pre)] ∧
   Sv 74 [(0,.list f1 2 (eC a')),(1,.list f2 2 (eC b')),(5,.sl 0 pre.length 0 pre.length)] ρ,a.length+b.length,[(5,2)],?_,?_⟩
 ·exact⟨a,b,[],e1,e2,rfl,rfl,by simp,hA,hB,by rfl,Sv.intro rfl ⟨rfl,rfl,rfl,trivial⟩⟩
 rintro m ρ H ⟨a',b',pre,f1,f2,hm,hM,hlen,hA',hB',rfl,d,rfl⟩
 (conv=>whnf);refine aE (fun hz=>?_) (fun hz=>?_)
 ·replace hz:decide (((eC a').length:Int)>0)=true:=hz
  rw[aR]at hz
  have hzl:a'.length≠0:=by simp at hz;omega
  obtain⟨x,hx,hxd,hxm⟩:=aX (l:=a') (k:=0) (by omega)
  obtain⟨kx1,kx2,kx3⟩:=hA' x hxm
  rw[List.drop_zero]at hxd
  (conv=>whnf);refine sF (by rw[aR];simpa using hzl) ?_
  (conv=>whnf);refine aE (fun hw=>?_) (fun hw=>?_)
  ·replace hw:decide (((eC b').length:Int)>0)=true:=hw
   rw[aR]at hw
   have hwl:b'.length≠0:=by simp at hw;omega
   obtain⟨y,hy,hyd,hym⟩:=aX (l:=b') (k:=0) (by omega)
   obtain⟨ky1,ky2,ky3⟩:=hB' y hym
   rw[List.drop_zero]at hyd
   (conv=>whnf);refine And.intro (by decide) ?_
   (conv=>whnf);refine b4 (eP hx) ?_
   (conv=>whnf);refine And.intro (by decide) ?_
   (conv=>whnf);refine b4 (eP hy) ?_
   conv=>whnf
   refine⟨_,kU false false x.row y.row (by omega) _,?_⟩
   (conv=>whnf);refine aE (fun hc=>?_) (fun hc=>?_)
   ·replace hc:decide (bF x.row y.row<0)=true:=hc
    simp at hc
    (conv=>whnf);refine And.intro (by decide) ?_
    (conv=>whnf);refine b4 (eP hx) ?_
    have hN:nG a b=(pre++[⟨x.row,x.cnt⟩])++nG (a'.drop 1) (b'):=by
     rw[hM,XM hxd (.inr ⟨_,_,hyd,hc⟩),List.append_assoc];rfl
    have hlN:pre.length+1+(a'.drop 1).length+(b').length≤a.length+b.length:=by simp[List.length_drop];omega
    have hmN:(a'.drop 1).length+(b').length<m:=by simp[List.length_drop];omega
    have hAN:∀e∈(a'.drop 1),mN B e:=fun e h=>hA' e (by first|exact h|exact List.mem_of_mem_drop h)
    have hBN:∀e∈(b'),mN B e:=fun e h=>hB' e (by first|exact h|exact List.mem_of_mem_drop h)
    have hFl:(eC pre++[j4 ⟨x.row,x.cnt⟩]).length=(pre++[(⟨x.row,x.cnt⟩:cU)]).length:=by simp[aR]
    (conv=>whnf);refine b8 (by rw[aR];exact Nat.beq_refl _) ?_
    (conv=>whnf);refine And.intro ⟨cM (by simp;omega) (by omega),bK (by simp;omega),rfl,by rw[aR]⟩ ?_
    (conv=>whnf);refine And.intro ⟨by omega,by rw[aR];omega⟩ ?_
    (conv=>whnf);refine And.intro (by(conv=>whnf);exact⟨⟨by omega,by rw[aR];omega⟩,rfl⟩) ?_
    conv=>whnf
    refine⟨(a'.drop 1).length+(b').length,hmN,Gp.one 0 2 (eC (pre++[⟨x.row,x.cnt⟩])) (by rw[l5];rfl) (gM _) rfl ?_ fun ρ1 h=>⟨a'.drop 1,b',pre++[⟨x.row,x.cnt⟩],(f1&&(none:Option bA).isNone),f2,rfl,hN,by simpa using hlN,hAN,hBN,rfl,h⟩⟩
    exact⟨PI (F7 a'),.closed _ rfl,kS (k:=0) rfl rfl hFl hFl,trivial⟩
   ·replace hc:decide (bF x.row y.row<0)=false:=hc
    simp at hc
    (conv=>whnf);refine aE (fun hg=>?_) (fun hg=>?_)
    ·replace hg:decide (bF x.row y.row>0)=true:=hg
     simp at hg
     (conv=>whnf);refine And.intro (by decide) ?_
     (conv=>whnf);refine b4 (eP hy) ?_
     have hN:nG a b=(pre++[⟨y.row,y.cnt⟩])++nG (a') (b'.drop 1):=by
      rw[hM,XN hyd (.inr ⟨_,_,hxd,hg⟩),List.append_assoc];rfl
     have hlN:pre.length+1+(a').length+(b'.drop 1).length≤a.length+b.length:=by simp[List.length_drop];omega
     have hmN:(a').length+(b'.drop 1).length<m:=by simp[List.length_drop];omega
     have hAN:∀e∈(a'),mN B e:=fun e h=>hA' e (by first|exact h|exact List.mem_of_mem_drop h)
     have hBN:∀e∈(b'.drop 1),mN B e:=fun e h=>hB' e (by first|exact h|exact List.mem_of_mem_drop h)
     have hFl:(eC pre++[j4 ⟨y.row,y.cnt⟩]).length=(pre++[(⟨y.row,y.cnt⟩:cU)]).length:=by simp[aR]
     (conv=>whnf);refine b8 (by rw[aR];exact Nat.beq_refl _) ?_
     (conv=>whnf);refine And.intro ⟨cM (by simp;omega) (by omega),bK (by simp;omega),rfl,by rw[aR]⟩ ?_
     (conv=>whnf);refine And.intro ⟨by omega,by rw[aR];omega⟩ ?_
     (conv=>whnf);refine And.intro (by(conv=>whnf);exact⟨⟨by omega,by rw[aR];omega⟩,rfl⟩) ?_
     conv=>whnf
     refine⟨(a').length+(b'.drop 1).length,hmN,Gp.one 0 2 (eC (pre++[⟨y.row,y.cnt⟩])) (by rw[l5];rfl) (gM _) rfl ?_ fun ρ1 h=>⟨a',b'.drop 1,pre++[⟨y.row,y.cnt⟩],f1,(f2&&(none:Option bA).isNone),rfl,hN,by simpa using hlN,hAN,hBN,rfl,h⟩⟩
     exact⟨.closed _ rfl,PI (F7 b'),kS (k:=0) rfl rfl hFl hFl,trivial⟩
    ·replace hg:decide (bF x.row y.row>0)=false:=hg
     simp at hg
     (conv=>whnf);refine And.intro (by decide) ?_
     (conv=>whnf);refine b4 (eP hx) ?_
     (conv=>whnf);refine And.intro (by decide) ?_
     (conv=>whnf);refine b4 (eP hx) ?_
     (conv=>whnf);refine And.intro (by decide) ?_
     (conv=>whnf);refine b4 (eP hy) ?_
     have em2:IntKind.i64.wrap (x.cnt+y.cnt)=x.cnt+y.cnt:=aY _ (by omega) (by omega)
     have hN:nG a b=(pre++[⟨x.row,IntKind.i64.wrap (x.cnt+y.cnt)⟩])++nG (a'.drop 1) (b'.drop 1):=by
      rw[hM,em2,Z0 hxd hyd (by omega),List.append_assoc];rfl
     have hlN:pre.length+1+(a'.drop 1).length+(b'.drop 1).length≤a.length+b.length:=by simp[List.length_drop];omega
     have hmN:(a'.drop 1).length+(b'.drop 1).length<m:=by simp[List.length_drop];omega
     have hAN:∀e∈(a'.drop 1),mN B e:=fun e h=>hA' e (by first|exact h|exact List.mem_of_mem_drop h)
     have hBN:∀e∈(b'.drop 1),mN B e:=fun e h=>hB' e (by first|exact h|exact List.mem_of_mem_drop h)
     have hFl:(eC pre++[j4 ⟨x.row,IntKind.i64.wrap (x.cnt+y.cnt)⟩]).length=(pre++[(⟨x.row,IntKind.i64.wrap (x.cnt+y.cnt)⟩:cU)]).length:=by simp[aR]
     (conv=>whnf);refine b8 (by rw[aR];exact Nat.beq_refl _) ?_
     (conv=>whnf);refine And.intro ⟨cM (by simp;omega) (by omega),bK (by simp;omega),rfl,by rw[aR]⟩ ?_
     (conv=>whnf);refine And.intro ⟨by omega,by rw[aR];omega⟩ ?_
     (conv=>whnf);refine And.intro ⟨by omega,by rw[aR];omega⟩ ?_
     conv=>whnf
     refine⟨(a'.drop 1).length+(b'.drop 1).length,hmN,Gp.one 0 2 (eC (pre++[⟨x.row,IntKind.i64.wrap (x.cnt+y.cnt)⟩])) (by rw[l5];rfl) (gM _) rfl ?_ fun ρ1 h=>⟨a'.drop 1,b'.drop 1,pre++[⟨x.row,IntKind.i64.wrap (x.cnt+y.cnt)⟩],(f1&&(none:Option bA).isNone),(f2&&(none:Option bA).isNone),rfl,hN,by simpa using hlN,hAN,hBN,rfl,h⟩⟩
     exact⟨PI (F7 a'),PI (F7 b'),kS (k:=0) rfl rfl hFl hFl,trivial⟩
  ·replace hw:decide (((eC b').length:Int)>0)=false:=hw
   rw[aR]at hw
   have hwn:b'=[]:=by simp at hw;exact hw
   have hwl:b'.length=0:=by rw[hwn];rfl
   (conv=>whnf);refine And.intro (by decide) ?_
   (conv=>whnf);refine b4 (eP hx) ?_
   have hN:nG a b=(pre++[⟨x.row,x.cnt⟩])++nG (a'.drop 1) (b'):=by
    rw[hM,XM hxd (.inl hwn),List.append_assoc];rfl
   have hlN:pre.length+1+(a'.drop 1).length+(b').length≤a.length+b.length:=by simp[List.length_drop];omega
   have hmN:(a'.drop 1).length+(b').length<m:=by simp[List.length_drop];omega
   have hAN:∀e∈(a'.drop 1),mN B e:=fun e h=>hA' e (by first|exact h|exact List.mem_of_mem_drop h)
   have hBN:∀e∈(b'),mN B e:=fun e h=>hB' e (by first|exact h|exact List.mem_of_mem_drop h)
   have hFl:(eC pre++[j4 ⟨x.row,x.cnt⟩]).length=(pre++[(⟨x.row,x.cnt⟩:cU)]).length:=by simp[aR]
   (conv=>whnf);refine b8 (by rw[aR];exact Nat.beq_refl _) ?_
   (conv=>whnf);refine And.intro ⟨cM (by simp;omega) (by omega),bK (by simp;omega),rfl,by rw[aR]⟩ ?_
   (conv=>whnf);refine And.intro ⟨by omega,by rw[aR];omega⟩ ?_
   (conv=>whnf);refine And.intro (by(conv=>whnf);exact⟨⟨by omega,by rw[aR];omega⟩,rfl⟩) ?_
   conv=>whnf
   refine⟨(a'.drop 1).length+(b').length,hmN,Gp.one 0 2 (eC (pre++[⟨x.row,x.cnt⟩])) (by rw[l5];rfl) (gM _) rfl ?_ fun ρ1 h=>⟨a'.drop 1,b',pre++[⟨x.row,x.cnt⟩],(f1&&(none:Option bA).isNone),f2,rfl,hN,by simpa using hlN,hAN,hBN,rfl,h⟩⟩
   exact⟨PI (F7 a'),.closed _ rfl,kS (k:=0) rfl rfl hFl hFl,trivial⟩
 ·replace hz:decide (((eC a').length:Int)>0)=false:=hz
  rw[aR]at hz
  have hzn:a'=[]:=by simp at hz;exact hz
  have hzl:a'.length=0:=by rw[hzn];rfl
  (conv=>whnf);refine aE (fun hw=>?_) (fun hw=>?_)
  ·replace hw:decide (((eC b').length:Int)>0)=true:=hw
   rw[aR]at hw
   have hwl:b'.length≠0:=by simp at hw;omega
   obtain⟨y,hy,hyd,hym⟩:=aX (l:=b') (k:=0) (by omega)
   obtain⟨ky1,ky2,ky3⟩:=hB' y hym
   rw[List.drop_zero]at hyd
   (conv=>whnf);refine b8 (by rw[aR];simpa using hzl) ?_
   (conv=>whnf);refine And.intro (by decide) ?_
   (conv=>whnf);refine b4 (eP hy) ?_
   have hN:nG a b=(pre++[⟨y.row,y.cnt⟩])++nG (a') (b'.drop 1):=by
    rw[hM,XN hyd (.inl hzn),List.append_assoc];rfl
   have hlN:pre.length+1+(a').length+(b'.drop 1).length≤a.length+b.length:=by simp[List.length_drop];omega
   have hmN:(a').length+(b'.drop 1).length<m:=by simp[List.length_drop];omega
   have hAN:∀e∈(a'),mN B e:=fun e h=>hA' e (by first|exact h|exact List.mem_of_mem_drop h)
   have hBN:∀e∈(b'.drop 1),mN B e:=fun e h=>hB' e (by first|exact h|exact List.mem_of_mem_drop h)
   have hFl:(eC pre++[j4 ⟨y.row,y.cnt⟩]).length=(pre++[(⟨y.row,y.cnt⟩:cU)]).length:=by simp[aR]
   (conv=>whnf);refine b8 (by rw[aR];exact Nat.beq_refl _) ?_
   (conv=>whnf);refine And.intro ⟨cM (by simp;omega) (by omega),bK (by simp;omega),rfl,by rw[aR]⟩ ?_
   (conv=>whnf);refine And.intro ⟨by omega,by rw[aR];omega⟩ ?_
   (conv=>whnf);refine And.intro (by(conv=>whnf);exact⟨⟨by omega,by rw[aR];omega⟩,rfl⟩) ?_
   conv=>whnf
   refine⟨(a').length+(b'.drop 1).length,hmN,Gp.one 0 2 (eC (pre++[⟨y.row,y.cnt⟩])) (by rw[l5];rfl) (gM _) rfl ?_ fun ρ1 h=>⟨a',b'.drop 1,pre++[⟨y.row,y.cnt⟩],f1,(f2&&(none:Option bA).isNone),rfl,hN,by simpa using hlN,hAN,hBN,rfl,h⟩⟩
   exact⟨.closed _ rfl,PI (F7 b'),kS (k:=0) rfl rfl hFl hFl,trivial⟩
  ·replace hw:decide (((eC b').length:Int)>0)=false:=hw
   rw[aR]at hw
   have hwn:b'=[]:=by simp at hw;exact hw
   have hMM:nG a b=pre:=by rw[hM,hzn,hwn,kG];simp
   conv=>whnf
   rw[hMM]
   exact⟨rfl,rfl⟩
theorem yB{B:Int}(hB0:B≤4000000000000)(e1 e2:Bool)(a b:List cU)(ha:a.length≤100000)(hb:b.length≤100000)(hA:∀e∈a,mN B e)(hB:∀e∈b,mN B e)(H:List aB):
  a7 pr 248 [.list e1 2 (eC a),.list e2 2 (eC b)] H (fun r H'=>r=.list false 2 (eC (nG a b))∧H'=H) :=
 a7.frz1 (by simp[a6.closed,a6.isPure]) (A3 hB0 e1 e2 a b ha hb hA hB) (aR _).symm (gM _)
theorem AL{A B:Int}(hA0:0≤A)(hB0:0≤B):∀(a b:List cU),(∀e∈a,mN A e)→(∀e∈b,mN B e)→∀e∈nG a b,mN (A+B) e
 |[],b,ha,hb,e,he=>by
  rw[kG]at he
  obtain⟨h1,h2,h3⟩:=hb e he
  exact⟨h1,by omega,by omega⟩
 |x::a,[],ha,hb,e,he=>by
  rw[p5]at he
  obtain⟨h1,h2,h3⟩:=ha e he
  exact⟨h1,by omega,by omega⟩
 |x::a,y::b,ha,hb,e,he=>by
  obtain⟨h1,h2,h3⟩:=ha x (List.mem_cons_self ..)
  obtain⟨k1,k2,k3⟩:=hb y (List.mem_cons_self ..)
  have ha':∀e∈a,mN A e:=fun e h=>ha e (List.mem_cons_of_mem _ h)
  have hb':∀e∈b,mN B e:=fun e h=>hb e (List.mem_cons_of_mem _ h)
  rw[lR]at he
  split at he
  ·rcases List.mem_cons.1 he with rfl|he
   ·exact⟨h1,by omega,by omega⟩
   ·exact AL hA0 hB0 a (y::b) ha' hb e he
  split at he
  ·rcases List.mem_cons.1 he with rfl|he
   ·exact⟨k1,by omega,by omega⟩
   ·exact AL hA0 hB0 (x::a) b ha hb' e he
  ·rcases List.mem_cons.1 he with rfl|he
   ·exact⟨h1,by simp only[];omega,by simp only[];omega⟩
   ·exact AL hA0 hB0 a b ha' hb' e he
termination_by a b=>a.length+b.length
theorem oV{A B:Int}(h:A≤B){e:cU}(he:mN A e):mN B e:=⟨he.1,by have:=he.2.1;omega,by have:=he.2.2;omega⟩
theorem sO:∀(n:Nat) (l:List cU),(∀e∈l,HS e)→∀e∈nF n l,mN (65536*(l.length:Int)) e
 |0,l,h,e,he=>by
  rw[nF]at he
  have:=List.length_pos_of_mem he
  exact oV (A:=65536) (by omega) (h e he)
 |n+1,l,h,e,he=>by
  rw[nF]at he
  split at he
  ·have:=List.length_pos_of_mem he
   exact oV (A:=65536) (by omega) (h e he)
  ·refine oV ?_ (AL (by omega) (by omega) _ _ (sO n _ fun e h1=>h e (List.mem_of_mem_take h1)) (sO n _ fun e h1=>h e (List.mem_of_mem_drop h1)) e he)
   rw[List.length_take,List.length_drop];omega
theorem lZ:∀(n:Nat) (l:List cU),(nF n l).length≤l.length
 |0,l=>Nat.le_refl _
 |n+1,l=>by
  rw[nF]
  split
  ·exact Nat.le_refl _
  ·have h:=qE (nF n (l.take (l.length / 2))) (nF n (l.drop (l.length / 2)))
   have h1:=lZ n (l.take (l.length / 2))
   have h2:=lZ n (l.drop (l.length / 2))
   rw[List.length_take]at h1
   rw[List.length_drop]at h2
   omega
set_option maxRecDepth 20000 in
theorem yD:∀(n:Nat) (ex:Bool) (l:List cU),l.length≤n→l.length≤100000→(∀e∈l,HS e)→∀(H:List aB),
  a7 pr 200 [.list ex 2 (eC l)] H (fun r H'=>r=.list false 2 (eC (nF n l))∧H'=H):=by
 intro n
 induction n with
 |zero =>
  intro ex l hl _ hE H
  have:l=[]:=List.length_eq_zero_iff.1 (by omega)
  subst this
  refine a7.pure rfl (aA k200.has ?_)
  (conv=>whnf);refine And.intro (by decide) ?_
  conv=>whnf
  exact sE rfl rfl rfl rfl
 |succ n ih =>
  intro ex l hl hl2 hE H
  refine a7.pure (by simp[a6.closed,a6.isPure]) (aA k200.has ?_)
  (conv=>whnf);refine aE (fun h=>?_) (fun h=>?_)
  ·simp[aR]at h
   (conv=>whnf);refine And.intro (⟨cM (by simp[aR];omega) (by omega),bK (by simp[aR];omega)⟩) ?_
   conv=>whnf
   rw[nF,if_pos (by omega)]
   exact sE rfl rfl rfl (gM _)
  ·simp[aR]at h
   have ew:IntKind.i64.wrap (((eC l).length:Int).tdiv 2)=((l.length / 2:Nat):Int):=by
    rw[aR,Int.tdiv_eq_ediv_of_nonneg (by omega),aY _ (by omega) (by omega)];omega
   have es1:List.drop 0 (List.take (IntKind.i64.wrap (((eC l).length:Int).tdiv 2)).toNat (eC l))=eC (l.take (l.length / 2)):=by rw[ew,Int.toNat_natCast,List.drop_zero,eC,eC,List.map_take]
   have es2:List.drop (IntKind.i64.wrap (((eC l).length:Int).tdiv 2)).toNat (List.take (eC l).length (eC l))=eC (l.drop (l.length / 2)):=by rw[ew,Int.toNat_natCast,List.take_length,eC,eC,List.map_drop]
   (conv=>whnf);refine And.intro (by decide) ?_
   (conv=>whnf);refine And.intro (⟨by rw[ew];omega,by rw[ew,aR];omega⟩) ?_
   conv=>whnf
   rw[es1]
   (conv=>whnf);refine⟨_,ih _ (l.take (l.length / 2)) (by rw[List.length_take];omega) (by rw[List.length_take];omega) (fun e h=>hE e (List.mem_of_mem_take h)) _,?_⟩
   (conv=>whnf);refine And.intro (by decide) ?_
   (conv=>whnf);refine And.intro (⟨by rw[ew];omega,by rw[ew,aR];omega⟩) ?_
   conv=>whnf
   rw[es2]
   (conv=>whnf);refine⟨_,ih _ (l.drop (l.length / 2)) (by rw[List.length_drop];omega) (by rw[List.length_drop];omega) (fun e h=>hE e (List.mem_of_mem_drop h)) _,?_⟩
   have b1:=sO n (l.take (l.length / 2)) fun e h=>hE e (List.mem_of_mem_take h)
   have b2:=sO n (l.drop (l.length / 2)) fun e h=>hE e (List.mem_of_mem_drop h)
   have c1:=lZ n (l.take (l.length / 2))
   have c2:=lZ n (l.drop (l.length / 2))
   rw[List.length_take]at b1 c1
   rw[List.length_drop]at b2 c2
   (conv=>whnf);refine⟨_,yB (B:=65536*100000) (by decide) false false _ _ (by omega) (by omega) (fun e h=>oV (by omega) (b1 e h)) (fun e h=>oV (by omega) (b2 e h)) _,?_⟩
   conv=>whnf
   rw[nF,if_neg (by omega)]
   exact .closed _ (by simp[a6.closed,a6.isPure])
set_option maxRecDepth 20000 in
theorem DU(ex:Bool)(l:List cU)(hl:l.length≤100000)(hE:∀e∈l,HS e)(H:List aB):
  a7 pr 152 [.list ex 2 (eC l)] H (fun r H'=>r=A5 (nF l.length l)∧H'=H):=by
 refine a7.pure (by simp[a6.closed,a6.isPure]) (aA k152.has ?_)
 (conv=>whnf);refine a7.use (yD l.length ex l (Nat.le_refl _) hl hE _) ?_
 have hb:=sO l.length l hE
 have hc:=lZ l.length l
 (conv=>whnf);refine a7.use (yC false (nF l.length l) (by omega) (fun e h=>by have:=(hb e h).1;omega) _) ?_
 rcases CV (nF l.length l)with h|h
 all_goals
  rw[h]
  conv=>whnf
  exact dU (.closed _ rfl) (.closed _ rfl)
def BU:List cU→Int
 |[]=>0
 |e::l=>if iF e≠0 then iF e else BU l
def S1(l:List cU):a6:=if BU l≠0 then .tuple [.nil,.int .i64 (BU l)]else A5 (nF l.length l)
theorem G1:∀(l:List cU),BU l=0→∀e∈l,iF e=0
 |[],_,e,he=>by cases he
 |x::l,h,e,he=>by
  rw[BU]at h
  by_cases hx:iF x=0
  ·rw[if_neg (by simp[hx])]at h
   rcases List.mem_cons.1 he with rfl|he
   ·exact hx
   ·exact G1 l h e he
  ·rw[if_pos hx]at h;exact absurd h hx
theorem W4{e:cU}(h:iF e=0):HS e:=by
 obtain⟨h1,h2,h3,_⟩:=oX e h
 exact⟨h1,h2,h3⟩
set_option maxRecDepth 20000 in
theorem tW(ex:Bool)(l:List cU)(hl:l.length≤100000)(H:List aB):
  a7 pr 99 [.list ex 2 (eC l)] H (fun r H'=>r=S1 l∧H'=H):=by
 refine a7.pure (by simp[a6.closed,a6.isPure]) (aA k99.has ?_)
 conv=>whnf
 refine⟨fun m ρ H1=>∃k:Nat,k+m=l.length∧BU l=BU (l.drop k)∧H1=[]∧Sv 24 [(0,.list ex 2 (eC l)),(4,.int .i64 k)] ρ,l.length,[],?_,?_⟩
 ·exact⟨0,by omega,rfl,rfl,Sv.intro rfl ⟨rfl,rfl,trivial⟩⟩
 rintro m ρ H1 ⟨k,hk,hr,rfl,d,rfl⟩
 (conv=>whnf);refine aE (fun hlt=>?_) (fun hlt=>?_)
 ·simp[aR]at hlt
  have hx:l[k]?=some l[k]:=List.getElem?_eq_getElem hlt
  rw[List.drop_eq_getElem_cons hlt,BU]at hr
  (conv=>whnf);refine And.intro (by omega) ?_
  (conv=>whnf);refine b4 (eP hx) ?_
  (conv=>whnf);refine a7.use (EG l[k] _) ?_
  (conv=>whnf);refine aE (fun h1=>?_) (fun h1=>?_)
  ·replace h1:(!(iF l[k]==0))=true:=h1
   have h2:iF l[k]≠0:=by simpa using h1
   rw[if_pos h2]at hr
   conv=>whnf
   rw[S1,hr,if_pos h2]
   exact dU (.closed _ rfl) (.closed _ rfl)
  ·replace h1:(!(iF l[k]==0))=false:=h1
   have h2:iF l[k]=0:=by simpa using h1
   rw[if_neg (by simp[h2])]at hr
   conv=>whnf
   refine⟨m-1,by omega,Gp.keep rfl ?_ fun ρ1 h=>⟨k+1,by omega,hr,rfl,h⟩⟩
   exact⟨rfl,aN (aY _ (by omega) (by omega)),trivial⟩
 ·simp[aR]at hlt
  rw[List.drop_of_length_le (by omega),BU]at hr
  (conv=>whnf);refine a7.use (DU ex l hl (fun e h=>W4 (G1 l hr e h)) _) ?_
  rw[S1,if_neg (by simp[hr])]
  rcases CV (nF l.length l)with h|h
  all_goals
   rw[h]
   conv=>whnf
   exact dU (.closed _ rfl) (.closed _ rfl)
def HA(b:List cU):Bool:=(gI b==0)&&b.all GI
def UB(e:cU):Bool:=decide (e.cnt<0)
theorem uT(e:cU)(H:List aB):
  a7 pr 169 [.agg (j4 e)] H (fun r H'=>r=.bool (UB e)∧H'=H):=by
 refine a7.pure (by simp[a6.closed,j4,a6.isPure]) (aA k169.has ?_)
 conv=>whnf
 exact .closed _ rfl
theorem AX(g:FuncId)(p:cU→Bool)(hg:∀c H,a7 pr g [.agg (j4 c)] H (fun r H'=>r=.bool (p c)∧H'=H))(ex:Bool)(l:List cU)(hl:l.length≤1000000)(H:List aB):
  a7 pr 168 [.list ex 2 (eC l),.fn g []] H (fun r H'=>r=.bool (l.any p)∧H'=H):=by
 refine a7.pure (by simp[a6.closed,a6.isPure]) (aA k168.has ?_)
 (conv=>whnf);refine a7.use (zR g [] p _ l (fun c _=>hg c _) ex hl) ?_
 conv=>whnf
 refine i3 ?_
 have h:=tG p l 0 (by omega)
 rw[Bool.eq_iff_iff,←h];simp
theorem UC{b:List cU}(h:gI b=0):(!(b.any UB))=b.all GI:=by
 have hn:=fun e he=>(((vU b).1 h).2.1 e he).2
 rw[Bool.eq_iff_iff]
 simp only[Bool.not_eq_true',List.any_eq_false,List.all_eq_true,UB,GI,decide_eq_true_eq]
 constructor
 ·intro h1 e he
  have:=h1 e he
  have:=hn e he
  omega
 ·intro h1 e he
  have:=h1 e he
  omega
set_option maxRecDepth 20000 in
theorem xH(ex:Bool)(b:List cU)(H:List aB):
  a7 pr 119 [.list ex 2 (eC b)] H (fun r H'=>r=.bool (HA b)∧H'=H):=by
 refine a7.pure (by simp[a6.closed,a6.isPure]) (aA k119.has ?_)
 (conv=>whnf);refine a7.use (nK ex b _) ?_
 (conv=>whnf);refine aE (fun h=>?_) (fun h=>?_)
 ·replace h:(gI b==0)=true:=h
  have h1:gI b=0:=by simpa using h
  (conv=>whnf);refine a7.use (AX 169 UB (fun c H=>uT c H) ex b (NG h1) _) ?_
  conv=>whnf
  exact i3 (by rw[UC h1,HA,h,Bool.true_and])
 ·replace h:(gI b==0)=false:=h
  conv=>whnf
  exact i3 (by rw[HA,h,Bool.false_and])
set_option maxRecDepth 20000 in
theorem wJ(ex:Bool)(b:List cU)(H:List aB):
  a7 pr 73 [.list ex 2 (eC b)] H (fun r H'=>r=.bool (HA b)∧H'=H):=by
 refine a7.pure (by simp[a6.closed,a6.isPure]) (aA k73.has ?_)
 (conv=>whnf);refine a7.use (nC ex b _) ?_
 (conv=>whnf);refine aE (fun h=>?_) (fun h=>?_)
 ·replace h:(gI b==0)=true:=h
  have h1:gI b=0:=by simpa using h
  (conv=>whnf);refine a7.use (vG ex b (NG h1) _) ?_
  conv=>whnf
  exact i3 (by rw[HA,h,Bool.true_and])
 ·replace h:(gI b==0)=false:=h
  conv=>whnf
  exact i3 (by rw[HA,h,Bool.false_and])
def F0(e:cU):Prop:=e.row.length≤12∧e.row.all c7=true
def SO(l:List cU):List cU×Int:=if(l.all fun e=>kM e.cnt)=true∧(l.filter vM).length≤4096 then(l.filter vM,0)else([],2)
def tR(p:List cU×Int):a6:=if p.2≠0 then .tuple [.nil,.int .i64 p.2]else .tuple [.list false 2 (eC p.1),.int .i64 0]
def rV(p:List cU×Int):a6:=.tuple [.list false 2 (eC p.1),.int .i64 p.2]
theorem WO(l:List cU):A5 l=tR (SO l):=by
 rw[A5,SO]
 split<;>rfl
theorem Y1{p:List cU×Int}(h:p.2≠0→p.1=[]):gB (tR p) (rV p):=by
 unfold tR rV
 split
 ·rename_i h1
  rw[h h1]
  exact .tuples (.cons (.nil false 2) (.cons (.refl _) ⟨rfl,fun i a b h=>by simp at h⟩))
 ·rename_i h1
  have:p.2=0:=Classical.byContradiction fun h=>h1 h
  rw[this]
  exact .refl _
def QP(p:List cU×Int):Prop:=gI p.1=0∧(p.2≠0→p.1=[])
theorem IW(n:Int):QP ([],n):=⟨rfl,fun _=>rfl⟩
theorem PQ{l:List cU}(hs:QZ l)(hf:∀e∈l,F0 e):QP (SO l):=by
 unfold SO
 split
 ·rename_i h
  refine⟨(vU _).2 ⟨h.2,fun e he=>?_,N7 _ hs⟩,fun h=>absurd rfl h⟩
  obtain⟨h1,h2⟩:=List.mem_filter.1 he
  exact⟨(BO e).2 ⟨(hf e h1).1,List.all_eq_true.1 h.1 e h1,(hf e h1).2⟩,by simpa[vM]using h2⟩
 ·exact IW 2
theorem C9:∀(n:Nat) (l:List cU) (e:cU),e∈nF n l→∃x∈l,x.row=e.row
 |0,l,e,h=>⟨e,h,rfl⟩
 |n+1,l,e,h=>by
  rw[nF]at h
  split at h
  ·exact⟨e,h,rfl⟩
  ·rcases q0 _ _ e h with⟨x,hx,hr⟩|⟨x,hx,hr⟩
   ·obtain⟨y,hy,hyr⟩:=C9 n _ x hx
    exact⟨y,List.mem_of_mem_take hy,hyr.trans hr⟩
   ·obtain⟨y,hy,hyr⟩:=C9 n _ x hx
    exact⟨y,List.mem_of_mem_drop hy,hyr.trans hr⟩
theorem ST{x e:cU}(h:F0 x)(hr:x.row=e.row):F0 e:=by rw[F0,←hr];exact h
def Y0(l:List cU):List cU×Int:=SO (nF l.length l)
theorem Q8{l:List cU}(hf:∀e∈l,F0 e):QP (Y0 l) :=
 PQ (DD _ _ (by omega)) fun e he=>by
  obtain⟨x,hx,hr⟩:=C9 _ _ e he
  exact ST (hf x hx) hr
def PC(l:List cU):List cU×Int:=if BU l≠0 then([],BU l)else Y0 l
theorem WH(l:List cU):S1 l=tR (PC l):=by
 rw[S1,PC]
 split
 ·rename_i h;rw[tR,if_pos h]
 ·exact WO _
theorem OX{e:cU}(h:iF e=0):F0 e:=by
 have:=(BO e).1 h
 exact⟨this.1,this.2.2⟩
theorem EP(l:List cU):QP (PC l):=by
 unfold PC
 split
 ·exact IW _
 ·rename_i h
  exact Q8 fun e he=>OX (G1 l (Classical.byContradiction fun hn=>h hn) e he)
theorem a7.goodW{P:Program}{f:FuncId}{args:List a6}{H:List aB}{R:a6}{p:List cU×Int}(h:a7 P f args H (fun r H'=>r=R∧H'=H))(hR:R=tR p)(hp:QP p):a7 P f args H (fun r H'=>r=rV p∧H'=H) :=
 a7.weakRD h (by rintro r H' ⟨rfl,rfl⟩;exact⟨_,by rw[hR];exact Y1 hp.2,rfl,rfl⟩)
section
variable {P:Program}
theorem yA(ex:Bool)(l:List cU)(hl:l.length≤100000)(H:List aB):
  a7 pr 99 [.list ex 2 (eC l)] H (fun r H'=>r=rV (PC l)∧H'=H):=(tW ex l hl H).goodW (WH l) (EP l)
end
theorem ZZ{a b c e:Int}(ha:0≤a∧a≤255)(hb:0≤b∧b≤255)(hc:0≤c∧c≤255)(he:0≤e∧e≤255):
  GF (GF (GF (IntKind.i64.wrap (IntKind.i64.wrap a*2 ^ 24)) (IntKind.i64.wrap (IntKind.i64.wrap b*2 ^ 16))) (IntKind.i64.wrap (IntKind.i64.wrap c*2 ^ 8))) (IntKind.i64.wrap e)=num [a,b,c,e]:=by
 have w:∀x:Int,0≤x→x≤4294967296→IntKind.i64.wrap x=x:=fun x h1 h2=>aY x (by omega) (by omega)
 rw[w a (by omega) (by omega),w b (by omega) (by omega),w c (by omega) (by omega),w e (by omega) (by omega),w (a*2 ^ 24) (by omega) (by omega),w (b*2 ^ 16) (by omega) (by omega),w (c*2 ^ 8) (by omega) (by omega)]
 rw[lU a (b*2 ^ 16) 24 (by omega) (by omega) (by omega) (by omega)]
 rw[show a*2 ^ 24+b*2 ^ 16=(a*256+b)*2 ^ 16 by omega,lU (a*256+b) (c*2 ^ 8) 16 (by omega) (by omega) (by omega) (by omega)]
 rw[show(a*256+b)*2 ^ 16+c*2 ^ 8=((a*256+b)*256+c)*2 ^ 8 by omega,lU ((a*256+b)*256+c) e 8 (by omega) (by omega) (by omega) (by omega)]
 simp only[num,List.foldl]
 omega
theorem YR{l:List Int}(h:4≤l.length):∃a b c e t,l=a::b::c::e::t:=by
 match l,h with
 |a::b::c::e::t,_=>exact⟨a,b,c,e,t,rfl⟩
set_option maxRecDepth 20000 in
theorem G7(ex:Bool)(l:List Int)(hl:4≤l.length)(hby:fO l)(H:List aB):
  a7 pr 159 [.list ex 1 (bC l)] H (fun r H'=>r=.int .i64 (num (l.take 4))∧H'=H):=by
 obtain⟨a,b,c,e,t,rfl⟩:=YR hl
 have ha:=hby a (by simp)
 have hb:=hby b (by simp)
 have hc:=hby c (by simp)
 have he:=hby e (by simp)
 refine a7.pure rfl (aA k159.has ?_)
 (conv=>whnf);refine And.intro (by decide) ?_
 (conv=>whnf);refine And.intro (by decide) ?_
 (conv=>whnf);refine And.intro (by decide) ?_
 (conv=>whnf);refine And.intro (by decide) ?_
 (conv=>whnf);refine And.intro (by decide) ?_
 (conv=>whnf);refine And.intro (by decide) ?_
 (conv=>whnf);refine And.intro (by decide) ?_
 conv=>whnf
 exact cZ (ZZ ha hb hc he)
def nA(p:List Int):List Int:=j0 4 p.length++p
set_option maxRecDepth 20000 in
theorem P5(n:Int):
  a7 pr 155 [.nil,.int .u32 n] [] (fun r H'=>r=.sl 0 4 0 4∧H'=[.arr 1 (bC (j0 4 n))]):=by
 refine aA k155.has ?_
 (conv=>whnf);refine And.intro (by decide) ?_
 (conv=>whnf);refine And.intro (by decide) ?_
 (conv=>whnf);refine And.intro (by decide) ?_
 (conv=>whnf);refine And.intro (⟨fG (by simp),bK (by simp)⟩) ?_
 conv=>whnf
 rw[←Y4]
 exact⟨rfl,rfl⟩
theorem Q9{n:Nat}(h:n<4294967296):IntKind.u32.wrap (n:Int)=n:=by rw[wY];omega
set_option maxRecDepth 20000 in
theorem P6(ex:Bool)(p:List Int)(hl:p.length≤10000000)(H:List aB):
  a7 pr 156 [.list ex 1 (bC p)] H (fun r H'=>r=.int .u32 (RL (nA p))∧H'=H):=by
 have e1:IntKind.u32.wrap ((bC p).length:Int)=p.length:=by rw[aD];exact Q9 (by omega)
 refine a7.pure rfl (aA k156.has ?_)
 conv=>whnf
 rw[e1]
 (conv=>whnf);refine a7.mono (P5 p.length) ?_
 rintro r H1 ⟨rfl,rfl⟩
 (conv=>whnf);refine And.intro (⟨fG (by simp[aD,bW];omega),bK (by simp[aD,bW];omega),rfl,rfl⟩) ?_
 conv=>whnf
 have hl3:(bC (j0 4 (p.length:Int))++bC p).length=(bC (nA p)).length:=by rw[nA,c9]
 have key:=a7.bor (H:=[.arr 1 (bC (nA p))]) (R:=.int .u32 (RL (nA p))) rfl ((DK false (nA p) (by rw[nA,List.length_append,bW];omega) []).mono fun _ _ h=>h.1) (.cons (W9 (id:=0) (ep:=(bC (j0 4 (p.length:Int))++bC p).length) (len:=(bC (j0 4 (p.length:Int))++bC p).length) rfl hl3 hl3 (eG _)) .nil)
 rw[nA,c9]at key
 refine a7.use key ?_
 conv=>whnf
 exact .closed _ rfl
set_option maxRecDepth 20000 in
theorem LF(ex:Bool)(l:List Int)(hl:l.length≤90000000):
  a7 pr 63 [.list ex 1 (bC l)] [] (fun r H'=>(r=.nil∧l=[]∧H'=[])∨(r=.sl 0 l.length 0 l.length∧H'=[.arr 1 (bC l)])):=by
 refine aA k63.has ?_
 conv=>whnf
 refine And.intro (fun h=>?_) ?_
 ·conv=>whnf
  exact .inl ⟨rfl,by simpa[bC]using h,rfl⟩
 ·(conv=>whnf);refine And.intro (⟨fG (by simp[aD];omega),bK (by simp[aD];omega),.inr rfl⟩) ?_
  conv=>whnf
  exact .inr ⟨eS (aD l) (aD l),rfl⟩
end Go.AW
namespace Go.AW
variable [dE]
def eX(W:World)(v:Value)(l:List Int):Prop :=
 (l=[]∧∃a cap,v=.slice a 0 cap)∨(l≠[]∧∃b off cap,v=.slice (some ⟨b,off,none⟩) l.length cap∧l.length≤cap∧b<W.heap.size∧∀i x,l[i]?=some x→W.cell? ⟨b,off+i,none⟩=some (.int .u8 x))
theorem eX.rd{W:World}{v:Value}{l:List Int}(h:eX W v l):∃C:Nat→Nat,Rd C W (.list false 1 (bC l)) v∧(∀b,0<C b→b<W.heap.size)∧(∀b,0<C b→v.ownBlock=some b):=by
 rcases h with⟨rfl,a,cap,rfl⟩|⟨h0,b,off,cap,rfl,hcap,hb,hc⟩
 ·exact⟨fun _=>0,.list0 _ _ _ _ (by simp),fun b h=>absurd h (by simp),fun b h=>absurd h (by simp)⟩
 ·refine⟨fun x=>if x=b then off+l.length else 0,?_,fun x hx=>?_,fun x hx=>?_⟩
  ·have hl:=aD l
   have:=Rd.list (C:=fun x=>if x=b then off+l.length else 0) (w:=W) false 1 (bC l) b off cap (fun i _=>.int .u8 (l.getD i 0)) (by simp) (by rw[hl];exact hcap) (fun e he=>by
     rw[bC]at he
     obtain⟨x,_,rfl⟩:=List.mem_map.1 he
     rfl) (by rw[hl,Nat.mul_one];simp) (fun i j hi hj=>by
     obtain rfl:j=0:=by omega
     rw[hl]at hi
     rw[Nat.mul_one,Nat.add_zero,hc i l[i] (List.getElem?_eq_getElem hi),List.getD_eq_getElem?_getD,List.getElem?_eq_getElem hi];rfl) (fun i j e d he hd=>by
     rw[bC,List.getElem?_map]at he
     obtain⟨x,_,rfl⟩:=Option.map_eq_some_iff.1 he
     rcases j with _|j
     ·cases hd;rfl
     ·simp at hd) (fun i j e d he hd=>by
     rw[bC,List.getElem?_map]at he
     obtain⟨x,hx,rfl⟩:=Option.map_eq_some_iff.1 he
     rcases j with _|j
     ·cases hd
      rw[List.getD_eq_getElem?_getD,hx]
      exact .int _ _
     ·simp at hd)
   rwa [hl]at this
  ·by_cases hx2:x=b
   ·rw[hx2];exact hb
   ·simp[hx2]at hx
  ·by_cases hx2:x=b
   ·rw[hx2];rfl
   ·simp[hx2]at hx
theorem eX.of_rd{C:Nat→Nat}{W:World}{x:Bool}{v:Value}{l:List Int}(h:Rd C W (.list x 1 (bC l)) v)(hC:∀b,0<C b→b<W.heap.size):eX W v l∧(l≠[]→∃b,v.ownBlock=some b∧0<C b):=by
 generalize he:bC l=es at h
 cases h with
 |list0 _ _ a cap hx =>
  have:l=[]:=by simpa[bC]using he
  subst this
  exact⟨.inl ⟨rfl,a,cap,rfl⟩,fun h=>absurd rfl h⟩
 |list _ _ es b off cap vs hx hcap hsz hC2 hcell hp hrd =>
  subst he
  have hl:=aD l
  rw[hl]at hcap hC2 ⊢
  by_cases h0:l=[]
  ·subst h0
   exact⟨.inl ⟨rfl,_,_,rfl⟩,fun h=>absurd rfl h⟩
  ·have hpos:=List.length_pos_iff.2 h0
   have hb:0<C b:=by omega
   refine⟨.inr ⟨h0,b,off,cap,rfl,hcap,hC b hb,fun i y hy=>?_⟩,fun _=>⟨b,rfl,hb⟩⟩
   have hi:=(List.getElem?_eq_some_iff.1 hy).1
   have h1:=hcell i 0 (by omega) (by omega)
   have h2:=hrd i 0 [.int .u8 y] (.int .u8 y) (by rw[bC,List.getElem?_map,hy];rfl) rfl
   rw[Nat.mul_one,Nat.add_zero]at h1
   generalize vs i 0=z at h1 h2
   cases h2
   exact h1
theorem ZT{C:Nat→Nat}{W:World}(h:∀b,0<C b→b<W.heap.size):WF C (fun _=>none) [] W :=
 ⟨fun id o h=>by simp at h,fun id o h=>by simp at h,fun id o l h=>by simp at h,fun id l h=>by simp at h,fun i j li lj h=>by simp at h,h⟩
theorem grown0{C C':Nat→Nat}{τ':Nat→Option Loc}{H':List aB}{W W':World}(h:St W (cX (fun _=>none) [] W) C' τ' H' W'):W.grownBy W' none :=
 ⟨h.fr.os,h.fr.tape,h.fr.output,h.fr.size,fun k hk _=>h.fr.prot k ⟨hk,by rintro⟨id,l,h,_⟩;simp at h⟩⟩
theorem a7.int1{P:Program}{f:FuncId}{l:List Int}{k:IntKind}{n:Int}(eg:∀args w,(callFunc f args).run P w=.ok (.enter f args) w)(h:a7 P f [.list false 1 (bC l)] [] (fun r _=>r=.int k n)){W:World}{v:Value}(hr:eX W v l):
  Calls P f #[v] W fun e W'=>e=.returned (.int k n)∧W.grownBy W' none:=by
 obtain⟨C,hrd,hC,_⟩:=hr.rd
 have h:=h C (fun _=>none) W #[v] (ZT hC) rfl fun i a u ha hu=>by
  rcases i with _|i
  ·cases ha;cases hu;exact .rd hrd
  ·simp at ha
 unfold eU at h
 rw[eg]at h
 refine Calls.mono h fun e w'=>?_
 rintro⟨u,r,C',τ',H',rfl,rfl,hrv,hst,_⟩
 refine⟨?_,grown0 (C:=C) hst⟩
 cases hrv with
 |rd h=>cases h;rfl
theorem eX.of_sl{C:Nat→Nat}{τ:Nat→Option Loc}{H:List aB}{W:World}{v:Value}{l:List Int}{id:Nat}(hw:WF C τ H W)(ho:H[id]?=some (.arr 1 (bC l)))(h:bV C W τ H (.sl id l.length 0 l.length) v):eX W v l:=by
 cases h with
 |rd h=>cases h
 |sl id ep off len a cap esz es ho2 hep hh =>
  rw[ho]at ho2
  cases ho2
  obtain⟨h1,h2,h3⟩:=hh (aD l).symm
  by_cases h0:l=[]
  ·subst h0;exact .inl ⟨rfl,_,_,rfl⟩
  ·have hp:=List.length_pos_iff.2 h0
   rcases h3 with⟨_,h3⟩|⟨lc,h3,h4,h5⟩
   ·omega
   ·rcases h5 with h5|rfl
    ·omega
    ·obtain⟨hle,cells,elem,fz,hb,hsz,hfz,hcs⟩:=hw.objs id _ lc ho h3
     refine .inr ⟨h0,_,_,_,rfl,h2,cQ hb,fun i x hx=>?_⟩
     obtain⟨y,hy,hy2⟩:=hcs i 0 [.int .u8 x] (.int .u8 x) (by rw[bC,List.getElem?_map,hx];rfl) rfl
     have hyx:y=.int .u8 x:=by
      cases hy2 with
      |rd h=>cases h;rfl
     subst hyx
     rw[Nat.mul_one,Nat.add_zero]at hy
     rw[Nat.mul_one,Nat.zero_add]
     simp only[World.cell?,hb]
     exact hy
theorem eX.of_slPart{C:Nat→Nat}{τ:Nat→Option Loc}{H:List aB}{W:World}{v:Value}{l:List Int}{rest:List (List a6)}{id ep:Nat}(hw:WF C τ H W)(ho:H[id]?=some (.arr 1 (bC l++rest)))(hep:ep=l.length+rest.length)(h:bV C W τ H (.sl id ep 0 l.length) v):eX W v l:=by
 cases h with
 |rd h=>cases h
 |sl id ep off len a cap esz es ho2 hep2 hh =>
  rw[ho]at ho2
  cases ho2
  obtain⟨h1,h2,h3⟩:=hh (by rw[List.length_append,aD];exact hep)
  by_cases h0:l=[]
  ·subst h0;exact .inl ⟨rfl,_,_,rfl⟩
  ·have hp:=List.length_pos_iff.2 h0
   rcases h3 with⟨_,h3⟩|⟨lc,h3,h4,h5⟩
   ·omega
   ·rcases h5 with h5|rfl
    ·omega
    ·obtain⟨hle,cells,elem,fz,hb,hsz,hfz,hcs⟩:=hw.objs id _ lc ho h3
     refine .inr ⟨h0,_,_,_,rfl,h2,cQ hb,fun i x hx=>?_⟩
     have hil:i<(bC l).length:=by rw[aD];exact(List.getElem?_eq_some_iff.1 hx).1
     obtain⟨y,hy,hy2⟩:=hcs i 0 [.int .u8 x] (.int .u8 x) (by rw[List.getElem?_append_left hil,bC,List.getElem?_map,hx];rfl) rfl
     have hyx:y=.int .u8 x:=by
      cases hy2 with
      |rd h=>cases h;rfl
     subst hyx
     rw[Nat.mul_one,Nat.add_zero]at hy
     rw[Nat.mul_one,Nat.zero_add]
     simp only[World.cell?,hb]
     exact hy
theorem a7.fresh1{P:Program}{f:FuncId}{l l':List Int}(eg:∀args w,(callFunc f args).run P w=.ok (.enter f args) w)(h:a7 P f [.list false 1 (bC l)] [] (fun r H'=>(r=.nil∧l'=[]∧H'=[])∨(r=.sl 0 l'.length 0 l'.length∧H'=[.arr 1 (bC l')]))){W:World}{v:Value}(hr:eX W v l):
  Calls P f #[v] W fun e W'=>∃a c,e=.returned (.slice a l'.length c)∧eX W' (.slice a l'.length c) l'∧W.grownBy W' none∧(l'≠[]→∀b,(Value.slice a l'.length c).ownBlock=some b→W.heap.size≤b):=by
 obtain⟨C,hrd,hC,hC2⟩:=hr.rd
 have h:=h C (fun _=>none) W #[v] (ZT hC) rfl fun i a u ha hu=>by
  rcases i with _|i
  ·cases ha;cases hu;exact .rd hrd
  ·simp at ha
 unfold eU at h
 rw[eg]at h
 refine Calls.mono h fun e w'=>?_
 rintro⟨u,r,C',τ',H',rfl,hq,hrv,hst,hstep⟩
 rcases hq with⟨rfl,rfl,rfl⟩|⟨rfl,rfl⟩
 ·cases hrv with
  |rd h =>
   cases h
   exact⟨_,_,rfl,.inl ⟨rfl,_,_,rfl⟩,grown0 (C:=C) hst,fun h=>absurd rfl h⟩
 ·cases hrv with
  |rd h=>cases h
  |sl id ep off len a cap esz es ho hep hh =>
   cases ho
   obtain⟨h1,h2,h3⟩:=hh (aD l').symm
   refine⟨a,cap,rfl,?_,grown0 (C:=C) hst,?_⟩
   ·by_cases h0:l'=[]
    ·subst h0;exact .inl ⟨rfl,_,_,rfl⟩
    ·have hp:=List.length_pos_iff.2 h0
     rcases h3 with⟨_,h3⟩|⟨lc,h3,h4,h5⟩
     ·omega
     ·rcases h5 with h5|rfl
      ·omega
      ·obtain⟨hle,cells,elem,fz,hb,hsz,hfz,hcs⟩:=hst.wf.objs 0 _ lc rfl h3
       refine .inr ⟨h0,_,_,_,rfl,h2,cQ hb,fun i x hx=>?_⟩
       obtain⟨y,hy,hy2⟩:=hcs i 0 [.int .u8 x] (.int .u8 x) (by rw[bC,List.getElem?_map,hx];rfl) rfl
       have hyx:y=.int .u8 x:=by
        cases hy2 with
        |rd h=>cases h;rfl
       subst hyx
       rw[Nat.mul_one,Nat.add_zero]at hy
       rw[Nat.mul_one,Nat.zero_add]
       simp only[World.cell?,hb]
       exact hy
   ·intro h0 b hbb
    have hp:=List.length_pos_iff.2 h0
    rcases h3 with⟨_,h3⟩|⟨lc,h3,h4,h5⟩
    ·omega
    ·rcases h5 with h5|rfl
     ·omega
     ·cases hbb
      have:=hst.own lc.b ⟨0,lc,by simp,h3,rfl⟩
      by_cases hlt:W.heap.size≤lc.b
      ·exact hlt
      ·exact absurd ⟨by omega,by rintro⟨id,l,h,_⟩;simp at h⟩ this
def rB(zs:List Int)(k:Nat):Int:=num ((zs.drop k).take 4)
def TN(zs:List Int)(k:Nat):Bool :=
 decide (k+8≤zs.length)&&(decide (rB zs k≤65536)&&decide (rB zs k≤(zs.length:Int)-k-8))&&decide (IntKind.u32.wrap (rB zs (k+4))=RL (nA ((zs.drop (k+8)).take (rB zs k).toNat)))
def j5(zs:List Int)(k:Nat):List (Nat×Nat) :=
 if h:TN zs k=true then(k+8,(rB zs k).toNat)::j5 zs (k+8+(rB zs k).toNat)else[]
termination_by zs.length-k
decreasing_by
 simp[TN]at h
 omega
theorem CF:∀(l:List Int) (a:Int),0≤a→(∀x∈l,0≤x)→0≤l.foldl (fun n x=>n*256+x) a
 |[],a,h,_=>h
 |x::l,a,h,hx=>CF l _ (by have:=hx x (List.mem_cons_self ..);show 0≤a*256+x;omega) fun y hy=>hx y (List.mem_cons_of_mem _ hy)
theorem v7{zs:List Int}(h:fO zs)(k:Nat):0≤rB zs k:=CF _ 0 (Int.le_refl _) fun x hx=>(h x (List.mem_of_mem_drop (List.mem_of_mem_take hx))).1
theorem kD{zs:List Int}{k:Nat}(h:TN zs k=false):j5 zs k=[]:=by rw[j5,dif_neg (by simp[h])]
theorem tB{zs:List Int}{k:Nat}(h:TN zs k=true):j5 zs k=(k+8,(rB zs k).toNat)::j5 zs (k+8+(rB zs k).toNat):=by rw[j5,dif_pos h]
theorem xW{zs:List Int}{k:Nat}(h:¬k+8≤zs.length):TN zs k=false:=by simp[TN,h]
theorem O2{zs:List Int}{k:Nat}{N:Nat}(hN:rB zs k=N)(h:65536<N∨(zs.length:Int)-k-8<N):TN zs k=false:=by
 simp only[TN,hN]
 rcases h with h|h
 ·rw[decide_eq_false (p:=(N:Int)≤65536) (by omega)];simp
 ·rw[decide_eq_false (p:=(N:Int)≤(zs.length:Int)-k-8) (by omega)];simp
theorem UE{zs:List Int}{k:Nat}{N:Nat}(hN:rB zs k=N)(h8:k+8≤zs.length)(h1:¬65536<N)(h2:¬(zs.length:Int)-k-8<N):TN zs k=decide (IntKind.u32.wrap (rB zs (k+4))=RL (nA ((zs.drop (k+8)).take N))):=by
 simp only[TN,hN,Int.toNat_natCast]
 rw[decide_eq_true h8,decide_eq_true (p:=(N:Int)≤65536) (by omega),decide_eq_true (p:=(N:Int)≤(zs.length:Int)-k-8) (by omega)]
 rfl
def w8(l:List (Nat×Nat)):Nat:=l.foldl (fun _ x=>x.1+x.2) 0
theorem OU(l:List (Nat×Nat))(x:Nat×Nat):w8 (l++[x])=x.1+x.2:=by simp[w8]
def oG(zs:List Int)(x:Nat×Nat):List Int:=(zs.drop x.1).take x.2
def xZ(zs:List Int):a6:=.list false 1 ((j5 zs 0).map fun x=>[.list false 1 (bC (oG zs x))])
structure HU(P:Program)(f:FuncId):Prop where
 pure:∀(ex:Bool) (zs:List Int) (_:zs.length≤10000000) (_:fO zs) (H:List aB),
  a7 P f [.list ex 1 (bC zs)] H (fun r H'=>r=.tuple [xZ zs,.int .i64 (w8 (j5 zs 0))]∧H'=H)
 own:∀(zs:List Int) (n:Nat) (_:n=zs.length) (_:zs.length≤10000000) (_:fO zs) (H:List aB) (id:Nat) (_:H[id]?=some (.arr 1 (bC zs))),
  a7 P f [.sl id n 0 n] H (fun r H'=>r=.tuple [xZ zs,.int .i64 (w8 (j5 zs 0))]∧H'=H)
 part:∀(zs:List Int) (rest:List (List a6)) (ep n:Nat) (_:ep=zs.length+rest.length) (_:n=zs.length) (_:zs.length≤10000000) (_:fO zs) (H:List aB) (id:Nat) (_:H[id]?=some (.arr 1 (bC zs++rest))),
  a7 P f [.sl id ep 0 n] H (fun r H'=>r=.tuple [xZ zs,.int .i64 (w8 (j5 zs 0))]∧H'=H)
def UZ(zs:List Int):Nat:=w8 (j5 zs 0)
attribute [local irreducible] a7
theorem TW:fO []:=fun x hx=>by simp at hx
theorem pO{a b:List Int}(ha:fO a)(hb:fO b):fO (a++b):=fun x hx=>(List.mem_append.1 hx).elim (ha x) (hb x)
theorem pG{H:List aB}{o:aB}{n:Nat}{k:Nat→List aB→Prop}(h:k (n+H.length) (H++[o])):i5 H o n k:=by rw[dH];exact h
theorem eB{H:List aB}{n:Nat}{o:aB}{k:List aB→Prop}{H':List aB}(h:H.set n o=H')(hk:k H'):vJ H n o k:=by rw[fN,h];exact hk
theorem gC(H:List aB)(o:aB):(H++[o])[0+H.length]?=some o:=by simp
theorem pF(H:List aB)(o o':aB):(H++[o]).set (0+H.length) o'=H++[o']:=by simp
theorem pM{H X:List aB}{i:Nat}{o:aB}(h:H[i]?=some o):(H++X)[i]?=some o:=by rw[List.getElem?_append_left (List.getElem?_eq_some_iff.1 h).1];exact h
theorem g8{H:List aB}{i:Nat}{o o':aB}(h:H[i]?=some o):(H.set i o')[i]?=some o':=by
 rw[List.getElem?_set_self (List.getElem?_eq_some_iff.1 h).1]
theorem dK{K:List aB}{i j:Nat}{a:aB}(hne:i≠j):(K.set i a)[j]?=K[j]?:=List.getElem?_set_ne hne
theorem MT{H:List aB}{i:Nat}{o:aB}(h:H[i]?=some o):H.set i o=H:=by
 apply List.ext_getElem?
 intro j
 by_cases e:i=j
 ·subst e;rw[g8 h,h]
 ·rw[dK e]
def FO(id:Nat)(l:List Int):a6:=.sl id l.length 0 l.length
def bO(l:List Int):aB:=.arr 1 (bC l)
def fA(s:ByteArray):List Int:=u8 s.size::dQ s
theorem uJ(H:List aB)(id:Nat)(l:List Int)(s:ByteArray)(ho:H[id]?=some (bO l))(hl:l.length≤100000)(hs:s.size≤100000):
  a7 pr 67 [FO id l,.str s] H (fun r H'=>r=FO id (l++fA s)∧H'=H.set id (bO (l++fA s))):=by
 have:=GK  H id (bC l) s ho (by rw[aD];exact hl) hs
 rw[←c9,aD,aD]at this
 exact this
set_option maxRecDepth 20000 in
theorem E1(H:List aB)(id:Nat)(l:List Int)(t:Bool)(ho:H[id]?=some (bO l))(hl:l.length≤1000000):
  a7 pr 68 [FO id l,.bool t] H (fun r H'=>r=FO id (l++[bif t then 1 else 0])∧H'=H.set id (bO (l++[bif t then 1 else 0]))):=by
 have hl2:=aD l
 have hl3:∀x,(bC l++[[a6.int .u8 x]]).length=(l++[x]).length:=fun x=>by simp[aD]
 have hl4:∀x,bC l++[[a6.int .u8 x]]=bC (l++[x]):=fun x=>by simp[bC]
 refine aA k68.has ?_
 cases t with
 |true =>
  (conv=>whnf);refine b4 (ho) ?_
  (conv=>whnf);refine b8 (by rw[hl2];exact Nat.beq_refl _) ?_
  (conv=>whnf);refine And.intro (⟨fG (by simp;omega),bK (by simp;omega),rfl,by rw[hl2]⟩) ?_
  (conv=>whnf)
  refine eB (congrArg (fun e=>H.set id (aB.arr 1 e)) (hl4 1)) ?_
  conv=>whnf
  exact⟨by show a6.sl id (bC l++[[a6.int .u8 1]]).length 0 (bC l++[[a6.int .u8 1]]).length=_;rw[hl3];rfl,rfl⟩
 |false =>
  (conv=>whnf);refine b4 (ho) ?_
  (conv=>whnf);refine b8 (by rw[hl2];exact Nat.beq_refl _) ?_
  (conv=>whnf);refine And.intro (⟨fG (by simp;omega),bK (by simp;omega),rfl,by rw[hl2]⟩) ?_
  (conv=>whnf)
  refine eB (congrArg (fun e=>H.set id (aB.arr 1 e)) (hl4 0)) ?_
  conv=>whnf
  exact⟨by show a6.sl id (bC l++[[a6.int .u8 0]]).length 0 (bC l++[[a6.int .u8 0]]).length=_;rw[hl3];rfl,rfl⟩
set_option maxRecDepth 20000 in
theorem yI(H:List aB)(id:Nat)(l:List Int)(n:Nat)(x:Int)(ho:H[id]?=some (bO l))(hl:l.length≤90000000)(hn:n≤4)(hx:0≤x):
  a7 pr 69 [FO id l,.int .i64 n,.int .i64 x] H (fun r H'=>r=FO id (l++j0 n x)∧H'=H.set id (bO (l++j0 n x))):=by
 have hid:=(List.getElem?_eq_some_iff.1 ho).1
 have hw:∀m:Nat,m≤4→IntKind.i64.wrap ((m:Int)-1)=(m:Int)-1:=fun m h=>aY _ (by omega) (by omega)
 refine aA k69.has ?_
 conv=>whnf
 refine⟨fun m ρ H1=>∃d:List Int,m≤n∧d++j0 m x=j0 n x∧H1=H.set id (bO (l++d)) ∧
  Sv 22 [(0,FO id (l++d)),(1,.int .i64 ((m:Int)-1)),(2,.int .i64 x)] ρ,n,[],?_,?_⟩
 ·refine⟨[],Nat.le_refl _,rfl,?_,Sv.intro rfl ⟨?_,?_,rfl,trivial⟩⟩
  ·rw[List.append_nil]
   exact(MT ho).symm
  ·rw[List.append_nil];rfl
  ·exact aN (hw n hn)
 rintro m ρ H1 ⟨d,hm,hd,rfl,dd,rfl⟩
 (conv=>whnf);refine aE (fun hge=>?_) (fun hge=>?_)
 ·simp at hge
  obtain⟨m,rfl⟩:∃j,m=j+1:=⟨m-1,by omega⟩
  rw[B5]at hd
  have hdl:d.length≤4:=by have:=congrArg List.length hd;rw[List.length_append,bW,List.length_cons]at this;omega
  have e8:IntKind.i64.wrap (8*((m:Int)))=8*m:=aY _ (by omega) (by omega)
  have e9:((m+1:Nat):Int)-1=m:=by omega
  have ebyte:u8 (x.fdiv (2 ^ (min (8*(m:Int)).toNat 64)))=(x / 256 ^ m) % 256:=by
   rw[m8,Int.fdiv_eq_ediv_of_nonneg _ (Int.pow_nonneg (by omega)),show min (8*(m:Int)).toNat 64=8*m by omega,Int.pow_mul];rfl
  have hl2:(bC (l++d)).length=(l++d).length:=aD _
  have hl5:(l++d).length≤90000010:=by simp;omega
  rw[e9]
  (conv=>whnf)
  rw[e8]
  (conv=>whnf);refine And.intro (by omega) ?_
  (conv=>whnf);refine b4 (g8 ho) ?_
  (conv=>whnf);refine b8 (by rw[hl2];exact Nat.beq_refl _) ?_
  (conv=>whnf);refine And.intro (⟨fG (by simp;omega),bK (by simp;omega),rfl,by rw[hl2]⟩) ?_
  have hob:bC (l++d)++[[a6.int .u8 (IntKind.u8.wrap (x.fdiv (2 ^ min (8*(m:Int)).toNat IntKind.i64.bits)))]]=bC (l++(d++[(x / 256 ^ m) % 256])):=by
   rw[←ebyte,←List.append_assoc,c9 (l++d)];rfl
  refine eB ((List.set_set ..).trans (congrArg (fun e=>H.set id (aB.arr 1 e)) hob)) ?_
  (conv=>whnf)
  refine⟨m,by omega,Gp.keep rfl ?_ fun ρ1 h=>⟨d++[(x / 256 ^ m) % 256],by omega,by rw[←hd];simp,rfl,h⟩⟩
  refine⟨?_,aN (hw m (by omega)),rfl,trivial⟩
  show a6.sl id (bC (l++d)++[[a6.int .u8 (IntKind.u8.wrap (x.fdiv (2 ^ min (8*(m:Int)).toNat IntKind.i64.bits)))]]).length 0 (bC (l++d)++[[a6.int .u8 (IntKind.u8.wrap (x.fdiv (2 ^ min (8*(m:Int)).toNat IntKind.i64.bits)))]]).length=_
  rw[hob,aD];rfl
 ·simp at hge
  obtain rfl:m=0:=by omega
  rw[j0,List.append_nil]at hd
  subst hd
  conv=>whnf
  exact⟨rfl,rfl⟩
def uO(full:List c8):List c8→Int→Int
 |[],_=>0
 |c::cs,i=>if eE c.name=false then 4 else if c.kind<1∨4<c.kind then 7 else if dZ full c.name<i then 6 else uO full cs (i+1)
def r9(cs:List c8):Int:=if cs.length<1∨12<cs.length then 2 else uO cs cs 0
theorem J2{α:Type}(p:α→Bool):∀(l:List α) (i:Int) (k:Nat) (x:α),l[k]?=some x→p x=true→fT p l i≤i+k
 |[],_,_,_,h,_=>by simp at h
 |c::cs,i,0,x,h,hp=>by
  simp at h;subst h
  rw[fT,if_pos hp];simp
 |c::cs,i,k+1,x,h,hp=>by
  rw[fT]
  split
  ·omega
  ·have:=J2 p cs (i+1) k x (by simpa using h) hp
   omega
theorem OR(cs:List c8)(k:Nat)(c:c8)(h:cs[k]?=some c):dZ cs c.name≤k:=by
 have:=J2 (s8 c.name) cs 0 k c h (by simp[s8])
 rw[dZ];omega
set_option maxRecDepth 20000 in
theorem sM(e1:Bool)(cs:List c8)(hl:cs.length≤1000000)(H:List aB):
  a7 pr 116 [.list e1 3 (cC cs)] H (fun r H'=>r=.int .i64 (r9 cs)∧H'=H):=by
 refine a7.pure (by simp[a6.closed,a6.isPure]) (aA k116.has ?_)
 (conv=>whnf);refine aE (fun h0=>?_) (fun h0=>?_)
 ·simp[aW]at h0
  conv=>whnf
  exact cZ (by rw[r9,if_pos (by omega)])
 simp[aW]at h0
 (conv=>whnf);refine aE (fun h1=>?_) (fun h1=>?_)
 ·simp[aW]at h1
  conv=>whnf
  exact cZ (by rw[r9,if_pos (by omega)])
 simp[aW]at h1
 have h2:0<cs.length:=by omega
 have hR:r9 cs=uO cs cs 0:=by rw[r9,if_neg (by omega)]
 conv=>whnf
 refine⟨fun m ρ H1=>∃k:Nat,k+m=cs.length∧uO cs (cs.drop k) k=r9 cs∧H1=[] ∧
  Sv 42 [(0,.list e1 3 (cC cs)),(13,.list e1 3 (cC cs)),(14,.int .i64 cs.length),(15,.int .i64 k)] ρ,cs.length,[],?_,?_⟩
 ·exact⟨0,by omega,hR.symm,rfl,Sv.intro rfl ⟨rfl,rfl,aN (by rw[aW]),rfl,trivial⟩⟩
 rintro m ρ H1 ⟨k,hk,hr,rfl,d,rfl⟩
 (conv=>whnf);refine aE (fun hlt=>?_) (fun hlt=>?_)
 ·simp at hlt
  obtain⟨c,hc,hdc,_⟩:=aX (show k<cs.length by omega)
  rw[hdc,uO]at hr
  repeat'((conv=>whnf);first|refine And.intro (by omega) ?_|refine b4 (iI hc) ?_|refine a7.use (eI c.name _) ?_|refine a7.use (wQ e1 cs hl c.name _) ?_|refine aE (fun h=>?_) (fun h=>?_))
  all_goals(conv=>whnf)
  all_goals first
   |refine⟨m-1,by omega,Gp.none rfl ?_ fun ρ1 h=>⟨k+1,by omega,?_,rfl,h⟩⟩
   |refine cZ ?_
  all_goals first
   |exact⟨.closed _ rfl,.closed _ rfl,.closed _ rfl,eT (aY ((k:Int)+1) (by omega) (by omega)),trivial⟩
   |skip
  all_goals first
   |(rw[←hr];simp_all;done)
   |(rw[←hr,if_neg (by simp_all),if_neg (by simp_all<;>omega),if_neg (by simp_all<;>omega)];rfl)
 ·simp at hlt
  conv=>whnf
  rw[List.drop_eq_nil_of_le (show cs.length≤k by omega)]at hr
  exact cZ hr
set_option maxRecDepth 20000 in
theorem dN(e1:Bool)(cs:List c8)(hl:cs.length≤1000000)(H:List aB):
  a7 pr 71 [.list e1 3 (cC cs)] H (fun r H'=>r=.int .i64 (r9 cs)∧H'=H):=by
 refine a7.pure (by simp[a6.closed,a6.isPure]) (aA k71.has ?_)
 (conv=>whnf);refine aE (fun h0=>?_) (fun h0=>?_)
 ·simp[aW]at h0
  conv=>whnf
  exact cZ (by rw[r9,if_pos (by omega)])
 simp[aW]at h0
 (conv=>whnf);refine aE (fun h1=>?_) (fun h1=>?_)
 ·simp[aW]at h1
  conv=>whnf
  exact cZ (by rw[r9,if_pos (by omega)])
 simp[aW]at h1
 have h2:0<cs.length:=by omega
 have hR:r9 cs=uO cs cs 0:=by rw[r9,if_neg (by omega)]
 conv=>whnf
 refine⟨fun m ρ H1=>∃k:Nat,k+m=cs.length∧uO cs (cs.drop k) k=r9 cs∧H1=[] ∧
  Sv 48 [(0,.list e1 3 (cC cs)),(3,.int .i64 k)] ρ,cs.length,[],?_,?_⟩
 ·exact⟨0,by omega,hR.symm,rfl,Sv.intro rfl ⟨rfl,rfl,trivial⟩⟩
 rintro m ρ H1 ⟨k,hk,hr,rfl,d,rfl⟩
 (conv=>whnf);refine aE (fun hlt=>?_) (fun hlt=>?_)
 ·simp[aW]at hlt
  obtain⟨c,hc,hdc,_⟩:=aX (show k<cs.length by omega)
  have hle:=OR cs k c hc
  have hiff:dZ cs c.name<k↔¬dZ cs c.name=k:=by omega
  rw[hdc,uO]at hr
  repeat'((conv=>whnf);first|refine And.intro (by omega) ?_|refine b4 (iI hc) ?_|refine a7.use (eH c.name _) ?_|refine a7.use (bB e1 cs hl c.name _) ?_|refine aE (fun h=>?_) (fun h=>?_))
  all_goals(conv=>whnf)
  all_goals first
   |refine⟨m-1,by omega,Gp.none rfl ?_ fun ρ1 h=>⟨k+1,by omega,?_,rfl,h⟩⟩
   |refine cZ ?_
  all_goals first
   |exact⟨.closed _ rfl,eT (aY ((k:Int)+1) (by omega) (by omega)),trivial⟩
   |skip
  all_goals first
   |(rw[←hr];simp_all;done)
   |(rw[←hr,if_neg (by simp_all),if_neg (by simp_all<;>omega),if_neg (by simp_all<;>omega)];rfl)
 ·simp[aW]at hlt
  conv=>whnf
  rw[List.drop_eq_nil_of_le (show cs.length≤k by omega)]at hr
  exact cZ hr
end Go.AW
