/-
  An abstract machine over the model, the code of functions on it, and their contracts: what the claim needs.
  No condition: definitions, plain laws, contracts over any program that has this code.
-/
import Derived.Test.YtbjodpkinpnebaaGreatY6
set_option linter.all false
namespace Go.AW
variable [dK]
attribute [local irreducible] a7 bH oL Gp
def bI(d:qZ):List a6:=[XV d.zones,.list false 7 (mC D2 d.sources),.list false 3 (mC XA d.macros),.sl 0 d.models.length 0 d.models.length,.list false 2 (mC SX d.snaps),.list false 14 (mC eM d.checks)]
abbrev d8(d:qZ):aB:=.arr 8 (mC gR d.models)
theorem dY(d:qZ):bG (mC gR d.models)=true:=aV eE d.models
theorem gW(d:qZ)(n:Nat):(d8 d).lowO n:=bV (dY d)
theorem fK(d:qZ){σ:Nat→Nat}(h:σ 0=0):jB σ (.agg (bI d)) (.agg (bI d)):=by
 refine .agg _ _ rfl fun i a b h1 h2=>?_
 rw[h1]at h2;cases h2
 rcases i with _|_|_|_|_|_|i
 ·cases h1;exact .closed _ rfl
 ·cases h1;exact .closed _ rfl
 ·cases h1;exact .closed _ rfl
 ·cases h1;have:=jB.sl (σ:=σ) 0 d.models.length 0 d.models.length;rwa [h]at this
 ·cases h1;exact .closed _ rfl
 ·cases h1;exact .closed _ rfl
 ·simp[bI]at h1
def FA(p:jL→Prop)(r:a6):Prop:=∃(c:a6) (x:jL) (e:Int),r=.tuple [c,.int .i64 e]∧gG c (.agg (bR x))∧(e=0→nF x∧p x)
def QI(p:jL→Prop)(r:a6):Prop:=∃(x:jL) (e:Int),r=.tuple [.agg (bR x),.int .i64 e]∧(e=0→nF x∧p x)
theorem O3(x:jL)(v:a6)(hv:v.closed=true):(a6.tuple [.agg (bR x),v]).clT=true:=by
 show((a6.agg (bR x)).closed&&(v.closed&&true))=true
 rw[jO,hv];rfl
theorem FA.wk{p:jL→Prop}:∀r,FA p r→∃r',gG r r'∧r'.clT=true∧QI p r':=by
 rintro r ⟨c,x,e,rfl,hw,h⟩
 exact⟨_,.tuples (.cons hw (.cons (.refl _) .nil)),O3 x _ rfl,x,e,rfl,h⟩
theorem WC:gG (.agg [.str (bs []),.nil,.nil,.nil]) (.agg (bR V4)):=.aggs (.cons (.refl _) (.cons (.nil _ _) (.cons (.refl _) (.cons (.refl _) .nil))))
theorem wC{p:jL→Prop}{H H0 G:List aB}{ids:List Nat}(hH:H=H0++G)(e:Int)(he:e≠0):∃r G,H=H0++G∧dV H 0 ids (.tuple [.agg [.str (bs []),.nil,.nil,.nil],.int .i64 e]) r∧r.clT=true∧FA p r :=
 ⟨_,_,hH,dP (.closed _ rfl) (.closed _ rfl),rfl,_,V4,e,rfl,WC,fun h=>absurd h he⟩
theorem SK{p:jL→Prop}{H H0 G:List aB}{ids:List Nat}{c c':a6}(hH:H=H0++G)(x:jL)(hp:dV H 0 ids c c')(hc:c'.closed=true)(hw:gG c' (.agg (bR x)))(h:nF x∧p x):∃r G,H=H0++G∧dV H 0 ids (.tuple [c,.int .i64 0]) r∧r.clT=true∧FA p r :=
 ⟨_,_,hH,dP hp (.closed _ rfl),(by show(c'.closed&&true)=true;rw[hc];rfl),c',x,0,rfl,hw,fun _=>h⟩
theorem S9{H:List aB}{n:Nat}{ids:List Nat}{a b c d a' b' c' d':a6}(h1:dV H n ids a a')(h2:dV H n ids b b')(h3:dV H n ids c c')(h4:dV H n ids d d'):dV H n ids (.agg [a,b,c,d]) (.agg [a',b',c',d']):=by
 refine .agg _ _ rfl fun i v t h5 h6=>?_
 rcases i with _|_|_|_|i
 ·cases h5;cases h6;exact h1
 ·cases h5;cases h6;exact h2
 ·cases h5;cases h6;exact h3
 ·cases h5;cases h6;exact h4
 ·simp at h5
theorem V1{H:List aB}{n:Nat}{ids:List Nat}{b c m:Nat}{fs:List (List a6)}(hi:b∉ids)(hj:c∉ids)(hb:H[b]?=some (.arr 1 [[.sl c m 0 m]]))(hc:H[c]?=some (.arr 1 fs))(hm:m=fs.length)(hp:bG fs=true):dV H n ids (.sl b 1 0 1) (.list false 1 [[.list false 1 fs]]):=by
 refine dV.frzN b 1 0 1 1 [[.sl c m 0 m]] [[.list false 1 fs]] hb rfl hi rfl (fun i e e1 h1 h2=>?_) (fun i j e1 d1 h1 h2=>?_) (fun i j e e1 d d1 h1 h2 h3 h4=>?_)
 ·rcases i with _|i
  ·cases h1;cases h2;rfl
  ·simp at h1
 ·rcases i with _|i
  ·cases h1
   rcases j with _|j
   ·cases h2;rfl
   ·simp at h2
  ·simp at h1
 ·rcases i with _|i
  ·cases h1;cases h2
   rcases j with _|j
   ·cases h3;cases h4;exact mG hj hc hm hm hp
   ·simp at h3
  ·simp at h1
theorem P4{k:Nat}:k+1∉List.range 1:=by simp
set_option maxRecDepth 20000 in
set_option maxHeartbeats 1000000 in
theorem GS(d:qZ)(s:yD)(hd:d.F)(hs:PW s)(hsc:Cz s.cols):
  cJ pr 140 [d8 d] [.agg (bI d),.agg (D2 s)] (QI (fun x=>x.name=s.name∧Cz x.cols)):=by
 obtain⟨h1,h2,h3,_⟩:=hs
 have h2l:=h2.1
 have h3l:=h3.1
 have low:=gW d
 refine cJ.weak ?_ FA.wk
 refine bQ k140.has ⟨low _,trivial⟩ ?_
 repeat'((conv=>whnf);first|((first|apply aC.use|apply aC.draw);exact wR false d.zones hd.z.1 _;rintro r ⟨z,b,rfl,hb⟩)|refine aI ?_|refine oA ?_|refine oM fun x hx hm=>?_|((first|apply aK|apply aL|apply aM|apply aF|apply aE)<;>intro h<;>(try simp at h)<;>(try(exfalso;omega))))
 any_goals((conv=>whnf);first|exact wC (by exact rfl) _ (by decide)|fail)
 all_goals(conv=>whnf)
 exact SK (by exact rfl) ⟨s.name,false,s.cols,some [(false,s.key)]⟩ (S9 (.closed _ rfl) (mG (es:=cC s.cols) P4 rfl (by simp) (by simp) (cG _)) (V1 (m:=(sC s.key).length) (c:=6) (fs:=sC s.key) P4 P4 rfl rfl rfl (aO _)) (.closed _ rfl)) rfl (.refl _) ⟨⟨h1,h2l⟩,rfl,hsc⟩
theorem V0{H:List aB}{n:Nat}{ids:List Nat}{id ep len sz:Nat}{es fs:List (List a6)}(he:es=fs)(hid:id∉ids)(ho:H[id]?=some (.arr sz es))(h1:ep=es.length)(h2:len=es.length)(hp:bG fs=true):dV H n ids (.sl id ep 0 len) (.list false sz fs):=by
 subst he;exact mG hid ho h1 h2 hp
theorem V2{H:List aB}{n:Nat}{ids:List Nat}{b c m:Nat}{es fs:List (List a6)}(he:es=fs)(hi:b∉ids)(hj:c∉ids)(hb:H[b]?=some (.arr 1 [[.sl c m 0 m]]))(hc:H[c]?=some (.arr 1 es))(hm:m=es.length)(hp:bG fs=true):dV H n ids (.sl b 1 0 1) (.list false 1 [[.list false 1 fs]]):=by
 subst he;exact V1 hi hj hb hc hm hp
def QN(d:qZ)(C K:a6):Prop:=(C=.nil∧K=.nil)∨∃s∈d.sources,C=cL s.cols∧K=sL s.key
theorem QN.low{d:qZ}{C K:a6}(h:QN d C K)(n:Nat):C.lowC n=true∧K.lowC n=true:=by
 rcases h with⟨rfl,rfl⟩|⟨s,_,rfl,rfl⟩<;>exact⟨rfl,rfl⟩
theorem KH{d:qZ}{C K:a6}(h:QN d C K)(n:Nat)(a b c:ByteArray)(e f:Int):(aB.arr 7 [[.str a,C,K,.str b,.str c,.int .i64 e,.int .i64 f]]).lowO n:=by
 obtain⟨h1,h2⟩:=h.low n
 show([[a6.str a,C,K,.str b,.str c,.int .i64 e,.int .i64 f]].all fun e=>e.all (a6.lowC n))=true
 simp only[List.all_cons,List.all_nil,h1,h2]
 rfl
def mJ:ByteArray:=bs [118,97,108,105,100,95,102,114,111,109]
def V8:ByteArray:=bs [118,97,108,105,100,95,116,111]
theorem CX{l:List c8}(h:∀c∈l,bM c.name):∀c∈l++[⟨mJ,4,false⟩,⟨V8,4,true⟩],bM c.name:=fun c hc=>by
 rcases List.mem_append.1 hc with hc|hc
 ·exact h c hc
 ·simp at hc;rcases hc with rfl|rfl
  ·exact(by decide:mJ.size≤100000)
  ·exact(by decide:V8.size≤100000)
abbrev XL(d:qZ)(p:KP)(a b c:ByteArray)(C K:a6)(e f:Int):List aB:=[d8 d,.arr 6 [bI d],.arr 2 [SX p],.arr 4 [[.str (bs []),.nil,.nil,.nil]],.arr 7 [[.str a,C,K,.str b,.str c,.int .i64 e,.int .i64 f]]]
set_option maxRecDepth 20000 in
set_option maxHeartbeats 2000000 in
theorem CY(d:qZ)(p:KP)(hd:d.F)(hp:WI p):
  cJ pr 141 [d8 d] [.agg (bI d),.agg (SX p)] (QI (fun y=>y.name=p.name∧Cz y.cols)):=by
 have low:=gW d
 have hsl:=hd.s.1
 refine cJ.weak ?_ FA.wk
 refine bQ k141.has ⟨low _,trivial⟩ ?_
 conv=>whnf
 refine⟨fun m ρ H1=>∃(k:Nat) (a b c:ByteArray) (C K:a6) (e f:Int),k+m=d.sources.length∧QN d C K∧H1=XL d p a b c C K e f∧Sv 68 [(2,.ptr 1 1 0 0),(3,.ptr 2 1 0 0),(4,.ptr 3 1 0 0),(6,.ptr 4 1 0 0),(7,.int .i64 k)] ρ,d.sources.length,[],
  fun i ρ H1=>i=0∧∃(a b c:ByteArray) (C K:a6) (e f:Int),QN d C K∧H1=XL d p a b c C K e f∧Sv 68 [(3,.ptr 2 1 0 0),(4,.ptr 3 1 0 0),(6,.ptr 4 1 0 0)] ρ,?_,?_,?_⟩
 ·exact⟨0,bs [],bs [],bs [],.nil,.nil,0,0,by omega,.inl ⟨rfl,rfl⟩,rfl,Sv.intro rfl ⟨rfl,rfl,rfl,rfl,rfl,trivial⟩⟩
 ·rintro m ρ H1 ⟨k,a,b,c,C,K,e,f,hk,hC,rfl,dd,rfl⟩
  repeat'((conv=>whnf);first|refine aI ?_|refine oA ?_|refine oM fun x hx hm=>?_|((first|apply aK|apply aL|apply aM|apply aF|apply aE)<;>intro h<;>(try simp at h)))
  any_goals((conv=>whnf);first|(refine⟨m-1,by omega,Gp.cutN (H:=XL d p x.name x.at' x.zone (cL x.cols) (sL x.key) x.late x.reop) rfl ⟨rfl,trivial⟩ ⟨low _,rfl,rfl,rfl,rfl,trivial⟩ rfl rfl ?_ fun ρ1 h=>⟨k+1,_,_,_,_,_,_,_,by omega,.inr ⟨x,by assumption,rfl,rfl⟩,rfl,h⟩⟩;exact⟨rfl,rfl,rfl,rfl,aN (dX (by omega)),trivial⟩)|(refine⟨m-1,by omega,Gp.cutN (H:=XL d p a b c C K e f) rfl ⟨rfl,trivial⟩ ⟨low _,rfl,rfl,rfl,KH hC _ _ _ _ _ _,trivial⟩ rfl rfl ?_ fun ρ1 h=>⟨k+1,a,b,c,C,K,e,f,by omega,hC,rfl,h⟩⟩;exact⟨rfl,rfl,rfl,rfl,aN (dX (by omega)),trivial⟩)|(refine Gp.cutN (H:=XL d p a b c C K e f) rfl ⟨rfl,trivial⟩ ⟨low _,rfl,rfl,rfl,KH hC _ _ _ _ _ _,trivial⟩ rfl rfl ?_ fun ρ1 h=>⟨rfl,a,b,c,C,K,e,f,hC,rfl,h⟩;exact⟨rfl,rfl,rfl,trivial⟩)|fail)
 ·rintro i ρ1 H1 ⟨rfl,a,b,c,C,K,e,f,hC,rfl,dd,rfl⟩
  rcases hC with⟨rfl,rfl⟩|⟨s,hs,rfl,rfl⟩
  ·repeat'((conv=>whnf);first|((first|apply aC.use|apply aC.draw);exact(aC.of (bB false [] (by simp) _)).args (.cons (.nil _ _) (.cons (.refl _) .nil));rintro r rfl)|refine aI ?_|refine oA ?_|refine oM fun x hx hm=>?_|((first|apply aK|apply aL|apply aM|apply aF|apply aE)<;>intro h<;>(try simp at h)<;>(try(exfalso;omega))))
   any_goals((conv=>whnf);first|exact wC (by exact rfl) _ (by decide)|(refine SK (by exact rfl) ⟨p.name,false,([]:List c8)++[⟨mJ,4,false⟩,⟨V8,4,true⟩],some [(false,([]:List ByteArray)++[mJ])]⟩ (S9 (.closed _ rfl) (V0 (fs:=cC (([]:List c8)++[⟨mJ,4,false⟩,⟨V8,4,true⟩])) (sU ([]:List c8) [⟨mJ,4,false⟩,⟨V8,4,true⟩]).symm P4 rfl rfl rfl (cG _)) (V2 (c:=7) (m:=(sC (([]:List ByteArray))++[[a6.str mJ]]).length) (fs:=sC (([]:List ByteArray)++[mJ])) (jV ([]:List ByteArray) [mJ]).symm P4 P4 rfl rfl rfl (aO _)) (.closed _ rfl)) rfl (.refl _) ⟨⟨hp.1,by simp<;>omega⟩,rfl,⟨by simp<;>omega,by simp<;>omega,CX (fun c h=>by simp at h)⟩⟩)|fail)
  ·have hs3:=(hd.s.2 s hs).2.2.1.1
   have hs2:=(hd.s.2 s hs).2.1.1
   repeat'((conv=>whnf);first|((first|apply aC.use|apply aC.draw);exact(aC.of (bB false s.cols (by omega) _));rintro r rfl)|refine aI ?_|refine oA ?_|refine oM fun x hx hm=>?_|((first|apply aK|apply aL|apply aM|apply aF|apply aE)<;>intro h<;>(try simp at h)<;>(try(exfalso;omega))))
   any_goals((conv=>whnf);first|exact wC (by exact rfl) _ (by decide)|(refine SK (by exact rfl) ⟨p.name,false,s.cols++[⟨mJ,4,false⟩,⟨V8,4,true⟩],some [(false,s.key++[mJ])]⟩ (S9 (.closed _ rfl) (V0 (fs:=cC (s.cols++[⟨mJ,4,false⟩,⟨V8,4,true⟩])) (sU s.cols [⟨mJ,4,false⟩,⟨V8,4,true⟩]).symm P4 rfl rfl rfl (cG _)) (V2 (c:=7) (m:=(sC (s.key)++[[a6.str mJ]]).length) (fs:=sC (s.key++[mJ])) (jV s.key [mJ]).symm P4 P4 rfl rfl rfl (aO _)) (.closed _ rfl)) rfl (.refl _) ⟨⟨hp.1,by simp<;>omega⟩,rfl,⟨by simp<;>omega,by simp<;>omega,CX (hd.s.2 s hs).2.1.2⟩⟩)|fail)
theorem JQ{σ:Nat→Nat}{sz:Nat}{es fs:List (List a6)}(h:es=fs)(hp:bG es=true):eW σ (.arr sz es) (.arr sz fs):=by
 subst h;exact .same hp
theorem pF{σ:Nat→Nat}{k id n a b:Nat}(hk:σ k=id)(ha:n=a)(hb:n=b):jB σ (.sl k n 0 n) (.sl id a 0 b):=by
 subst hk ha hb;exact .sl k _ _ _
def u7:ByteArray:=bs [115,101,108,102]
set_option maxRecDepth 20000 in
set_option maxHeartbeats 4000000 in
theorem J3(d:qZ)(m:vE)(l:List jL)(hd:d.F)(hm:G3 m)(hl:Fl nF l)(hl2:l.length≤99999):
  cJ pr 142 [d8 d,i8 l] [.agg (bI d),.agg (gR m),.sl 1 l.length 0 l.length] (QI (fun y=>y.name=m.name∧Cz y.cols)):=by
 have low:=gW d
 have low2:=bP l
 obtain⟨hm1,hm2,hm3,_⟩:=hm
 have hsl:=hm2.1
 refine cJ.weak ?_ FA.wk
 refine bQ k142.has ⟨low _,low2 _,trivial⟩ ?_
 have e1:mC bR l=List.take l.length (List.drop 0 (mC bR l)):=by rw[List.drop_zero,List.take_of_length_le (by simp)]
 have e2:mC bR (l++[⟨u7,false,m.self,none⟩])=List.take l.length (List.drop 0 (mC bR l))++[[a6.str u7,cL m.self,.nil,.nil]]:=by rw[dD,←e1];rfl
 have hl':Fl nF (l++[⟨u7,false,m.self,none⟩]):=⟨by simp;omega,dE hl.2 ⟨(by decide:u7.size≤100000),hsl⟩⟩
 have hp1:bG (List.take l.length (List.drop 0 (mC bR l)))=true:=by rw[←e1];exact aV cI _
 have hp2:bG (List.take l.length (List.drop 0 (mC bR l))++[[a6.str u7,cL m.self,.nil,.nil]])=true:=by rw[←e2];exact aV cI _
 repeat'((conv=>whnf);first|(refine cJ.use [5] (nR false false m.query (l++[⟨u7,false,m.self,none⟩]) d.zones hm3 hl' hd.z) (by simp) rfl ⟨⟨_,rfl,JQ e2 (aV cI _)⟩,trivial⟩ ⟨.closed _ rfl,pF rfl (by simp) (by simp),.closed _ rfl,trivial⟩ (fun r hr=>?_);obtain⟨L,e,rfl,hL,hLp⟩:=hr;have hw:IntKind.i64.wrap (((mC I9 L).length:Int)-1)=L.length-1:=(by rw[aZ];exact aW ((L.length:Int)-1) (by omega) (by omega));rcases Decidable.em (e=0)with he|he;obtain⟨q1,q2,q3,_⟩:=hLp he)|(refine cJ.use [5] (nR false false m.query (l) d.zones hm3 hl hd.z) (by simp) rfl ⟨⟨_,rfl,JQ e1 (aV cI _)⟩,trivial⟩ ⟨.closed _ rfl,pF rfl (by simp) (by simp),.closed _ rfl,trivial⟩ (fun r hr=>?_);obtain⟨L,e,rfl,hL,hLp⟩:=hr;have hw:IntKind.i64.wrap (((mC I9 L).length:Int)-1)=L.length-1:=(by rw[aZ];exact aW ((L.length:Int)-1) (by omega) (by omega));rcases Decidable.em (e=0)with he|he;obtain⟨q1,q2,q3,_⟩:=hLp he)|refine iQ (by rw[hw];omega) (fun x hx hm=>?_)|((first|apply aC.use|apply aC.draw);exact aC.of (s9 false false m.self x (by omega));rintro r rfl)|((first|apply aC.use|apply aC.draw);exact aC.of (bB false x (by have:=(q3 _ hm).2;omega) _);rintro r rfl)|((first|apply aC.use|apply aC.draw);exact wR false d.zones hd.z.1 _;rintro r ⟨z,b,rfl,hb⟩)|refine iQ (dB x _ (by assumption)) (fun y hy hmy=>?_)|refine aI ?_|refine oA ?_|refine oM fun x hx hm=>?_|((first|apply aK|apply aL|apply aM|apply aF|apply aE)<;>intro h<;>(try simp at h)<;>(try(exfalso;omega))))
 any_goals((conv=>whnf);first|exact wC (by exact rfl) _ (by assumption)|exact wC (by exact rfl) _ (by decide)|(refine SK (by exact rfl) ⟨m.name,false,x,none⟩ (.closed _ rfl) rfl (.refl _) ⟨⟨hm1,(q3 x hm).le⟩,rfl,q3 x hm⟩)|fail)
 all_goals first|(exfalso;have h1:=‹m.self=[]›;have h2:=‹0<m.self.length›;rw[h1]at h2;exact absurd h2 (by decide))|skip
 have hlen:m.self.length=x.length:=Classical.byContradiction fun hn=>by
  have h1:=‹K1 m.self x=true›
  rw[CS _ _ hn]at h1;cases h1
 have hxl:=(q3 _ hm).le
 have hx1:=q3 _ hm
 (conv=>whnf)
 refine⟨fun m1 ρ H1=>∃(k:Nat) (E:List (List a6)),k+m1=x.length∧bG E=true∧H1=[d8 d,i8 l,.arr 6 [bI d],.arr 8 [gR m],.arr 4 [[.str (bs []),.nil,.nil,.nil]],.arr 4 E]∧Sv 118 [(3,.ptr 2 1 0 0),(4,.ptr 3 1 0 0),(6,.ptr 4 1 0 0),(11,cL x),(12,.int .i64 k)] ρ,x.length,[],
  fun i ρ H1=>i=0∧∃E:List (List a6),bG E=true∧H1=[d8 d,i8 l,.arr 6 [bI d],.arr 8 [gR m],.arr 4 [[.str (bs []),.nil,.nil,.nil]],.arr 4 E]∧Sv 118 [(3,.ptr 2 1 0 0),(4,.ptr 3 1 0 0),(6,.ptr 4 1 0 0),(11,cL x)] ρ,?_,?_,?_⟩
 ·exact⟨0,_,by omega,hp2,rfl,Sv.intro rfl ⟨rfl,rfl,rfl,rfl,rfl,trivial⟩⟩
 ·rintro m1 ρ H1 ⟨k,E,hk,pE,rfl,dd,rfl⟩
  repeat'((conv=>whnf);first|refine aI ?_|refine oA ?_|refine oM fun x hx hm=>?_|((first|apply aK|apply aL|apply aM|apply aF|apply aE)<;>intro h<;>(try simp at h)))
  any_goals((conv=>whnf);first|exact wC (by exact rfl) _ (by decide)|(refine⟨m1-1,by omega,Gp.cutN (H:=[d8 d,i8 l,.arr 6 [bI d],.arr 8 [gR m],.arr 4 [[.str (bs []),.nil,.nil,.nil]],.arr 4 E]) rfl ⟨rfl,rfl,trivial⟩ ⟨low _,low2 _,rfl,rfl,rfl,bV pE,trivial⟩ rfl rfl ?_ fun ρ1 h=>⟨k+1,E,by omega,pE,rfl,h⟩⟩;exact⟨rfl,rfl,rfl,rfl,aN (dX (by omega)),trivial⟩)|(refine Gp.cutN (H:=[d8 d,i8 l,.arr 6 [bI d],.arr 8 [gR m],.arr 4 [[.str (bs []),.nil,.nil,.nil]],.arr 4 E]) rfl ⟨rfl,rfl,trivial⟩ ⟨low _,low2 _,rfl,rfl,rfl,bV pE,trivial⟩ rfl rfl ?_ fun ρ1 h=>⟨rfl,E,pE,rfl,h⟩;exact⟨rfl,rfl,rfl,rfl,trivial⟩)|fail)
 ·rintro i ρ1 H1 ⟨rfl,E,pE,rfl,dd,rfl⟩
  repeat'((conv=>whnf);first|((first|apply aC.use|apply aC.draw);exact aC.of (bB false x (by have:=(q3 _ hm).2;omega) _);rintro r rfl)|((first|apply aC.use|apply aC.draw);exact wR false d.zones hd.z.1 _;rintro r ⟨z,b,rfl,hb⟩)|refine iQ (dB x _ (by assumption)) (fun y hy hmy=>?_)|refine aI ?_|refine oA ?_|refine oM fun x hx hm=>?_|((first|apply aK|apply aL|apply aM|apply aF|apply aE)<;>intro h<;>(try simp at h)<;>(try(exfalso;omega))))
  any_goals((conv=>whnf);first|exact wC (by exact rfl) _ (by assumption)|exact wC (by exact rfl) _ (by decide)|(refine SK (by exact rfl) ⟨m.name,false,x,none⟩ (.closed _ rfl) rfl (.refl _) ⟨⟨hm1,hxl⟩,rfl,hx1⟩)|fail)
theorem YY{p:jL→Prop}{H H0 G:List aB}{ids:List Nat}(hH:H=H0++G)(y:jL){e:Int}(h:e=0→nF y∧p y):∃r G,H=H0++G∧dV H 0 ids (.tuple [.agg (bR y),.int .i64 e]) r∧r.clT=true∧FA p r :=
 ⟨_,_,hH,dP (.closed _ (jO y)) (.closed _ rfl),O3 y _ rfl,_,y,e,rfl,.refl _,h⟩
set_option maxRecDepth 20000 in
set_option maxHeartbeats 4000000 in
theorem CG(d:qZ)(nm:ByteArray)(l:List jL)(hd:d.F)(hl:Fl nF l)(hl2:l.length≤99999)(hsc:∀s∈d.sources,Cz s.cols):
  cJ pr 86 [d8 d,i8 l] [.agg (bI d),.str nm,.sl 1 l.length 0 l.length] (QI (fun y=>y.name=nm∧Cz y.cols)):=by
 have low:=gW d
 have low2:=bP l
 have hsl:=hd.s.1
 have hnl:=hd.n.1
 have hql:=hd.q.1
 refine cJ.weak ?_ FA.wk
 refine bQ k86.has ⟨low _,low2 _,trivial⟩ ?_
 conv=>whnf
 refine⟨fun m ρ H1=>∃k:Nat,k+m=d.sources.length∧H1=[d8 d,i8 l,.arr 6 [bI d],.arr 4 [[.str (bs []),.nil,.nil,.nil]]]∧Sv 85 [(1,.str nm),(2,.sl 1 l.length 0 l.length),(3,.ptr 2 1 0 0),(6,.ptr 3 1 0 0),(8,.int .i64 k)] ρ,d.sources.length,[],fun i ρ H1=>i=0∧H1=[d8 d,i8 l,.arr 6 [bI d],.arr 4 [[.str (bs []),.nil,.nil,.nil]]]∧Sv 85 [(1,.str nm),(2,.sl 1 l.length 0 l.length),(3,.ptr 2 1 0 0),(6,.ptr 3 1 0 0)] ρ,?_,?_,?_⟩
 ·exact⟨0,Nat.zero_add _,rfl,Sv.intro rfl ⟨rfl,rfl,rfl,rfl,rfl,trivial⟩⟩
 ·rintro m ρ H1 ⟨k,hk,rfl,dd,rfl⟩
  repeat'((conv=>whnf);first|(refine cJ.use [0] (GS d _ hd (hd.s.2 _ (by assumption)) (hsc _ (by assumption))) (by simp) rfl ⟨⟨_,rfl,.same (dY d)⟩,trivial⟩ ⟨fK d rfl,.closed _ rfl,trivial⟩ (fun r hr=>?_);obtain⟨y,e,rfl,hy⟩:=hr)|refine b4 ((bS _)) ?_|refine aI ?_|refine oA ?_|refine oM fun x hx hm=>?_|((first|apply aK|apply aL|apply aM|apply aF|apply aE)<;>intro h<;>(try simp at h)))
  any_goals((conv=>whnf);first|exact YY (by exact rfl) _ (fun h=>⟨(hy h).1,(hy h).2.1.trans (ByteArray.ext (by assumption)),(hy h).2.2⟩)|(refine⟨m-1,by omega,Gp.cutN (H:=[d8 d,i8 l,.arr 6 [bI d],.arr 4 [[.str (bs []),.nil,.nil,.nil]]]) rfl ⟨rfl,rfl,trivial⟩ ⟨low _,low2 _,rfl,rfl,trivial⟩ rfl rfl ?_ fun ρ1 h=>⟨k+1,by omega,rfl,h⟩⟩;exact⟨rfl,rfl,rfl,rfl,aN (dX (by omega)),trivial⟩)|(refine Gp.cutN (H:=[d8 d,i8 l,.arr 6 [bI d],.arr 4 [[.str (bs []),.nil,.nil,.nil]]]) rfl ⟨rfl,rfl,trivial⟩ ⟨low _,low2 _,rfl,rfl,trivial⟩ rfl rfl ?_ fun ρ1 h=>⟨rfl,rfl,h⟩;exact⟨rfl,rfl,rfl,rfl,trivial⟩)|fail)
 ·rintro i ρ1 H1 ⟨rfl,rfl,dd,rfl⟩
  conv=>whnf
  refine⟨fun m ρ H1=>∃k:Nat,k+m=d.snaps.length∧H1=[d8 d,i8 l,.arr 6 [bI d],.arr 4 [[.str (bs []),.nil,.nil,.nil]]]∧Sv 85 [(1,.str nm),(2,.sl 1 l.length 0 l.length),(3,.ptr 2 1 0 0),(6,.ptr 3 1 0 0),(9,.int .i64 k)] ρ,d.snaps.length,[],fun i ρ H1=>i=2∧H1=[d8 d,i8 l,.arr 6 [bI d],.arr 4 [[.str (bs []),.nil,.nil,.nil]]]∧Sv 85 [(1,.str nm),(2,.sl 1 l.length 0 l.length),(3,.ptr 2 1 0 0),(6,.ptr 3 1 0 0)] ρ,?_,?_,?_⟩
  ·exact⟨0,Nat.zero_add _,rfl,Sv.intro rfl ⟨rfl,rfl,rfl,rfl,rfl,trivial⟩⟩
  ·rintro m ρ H1 ⟨k,hk,rfl,dd,rfl⟩
   repeat'((conv=>whnf);first|(refine cJ.use [0] (CY d _ hd (hd.n.2 _ (by assumption))) (by simp) rfl ⟨⟨_,rfl,.same (dY d)⟩,trivial⟩ ⟨fK d rfl,.closed _ rfl,trivial⟩ (fun r hr=>?_);obtain⟨y,e,rfl,hy⟩:=hr)|refine b4 ((bS _)) ?_|refine aI ?_|refine oA ?_|refine oM fun x hx hm=>?_|((first|apply aK|apply aL|apply aM|apply aF|apply aE)<;>intro h<;>(try simp at h)))
   any_goals((conv=>whnf);first|exact YY (by exact rfl) _ (fun h=>⟨(hy h).1,(hy h).2.1.trans (ByteArray.ext (by assumption)),(hy h).2.2⟩)|(refine⟨m-1,by omega,Gp.cutN (H:=[d8 d,i8 l,.arr 6 [bI d],.arr 4 [[.str (bs []),.nil,.nil,.nil]]]) rfl ⟨rfl,rfl,trivial⟩ ⟨low _,low2 _,rfl,rfl,trivial⟩ rfl rfl ?_ fun ρ1 h=>⟨k+1,by omega,rfl,h⟩⟩;exact⟨rfl,rfl,rfl,rfl,aN (dX (by omega)),trivial⟩)|(refine Gp.cutN (H:=[d8 d,i8 l,.arr 6 [bI d],.arr 4 [[.str (bs []),.nil,.nil,.nil]]]) rfl ⟨rfl,rfl,trivial⟩ ⟨low _,low2 _,rfl,rfl,trivial⟩ rfl rfl ?_ fun ρ1 h=>⟨rfl,rfl,h⟩;exact⟨rfl,rfl,rfl,rfl,trivial⟩)|fail)
  ·rintro i ρ1 H1 ⟨rfl,rfl,dd,rfl⟩
   conv=>whnf
   refine⟨fun m ρ H1=>∃k:Nat,k+m=d.models.length∧H1=[d8 d,i8 l,.arr 6 [bI d],.arr 4 [[.str (bs []),.nil,.nil,.nil]]]∧Sv 85 [(1,.str nm),(2,.sl 1 l.length 0 l.length),(3,.ptr 2 1 0 0),(6,.ptr 3 1 0 0),(10,.int .i64 k)] ρ,d.models.length,[],fun i ρ H1=>i=4∧H1=[d8 d,i8 l,.arr 6 [bI d],.arr 4 [[.str (bs []),.nil,.nil,.nil]]]∧Sv 85 [(1,.str nm),(2,.sl 1 l.length 0 l.length),(3,.ptr 2 1 0 0),(6,.ptr 3 1 0 0)] ρ,?_,?_,?_⟩
   ·exact⟨0,Nat.zero_add _,rfl,Sv.intro rfl ⟨rfl,rfl,rfl,rfl,rfl,trivial⟩⟩
   ·rintro m ρ H1 ⟨k,hk,rfl,dd,rfl⟩
    repeat'((conv=>whnf);first|(refine cJ.use [0,1] (J3 d _ l hd (hd.q.2 _ (by assumption)) hl hl2) (by simp) rfl ⟨⟨_,rfl,.same (dY d)⟩,⟨_,rfl,.same (aV cI l)⟩,trivial⟩ ⟨fK d rfl,.closed _ rfl,.sl 1 _ _ _,trivial⟩ (fun r hr=>?_);obtain⟨y,e,rfl,hy⟩:=hr)|refine b4 (eL (aZ gR d.models).symm) ?_|refine b4 ((bS _)) ?_|refine aI ?_|refine oA ?_|refine oM fun x hx hm=>?_|((first|apply aK|apply aL|apply aM|apply aF|apply aE)<;>intro h<;>(try simp at h)))
    any_goals((conv=>whnf);first|exact YY (by exact rfl) _ (fun h=>⟨(hy h).1,(hy h).2.1.trans (ByteArray.ext (by assumption)),(hy h).2.2⟩)|(refine⟨m-1,by omega,Gp.cutN (H:=[d8 d,i8 l,.arr 6 [bI d],.arr 4 [[.str (bs []),.nil,.nil,.nil]]]) rfl ⟨rfl,rfl,trivial⟩ ⟨low _,low2 _,rfl,rfl,trivial⟩ rfl rfl ?_ fun ρ1 h=>⟨k+1,by omega,rfl,h⟩⟩;exact⟨rfl,rfl,rfl,rfl,aN (dX (by omega)),trivial⟩)|(refine Gp.cutN (H:=[d8 d,i8 l,.arr 6 [bI d],.arr 4 [[.str (bs []),.nil,.nil,.nil]]]) rfl ⟨rfl,rfl,trivial⟩ ⟨low _,low2 _,rfl,rfl,trivial⟩ rfl rfl ?_ fun ρ1 h=>⟨rfl,rfl,h⟩;exact⟨rfl,rfl,rfl,rfl,trivial⟩)|fail)
   ·rintro i ρ1 H1 ⟨rfl,rfl,dd,rfl⟩
    conv=>whnf
    exact wC (by exact rfl) _ (by decide)
end Go.AW
namespace Go.AW
variable [dK]
def AN(P:Program)(f:FuncId)(H0:List aB)(vs:List a6)(sz:Nat)(S:a6→Prop)(T:List (List a6)→a6→Prop):Prop :=
 (∃r,S r∧r.clT=true∧a7 P f vs H0 (fun r' H'=>r'=r∧H'=H0)) ∨
 (∃es v,T es v∧v.closed=true∧bG es=true∧a7 P f vs H0 (fun r' H'=>r'=.tuple [.sl H0.length es.length 0 es.length,v]∧H'=H0++[.arr sz es]))
theorem O2{σ:Nat→Nat}{H2:List aB}:∀{xs:List aB}{k:Nat},(∀(i:Nat) (x:aB),xs[i]?=some x→∃y,H2[σ (k+i)]?=some y∧eW σ x y)→JR σ H2 k xs
 |[],k,_=>trivial
 |z::xs,k,h=>⟨h 0 z rfl,O2 fun i x hx=>by
   have:=h (i+1) x (by simpa using hx)
   rwa [show k+(i+1)=k+1+i by omega]at this⟩
theorem AB{ids:List Nat}{H2:List aB}:∀{xs:List aB}{j:Nat},(∀i x,xs[i]?=some x→H2[j+i]?=some x)→P7 ids H2 j xs
 |[],j,_=>trivial
 |z::xs,j,h=>⟨.inr (h 0 z rfl),AB fun i x hx=>by
   have:=h (i+1) x (by simpa using hx)
   rwa [show j+(i+1)=j+1+i by omega]at this⟩
theorem nU{α:Type}{l:List α}{i:Nat}{x:α}(h:l[i]?=some x):i<l.length:=(List.getElem?_eq_some_iff.1 h).1
theorem AN.use{P:Program}{f:FuncId}{H H0:List aB}{vs0 vs:List a6}{sz:Nat}{S:a6→Prop}{T:List (List a6)→a6→Prop}{k:a6→List aB→Prop}(ids:List Nat)(h:AN P f H0 vs0 sz S T)(hnd:ids.Nodup)(hlen:ids.length=H0.length)
  (h0:JR (nD ids H.length) H 0 H0) (ha:mL (nD ids H.length) vs0 vs) (hk:∀r,S r→k r H) (hk2:∀es v,T es v→bG es=true→k (.tuple [.sl H.length es.length 0 es.length,v]) (H++[.arr sz es])):bH P f vs H k:=by
 rcases h with⟨r,hs,hc,h⟩|⟨es,v,ht,hv,hp,h⟩
 ·exact cJ.use (S:=fun r'=>r'=r) ids ⟨r,rfl,hc,h⟩ hnd hlen h0 ha fun r' e=>by subst e;exact hk _ hs
 ·have hg:nD ids H.length H0.length=H.length:=by rw[mZ (by omega)];omega
  refine bH.of (h.frL (H2:=H++[.arr sz es]) ids hnd hlen h0 ha (R:=.tuple [.sl H.length es.length 0 es.length,v]) ?_ (by simp;omega) (O2 fun i x hx=>?_) (AB fun i x hx=>?_)) (hk2 _ _ ht hp)
  ·refine .tuple _ _ rfl fun i a b h1 h2=>?_
   rcases i with _|_|i
   ·cases h1;cases h2
    have:=jB.sl (σ:=nD ids H.length) H0.length es.length 0 es.length
    rwa [hg]at this
   ·cases h1;cases h2;exact .closed _ hv
   ·simp at h1
  ·by_cases hi:i<H0.length
   ·rw[List.getElem?_append_left hi]at hx
    obtain⟨y,h1,h2⟩:=w9 h0 i x hx
    exact⟨y,by rw[List.getElem?_append_left (nU h1)];exact h1,h2⟩
   ·have hi2:=nU hx
    simp at hi2
    have he:i=H0.length:=by omega
    subst he
    rw[List.getElem?_append_right (by omega)]at hx
    simp at hx
    subst hx
    exact⟨.arr sz es,by rw[Nat.zero_add,hg,List.getElem?_append_right (by omega)];simp,.same hp⟩
  ·rw[Nat.zero_add,List.getElem?_append_left (nU hx)];exact hx
theorem LT{H:List aB}{ids:List Nat}:∀{is:List Nat}{r:List aB},is.length=r.length→(∀(i id:Nat) (o1:aB),is[i]?=some id→r[i]?=some o1→∃o,H[id]?=some o∧zY H ids o o1)→TT H ids is r
 |[],[],_,_=>trivial
 |id::is,o1::r,hl,h=>⟨h 0 id o1 rfl rfl,LT (by simpa using hl) fun i id o1 h1 h2=>h (i+1) id o1 (by simpa using h1) (by simpa using h2)⟩
 |[],_::_,hl,_=>by simp at hl
 |_::_,[],hl,_=>by simp at hl
def HS:List aB→Prop
 |[]=>True
 |.arr _ es::r=>bG es=true∧HS r
 |_::_=>False
theorem HS.get:∀{H:List aB},HS H→∀(i:Nat) (o:aB),H[i]?=some o→∃sz es,o=.arr sz es∧bG es=true
 |[],_,i,o,h=>by simp at h
 |.arr sz es::r,hp,i,o,h=>by
  cases i with
  |zero=>simp at h;subst h;exact⟨sz,es,rfl,hp.1⟩
  |succ i=>exact HS.get hp.2 i o (by simpa using h)
 |.iter _ _::_,hp,_,_,_=>hp.elim
 |.map _::_,hp,_,_,_=>hp.elim
 |.bmap _ _ _::_,hp,_,_,_=>hp.elim
 |.mit _ _ _::_,hp,_,_,_=>hp.elim
theorem tY{P:Program}{f:FuncId}{ob:List Nat}{af:tS}{H0:List aB}{args:List a6}{sz:Nat}{S:a6→Prop}{T:List (List a6)→a6→Prop}(hf:QG P f ob af)(hp:HS H0)
  (h:dL (args++List.replicate (af.ntmps-args.length) (.tuple [])) fun ρ=>vI P (H0.map aB.olen) af.code (fun e ρ' H'=>match e with
   |.exit _=>False
   |_=>uY ρ' H' af.res fun vs=>wL vs fun v=>∃G,H'=H0++G∧((∃r,dV H' 0 (List.range H0.length) v r∧r.clT=true∧S r) ∨
    ∃id n es w,v=.tuple [.sl id n 0 n,w]∧H0.length≤id∧H'[id]?=some (.arr sz es)∧n=es.length∧bG es=true∧w.closed=true∧T es w)) ρ H0):AN P f H0 args sz S T:=by
 obtain⟨v,H1,⟨G,rfl,hq⟩,hc'⟩:=d6 (H:=H0) (Q:=fun v H'=>∃G,H'=H0++G∧((∃r,dV H' 0 (List.range H0.length) v r∧r.clT=true∧S r) ∨
    ∃id n es w,v=.tuple [.sl id n 0 n,w]∧H0.length≤id∧H'[id]?=some (.arr sz es)∧n=es.length∧bG es=true∧w.closed=true∧T es w)) hf h
 have keep:∀(js:List Nat),BQ (H0.map aB.olen) (List.range H0.length++js) (H0++G):=fun js k m hk=>by
  rw[List.getElem?_map]at hk
  cases ho:H0[k]? with
  |none=>rw[ho]at hk;simp at hk
  |some o =>
   rw[ho]at hk;simp at hk
   have hlt:=nU ho
   exact⟨by rw[List.getElem?_append_left (by simpa using hlt)];exact List.getElem?_range hlt,o,by rw[List.getElem?_append_left hlt];exact ho,hk⟩
 have objs:∀(ids:List Nat) (i id:Nat) (o1:aB),(List.range H0.length)[i]?=some id→H0[i]?=some o1→∃o,(H0++G)[id]?=some o∧zY (H0++G) ids o o1:=fun ids i id o1 h1 h2=>by
  have hlt:=nU h2
  rw[List.getElem?_range hlt]at h1;cases h1
  obtain⟨sz,es,rfl,hpe⟩:=hp.get i o1 h2
  exact⟨_,by rw[List.getElem?_append_left hlt];exact h2,.same _ _ hpe⟩
 rcases hq with⟨r,hpb,hc,hs⟩|⟨id,n,es,w,rfl,hid,ho,rfl,hpe,hw,ht⟩
 ·refine .inl ⟨r,hs,hc,a7.gpI hc' (List.range H0.length) List.nodup_range (by simpa using keep []) (LT (by simp) (objs _)) hpb⟩
 ·refine .inr ⟨es,w,ht,hw,hpe,a7.gpI hc' (List.range H0.length++[id]) ?_ (keep _) (LT (by simp) fun i j o1 h1 h2=>?_) ?_⟩
  ·rw[List.nodup_append]
   refine⟨List.nodup_range,by simp,fun a ha b hb=>?_⟩
   simp at ha hb;omega
  ·by_cases hi:i<H0.length
   ·rw[List.getElem?_append_left (by simpa using hi)]at h1
    rw[List.getElem?_append_left hi]at h2
    exact objs _ i j o1 h1 h2
   ·have hi2:=nU h2
    simp at hi2
    have he:i=H0.length:=by omega
    subst he
    rw[List.getElem?_append_right (by simp)]at h1
    rw[List.getElem?_append_right (by omega)]at h2
    simp at h1 h2
    subst h1 h2
    exact⟨_,ho,.same _ _ hpe⟩
  ·refine .tuple _ _ rfl fun i a b h1 h2=>?_
   rcases i with _|_|i
   ·cases h1;cases h2
    have:=dV.keep (H1:=H0++G) (n:=0) (ids:=List.range H0.length++[id]) id es.length 0 es.length H0.length (by rw[List.getElem?_append_right (by simp)];simp)
    rwa [Nat.zero_add]at this
   ·cases h1;cases h2;exact .closed _ hw
   ·simp at h1
def j5(P:Program)(f:FuncId)(vs:List a6)(sz:Nat)(S:List (List a6)→Prop):Prop :=
 ∃es,S es∧bG es=true∧a7 P f vs [] (fun r H'=>r=.sl 0 es.length 0 es.length∧H'=[.arr sz es])
theorem j5.own{P:Program}{f:FuncId}{vs:List a6}{sz:Nat}{S:List (List a6)→Prop}{H:List aB}{k:a6→List aB→Prop}(h:j5 P f vs sz S)(ha:vs.all a6.closed=true)(hk:∀es,S es→bG es=true→k (.sl H.length es.length 0 es.length) (H++[.arr sz es])):bH P f vs H k:=by
 obtain⟨es,hs,hp,h⟩:=h
 exact bH.of (a7.own1 ha h hp) (hk es hs hp)
theorem j5.frz{P:Program}{f:FuncId}{vs:List a6}{sz:Nat}{S:List (List a6)→Prop}(h:j5 P f vs sz S)(ha:vs.all a6.closed=true):aC P f vs (fun r=>∃es,r=.list false sz es∧S es):=by
 obtain⟨es,hs,hp,h⟩:=h
 exact⟨_,⟨es,rfl,hs⟩,fun H=>a7.frz1 ha h rfl hp⟩
theorem fA{P:Program}{f:FuncId}{ob:List Nat}{af:tS}{args:List a6}{sz:Nat}{S:List (List a6)→Prop}(hf:QG P f ob af)
  (h:dL (args++List.replicate (af.ntmps-args.length) (.tuple [])) fun ρ=>vI P [] af.code (fun e ρ' H'=>match e with
   |.exit _=>False
   |_=>uY ρ' H' af.res fun vs=>wL vs fun v=>∃id n es,v=.sl id n 0 n∧H'[id]?=some (.arr sz es)∧n=es.length∧bG es=true∧S es) ρ []):j5 P f args sz S:=by
 obtain⟨v,H1,⟨id,n,es,rfl,ho,rfl,hp,hs⟩,hc⟩:=d6 (H:=[]) (Q:=fun v H'=>∃id n es,v=.sl id n 0 n∧H'[id]?=some (.arr sz es)∧n=es.length∧bG es=true∧S es) hf h
 refine⟨es,hs,hp,a7.gpI hc [id] (by simp) (fun k m hk=>by simp at hk) ⟨⟨_,ho,.same _ _ hp⟩,trivial⟩ ?_⟩
 have:=dV.keep (H1:=H1) (n:=0) (ids:=[id]) id es.length 0 es.length 0 rfl
 rwa [Nat.zero_add]at this
inductive HR(id:Nat):a6→a6→Prop where
 |refl (v:a6):HR id v v
 |nil:HR id .nil (.sl id 0 0 0)
 |agg (cs ds:List a6) (hl:cs.length=ds.length) (h:∀(i:Nat) (c d:a6),cs[i]?=some c→ds[i]?=some d→HR id c d):HR id (.agg cs) (.agg ds)
def HQ(id:Nat):List a6→List a6→Prop
 |[],[]=>True
 |a::as',b::bs'=>HR id a b∧HQ id as' bs'
 |_,_=>False
theorem HQ.get{id:Nat}:∀{xs ys:List a6},HQ id xs ys→xs.length=ys.length∧∀(i:Nat) (a b:a6),xs[i]?=some a→ys[i]?=some b→HR id a b
 |[],[],_=>⟨rfl,fun i a b h=>by simp at h⟩
 |a::xs,b::ys,h=>⟨by simp[(HQ.get h.2).1],fun i x y h1 h2=>by
   cases i with
   |zero=>simp at h1 h2;subst h1 h2;exact h.1
   |succ i=>exact(HQ.get h.2).2 i x y (by simpa using h1) (by simpa using h2)⟩
 |[],_::_,h=>h.elim
 |_::_,[],h=>h.elim
theorem HR.rel{C:Nat→Nat}{w:World}{τ:Nat→Option Loc}{H:List aB}{id sz:Nat}(ho:H[id]?=some (.arr sz []))(ht:τ id=none):∀{a b:a6},HR id a b→∀{v:Value},bW C w τ H a v→bW C w τ H b v:=by
 intro a b h
 induction h with
 |refl v=>intro u hu;exact hu
 |nil =>
  intro u hu
  cases hu with
  |rd h=>cases h;exact .sl _ _ _ _ _ _ sz [] ho (Nat.le_refl _) fun _=>⟨Nat.le_refl _,Nat.le_refl _,.inl ⟨ht,rfl⟩⟩
 |agg cs ds hl h ih =>
  intro u hu
  obtain⟨us,rfl,hl2,hr2⟩:=hu.agg_inv
  refine .agg _ _ (by omega) fun i d v hd hv=>?_
  have hlt:=(List.getElem?_eq_some_iff.1 hd).1
  exact ih i _ d (List.getElem?_eq_getElem (by omega)) hd (hr2 i _ v (List.getElem?_eq_getElem (by omega)) hv)
theorem a7.virt{P:Program}{f:FuncId}{xs ys:List a6}{H:List aB}{Q:a6→List aB→Prop}(sz:Nat)(hn:HQ H.length xs ys)(h:a7 P f ys (H++[.arr sz []]) Q):a7 P f xs H Q:=by
 intro C τ w vs hw hlen hr
 obtain⟨st,s1⟩:=(St.start hw).virt sz
 have hh:=h C (lB τ H.length none) w vs st.wf (by rw[←hn.get.1];exact hlen) fun i b v hb hv=>by
  have hlt:=(List.getElem?_eq_some_iff.1 hb).1
  have he:=hn.get.1
  exact(hn.get.2 i _ b (List.getElem?_eq_getElem (by omega)) hb).rel (sz:=sz) (by simp) (bZ _ _ _) ((hr i _ v (List.getElem?_eq_getElem (by omega)) hv).mono s1)
 unfold eS at hh ⊢
 split at hh
 ·exact Calls.mono hh fun e w' ⟨v,r,C',τ',H',h1,h2,h3,h4,h5⟩=>⟨v,r,C',τ',H',h1,h2,h3,st.after h4,s1.trans h5⟩
 ·obtain⟨v,r,C',τ',H',h1,h2,h3,h4,h5⟩:=hh
  exact⟨v,r,C',τ',H',h1,h2,h3,st.after h4,s1.trans h5⟩
 ·exact hh
theorem cJ.useN{P:Program}{f:FuncId}{H H0:List aB}{vs0 ws vs:List a6}{S:a6→Prop}{k:a6→List aB→Prop}(sz:Nat)(ids:List Nat)(h:cJ P f H0 vs0 S)(hn:HQ H.length vs ws)(hnd:ids.Nodup)(hlen:ids.length=H0.length)
  (h0:JR (nD ids (H.length+1)) (H++[.arr sz []]) 0 H0) (ha:mL (nD ids (H.length+1)) vs0 ws) (hk:∀r,S r→k r (H++[.arr sz []])):bH P f vs H k:=by
 have hu:bH P f ws (H++[.arr sz []]) k:=cJ.use ids h hnd hlen (by simpa using h0) (by simpa using ha) hk
 obtain⟨r,H1,h1,h2⟩:=hu
 exact⟨r,H1,h1,h2.virt sz hn⟩
attribute [local irreducible] a7 bH oL Gp
def rD:List (List a6)→List (List a6)→Prop
 |[],[]=>True
 |e::es,f::fs=>(e.length=f.length∧f.all a6.isCell=true∧oP e f)∧rD es fs
 |_,_=>False
theorem rD.get:∀{es fs:List (List a6)},rD es fs→es.length=fs.length∧∀(i:Nat) (e f:List a6),es[i]?=some e→fs[i]?=some f→e.length=f.length∧f.all a6.isCell=true∧oP e f
 |[],[],_=>⟨rfl,fun i e f h=>by simp at h⟩
 |e::es,f::fs,h=>⟨by simp[(rD.get h.2).1],fun i a b h1 h2=>by
   cases i with
   |zero=>simp at h1 h2;subst h1 h2;exact h.1
   |succ i=>exact(rD.get h.2).2 i a b (by simpa using h1) (by simpa using h2)⟩
 |[],_::_,h=>h.elim
 |_::_,[],h=>h.elim
theorem gG.rows{x:Bool}{sz:Nat}{es fs:List (List a6)}(h:rD es fs):gG (.list x sz es) (.list false sz fs):=by
 have hg:=h.get
 have hex:∀{i:Nat}{f:List a6},fs[i]?=some f→∃e,es[i]?=some e:=fun{i f} hf=>⟨_,List.getElem?_eq_getElem (by have:=(List.getElem?_eq_some_iff.1 hf).1;omega)⟩
 refine .list x false sz es fs (fun h=>by cases h) hg.1 (fun i e f he hf=>(hg.2 i e f he hf).1) (fun i j f c hf hc=>?_) (fun i j e f d c he hf hd hc=>(hg.2 i e f he hf).2.2.2 j d c hd hc)
 obtain⟨e,he⟩:=hex hf
 exact List.all_eq_true.1 (hg.2 i e f he hf).2.1 c (List.mem_of_getElem? hc)
theorem aC.wk{P:Program}{f:FuncId}{vs:List a6}{R:a6}{S:a6→Prop}(h:aC P f vs (fun r=>gG r R))(hs:S R):aC P f vs S:=h.weak fun r hr=>⟨R,hr,hs⟩
def Q6:List HU:=[⟨bs [122,48],60,[]⟩,⟨bs [122,49],-300,[⟨145000,-240⟩,⟨147000,-300⟩]⟩,⟨bs [122,50],120,[⟨145450,0⟩]⟩]
theorem AK:Fl DS Q6:=⟨by decide,fun x hx=>by
 simp only[Q6,List.mem_cons,List.not_mem_nil,or_false]at hx
 rcases hx with rfl|rfl|rfl<;>exact⟨(by decide:(2:Nat)≤100000),by decide⟩⟩
theorem tI:aC pr 89 [] (fun r=>r=XV Q6):=by
 refine aC.wk (R:=XV Q6) ?_ rfl
 refine aH k89.has rfl ?_
 conv=>whnf
 exact⟨_,.closed _ rfl,gG.rows (by exact⟨⟨rfl,rfl,.cons (.refl _) (.cons (.refl _) (.cons (.nil _ _) .nil))⟩,⟨rfl,rfl,.cons (.refl _) (.cons (.refl _) (.cons (.lst rfl rfl) .nil))⟩,⟨rfl,rfl,.cons (.refl _) (.cons (.refl _) (.cons (.lst rfl rfl) .nil))⟩,trivial⟩)⟩
def U5:List c8:=[⟨bs [105,100],2,false⟩,⟨bs [99],3,false⟩,⟨bs [97,116],4,false⟩,⟨bs [118],2,true⟩]
def VP:List c8:=[⟨bs [99],3,false⟩,⟨bs [97,116],4,false⟩,⟨bs [114],3,true⟩,⟨bs [107],2,false⟩]
def JP:List jL:=[⟨bs [111,114,100,101,114,115],true,U5,none⟩,⟨bs [99,117,115,116,111,109,101,114,115],true,VP,none⟩,⟨bs [114,101,116,117,114,110,115],true,U5,none⟩]
theorem u6:j5 pr 91 [] 4 (fun es=>es=mC bR JP):=by
 refine fA k91.has ?_
 conv=>whnf
 exact⟨_,_,_,rfl,rfl,rfl,rfl,rfl⟩
theorem NO(k:Nat)(l:List Int):List.drop k (iC l)=iC (l.drop k):=by rw[iC,iC,List.map_drop]
theorem T1(x:Bool)(l:List Int)(n:Nat)(hl:l.length≤1000000)(hn:n≤1000000):aC pr 93 [.list x 1 (iC l),.int .i64 n] (fun r=>∃(y:Bool) (l':List Int),r=.list y 1 (iC l')∧l'.length≤l.length):=by
 refine aH k93.has rfl ?_
 conv=>whnf
 refine And.intro (by rw[cA];constructor<;>split<;>omega) ?_
 conv=>whnf
 exact⟨_,.closed _ rfl,_,l.drop (if(n:Int)<((iC l).length:Nat)then(n:Int)else((iC l).length:Nat)).toNat,by rw[List.take_length,NO],by simp⟩
theorem G4{n:Int}{m:Nat}(h0:0≤n)(h1:1≤m):0≤n.tmod m∧n.tmod m<m:=⟨Int.tmod_nonneg _ h0,Int.tmod_lt_of_pos _ (by omega)⟩
theorem p6(x:Bool)(cs:List c8)(h1:1≤cs.length)(hc:cs.length≤100000)(hn:∀c∈cs,bM c.name)(n:Int)(h0:0≤n):aC pr 147 [.list x 3 (cC cs),.int .i64 n] (fun r=>∃s,r=.str s∧bM s):=by
 refine aH k147.has rfl ?_
 have hb:=G4 (m:=(cC cs).length) h0 (by simpa using h1)
 have hcl:=aX cs
 repeat'((conv=>whnf);first|refine And.intro (by omega) ?_|refine aI ?_|refine oA ?_|refine oM fun x hx hm=>?_|((first|apply aK|apply aL|apply aM|apply aF|apply aE)<;>intro h<;>(try simp at h)<;>(try(exfalso;omega))))
 any_goals((conv=>whnf);first|exact⟨_,.closed _ rfl,_,rfl,hn _ (by assumption)⟩)
theorem RE{H H0 G:List aB}{ids:List Nat}(hH:H=H0++G)(b:Bool):∃r G,H=H0++G∧dV H 0 ids (.bool b) r∧r.clT=true∧DV r:=⟨_,_,hH,.closed _ rfl,rfl,b,rfl⟩
theorem DG{H H0 G:List aB}{ids:List Nat}(hH:H=H0++G)(c:Int):∃r G,H=H0++G∧dV H 0 ids (.int .i64 c) r∧r.clT=true∧KT r:=⟨_,_,hH,.closed _ rfl,rfl,c,rfl⟩
theorem pN(x:Bool)(e:List oN)(he:e.length≤100000):aC pr 139 [.list x 6 (mC fZ e)] DV:=by
 refine aH k139.has rfl ?_
 conv=>whnf
 refine⟨fun m ρ H1=>∃k:Nat,k+m=(e).length∧H1=[]∧Sv 16 [(0,.list x 6 (mC fZ e)),(3,.int .i64 k)] ρ,(e).length,[],fun i ρ H1=>i=0∧H1=[]∧Sv 16 [(0,.list x 6 (mC fZ e))] ρ,?_,?_,?_⟩
 ·exact⟨0,Nat.zero_add _,rfl,Sv.intro rfl ⟨rfl,rfl,trivial⟩⟩
 ·rintro m ρ H1 ⟨k,hk,rfl,d,rfl⟩
  repeat'((conv=>whnf);first|refine aI ?_|refine oA ?_|refine oM fun x hx hm=>?_|((first|apply aK|apply aL|apply aM|apply aF|apply aE)<;>intro h<;>(try simp at h)))
  any_goals((conv=>whnf);first|exact FX _|(refine⟨m-1,by omega,Gp.cut (H:=[]) rfl trivial rfl rfl ?_ fun ρ1 h=>⟨k+1,by omega,rfl,h⟩⟩;exact⟨rfl,aN (dX (by omega)),trivial⟩)|(refine Gp.cut (H:=[]) rfl trivial rfl rfl ?_ fun ρ1 h=>⟨rfl,rfl,h⟩;exact⟨rfl,trivial⟩))
 ·rintro i ρ1 H1 ⟨rfl,rfl,d,rfl⟩
  conv=>whnf
  exact FX _
set_option maxRecDepth 20000 in
set_option maxHeartbeats 4000000 in
theorem M9(d:qZ)(hd:d.F):cJ pr 85 [d8 d] [.agg (bI d)] DV:=by
 have low:=gW d
 have hql:=hd.q.1
 have hcl:=hd.c.1
 refine bQ k85.has ⟨low _,trivial⟩ ?_
 repeat'((conv=>whnf);first|refine aI ?_|refine oA ?_|refine oM fun x hx hm=>?_|((first|apply aK|apply aL|apply aM|apply aF|apply aE)<;>intro h<;>(try simp at h)<;>(try(exfalso;omega))))
 any_goals((conv=>whnf);first|exact RE (by exact rfl) _)
 conv=>whnf
 refine⟨fun m ρ H1=>∃k:Nat,k+m=d.models.length∧H1=[d8 d,.arr 6 [bI d]]∧Sv 71 [(1,.ptr 1 1 0 0),(3,.int .i64 k)] ρ,d.models.length,[],fun i ρ H1=>i=0∧H1=[d8 d,.arr 6 [bI d]]∧Sv 71 [(1,.ptr 1 1 0 0)] ρ,?_,?_,?_⟩
 ·exact⟨0,Nat.zero_add _,rfl,Sv.intro rfl ⟨rfl,rfl,trivial⟩⟩
 ·rintro m ρ H1 ⟨k,hk,rfl,dd,rfl⟩
  repeat'((conv=>whnf);first|refine b4 (eL (aZ gR d.models).symm) ?_|refine aI ?_|refine oA ?_|refine oM fun x hx hm=>?_|((first|apply aK|apply aL|apply aM|apply aF|apply aE)<;>intro h<;>(try simp at h)<;>(try(exfalso;omega))))
  any_goals((conv=>whnf);first|(refine Gp.cutN (H:=[d8 d,.arr 6 [bI d]]) rfl ⟨rfl,trivial⟩ ⟨low _,rfl,trivial⟩ rfl rfl ?_ fun ρ1 h=>⟨rfl,rfl,h⟩;exact⟨rfl,trivial⟩))
  rename vE=>z
  have hxq:=(hd.q.2 z (by assumption)).2.2.1
  have hxl:=hxq.1
  conv=>whnf
  refine⟨fun m ρ H1=>∃j:Nat,j+m=z.query.length∧H1=[d8 d,.arr 6 [bI d]]∧Sv 71 [(1,.ptr 1 1 0 0),(3,.int .i64 k),(4,PC z.query),(5,.int .i64 j)] ρ,z.query.length,[],fun i ρ H1=>i=2∧H1=[d8 d,.arr 6 [bI d]]∧Sv 71 [(1,.ptr 1 1 0 0),(3,.int .i64 k)] ρ,?_,?_,?_⟩
  ·exact⟨0,Nat.zero_add _,rfl,Sv.intro rfl ⟨rfl,rfl,rfl,rfl,trivial⟩⟩
  ·rintro m1 ρ H1 ⟨j,hj,rfl,dd,rfl⟩
   repeat'((conv=>whnf);first|((first|apply aC.use|apply aC.draw);exact pN false _ (hxq.2 _ (by assumption)).2.2.2.2.1;rintro r ⟨b,rfl⟩)|refine aI ?_|refine oA ?_|refine oM fun x hx hm=>?_|((first|apply aK|apply aL|apply aM|apply aF|apply aE)<;>intro h<;>(try simp at h)<;>(try(exfalso;omega))))
   any_goals((conv=>whnf);first|exact RE (by exact rfl) _|(refine Gp.cutN (H:=[d8 d,.arr 6 [bI d]]) rfl ⟨rfl,trivial⟩ ⟨low _,rfl,trivial⟩ rfl rfl ?_ fun ρ1 h=>⟨rfl,rfl,h⟩;exact⟨rfl,rfl,trivial⟩))
   rename rC=>y
   have hyi:=(hxq.2 y (by assumption)).2.2.2.1
   have hyl:=hyi.1
   conv=>whnf
   refine⟨fun m ρ H1=>∃i2:Nat,i2+m=y.items.length∧H1=[d8 d,.arr 6 [bI d]]∧Sv 71 [(1,.ptr 1 1 0 0),(3,.int .i64 k),(4,PC z.query),(5,.int .i64 j),(6,.int .i64 i2)] ρ,y.items.length,[],fun i ρ H1=>i=4∧H1=[d8 d,.arr 6 [bI d]]∧Sv 71 [(1,.ptr 1 1 0 0),(3,.int .i64 k),(4,PC z.query),(5,.int .i64 j)] ρ,?_,?_,?_⟩
   ·exact⟨0,Nat.zero_add _,rfl,Sv.intro rfl ⟨rfl,rfl,rfl,rfl,rfl,trivial⟩⟩
   ·rintro m2 ρ H1 ⟨i2,hi2,rfl,dd,rfl⟩
    repeat'((conv=>whnf);first|((first|apply aC.use|apply aC.draw);exact pN false _ (hyi.2 _ (by assumption)).2.2.1;rintro r ⟨b,rfl⟩)|refine aI ?_|refine oA ?_|refine oM fun x hx hm=>?_|((first|apply aK|apply aL|apply aM|apply aF|apply aE)<;>intro h<;>(try simp at h)<;>(try(exfalso;omega))))
    any_goals((conv=>whnf);first|exact RE (by exact rfl) _|(refine⟨m2-1,by omega,Gp.cutN (H:=[d8 d,.arr 6 [bI d]]) rfl ⟨rfl,trivial⟩ ⟨low _,rfl,trivial⟩ rfl rfl ?_ fun ρ1 h=>⟨i2+1,by omega,rfl,h⟩⟩;exact⟨rfl,rfl,rfl,rfl,aN (dX (by omega)),trivial⟩)|(refine Gp.cutN (H:=[d8 d,.arr 6 [bI d]]) rfl ⟨rfl,trivial⟩ ⟨low _,rfl,trivial⟩ rfl rfl ?_ fun ρ1 h=>⟨rfl,rfl,h⟩;exact⟨rfl,rfl,rfl,rfl,trivial⟩))
   ·rintro i ρ1 H1 ⟨rfl,rfl,dd,rfl⟩
    conv=>whnf
    refine⟨m1-1,by omega,Gp.cutN (H:=[d8 d,.arr 6 [bI d]]) rfl ⟨rfl,trivial⟩ ⟨low _,rfl,trivial⟩ rfl rfl ?_ fun ρ1 h=>⟨j+1,by omega,rfl,h⟩⟩
    exact⟨rfl,rfl,rfl,aN (dX (by omega)),trivial⟩
  ·rintro i ρ1 H1 ⟨rfl,rfl,dd,rfl⟩
   conv=>whnf
   refine⟨m-1,by omega,Gp.cutN (H:=[d8 d,.arr 6 [bI d]]) rfl ⟨rfl,trivial⟩ ⟨low _,rfl,trivial⟩ rfl rfl ?_ fun ρ1 h=>⟨k+1,by omega,rfl,h⟩⟩
   exact⟨rfl,aN (dX (by omega)),trivial⟩
 ·rintro i ρ1 H1 ⟨rfl,rfl,dd,rfl⟩
  conv=>whnf
  refine⟨fun m ρ H1=>∃k:Nat,k+m=d.checks.length∧H1=[d8 d,.arr 6 [bI d]]∧Sv 71 [(1,.ptr 1 1 0 0),(7,.int .i64 k)] ρ,d.checks.length,[],fun i ρ H1=>i=6∧H1=[d8 d,.arr 6 [bI d]]∧Sv 71 [(1,.ptr 1 1 0 0)] ρ,?_,?_,?_⟩
  ·exact⟨0,Nat.zero_add _,rfl,Sv.intro rfl ⟨rfl,rfl,trivial⟩⟩
  ·rintro m ρ H1 ⟨k,hk,rfl,dd,rfl⟩
   repeat'((conv=>whnf);first|((first|apply aC.use|apply aC.draw);exact pN false _ (hd.c.2 _ (by assumption)).2.2.2.2.2.1;rintro r ⟨b,rfl⟩)|refine aI ?_|refine oA ?_|refine oM fun x hx hm=>?_|((first|apply aK|apply aL|apply aM|apply aF|apply aE)<;>intro h<;>(try simp at h)<;>(try(exfalso;omega))))
   any_goals((conv=>whnf);first|exact RE (by exact rfl) _|(refine⟨m-1,by omega,Gp.cutN (H:=[d8 d,.arr 6 [bI d]]) rfl ⟨rfl,trivial⟩ ⟨low _,rfl,trivial⟩ rfl rfl ?_ fun ρ1 h=>⟨k+1,by omega,rfl,h⟩⟩;exact⟨rfl,aN (dX (by omega)),trivial⟩)|(refine Gp.cutN (H:=[d8 d,.arr 6 [bI d]]) rfl ⟨rfl,trivial⟩ ⟨low _,rfl,trivial⟩ rfl rfl ?_ fun ρ1 h=>⟨rfl,rfl,h⟩;exact⟨rfl,trivial⟩))
  ·rintro i ρ1 H1 ⟨rfl,rfl,dd,rfl⟩
   conv=>whnf
   exact RE (by exact rfl) _
def Ck(c:zD):Prop:=(c.kind=2→1≤c.cols.length)∧(c.kind=6→1≤c.cols.length∧1≤c.ocols.length)∧(c.kind=3→c.cols.length=c.ocols.length)
theorem sJ{α:Type}{p:α→Prop}{l:List α}{k:Nat}{y:α}(h:∀s∈l.take k,p s)(hy:l[((k:Int)).toNat]?=some y)(hv:p y):∀s∈l.take (k+1),p s:=fun s hs=>by
 rw[Int.toNat_natCast]at hy
 rw[lA hy]at hs
 rcases List.mem_append.1 hs with h1|h1
 ·exact h s h1
 ·simp at h1;subst h1;exact hv
set_option maxRecDepth 20000 in
set_option maxHeartbeats 4000000 in
theorem I4(d:qZ)(c:zD)(l:List jL)(hd:d.F)(hc:FJ c)(hck:Ck c)(hl:Fl nF l):
  cJ pr 87 [d8 d,i8 l] [.agg (bI d),.agg (eM c),.sl 1 l.length 0 l.length] KT:=by
 have low:=gW d
 have low2:=bP l
 obtain⟨_,_,hcl,_,hol,hcd⟩:=hc
 have hcl1:=hcl.1
 have hol1:=hol.1
 obtain⟨ck2,ck6,ck3⟩:=hck
 refine bQ k87.has ⟨low _,low2 _,trivial⟩ ?_
 repeat'((conv=>whnf);first|refine aI ?_|refine oA ?_|refine oM fun x hx hm=>?_|((first|apply aK|apply aL|apply aM|apply aF|apply aE)<;>intro h<;>(try simp at h)))
 (conv=>whnf);refine cJ.use [1] (pS l hl.1 _) (by simp) rfl ⟨⟨_,rfl,.same (aV cI l)⟩,trivial⟩ ⟨.sl 0 _ _ _,.closed _ rfl,trivial⟩ (fun r hr=>?_)
 obtain⟨tx,b,rfl,hf1,hf2⟩:=hr
 repeat'((conv=>whnf);first|refine b4 ((bS _)) ?_|refine aI ?_|refine oA ?_|refine oM fun x hx hm=>?_|((first|apply aK|apply aL|apply aM|apply aF|apply aE)<;>intro h<;>(try simp at h)))
 (conv=>whnf);refine cJ.use [1] (pS l hl.1 _) (by simp) rfl ⟨⟨_,rfl,.same (aV cI l)⟩,trivial⟩ ⟨.sl 0 _ _ _,.closed _ rfl,trivial⟩ (fun r hr=>?_)
 obtain⟨ty,b2,rfl,hg1,hg2⟩:=hr
 repeat'((conv=>whnf);first|refine b4 ((bS _)) ?_|refine aI ?_|refine oA ?_|refine oM fun x hx hm=>?_|((first|apply aK|apply aL|apply aM|apply aF|apply aE)<;>intro h<;>(try simp at h)))
 have hxl:=A2 hl hf1 hf2
 have hyl:=A2 hl hg1 hg2
 conv=>whnf
 refine⟨fun m ρ H1=>∃k:Nat,k+m=c.cols.length∧H1=[d8 d,i8 l,.arr 6 [bI d],.arr 14 [eM c],.arr 4 [bR tx],.arr 4 [bR ty]]∧(∀s∈c.cols.take k,0≤eA tx.cols s)∧Sv 153 [(3,.ptr 2 1 0 0),(4,.ptr 3 1 0 0),(7,.ptr 4 1 0 0),(9,.ptr 5 1 0 0),(11,.int .i64 k)] ρ,c.cols.length,[],fun i ρ H1=>i=0∧H1=[d8 d,i8 l,.arr 6 [bI d],.arr 14 [eM c],.arr 4 [bR tx],.arr 4 [bR ty]]∧(∀s∈c.cols,0≤eA tx.cols s)∧Sv 153 [(3,.ptr 2 1 0 0),(4,.ptr 3 1 0 0),(7,.ptr 4 1 0 0),(9,.ptr 5 1 0 0)] ρ,?_,?_,?_⟩
 ·exact⟨0,Nat.zero_add _,rfl,fun s h=>by simp at h,Sv.intro rfl ⟨rfl,rfl,rfl,rfl,rfl,trivial⟩⟩
 ·rintro m ρ H1 ⟨k,hk,rfl,hv,dd,rfl⟩
  repeat'((conv=>whnf);first|((first|apply aC.use|apply aC.draw);exact aC.of (bB tx.ec tx.cols (by omega) _);rintro r rfl)|refine aI ?_|refine oA ?_|refine oM fun x hx hm=>?_|((first|apply aK|apply aL|apply aM|apply aF|apply aE)<;>intro h<;>(try simp at h)))
  any_goals((conv=>whnf);first|exact DG (by exact rfl) _|(refine⟨m-1,by omega,Gp.cutN (H:=[d8 d,i8 l,.arr 6 [bI d],.arr 14 [eM c],.arr 4 [bR tx],.arr 4 [bR ty]]) rfl ⟨rfl,rfl,trivial⟩ ⟨low _,low2 _,rfl,rfl,bP [tx] _,bP [ty] _,trivial⟩ rfl rfl ?_ fun ρ1 h=>⟨k+1,by omega,rfl,sJ hv (by assumption) (by assumption),h⟩⟩;exact⟨rfl,rfl,rfl,rfl,aN (dX (by omega)),trivial⟩)|(refine Gp.cutN (H:=[d8 d,i8 l,.arr 6 [bI d],.arr 14 [eM c],.arr 4 [bR tx],.arr 4 [bR ty]]) rfl ⟨rfl,rfl,trivial⟩ ⟨low _,low2 _,rfl,rfl,bP [tx] _,bP [ty] _,trivial⟩ rfl rfl ?_ fun ρ1 h=>⟨rfl,rfl,by rwa [List.take_of_length_le (by omega)]at hv,h⟩;exact⟨rfl,rfl,rfl,rfl,trivial⟩))
 ·rintro i ρ1 H1 ⟨rfl,rfl,hx0,dd,rfl⟩
  conv=>whnf
  refine⟨fun m ρ H1=>∃k:Nat,k+m=c.ocols.length∧H1=[d8 d,i8 l,.arr 6 [bI d],.arr 14 [eM c],.arr 4 [bR tx],.arr 4 [bR ty]]∧(∀s∈c.ocols.take k,0≤eA ty.cols s)∧Sv 153 [(3,.ptr 2 1 0 0),(4,.ptr 3 1 0 0),(7,.ptr 4 1 0 0),(9,.ptr 5 1 0 0),(12,.int .i64 k)] ρ,c.ocols.length,[],fun i ρ H1=>i=2∧H1=[d8 d,i8 l,.arr 6 [bI d],.arr 14 [eM c],.arr 4 [bR tx],.arr 4 [bR ty]]∧(∀s∈c.ocols,0≤eA ty.cols s)∧Sv 153 [(3,.ptr 2 1 0 0),(4,.ptr 3 1 0 0),(7,.ptr 4 1 0 0),(9,.ptr 5 1 0 0)] ρ,?_,?_,?_⟩
  ·exact⟨0,Nat.zero_add _,rfl,fun s h=>by simp at h,Sv.intro rfl ⟨rfl,rfl,rfl,rfl,rfl,trivial⟩⟩
  ·rintro m ρ H1 ⟨k,hk,rfl,hv,dd,rfl⟩
   repeat'((conv=>whnf);first|((first|apply aC.use|apply aC.draw);exact aC.of (bB ty.ec ty.cols (by omega) _);rintro r rfl)|refine aI ?_|refine oA ?_|refine oM fun x hx hm=>?_|((first|apply aK|apply aL|apply aM|apply aF|apply aE)<;>intro h<;>(try simp at h)))
   any_goals((conv=>whnf);first|exact DG (by exact rfl) _|(refine⟨m-1,by omega,Gp.cutN (H:=[d8 d,i8 l,.arr 6 [bI d],.arr 14 [eM c],.arr 4 [bR tx],.arr 4 [bR ty]]) rfl ⟨rfl,rfl,trivial⟩ ⟨low _,low2 _,rfl,rfl,bP [tx] _,bP [ty] _,trivial⟩ rfl rfl ?_ fun ρ1 h=>⟨k+1,by omega,rfl,sJ hv (by assumption) (by assumption),h⟩⟩;exact⟨rfl,rfl,rfl,rfl,aN (dX (by omega)),trivial⟩)|(refine Gp.cutN (H:=[d8 d,i8 l,.arr 6 [bI d],.arr 14 [eM c],.arr 4 [bR tx],.arr 4 [bR ty]]) rfl ⟨rfl,rfl,trivial⟩ ⟨low _,low2 _,rfl,rfl,bP [tx] _,bP [ty] _,trivial⟩ rfl rfl ?_ fun ρ1 h=>⟨rfl,rfl,by rwa [List.take_of_length_le (by omega)]at hv,h⟩;exact⟨rfl,rfl,rfl,rfl,trivial⟩))
  ·rintro i ρ1 H1 ⟨rfl,rfl,hy0,dd,rfl⟩
   (conv=>whnf);refine aL (fun h=>?_) (fun h=>?_)
   ·repeat'((conv=>whnf);first|((first|apply aC.use|apply aC.draw);exact aC.of (bB tx.ec tx.cols (by omega) _);rintro r rfl)|((first|apply aC.use|apply aC.draw);exact aC.of (bB ty.ec ty.cols (by omega) _);rintro r rfl)|refine And.intro (hx0 _ (by assumption)) ?_|refine And.intro (hy0 _ (by assumption)) ?_|refine iQ (dB tx.cols _ (hx0 _ (by assumption))) (fun u hu hmu=>?_)|refine iQ (dB ty.cols _ (hy0 _ (by assumption))) (fun u hu hmu=>?_)|((first|apply aC.use|apply aC.draw);exact jG false tx.ec false c.cond tx.cols d.zones hcd hxl hd.z;rintro r ⟨c3,rfl⟩)|refine aI ?_|refine oA ?_|refine oM fun x hx hm=>?_|((first|apply aK|apply aL|apply aM|apply aF|apply aE)<;>intro h<;>(try simp at h)<;>(try(exfalso;omega))))
    any_goals((conv=>whnf);first|exact DG (by exact rfl) _)
   ·(conv=>whnf);refine aL (fun h=>?_) (fun h=>?_)
    ·have ck6:=ck6 h
     obtain⟨s0,hs0,hm0⟩:∃s0,(sC c.cols)[Int.toNat 0]?=some [.str s0]∧s0∈c.cols:=⟨c.cols[0],mI (List.getElem?_eq_getElem (show 0<c.cols.length from ck6.1)),List.getElem_mem _⟩
     obtain⟨s1,hs1,hm1⟩:∃s1,(sC c.ocols)[Int.toNat 0]?=some [.str s1]∧s1∈c.ocols:=⟨c.ocols[0],mI (List.getElem?_eq_getElem (show 0<c.ocols.length from ck6.2)),List.getElem_mem _⟩
     obtain⟨u0,hu0⟩:∃u0,(cC tx.cols)[(eA tx.cols s0).toNat]?=some (gJ u0):=⟨_,iI (List.getElem?_eq_getElem (dB tx.cols _ (hx0 _ hm0)))⟩
     obtain⟨u1,hu1⟩:∃u1,(cC ty.cols)[(eA ty.cols s1).toNat]?=some (gJ u1):=⟨_,iI (List.getElem?_eq_getElem (dB ty.cols _ (hy0 _ hm1)))⟩
     have hx1:=hx0 _ hm0
     have hy1:=hy0 _ hm1
     repeat'(first|refine aT hs0 ?_|refine aT hu0 ?_|refine aT hs1 ?_|refine aT hu1 ?_|((conv=>whnf);first|((first|apply aC.use|apply aC.draw);exact aC.of (bB tx.ec tx.cols (by omega) _);rintro r rfl)|((first|apply aC.use|apply aC.draw);exact aC.of (bB ty.ec ty.cols (by omega) _);rintro r rfl)|refine And.intro (hx0 _ (by assumption)) ?_|refine And.intro (hy0 _ (by assumption)) ?_|refine iQ (dB tx.cols _ (hx0 _ (by assumption))) (fun u hu hmu=>?_)|refine iQ (dB ty.cols _ (hy0 _ (by assumption))) (fun u hu hmu=>?_)|((first|apply aC.use|apply aC.draw);exact jG false tx.ec false c.cond tx.cols d.zones hcd hxl hd.z;rintro r ⟨c3,rfl⟩)|refine aI ?_|refine oA ?_|refine oM fun x hx hm=>?_|((first|apply aK|apply aL|apply aM|apply aF|apply aE)<;>intro h<;>(try simp at h)<;>(try(exfalso;omega)))))
     any_goals((conv=>whnf);first|exact DG (by exact rfl) _)
    ·repeat'((conv=>whnf);first|((first|apply aC.use|apply aC.draw);exact aC.of (bB tx.ec tx.cols (by omega) _);rintro r rfl)|((first|apply aC.use|apply aC.draw);exact aC.of (bB ty.ec ty.cols (by omega) _);rintro r rfl)|refine And.intro (hx0 _ (by assumption)) ?_|refine And.intro (hy0 _ (by assumption)) ?_|refine iQ (dB tx.cols _ (hx0 _ (by assumption))) (fun u hu hmu=>?_)|refine iQ (dB ty.cols _ (hy0 _ (by assumption))) (fun u hu hmu=>?_)|((first|apply aC.use|apply aC.draw);exact jG false tx.ec false c.cond tx.cols d.zones hcd hxl hd.z;rintro r ⟨c3,rfl⟩)|refine aI ?_|refine oA ?_|refine oM fun x hx hm=>?_|((first|apply aK|apply aL|apply aM|apply aF|apply aE)<;>intro h<;>(try simp at h)<;>(try(exfalso;omega))))
     any_goals((conv=>whnf);first|exact DG (by exact rfl) _)
     conv=>whnf
     refine⟨fun m ρ H1=>∃k:Nat,k+m=c.cols.length∧H1=[d8 d,i8 l,.arr 6 [bI d],.arr 14 [eM c],.arr 4 [bR tx],.arr 4 [bR ty]]∧Sv 153 [(4,.ptr 3 1 0 0),(7,.ptr 4 1 0 0),(9,.ptr 5 1 0 0),(13,.int .i64 k)] ρ,c.cols.length,[],fun i ρ H1=>i=5∧H1=[d8 d,i8 l,.arr 6 [bI d],.arr 14 [eM c],.arr 4 [bR tx],.arr 4 [bR ty]]∧Sv 153 [(4,.ptr 3 1 0 0),(7,.ptr 4 1 0 0),(9,.ptr 5 1 0 0)] ρ,?_,?_,?_⟩
     ·exact⟨0,Nat.zero_add _,rfl,Sv.intro rfl ⟨rfl,rfl,rfl,rfl,trivial⟩⟩
     ·rintro m ρ H1 ⟨k,hk,rfl,dd,rfl⟩
      repeat'((conv=>whnf);first|((first|apply aC.use|apply aC.draw);exact aC.of (bB tx.ec tx.cols (by omega) _);rintro r rfl)|((first|apply aC.use|apply aC.draw);exact aC.of (bB ty.ec ty.cols (by omega) _);rintro r rfl)|refine And.intro (hx0 _ (by assumption)) ?_|refine And.intro (hy0 _ (by assumption)) ?_|refine iQ (dB tx.cols _ (hx0 _ (by assumption))) (fun u hu hmu=>?_)|refine iQ (dB ty.cols _ (hy0 _ (by assumption))) (fun u hu hmu=>?_)|refine aI ?_|refine oA ?_|refine oM fun x hx hm=>?_|((first|apply aK|apply aL|apply aM|apply aF|apply aE)<;>intro h<;>(try simp at h)<;>(try(exfalso;omega))))
      any_goals((conv=>whnf);first|exact DG (by exact rfl) _|(refine⟨m-1,by omega,Gp.cutN (H:=[d8 d,i8 l,.arr 6 [bI d],.arr 14 [eM c],.arr 4 [bR tx],.arr 4 [bR ty]]) rfl ⟨rfl,rfl,trivial⟩ ⟨low _,low2 _,rfl,rfl,bP [tx] _,bP [ty] _,trivial⟩ rfl rfl ?_ fun ρ1 h=>⟨k+1,by omega,rfl,h⟩⟩;exact⟨rfl,rfl,rfl,aN (dX (by omega)),trivial⟩)|(refine Gp.cutN (H:=[d8 d,i8 l,.arr 6 [bI d],.arr 14 [eM c],.arr 4 [bR tx],.arr 4 [bR ty]]) rfl ⟨rfl,rfl,trivial⟩ ⟨low _,low2 _,rfl,rfl,bP [tx] _,bP [ty] _,trivial⟩ rfl rfl ?_ fun ρ1 h=>⟨rfl,rfl,h⟩;exact⟨rfl,rfl,rfl,trivial⟩))
     ·rintro i ρ1 H1 ⟨rfl,rfl,dd,rfl⟩
      repeat'((conv=>whnf);first|refine aI ?_|refine oA ?_|refine oM fun x hx hm=>?_|((first|apply aK|apply aL|apply aM|apply aF|apply aE)<;>intro h<;>(try simp at h)<;>(try(exfalso;omega))))
      any_goals((conv=>whnf);first|exact DG (by exact rfl) _)
theorem lO(x:Bool)(nm:ByteArray)(l:List ByteArray)(hn:bM nm)(hl:l.length≤100000):aC pr 176 [.str nm,.list x 1 (sC l)] KT:=by
 refine aH k176.has rfl ?_
 repeat'((conv=>whnf);first|((first|apply aC.use|apply aC.draw);exact i7 _ hn;rintro r ⟨b,rfl,hb⟩)|((first|apply aC.use|apply aC.draw);exact gD x l hl _;rintro r ⟨b,rfl,hb⟩)|refine aI ?_|refine oA ?_|refine oM fun x hx hm=>?_|((first|apply aK|apply aL|apply aM|apply aF|apply aE)<;>intro h<;>(try simp at h)))
 any_goals((conv=>whnf);first|exact HJ _)
theorem zB(x:Bool)(cs:List c8)(hc:cs.length≤100000):aC pr 226 [.list x 3 (cC cs)] DV:=by
 refine aH k226.has rfl ?_
 conv=>whnf
 refine⟨fun m ρ H1=>∃k:Nat,k+m=(cs).length∧H1=[]∧Sv 16 [(0,.list x 3 (cC cs)),(3,.int .i64 k)] ρ,(cs).length,[],fun i ρ H1=>i=0∧H1=[]∧Sv 16 [(0,.list x 3 (cC cs))] ρ,?_,?_,?_⟩
 ·exact⟨0,Nat.zero_add _,rfl,Sv.intro rfl ⟨rfl,rfl,trivial⟩⟩
 ·rintro m ρ H1 ⟨k,hk,rfl,d,rfl⟩
  repeat'((conv=>whnf);first|((first|apply aC.use|apply aC.draw);exact qJ _;rintro r ⟨b,rfl⟩)|refine aI ?_|refine oA ?_|refine oM fun x hx hm=>?_|((first|apply aK|apply aL|apply aM|apply aF|apply aE)<;>intro h<;>(try simp at h)))
  any_goals((conv=>whnf);first|exact FX _|(refine⟨m-1,by omega,Gp.cut (H:=[]) rfl trivial rfl rfl ?_ fun ρ1 h=>⟨k+1,by omega,rfl,h⟩⟩;exact⟨rfl,aN (dX (by omega)),trivial⟩)|(refine Gp.cut (H:=[]) rfl trivial rfl rfl ?_ fun ρ1 h=>⟨rfl,rfl,h⟩;exact⟨rfl,trivial⟩))
 ·rintro i ρ1 H1 ⟨rfl,rfl,d,rfl⟩
  conv=>whnf
  exact FX _
theorem DJ(n:Int):aC pr 260 [.int .i64 n] DV:=by
 refine aH k260.has rfl ?_
 repeat'((conv=>whnf);first|refine aI ?_|refine oA ?_|refine oM fun x hx hm=>?_|((first|apply aK|apply aL|apply aM|apply aF|apply aE)<;>intro h<;>(try simp at h)))
 any_goals((conv=>whnf);first|exact FX _)
set_option maxRecDepth 20000 in
set_option maxHeartbeats 2000000 in
theorem GR(s:yD)(hs:PW s):aC pr 223 [.agg (D2 s)] KT:=by
 obtain⟨h1,h2,h3,h4,h5⟩:=hs
 have hcl:=h2.1
 have hkl:=h3.1
 refine aH k223.has rfl ?_
 repeat'((conv=>whnf);first|((first|apply aC.use|apply aC.draw);exact aC.of (dM false s.cols (by omega));rintro r rfl)|((first|apply aC.use|apply aC.draw);exact zB false s.cols hcl;rintro r ⟨b,rfl⟩)|((first|apply aC.use|apply aC.draw);exact iM false false s.cols s.key hcl hkl;rintro r (⟨e,he,rfl⟩|⟨a,ha1,ha2,rfl⟩))|refine aI ?_|refine oA ?_|refine oM fun x hx hm=>?_|((first|apply aK|apply aL|apply aM|apply aF|apply aE)<;>intro h<;>(try simp at h)<;>(try(exfalso;omega))))
 any_goals((conv=>whnf);first|exact HJ _)
 conv=>whnf
 refine⟨fun m ρ H1=>∃k:Nat,k+m=(a).length∧H1=[.arr 7 [D2 s]]∧Sv 93 [(1,.ptr 0 1 0 0),(4,.list false 1 (iC a)),(6,.int .i64 k)] ρ,(a).length,[],fun i ρ H1=>i=0∧H1=[.arr 7 [D2 s]]∧Sv 93 [(1,.ptr 0 1 0 0)] ρ,?_,?_,?_⟩
 ·exact⟨0,Nat.zero_add _,rfl,Sv.intro rfl ⟨rfl,rfl,rfl,trivial⟩⟩
 ·rintro m ρ H1 ⟨k,hk,rfl,d,rfl⟩
  have hal:a.length≤100000:=by rw[ha1];exact hkl
  have ha3:∀i∈a,0≤i:=fun i h=>(ha2 i h).1
  repeat'((conv=>whnf);first|refine And.intro (ha3 _ (by assumption)) ?_|refine iQ (ha2 _ (by assumption)).2 (fun x hx hm=>?_)|refine aI ?_|refine oA ?_|refine oM fun x hx hm=>?_|((first|apply aK|apply aL|apply aM|apply aF|apply aE)<;>intro h<;>(try simp at h)))
  any_goals((conv=>whnf);first|exact HJ _|(refine⟨m-1,by omega,Gp.cut (H:=[.arr 7 [D2 s]]) rfl ⟨rfl,trivial⟩ rfl rfl ?_ fun ρ1 h=>⟨k+1,by omega,rfl,h⟩⟩;exact⟨rfl,rfl,aN (dX (by omega)),trivial⟩)|(refine Gp.cut (H:=[.arr 7 [D2 s]]) rfl ⟨rfl,trivial⟩ rfl rfl ?_ fun ρ1 h=>⟨rfl,rfl,h⟩;exact⟨rfl,trivial⟩))
 ·rintro i ρ1 H1 ⟨rfl,rfl,d,rfl⟩
  repeat'((conv=>whnf);first|((first|apply aC.use|apply aC.draw);exact aC.of (bB false s.cols (by omega) _);rintro r rfl)|((first|apply aC.use|apply aC.draw);exact i7 _ h5;rintro r ⟨b,rfl,hb⟩)|((first|apply aC.use|apply aC.draw);exact DJ _;rintro r ⟨b,rfl⟩)|refine iQ (dB s.cols _ (by assumption)) (fun x hx hm=>?_)|refine aI ?_|refine oA ?_|refine oM fun x hx hm=>?_|((first|apply aK|apply aL|apply aM|apply aF|apply aE)<;>intro h<;>(try simp at h)<;>(try(exfalso;omega))))
  any_goals((conv=>whnf);first|exact HJ _)
set_option maxRecDepth 20000 in
set_option maxHeartbeats 2000000 in
theorem o8(x:Bool)(l:List ByteArray)(hl:l.length≤100000):aC pr 263 [.list x 1 (sC l)] (KS (1≤l.length)):=by
 refine aH k263.has rfl ?_
 repeat'((conv=>whnf);first|refine aI ?_|refine oA ?_|refine oM fun x hx hm=>?_|((first|apply aK|apply aL|apply aM|apply aF|apply aE)<;>intro h<;>(try simp at h)<;>(try(exfalso;omega))))
 any_goals((conv=>whnf);first|exact wS _ (by decide))
 conv=>whnf
 refine⟨fun m ρ H1=>∃k:Nat,k+m=(l).length∧H1=[]∧Sv 32 [(0,.list x 1 (sC l)),(3,.int .i64 k)] ρ,(l).length,[],fun i ρ H1=>i=0∧H1=[]∧Sv 32 [(0,.list x 1 (sC l))] ρ,?_,?_,?_⟩
 ·exact⟨0,Nat.zero_add _,rfl,Sv.intro rfl ⟨rfl,rfl,trivial⟩⟩
 ·rintro m ρ H1 ⟨k,hk,rfl,d,rfl⟩
  repeat'((conv=>whnf);first|((first|apply aC.use|apply aC.draw);exact fB _;rintro r ⟨b,rfl⟩)|((first|apply aC.use|apply aC.draw);exact aC.args (gD false (l.take k) (by simp;omega) _) (.cons (gG.lst (by simp[sC,List.map_take]) (aO _)) (.cons (.refl _) .nil));rintro r ⟨b,rfl,hb⟩)|refine aI ?_|refine oA ?_|refine oM fun x hx hm=>?_|((first|apply aK|apply aL|apply aM|apply aF|apply aE)<;>intro h<;>(try simp at h)))
  any_goals((conv=>whnf);first|exact wS _ (by decide)|(refine⟨m-1,by omega,Gp.cut (H:=[]) rfl trivial rfl rfl ?_ fun ρ1 h=>⟨k+1,by omega,rfl,h⟩⟩;exact⟨rfl,aN (dX (by omega)),trivial⟩)|(refine Gp.cut (H:=[]) rfl trivial rfl rfl ?_ fun ρ1 h=>⟨rfl,rfl,h⟩;exact⟨rfl,trivial⟩))
 ·rintro i ρ1 H1 ⟨rfl,rfl,d,rfl⟩
  conv=>whnf
  exact RF _ fun _=>by omega
theorem MO(n:Int):aC pr 295 [.int .i64 n] DV:=by
 refine aH k295.has rfl ?_
 repeat'((conv=>whnf);first|refine aI ?_|refine oA ?_|refine oM fun x hx hm=>?_|((first|apply aK|apply aL|apply aM|apply aF|apply aE)<;>intro h<;>(try simp at h)))
 any_goals((conv=>whnf);first|exact FX _)
theorem UR(a b:Int):aC pr 290 [.agg [.int .i64 a,.int .i64 b]] DV:=by
 refine aH k290.has rfl ?_
 repeat'((conv=>whnf);first|((first|apply aC.use|apply aC.draw);exact MO _;rintro r ⟨b,rfl⟩)|refine aI ?_|refine oA ?_|refine oM fun x hx hm=>?_|((first|apply aK|apply aL|apply aM|apply aF|apply aE)<;>intro h<;>(try simp at h)))
 any_goals((conv=>whnf);first|exact FX _)
theorem JL(a b:Int):aC pr 265 [.agg [.int .i64 a,.int .i64 b]] DV:=by
 refine aH k265.has rfl ?_
 repeat'((conv=>whnf);first|((first|apply aC.use|apply aC.draw);exact UR _ _;rintro r ⟨b,rfl⟩)|refine aI ?_|refine oA ?_|refine oM fun x hx hm=>?_|((first|apply aK|apply aL|apply aM|apply aF|apply aE)<;>intro h<;>(try simp at h)))
 any_goals((conv=>whnf);first|exact FX _)
set_option maxRecDepth 20000 in
set_option maxHeartbeats 4000000 in
theorem HA(c:zD):aC pr 230 [.agg (eM c)] DV:=by
 refine aH k230.has rfl ?_
 repeat'((conv=>whnf);first|refine aI ?_|refine oA ?_|refine oM fun x hx hm=>?_|((first|apply aK|apply aL|apply aM|apply aF|apply aE)<;>intro h<;>(try simp at h)<;>(try(exfalso;omega))))
 any_goals((conv=>whnf);first|exact FX _)
set_option maxRecDepth 20000 in
theorem zR(c:zD)(hc:FJ c):aC pr 264 [.agg (eM c)] (KS (c.cols.length=c.ocols.length)):=by
 obtain⟨_,_,hcl,ho,hol,hcd⟩:=hc
 refine aH k264.has rfl ?_
 repeat'((conv=>whnf);first|((first|apply aC.use|apply aC.draw);exact o8 false c.cols hcl.1;rintro r ⟨e,rfl,he⟩)|((first|apply aC.use|apply aC.draw);exact o8 false c.ocols hol.1;rintro r ⟨e,rfl,he⟩)|((first|apply aC.use|apply aC.draw);exact i7 _ ho;rintro r ⟨b,rfl,hb⟩)|refine aI ?_|refine oA ?_|refine oM fun x hx hm=>?_|((first|apply aK|apply aL|apply aM|apply aF|apply aE)<;>intro h<;>(try simp at h)<;>(try(exfalso;omega))))
 any_goals((conv=>whnf);first|exact wS _ (by assumption)|exact wS _ (by decide)|(refine RF _ fun _=>?_;omega))
set_option maxRecDepth 20000 in
set_option maxHeartbeats 4000000 in
theorem MH(c:zD)(hc:FJ c):aC pr 231 [.agg (eM c)] (KS (Ck c)):=by
 have hc':=hc
 obtain⟨_,_,hcl,ho,hol,hcd⟩:=hc
 have hcl1:=hcl.1
 have hol1:=hol.1
 refine aH k231.has rfl ?_
 repeat'((conv=>whnf);first|((first|apply aC.use|apply aC.draw);exact o8 false c.cols hcl.1;rintro r ⟨e,rfl,he⟩)|((first|apply aC.use|apply aC.draw);exact fB _;rintro r ⟨b,rfl⟩)|((first|apply aC.use|apply aC.draw);exact zR c hc';rintro r ⟨e,rfl,he⟩)|((first|apply aC.use|apply aC.draw);exact lJ false c.cond hcd;rintro r ⟨e,rfl,hv⟩)|((first|apply aC.use|apply aC.draw);exact JL _ _;rintro r ⟨b,rfl⟩)|((first|apply aC.use|apply aC.draw);exact i7 _ ho;rintro r ⟨b,rfl,hb⟩)|refine aI ?_|refine oA ?_|refine oM fun x hx hm=>?_|((first|apply aK|apply aL|apply aM|apply aF|apply aE)<;>intro h<;>(try simp at h)<;>(try(exfalso;omega))))
 any_goals((conv=>whnf);first|exact wS _ (by assumption)|exact wS _ (by decide)|(refine RF _ fun h0=>⟨fun h=>?_,fun h=>?_,fun h=>?_⟩<;>omega))
set_option maxRecDepth 20000 in
set_option maxHeartbeats 4000000 in
theorem I3(c:zD)(hc:FJ c):aC pr 179 [.agg (eM c)] (KS (Ck c)):=by
 have hc':=hc
 obtain⟨_,ht,hcl,ho,hol,hcd⟩:=hc
 refine aH k179.has rfl ?_
 repeat'((conv=>whnf);first|((first|apply aC.use|apply aC.draw);exact i7 _ ht;rintro r ⟨b,rfl,hb⟩)|((first|apply aC.use|apply aC.draw);exact HA c;rintro r ⟨b,rfl⟩)|((first|apply aC.use|apply aC.draw);exact MH c hc';rintro r ⟨e,rfl,he⟩)|refine aI ?_|refine oA ?_|refine oM fun x hx hm=>?_|((first|apply aK|apply aL|apply aM|apply aF|apply aE)<;>intro h<;>(try simp at h)<;>(try(exfalso;omega))))
 any_goals((conv=>whnf);first|exact wS _ (by assumption)|exact wS _ (by decide)|(refine RF _ fun _=>?_;exact he (by assumption)))
set_option maxRecDepth 20000 in
set_option maxHeartbeats 4000000 in
theorem J2(m:vE)(hm:G3 m):aC pr 177 [.agg (gR m)] KT:=by
 obtain⟨h1,h2,h3,h4,h5,h6⟩:=hm
 have hsl:=h2.1
 refine aH k177.has rfl ?_
 repeat'((conv=>whnf);first|((first|apply aC.use|apply aC.draw);exact aC.of (dM false m.self (by omega));rintro r rfl)|((first|apply aC.use|apply aC.draw);exact zB false m.self hsl;rintro r ⟨b,rfl⟩)|((first|apply aC.use|apply aC.draw);exact sQ false m.query h3;rintro r ⟨e,rfl,he⟩)|((first|apply aC.use|apply aC.draw);exact PE false m.query h3;rintro r ⟨rl,rfl,hr1,hr2⟩)|((first|apply aC.use|apply aC.draw);exact gD false rl hr1.1 _;rintro r ⟨b,rfl,hb⟩)|((first|apply aC.use|apply aC.draw);exact fB _;rintro r ⟨b,rfl⟩)|((first|apply aC.use|apply aC.draw);exact i7 _ h5;rintro r ⟨b,rfl,hb⟩)|((first|apply aC.use|apply aC.draw);exact aC.of (eH m.owner);rintro r rfl)|refine aI ?_|refine oA ?_|refine oM fun x hx hm=>?_|((first|apply aK|apply aL|apply aM|apply aF|apply aE)<;>intro h<;>(try simp at h)<;>(try(exfalso;omega))))
 any_goals((conv=>whnf);first|exact HJ _)
theorem CU:∀r,KT r→r.scalar=true:=by rintro _ ⟨c,rfl⟩;rfl
def WY(r:a6):Prop:=∃e:Int,e≠0∧r=.tuple [.nil,.int .i64 e]
def Y9(N:Nat)(es:List (List a6))(w:a6):Prop:=w=.int .i64 0∧∃l:List ByteArray,es=sC l∧l.length≤64∧N≤64
theorem U1{H H0 G:List aB}{ids:List Nat}{sz n0:Nat}{T:List (List a6)→a6→Prop}(hH:H=H0++G)(e:Int)(he:e≠0):∃G,H=H0++G∧((∃r,dV H 0 ids (.tuple [.nil,.int .i64 e]) r∧r.clT=true∧WY r) ∨
  ∃id n es w,a6.tuple [.nil,.int .i64 e]=.tuple [.sl id n 0 n,w]∧n0≤id∧H[id]?=some (.arr sz es)∧n=es.length∧bG es=true∧w.closed=true∧T es w) :=
 ⟨_,hH,.inl ⟨_,dP (.closed _ rfl) (.closed _ rfl),rfl,e,he,rfl⟩⟩
set_option maxRecDepth 20000 in
set_option maxHeartbeats 4000000 in
theorem IM(d:qZ)(hd:d.F)(hm:d.macros.length=0):
  AN pr 175 [d8 d] [.agg (bI d)] 1 WY (Y9 d.sources.length):=by
 have low:=gW d
 have hzl:=hd.z.1
 have hsl:=hd.s.1
 refine tY k175.has ⟨dY d,trivial⟩ ?_
 repeat'((conv=>whnf);first|refine aI ?_|refine oA ?_|refine oM fun x hx hm=>?_|((first|apply aK|apply aL|apply aM|apply aF|apply aE)<;>intro h<;>(try simp at h)<;>(try(exfalso;omega))))
 any_goals((conv=>whnf);first|exact U1 (by exact rfl) _ (by decide))
 conv=>whnf
 refine⟨fun m ρ H1=>∃(k:Nat) (ns:List ByteArray),k+m=d.zones.length∧ns.length=k∧H1=[d8 d,.arr 6 [bI d],.arr 1 (sC ns)]∧Sv 141 [(1,.ptr 1 1 0 0),(4,.sl 2 ns.length 0 ns.length),(5,.nil),(6,.nil),(7,.int .i64 k)] ρ,d.zones.length,[(4,1)],fun i ρ H1=>i=0∧H1=[d8 d,.arr 6 [bI d]]∧Sv 141 [(1,.ptr 1 1 0 0),(5,.nil),(6,.nil)] ρ,?_,?_,?_⟩
 ·exact⟨0,[],by omega,rfl,rfl,Sv.intro rfl ⟨rfl,rfl,rfl,rfl,rfl,trivial⟩⟩
 ·rintro m ρ H1 ⟨k,ns,hk,hn,rfl,dd,rfl⟩
  repeat'((conv=>whnf);first|(refine aC.bor (lO false _ ns (hd.z.2 _ (by assumption)).1 (by omega)) CU (.cons (.same _ rfl) (.cons (qR rfl (aP ns).symm (aO _)) .nil)) (fun r hr=>?_);obtain⟨c,rfl⟩:=hr)|((first|apply aC.use|apply aC.draw);exact oI _ (hd.z.2 _ (by assumption));rintro r ⟨c,rfl⟩)|refine b4 (eL (aP ns).symm) ?_|refine And.intro (⟨by simp[aQ];omega,by simp[aQ];omega,rfl,(aP ns).symm⟩) ?_|refine aI ?_|refine oA ?_|refine oM fun x hx hm=>?_|((first|apply aK|apply aL|apply aM|apply aF|apply aE)<;>intro h<;>(try simp at h)<;>(try(exfalso;omega))))
  any_goals((conv=>whnf);first|exact U1 (by exact rfl) _ (by assumption)|(refine⟨m-1,by omega,Gp.cutN (H:=[d8 d,.arr 6 [bI d],.arr 1 (sC ns++[[.str x.name]])]) rfl ⟨rfl,trivial⟩ ⟨low _,rfl,bV (by rw[eB];exact aO _),trivial⟩ rfl rfl ?_ fun ρ1 h=>⟨k+1,ns++[x.name],by omega,by simp;omega,by rw[eB],h⟩⟩;exact⟨rfl,eQ (by simp) (by simp),rfl,rfl,aN (dX (by omega)),trivial⟩)|(refine Gp.cutN (H:=[d8 d,.arr 6 [bI d]]) rfl ⟨rfl,trivial⟩ ⟨low _,rfl,trivial⟩ rfl rfl ?_ fun ρ1 h=>⟨rfl,rfl,h⟩;exact⟨rfl,rfl,rfl,trivial⟩))
 ·rintro i ρ1 H1 ⟨rfl,rfl,dd,rfl⟩
  repeat'((conv=>whnf);first|refine aI ?_|refine oA ?_|refine oM fun x hx hm=>?_|((first|apply aK|apply aL|apply aM|apply aF|apply aE)<;>intro h<;>(try simp at h)<;>(try(exfalso;omega))))
  any_goals((conv=>whnf);first|exact U1 (by exact rfl) _ (by decide))
  conv=>whnf
  refine⟨fun m ρ H1=>∃(k:Nat) (ns:List ByteArray),k+m=d.sources.length∧ns.length=k∧H1=[d8 d,.arr 6 [bI d],.arr 1 (sC ns)]∧Sv 141 [(1,.ptr 1 1 0 0),(5,.sl 2 ns.length 0 ns.length),(6,.nil),(10,.int .i64 k)] ρ,d.sources.length,[(5,1)],fun i ρ H1=>i=2∧∃ns:List ByteArray,ns.length≤64∧H1=[d8 d,.arr 6 [bI d],.arr 1 (sC ns)]∧Sv 141 [(1,.ptr 1 1 0 0),(5,.sl 2 ns.length 0 ns.length),(6,.nil)] ρ,?_,?_,?_⟩
  ·exact⟨0,[],by omega,rfl,rfl,Sv.intro rfl ⟨rfl,rfl,rfl,rfl,trivial⟩⟩
  ·rintro m ρ H1 ⟨k,ns,hk,hn,rfl,dd,rfl⟩
   repeat'((conv=>whnf);first|(refine aC.bor (lO false _ ns (hd.s.2 _ (by assumption)).1 (by omega)) CU (.cons (.same _ rfl) (.cons (qR rfl (aP ns).symm (aO _)) .nil)) (fun r hr=>?_);obtain⟨c,rfl⟩:=hr)|((first|apply aC.use|apply aC.draw);exact GR _ (hd.s.2 _ (by assumption));rintro r ⟨c,rfl⟩)|refine b4 (eL (aP ns).symm) ?_|refine And.intro (⟨by simp[aQ];omega,by simp[aQ];omega,rfl,(aP ns).symm⟩) ?_|refine aI ?_|refine oA ?_|refine oM fun x hx hm=>?_|((first|apply aK|apply aL|apply aM|apply aF|apply aE)<;>intro h<;>(try simp at h)<;>(try(exfalso;omega))))
   any_goals((conv=>whnf);first|exact U1 (by exact rfl) _ (by assumption)|(refine⟨m-1,by omega,Gp.cutN (H:=[d8 d,.arr 6 [bI d],.arr 1 (sC ns++[[.str x.name]])]) rfl ⟨rfl,trivial⟩ ⟨low _,rfl,bV (by rw[eB];exact aO _),trivial⟩ rfl rfl ?_ fun ρ1 h=>⟨k+1,ns++[x.name],by omega,by simp;omega,by rw[eB],h⟩⟩;exact⟨rfl,eQ (by simp) (by simp),rfl,aN (dX (by omega)),trivial⟩)|(refine Gp.cutN (H:=[d8 d,.arr 6 [bI d],.arr 1 (sC ns)]) rfl ⟨rfl,trivial⟩ ⟨low _,rfl,bV (aO _),trivial⟩ rfl rfl ?_ fun ρ1 h=>⟨rfl,ns,by omega,rfl,h⟩;exact⟨rfl,rfl,rfl,trivial⟩))
  ·rintro i ρ1 H1 ⟨rfl,ns,hns,rfl,dd,rfl⟩
   repeat'((conv=>whnf);first|refine aI ?_|refine oA ?_|refine oM fun x hx hm=>?_|((first|apply aK|apply aL|apply aM|apply aF|apply aE)<;>intro h<;>(try simp at h)<;>(try(exfalso;omega))))
   conv=>whnf
   refine⟨fun m ρ H1=>H1=[d8 d,.arr 6 [bI d],.arr 1 (sC ns)]∧Sv 141 [(1,.ptr 1 1 0 0),(5,.sl 2 ns.length 0 ns.length),(6,.nil),(13,.int .i64 0)] ρ,0,[],fun i ρ H1=>i=4∧H1=[d8 d,.arr 6 [bI d],.arr 1 (sC ns)]∧Sv 141 [(5,.sl 2 ns.length 0 ns.length)] ρ,?_,?_,?_⟩
   ·exact⟨rfl,Sv.intro rfl ⟨rfl,rfl,rfl,rfl,trivial⟩⟩
   ·rintro m ρ H1 ⟨rfl,dd,rfl⟩
    repeat'((conv=>whnf);first|refine aI ?_|refine oA ?_|refine oM fun x hx hm=>?_|((first|apply aK|apply aL|apply aM|apply aF|apply aE)<;>intro h<;>(try simp at h)<;>(try(exfalso;omega))))
    any_goals((conv=>whnf);first|(refine Gp.cutN (H:=[d8 d,.arr 6 [bI d],.arr 1 (sC ns)]) rfl ⟨rfl,trivial⟩ ⟨low _,rfl,bV (aO _),trivial⟩ rfl rfl ?_ fun ρ1 h=>⟨rfl,rfl,h⟩;exact⟨rfl,trivial⟩))
   ·rintro i ρ1 H1 ⟨rfl,rfl,dd,rfl⟩
    conv=>whnf
    exact⟨_,by exact rfl,.inr ⟨2,_,sC ns,_,rfl,(by decide:1≤2),rfl,(aP ns).symm,aO _,rfl,rfl,ns,rfl,hns,by omega⟩⟩
theorem OU{p:Prop}{H H0 G:List aB}{ids:List Nat}(hH:H=H0++G)(e:Int)(h:e=0→p):∃r G,H=H0++G∧dV H 0 ids (.int .i64 e) r∧r.clT=true∧KS p r:=⟨_,_,hH,.closed _ rfl,rfl,e,rfl,h⟩
set_option maxRecDepth 20000 in
set_option maxHeartbeats 4000000 in
theorem Q2(d:qZ)(hd:d.F)(hm:d.macros.length=0):
  cJ pr 134 [d8 d] [.agg (bI d)] (KS (d.models.length≤64∧d.snaps.length≤64∧d.sources.length≤64∧∀c∈d.checks,Ck c)):=by
 have low:=gW d
 have hql:=hd.q.1
 have hnl:=hd.n.1
 have hcl:=hd.c.1
 refine bQ k134.has ⟨low _,trivial⟩ ?_
 repeat'((conv=>whnf);first|refine aI ?_|refine oA ?_|refine oM fun x hx hm=>?_|((first|apply aK|apply aL|apply aM|apply aF|apply aE)<;>intro h<;>(try simp at h)<;>(try(exfalso;omega))))
 (conv=>whnf);refine AN.use [0] (IM d hd hm) (by simp) rfl ⟨⟨_,rfl,.same (dY d)⟩,trivial⟩ ⟨fK d rfl,trivial⟩ (fun r hr=>?_) (fun es v hr hp=>?_)
 ·obtain⟨e,he,rfl⟩:=hr
  repeat'((conv=>whnf);first|refine aI ?_|refine oA ?_|refine oM fun x hx hm=>?_|((first|apply aK|apply aL|apply aM|apply aF|apply aE)<;>intro h<;>(try simp at h)<;>(try(exfalso;omega))))
  any_goals((conv=>whnf);first|exact OU (by exact rfl) _ (fun h=>absurd h (by assumption)))
 obtain⟨rfl,l0,rfl,hl0,hsrc⟩:=hr
 repeat'((conv=>whnf);first|refine aI ?_|refine oA ?_|refine oM fun x hx hm=>?_|((first|apply aK|apply aL|apply aM|apply aF|apply aE)<;>intro h<;>(try simp at h)<;>(try(exfalso;omega))))
 any_goals((conv=>whnf);first|exact OU (by exact rfl) _ (fun h=>absurd h (by decide)))
 conv=>whnf
 refine⟨fun m ρ H1=>∃(k:Nat) (ns:List ByteArray),k+m=d.models.length∧ns.length≤64+k∧H1=[d8 d,.arr 6 [bI d],.arr 1 (sC ns)]∧Sv 141 [(1,.ptr 1 1 0 0),(3,.sl 2 ns.length 0 ns.length),(5,.int .i64 k)] ρ,d.models.length,[],fun i ρ H1=>i=0∧∃ns:List ByteArray,ns.length≤128∧H1=[d8 d,.arr 6 [bI d],.arr 1 (sC ns)]∧Sv 141 [(1,.ptr 1 1 0 0),(3,.sl 2 ns.length 0 ns.length)] ρ,?_,?_,?_⟩
 ·exact⟨0,l0,by omega,by omega,rfl,Sv.intro rfl ⟨rfl,eQ (by simp) (by simp),rfl,trivial⟩⟩
 ·rintro m ρ H1 ⟨k,ns,hk,hn,rfl,dd,rfl⟩
  repeat'((conv=>whnf);first|(refine aC.bor (lO false _ ns (hd.q.2 _ (by assumption)).1 (by omega)) CU (.cons (.same _ rfl) (.cons (qR rfl (aP ns).symm (aO _)) .nil)) (fun r hr=>?_);obtain⟨c,rfl⟩:=hr)|refine b4 (eL (aZ gR d.models).symm) ?_|((first|apply aC.use|apply aC.draw);exact J2 _ (hd.q.2 _ (by assumption));rintro r ⟨c,rfl⟩)|refine b4 (eL (aP ns).symm) ?_|refine And.intro (⟨by simp[aQ];omega,by simp[aQ];omega,rfl,(aP ns).symm⟩) ?_|refine aI ?_|refine oA ?_|refine oM fun x hx hm=>?_|((first|apply aK|apply aL|apply aM|apply aF|apply aE)<;>intro h<;>(try simp at h)<;>(try(exfalso;omega))))
  any_goals((conv=>whnf);first|exact OU (by exact rfl) _ (fun h=>absurd h (by assumption))|exact OU (by exact rfl) _ (fun h=>absurd h (by decide))|(refine⟨m-1,by omega,Gp.cutN (H:=[d8 d,.arr 6 [bI d],.arr 1 (sC ns++[[.str x.name]])]) rfl ⟨rfl,trivial⟩ ⟨low _,rfl,bV (by rw[eB];exact aO _),trivial⟩ rfl rfl ?_ fun ρ1 h=>⟨k+1,ns++[x.name],by omega,by simp;omega,by rw[eB],h⟩⟩;exact⟨rfl,eQ (by simp) (by simp),aN (dX (by omega)),trivial⟩)|(refine Gp.cutN (H:=[d8 d,.arr 6 [bI d],.arr 1 (sC ns)]) rfl ⟨rfl,trivial⟩ ⟨low _,rfl,bV (aO _),trivial⟩ rfl rfl ?_ fun ρ1 h=>⟨rfl,ns,by omega,rfl,h⟩;exact⟨rfl,rfl,trivial⟩))
 ·rintro i ρ1 H1 ⟨rfl,ns,hns,rfl,dd,rfl⟩
  repeat'((conv=>whnf);first|refine aI ?_|refine oA ?_|refine oM fun x hx hm=>?_|((first|apply aK|apply aL|apply aM|apply aF|apply aE)<;>intro h<;>(try simp at h)<;>(try(exfalso;omega))))
  any_goals((conv=>whnf);first|exact OU (by exact rfl) _ (fun h=>absurd h (by assumption))|exact OU (by exact rfl) _ (fun h=>absurd h (by decide)))
  conv=>whnf
  refine⟨fun m ρ H1=>∃(k:Nat) (ns:List ByteArray),k+m=d.snaps.length∧ns.length≤128+k∧H1=[d8 d,.arr 6 [bI d],.arr 1 (sC ns)]∧Sv 141 [(1,.ptr 1 1 0 0),(3,.sl 2 ns.length 0 ns.length),(8,.int .i64 k)] ρ,d.snaps.length,[],fun i ρ H1=>i=2∧H1=[d8 d,.arr 6 [bI d]]∧Sv 141 [(1,.ptr 1 1 0 0)] ρ,?_,?_,?_⟩
  ·exact⟨0,ns,by omega,by omega,rfl,Sv.intro rfl ⟨rfl,rfl,rfl,trivial⟩⟩
  ·rintro m ρ H1 ⟨k,ns,hk,hn,rfl,dd,rfl⟩
   repeat'((conv=>whnf);first|(refine aC.bor (lO false _ ns (hd.n.2 _ (by assumption)).1 (by omega)) CU (.cons (.same _ rfl) (.cons (qR rfl (aP ns).symm (aO _)) .nil)) (fun r hr=>?_);obtain⟨c,rfl⟩:=hr)|((first|apply aC.use|apply aC.draw);exact i7 _ (hd.n.2 _ (by assumption)).2;rintro r ⟨b,rfl,hb⟩)|refine b4 (eL (aP ns).symm) ?_|refine And.intro (⟨by simp[aQ];omega,by simp[aQ];omega,rfl,(aP ns).symm⟩) ?_|refine aI ?_|refine oA ?_|refine oM fun x hx hm=>?_|((first|apply aK|apply aL|apply aM|apply aF|apply aE)<;>intro h<;>(try simp at h)<;>(try(exfalso;omega))))
   any_goals((conv=>whnf);first|exact OU (by exact rfl) _ (fun h=>absurd h (by assumption))|exact OU (by exact rfl) _ (fun h=>absurd h (by decide))|(refine⟨m-1,by omega,Gp.cutN (H:=[d8 d,.arr 6 [bI d],.arr 1 (sC ns++[[.str x.name]])]) rfl ⟨rfl,trivial⟩ ⟨low _,rfl,bV (by rw[eB];exact aO _),trivial⟩ rfl rfl ?_ fun ρ1 h=>⟨k+1,ns++[x.name],by omega,by simp;omega,by rw[eB],h⟩⟩;exact⟨rfl,eQ (by simp) (by simp),aN (dX (by omega)),trivial⟩)|(refine Gp.cutN (H:=[d8 d,.arr 6 [bI d]]) rfl ⟨rfl,trivial⟩ ⟨low _,rfl,trivial⟩ rfl rfl ?_ fun ρ1 h=>⟨rfl,rfl,h⟩;exact⟨rfl,trivial⟩))
  ·rintro i ρ1 H1 ⟨rfl,rfl,dd,rfl⟩
   repeat'((conv=>whnf);first|refine aI ?_|refine oA ?_|refine oM fun x hx hm=>?_|((first|apply aK|apply aL|apply aM|apply aF|apply aE)<;>intro h<;>(try simp at h)<;>(try(exfalso;omega))))
   any_goals((conv=>whnf);first|exact OU (by exact rfl) _ (fun h=>absurd h (by assumption))|exact OU (by exact rfl) _ (fun h=>absurd h (by decide)))
   conv=>whnf
   refine⟨fun m ρ H1=>∃(k:Nat) (ns:List ByteArray),k+m=d.checks.length∧ns.length=k∧(∀c∈d.checks.take k,Ck c)∧H1=[d8 d,.arr 6 [bI d],.arr 1 (sC ns)]∧Sv 141 [(1,.ptr 1 1 0 0),(10,.sl 2 ns.length 0 ns.length),(11,.int .i64 k)] ρ,d.checks.length,[(10,1)],fun i ρ H1=>i=4∧(∀c∈d.checks,Ck c)∧H1=[d8 d,.arr 6 [bI d]]∧Sv 141 [(1,.ptr 1 1 0 0)] ρ,?_,?_,?_⟩
   ·exact⟨0,[],by omega,rfl,(fun c h=>by simp at h),rfl,Sv.intro rfl ⟨rfl,rfl,rfl,trivial⟩⟩
   ·rintro m ρ H1 ⟨k,ns,hk,hn,hv,rfl,dd,rfl⟩
    repeat'((conv=>whnf);first|(refine aC.bor (lO false _ ns (hd.c.2 _ (by assumption)).1 (by omega)) CU (.cons (.same _ rfl) (.cons (qR rfl (aP ns).symm (aO _)) .nil)) (fun r hr=>?_);obtain⟨c,rfl⟩:=hr)|((first|apply aC.use|apply aC.draw);exact I3 _ (hd.c.2 _ (by assumption));rintro r ⟨c,rfl,hck⟩)|refine b4 (eL (aP ns).symm) ?_|refine And.intro (⟨by simp[aQ];omega,by simp[aQ];omega,rfl,(aP ns).symm⟩) ?_|refine aI ?_|refine oA ?_|refine oM fun x hx hm=>?_|((first|apply aK|apply aL|apply aM|apply aF|apply aE)<;>intro h<;>(try simp at h)<;>(try(exfalso;omega))))
    any_goals((conv=>whnf);first|exact OU (by exact rfl) _ (fun h=>absurd h (by assumption))|exact OU (by exact rfl) _ (fun h=>absurd h (by decide))|(refine⟨m-1,by omega,Gp.cutN (H:=[d8 d,.arr 6 [bI d],.arr 1 (sC ns++[[.str x.name]])]) rfl ⟨rfl,trivial⟩ ⟨low _,rfl,bV (by rw[eB];exact aO _),trivial⟩ rfl rfl ?_ fun ρ1 h=>⟨k+1,ns++[x.name],by omega,by simp;omega,sJ hv (by assumption) (hck (by assumption)),by rw[eB],h⟩⟩;exact⟨rfl,eQ (by simp) (by simp),aN (dX (by omega)),trivial⟩)|(refine Gp.cutN (H:=[d8 d,.arr 6 [bI d]]) rfl ⟨rfl,trivial⟩ ⟨low _,rfl,trivial⟩ rfl rfl ?_ fun ρ1 h=>⟨rfl,by rwa [List.take_of_length_le (by omega)]at hv,rfl,h⟩;exact⟨rfl,trivial⟩))
   ·rintro i ρ1 H1 ⟨rfl,hv,rfl,dd,rfl⟩
    conv=>whnf
    exact OU (by exact rfl) _ (fun _=>⟨by omega,by omega,hsrc,hv⟩)
set_option maxRecDepth 20000 in
set_option maxHeartbeats 4000000 in
theorem J5(d:qZ)(h1:d.sources.length≤64)(h2:d.models.length≤64)(h3:d.snaps.length≤64):
  cJ pr 180 [d8 d] [.agg (bI d),.int .i64 1] (fun r=>∃l:List ByteArray,r=sL l∧l.length≤192∧∀z∈d.models,z.name∈l):=by
 have low:=gW d
 refine bQ k180.has ⟨low _,trivial⟩ ?_
 repeat'((conv=>whnf);first|refine aI ?_|refine oA ?_|refine oM fun x hx hm=>?_|((first|apply aK|apply aL|apply aM|apply aF|apply aE)<;>intro h<;>(try simp at h)<;>(try(exfalso;omega))))
 conv=>whnf
 refine⟨fun m ρ H1=>∃(k:Nat) (ns:List ByteArray),k+m=d.sources.length∧ns.length≤0+k∧H1=[d8 d,.arr 6 [bI d],.arr 1 (sC ns)]∧Sv 118 [(2,.ptr 1 1 0 0),(5,.sl 2 ns.length 0 ns.length),(7,.int .i64 k)] ρ,d.sources.length,[(5,1)],fun i ρ H1=>i=3∧∃ns:List ByteArray,ns.length≤64∧H1=[d8 d,.arr 6 [bI d],.arr 1 (sC ns)]∧Sv 118 [(2,.ptr 1 1 0 0),(5,.sl 2 ns.length 0 ns.length)] ρ,?_,?_,?_⟩
 ·exact⟨0,[],by omega,by simp,rfl,Sv.intro rfl ⟨rfl,rfl,rfl,trivial⟩⟩
 ·rintro m ρ H1 ⟨k,ns,hk,hn,rfl,dd,rfl⟩
  repeat'((conv=>whnf);first|refine b4 (eL (aP ns).symm) ?_|refine And.intro (⟨by simp[aQ];omega,by simp[aQ];omega,rfl,(aP ns).symm⟩) ?_|refine aI ?_|refine oA ?_|refine oM fun x hx hm=>?_|((first|apply aK|apply aL|apply aM|apply aF|apply aE)<;>intro h<;>(try simp at h)<;>(try(exfalso;omega))))
  any_goals((conv=>whnf);first|(refine⟨m-1,by omega,Gp.cutN (H:=[d8 d,.arr 6 [bI d],.arr 1 (sC ns++[[.str x.name]])]) rfl ⟨rfl,trivial⟩ ⟨low _,rfl,bV (by rw[eB];exact aO _),trivial⟩ rfl rfl ?_ fun ρ1 h=>⟨k+1,ns++[x.name],by omega,by simp;omega,by rw[eB],h⟩⟩;exact⟨rfl,eQ (by simp) (by simp),aN (dX (by omega)),trivial⟩)|(refine Gp.cutN (H:=[d8 d,.arr 6 [bI d],.arr 1 (sC ns)]) rfl ⟨rfl,trivial⟩ ⟨low _,rfl,bV (aO _),trivial⟩ rfl rfl ?_ fun ρ1 h=>⟨rfl,ns,by omega,rfl,h⟩;exact⟨rfl,rfl,trivial⟩))
 ·rintro i ρ1 H1 ⟨rfl,ns,hns,rfl,dd,rfl⟩
  conv=>whnf
  refine⟨fun m ρ H1=>∃(k:Nat) (ns:List ByteArray),k+m=d.models.length∧ns.length≤64+k∧(∀z∈d.models.take k,z.name∈ns)∧H1=[d8 d,.arr 6 [bI d],.arr 1 (sC ns)]∧Sv 118 [(2,.ptr 1 1 0 0),(5,.sl 2 ns.length 0 ns.length),(8,.int .i64 k)] ρ,d.models.length,[],fun i ρ H1=>i=5∧∃ns:List ByteArray,ns.length≤128∧(∀z∈d.models,z.name∈ns)∧H1=[d8 d,.arr 6 [bI d],.arr 1 (sC ns)]∧Sv 118 [(2,.ptr 1 1 0 0),(5,.sl 2 ns.length 0 ns.length)] ρ,?_,?_,?_⟩
  ·exact⟨0,ns,by omega,by omega,(fun z h=>by simp at h),rfl,Sv.intro rfl ⟨rfl,rfl,rfl,trivial⟩⟩
  ·rintro m ρ H1 ⟨k,ns,hk,hn,hv,rfl,dd,rfl⟩
   repeat'((conv=>whnf);first|refine b4 (eL (aZ gR d.models).symm) ?_|refine b4 (eL (aP ns).symm) ?_|refine And.intro (⟨by simp[aQ];omega,by simp[aQ];omega,rfl,(aP ns).symm⟩) ?_|refine aI ?_|refine oA ?_|refine oM fun x hx hm=>?_|((first|apply aK|apply aL|apply aM|apply aF|apply aE)<;>intro h<;>(try simp at h)<;>(try(exfalso;omega))))
   any_goals((conv=>whnf);first|(refine⟨m-1,by omega,Gp.cutN (H:=[d8 d,.arr 6 [bI d],.arr 1 (sC ns++[[.str x.name]])]) rfl ⟨rfl,trivial⟩ ⟨low _,rfl,bV (by rw[eB];exact aO _),trivial⟩ rfl rfl ?_ fun ρ1 h=>⟨k+1,ns++[x.name],by omega,by simp;omega,sJ (fun z h=>List.mem_append_left _ (hv z h)) (by first|assumption|(rw[←Nat.zero_add ((k:Int)).toNat];assumption)) (by simp),by rw[eB],h⟩⟩;exact⟨rfl,eQ (by simp) (by simp),aN (dX (by omega)),trivial⟩)|(refine Gp.cutN (H:=[d8 d,.arr 6 [bI d],.arr 1 (sC ns)]) rfl ⟨rfl,trivial⟩ ⟨low _,rfl,bV (aO _),trivial⟩ rfl rfl ?_ fun ρ1 h=>⟨rfl,ns,by omega,by rwa [List.take_of_length_le (by omega)]at hv,rfl,h⟩;exact⟨rfl,rfl,trivial⟩))
  ·rintro i ρ1 H1 ⟨rfl,ns,hns,hz,rfl,dd,rfl⟩
   conv=>whnf
   refine⟨fun m ρ H1=>∃(k:Nat) (ns:List ByteArray),k+m=d.snaps.length∧ns.length≤128+k∧(∀z∈d.models,z.name∈ns)∧H1=[d8 d,.arr 6 [bI d],.arr 1 (sC ns)]∧Sv 118 [(2,.ptr 1 1 0 0),(5,.sl 2 ns.length 0 ns.length),(9,.int .i64 k)] ρ,d.snaps.length,[],fun i ρ H1=>i=7∧∃ns:List ByteArray,ns.length≤192∧(∀z∈d.models,z.name∈ns)∧H1=[d8 d,.arr 6 [bI d],.arr 1 (sC ns)]∧Sv 118 [(2,.ptr 1 1 0 0),(5,.sl 2 ns.length 0 ns.length)] ρ,?_,?_,?_⟩
   ·exact⟨0,ns,by omega,by omega,hz,rfl,Sv.intro rfl ⟨rfl,rfl,rfl,trivial⟩⟩
   ·rintro m ρ H1 ⟨k,ns,hk,hn,hv,rfl,dd,rfl⟩
    repeat'((conv=>whnf);first|refine b4 (eL (aP ns).symm) ?_|refine And.intro (⟨by simp[aQ];omega,by simp[aQ];omega,rfl,(aP ns).symm⟩) ?_|refine aI ?_|refine oA ?_|refine oM fun x hx hm=>?_|((first|apply aK|apply aL|apply aM|apply aF|apply aE)<;>intro h<;>(try simp at h)<;>(try(exfalso;omega))))
    any_goals((conv=>whnf);first|(refine⟨m-1,by omega,Gp.cutN (H:=[d8 d,.arr 6 [bI d],.arr 1 (sC ns++[[.str x.name]])]) rfl ⟨rfl,trivial⟩ ⟨low _,rfl,bV (by rw[eB];exact aO _),trivial⟩ rfl rfl ?_ fun ρ1 h=>⟨k+1,ns++[x.name],by omega,by simp;omega,(fun z h=>List.mem_append_left _ (hv z h)),by rw[eB],h⟩⟩;exact⟨rfl,eQ (by simp) (by simp),aN (dX (by omega)),trivial⟩)|(refine Gp.cutN (H:=[d8 d,.arr 6 [bI d],.arr 1 (sC ns)]) rfl ⟨rfl,trivial⟩ ⟨low _,rfl,bV (aO _),trivial⟩ rfl rfl ?_ fun ρ1 h=>⟨rfl,ns,by omega,hv,rfl,h⟩;exact⟨rfl,rfl,trivial⟩))
   ·rintro i ρ1 H1 ⟨rfl,ns,hns,hz,rfl,dd,rfl⟩
    conv=>whnf
    exact⟨_,_,by exact rfl,mG (es:=sC ns) P4 rfl (aP ns).symm (aP ns).symm (aO ns),rfl,ns,rfl,by omega,hz⟩
theorem qV(d:qZ)(h1:d.sources.length≤64)(h2:d.models.length≤64)(h3:d.snaps.length≤64):
  cJ pr 135 [d8 d] [.agg (bI d)] (fun r=>∃l:List ByteArray,r=sL l∧l.length≤192∧∀z∈d.models,z.name∈l):=by
 refine bQ k135.has ⟨gW d _,trivial⟩ ?_
 repeat'((conv=>whnf);first|(refine cJ.use [0] (J5 d h1 h2 h3) (by simp) rfl ⟨⟨_,rfl,.same (dY d)⟩,trivial⟩ ⟨fK d rfl,.closed _ rfl,trivial⟩ (fun r hr=>?_);obtain⟨l,rfl,hl⟩:=hr)|refine aI ?_|refine oA ?_|refine oM fun x hx hm=>?_|((first|apply aK|apply aL|apply aM|apply aF|apply aE)<;>intro h<;>(try simp at h)<;>(try(exfalso;omega))))
 any_goals((conv=>whnf);first|exact⟨_,_,by exact rfl,.closed _ rfl,rfl,l,rfl,hl⟩)
set_option maxRecDepth 20000 in
set_option maxHeartbeats 1000000 in
theorem PF(x:Bool)(q:List rC)(hq:Fl lZ q):j5 pr 227 [.list x 6 (mC cD q)] 1 (fun es=>∃l:List ByteArray,es=sC l∧Fl bM l∧l.length≤q.length):=by
 have hql:=hq.1
 refine fA k227.has ?_
 conv=>whnf
 refine⟨fun m ρ H1=>∃(k:Nat) (l:List ByteArray),k+m=q.length∧l.length≤k∧(∀s∈l,bM s)∧H1=[.arr 1 (sC l)]∧Sv 49 [(0,.list x 6 (mC cD q)),(3,.sl 0 l.length 0 l.length),(4,.int .i64 k)] ρ,q.length,[(3,1)],
  fun i ρ H1=>i=0∧∃l:List ByteArray,l.length≤q.length∧(∀s∈l,bM s)∧H1=[.arr 1 (sC l)]∧Sv 49 [(3,.sl 0 l.length 0 l.length)] ρ,?_,?_,?_⟩
 ·exact⟨0,[],by omega,Nat.le_refl _,(fun s h=>by simp at h),rfl,Sv.intro rfl ⟨rfl,rfl,rfl,trivial⟩⟩
 ·rintro m ρ H1 ⟨k,l,hk,hlk,hls,rfl,d,rfl⟩
  have hll:l.length≤100000:=by omega
  repeat'((conv=>whnf);first|refine b4 (eL (aP l).symm) ?_|(refine aC.bor (gD false l hll _) GL (.cons (qR rfl (aP l).symm (aO l)) (.cons (.same _ rfl) .nil)) (fun r hr=>?_);obtain⟨b,rfl,hb⟩:=hr)|refine And.intro (⟨by simp[aQ];omega,by simp[aQ];omega,rfl,(aP l).symm⟩) ?_|refine aI ?_|refine oA ?_|refine oM fun x hx hm=>?_|((first|apply aK|apply aL|apply aM|apply aF|apply aE)<;>intro h<;>(try simp at h)))
  any_goals((conv=>whnf);first|(refine⟨m-1,by omega,Gp.cut (H:=[.arr 1 (sC l)]) rfl ⟨bV (aO l),trivial⟩ rfl rfl ?_ fun ρ1 h=>⟨k+1,l,by omega,by omega,hls,rfl,h⟩⟩;exact⟨rfl,rfl,aN (dX (by omega)),trivial⟩)|(refine⟨m-1,by omega,Gp.cut (H:=[.arr 1 (sC l++[[.str x.src]])]) rfl ⟨bV (by rw[eB];exact aO _),trivial⟩ rfl rfl ?_ fun ρ1 h=>⟨k+1,l++[x.src],by omega,by simp;omega,dE hls (hq.2 x (by assumption)).1,by rw[eB],h⟩⟩;exact⟨rfl,eQ (by simp) (by simp),aN (dX (by omega)),trivial⟩)|(refine Gp.cut (H:=[.arr 1 (sC l)]) rfl ⟨bV (aO l),trivial⟩ rfl rfl ?_ fun ρ1 h=>⟨rfl,l,by omega,hls,rfl,h⟩;exact⟨rfl,trivial⟩))
 ·rintro i ρ1 H1 ⟨rfl,l,hl,hls,rfl,d,rfl⟩
  conv=>whnf
  exact⟨0,_,sC l,rfl,rfl,(aP l).symm,aO l,l,rfl,⟨by omega,hls⟩,hl⟩
theorem W7{H:List aB}{ids:List Nat}(d:qZ):zY H (0::ids) (.arr 6 [bI d]) (.arr 6 [bI d]):=by
 refine .map 6 _ _ rfl (fun i e e1 h1 h2=>by rw[h1]at h2;cases h2;rfl) fun i j e e1 a b h1 h2 h3 h4=>?_
 rw[h1]at h2;cases h2
 rw[h3]at h4;cases h4
 rcases i with _|i
 ·cases h1
  rcases j with _|_|_|_|_|_|j
  ·cases h3;exact⟨.closed _ rfl,rfl⟩
  ·cases h3;exact⟨.closed _ rfl,rfl⟩
  ·cases h3;exact⟨.closed _ rfl,rfl⟩
  ·cases h3
   have:=dV.keep (H1:=H) (n:=0) (ids:=0::ids) 0 d.models.length 0 d.models.length 0 rfl
   rw[Nat.zero_add]at this
   exact⟨this,rfl⟩
  ·cases h3;exact⟨.closed _ rfl,rfl⟩
  ·cases h3;exact⟨.closed _ rfl,rfl⟩
  ·simp[bI]at h3
 ·simp at h1
theorem Gp.swp{n:Nat}{live:List (Nat×a6)}{ρ:List a6}{H':List aB}{I:List a6→List aB→Prop}{d:qZ}{id:Nat}{es:List (List a6)}(hz:H'[0]?=Option.some (d8 d))(h0:H'[1]?=Option.some (.arr 6 [bI d]))(h1:H'[id]?=Option.some (.arr 1 es))(hid:2≤id)(hp:bG es=true)
  (hl:ρ.length=n) (h:lK H' [0,1,id] ρ live) (hI:∀ρ1,Sv n live ρ1→I ρ1 [d8 d,.arr 6 [bI d],.arr 1 es]):Gp ([d8 d].map aB.olen) ρ H' I :=
 Gp.keepL (H1:=[d8 d,.arr 6 [bI d],.arr 1 es]) [0,1,id] (by simp;omega) (bY rfl hz rfl) ⟨⟨_,hz,.same _ _ (dY d)⟩,⟨_,h0,W7 d⟩,⟨_,h1,.same _ _ hp⟩,trivial⟩ hl h hI
theorem XG{H:List aB}{n:Nat}{ids:List Nat}{id ep idx fld m k:Nat}(hk:ids[k]?=some id)(hm:m=n+k):dV H n ids (.ptr id ep idx fld) (.ptr m ep idx fld):=by
 subst hm;exact .keepP _ _ _ _ _ hk
def YB(es:List (List a6))(w:a6):Prop:=(∃l:List ByteArray,es=sC l∧l.length≤100000)∧∃b,w=.bool b
set_option maxRecDepth 20000 in
set_option maxHeartbeats 4000000 in
theorem JM(d:qZ)(nm:ByteArray)(hd:d.F):
  AN pr 181 [d8 d] [.agg (bI d),.str nm] 1 (fun _=>False) YB:=by
 have low:=gW d
 have hql:=hd.q.1
 have hnl:=hd.n.1
 have hsl:=hd.s.1
 refine tY k181.has ⟨dY d,trivial⟩ ?_
 repeat'((conv=>whnf);first|refine aI ?_|refine oA ?_|refine oM fun x hx hm=>?_|((first|apply aK|apply aL|apply aM|apply aF|apply aE)<;>intro h<;>(try simp at h)<;>(try(exfalso;omega))))
 conv=>whnf
 refine⟨fun m ρ H1=>∃(k:Nat) (ns:List ByteArray) (b:Bool),k+m=d.models.length∧ns.length≤100000∧H1=[d8 d,.arr 6 [bI d],.arr 1 (sC ns)]∧Sv 77 [(1,.str nm),(2,.ptr 1 1 0 0),(6,.sl 2 ns.length 0 ns.length),(7,.bool b),(8,.int .i64 k)] ρ,d.models.length,[(6,1)],fun i ρ H1=>i=0∧∃(ns:List ByteArray) (b:Bool),ns.length≤100000∧H1=[d8 d,.arr 6 [bI d],.arr 1 (sC ns)]∧Sv 77 [(1,.str nm),(2,.ptr 1 1 0 0),(6,.sl 2 ns.length 0 ns.length),(7,.bool b)] ρ,?_,?_,?_⟩
 ·exact⟨0,[],false,by omega,by simp,rfl,Sv.intro rfl ⟨rfl,rfl,rfl,rfl,rfl,trivial⟩⟩
 ·rintro m ρ H1 ⟨k,ns,b,hk,hn,rfl,dd,rfl⟩
  repeat'((conv=>whnf);first|refine b4 (eL (aZ gR d.models).symm) ?_|(refine j5.own (PF false _ (hd.q.2 _ (by assumption)).2.2.1) rfl (fun es hs hp=>?_);obtain⟨l,rfl,hl1,hl2⟩:=hs)|refine aI ?_|refine oA ?_|refine oM fun x hx hm=>?_|((first|apply aK|apply aL|apply aM|apply aF|apply aE)<;>intro h<;>(try simp at h)<;>(try(exfalso;omega))))
  any_goals((conv=>whnf);first|(refine⟨m-1,by omega,Gp.cutN (H:=[d8 d,.arr 6 [bI d],.arr 1 (sC ns)]) rfl ⟨rfl,trivial⟩ ⟨low _,rfl,bV (aO _),trivial⟩ rfl rfl ?_ fun ρ1 h=>⟨k+1,ns,b,by omega,hn,rfl,h⟩⟩;exact⟨rfl,rfl,rfl,rfl,aN (dX (by omega)),trivial⟩)|(refine Gp.cutN (H:=[d8 d,.arr 6 [bI d],.arr 1 (sC ns)]) rfl ⟨rfl,trivial⟩ ⟨low _,rfl,bV (aO _),trivial⟩ rfl rfl ?_ fun ρ1 h=>⟨rfl,ns,b,hn,rfl,h⟩;exact⟨rfl,rfl,rfl,rfl,trivial⟩)|(refine⟨m-1,by omega,Gp.swp (id:=3) rfl rfl rfl (by decide) (aO l) rfl ?_ fun ρ1 h=>⟨k+1,l,b,by omega,hl1.1,rfl,h⟩⟩;exact⟨.closed _ rfl,XG (k:=1) rfl rfl,kI (k:=2) rfl rfl (by simp) (by simp),.closed _ rfl,JG (aN (dX (by omega))) rfl,trivial⟩))
 ·rintro i ρ1 H1 ⟨rfl,ns,b,hn,rfl,dd,rfl⟩
  conv=>whnf
  refine⟨fun m ρ H1=>∃(k:Nat) (ns:List ByteArray) (b:Bool),k+m=d.snaps.length∧ns.length≤100000∧H1=[d8 d,.arr 6 [bI d],.arr 1 (sC ns)]∧Sv 77 [(1,.str nm),(2,.ptr 1 1 0 0),(6,.sl 2 ns.length 0 ns.length),(7,.bool b),(9,.int .i64 k)] ρ,d.snaps.length,[],fun i ρ H1=>i=2∧∃(ns:List ByteArray) (b:Bool),ns.length≤100000∧H1=[d8 d,.arr 6 [bI d],.arr 1 (sC ns)]∧Sv 77 [(1,.str nm),(2,.ptr 1 1 0 0),(6,.sl 2 ns.length 0 ns.length),(7,.bool b)] ρ,?_,?_,?_⟩
  ·exact⟨0,ns,b,by omega,hn,rfl,Sv.intro rfl ⟨rfl,rfl,rfl,rfl,rfl,trivial⟩⟩
  ·rintro m ρ H1 ⟨k,ns,b,hk,hn,rfl,dd,rfl⟩
   repeat'((conv=>whnf);first|refine aI ?_|refine oA ?_|refine oM fun x hx hm=>?_|((first|apply aK|apply aL|apply aM|apply aF|apply aE)<;>intro h<;>(try simp at h)<;>(try(exfalso;omega))))
   any_goals((conv=>whnf);first|(refine⟨m-1,by omega,Gp.cutN (H:=[d8 d,.arr 6 [bI d],.arr 1 (sC ns)]) rfl ⟨rfl,trivial⟩ ⟨low _,rfl,bV (aO _),trivial⟩ rfl rfl ?_ fun ρ1 h=>⟨k+1,ns,b,by omega,hn,rfl,h⟩⟩;exact⟨rfl,rfl,rfl,rfl,aN (dX (by omega)),trivial⟩)|(refine Gp.cutN (H:=[d8 d,.arr 6 [bI d],.arr 1 (sC ns)]) rfl ⟨rfl,trivial⟩ ⟨low _,rfl,bV (aO _),trivial⟩ rfl rfl ?_ fun ρ1 h=>⟨rfl,ns,b,hn,rfl,h⟩;exact⟨rfl,rfl,rfl,rfl,trivial⟩))
   rename KP=>y
   conv=>whnf
   refine⟨fun m1 ρ H1=>∃(j:Nat) (b2:Bool),j+m1=d.sources.length∧H1=[d8 d,.arr 6 [bI d],.arr 1 (sC ns),.arr 1 (sC [y.src])]∧Sv 77 [(1,.str nm),(2,.ptr 1 1 0 0),(6,.sl 3 1 0 1),(7,.bool b2),(9,.int .i64 k),(10,.int .i64 j)] ρ,d.sources.length,[],fun i ρ H1=>i=4∧∃b2:Bool,H1=[d8 d,.arr 6 [bI d],.arr 1 (sC ns),.arr 1 (sC [y.src])]∧Sv 77 [(1,.str nm),(2,.ptr 1 1 0 0),(6,.sl 3 1 0 1),(7,.bool b2),(9,.int .i64 k)] ρ,?_,?_,?_⟩
   ·exact⟨0,true,by omega,rfl,Sv.intro rfl ⟨rfl,rfl,rfl,rfl,rfl,rfl,trivial⟩⟩
   ·rintro m1 ρ H1 ⟨j,b2,hj,rfl,dd,rfl⟩
    repeat'((conv=>whnf);first|refine aI ?_|refine oA ?_|refine oM fun x hx hm=>?_|((first|apply aK|apply aL|apply aM|apply aF|apply aE)<;>intro h<;>(try simp at h)<;>(try(exfalso;omega))))
    any_goals((conv=>whnf);first|(refine⟨m1-1,by omega,Gp.cutN (H:=[d8 d,.arr 6 [bI d],.arr 1 (sC ns),.arr 1 (sC [y.src])]) rfl ⟨rfl,trivial⟩ ⟨low _,rfl,bV (aO _),rfl,trivial⟩ rfl rfl ?_ fun ρ1 h=>⟨j+1,b2,by omega,rfl,h⟩⟩;exact⟨rfl,rfl,rfl,rfl,rfl,aN (dX (by omega)),trivial⟩)|(refine⟨m1-1,by omega,Gp.cutN (H:=[d8 d,.arr 6 [bI d],.arr 1 (sC ns),.arr 1 (sC [y.src])]) rfl ⟨rfl,trivial⟩ ⟨low _,rfl,bV (aO _),rfl,trivial⟩ rfl rfl ?_ fun ρ1 h=>⟨j+1,false,by omega,rfl,h⟩⟩;exact⟨rfl,rfl,rfl,rfl,rfl,aN (dX (by omega)),trivial⟩)|(refine Gp.cutN (H:=[d8 d,.arr 6 [bI d],.arr 1 (sC ns),.arr 1 (sC [y.src])]) rfl ⟨rfl,trivial⟩ ⟨low _,rfl,bV (aO _),rfl,trivial⟩ rfl rfl ?_ fun ρ1 h=>⟨rfl,b2,rfl,h⟩;exact⟨rfl,rfl,rfl,rfl,rfl,trivial⟩))
   ·rintro i ρ1 H1 ⟨rfl,b2,rfl,dd,rfl⟩
    conv=>whnf
    refine⟨m-1,by omega,Gp.swp (id:=3) (es:=sC [y.src]) rfl rfl rfl (by decide) (aO _) rfl ?_ fun ρ1 h=>⟨k+1,[y.src],b2,by omega,by simp,rfl,h⟩⟩
    exact⟨.closed _ rfl,XG (k:=1) rfl rfl,kI (k:=2) rfl rfl rfl rfl,.closed _ rfl,JG (aN (dX (by omega))) rfl,trivial⟩
  ·rintro i ρ1 H1 ⟨rfl,ns,b,hn,rfl,dd,rfl⟩
   conv=>whnf
   exact⟨_,by exact rfl,.inr ⟨2,_,sC ns,_,rfl,(by decide:1≤2),rfl,(aP ns).symm,aO _,rfl,⟨ns,rfl,hn⟩,b,rfl⟩⟩
theorem wP(x y:Bool)(a b:List ByteArray)(ha:a.length≤1000000)(hb:b.length≤100000):aC pr 138 [.list x 1 (sC a),.list y 1 (sC b)] DV:=by
 refine aH k138.has rfl ?_
 conv=>whnf
 refine⟨fun m ρ H1=>∃k:Nat,k+m=(a).length∧H1=[]∧Sv 19 [(0,.list x 1 (sC a)),(1,.list y 1 (sC b)),(5,.int .i64 k)] ρ,(a).length,[],fun i ρ H1=>i=0∧H1=[]∧Sv 19 [(0,.list x 1 (sC a))] ρ,?_,?_,?_⟩
 ·exact⟨0,Nat.zero_add _,rfl,Sv.intro rfl ⟨rfl,rfl,rfl,trivial⟩⟩
 ·rintro m ρ H1 ⟨k,hk,rfl,d,rfl⟩
  repeat'((conv=>whnf);first|((first|apply aC.use|apply aC.draw);exact gD y b hb _;rintro r ⟨c,rfl,hc⟩)|refine aI ?_|refine oA ?_|refine oM fun x hx hm=>?_|((first|apply aK|apply aL|apply aM|apply aF|apply aE)<;>intro h<;>(try simp at h)))
  any_goals((conv=>whnf);first|exact FX _|(refine⟨m-1,by omega,Gp.cut (H:=[]) rfl trivial rfl rfl ?_ fun ρ1 h=>⟨k+1,by omega,rfl,h⟩⟩;exact⟨rfl,rfl,aN (dX (by omega)),trivial⟩)|(refine Gp.cut (H:=[]) rfl trivial rfl rfl ?_ fun ρ1 h=>⟨rfl,rfl,h⟩;exact⟨rfl,trivial⟩))
 ·rintro i ρ1 H1 ⟨rfl,rfl,d,rfl⟩
  conv=>whnf
  exact FX _
def QJ(r:a6):Prop:=∃(c:a6) (l:List ByteArray) (e:Int),r=.tuple [c,.int .i64 e]∧gG c (sL l)∧l.length≤300000
def WV(r:a6):Prop:=∃(l:List ByteArray) (e:Int),r=.tuple [sL l,.int .i64 e]∧l.length≤300000
theorem QJ.wk:∀r,QJ r→∃r',gG r r'∧r'.clT=true∧WV r':=by
 rintro r ⟨c,l,e,rfl,hw,hl⟩
 exact⟨_,.tuples (.cons hw (.cons (.refl _) .nil)),rfl,l,e,rfl,hl⟩
theorem XN{H H0 G:List aB}{ids:List Nat}(hH:H=H0++G)(e:Int):∃r G,H=H0++G∧dV H 0 ids (.tuple [.nil,.int .i64 e]) r∧r.clT=true∧QJ r :=
 ⟨_,_,hH,dP (.closed _ rfl) (.closed _ rfl),rfl,.nil,[],e,rfl,.nil _ _,by simp⟩
theorem ZG{H H0 G:List aB}{ids:List Nat}(hH:H=H0++G)(l:List ByteArray)(e:Int)(hl:l.length≤300000):∃r G,H=H0++G∧dV H 0 ids (.tuple [sL l,.int .i64 e]) r∧r.clT=true∧QJ r :=
 ⟨_,_,hH,dP (.closed _ rfl) (.closed _ rfl),rfl,sL l,l,e,rfl,.refl _,hl⟩
set_option maxRecDepth 20000 in
set_option maxHeartbeats 4000000 in
theorem FW(d:qZ)(nm:ByteArray)(hd:d.F)(h1:d.sources.length≤64)(h2:d.models.length≤64)(h3:d.snaps.length≤64):
  cJ pr 136 [d8 d] [.agg (bI d),.str nm] WV:=by
 have low:=gW d
 have hcl:=hd.c.1
 refine cJ.weak ?_ QJ.wk
 refine bQ k136.has ⟨low _,trivial⟩ ?_
 repeat'((conv=>whnf);first|(refine cJ.use [0] (qV d h1 h2 h3) (by simp) rfl ⟨⟨_,rfl,.same (dY d)⟩,trivial⟩ ⟨fK d rfl,trivial⟩ (fun r hr=>?_);obtain⟨all,rfl,hal,hz⟩:=hr)|((first|apply aC.use|apply aC.draw);exact gD false all (by omega) _;rintro r ⟨b,rfl,hb⟩)|refine aI ?_|refine oA ?_|refine oM fun x hx hm=>?_|((first|apply aK|apply aL|apply aM|apply aF|apply aE)<;>intro h<;>(try simp at h)<;>(try(exfalso;omega))))
 any_goals((conv=>whnf);first|exact XN (by exact rfl) _)
 (conv=>whnf);refine AN.use [0] (JM d nm hd) (by simp) rfl ⟨⟨_,rfl,.same (dY d)⟩,trivial⟩ ⟨fK d rfl,.closed _ rfl,trivial⟩ (fun r hr=>hr.elim) (fun es v hr hp=>?_)
 obtain⟨⟨l0,rfl,hl0⟩,wr,rfl⟩:=hr
 conv=>whnf
 refine⟨fun m ρ H1=>∃(k:Nat) (ns:List ByteArray),k+m=d.checks.length∧ns.length≤100000+k∧H1=[d8 d,.arr 6 [bI d],.arr 1 (sC ns)]∧Sv 99 [(1,.str nm),(2,.ptr 1 1 0 0),(6,sL all),(7,.sl 2 ns.length 0 ns.length),(8,.bool wr),(9,.int .i64 k)] ρ,d.checks.length,[],fun i ρ H1=>i=0∧∃ns:List ByteArray,ns.length≤200000∧H1=[d8 d,.arr 6 [bI d],.arr 1 (sC ns)]∧Sv 99 [(6,sL all),(7,.sl 2 ns.length 0 ns.length),(8,.bool wr)] ρ,?_,?_,?_⟩
 ·exact⟨0,l0,by omega,by omega,rfl,Sv.intro rfl ⟨rfl,rfl,rfl,eQ (by simp) (by simp),rfl,rfl,trivial⟩⟩
 ·rintro m ρ H1 ⟨k,ns,hk,hn,rfl,dd,rfl⟩
  repeat'((conv=>whnf);first|refine b4 (eL (aP ns).symm) ?_|refine And.intro (⟨by simp[aQ];omega,by simp[aQ];omega,rfl,(aP ns).symm⟩) ?_|refine aI ?_|refine oA ?_|refine oM fun x hx hm=>?_|((first|apply aK|apply aL|apply aM|apply aF|apply aE)<;>intro h<;>(try simp at h)<;>(try(exfalso;omega))))
  any_goals((conv=>whnf);first|(refine⟨m-1,by omega,Gp.cutN (H:=[d8 d,.arr 6 [bI d],.arr 1 (sC ns++[[.str x.other]])]) rfl ⟨rfl,trivial⟩ ⟨low _,rfl,bV (by rw[eB];exact aO _),trivial⟩ rfl rfl ?_ fun ρ1 h=>⟨k+1,ns++[x.other],by omega,by simp;omega,by rw[eB],h⟩⟩;exact⟨rfl,rfl,rfl,eQ (by simp) (by simp),rfl,aN (dX (by omega)),trivial⟩)|(refine⟨m-1,by omega,Gp.cutN (H:=[d8 d,.arr 6 [bI d],.arr 1 (sC ns)]) rfl ⟨rfl,trivial⟩ ⟨low _,rfl,bV (aO _),trivial⟩ rfl rfl ?_ fun ρ1 h=>⟨k+1,ns,by omega,by omega,rfl,h⟩⟩;exact⟨rfl,rfl,rfl,rfl,rfl,aN (dX (by omega)),trivial⟩)|(refine Gp.cutN (H:=[d8 d,.arr 6 [bI d],.arr 1 (sC ns)]) rfl ⟨rfl,trivial⟩ ⟨low _,rfl,bV (aO _),trivial⟩ rfl rfl ?_ fun ρ1 h=>⟨rfl,ns,by omega,rfl,h⟩;exact⟨rfl,rfl,rfl,trivial⟩))
 ·rintro i ρ1 H1 ⟨rfl,ns,hns,rfl,dd,rfl⟩
  conv=>whnf
  refine⟨fun m ρ H1=>∃(k:Nat) (v:a6) (out:List ByteArray),k+m=ns.length∧((v=.nil∧out=[])∨v=sL out)∧out.length≤k∧H1=[d8 d,.arr 6 [bI d],.arr 1 (sC ns)]∧Sv 99 [(6,sL all),(7,.sl 2 ns.length 0 ns.length),(8,.bool wr),(10,v),(11,.int .i64 k)] ρ,ns.length,[],fun i ρ H1=>i=2∧∃(v:a6) (out:List ByteArray),((v=.nil∧out=[])∨v=sL out)∧out.length≤200000∧H1=[d8 d,.arr 6 [bI d],.arr 1 (sC ns)]∧Sv 99 [(6,sL all),(8,.bool wr),(10,v)] ρ,?_,?_,?_⟩
  ·exact⟨0,.nil,[],by omega,.inl ⟨rfl,rfl⟩,by simp,rfl,Sv.intro rfl ⟨rfl,rfl,rfl,rfl,rfl,trivial⟩⟩
  ·rintro m ρ H1 ⟨k,v,out,hk,hv,ho,rfl,dd,rfl⟩
   rcases hv with⟨rfl,rfl⟩|rfl
   ·repeat'((conv=>whnf);first|((first|apply aC.use|apply aC.draw);exact(HV false [] (by first|(simp;done)|omega) _).args (.cons (.nil _ _) (.cons (.refl _) .nil));rintro r ⟨l1,rfl,hl1,hl2⟩)|refine b4 (eL (aP ns).symm) ?_|refine And.intro (⟨by simp[aQ];omega,by simp[aQ];omega,rfl,(aP ns).symm⟩) ?_|refine aI ?_|refine oA ?_|refine oM fun x hx hm=>?_|((first|apply aK|apply aL|apply aM|apply aF|apply aE)<;>intro h<;>(try simp at h)<;>(try(exfalso;omega))))
    any_goals((conv=>whnf);first|(refine⟨m-1,by omega,Gp.cutN (H:=[d8 d,.arr 6 [bI d],.arr 1 (sC ns)]) rfl ⟨rfl,trivial⟩ ⟨low _,rfl,bV (aO _),trivial⟩ rfl rfl ?_ fun ρ1 h=>⟨k+1,_,l1,by omega,.inr rfl,by first|omega|(simp;done)|(simp at *;omega),rfl,h⟩⟩;exact⟨rfl,rfl,rfl,rfl,aN (dX (by omega)),trivial⟩)|(refine⟨m-1,by omega,Gp.cutN (H:=[d8 d,.arr 6 [bI d],.arr 1 (sC ns)]) rfl ⟨rfl,trivial⟩ ⟨low _,rfl,bV (aO _),trivial⟩ rfl rfl ?_ fun ρ1 h=>⟨k+1,_,[],by omega,.inl ⟨rfl,rfl⟩,by first|omega|(simp;done)|(simp at *;omega),rfl,h⟩⟩;exact⟨rfl,rfl,rfl,rfl,aN (dX (by omega)),trivial⟩)|(refine Gp.cutN (H:=[d8 d,.arr 6 [bI d],.arr 1 (sC ns)]) rfl ⟨rfl,trivial⟩ ⟨low _,rfl,bV (aO _),trivial⟩ rfl rfl ?_ fun ρ1 h=>⟨rfl,_,[],.inl ⟨rfl,rfl⟩,by first|omega|(simp;done)|(simp at *;omega),rfl,h⟩;exact⟨rfl,rfl,rfl,trivial⟩))
   ·repeat'((conv=>whnf);first|((first|apply aC.use|apply aC.draw);exact(HV false out (by first|(simp;done)|omega) _).args (.cons (.refl _) (.cons (.refl _) .nil));rintro r ⟨l1,rfl,hl1,hl2⟩)|refine b4 (eL (aP ns).symm) ?_|refine And.intro (⟨by simp[aQ];omega,by simp[aQ];omega,rfl,(aP ns).symm⟩) ?_|refine aI ?_|refine oA ?_|refine oM fun x hx hm=>?_|((first|apply aK|apply aL|apply aM|apply aF|apply aE)<;>intro h<;>(try simp at h)<;>(try(exfalso;omega))))
    any_goals((conv=>whnf);first|(refine⟨m-1,by omega,Gp.cutN (H:=[d8 d,.arr 6 [bI d],.arr 1 (sC ns)]) rfl ⟨rfl,trivial⟩ ⟨low _,rfl,bV (aO _),trivial⟩ rfl rfl ?_ fun ρ1 h=>⟨k+1,_,l1,by omega,.inr rfl,by first|omega|(simp;done)|(simp at *;omega),rfl,h⟩⟩;exact⟨rfl,rfl,rfl,rfl,aN (dX (by omega)),trivial⟩)|(refine⟨m-1,by omega,Gp.cutN (H:=[d8 d,.arr 6 [bI d],.arr 1 (sC ns)]) rfl ⟨rfl,trivial⟩ ⟨low _,rfl,bV (aO _),trivial⟩ rfl rfl ?_ fun ρ1 h=>⟨k+1,_,out,by omega,.inr rfl,by first|omega|(simp;done)|(simp at *;omega),rfl,h⟩⟩;exact⟨rfl,rfl,rfl,rfl,aN (dX (by omega)),trivial⟩)|(refine Gp.cutN (H:=[d8 d,.arr 6 [bI d],.arr 1 (sC ns)]) rfl ⟨rfl,trivial⟩ ⟨low _,rfl,bV (aO _),trivial⟩ rfl rfl ?_ fun ρ1 h=>⟨rfl,_,out,.inr rfl,by first|omega|(simp;done)|(simp at *;omega),rfl,h⟩;exact⟨rfl,rfl,rfl,trivial⟩))
  ·rintro i ρ1 H1 ⟨rfl,v,out,hv,ho,rfl,dd,rfl⟩
   rcases hv with⟨rfl,rfl⟩|rfl
   ·conv=>whnf
    refine⟨fun m ρ H1=>∃k:Nat,k+m=0∧H1=[d8 d,.arr 6 [bI d],.arr 1 (sC ns)]∧Sv 99 [(6,sL all),(8,.bool wr),(10,.nil),(12,.int .i64 k)] ρ,0,[],fun i ρ H1=>i=4∧H1=[d8 d,.arr 6 [bI d],.arr 1 (sC ns)]∧Sv 99 [(8,.bool wr),(10,.nil)] ρ,?_,?_,?_⟩
    ·exact⟨0,by omega,rfl,Sv.intro rfl ⟨rfl,rfl,rfl,rfl,trivial⟩⟩
    ·rintro m ρ H1 ⟨k,hk,rfl,dd,rfl⟩
     repeat'((conv=>whnf);first|((first|apply aC.use|apply aC.draw);exact gD false all (by omega) _;rintro r ⟨b,rfl,hb⟩)|refine aI ?_|refine oA ?_|refine oM fun x hx hm=>?_|((first|apply aK|apply aL|apply aM|apply aF|apply aE)<;>intro h<;>(try simp at h)<;>(try(exfalso;omega))))
     any_goals((conv=>whnf);first|exact XN (by exact rfl) _|(refine⟨m-1,by omega,Gp.cutN (H:=[d8 d,.arr 6 [bI d],.arr 1 (sC ns)]) rfl ⟨rfl,trivial⟩ ⟨low _,rfl,bV (aO _),trivial⟩ rfl rfl ?_ fun ρ1 h=>⟨k+1,by omega,rfl,h⟩⟩;exact⟨rfl,rfl,rfl,aN (dX (by omega)),trivial⟩)|(refine Gp.cutN (H:=[d8 d,.arr 6 [bI d],.arr 1 (sC ns)]) rfl ⟨rfl,trivial⟩ ⟨low _,rfl,bV (aO _),trivial⟩ rfl rfl ?_ fun ρ1 h=>⟨rfl,rfl,h⟩;exact⟨rfl,rfl,trivial⟩))
    ·rintro i ρ1 H1 ⟨rfl,rfl,dd,rfl⟩
     repeat'((conv=>whnf);first|refine aI ?_|refine oA ?_|refine oM fun x hx hm=>?_|((first|apply aK|apply aL|apply aM|apply aF|apply aE)<;>intro h<;>(try simp at h)<;>(try(exfalso;omega))))
     any_goals((conv=>whnf);first|exact XN (by exact rfl) _|(refine ZG (by exact rfl) _ _ ?_;omega))
   ·conv=>whnf
    refine⟨fun m ρ H1=>∃k:Nat,k+m=out.length∧H1=[d8 d,.arr 6 [bI d],.arr 1 (sC ns)]∧Sv 99 [(6,sL all),(8,.bool wr),(10,sL out),(12,.int .i64 k)] ρ,out.length,[],fun i ρ H1=>i=4∧H1=[d8 d,.arr 6 [bI d],.arr 1 (sC ns)]∧Sv 99 [(8,.bool wr),(10,sL out)] ρ,?_,?_,?_⟩
    ·exact⟨0,by omega,rfl,Sv.intro rfl ⟨rfl,rfl,rfl,rfl,trivial⟩⟩
    ·rintro m ρ H1 ⟨k,hk,rfl,dd,rfl⟩
     repeat'((conv=>whnf);first|((first|apply aC.use|apply aC.draw);exact gD false all (by omega) _;rintro r ⟨b,rfl,hb⟩)|refine aI ?_|refine oA ?_|refine oM fun x hx hm=>?_|((first|apply aK|apply aL|apply aM|apply aF|apply aE)<;>intro h<;>(try simp at h)<;>(try(exfalso;omega))))
     any_goals((conv=>whnf);first|exact XN (by exact rfl) _|(refine⟨m-1,by omega,Gp.cutN (H:=[d8 d,.arr 6 [bI d],.arr 1 (sC ns)]) rfl ⟨rfl,trivial⟩ ⟨low _,rfl,bV (aO _),trivial⟩ rfl rfl ?_ fun ρ1 h=>⟨k+1,by omega,rfl,h⟩⟩;exact⟨rfl,rfl,rfl,aN (dX (by omega)),trivial⟩)|(refine Gp.cutN (H:=[d8 d,.arr 6 [bI d],.arr 1 (sC ns)]) rfl ⟨rfl,trivial⟩ ⟨low _,rfl,bV (aO _),trivial⟩ rfl rfl ?_ fun ρ1 h=>⟨rfl,rfl,h⟩;exact⟨rfl,rfl,trivial⟩))
    ·rintro i ρ1 H1 ⟨rfl,rfl,dd,rfl⟩
     repeat'((conv=>whnf);first|refine aI ?_|refine oA ?_|refine oM fun x hx hm=>?_|((first|apply aK|apply aL|apply aM|apply aF|apply aE)<;>intro h<;>(try simp at h)<;>(try(exfalso;omega))))
     any_goals((conv=>whnf);first|exact XN (by exact rfl) _|(refine ZG (by exact rfl) _ _ ?_;omega))
theorem BZ{α:Type}:∀(o l:List α),o.Nodup→(∀s∈o,s∈l)→o.length≤l.length
 |[],l,_,_=>Nat.zero_le _
 |a::t,l,hn,hs=>by
  obtain⟨l1,l2,rfl⟩:=List.append_of_mem (hs a (List.mem_cons_self ..))
  rw[List.nodup_cons]at hn
  have:=BZ t (l1++l2) hn.2 fun s h=>by
   have h1:=hs s (List.mem_cons_of_mem _ h)
   rcases List.mem_append.1 h1 with h2|h2
   ·exact List.mem_append_left _ h2
   ·rcases List.mem_cons.1 h2 with rfl|h3
    ·exact absurd h hn.1
    ·exact List.mem_append_right _ h3
  simp at this ⊢
  omega
theorem P2{α:Type}{o l:List α}(hn:o.Nodup)(hs:∀s∈o,s∈l)(hl:o.length=l.length):∀x∈l,x∈o:=fun x hx=>by
 refine Classical.byContradiction fun h=>?_
 have:=BZ (x::o) l (List.nodup_cons.2 ⟨h,hn⟩) fun s hs'=>by
  rcases List.mem_cons.1 hs' with rfl|h'
  ·exact hx
  ·exact hs s h'
 simp at this
 omega
theorem M6{α:Type}{o:List α}{x:α}(hn:o.Nodup)(h:x∉o):(o++[x]).Nodup:=by
 rw[List.nodup_append]
 exact⟨hn,by simp,fun a ha b hb=>by simp at hb;subst hb;exact fun e=>h (e▸ha)⟩
theorem TQ{s t:ByteArray}:ON s t=true↔s=t:=by
 unfold ON
 rw[beq_iff_eq]
 exact⟨fun h=>ByteArray.ext (Array.toList_inj.1 h),fun h=>by rw[h]⟩
def QC(l:List ByteArray):List a6:=[sL l]
theorem kM(n:List ByteArray):(QC n).all a6.isPure=true:=rfl
def TG(p:List ByteArray→Prop)(r:a6):Prop:=∃(c:a6) (o:List ByteArray) (e:Int),r=.tuple [c,.int .i64 e]∧gG c (sL o)∧o.length≤192∧(e=0→p o)
def WS(p:List ByteArray→Prop)(r:a6):Prop:=∃(o:List ByteArray) (e:Int),r=.tuple [sL o,.int .i64 e]∧o.length≤192∧(e=0→p o)
theorem TG.wk{p:List ByteArray→Prop}:∀r,TG p r→∃r',gG r r'∧r'.clT=true∧WS p r':=by
 rintro r ⟨c,o,e,rfl,hw,hl,h⟩
 exact⟨_,.tuples (.cons hw (.cons (.refl _) .nil)),rfl,o,e,rfl,hl,h⟩
theorem XF{p:List ByteArray→Prop}{H H0 G:List aB}{ids:List Nat}(hH:H=H0++G)(e:Int)(he:e≠0):∃r G,H=H0++G∧dV H 0 ids (.tuple [.nil,.int .i64 e]) r∧r.clT=true∧TG p r :=
 ⟨_,_,hH,dP (.closed _ rfl) (.closed _ rfl),rfl,.nil,[],e,rfl,.nil _ _,by simp,fun h=>absurd h he⟩
theorem NN{u:Bool}{x:ByteArray}{o:List ByteArray}(hu:u=true↔∃t,t∈o∧ON x t=true)(h:u=false):x∉o:=fun hx=>by
 have:=hu.2 ⟨x,hx,TQ.2 rfl⟩
 rw[h]at this;cases this
theorem O5:∀r,DV r→r.scalar=true:=by rintro _ ⟨b,rfl⟩;rfl
abbrev U3(d:qZ)(L:List (List ByteArray)):List aB:=[d8 d,.arr 6 [bI d],.arr 1 (mC QC L)]
abbrev QB(d:qZ)(L:List (List ByteArray))(o:List ByteArray):List aB:=[d8 d,.arr 6 [bI d],.arr 1 (mC QC L),.arr 1 (sC o)]
set_option maxRecDepth 20000 in
set_option maxHeartbeats 4000000 in
theorem JC(d:qZ)(hd:d.F)(hm:d.macros.length=0):
  cJ pr 84 [d8 d] [.agg (bI d)] (WS (fun o=>(∀c∈d.checks,Ck c)∧∀z∈d.models,z.name∈o)):=by
 have low:=gW d
 have hcl:=hd.c.1
 refine cJ.weak ?_ TG.wk
 refine bQ k84.has ⟨low _,trivial⟩ ?_
 repeat'((conv=>whnf);first|(refine cJ.use [0] (Q2 d hd hm) (by simp) rfl ⟨⟨_,rfl,.same (dY d)⟩,trivial⟩ ⟨fK d rfl,trivial⟩ (fun r hr=>?_);obtain⟨c,rfl,hv⟩:=hr)|refine aI ?_|refine oA ?_|refine oM fun x hx hm=>?_|((first|apply aK|apply aL|apply aM|apply aF|apply aE)<;>intro h<;>(try simp at h)<;>(try(exfalso;omega))))
 any_goals((conv=>whnf);first|exact XF (by exact rfl) _ (by assumption))
 obtain⟨h2,h3,h1,hck⟩:=hv (by assumption)
 (conv=>whnf);refine cJ.use [0] (qV d h1 h2 h3) (by simp) rfl ⟨⟨_,rfl,.same (dY d)⟩,trivial⟩ ⟨fK d rfl,trivial⟩ (fun r hr=>?_)
 obtain⟨all,rfl,hal,hz⟩:=hr
 conv=>whnf
 refine⟨fun m ρ H1=>∃(k:Nat) (L:List (List ByteArray)),k+m=all.length∧L.length=k∧(∀l∈L,l.length≤300000)∧H1=U3 d L∧Sv 125 [(1,.ptr 1 1 0 0),(5,sL all),(6,.sl 2 L.length 0 L.length),(7,.int .i64 k)] ρ,all.length,[(6,1)],fun i ρ H1=>i=0∧∃L:List (List ByteArray),L.length=all.length∧(∀l∈L,l.length≤300000)∧H1=U3 d L∧Sv 125 [(1,.ptr 1 1 0 0),(5,sL all),(6,.sl 2 L.length 0 L.length)] ρ,?_,?_,?_⟩
 ·exact⟨0,[],by omega,rfl,(fun l h=>by simp at h),rfl,Sv.intro rfl ⟨rfl,rfl,rfl,rfl,trivial⟩⟩
 ·rintro m ρ H1 ⟨k,L,hk,hL,hLs,rfl,dd,rfl⟩
  repeat'((conv=>whnf);first|(refine cJ.use [0] (FW d _ hd h1 h2 h3) (by simp) rfl ⟨⟨_,rfl,.same (dY d)⟩,trivial⟩ ⟨fK d rfl,.closed _ rfl,trivial⟩ (fun r hr=>?_);obtain⟨l,e,rfl,hl⟩:=hr)|refine b4 (eL (aZ QC L).symm) ?_|refine And.intro (⟨by simp[aQ];omega,by simp[aQ];omega,rfl,(aZ QC L).symm⟩) ?_|refine aI ?_|refine oA ?_|refine oM fun x hx hm=>?_|((first|apply aK|apply aL|apply aM|apply aF|apply aE)<;>intro h<;>(try simp at h)<;>(try(exfalso;omega))))
  any_goals((conv=>whnf);first|exact XF (by exact rfl) _ (by assumption)|(refine⟨m-1,by omega,Gp.cutN (H:=U3 d (L++[l])) (by rw[U3,dD];rfl) ⟨rfl,trivial⟩ ⟨low _,rfl,bV (aV kM _),trivial⟩ rfl rfl ?_ fun ρ1 h=>⟨k+1,L++[l],by omega,by simp;omega,dE hLs hl,rfl,h⟩⟩;exact⟨rfl,rfl,eQ (by simp) (by simp),aN (dX (by omega)),trivial⟩)|(refine Gp.cutN (H:=U3 d L) rfl ⟨rfl,trivial⟩ ⟨low _,rfl,bV (aV kM _),trivial⟩ rfl rfl ?_ fun ρ1 h=>⟨rfl,L,by omega,hLs,rfl,h⟩;exact⟨rfl,rfl,rfl,trivial⟩))
 ·rintro i ρ1 H1 ⟨rfl,L,hL,hLs,rfl,dd,rfl⟩
  conv=>whnf
  refine⟨fun m ρ H1=>∃k:Nat,k+m=d.checks.length∧H1=U3 d L∧Sv 125 [(1,.ptr 1 1 0 0),(5,sL all),(6,.sl 2 L.length 0 L.length),(10,.int .i64 k)] ρ,d.checks.length,[],fun i ρ H1=>i=2∧H1=U3 d L∧Sv 125 [(1,.ptr 1 1 0 0),(5,sL all),(6,.sl 2 L.length 0 L.length)] ρ,?_,?_,?_⟩
  ·exact⟨0,by omega,rfl,Sv.intro rfl ⟨rfl,rfl,rfl,rfl,trivial⟩⟩
  ·rintro m ρ H1 ⟨k,hk,rfl,dd,rfl⟩
   repeat'((conv=>whnf);first|((first|apply aC.use|apply aC.draw);exact gD false all (by omega) _;rintro r ⟨b,rfl,hb⟩)|refine aI ?_|refine oA ?_|refine oM fun x hx hm=>?_|((first|apply aK|apply aL|apply aM|apply aF|apply aE)<;>intro h<;>(try simp at h)<;>(try(exfalso;omega))))
   any_goals((conv=>whnf);first|exact XF (by exact rfl) _ (by decide)|(refine⟨m-1,by omega,Gp.cutN (H:=U3 d L) rfl ⟨rfl,trivial⟩ ⟨low _,rfl,bV (aV kM _),trivial⟩ rfl rfl ?_ fun ρ1 h=>⟨k+1,by omega,rfl,h⟩⟩;exact⟨rfl,rfl,rfl,aN (dX (by omega)),trivial⟩)|(refine Gp.cutN (H:=U3 d L) rfl ⟨rfl,trivial⟩ ⟨low _,rfl,bV (aV kM _),trivial⟩ rfl rfl ?_ fun ρ1 h=>⟨rfl,rfl,h⟩;exact⟨rfl,rfl,rfl,trivial⟩))
  ·rintro i ρ1 H1 ⟨rfl,rfl,dd,rfl⟩
   conv=>whnf
   refine⟨fun m ρ H1=>∃(k:Nat) (o:List ByteArray),k+m=all.length∧o.length=k∧o.Nodup∧(∀s∈o,s∈all)∧H1=QB d L o∧Sv 125 [(5,sL all),(6,.sl 2 L.length 0 L.length),(12,.sl 3 o.length 0 o.length),(74,.int .i64 ((sC all).length:Nat)),(75,.int .i64 k)] ρ,all.length,[(12,1)],fun i ρ H1=>i=4∧∃o:List ByteArray,o.length=all.length∧o.Nodup∧(∀s∈o,s∈all)∧H1=QB d L o∧Sv 125 [(12,.sl 3 o.length 0 o.length)] ρ,?_,?_,?_⟩
   ·exact⟨0,[],by omega,rfl,List.nodup_nil,(fun s h=>by simp at h),rfl,Sv.intro rfl ⟨rfl,rfl,rfl,rfl,rfl,trivial⟩⟩
   ·rintro m ρ H1 ⟨k,o,hk,ho,hnd,hoa,rfl,dd,rfl⟩
    repeat'((conv=>whnf);first|refine aI ?_|refine oA ?_|refine oM fun x hx hm=>?_|((first|apply aK|apply aL|apply aM|apply aF|apply aE)<;>intro h<;>(try simp at h)<;>(try(exfalso;omega))))
    any_goals((conv=>whnf);first|(refine Gp.cutN (H:=QB d L o) rfl ⟨rfl,trivial⟩ ⟨low _,rfl,bV (aV kM _),bV (aO _),trivial⟩ rfl rfl ?_ fun ρ1 h=>⟨rfl,o,by omega,hnd,hoa,rfl,h⟩;exact⟨rfl,trivial⟩))
    conv=>whnf
    refine⟨fun m1 ρ H1=>∃(j:Nat) (b:Int),j+m1=all.length∧(b = -1∨(0≤b∧∃x,all[b.toNat]?=some x∧x∉o))∧H1=QB d L o∧Sv 125 [(5,sL all),(6,.sl 2 L.length 0 L.length),(12,.sl 3 o.length 0 o.length),(13,.int .i64 b),(14,.int .i64 j),(74,.int .i64 ((sC all).length:Nat)),(75,.int .i64 k)] ρ,all.length,[],fun i ρ H1=>i=6∧∃b:Int,(b = -1∨(0≤b∧∃x,all[b.toNat]?=some x∧x∉o))∧H1=QB d L o∧Sv 125 [(5,sL all),(6,.sl 2 L.length 0 L.length),(12,.sl 3 o.length 0 o.length),(13,.int .i64 b),(74,.int .i64 ((sC all).length:Nat)),(75,.int .i64 k)] ρ,?_,?_,?_⟩
    ·exact⟨0,-1,by omega,.inl rfl,rfl,Sv.intro rfl ⟨rfl,rfl,rfl,rfl,rfl,rfl,rfl,trivial⟩⟩
    ·rintro m1 ρ H1 ⟨j,b,hj,hb,rfl,dd,rfl⟩
     rcases Nat.lt_or_ge j all.length with hjl|hjl
     ·obtain⟨x,hx0⟩:∃x,all[j]?=some x:=⟨all[j],List.getElem?_eq_getElem hjl⟩
      obtain⟨l,hl0⟩:∃l,L[j]?=some l:=⟨L[j]'(by omega),List.getElem?_eq_getElem (by omega)⟩
      have hx:(sC all)[((j:Nat):Int).toNat]?=some [.str x]:=mI hx0
      have hl:(mC QC L)[((j:Nat):Int).toNat]?=some (QC l):=oY hl0
      have hl2:(mC QC L)[0+((j:Nat):Int).toNat]?=some (QC l):=by rw[Nat.zero_add];exact hl
      have hall:=aP all
      have hmm:=aZ QC L
      rcases hb with rfl|⟨hb0,y,hy0,hyo⟩
      ·repeat'(first|refine aT hx ?_|refine aT hl ?_|((conv=>whnf);first|(refine aC.bor (gD false o (by omega) _) GL (.cons (qR rfl (aP o).symm (aO o)) (.cons (.same _ rfl) .nil)) (fun r hr=>?_);obtain⟨u,rfl,hu⟩:=hr)|(refine aC.bor (wP false false l o (Nat.le_trans (hLs _ (List.mem_of_getElem? hl0)) (by decide)) (by omega)) O5 (.cons (.same _ rfl) (.cons (qR rfl (aP o).symm (aO o)) .nil)) (fun r hr=>?_);obtain⟨u2,rfl⟩:=hr)|refine b8 hl2 ?_|refine b4 (eL (aZ QC L).symm) ?_|refine And.intro (by exact rfl) ?_|refine And.intro (by first|omega|(simp<;>omega)|(simp[aQ]<;>omega)) ?_|((first|refine aK (fun h=>?_) (fun h=>?_)|refine aF (fun h=>?_) (fun h=>?_)|refine aE (fun h=>?_) (fun h=>?_))<;>(try simp at h)<;>(try(exfalso;omega)))))
       any_goals((conv=>whnf);first|(refine⟨m1-1,by omega,Gp.cutN (H:=QB d L o) rfl ⟨rfl,trivial⟩ ⟨low _,rfl,bV (aV kM _),bV (aO _),trivial⟩ rfl rfl ?_ fun ρ1 h=>⟨j+1,-1,by omega,.inl rfl,rfl,h⟩⟩;exact⟨rfl,rfl,rfl,rfl,aN (dX (by omega)),rfl,rfl,trivial⟩)|(refine⟨m1-1,by omega,Gp.cutN (H:=QB d L o) rfl ⟨rfl,trivial⟩ ⟨low _,rfl,bV (aV kM _),bV (aO _),trivial⟩ rfl rfl ?_ fun ρ1 h=>⟨j+1,((j:Nat):Int),by omega,.inr ⟨by omega,x,by simpa using hx0,NN hu (by assumption)⟩,rfl,h⟩⟩;exact⟨rfl,rfl,rfl,rfl,aN (dX (by omega)),rfl,rfl,trivial⟩))
      ·have hy:(sC all)[b.toNat]?=some [.str y]:=mI hy0
       have hbl:=(List.getElem?_eq_some_iff.1 hy0).1
       repeat'(first|refine aT hx ?_|refine aT hl ?_|refine aT hy ?_|((conv=>whnf);first|(refine aC.bor (gD false o (by omega) _) GL (.cons (qR rfl (aP o).symm (aO o)) (.cons (.same _ rfl) .nil)) (fun r hr=>?_);obtain⟨u,rfl,hu⟩:=hr)|(refine aC.bor (wP false false l o (Nat.le_trans (hLs _ (List.mem_of_getElem? hl0)) (by decide)) (by omega)) O5 (.cons (.same _ rfl) (.cons (qR rfl (aP o).symm (aO o)) .nil)) (fun r hr=>?_);obtain⟨u2,rfl⟩:=hr)|refine b8 hl2 ?_|refine b4 (eL (aZ QC L).symm) ?_|refine And.intro (by exact rfl) ?_|refine And.intro (by first|omega|(simp<;>omega)|(simp[aQ]<;>omega)) ?_|((first|refine aK (fun h=>?_) (fun h=>?_)|refine aF (fun h=>?_) (fun h=>?_)|refine aE (fun h=>?_) (fun h=>?_))<;>(try simp at h)<;>(try(exfalso;omega)))))
       any_goals((conv=>whnf);first|(refine⟨m1-1,by omega,Gp.cutN (H:=QB d L o) rfl ⟨rfl,trivial⟩ ⟨low _,rfl,bV (aV kM _),bV (aO _),trivial⟩ rfl rfl ?_ fun ρ1 h=>⟨j+1,b,by omega,.inr ⟨hb0,y,hy0,hyo⟩,rfl,h⟩⟩;exact⟨rfl,rfl,rfl,rfl,aN (dX (by omega)),rfl,rfl,trivial⟩)|(refine⟨m1-1,by omega,Gp.cutN (H:=QB d L o) rfl ⟨rfl,trivial⟩ ⟨low _,rfl,bV (aV kM _),bV (aO _),trivial⟩ rfl rfl ?_ fun ρ1 h=>⟨j+1,((j:Nat):Int),by omega,.inr ⟨by omega,x,by simpa using hx0,NN hu (by assumption)⟩,rfl,h⟩⟩;exact⟨rfl,rfl,rfl,rfl,aN (dX (by omega)),rfl,rfl,trivial⟩))
     ·(conv=>whnf);refine s8 (by simp;omega) ?_
      conv=>whnf
      refine Gp.cutN (H:=QB d L o) rfl ⟨rfl,trivial⟩ ⟨low _,rfl,bV (aV kM _),bV (aO _),trivial⟩ rfl rfl ?_ fun ρ1 h=>⟨rfl,b,hb,rfl,h⟩
      exact⟨rfl,rfl,rfl,rfl,rfl,rfl,trivial⟩
    ·rintro i ρ1 H1 ⟨rfl,b,hb,rfl,dd,rfl⟩
     rcases hb with rfl|⟨hb0,y,hy0,hyo⟩
     ·repeat'((conv=>whnf);first|refine aI ?_|refine oA ?_|refine oM fun x hx hm=>?_|((first|apply aK|apply aL|apply aM|apply aF|apply aE)<;>intro h<;>(try simp at h)<;>(try(exfalso;omega))))
      any_goals((conv=>whnf);first|exact XF (by exact rfl) _ (by decide))
     ·have hy:(sC all)[b.toNat]?=some [.str y]:=mI hy0
      have hbl:=(List.getElem?_eq_some_iff.1 hy0).1
      have hall:=aP all
      repeat'((conv=>whnf);first|refine b8 hy ?_|refine b4 (eL (aP o).symm) ?_|refine And.intro (⟨by simp[aQ];omega,by simp[aQ];omega,rfl,(aP o).symm⟩) ?_|refine aI ?_|refine oA ?_|refine oM fun x hx hm=>?_|((first|apply aK|apply aL|apply aM|apply aF|apply aE)<;>intro h<;>(try simp at h)<;>(try(exfalso;omega))))
      any_goals((conv=>whnf);first|exact XF (by exact rfl) _ (by decide)|(refine⟨m-1,by omega,Gp.cutN (H:=QB d L (o++[y])) (by rw[QB,jV];rfl) ⟨rfl,trivial⟩ ⟨low _,rfl,bV (aV kM _),bV (aO _),trivial⟩ rfl rfl ?_ fun ρ1 h=>⟨k+1,o++[y],by omega,by simp;omega,M6 hnd hyo,dE hoa (List.mem_of_getElem? hy0),rfl,h⟩⟩;exact⟨rfl,rfl,eQ (by simp) (by simp),rfl,aN (dX (by omega)),trivial⟩))
   ·rintro i ρ1 H1 ⟨rfl,o,ho,hnd,hoa,rfl,dd,rfl⟩
    conv=>whnf
    exact⟨_,_,by exact rfl,dP (mG (es:=sC o) P4 rfl (aP o).symm (aP o).symm (aO o)) (.closed _ rfl),rfl,_,o,0,rfl,.refl _,by omega,fun _=>⟨hck,fun z h=>P2 hnd hoa ho _ (hz z h)⟩⟩
def TH(d:qZ)(r:a6):Prop:=∃(c:a6) (L:List jL) (e:Int),r=.tuple [c,.int .i64 e]∧gG c (.list false 4 (mC bR L))∧L.length≤192∧(∀x∈L,nF x∧Cz x.cols)∧(e=0→∀z∈d.models,∃x∈L,x.name=z.name)
def VE(d:qZ)(r:a6):Prop:=∃(L:List jL) (e:Int),r=.tuple [.list false 4 (mC bR L),.int .i64 e]∧L.length≤192∧(∀x∈L,nF x∧Cz x.cols)∧(e=0→∀z∈d.models,∃x∈L,x.name=z.name)
theorem TH.wk{d:qZ}:∀r,TH d r→∃r',gG r r'∧r'.clT=true∧VE d r':=by
 rintro r ⟨c,L,e,rfl,hw,hl,hx,h⟩
 exact⟨_,.tuples (.cons hw (.cons (.refl _) .nil)),rfl,L,e,rfl,hl,hx,h⟩
theorem Y4{d:qZ}{H H0 G:List aB}{ids:List Nat}(hH:H=H0++G)(e:Int)(he:e≠0):∃r G,H=H0++G∧dV H 0 ids (.tuple [.nil,.int .i64 e]) r∧r.clT=true∧TH d r :=
 ⟨_,_,hH,dP (.closed _ rfl) (.closed _ rfl),rfl,.nil,[],e,rfl,.nil _ _,by simp,(fun x h=>by simp at h),fun h=>absurd h he⟩
theorem RM{o:List ByteArray}{L:List jL}{k:Nat}{s:ByteArray}{y:jL}(h:∀s∈o.take k,∃x∈L,x.name=s)(hs:o[((k:Nat):Int).toNat]?=some s)(hy:y.name=s):∀s∈o.take (k+1),∃x∈L++[y],x.name=s :=
 sJ (p:=fun s=>∃x∈L++[y],x.name=s) (fun s hs=>by
  obtain⟨x,h1,h2⟩:=h s hs
  exact⟨x,List.mem_append_left _ h1,h2⟩) hs ⟨y,by simp,hy⟩
theorem XH{e:List a6}(h:e.all a6.isPure=true):bG [e]=true:=by simpa[bG]using h
abbrev U7(d:qZ)(L:List jL):List aB:=[d8 d,.arr 6 [bI d],i8 L]
set_option maxRecDepth 20000 in
set_option maxHeartbeats 4000000 in
theorem u4(d:qZ)(hd:d.F)(hm:d.macros.length=0)(hsc:∀s∈d.sources,Cz s.cols):
  cJ pr 32 [d8 d] [.agg (bI d)] (VE d):=by
 have low:=gW d
 have hcl:=hd.c.1
 refine cJ.weak ?_ TH.wk
 refine bQ k32.has ⟨low _,trivial⟩ ?_
 repeat'((conv=>whnf);first|(refine cJ.use [0] (JC d hd hm) (by simp) rfl ⟨⟨_,rfl,.same (dY d)⟩,trivial⟩ ⟨fK d rfl,trivial⟩ (fun r hr=>?_);obtain⟨o,e,rfl,hol,ho⟩:=hr)|(refine cJ.use [0] (M9 d hd) (by simp) rfl ⟨⟨_,rfl,.same (dY d)⟩,trivial⟩ ⟨fK d rfl,trivial⟩ (fun r hr=>?_);obtain⟨b,rfl⟩:=hr)|refine aI ?_|refine oA ?_|refine oM fun x hx hm=>?_|((first|apply aK|apply aL|apply aM|apply aF|apply aE)<;>intro h<;>(try simp at h)<;>(try(exfalso;omega))))
 any_goals((conv=>whnf);first|exact Y4 (by exact rfl) _ (by assumption)|exact Y4 (by exact rfl) _ (by decide))
 obtain⟨hck,hz⟩:=ho (by assumption)
 refine⟨fun m ρ H1=>∃(k:Nat) (L:List jL),k+m=o.length∧L.length=k∧(∀x∈L,nF x∧Cz x.cols)∧(∀s∈o.take k,∃x∈L,x.name=s)∧H1=U7 d L∧Sv 64 [(1,.ptr 1 1 0 0),(4,sL o),(6,.sl 2 L.length 0 L.length),(7,.int .i64 k)] ρ,o.length,[(6,4)],fun i ρ H1=>i=0∧∃L:List jL,L.length=o.length∧(∀x∈L,nF x∧Cz x.cols)∧(∀s∈o,∃x∈L,x.name=s)∧H1=U7 d L∧Sv 64 [(1,.ptr 1 1 0 0),(6,.sl 2 L.length 0 L.length)] ρ,?_,?_,?_⟩
 ·exact⟨0,[],by omega,rfl,(fun x h=>by simp at h),(fun x h=>by simp at h),rfl,Sv.intro rfl ⟨rfl,rfl,rfl,rfl,trivial⟩⟩
 ·rintro m ρ H1 ⟨k,L,hk,hL,hLs,hn,rfl,dd,rfl⟩
  repeat'((conv=>whnf);first|(refine cJ.use [0,2] (CG d _ L hd ⟨by omega,fun x hx=>(hLs x hx).1⟩ (by omega) hsc) (by simp) rfl ⟨⟨_,rfl,.same (dY d)⟩,⟨_,rfl,.same (aV cI L)⟩,trivial⟩ ⟨fK d rfl,.closed _ rfl,pF rfl rfl rfl,trivial⟩ (fun r hr=>?_);obtain⟨y,e,rfl,hy⟩:=hr)|refine b4 ((bS _)) ?_|refine b4 (XH (cI y)) ?_|refine b4 (eL (aZ bR L).symm) ?_|refine And.intro (⟨by simp[aQ];omega,by simp[aQ];omega,rfl,(aZ bR L).symm⟩) ?_|refine aI ?_|refine oA ?_|refine oM fun x hx hm=>?_|((first|apply aK|apply aL|apply aM|apply aF|apply aE)<;>intro h<;>(try simp at h)<;>(try(exfalso;omega))))
  any_goals((conv=>whnf);first|exact Y4 (by exact rfl) _ (by assumption)|(refine⟨m-1,by omega,Gp.cutN (H:=U7 d (L++[y])) (by rw[U7,i8,dD];rfl) ⟨rfl,trivial⟩ ⟨low _,rfl,bP _ _,trivial⟩ rfl rfl ?_ fun ρ1 h=>⟨k+1,L++[y],by omega,by simp;omega,dE hLs ⟨(hy (by assumption)).1,(hy (by assumption)).2.2⟩,RM hn (by assumption) (hy (by assumption)).2.1,rfl,h⟩⟩;exact⟨rfl,rfl,eQ (by simp) (by simp),aN (dX (by omega)),trivial⟩)|(refine Gp.cutN (H:=U7 d L) rfl ⟨rfl,trivial⟩ ⟨low _,rfl,bP _ _,trivial⟩ rfl rfl ?_ fun ρ1 h=>⟨rfl,L,by omega,hLs,by rwa [List.take_of_length_le (by omega)]at hn,rfl,h⟩;exact⟨rfl,rfl,trivial⟩))
 ·rintro i ρ1 H1 ⟨rfl,L,hL,hLs,hn,rfl,dd,rfl⟩
  conv=>whnf
  refine⟨fun m ρ H1=>∃k:Nat,k+m=d.checks.length∧H1=U7 d L∧Sv 64 [(1,.ptr 1 1 0 0),(6,.sl 2 L.length 0 L.length),(10,.int .i64 k)] ρ,d.checks.length,[],fun i ρ H1=>i=2∧H1=U7 d L∧Sv 64 [(6,.sl 2 L.length 0 L.length)] ρ,?_,?_,?_⟩
  ·exact⟨0,by omega,rfl,Sv.intro rfl ⟨rfl,rfl,rfl,trivial⟩⟩
  ·rintro m ρ H1 ⟨k,hk,rfl,dd,rfl⟩
   repeat'((conv=>whnf);first|(refine cJ.use [0,2] (I4 d _ L hd (hd.c.2 _ (by assumption)) (hck _ (by assumption)) ⟨by omega,fun x hx=>(hLs x hx).1⟩) (by simp) rfl ⟨⟨_,rfl,.same (dY d)⟩,⟨_,rfl,.same (aV cI L)⟩,trivial⟩ ⟨fK d rfl,.closed _ rfl,pF rfl rfl rfl,trivial⟩ (fun r hr=>?_);obtain⟨e,rfl⟩:=hr)|refine aI ?_|refine oA ?_|refine oM fun x hx hm=>?_|((first|apply aK|apply aL|apply aM|apply aF|apply aE)<;>intro h<;>(try simp at h)<;>(try(exfalso;omega))))
   any_goals((conv=>whnf);first|exact Y4 (by exact rfl) _ (by assumption)|(refine⟨m-1,by omega,Gp.cutN (H:=U7 d L) rfl ⟨rfl,trivial⟩ ⟨low _,rfl,bP _ _,trivial⟩ rfl rfl ?_ fun ρ1 h=>⟨k+1,by omega,rfl,h⟩⟩;exact⟨rfl,rfl,aN (dX (by omega)),trivial⟩)|(refine Gp.cutN (H:=U7 d L) rfl ⟨rfl,trivial⟩ ⟨low _,rfl,bP _ _,trivial⟩ rfl rfl ?_ fun ρ1 h=>⟨rfl,rfl,h⟩;exact⟨rfl,trivial⟩))
  ·rintro i ρ1 H1 ⟨rfl,rfl,dd,rfl⟩
   conv=>whnf
   exact⟨_,_,by exact rfl,dP (mG (es:=mC bR L) P4 rfl (aZ _ _).symm (aZ _ _).symm (aV cI L)) (.closed _ rfl),rfl,_,L,0,rfl,.refl _,by omega,hLs,fun _ z h=>hn _ (hz z h)⟩
end Go.AW
