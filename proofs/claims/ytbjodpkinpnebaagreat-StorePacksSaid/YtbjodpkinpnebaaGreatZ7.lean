/-
  An abstract machine over the model, the code of functions on it, and their contracts: what the claim needs.
  No condition: definitions, plain laws, contracts over any program that has this code.
-/
import Derived.Test.YtbjodpkinpnebaaGreatZ6
set_option linter.all false
namespace Go.AW
variable [dE]
attribute [local irreducible] a7 bI oN Gp
theorem W1{v:a6}(h:v.isPure=true):v.closed=true:=by cases v<;>first|rfl|exact h|(simp[a6.isPure]at h)
theorem O1{H:List aB}{ids:List Nat}(sz:Nat)(es es1:List (List a6))(c c1:List a6)(he:es1=es++[c1])(hp:bG es=true)(hc:c1.length=c.length)
  (h:∀(j:Nat) (d d1:a6),c[j]?=some d→c1[j]?=some d1→dV H 0 ids d d1∧d1.isCell=true):A9 H ids (.arr sz (es++[c])) (.arr sz es1):=by
 subst he
 refine .map sz _ _ (by simp) (fun i e e1 h1 h2=>?_) (fun i j e e1 d d1 h1 h2 h3 h4=>?_)
 ·by_cases hi:i<es.length
  ·rw[List.getElem?_append_left hi]at h1 h2
   rw[h1]at h2;cases h2;rfl
  ·rw[List.getElem?_append_right (by omega)]at h1 h2
   rcases hk:i-es.length with _|q
   ·rw[hk]at h1 h2
    cases h1;cases h2;exact hc
   ·rw[hk]at h1;simp at h1
 ·by_cases hi:i<es.length
  ·rw[List.getElem?_append_left hi]at h1 h2
   rw[h1]at h2;cases h2
   rw[h3]at h4;cases h4
   have:=gW hp h1 h3
   exact⟨.closed _ (W1 this),a6.isCell_of_isPure this⟩
  ·rw[List.getElem?_append_right (by omega)]at h1 h2
   rcases hk:i-es.length with _|q
   ·rw[hk]at h1 h2
    cases h1;cases h2
    exact h j d d1 h3 h4
   ·rw[hk]at h1;simp at h1
def IH(cs:List c8):List a6:=[cL cs]
theorem FR(n:List c8):(IH n).all a6.isPure=true:=rfl
def Y9(p:List (List c8)→Prop)(r:a6):Prop:=∃(c:a6) (L:List (List c8)) (e:Int),r=.tuple [c,.int .i64 e]∧gB c (.list false 1 (mC IH L))∧L.length≤100000∧(e=0→p L)
def ZJ(p:List (List c8)→Prop)(r:a6):Prop:=∃(L:List (List c8)) (e:Int),r=.tuple [.list false 1 (mC IH L),.int .i64 e]∧L.length≤100000∧(e=0→p L)
theorem J4{p:List (List c8)→Prop}{H H0 G:List aB}{ids:List Nat}(hH:H=H0++G)(e:Int)(he:e≠0):∃r G,H=H0++G∧dV H 0 ids (.tuple [.nil,.int .i64 e]) r∧r.clT=true∧Y9 p r :=
 ⟨_,_,hH,dU (.closed _ rfl) (.closed _ rfl),rfl,.nil,[],e,rfl,.nil _ _,by simp,fun h=>absurd h he⟩
theorem Y9.wkF{p:List (List c8)→Prop}:∀r,Y9 p r→∃r',gB r r'∧r'.clT=true∧ZJ p r':=by
 rintro r ⟨c,L,e,rfl,hw,hl,h⟩
 exact⟨_,.tuples (.cons hw (.cons (.refl _) .nil)),rfl,L,e,rfl,hl,h⟩
theorem Gp.clm{n sz:Nat}{live:List (Nat×a6)}{ρ:List a6}{H':List aB}{I:List a6→List aB→Prop}{id m:Nat}{es0:List (List a6)}{L:List (List c8)}(cs:List c8)(hz:H'[0]?=Option.some (.arr sz es0))(hp0:bG es0=true)(h0:H'[1]?=Option.some (.arr 1 (mC IH L++[[.sl id m 0 m]])))(h1:H'[id]?=Option.some (.arr 3 (cC cs)))(hid:2≤id)(hm:m=cs.length)
  (hl:ρ.length=n) (h:lL H' [0,1] ρ live) (hI:∀ρ1,Sv n live ρ1→I ρ1 [.arr sz es0,.arr 1 (mC IH (L++[cs]))]):Gp ([aB.arr sz es0].map aB.olen) ρ H' I:=by
 refine Gp.keepL (H1:=[.arr sz es0,.arr 1 (mC IH (L++[cs]))]) [0,1] (by simp) (bY rfl hz rfl) ⟨⟨_,hz,.same _ _ hp0⟩,⟨_,h0,?_⟩,trivial⟩ hl h hI
 refine O1 1 _ _ _ (IH cs) (dD ..) (aV FR _) rfl fun j d d1 h2 h3=>?_
 rcases j with _|j
 ·cases h2;cases h3
  exact⟨mJ (by simp;omega) h1 (by simpa using hm) (by simpa using hm) (cI cs),rfl⟩
 ·simp at h2
set_option maxRecDepth 20000 in
set_option maxHeartbeats 2000000 in
theorem nR(x1 x3:Bool)(q:List rG)(l:List jE)(zs:List I0)(hq:Fl m5 q)(hl:Fl nH l)(hz:Fl E2 zs):
  cH pr 145 [i8 l] [.list x1 6 (mC cD q),.sl 0 l.length 0 l.length,.list x3 3 (mC mA zs)] (ZJ (fun L=>1≤q.length∧L.length=q.length∧(∀c∈L,Cz c)∧q.length≤16)):=by
 have hql:=hq.1
 have hll:=hl.1
 have hrp:=aV cG l
 have low:=bP l
 refine cH.weak ?_ Y9.wkF
 refine bQ k145.has ⟨low _,trivial⟩ ?_
 repeat'((conv=>whnf);first|((first|apply aC.use|apply aC.draw);exact sU x1 q hq;rintro r ⟨c,rfl,hv⟩)|refine aI ?_|refine oA ?_|refine oM fun x hx hm=>?_|((first|apply aK|apply aL|apply aM|apply aF|apply aE)<;>intro h<;>(try simp at h)<;>(try(exfalso;omega))))
 any_goals((conv=>whnf);first|exact J4 (by exact rfl) _ (by assumption)|fail)
 conv=>whnf
 refine⟨fun m ρ H1=>∃k:Nat,k+m=l.length∧H1=[i8 l]∧Sv 92 [(0,.list x1 6 (mC cD q)),(1,.sl 0 l.length 0 l.length),(2,.list x3 3 (mC mA zs)),(9,.int .i64 k)] ρ,l.length,[],fun i ρ H1=>i=0∧H1=[i8 l]∧Sv 92 [(0,.list x1 6 (mC cD q)),(1,.sl 0 l.length 0 l.length),(2,.list x3 3 (mC mA zs))] ρ,?_,?_,?_⟩
 ·exact⟨0,Nat.zero_add _,rfl,Sv.intro rfl ⟨rfl,rfl,rfl,rfl,trivial⟩⟩
 ·rintro m ρ H1 ⟨k,hk,rfl,d,rfl⟩
  repeat'((conv=>whnf);first|((first|apply aC.use|apply aC.draw);exact aC.of (dN _ _ (Nat.le_trans (hl.2 _ (by assumption)).2 (by omega)));rintro r rfl)|refine b8 (eM (aZ bS l).symm) ?_|refine aI ?_|refine oA ?_|refine oM fun x hx hm=>?_|((first|apply aK|apply aL|apply aM|apply aF|apply aE)<;>intro h<;>(try simp at h)<;>(try(exfalso;omega))))
  any_goals((conv=>whnf);first|exact J4 (by exact rfl) _ (by assumption)|(refine⟨m-1,by omega,Gp.cutN (H:=[i8 l]) rfl ⟨rfl,trivial⟩ ⟨low _,trivial⟩ rfl rfl ?_ fun ρ1 h=>⟨k+1,by omega,rfl,h⟩⟩;exact⟨rfl,rfl,rfl,aN (dT (by omega)),trivial⟩)|(refine Gp.cutN (H:=[i8 l]) rfl ⟨rfl,trivial⟩ ⟨low _,trivial⟩ rfl rfl ?_ fun ρ1 h=>⟨rfl,rfl,h⟩;exact⟨rfl,rfl,rfl,trivial⟩)|fail)
 ·rintro i ρ1 H1 ⟨rfl,rfl,d,rfl⟩
  repeat'((conv=>whnf);first|((first|apply aC.use|apply aC.draw);exact zM x3 zs hz;rintro r ⟨c2,rfl⟩)|refine aI ?_|refine oA ?_|refine oM fun x hx hm=>?_|((first|apply aK|apply aL|apply aM|apply aF|apply aE)<;>intro h<;>(try simp at h)<;>(try(exfalso;omega))))
  any_goals((conv=>whnf);first|exact J4 (by exact rfl) _ (by assumption)|fail)
  refine⟨fun m ρ H1=>∃(k:Nat) (L:List (List c8)) (v:a6) (cs:List c8),k+m=q.length∧L.length=k∧(∀c∈L,Cz c)∧gB v (cL cs)∧cs.length≤100000∧H1=[i8 l,.arr 1 (mC IH L)]∧Sv 92 [(0,.list x1 6 (mC cD q)),(1,.sl 0 l.length 0 l.length),(2,.list x3 3 (mC mA zs)),(12,.sl 1 L.length 0 L.length),(13,v),(14,.int .i64 k)] ρ,q.length,[(12,1)],
   fun i ρ H1=>i=2∧∃L:List (List c8),L.length=q.length∧(∀c∈L,Cz c)∧H1=[i8 l,.arr 1 (mC IH L)]∧Sv 92 [(12,.sl 1 L.length 0 L.length)] ρ,?_,?_,?_⟩
  ·exact⟨0,[],.nil,[],by omega,rfl,(fun c h=>by simp at h),.nil _ _,by simp,rfl,Sv.intro rfl ⟨rfl,rfl,rfl,rfl,rfl,rfl,trivial⟩⟩
  ·rintro m ρ H1 ⟨k,L,v,cs,hk,hL,hLs,hw,hcs,rfl,d,rfl⟩
   repeat'((conv=>whnf);first|(refine cH.use [0] (pU l hll _) (by simp) rfl ⟨⟨_,rfl,.same hrp⟩,trivial⟩ ⟨.sl 0 _ _ _,.closed _ rfl,trivial⟩ (fun r hr=>?_);obtain⟨x,b,rfl,hf1,hf2⟩:=hr)|((first|apply aC.use|apply aC.draw);exact(DE false x.ec x3 cs x.cols _ zs hcs (AE hl hf1 hf2) (hq.2 _ (by assumption)) hz).args (.cons hw (.cons (.refl _) (.cons (.refl _) (.cons (.refl _) .nil))));rintro r ⟨c4,c5,rfl,hc6,hc7⟩)|refine And.intro (⟨by simp[aQ];omega,by simp[aQ];omega⟩) ?_|refine b8 (eM (aZ IH L).symm) ?_|refine b8 ((bX _)) ?_|refine And.intro (⟨by simp[aQ];omega,by simp[aQ];omega,rfl,(aZ IH L).symm⟩) ?_|refine aI ?_|refine oA ?_|refine oM fun x hx hm=>?_|((first|apply aK|apply aL|apply aM|apply aF|apply aE)<;>intro h<;>(try simp at h)<;>(try(exfalso;omega))))
   any_goals((conv=>whnf);first|exact J4 (by exact rfl) _ (by assumption)|exact J4 (by exact rfl) _ (by decide)|(refine⟨m-1,by omega,Gp.clm c4 rfl hrp rfl rfl (by simp) (by simp) rfl ?_ fun ρ1 h=>⟨k+1,_,_,c4,by omega,by simp;omega,dF hLs (hc7 (by assumption)),.refl _,hc6,rfl,h⟩⟩;exact⟨.closed _ rfl,kS (k:=0) rfl rfl rfl rfl,.closed _ rfl,kS (k:=1) rfl rfl (by simp) (by simp),mJ (by simp) rfl (by simp) (by simp) (cI c4),JO (aN (dT (by omega))) rfl,trivial⟩)|(refine Gp.cutN (H:=[i8 l,.arr 1 (mC IH L)]) rfl ⟨rfl,trivial⟩ ⟨low _,bU (aV FR L),trivial⟩ rfl rfl ?_ fun ρ1 h=>⟨rfl,L,by omega,hLs,rfl,h⟩;exact⟨rfl,trivial⟩)|fail)
  ·rintro i ρ1 H1 ⟨rfl,L,hL,hLs,rfl,d,rfl⟩
   conv=>whnf
   exact⟨_,_,rfl,dU (mJ (es:=mC IH L) (show 1∉[0] by decide) rfl (by simp) (by simp) (aV FR L)) (.closed _ rfl),rfl,_,L,0,rfl,.refl _,by omega,fun _=>⟨(hv (by assumption)).1,hL,hLs,(hv (by assumption)).2.1⟩⟩
def bH(d:rA):List a6:=[Y6 d.zones,.list false 7 (mC DC d.sources),.list false 3 (mC XL d.macros),.sl 0 d.models.length 0 d.models.length,.list false 2 (mC T8 d.snaps),.list false 14 (mC eN d.checks)]
abbrev d8(d:rA):aB:=.arr 8 (mC gQ d.models)
theorem dX(d:rA):bG (mC gQ d.models)=true:=aV eD d.models
theorem gV(d:rA)(n:Nat):(d8 d).lowO n:=bU (dX d)
theorem fJ(d:rA){σ:Nat→Nat}(h:σ 0=0):jK σ (.agg (bH d)) (.agg (bH d)):=by
 refine .agg _ _ rfl fun i a b h1 h2=>?_
 rw[h1]at h2;cases h2
 rcases i with _|_|_|_|_|_|i
 ·cases h1;exact .closed _ rfl
 ·cases h1;exact .closed _ rfl
 ·cases h1;exact .closed _ rfl
 ·cases h1;have:=jK.sl (σ:=σ) 0 d.models.length 0 d.models.length;rwa [h]at this
 ·cases h1;exact .closed _ rfl
 ·cases h1;exact .closed _ rfl
 ·simp[bH]at h1
def FI(p:jE→Prop)(r:a6):Prop:=∃(c:a6) (x:jE) (e:Int),r=.tuple [c,.int .i64 e]∧gB c (.agg (bS x))∧(e=0→nH x∧p x)
def QT(p:jE→Prop)(r:a6):Prop:=∃(x:jE) (e:Int),r=.tuple [.agg (bS x),.int .i64 e]∧(e=0→nH x∧p x)
theorem O9(x:jE)(v:a6)(hv:v.closed=true):(a6.tuple [.agg (bS x),v]).clT=true:=by
 show((a6.agg (bS x)).closed&&(v.closed&&true))=true
 rw[jN,hv];rfl
theorem FI.wk{p:jE→Prop}:∀r,FI p r→∃r',gB r r'∧r'.clT=true∧QT p r':=by
 rintro r ⟨c,x,e,rfl,hw,h⟩
 exact⟨_,.tuples (.cons hw (.cons (.refl _) .nil)),O9 x _ rfl,x,e,rfl,h⟩
theorem WP:gB (.agg [.str (bs []),.nil,.nil,.nil]) (.agg (bS VG)):=.aggs (.cons (.refl _) (.cons (.nil _ _) (.cons (.refl _) (.cons (.refl _) .nil))))
theorem wO{p:jE→Prop}{H H0 G:List aB}{ids:List Nat}(hH:H=H0++G)(e:Int)(he:e≠0):∃r G,H=H0++G∧dV H 0 ids (.tuple [.agg [.str (bs []),.nil,.nil,.nil],.int .i64 e]) r∧r.clT=true∧FI p r :=
 ⟨_,_,hH,dU (.closed _ rfl) (.closed _ rfl),rfl,_,VG,e,rfl,WP,fun h=>absurd h he⟩
theorem SV{p:jE→Prop}{H H0 G:List aB}{ids:List Nat}{c c':a6}(hH:H=H0++G)(x:jE)(hp:dV H 0 ids c c')(hc:c'.closed=true)(hw:gB c' (.agg (bS x)))(h:nH x∧p x):∃r G,H=H0++G∧dV H 0 ids (.tuple [c,.int .i64 0]) r∧r.clT=true∧FI p r :=
 ⟨_,_,hH,dU hp (.closed _ rfl),(by show(c'.closed&&true)=true;rw[hc];rfl),c',x,0,rfl,hw,fun _=>h⟩
theorem SK{H:List aB}{n:Nat}{ids:List Nat}{a b c d a' b' c' d':a6}(h1:dV H n ids a a')(h2:dV H n ids b b')(h3:dV H n ids c c')(h4:dV H n ids d d'):dV H n ids (.agg [a,b,c,d]) (.agg [a',b',c',d']):=by
 refine .agg _ _ rfl fun i v t h5 h6=>?_
 rcases i with _|_|_|_|i
 ·cases h5;cases h6;exact h1
 ·cases h5;cases h6;exact h2
 ·cases h5;cases h6;exact h3
 ·cases h5;cases h6;exact h4
 ·simp at h5
theorem VD{H:List aB}{n:Nat}{ids:List Nat}{b c m:Nat}{fs:List (List a6)}(hi:b∉ids)(hj:c∉ids)(hb:H[b]?=some (.arr 1 [[.sl c m 0 m]]))(hc:H[c]?=some (.arr 1 fs))(hm:m=fs.length)(hp:bG fs=true):dV H n ids (.sl b 1 0 1) (.list false 1 [[.list false 1 fs]]):=by
 refine dV.frzN b 1 0 1 1 [[.sl c m 0 m]] [[.list false 1 fs]] hb rfl hi rfl (fun i e e1 h1 h2=>?_) (fun i j e1 d1 h1 h2=>?_) (fun i j e e1 d d1 h1 h2 h3 h4=>?_)
 ·rcases i with _|i
  ·cases h1;cases h2;rfl
  ·simp at h1
 ·rcases i with _|i
  ·cases h1
   rcases j with _|j
   ·cases h2;rfl
   ·simp at h2
  ·simp at h1
 ·rcases i with _|i
  ·cases h1;cases h2
   rcases j with _|j
   ·cases h3;cases h4;exact mJ hj hc hm hm hp
   ·simp at h3
  ·simp at h1
theorem PD{k:Nat}:k+1∉List.range 1:=by simp
set_option maxRecDepth 20000 in
set_option maxHeartbeats 1000000 in
theorem GZ(d:rA)(s:yP)(hd:d.F)(hs:Q7 s)(hsc:Cz s.cols):
  cH pr 140 [d8 d] [.agg (bH d),.agg (DC s)] (QT (fun x=>x.name=s.name∧Cz x.cols)):=by
 obtain⟨h1,h2,h3,_⟩:=hs
 have h2l:=h2.1
 have h3l:=h3.1
 have low:=gV d
 refine cH.weak ?_ FI.wk
 refine bQ k140.has ⟨low _,trivial⟩ ?_
 repeat'((conv=>whnf);first|((first|apply aC.use|apply aC.draw);exact x9 false d.zones hd.z.1 _;rintro r ⟨z,b,rfl,hb⟩)|refine aI ?_|refine oA ?_|refine oM fun x hx hm=>?_|((first|apply aK|apply aL|apply aM|apply aF|apply aE)<;>intro h<;>(try simp at h)<;>(try(exfalso;omega))))
 any_goals((conv=>whnf);first|exact wO (by exact rfl) _ (by decide)|fail)
 all_goals(conv=>whnf)
 exact SV (by exact rfl) ⟨s.name,false,s.cols,some [(false,s.key)]⟩ (SK (.closed _ rfl) (mJ (es:=cC s.cols) PD rfl (by simp) (by simp) (cI _)) (VD (m:=(sC s.key).length) (c:=6) (fs:=sC s.key) PD PD rfl rfl rfl (aO _)) (.closed _ rfl)) rfl (.refl _) ⟨⟨h1,h2l⟩,rfl,hsc⟩
theorem VC{H:List aB}{n:Nat}{ids:List Nat}{id ep len sz:Nat}{es fs:List (List a6)}(he:es=fs)(hid:id∉ids)(ho:H[id]?=some (.arr sz es))(h1:ep=es.length)(h2:len=es.length)(hp:bG fs=true):dV H n ids (.sl id ep 0 len) (.list false sz fs):=by
 subst he;exact mJ hid ho h1 h2 hp
theorem VE{H:List aB}{n:Nat}{ids:List Nat}{b c m:Nat}{es fs:List (List a6)}(he:es=fs)(hi:b∉ids)(hj:c∉ids)(hb:H[b]?=some (.arr 1 [[.sl c m 0 m]]))(hc:H[c]?=some (.arr 1 es))(hm:m=es.length)(hp:bG fs=true):dV H n ids (.sl b 1 0 1) (.list false 1 [[.list false 1 fs]]):=by
 subst he;exact VD hi hj hb hc hm hp
def QY(d:rA)(C K:a6):Prop:=(C=.nil∧K=.nil)∨∃s∈d.sources,C=cL s.cols∧K=sL s.key
theorem QY.low{d:rA}{C K:a6}(h:QY d C K)(n:Nat):C.lowC n=true∧K.lowC n=true:=by
 rcases h with⟨rfl,rfl⟩|⟨s,_,rfl,rfl⟩<;>exact⟨rfl,rfl⟩
theorem KO{d:rA}{C K:a6}(h:QY d C K)(n:Nat)(a b c:ByteArray)(e f:Int):(aB.arr 7 [[.str a,C,K,.str b,.str c,.int .i64 e,.int .i64 f]]).lowO n:=by
 obtain⟨h1,h2⟩:=h.low n
 show([[a6.str a,C,K,.str b,.str c,.int .i64 e,.int .i64 f]].all fun e=>e.all (a6.lowC n))=true
 simp only[List.all_cons,List.all_nil,h1,h2]
 rfl
def mM:ByteArray:=bs [118,97,108,105,100,95,102,114,111,109]
def VK:ByteArray:=bs [118,97,108,105,100,95,116,111]
theorem D8{l:List c8}(h:∀c∈l,bM c.name):∀c∈l++[⟨mM,4,false⟩,⟨VK,4,true⟩],bM c.name:=fun c hc=>by
 rcases List.mem_append.1 hc with hc|hc
 ·exact h c hc
 ·simp at hc;rcases hc with rfl|rfl
  ·exact(by decide:mM.size≤100000)
  ·exact(by decide:VK.size≤100000)
abbrev XW(d:rA)(p:KX)(a b c:ByteArray)(C K:a6)(e f:Int):List aB:=[d8 d,.arr 6 [bH d],.arr 2 [T8 p],.arr 4 [[.str (bs []),.nil,.nil,.nil]],.arr 7 [[.str a,C,K,.str b,.str c,.int .i64 e,.int .i64 f]]]
set_option maxRecDepth 20000 in
set_option maxHeartbeats 2000000 in
theorem D9(d:rA)(p:KX)(hd:d.F)(hp:WU p):
  cH pr 141 [d8 d] [.agg (bH d),.agg (T8 p)] (QT (fun y=>y.name=p.name∧Cz y.cols)):=by
 have low:=gV d
 have hsl:=hd.s.1
 refine cH.weak ?_ FI.wk
 refine bQ k141.has ⟨low _,trivial⟩ ?_
 conv=>whnf
 refine⟨fun m ρ H1=>∃(k:Nat) (a b c:ByteArray) (C K:a6) (e f:Int),k+m=d.sources.length∧QY d C K∧H1=XW d p a b c C K e f∧Sv 68 [(2,.ptr 1 1 0 0),(3,.ptr 2 1 0 0),(4,.ptr 3 1 0 0),(6,.ptr 4 1 0 0),(7,.int .i64 k)] ρ,d.sources.length,[],
  fun i ρ H1=>i=0∧∃(a b c:ByteArray) (C K:a6) (e f:Int),QY d C K∧H1=XW d p a b c C K e f∧Sv 68 [(3,.ptr 2 1 0 0),(4,.ptr 3 1 0 0),(6,.ptr 4 1 0 0)] ρ,?_,?_,?_⟩
 ·exact⟨0,bs [],bs [],bs [],.nil,.nil,0,0,by omega,.inl ⟨rfl,rfl⟩,rfl,Sv.intro rfl ⟨rfl,rfl,rfl,rfl,rfl,trivial⟩⟩
 ·rintro m ρ H1 ⟨k,a,b,c,C,K,e,f,hk,hC,rfl,dd,rfl⟩
  repeat'((conv=>whnf);first|refine aI ?_|refine oA ?_|refine oM fun x hx hm=>?_|((first|apply aK|apply aL|apply aM|apply aF|apply aE)<;>intro h<;>(try simp at h)))
  any_goals((conv=>whnf);first|(refine⟨m-1,by omega,Gp.cutN (H:=XW d p x.name x.at' x.zone (cL x.cols) (sL x.key) x.late x.reop) rfl ⟨rfl,trivial⟩ ⟨low _,rfl,rfl,rfl,rfl,trivial⟩ rfl rfl ?_ fun ρ1 h=>⟨k+1,_,_,_,_,_,_,_,by omega,.inr ⟨x,by assumption,rfl,rfl⟩,rfl,h⟩⟩;exact⟨rfl,rfl,rfl,rfl,aN (dT (by omega)),trivial⟩)|(refine⟨m-1,by omega,Gp.cutN (H:=XW d p a b c C K e f) rfl ⟨rfl,trivial⟩ ⟨low _,rfl,rfl,rfl,KO hC _ _ _ _ _ _,trivial⟩ rfl rfl ?_ fun ρ1 h=>⟨k+1,a,b,c,C,K,e,f,by omega,hC,rfl,h⟩⟩;exact⟨rfl,rfl,rfl,rfl,aN (dT (by omega)),trivial⟩)|(refine Gp.cutN (H:=XW d p a b c C K e f) rfl ⟨rfl,trivial⟩ ⟨low _,rfl,rfl,rfl,KO hC _ _ _ _ _ _,trivial⟩ rfl rfl ?_ fun ρ1 h=>⟨rfl,a,b,c,C,K,e,f,hC,rfl,h⟩;exact⟨rfl,rfl,rfl,trivial⟩)|fail)
 ·rintro i ρ1 H1 ⟨rfl,a,b,c,C,K,e,f,hC,rfl,dd,rfl⟩
  rcases hC with⟨rfl,rfl⟩|⟨s,hs,rfl,rfl⟩
  ·repeat'((conv=>whnf);first|((first|apply aC.use|apply aC.draw);exact(aC.of (bB false [] (by simp) _)).args (.cons (.nil _ _) (.cons (.refl _) .nil));rintro r rfl)|refine aI ?_|refine oA ?_|refine oM fun x hx hm=>?_|((first|apply aK|apply aL|apply aM|apply aF|apply aE)<;>intro h<;>(try simp at h)<;>(try(exfalso;omega))))
   any_goals((conv=>whnf);first|exact wO (by exact rfl) _ (by decide)|(refine SV (by exact rfl) ⟨p.name,false,([]:List c8)++[⟨mM,4,false⟩,⟨VK,4,true⟩],some [(false,([]:List ByteArray)++[mM])]⟩ (SK (.closed _ rfl) (VC (fs:=cC (([]:List c8)++[⟨mM,4,false⟩,⟨VK,4,true⟩])) (t7 ([]:List c8) [⟨mM,4,false⟩,⟨VK,4,true⟩]).symm PD rfl rfl rfl (cI _)) (VE (c:=7) (m:=(sC (([]:List ByteArray))++[[a6.str mM]]).length) (fs:=sC (([]:List ByteArray)++[mM])) (jU ([]:List ByteArray) [mM]).symm PD PD rfl rfl rfl (aO _)) (.closed _ rfl)) rfl (.refl _) ⟨⟨hp.1,by simp<;>omega⟩,rfl,⟨by simp<;>omega,by simp<;>omega,D8 (fun c h=>by simp at h)⟩⟩)|fail)
  ·have hs3:=(hd.s.2 s hs).2.2.1.1
   have hs2:=(hd.s.2 s hs).2.1.1
   repeat'((conv=>whnf);first|((first|apply aC.use|apply aC.draw);exact(aC.of (bB false s.cols (by omega) _));rintro r rfl)|refine aI ?_|refine oA ?_|refine oM fun x hx hm=>?_|((first|apply aK|apply aL|apply aM|apply aF|apply aE)<;>intro h<;>(try simp at h)<;>(try(exfalso;omega))))
   any_goals((conv=>whnf);first|exact wO (by exact rfl) _ (by decide)|(refine SV (by exact rfl) ⟨p.name,false,s.cols++[⟨mM,4,false⟩,⟨VK,4,true⟩],some [(false,s.key++[mM])]⟩ (SK (.closed _ rfl) (VC (fs:=cC (s.cols++[⟨mM,4,false⟩,⟨VK,4,true⟩])) (t7 s.cols [⟨mM,4,false⟩,⟨VK,4,true⟩]).symm PD rfl rfl rfl (cI _)) (VE (c:=7) (m:=(sC (s.key)++[[a6.str mM]]).length) (fs:=sC (s.key++[mM])) (jU s.key [mM]).symm PD PD rfl rfl rfl (aO _)) (.closed _ rfl)) rfl (.refl _) ⟨⟨hp.1,by simp<;>omega⟩,rfl,⟨by simp<;>omega,by simp<;>omega,D8 (hd.s.2 s hs).2.1.2⟩⟩)|fail)
theorem JX{σ:Nat→Nat}{sz:Nat}{es fs:List (List a6)}(h:es=fs)(hp:bG es=true):eY σ (.arr sz es) (.arr sz fs):=by
 subst h;exact .same hp
theorem r6{σ:Nat→Nat}{k id n a b:Nat}(hk:σ k=id)(ha:n=a)(hb:n=b):jK σ (.sl k n 0 n) (.sl id a 0 b):=by
 subst hk ha hb;exact .sl k _ _ _
def uG:ByteArray:=bs [115,101,108,102]
set_option maxRecDepth 20000 in
set_option maxHeartbeats 4000000 in
theorem JB(d:rA)(m:vP)(l:List jE)(hd:d.F)(hm:GA m)(hl:Fl nH l)(hl2:l.length≤99999):
  cH pr 142 [d8 d,i8 l] [.agg (bH d),.agg (gQ m),.sl 1 l.length 0 l.length] (QT (fun y=>y.name=m.name∧Cz y.cols)):=by
 have low:=gV d
 have low2:=bP l
 obtain⟨hm1,hm2,hm3,_⟩:=hm
 have hsl:=hm2.1
 refine cH.weak ?_ FI.wk
 refine bQ k142.has ⟨low _,low2 _,trivial⟩ ?_
 have e1:mC bS l=List.take l.length (List.drop 0 (mC bS l)):=by rw[List.drop_zero,List.take_of_length_le (by simp)]
 have e2:mC bS (l++[⟨uG,false,m.self,none⟩])=List.take l.length (List.drop 0 (mC bS l))++[[a6.str uG,cL m.self,.nil,.nil]]:=by rw[dD,←e1];rfl
 have hl':Fl nH (l++[⟨uG,false,m.self,none⟩]):=⟨by simp;omega,dF hl.2 ⟨(by decide:uG.size≤100000),hsl⟩⟩
 have hp1:bG (List.take l.length (List.drop 0 (mC bS l)))=true:=by rw[←e1];exact aV cG _
 have hp2:bG (List.take l.length (List.drop 0 (mC bS l))++[[a6.str uG,cL m.self,.nil,.nil]])=true:=by rw[←e2];exact aV cG _
 repeat'((conv=>whnf);first|(refine cH.use [5] (nR false false m.query (l++[⟨uG,false,m.self,none⟩]) d.zones hm3 hl' hd.z) (by simp) rfl ⟨⟨_,rfl,JX e2 (aV cG _)⟩,trivial⟩ ⟨.closed _ rfl,r6 rfl (by simp) (by simp),.closed _ rfl,trivial⟩ (fun r hr=>?_);obtain⟨L,e,rfl,hL,hLp⟩:=hr;have hw:IntKind.i64.wrap (((mC IH L).length:Int)-1)=L.length-1:=(by rw[aZ];exact aY ((L.length:Int)-1) (by omega) (by omega));rcases Decidable.em (e=0)with he|he;obtain⟨q1,q2,q3,_⟩:=hLp he)|(refine cH.use [5] (nR false false m.query (l) d.zones hm3 hl hd.z) (by simp) rfl ⟨⟨_,rfl,JX e1 (aV cG _)⟩,trivial⟩ ⟨.closed _ rfl,r6 rfl (by simp) (by simp),.closed _ rfl,trivial⟩ (fun r hr=>?_);obtain⟨L,e,rfl,hL,hLp⟩:=hr;have hw:IntKind.i64.wrap (((mC IH L).length:Int)-1)=L.length-1:=(by rw[aZ];exact aY ((L.length:Int)-1) (by omega) (by omega));rcases Decidable.em (e=0)with he|he;obtain⟨q1,q2,q3,_⟩:=hLp he)|refine iP (by rw[hw];omega) (fun x hx hm=>?_)|((first|apply aC.use|apply aC.draw);exact aC.of (sG false false m.self x (by omega));rintro r rfl)|((first|apply aC.use|apply aC.draw);exact aC.of (bB false x (by have:=(q3 _ hm).2;omega) _);rintro r rfl)|((first|apply aC.use|apply aC.draw);exact x9 false d.zones hd.z.1 _;rintro r ⟨z,b,rfl,hb⟩)|refine iP (dB x _ (by assumption)) (fun y hy hmy=>?_)|refine aI ?_|refine oA ?_|refine oM fun x hx hm=>?_|((first|apply aK|apply aL|apply aM|apply aF|apply aE)<;>intro h<;>(try simp at h)<;>(try(exfalso;omega))))
 any_goals((conv=>whnf);first|exact wO (by exact rfl) _ (by assumption)|exact wO (by exact rfl) _ (by decide)|(refine SV (by exact rfl) ⟨m.name,false,x,none⟩ (.closed _ rfl) rfl (.refl _) ⟨⟨hm1,(q3 x hm).le⟩,rfl,q3 x hm⟩)|fail)
 all_goals first|(exfalso;have h1:=‹m.self=[]›;have h2:=‹0<m.self.length›;rw[h1]at h2;exact absurd h2 (by decide))|skip
 have hlen:m.self.length=x.length:=Classical.byContradiction fun hn=>by
  have h1:=‹K8 m.self x=true›
  rw[D4 _ _ hn]at h1;cases h1
 have hxl:=(q3 _ hm).le
 have hx1:=q3 _ hm
 (conv=>whnf)
 refine⟨fun m1 ρ H1=>∃(k:Nat) (E:List (List a6)),k+m1=x.length∧bG E=true∧H1=[d8 d,i8 l,.arr 6 [bH d],.arr 8 [gQ m],.arr 4 [[.str (bs []),.nil,.nil,.nil]],.arr 4 E]∧Sv 118 [(3,.ptr 2 1 0 0),(4,.ptr 3 1 0 0),(6,.ptr 4 1 0 0),(11,cL x),(12,.int .i64 k)] ρ,x.length,[],
  fun i ρ H1=>i=0∧∃E:List (List a6),bG E=true∧H1=[d8 d,i8 l,.arr 6 [bH d],.arr 8 [gQ m],.arr 4 [[.str (bs []),.nil,.nil,.nil]],.arr 4 E]∧Sv 118 [(3,.ptr 2 1 0 0),(4,.ptr 3 1 0 0),(6,.ptr 4 1 0 0),(11,cL x)] ρ,?_,?_,?_⟩
 ·exact⟨0,_,by omega,hp2,rfl,Sv.intro rfl ⟨rfl,rfl,rfl,rfl,rfl,trivial⟩⟩
 ·rintro m1 ρ H1 ⟨k,E,hk,pE,rfl,dd,rfl⟩
  repeat'((conv=>whnf);first|refine aI ?_|refine oA ?_|refine oM fun x hx hm=>?_|((first|apply aK|apply aL|apply aM|apply aF|apply aE)<;>intro h<;>(try simp at h)))
  any_goals((conv=>whnf);first|exact wO (by exact rfl) _ (by decide)|(refine⟨m1-1,by omega,Gp.cutN (H:=[d8 d,i8 l,.arr 6 [bH d],.arr 8 [gQ m],.arr 4 [[.str (bs []),.nil,.nil,.nil]],.arr 4 E]) rfl ⟨rfl,rfl,trivial⟩ ⟨low _,low2 _,rfl,rfl,rfl,bU pE,trivial⟩ rfl rfl ?_ fun ρ1 h=>⟨k+1,E,by omega,pE,rfl,h⟩⟩;exact⟨rfl,rfl,rfl,rfl,aN (dT (by omega)),trivial⟩)|(refine Gp.cutN (H:=[d8 d,i8 l,.arr 6 [bH d],.arr 8 [gQ m],.arr 4 [[.str (bs []),.nil,.nil,.nil]],.arr 4 E]) rfl ⟨rfl,rfl,trivial⟩ ⟨low _,low2 _,rfl,rfl,rfl,bU pE,trivial⟩ rfl rfl ?_ fun ρ1 h=>⟨rfl,E,pE,rfl,h⟩;exact⟨rfl,rfl,rfl,rfl,trivial⟩)|fail)
 ·rintro i ρ1 H1 ⟨rfl,E,pE,rfl,dd,rfl⟩
  repeat'((conv=>whnf);first|((first|apply aC.use|apply aC.draw);exact aC.of (bB false x (by have:=(q3 _ hm).2;omega) _);rintro r rfl)|((first|apply aC.use|apply aC.draw);exact x9 false d.zones hd.z.1 _;rintro r ⟨z,b,rfl,hb⟩)|refine iP (dB x _ (by assumption)) (fun y hy hmy=>?_)|refine aI ?_|refine oA ?_|refine oM fun x hx hm=>?_|((first|apply aK|apply aL|apply aM|apply aF|apply aE)<;>intro h<;>(try simp at h)<;>(try(exfalso;omega))))
  any_goals((conv=>whnf);first|exact wO (by exact rfl) _ (by assumption)|exact wO (by exact rfl) _ (by decide)|(refine SV (by exact rfl) ⟨m.name,false,x,none⟩ (.closed _ rfl) rfl (.refl _) ⟨⟨hm1,hxl⟩,rfl,hx1⟩)|fail)
theorem ZA{p:jE→Prop}{H H0 G:List aB}{ids:List Nat}(hH:H=H0++G)(y:jE){e:Int}(h:e=0→nH y∧p y):∃r G,H=H0++G∧dV H 0 ids (.tuple [.agg (bS y),.int .i64 e]) r∧r.clT=true∧FI p r :=
 ⟨_,_,hH,dU (.closed _ (jN y)) (.closed _ rfl),O9 y _ rfl,_,y,e,rfl,.refl _,h⟩
set_option maxRecDepth 20000 in
set_option maxHeartbeats 4000000 in
theorem CS(d:rA)(nm:ByteArray)(l:List jE)(hd:d.F)(hl:Fl nH l)(hl2:l.length≤99999)(hsc:∀s∈d.sources,Cz s.cols):
  cH pr 86 [d8 d,i8 l] [.agg (bH d),.str nm,.sl 1 l.length 0 l.length] (QT (fun y=>y.name=nm∧Cz y.cols)):=by
 have low:=gV d
 have low2:=bP l
 have hsl:=hd.s.1
 have hnl:=hd.n.1
 have hql:=hd.q.1
 refine cH.weak ?_ FI.wk
 refine bQ k86.has ⟨low _,low2 _,trivial⟩ ?_
 conv=>whnf
 refine⟨fun m ρ H1=>∃k:Nat,k+m=d.sources.length∧H1=[d8 d,i8 l,.arr 6 [bH d],.arr 4 [[.str (bs []),.nil,.nil,.nil]]]∧Sv 85 [(1,.str nm),(2,.sl 1 l.length 0 l.length),(3,.ptr 2 1 0 0),(6,.ptr 3 1 0 0),(8,.int .i64 k)] ρ,d.sources.length,[],fun i ρ H1=>i=0∧H1=[d8 d,i8 l,.arr 6 [bH d],.arr 4 [[.str (bs []),.nil,.nil,.nil]]]∧Sv 85 [(1,.str nm),(2,.sl 1 l.length 0 l.length),(3,.ptr 2 1 0 0),(6,.ptr 3 1 0 0)] ρ,?_,?_,?_⟩
 ·exact⟨0,Nat.zero_add _,rfl,Sv.intro rfl ⟨rfl,rfl,rfl,rfl,rfl,trivial⟩⟩
 ·rintro m ρ H1 ⟨k,hk,rfl,dd,rfl⟩
  repeat'((conv=>whnf);first|(refine cH.use [0] (GZ d _ hd (hd.s.2 _ (by assumption)) (hsc _ (by assumption))) (by simp) rfl ⟨⟨_,rfl,.same (dX d)⟩,trivial⟩ ⟨fJ d rfl,.closed _ rfl,trivial⟩ (fun r hr=>?_);obtain⟨y,e,rfl,hy⟩:=hr)|refine b8 ((bX _)) ?_|refine aI ?_|refine oA ?_|refine oM fun x hx hm=>?_|((first|apply aK|apply aL|apply aM|apply aF|apply aE)<;>intro h<;>(try simp at h)))
  any_goals((conv=>whnf);first|exact ZA (by exact rfl) _ (fun h=>⟨(hy h).1,(hy h).2.1.trans (ByteArray.ext (by assumption)),(hy h).2.2⟩)|(refine⟨m-1,by omega,Gp.cutN (H:=[d8 d,i8 l,.arr 6 [bH d],.arr 4 [[.str (bs []),.nil,.nil,.nil]]]) rfl ⟨rfl,rfl,trivial⟩ ⟨low _,low2 _,rfl,rfl,trivial⟩ rfl rfl ?_ fun ρ1 h=>⟨k+1,by omega,rfl,h⟩⟩;exact⟨rfl,rfl,rfl,rfl,aN (dT (by omega)),trivial⟩)|(refine Gp.cutN (H:=[d8 d,i8 l,.arr 6 [bH d],.arr 4 [[.str (bs []),.nil,.nil,.nil]]]) rfl ⟨rfl,rfl,trivial⟩ ⟨low _,low2 _,rfl,rfl,trivial⟩ rfl rfl ?_ fun ρ1 h=>⟨rfl,rfl,h⟩;exact⟨rfl,rfl,rfl,rfl,trivial⟩)|fail)
 ·rintro i ρ1 H1 ⟨rfl,rfl,dd,rfl⟩
  conv=>whnf
  refine⟨fun m ρ H1=>∃k:Nat,k+m=d.snaps.length∧H1=[d8 d,i8 l,.arr 6 [bH d],.arr 4 [[.str (bs []),.nil,.nil,.nil]]]∧Sv 85 [(1,.str nm),(2,.sl 1 l.length 0 l.length),(3,.ptr 2 1 0 0),(6,.ptr 3 1 0 0),(9,.int .i64 k)] ρ,d.snaps.length,[],fun i ρ H1=>i=2∧H1=[d8 d,i8 l,.arr 6 [bH d],.arr 4 [[.str (bs []),.nil,.nil,.nil]]]∧Sv 85 [(1,.str nm),(2,.sl 1 l.length 0 l.length),(3,.ptr 2 1 0 0),(6,.ptr 3 1 0 0)] ρ,?_,?_,?_⟩
  ·exact⟨0,Nat.zero_add _,rfl,Sv.intro rfl ⟨rfl,rfl,rfl,rfl,rfl,trivial⟩⟩
  ·rintro m ρ H1 ⟨k,hk,rfl,dd,rfl⟩
   repeat'((conv=>whnf);first|(refine cH.use [0] (D9 d _ hd (hd.n.2 _ (by assumption))) (by simp) rfl ⟨⟨_,rfl,.same (dX d)⟩,trivial⟩ ⟨fJ d rfl,.closed _ rfl,trivial⟩ (fun r hr=>?_);obtain⟨y,e,rfl,hy⟩:=hr)|refine b8 ((bX _)) ?_|refine aI ?_|refine oA ?_|refine oM fun x hx hm=>?_|((first|apply aK|apply aL|apply aM|apply aF|apply aE)<;>intro h<;>(try simp at h)))
   any_goals((conv=>whnf);first|exact ZA (by exact rfl) _ (fun h=>⟨(hy h).1,(hy h).2.1.trans (ByteArray.ext (by assumption)),(hy h).2.2⟩)|(refine⟨m-1,by omega,Gp.cutN (H:=[d8 d,i8 l,.arr 6 [bH d],.arr 4 [[.str (bs []),.nil,.nil,.nil]]]) rfl ⟨rfl,rfl,trivial⟩ ⟨low _,low2 _,rfl,rfl,trivial⟩ rfl rfl ?_ fun ρ1 h=>⟨k+1,by omega,rfl,h⟩⟩;exact⟨rfl,rfl,rfl,rfl,aN (dT (by omega)),trivial⟩)|(refine Gp.cutN (H:=[d8 d,i8 l,.arr 6 [bH d],.arr 4 [[.str (bs []),.nil,.nil,.nil]]]) rfl ⟨rfl,rfl,trivial⟩ ⟨low _,low2 _,rfl,rfl,trivial⟩ rfl rfl ?_ fun ρ1 h=>⟨rfl,rfl,h⟩;exact⟨rfl,rfl,rfl,rfl,trivial⟩)|fail)
  ·rintro i ρ1 H1 ⟨rfl,rfl,dd,rfl⟩
   conv=>whnf
   refine⟨fun m ρ H1=>∃k:Nat,k+m=d.models.length∧H1=[d8 d,i8 l,.arr 6 [bH d],.arr 4 [[.str (bs []),.nil,.nil,.nil]]]∧Sv 85 [(1,.str nm),(2,.sl 1 l.length 0 l.length),(3,.ptr 2 1 0 0),(6,.ptr 3 1 0 0),(10,.int .i64 k)] ρ,d.models.length,[],fun i ρ H1=>i=4∧H1=[d8 d,i8 l,.arr 6 [bH d],.arr 4 [[.str (bs []),.nil,.nil,.nil]]]∧Sv 85 [(1,.str nm),(2,.sl 1 l.length 0 l.length),(3,.ptr 2 1 0 0),(6,.ptr 3 1 0 0)] ρ,?_,?_,?_⟩
   ·exact⟨0,Nat.zero_add _,rfl,Sv.intro rfl ⟨rfl,rfl,rfl,rfl,rfl,trivial⟩⟩
   ·rintro m ρ H1 ⟨k,hk,rfl,dd,rfl⟩
    repeat'((conv=>whnf);first|(refine cH.use [0,1] (JB d _ l hd (hd.q.2 _ (by assumption)) hl hl2) (by simp) rfl ⟨⟨_,rfl,.same (dX d)⟩,⟨_,rfl,.same (aV cG l)⟩,trivial⟩ ⟨fJ d rfl,.closed _ rfl,.sl 1 _ _ _,trivial⟩ (fun r hr=>?_);obtain⟨y,e,rfl,hy⟩:=hr)|refine b8 (eM (aZ gQ d.models).symm) ?_|refine b8 ((bX _)) ?_|refine aI ?_|refine oA ?_|refine oM fun x hx hm=>?_|((first|apply aK|apply aL|apply aM|apply aF|apply aE)<;>intro h<;>(try simp at h)))
    any_goals((conv=>whnf);first|exact ZA (by exact rfl) _ (fun h=>⟨(hy h).1,(hy h).2.1.trans (ByteArray.ext (by assumption)),(hy h).2.2⟩)|(refine⟨m-1,by omega,Gp.cutN (H:=[d8 d,i8 l,.arr 6 [bH d],.arr 4 [[.str (bs []),.nil,.nil,.nil]]]) rfl ⟨rfl,rfl,trivial⟩ ⟨low _,low2 _,rfl,rfl,trivial⟩ rfl rfl ?_ fun ρ1 h=>⟨k+1,by omega,rfl,h⟩⟩;exact⟨rfl,rfl,rfl,rfl,aN (dT (by omega)),trivial⟩)|(refine Gp.cutN (H:=[d8 d,i8 l,.arr 6 [bH d],.arr 4 [[.str (bs []),.nil,.nil,.nil]]]) rfl ⟨rfl,rfl,trivial⟩ ⟨low _,low2 _,rfl,rfl,trivial⟩ rfl rfl ?_ fun ρ1 h=>⟨rfl,rfl,h⟩;exact⟨rfl,rfl,rfl,rfl,trivial⟩)|fail)
   ·rintro i ρ1 H1 ⟨rfl,rfl,dd,rfl⟩
    conv=>whnf
    exact wO (by exact rfl) _ (by decide)
end Go.AW
namespace Go.AW
variable [dE]
def AZ(P:Program)(f:FuncId)(H0:List aB)(vs:List a6)(sz:Nat)(S:a6→Prop)(T:List (List a6)→a6→Prop):Prop :=
 (∃r,S r∧r.clT=true∧a7 P f vs H0 (fun r' H'=>r'=r∧H'=H0)) ∨
 (∃es v,T es v∧v.closed=true∧bG es=true∧a7 P f vs H0 (fun r' H'=>r'=.tuple [.sl H0.length es.length 0 es.length,v]∧H'=H0++[.arr sz es]))
theorem O8{σ:Nat→Nat}{H2:List aB}:∀{xs:List aB}{k:Nat},(∀(i:Nat) (x:aB),xs[i]?=some x→∃y,H2[σ (k+i)]?=some y∧eY σ x y)→JY σ H2 k xs
 |[],k,_=>trivial
 |z::xs,k,h=>⟨h 0 z rfl,O8 fun i x hx=>by
   have:=h (i+1) x (by simpa using hx)
   rwa [show k+(i+1)=k+1+i by omega]at this⟩
theorem GG{ids:List Nat}{H2:List aB}:∀{xs:List aB}{j:Nat},(∀i x,xs[i]?=some x→H2[j+i]?=some x)→PG ids H2 j xs
 |[],j,_=>trivial
 |z::xs,j,h=>⟨.inr (h 0 z rfl),GG fun i x hx=>by
   have:=h (i+1) x (by simpa using hx)
   rwa [show j+(i+1)=j+1+i by omega]at this⟩
theorem qO{α:Type}{l:List α}{i:Nat}{x:α}(h:l[i]?=some x):i<l.length:=(List.getElem?_eq_some_iff.1 h).1
theorem AZ.use{P:Program}{f:FuncId}{H H0:List aB}{vs0 vs:List a6}{sz:Nat}{S:a6→Prop}{T:List (List a6)→a6→Prop}{k:a6→List aB→Prop}(ids:List Nat)(h:AZ P f H0 vs0 sz S T)(hnd:ids.Nodup)(hlen:ids.length=H0.length)
  (h0:JY (oD ids H.length) H 0 H0) (ha:mO (oD ids H.length) vs0 vs) (hk:∀r,S r→k r H) (hk2:∀es v,T es v→bG es=true→k (.tuple [.sl H.length es.length 0 es.length,v]) (H++[.arr sz es])):bI P f vs H k:=by
 rcases h with⟨r,hs,hc,h⟩|⟨es,v,ht,hv,hp,h⟩
 ·exact cH.use (S:=fun r'=>r'=r) ids ⟨r,rfl,hc,h⟩ hnd hlen h0 ha fun r' e=>by subst e;exact hk _ hs
 ·have hg:oD ids H.length H0.length=H.length:=by rw[oE (by omega)];omega
  refine bI.of (h.frL (H2:=H++[.arr sz es]) ids hnd hlen h0 ha (R:=.tuple [.sl H.length es.length 0 es.length,v]) ?_ (by simp;omega) (O8 fun i x hx=>?_) (GG fun i x hx=>?_)) (hk2 _ _ ht hp)
  ·refine .tuple _ _ rfl fun i a b h1 h2=>?_
   rcases i with _|_|i
   ·cases h1;cases h2
    have:=jK.sl (σ:=oD ids H.length) H0.length es.length 0 es.length
    rwa [hg]at this
   ·cases h1;cases h2;exact .closed _ hv
   ·simp at h1
  ·by_cases hi:i<H0.length
   ·rw[List.getElem?_append_left hi]at hx
    obtain⟨y,h1,h2⟩:=wL h0 i x hx
    exact⟨y,by rw[List.getElem?_append_left (qO h1)];exact h1,h2⟩
   ·have hi2:=qO hx
    simp at hi2
    have he:i=H0.length:=by omega
    subst he
    rw[List.getElem?_append_right (by omega)]at hx
    simp at hx
    subst hx
    exact⟨.arr sz es,by rw[Nat.zero_add,hg,List.getElem?_append_right (by omega)];simp,.same hp⟩
  ·rw[Nat.zero_add,List.getElem?_append_left (qO hx)];exact hx
theorem M2{H:List aB}{ids:List Nat}:∀{is:List Nat}{r:List aB},is.length=r.length→(∀(i id:Nat) (o1:aB),is[i]?=some id→r[i]?=some o1→∃o,H[id]?=some o∧A9 H ids o o1)→U4 H ids is r
 |[],[],_,_=>trivial
 |id::is,o1::r,hl,h=>⟨h 0 id o1 rfl rfl,M2 (by simpa using hl) fun i id o1 h1 h2=>h (i+1) id o1 (by simpa using h1) (by simpa using h2)⟩
 |[],_::_,hl,_=>by simp at hl
 |_::_,[],hl,_=>by simp at hl
def HZ:List aB→Prop
 |[]=>True
 |.arr _ es::r=>bG es=true∧HZ r
 |_::_=>False
theorem HZ.get:∀{H:List aB},HZ H→∀(i:Nat) (o:aB),H[i]?=some o→∃sz es,o=.arr sz es∧bG es=true
 |[],_,i,o,h=>by simp at h
 |.arr sz es::r,hp,i,o,h=>by
  cases i with
  |zero=>simp at h;subst h;exact⟨sz,es,rfl,hp.1⟩
  |succ i=>exact HZ.get hp.2 i o (by simpa using h)
 |.iter _ _::_,hp,_,_,_=>hp.elim
 |.map _::_,hp,_,_,_=>hp.elim
 |.bmap _ _ _::_,hp,_,_,_=>hp.elim
 |.mit _ _ _::_,hp,_,_,_=>hp.elim
theorem uA{P:Program}{f:FuncId}{ob:List Nat}{af:u3}{H0:List aB}{args:List a6}{sz:Nat}{S:a6→Prop}{T:List (List a6)→a6→Prop}(hf:QQ P f ob af)(hp:HZ H0)
  (h:dM (args++List.replicate (af.ntmps-args.length) (.tuple [])) fun ρ=>vT P (H0.map aB.olen) af.code (fun e ρ' H'=>match e with
   |.exit _=>False
   |_=>vI ρ' H' af.res fun vs=>wX vs fun v=>∃G,H'=H0++G∧((∃r,dV H' 0 (List.range H0.length) v r∧r.clT=true∧S r) ∨
    ∃id n es w,v=.tuple [.sl id n 0 n,w]∧H0.length≤id∧H'[id]?=some (.arr sz es)∧n=es.length∧bG es=true∧w.closed=true∧T es w)) ρ H0):AZ P f H0 args sz S T:=by
 obtain⟨v,H1,⟨G,rfl,hq⟩,hc'⟩:=d6 (H:=H0) (Q:=fun v H'=>∃G,H'=H0++G∧((∃r,dV H' 0 (List.range H0.length) v r∧r.clT=true∧S r) ∨
    ∃id n es w,v=.tuple [.sl id n 0 n,w]∧H0.length≤id∧H'[id]?=some (.arr sz es)∧n=es.length∧bG es=true∧w.closed=true∧T es w)) hf h
 have keep:∀(js:List Nat),C5 (H0.map aB.olen) (List.range H0.length++js) (H0++G):=fun js k m hk=>by
  rw[List.getElem?_map]at hk
  cases ho:H0[k]? with
  |none=>rw[ho]at hk;simp at hk
  |some o =>
   rw[ho]at hk;simp at hk
   have hlt:=qO ho
   exact⟨by rw[List.getElem?_append_left (by simpa using hlt)];exact List.getElem?_range hlt,o,by rw[List.getElem?_append_left hlt];exact ho,hk⟩
 have objs:∀(ids:List Nat) (i id:Nat) (o1:aB),(List.range H0.length)[i]?=some id→H0[i]?=some o1→∃o,(H0++G)[id]?=some o∧A9 (H0++G) ids o o1:=fun ids i id o1 h1 h2=>by
  have hlt:=qO h2
  rw[List.getElem?_range hlt]at h1;cases h1
  obtain⟨sz,es,rfl,hpe⟩:=hp.get i o1 h2
  exact⟨_,by rw[List.getElem?_append_left hlt];exact h2,.same _ _ hpe⟩
 rcases hq with⟨r,hpb,hc,hs⟩|⟨id,n,es,w,rfl,hid,ho,rfl,hpe,hw,ht⟩
 ·refine .inl ⟨r,hs,hc,a7.gpI hc' (List.range H0.length) List.nodup_range (by simpa using keep []) (M2 (by simp) (objs _)) hpb⟩
 ·refine .inr ⟨es,w,ht,hw,hpe,a7.gpI hc' (List.range H0.length++[id]) ?_ (keep _) (M2 (by simp) fun i j o1 h1 h2=>?_) ?_⟩
  ·rw[List.nodup_append]
   refine⟨List.nodup_range,by simp,fun a ha b hb=>?_⟩
   simp at ha hb;omega
  ·by_cases hi:i<H0.length
   ·rw[List.getElem?_append_left (by simpa using hi)]at h1
    rw[List.getElem?_append_left hi]at h2
    exact objs _ i j o1 h1 h2
   ·have hi2:=qO h2
    simp at hi2
    have he:i=H0.length:=by omega
    subst he
    rw[List.getElem?_append_right (by simp)]at h1
    rw[List.getElem?_append_right (by omega)]at h2
    simp at h1 h2
    subst h1 h2
    exact⟨_,ho,.same _ _ hpe⟩
  ·refine .tuple _ _ rfl fun i a b h1 h2=>?_
   rcases i with _|_|i
   ·cases h1;cases h2
    have:=dV.keep (H1:=H0++G) (n:=0) (ids:=List.range H0.length++[id]) id es.length 0 es.length H0.length (by rw[List.getElem?_append_right (by simp)];simp)
    rwa [Nat.zero_add]at this
   ·cases h1;cases h2;exact .closed _ hw
   ·simp at h1
def j3(P:Program)(f:FuncId)(vs:List a6)(sz:Nat)(S:List (List a6)→Prop):Prop :=
 ∃es,S es∧bG es=true∧a7 P f vs [] (fun r H'=>r=.sl 0 es.length 0 es.length∧H'=[.arr sz es])
theorem j3.own{P:Program}{f:FuncId}{vs:List a6}{sz:Nat}{S:List (List a6)→Prop}{H:List aB}{k:a6→List aB→Prop}(h:j3 P f vs sz S)(ha:vs.all a6.closed=true)(hk:∀es,S es→bG es=true→k (.sl H.length es.length 0 es.length) (H++[.arr sz es])):bI P f vs H k:=by
 obtain⟨es,hs,hp,h⟩:=h
 exact bI.of (a7.own1 ha h hp) (hk es hs hp)
theorem j3.frz{P:Program}{f:FuncId}{vs:List a6}{sz:Nat}{S:List (List a6)→Prop}(h:j3 P f vs sz S)(ha:vs.all a6.closed=true):aC P f vs (fun r=>∃es,r=.list false sz es∧S es):=by
 obtain⟨es,hs,hp,h⟩:=h
 exact⟨_,⟨es,rfl,hs⟩,fun H=>a7.frz1 ha h rfl hp⟩
theorem fB{P:Program}{f:FuncId}{ob:List Nat}{af:u3}{args:List a6}{sz:Nat}{S:List (List a6)→Prop}(hf:QQ P f ob af)
  (h:dM (args++List.replicate (af.ntmps-args.length) (.tuple [])) fun ρ=>vT P [] af.code (fun e ρ' H'=>match e with
   |.exit _=>False
   |_=>vI ρ' H' af.res fun vs=>wX vs fun v=>∃id n es,v=.sl id n 0 n∧H'[id]?=some (.arr sz es)∧n=es.length∧bG es=true∧S es) ρ []):j3 P f args sz S:=by
 obtain⟨v,H1,⟨id,n,es,rfl,ho,rfl,hp,hs⟩,hc⟩:=d6 (H:=[]) (Q:=fun v H'=>∃id n es,v=.sl id n 0 n∧H'[id]?=some (.arr sz es)∧n=es.length∧bG es=true∧S es) hf h
 refine⟨es,hs,hp,a7.gpI hc [id] (by simp) (fun k m hk=>by simp at hk) ⟨⟨_,ho,.same _ _ hp⟩,trivial⟩ ?_⟩
 have:=dV.keep (H1:=H1) (n:=0) (ids:=[id]) id es.length 0 es.length 0 rfl
 rwa [Nat.zero_add]at this
inductive HY(id:Nat):a6→a6→Prop where
 |refl (v:a6):HY id v v
 |nil:HY id .nil (.sl id 0 0 0)
 |agg (cs ds:List a6) (hl:cs.length=ds.length) (h:∀(i:Nat) (c d:a6),cs[i]?=some c→ds[i]?=some d→HY id c d):HY id (.agg cs) (.agg ds)
def HX(id:Nat):List a6→List a6→Prop
 |[],[]=>True
 |a::as',b::bs'=>HY id a b∧HX id as' bs'
 |_,_=>False
theorem HX.get{id:Nat}:∀{xs ys:List a6},HX id xs ys→xs.length=ys.length∧∀(i:Nat) (a b:a6),xs[i]?=some a→ys[i]?=some b→HY id a b
 |[],[],_=>⟨rfl,fun i a b h=>by simp at h⟩
 |a::xs,b::ys,h=>⟨by simp[(HX.get h.2).1],fun i x y h1 h2=>by
   cases i with
   |zero=>simp at h1 h2;subst h1 h2;exact h.1
   |succ i=>exact(HX.get h.2).2 i x y (by simpa using h1) (by simpa using h2)⟩
 |[],_::_,h=>h.elim
 |_::_,[],h=>h.elim
theorem HY.rel{C:Nat→Nat}{w:World}{τ:Nat→Option Loc}{H:List aB}{id sz:Nat}(ho:H[id]?=some (.arr sz []))(ht:τ id=none):∀{a b:a6},HY id a b→∀{v:Value},bV C w τ H a v→bV C w τ H b v:=by
 intro a b h
 induction h with
 |refl v=>intro u hu;exact hu
 |nil =>
  intro u hu
  cases hu with
  |rd h=>cases h;exact .sl _ _ _ _ _ _ sz [] ho (Nat.le_refl _) fun _=>⟨Nat.le_refl _,Nat.le_refl _,.inl ⟨ht,rfl⟩⟩
 |agg cs ds hl h ih =>
  intro u hu
  obtain⟨us,rfl,hl2,hr2⟩:=hu.agg_inv
  refine .agg _ _ (by omega) fun i d v hd hv=>?_
  have hlt:=(List.getElem?_eq_some_iff.1 hd).1
  exact ih i _ d (List.getElem?_eq_getElem (by omega)) hd (hr2 i _ v (List.getElem?_eq_getElem (by omega)) hv)
theorem a7.virt{P:Program}{f:FuncId}{xs ys:List a6}{H:List aB}{Q:a6→List aB→Prop}(sz:Nat)(hn:HX H.length xs ys)(h:a7 P f ys (H++[.arr sz []]) Q):a7 P f xs H Q:=by
 intro C τ w vs hw hlen hr
 obtain⟨st,s1⟩:=(St.start hw).virt sz
 have hh:=h C (lC τ H.length none) w vs st.wf (by rw[←hn.get.1];exact hlen) fun i b v hb hv=>by
  have hlt:=(List.getElem?_eq_some_iff.1 hb).1
  have he:=hn.get.1
  exact(hn.get.2 i _ b (List.getElem?_eq_getElem (by omega)) hb).rel (sz:=sz) (by simp) (bZ _ _ _) ((hr i _ v (List.getElem?_eq_getElem (by omega)) hv).mono s1)
 unfold eU at hh ⊢
 split at hh
 ·exact Calls.mono hh fun e w' ⟨v,r,C',τ',H',h1,h2,h3,h4,h5⟩=>⟨v,r,C',τ',H',h1,h2,h3,st.after h4,s1.trans h5⟩
 ·obtain⟨v,r,C',τ',H',h1,h2,h3,h4,h5⟩:=hh
  exact⟨v,r,C',τ',H',h1,h2,h3,st.after h4,s1.trans h5⟩
 ·exact hh
theorem cH.useN{P:Program}{f:FuncId}{H H0:List aB}{vs0 ws vs:List a6}{S:a6→Prop}{k:a6→List aB→Prop}(sz:Nat)(ids:List Nat)(h:cH P f H0 vs0 S)(hn:HX H.length vs ws)(hnd:ids.Nodup)(hlen:ids.length=H0.length)
  (h0:JY (oD ids (H.length+1)) (H++[.arr sz []]) 0 H0) (ha:mO (oD ids (H.length+1)) vs0 ws) (hk:∀r,S r→k r (H++[.arr sz []])):bI P f vs H k:=by
 have hu:bI P f ws (H++[.arr sz []]) k:=cH.use ids h hnd hlen (by simpa using h0) (by simpa using ha) hk
 obtain⟨r,H1,h1,h2⟩:=hu
 exact⟨r,H1,h1,h2.virt sz hn⟩
attribute [local irreducible] a7 bI oN Gp
def rI:List (List a6)→List (List a6)→Prop
 |[],[]=>True
 |e::es,f::fs=>(e.length=f.length∧f.all a6.isCell=true∧oQ e f)∧rI es fs
 |_,_=>False
theorem rI.get:∀{es fs:List (List a6)},rI es fs→es.length=fs.length∧∀(i:Nat) (e f:List a6),es[i]?=some e→fs[i]?=some f→e.length=f.length∧f.all a6.isCell=true∧oQ e f
 |[],[],_=>⟨rfl,fun i e f h=>by simp at h⟩
 |e::es,f::fs,h=>⟨by simp[(rI.get h.2).1],fun i a b h1 h2=>by
   cases i with
   |zero=>simp at h1 h2;subst h1 h2;exact h.1
   |succ i=>exact(rI.get h.2).2 i a b (by simpa using h1) (by simpa using h2)⟩
 |[],_::_,h=>h.elim
 |_::_,[],h=>h.elim
theorem gB.rows{x:Bool}{sz:Nat}{es fs:List (List a6)}(h:rI es fs):gB (.list x sz es) (.list false sz fs):=by
 have hg:=h.get
 have hex:∀{i:Nat}{f:List a6},fs[i]?=some f→∃e,es[i]?=some e:=fun{i f} hf=>⟨_,List.getElem?_eq_getElem (by have:=(List.getElem?_eq_some_iff.1 hf).1;omega)⟩
 refine .list x false sz es fs (fun h=>by cases h) hg.1 (fun i e f he hf=>(hg.2 i e f he hf).1) (fun i j f c hf hc=>?_) (fun i j e f d c he hf hd hc=>(hg.2 i e f he hf).2.2.2 j d c hd hc)
 obtain⟨e,he⟩:=hex hf
 exact List.all_eq_true.1 (hg.2 i e f he hf).2.1 c (List.mem_of_getElem? hc)
theorem aC.wk{P:Program}{f:FuncId}{vs:List a6}{R:a6}{S:a6→Prop}(h:aC P f vs (fun r=>gB r R))(hs:S R):aC P f vs S:=h.weak fun r hr=>⟨R,hr,hs⟩
def QG:List I0:=[⟨bs [122,48],60,[]⟩,⟨bs [122,49],-300,[⟨145000,-240⟩,⟨147000,-300⟩]⟩,⟨bs [122,50],120,[⟨145450,0⟩]⟩]
theorem AV:Fl E2 QG:=⟨by decide,fun x hx=>by
 simp only[QG,List.mem_cons,List.not_mem_nil,or_false]at hx
 rcases hx with rfl|rfl|rfl<;>exact⟨(by decide:(2:Nat)≤100000),by decide⟩⟩
theorem tT:aC pr 89 [] (fun r=>r=Y6 QG):=by
 refine aC.wk (R:=Y6 QG) ?_ rfl
 refine aH k89.has rfl ?_
 conv=>whnf
 exact⟨_,.closed _ rfl,gB.rows (by exact⟨⟨rfl,rfl,.cons (.refl _) (.cons (.refl _) (.cons (.nil _ _) .nil))⟩,⟨rfl,rfl,.cons (.refl _) (.cons (.refl _) (.cons (.lst rfl rfl) .nil))⟩,⟨rfl,rfl,.cons (.refl _) (.cons (.refl _) (.cons (.lst rfl rfl) .nil))⟩,trivial⟩)⟩
def UH:List c8:=[⟨bs [105,100],2,false⟩,⟨bs [99],3,false⟩,⟨bs [97,116],4,false⟩,⟨bs [118],2,true⟩]
def W2:List c8:=[⟨bs [99],3,false⟩,⟨bs [97,116],4,false⟩,⟨bs [114],3,true⟩,⟨bs [107],2,false⟩]
def JW:List jE:=[⟨bs [111,114,100,101,114,115],true,UH,none⟩,⟨bs [99,117,115,116,111,109,101,114,115],true,W2,none⟩,⟨bs [114,101,116,117,114,110,115],true,UH,none⟩]
theorem uF:j3 pr 91 [] 4 (fun es=>es=mC bS JW):=by
 refine fB k91.has ?_
 conv=>whnf
 exact⟨_,_,_,rfl,rfl,rfl,rfl,rfl⟩
theorem NU(k:Nat)(l:List Int):List.drop k (iC l)=iC (l.drop k):=by rw[iC,iC,List.map_drop]
theorem TC(x:Bool)(l:List Int)(n:Nat)(hl:l.length≤1000000)(hn:n≤1000000):aC pr 93 [.list x 1 (iC l),.int .i64 n] (fun r=>∃(y:Bool) (l':List Int),r=.list y 1 (iC l')∧l'.length≤l.length):=by
 refine aH k93.has rfl ?_
 conv=>whnf
 refine And.intro (by rw[cA];constructor<;>split<;>omega) ?_
 conv=>whnf
 exact⟨_,.closed _ rfl,_,l.drop (if(n:Int)<((iC l).length:Nat)then(n:Int)else((iC l).length:Nat)).toNat,by rw[List.take_length,NU],by simp⟩
theorem GB{n:Int}{m:Nat}(h0:0≤n)(h1:1≤m):0≤n.tmod m∧n.tmod m<m:=⟨Int.tmod_nonneg _ h0,Int.tmod_lt_of_pos _ (by omega)⟩
theorem p7(x:Bool)(cs:List c8)(h1:1≤cs.length)(hc:cs.length≤100000)(hn:∀c∈cs,bM c.name)(n:Int)(h0:0≤n):aC pr 147 [.list x 3 (cC cs),.int .i64 n] (fun r=>∃s,r=.str s∧bM s):=by
 refine aH k147.has rfl ?_
 have hb:=GB (m:=(cC cs).length) h0 (by simpa using h1)
 have hcl:=aW cs
 repeat'((conv=>whnf);first|refine And.intro (by omega) ?_|refine aI ?_|refine oA ?_|refine oM fun x hx hm=>?_|((first|apply aK|apply aL|apply aM|apply aF|apply aE)<;>intro h<;>(try simp at h)<;>(try(exfalso;omega))))
 any_goals((conv=>whnf);first|exact⟨_,.closed _ rfl,_,rfl,hn _ (by assumption)⟩)
theorem RO{H H0 G:List aB}{ids:List Nat}(hH:H=H0++G)(b:Bool):∃r G,H=H0++G∧dV H 0 ids (.bool b) r∧r.clT=true∧E4 r:=⟨_,_,hH,.closed _ rfl,rfl,b,rfl⟩
theorem DQ{H H0 G:List aB}{ids:List Nat}(hH:H=H0++G)(c:Int):∃r G,H=H0++G∧dV H 0 ids (.int .i64 c) r∧r.clT=true∧L6 r:=⟨_,_,hH,.closed _ rfl,rfl,c,rfl⟩
theorem pP(x:Bool)(e:List oO)(he:e.length≤100000):aC pr 139 [.list x 6 (mC fZ e)] E4:=by
 refine aH k139.has rfl ?_
 conv=>whnf
 refine⟨fun m ρ H1=>∃k:Nat,k+m=(e).length∧H1=[]∧Sv 16 [(0,.list x 6 (mC fZ e)),(3,.int .i64 k)] ρ,(e).length,[],fun i ρ H1=>i=0∧H1=[]∧Sv 16 [(0,.list x 6 (mC fZ e))] ρ,?_,?_,?_⟩
 ·exact⟨0,Nat.zero_add _,rfl,Sv.intro rfl ⟨rfl,rfl,trivial⟩⟩
 ·rintro m ρ H1 ⟨k,hk,rfl,d,rfl⟩
  repeat'((conv=>whnf);first|refine aI ?_|refine oA ?_|refine oM fun x hx hm=>?_|((first|apply aK|apply aL|apply aM|apply aF|apply aE)<;>intro h<;>(try simp at h)))
  any_goals((conv=>whnf);first|exact G4 _|(refine⟨m-1,by omega,Gp.cut (H:=[]) rfl trivial rfl rfl ?_ fun ρ1 h=>⟨k+1,by omega,rfl,h⟩⟩;exact⟨rfl,aN (dT (by omega)),trivial⟩)|(refine Gp.cut (H:=[]) rfl trivial rfl rfl ?_ fun ρ1 h=>⟨rfl,rfl,h⟩;exact⟨rfl,trivial⟩))
 ·rintro i ρ1 H1 ⟨rfl,rfl,d,rfl⟩
  conv=>whnf
  exact G4 _
set_option maxRecDepth 20000 in
set_option maxHeartbeats 4000000 in
theorem MG(d:rA)(hd:d.F):cH pr 85 [d8 d] [.agg (bH d)] E4:=by
 have low:=gV d
 have hql:=hd.q.1
 have hcl:=hd.c.1
 refine bQ k85.has ⟨low _,trivial⟩ ?_
 repeat'((conv=>whnf);first|refine aI ?_|refine oA ?_|refine oM fun x hx hm=>?_|((first|apply aK|apply aL|apply aM|apply aF|apply aE)<;>intro h<;>(try simp at h)<;>(try(exfalso;omega))))
 any_goals((conv=>whnf);first|exact RO (by exact rfl) _)
 conv=>whnf
 refine⟨fun m ρ H1=>∃k:Nat,k+m=d.models.length∧H1=[d8 d,.arr 6 [bH d]]∧Sv 71 [(1,.ptr 1 1 0 0),(3,.int .i64 k)] ρ,d.models.length,[],fun i ρ H1=>i=0∧H1=[d8 d,.arr 6 [bH d]]∧Sv 71 [(1,.ptr 1 1 0 0)] ρ,?_,?_,?_⟩
 ·exact⟨0,Nat.zero_add _,rfl,Sv.intro rfl ⟨rfl,rfl,trivial⟩⟩
 ·rintro m ρ H1 ⟨k,hk,rfl,dd,rfl⟩
  repeat'((conv=>whnf);first|refine b8 (eM (aZ gQ d.models).symm) ?_|refine aI ?_|refine oA ?_|refine oM fun x hx hm=>?_|((first|apply aK|apply aL|apply aM|apply aF|apply aE)<;>intro h<;>(try simp at h)<;>(try(exfalso;omega))))
  any_goals((conv=>whnf);first|(refine Gp.cutN (H:=[d8 d,.arr 6 [bH d]]) rfl ⟨rfl,trivial⟩ ⟨low _,rfl,trivial⟩ rfl rfl ?_ fun ρ1 h=>⟨rfl,rfl,h⟩;exact⟨rfl,trivial⟩))
  rename vP=>z
  have hxq:=(hd.q.2 z (by assumption)).2.2.1
  have hxl:=hxq.1
  conv=>whnf
  refine⟨fun m ρ H1=>∃j:Nat,j+m=z.query.length∧H1=[d8 d,.arr 6 [bH d]]∧Sv 71 [(1,.ptr 1 1 0 0),(3,.int .i64 k),(4,PL z.query),(5,.int .i64 j)] ρ,z.query.length,[],fun i ρ H1=>i=2∧H1=[d8 d,.arr 6 [bH d]]∧Sv 71 [(1,.ptr 1 1 0 0),(3,.int .i64 k)] ρ,?_,?_,?_⟩
  ·exact⟨0,Nat.zero_add _,rfl,Sv.intro rfl ⟨rfl,rfl,rfl,rfl,trivial⟩⟩
  ·rintro m1 ρ H1 ⟨j,hj,rfl,dd,rfl⟩
   repeat'((conv=>whnf);first|((first|apply aC.use|apply aC.draw);exact pP false _ (hxq.2 _ (by assumption)).2.2.2.2.1;rintro r ⟨b,rfl⟩)|refine aI ?_|refine oA ?_|refine oM fun x hx hm=>?_|((first|apply aK|apply aL|apply aM|apply aF|apply aE)<;>intro h<;>(try simp at h)<;>(try(exfalso;omega))))
   any_goals((conv=>whnf);first|exact RO (by exact rfl) _|(refine Gp.cutN (H:=[d8 d,.arr 6 [bH d]]) rfl ⟨rfl,trivial⟩ ⟨low _,rfl,trivial⟩ rfl rfl ?_ fun ρ1 h=>⟨rfl,rfl,h⟩;exact⟨rfl,rfl,trivial⟩))
   rename rG=>y
   have hyi:=(hxq.2 y (by assumption)).2.2.2.1
   have hyl:=hyi.1
   conv=>whnf
   refine⟨fun m ρ H1=>∃i2:Nat,i2+m=y.items.length∧H1=[d8 d,.arr 6 [bH d]]∧Sv 71 [(1,.ptr 1 1 0 0),(3,.int .i64 k),(4,PL z.query),(5,.int .i64 j),(6,.int .i64 i2)] ρ,y.items.length,[],fun i ρ H1=>i=4∧H1=[d8 d,.arr 6 [bH d]]∧Sv 71 [(1,.ptr 1 1 0 0),(3,.int .i64 k),(4,PL z.query),(5,.int .i64 j)] ρ,?_,?_,?_⟩
   ·exact⟨0,Nat.zero_add _,rfl,Sv.intro rfl ⟨rfl,rfl,rfl,rfl,rfl,trivial⟩⟩
   ·rintro m2 ρ H1 ⟨i2,hi2,rfl,dd,rfl⟩
    repeat'((conv=>whnf);first|((first|apply aC.use|apply aC.draw);exact pP false _ (hyi.2 _ (by assumption)).2.2.1;rintro r ⟨b,rfl⟩)|refine aI ?_|refine oA ?_|refine oM fun x hx hm=>?_|((first|apply aK|apply aL|apply aM|apply aF|apply aE)<;>intro h<;>(try simp at h)<;>(try(exfalso;omega))))
    any_goals((conv=>whnf);first|exact RO (by exact rfl) _|(refine⟨m2-1,by omega,Gp.cutN (H:=[d8 d,.arr 6 [bH d]]) rfl ⟨rfl,trivial⟩ ⟨low _,rfl,trivial⟩ rfl rfl ?_ fun ρ1 h=>⟨i2+1,by omega,rfl,h⟩⟩;exact⟨rfl,rfl,rfl,rfl,aN (dT (by omega)),trivial⟩)|(refine Gp.cutN (H:=[d8 d,.arr 6 [bH d]]) rfl ⟨rfl,trivial⟩ ⟨low _,rfl,trivial⟩ rfl rfl ?_ fun ρ1 h=>⟨rfl,rfl,h⟩;exact⟨rfl,rfl,rfl,rfl,trivial⟩))
   ·rintro i ρ1 H1 ⟨rfl,rfl,dd,rfl⟩
    conv=>whnf
    refine⟨m1-1,by omega,Gp.cutN (H:=[d8 d,.arr 6 [bH d]]) rfl ⟨rfl,trivial⟩ ⟨low _,rfl,trivial⟩ rfl rfl ?_ fun ρ1 h=>⟨j+1,by omega,rfl,h⟩⟩
    exact⟨rfl,rfl,rfl,aN (dT (by omega)),trivial⟩
  ·rintro i ρ1 H1 ⟨rfl,rfl,dd,rfl⟩
   conv=>whnf
   refine⟨m-1,by omega,Gp.cutN (H:=[d8 d,.arr 6 [bH d]]) rfl ⟨rfl,trivial⟩ ⟨low _,rfl,trivial⟩ rfl rfl ?_ fun ρ1 h=>⟨k+1,by omega,rfl,h⟩⟩
   exact⟨rfl,aN (dT (by omega)),trivial⟩
 ·rintro i ρ1 H1 ⟨rfl,rfl,dd,rfl⟩
  conv=>whnf
  refine⟨fun m ρ H1=>∃k:Nat,k+m=d.checks.length∧H1=[d8 d,.arr 6 [bH d]]∧Sv 71 [(1,.ptr 1 1 0 0),(7,.int .i64 k)] ρ,d.checks.length,[],fun i ρ H1=>i=6∧H1=[d8 d,.arr 6 [bH d]]∧Sv 71 [(1,.ptr 1 1 0 0)] ρ,?_,?_,?_⟩
  ·exact⟨0,Nat.zero_add _,rfl,Sv.intro rfl ⟨rfl,rfl,trivial⟩⟩
  ·rintro m ρ H1 ⟨k,hk,rfl,dd,rfl⟩
   repeat'((conv=>whnf);first|((first|apply aC.use|apply aC.draw);exact pP false _ (hd.c.2 _ (by assumption)).2.2.2.2.2.1;rintro r ⟨b,rfl⟩)|refine aI ?_|refine oA ?_|refine oM fun x hx hm=>?_|((first|apply aK|apply aL|apply aM|apply aF|apply aE)<;>intro h<;>(try simp at h)<;>(try(exfalso;omega))))
   any_goals((conv=>whnf);first|exact RO (by exact rfl) _|(refine⟨m-1,by omega,Gp.cutN (H:=[d8 d,.arr 6 [bH d]]) rfl ⟨rfl,trivial⟩ ⟨low _,rfl,trivial⟩ rfl rfl ?_ fun ρ1 h=>⟨k+1,by omega,rfl,h⟩⟩;exact⟨rfl,aN (dT (by omega)),trivial⟩)|(refine Gp.cutN (H:=[d8 d,.arr 6 [bH d]]) rfl ⟨rfl,trivial⟩ ⟨low _,rfl,trivial⟩ rfl rfl ?_ fun ρ1 h=>⟨rfl,rfl,h⟩;exact⟨rfl,trivial⟩))
  ·rintro i ρ1 H1 ⟨rfl,rfl,dd,rfl⟩
   conv=>whnf
   exact RO (by exact rfl) _
def Ck(c:zQ):Prop:=(c.kind=2→1≤c.cols.length)∧(c.kind=6→1≤c.cols.length∧1≤c.ocols.length)∧(c.kind=3→c.cols.length=c.ocols.length)
theorem sQ{α:Type}{p:α→Prop}{l:List α}{k:Nat}{y:α}(h:∀s∈l.take k,p s)(hy:l[((k:Int)).toNat]?=some y)(hv:p y):∀s∈l.take (k+1),p s:=fun s hs=>by
 rw[Int.toNat_natCast]at hy
 rw[lB hy]at hs
 rcases List.mem_append.1 hs with h1|h1
 ·exact h s h1
 ·simp at h1;subst h1;exact hv
set_option maxRecDepth 20000 in
set_option maxHeartbeats 4000000 in
theorem IE(d:rA)(c:zQ)(l:List jE)(hd:d.F)(hc:FQ c)(hck:Ck c)(hl:Fl nH l):
  cH pr 87 [d8 d,i8 l] [.agg (bH d),.agg (eN c),.sl 1 l.length 0 l.length] L6:=by
 have low:=gV d
 have low2:=bP l
 obtain⟨_,_,hcl,_,hol,hcd⟩:=hc
 have hcl1:=hcl.1
 have hol1:=hol.1
 obtain⟨ck2,ck6,ck3⟩:=hck
 refine bQ k87.has ⟨low _,low2 _,trivial⟩ ?_
 repeat'((conv=>whnf);first|refine aI ?_|refine oA ?_|refine oM fun x hx hm=>?_|((first|apply aK|apply aL|apply aM|apply aF|apply aE)<;>intro h<;>(try simp at h)))
 (conv=>whnf);refine cH.use [1] (pU l hl.1 _) (by simp) rfl ⟨⟨_,rfl,.same (aV cG l)⟩,trivial⟩ ⟨.sl 0 _ _ _,.closed _ rfl,trivial⟩ (fun r hr=>?_)
 obtain⟨tx,b,rfl,hf1,hf2⟩:=hr
 repeat'((conv=>whnf);first|refine b8 ((bX _)) ?_|refine aI ?_|refine oA ?_|refine oM fun x hx hm=>?_|((first|apply aK|apply aL|apply aM|apply aF|apply aE)<;>intro h<;>(try simp at h)))
 (conv=>whnf);refine cH.use [1] (pU l hl.1 _) (by simp) rfl ⟨⟨_,rfl,.same (aV cG l)⟩,trivial⟩ ⟨.sl 0 _ _ _,.closed _ rfl,trivial⟩ (fun r hr=>?_)
 obtain⟨ty,b2,rfl,hg1,hg2⟩:=hr
 repeat'((conv=>whnf);first|refine b8 ((bX _)) ?_|refine aI ?_|refine oA ?_|refine oM fun x hx hm=>?_|((first|apply aK|apply aL|apply aM|apply aF|apply aE)<;>intro h<;>(try simp at h)))
 have hxl:=AE hl hf1 hf2
 have hyl:=AE hl hg1 hg2
 conv=>whnf
 refine⟨fun m ρ H1=>∃k:Nat,k+m=c.cols.length∧H1=[d8 d,i8 l,.arr 6 [bH d],.arr 14 [eN c],.arr 4 [bS tx],.arr 4 [bS ty]]∧(∀s∈c.cols.take k,0≤dZ tx.cols s)∧Sv 153 [(3,.ptr 2 1 0 0),(4,.ptr 3 1 0 0),(7,.ptr 4 1 0 0),(9,.ptr 5 1 0 0),(11,.int .i64 k)] ρ,c.cols.length,[],fun i ρ H1=>i=0∧H1=[d8 d,i8 l,.arr 6 [bH d],.arr 14 [eN c],.arr 4 [bS tx],.arr 4 [bS ty]]∧(∀s∈c.cols,0≤dZ tx.cols s)∧Sv 153 [(3,.ptr 2 1 0 0),(4,.ptr 3 1 0 0),(7,.ptr 4 1 0 0),(9,.ptr 5 1 0 0)] ρ,?_,?_,?_⟩
 ·exact⟨0,Nat.zero_add _,rfl,fun s h=>by simp at h,Sv.intro rfl ⟨rfl,rfl,rfl,rfl,rfl,trivial⟩⟩
 ·rintro m ρ H1 ⟨k,hk,rfl,hv,dd,rfl⟩
  repeat'((conv=>whnf);first|((first|apply aC.use|apply aC.draw);exact aC.of (bB tx.ec tx.cols (by omega) _);rintro r rfl)|refine aI ?_|refine oA ?_|refine oM fun x hx hm=>?_|((first|apply aK|apply aL|apply aM|apply aF|apply aE)<;>intro h<;>(try simp at h)))
  any_goals((conv=>whnf);first|exact DQ (by exact rfl) _|(refine⟨m-1,by omega,Gp.cutN (H:=[d8 d,i8 l,.arr 6 [bH d],.arr 14 [eN c],.arr 4 [bS tx],.arr 4 [bS ty]]) rfl ⟨rfl,rfl,trivial⟩ ⟨low _,low2 _,rfl,rfl,bP [tx] _,bP [ty] _,trivial⟩ rfl rfl ?_ fun ρ1 h=>⟨k+1,by omega,rfl,sQ hv (by assumption) (by assumption),h⟩⟩;exact⟨rfl,rfl,rfl,rfl,aN (dT (by omega)),trivial⟩)|(refine Gp.cutN (H:=[d8 d,i8 l,.arr 6 [bH d],.arr 14 [eN c],.arr 4 [bS tx],.arr 4 [bS ty]]) rfl ⟨rfl,rfl,trivial⟩ ⟨low _,low2 _,rfl,rfl,bP [tx] _,bP [ty] _,trivial⟩ rfl rfl ?_ fun ρ1 h=>⟨rfl,rfl,by rwa [List.take_of_length_le (by omega)]at hv,h⟩;exact⟨rfl,rfl,rfl,rfl,trivial⟩))
 ·rintro i ρ1 H1 ⟨rfl,rfl,hx0,dd,rfl⟩
  conv=>whnf
  refine⟨fun m ρ H1=>∃k:Nat,k+m=c.ocols.length∧H1=[d8 d,i8 l,.arr 6 [bH d],.arr 14 [eN c],.arr 4 [bS tx],.arr 4 [bS ty]]∧(∀s∈c.ocols.take k,0≤dZ ty.cols s)∧Sv 153 [(3,.ptr 2 1 0 0),(4,.ptr 3 1 0 0),(7,.ptr 4 1 0 0),(9,.ptr 5 1 0 0),(12,.int .i64 k)] ρ,c.ocols.length,[],fun i ρ H1=>i=2∧H1=[d8 d,i8 l,.arr 6 [bH d],.arr 14 [eN c],.arr 4 [bS tx],.arr 4 [bS ty]]∧(∀s∈c.ocols,0≤dZ ty.cols s)∧Sv 153 [(3,.ptr 2 1 0 0),(4,.ptr 3 1 0 0),(7,.ptr 4 1 0 0),(9,.ptr 5 1 0 0)] ρ,?_,?_,?_⟩
  ·exact⟨0,Nat.zero_add _,rfl,fun s h=>by simp at h,Sv.intro rfl ⟨rfl,rfl,rfl,rfl,rfl,trivial⟩⟩
  ·rintro m ρ H1 ⟨k,hk,rfl,hv,dd,rfl⟩
   repeat'((conv=>whnf);first|((first|apply aC.use|apply aC.draw);exact aC.of (bB ty.ec ty.cols (by omega) _);rintro r rfl)|refine aI ?_|refine oA ?_|refine oM fun x hx hm=>?_|((first|apply aK|apply aL|apply aM|apply aF|apply aE)<;>intro h<;>(try simp at h)))
   any_goals((conv=>whnf);first|exact DQ (by exact rfl) _|(refine⟨m-1,by omega,Gp.cutN (H:=[d8 d,i8 l,.arr 6 [bH d],.arr 14 [eN c],.arr 4 [bS tx],.arr 4 [bS ty]]) rfl ⟨rfl,rfl,trivial⟩ ⟨low _,low2 _,rfl,rfl,bP [tx] _,bP [ty] _,trivial⟩ rfl rfl ?_ fun ρ1 h=>⟨k+1,by omega,rfl,sQ hv (by assumption) (by assumption),h⟩⟩;exact⟨rfl,rfl,rfl,rfl,aN (dT (by omega)),trivial⟩)|(refine Gp.cutN (H:=[d8 d,i8 l,.arr 6 [bH d],.arr 14 [eN c],.arr 4 [bS tx],.arr 4 [bS ty]]) rfl ⟨rfl,rfl,trivial⟩ ⟨low _,low2 _,rfl,rfl,bP [tx] _,bP [ty] _,trivial⟩ rfl rfl ?_ fun ρ1 h=>⟨rfl,rfl,by rwa [List.take_of_length_le (by omega)]at hv,h⟩;exact⟨rfl,rfl,rfl,rfl,trivial⟩))
  ·rintro i ρ1 H1 ⟨rfl,rfl,hy0,dd,rfl⟩
   (conv=>whnf);refine aL (fun h=>?_) (fun h=>?_)
   ·repeat'((conv=>whnf);first|((first|apply aC.use|apply aC.draw);exact aC.of (bB tx.ec tx.cols (by omega) _);rintro r rfl)|((first|apply aC.use|apply aC.draw);exact aC.of (bB ty.ec ty.cols (by omega) _);rintro r rfl)|refine And.intro (hx0 _ (by assumption)) ?_|refine And.intro (hy0 _ (by assumption)) ?_|refine iP (dB tx.cols _ (hx0 _ (by assumption))) (fun u hu hmu=>?_)|refine iP (dB ty.cols _ (hy0 _ (by assumption))) (fun u hu hmu=>?_)|((first|apply aC.use|apply aC.draw);exact jF false tx.ec false c.cond tx.cols d.zones hcd hxl hd.z;rintro r ⟨c3,rfl⟩)|refine aI ?_|refine oA ?_|refine oM fun x hx hm=>?_|((first|apply aK|apply aL|apply aM|apply aF|apply aE)<;>intro h<;>(try simp at h)<;>(try(exfalso;omega))))
    any_goals((conv=>whnf);first|exact DQ (by exact rfl) _)
   ·(conv=>whnf);refine aL (fun h=>?_) (fun h=>?_)
    ·have ck6:=ck6 h
     obtain⟨s0,hs0,hm0⟩:∃s0,(sC c.cols)[Int.toNat 0]?=some [.str s0]∧s0∈c.cols:=⟨c.cols[0],mL (List.getElem?_eq_getElem (show 0<c.cols.length from ck6.1)),List.getElem_mem _⟩
     obtain⟨s1,hs1,hm1⟩:∃s1,(sC c.ocols)[Int.toNat 0]?=some [.str s1]∧s1∈c.ocols:=⟨c.ocols[0],mL (List.getElem?_eq_getElem (show 0<c.ocols.length from ck6.2)),List.getElem_mem _⟩
     obtain⟨u0,hu0⟩:∃u0,(cC tx.cols)[(dZ tx.cols s0).toNat]?=some (fY u0):=⟨_,iI (List.getElem?_eq_getElem (dB tx.cols _ (hx0 _ hm0)))⟩
     obtain⟨u1,hu1⟩:∃u1,(cC ty.cols)[(dZ ty.cols s1).toNat]?=some (fY u1):=⟨_,iI (List.getElem?_eq_getElem (dB ty.cols _ (hy0 _ hm1)))⟩
     have hx1:=hx0 _ hm0
     have hy1:=hy0 _ hm1
     repeat'(first|refine aT hs0 ?_|refine aT hu0 ?_|refine aT hs1 ?_|refine aT hu1 ?_|((conv=>whnf);first|((first|apply aC.use|apply aC.draw);exact aC.of (bB tx.ec tx.cols (by omega) _);rintro r rfl)|((first|apply aC.use|apply aC.draw);exact aC.of (bB ty.ec ty.cols (by omega) _);rintro r rfl)|refine And.intro (hx0 _ (by assumption)) ?_|refine And.intro (hy0 _ (by assumption)) ?_|refine iP (dB tx.cols _ (hx0 _ (by assumption))) (fun u hu hmu=>?_)|refine iP (dB ty.cols _ (hy0 _ (by assumption))) (fun u hu hmu=>?_)|((first|apply aC.use|apply aC.draw);exact jF false tx.ec false c.cond tx.cols d.zones hcd hxl hd.z;rintro r ⟨c3,rfl⟩)|refine aI ?_|refine oA ?_|refine oM fun x hx hm=>?_|((first|apply aK|apply aL|apply aM|apply aF|apply aE)<;>intro h<;>(try simp at h)<;>(try(exfalso;omega)))))
     any_goals((conv=>whnf);first|exact DQ (by exact rfl) _)
    ·repeat'((conv=>whnf);first|((first|apply aC.use|apply aC.draw);exact aC.of (bB tx.ec tx.cols (by omega) _);rintro r rfl)|((first|apply aC.use|apply aC.draw);exact aC.of (bB ty.ec ty.cols (by omega) _);rintro r rfl)|refine And.intro (hx0 _ (by assumption)) ?_|refine And.intro (hy0 _ (by assumption)) ?_|refine iP (dB tx.cols _ (hx0 _ (by assumption))) (fun u hu hmu=>?_)|refine iP (dB ty.cols _ (hy0 _ (by assumption))) (fun u hu hmu=>?_)|((first|apply aC.use|apply aC.draw);exact jF false tx.ec false c.cond tx.cols d.zones hcd hxl hd.z;rintro r ⟨c3,rfl⟩)|refine aI ?_|refine oA ?_|refine oM fun x hx hm=>?_|((first|apply aK|apply aL|apply aM|apply aF|apply aE)<;>intro h<;>(try simp at h)<;>(try(exfalso;omega))))
     any_goals((conv=>whnf);first|exact DQ (by exact rfl) _)
     conv=>whnf
     refine⟨fun m ρ H1=>∃k:Nat,k+m=c.cols.length∧H1=[d8 d,i8 l,.arr 6 [bH d],.arr 14 [eN c],.arr 4 [bS tx],.arr 4 [bS ty]]∧Sv 153 [(4,.ptr 3 1 0 0),(7,.ptr 4 1 0 0),(9,.ptr 5 1 0 0),(13,.int .i64 k)] ρ,c.cols.length,[],fun i ρ H1=>i=5∧H1=[d8 d,i8 l,.arr 6 [bH d],.arr 14 [eN c],.arr 4 [bS tx],.arr 4 [bS ty]]∧Sv 153 [(4,.ptr 3 1 0 0),(7,.ptr 4 1 0 0),(9,.ptr 5 1 0 0)] ρ,?_,?_,?_⟩
     ·exact⟨0,Nat.zero_add _,rfl,Sv.intro rfl ⟨rfl,rfl,rfl,rfl,trivial⟩⟩
     ·rintro m ρ H1 ⟨k,hk,rfl,dd,rfl⟩
      repeat'((conv=>whnf);first|((first|apply aC.use|apply aC.draw);exact aC.of (bB tx.ec tx.cols (by omega) _);rintro r rfl)|((first|apply aC.use|apply aC.draw);exact aC.of (bB ty.ec ty.cols (by omega) _);rintro r rfl)|refine And.intro (hx0 _ (by assumption)) ?_|refine And.intro (hy0 _ (by assumption)) ?_|refine iP (dB tx.cols _ (hx0 _ (by assumption))) (fun u hu hmu=>?_)|refine iP (dB ty.cols _ (hy0 _ (by assumption))) (fun u hu hmu=>?_)|refine aI ?_|refine oA ?_|refine oM fun x hx hm=>?_|((first|apply aK|apply aL|apply aM|apply aF|apply aE)<;>intro h<;>(try simp at h)<;>(try(exfalso;omega))))
      any_goals((conv=>whnf);first|exact DQ (by exact rfl) _|(refine⟨m-1,by omega,Gp.cutN (H:=[d8 d,i8 l,.arr 6 [bH d],.arr 14 [eN c],.arr 4 [bS tx],.arr 4 [bS ty]]) rfl ⟨rfl,rfl,trivial⟩ ⟨low _,low2 _,rfl,rfl,bP [tx] _,bP [ty] _,trivial⟩ rfl rfl ?_ fun ρ1 h=>⟨k+1,by omega,rfl,h⟩⟩;exact⟨rfl,rfl,rfl,aN (dT (by omega)),trivial⟩)|(refine Gp.cutN (H:=[d8 d,i8 l,.arr 6 [bH d],.arr 14 [eN c],.arr 4 [bS tx],.arr 4 [bS ty]]) rfl ⟨rfl,rfl,trivial⟩ ⟨low _,low2 _,rfl,rfl,bP [tx] _,bP [ty] _,trivial⟩ rfl rfl ?_ fun ρ1 h=>⟨rfl,rfl,h⟩;exact⟨rfl,rfl,rfl,trivial⟩))
     ·rintro i ρ1 H1 ⟨rfl,rfl,dd,rfl⟩
      repeat'((conv=>whnf);first|refine aI ?_|refine oA ?_|refine oM fun x hx hm=>?_|((first|apply aK|apply aL|apply aM|apply aF|apply aE)<;>intro h<;>(try simp at h)<;>(try(exfalso;omega))))
      any_goals((conv=>whnf);first|exact DQ (by exact rfl) _)
theorem lP(x:Bool)(nm:ByteArray)(l:List ByteArray)(hn:bM nm)(hl:l.length≤100000):aC pr 176 [.str nm,.list x 1 (sC l)] L6:=by
 refine aH k176.has rfl ?_
 repeat'((conv=>whnf);first|((first|apply aC.use|apply aC.draw);exact i7 _ hn;rintro r ⟨b,rfl,hb⟩)|((first|apply aC.use|apply aC.draw);exact gE x l hl _;rintro r ⟨b,rfl,hb⟩)|refine aI ?_|refine oA ?_|refine oM fun x hx hm=>?_|((first|apply aK|apply aL|apply aM|apply aF|apply aE)<;>intro h<;>(try simp at h)))
 any_goals((conv=>whnf);first|exact HQ _)
theorem zP(x:Bool)(cs:List c8)(hc:cs.length≤100000):aC pr 226 [.list x 3 (cC cs)] E4:=by
 refine aH k226.has rfl ?_
 conv=>whnf
 refine⟨fun m ρ H1=>∃k:Nat,k+m=(cs).length∧H1=[]∧Sv 16 [(0,.list x 3 (cC cs)),(3,.int .i64 k)] ρ,(cs).length,[],fun i ρ H1=>i=0∧H1=[]∧Sv 16 [(0,.list x 3 (cC cs))] ρ,?_,?_,?_⟩
 ·exact⟨0,Nat.zero_add _,rfl,Sv.intro rfl ⟨rfl,rfl,trivial⟩⟩
 ·rintro m ρ H1 ⟨k,hk,rfl,d,rfl⟩
  repeat'((conv=>whnf);first|((first|apply aC.use|apply aC.draw);exact qL _;rintro r ⟨b,rfl⟩)|refine aI ?_|refine oA ?_|refine oM fun x hx hm=>?_|((first|apply aK|apply aL|apply aM|apply aF|apply aE)<;>intro h<;>(try simp at h)))
  any_goals((conv=>whnf);first|exact G4 _|(refine⟨m-1,by omega,Gp.cut (H:=[]) rfl trivial rfl rfl ?_ fun ρ1 h=>⟨k+1,by omega,rfl,h⟩⟩;exact⟨rfl,aN (dT (by omega)),trivial⟩)|(refine Gp.cut (H:=[]) rfl trivial rfl rfl ?_ fun ρ1 h=>⟨rfl,rfl,h⟩;exact⟨rfl,trivial⟩))
 ·rintro i ρ1 H1 ⟨rfl,rfl,d,rfl⟩
  conv=>whnf
  exact G4 _
theorem DT(n:Int):aC pr 260 [.int .i64 n] E4:=by
 refine aH k260.has rfl ?_
 repeat'((conv=>whnf);first|refine aI ?_|refine oA ?_|refine oM fun x hx hm=>?_|((first|apply aK|apply aL|apply aM|apply aF|apply aE)<;>intro h<;>(try simp at h)))
 any_goals((conv=>whnf);first|exact G4 _)
set_option maxRecDepth 20000 in
set_option maxHeartbeats 2000000 in
theorem GY(s:yP)(hs:Q7 s):aC pr 223 [.agg (DC s)] L6:=by
 obtain⟨h1,h2,h3,h4,h5⟩:=hs
 have hcl:=h2.1
 have hkl:=h3.1
 refine aH k223.has rfl ?_
 repeat'((conv=>whnf);first|((first|apply aC.use|apply aC.draw);exact aC.of (dN false s.cols (by omega));rintro r rfl)|((first|apply aC.use|apply aC.draw);exact zP false s.cols hcl;rintro r ⟨b,rfl⟩)|((first|apply aC.use|apply aC.draw);exact iM false false s.cols s.key hcl hkl;rintro r (⟨e,he,rfl⟩|⟨a,ha1,ha2,rfl⟩))|refine aI ?_|refine oA ?_|refine oM fun x hx hm=>?_|((first|apply aK|apply aL|apply aM|apply aF|apply aE)<;>intro h<;>(try simp at h)<;>(try(exfalso;omega))))
 any_goals((conv=>whnf);first|exact HQ _)
 conv=>whnf
 refine⟨fun m ρ H1=>∃k:Nat,k+m=(a).length∧H1=[.arr 7 [DC s]]∧Sv 93 [(1,.ptr 0 1 0 0),(4,.list false 1 (iC a)),(6,.int .i64 k)] ρ,(a).length,[],fun i ρ H1=>i=0∧H1=[.arr 7 [DC s]]∧Sv 93 [(1,.ptr 0 1 0 0)] ρ,?_,?_,?_⟩
 ·exact⟨0,Nat.zero_add _,rfl,Sv.intro rfl ⟨rfl,rfl,rfl,trivial⟩⟩
 ·rintro m ρ H1 ⟨k,hk,rfl,d,rfl⟩
  have hal:a.length≤100000:=by rw[ha1];exact hkl
  have ha3:∀i∈a,0≤i:=fun i h=>(ha2 i h).1
  repeat'((conv=>whnf);first|refine And.intro (ha3 _ (by assumption)) ?_|refine iP (ha2 _ (by assumption)).2 (fun x hx hm=>?_)|refine aI ?_|refine oA ?_|refine oM fun x hx hm=>?_|((first|apply aK|apply aL|apply aM|apply aF|apply aE)<;>intro h<;>(try simp at h)))
  any_goals((conv=>whnf);first|exact HQ _|(refine⟨m-1,by omega,Gp.cut (H:=[.arr 7 [DC s]]) rfl ⟨rfl,trivial⟩ rfl rfl ?_ fun ρ1 h=>⟨k+1,by omega,rfl,h⟩⟩;exact⟨rfl,rfl,aN (dT (by omega)),trivial⟩)|(refine Gp.cut (H:=[.arr 7 [DC s]]) rfl ⟨rfl,trivial⟩ rfl rfl ?_ fun ρ1 h=>⟨rfl,rfl,h⟩;exact⟨rfl,trivial⟩))
 ·rintro i ρ1 H1 ⟨rfl,rfl,d,rfl⟩
  repeat'((conv=>whnf);first|((first|apply aC.use|apply aC.draw);exact aC.of (bB false s.cols (by omega) _);rintro r rfl)|((first|apply aC.use|apply aC.draw);exact i7 _ h5;rintro r ⟨b,rfl,hb⟩)|((first|apply aC.use|apply aC.draw);exact DT _;rintro r ⟨b,rfl⟩)|refine iP (dB s.cols _ (by assumption)) (fun x hx hm=>?_)|refine aI ?_|refine oA ?_|refine oM fun x hx hm=>?_|((first|apply aK|apply aL|apply aM|apply aF|apply aE)<;>intro h<;>(try simp at h)<;>(try(exfalso;omega))))
  any_goals((conv=>whnf);first|exact HQ _)
set_option maxRecDepth 20000 in
set_option maxHeartbeats 2000000 in
theorem nZ(x:Bool)(l:List ByteArray)(hl:l.length≤100000):aC pr 263 [.list x 1 (sC l)] (L5 (1≤l.length)):=by
 refine aH k263.has rfl ?_
 repeat'((conv=>whnf);first|refine aI ?_|refine oA ?_|refine oM fun x hx hm=>?_|((first|apply aK|apply aL|apply aM|apply aF|apply aE)<;>intro h<;>(try simp at h)<;>(try(exfalso;omega))))
 any_goals((conv=>whnf);first|exact xA _ (by decide))
 conv=>whnf
 refine⟨fun m ρ H1=>∃k:Nat,k+m=(l).length∧H1=[]∧Sv 32 [(0,.list x 1 (sC l)),(3,.int .i64 k)] ρ,(l).length,[],fun i ρ H1=>i=0∧H1=[]∧Sv 32 [(0,.list x 1 (sC l))] ρ,?_,?_,?_⟩
 ·exact⟨0,Nat.zero_add _,rfl,Sv.intro rfl ⟨rfl,rfl,trivial⟩⟩
 ·rintro m ρ H1 ⟨k,hk,rfl,d,rfl⟩
  repeat'((conv=>whnf);first|((first|apply aC.use|apply aC.draw);exact fC _;rintro r ⟨b,rfl⟩)|((first|apply aC.use|apply aC.draw);exact aC.args (gE false (l.take k) (by simp;omega) _) (.cons (gB.lst (by simp[sC,List.map_take]) (aO _)) (.cons (.refl _) .nil));rintro r ⟨b,rfl,hb⟩)|refine aI ?_|refine oA ?_|refine oM fun x hx hm=>?_|((first|apply aK|apply aL|apply aM|apply aF|apply aE)<;>intro h<;>(try simp at h)))
  any_goals((conv=>whnf);first|exact xA _ (by decide)|(refine⟨m-1,by omega,Gp.cut (H:=[]) rfl trivial rfl rfl ?_ fun ρ1 h=>⟨k+1,by omega,rfl,h⟩⟩;exact⟨rfl,aN (dT (by omega)),trivial⟩)|(refine Gp.cut (H:=[]) rfl trivial rfl rfl ?_ fun ρ1 h=>⟨rfl,rfl,h⟩;exact⟨rfl,trivial⟩))
 ·rintro i ρ1 H1 ⟨rfl,rfl,d,rfl⟩
  conv=>whnf
  exact RP _ fun _=>by omega
theorem MU(n:Int):aC pr 295 [.int .i64 n] E4:=by
 refine aH k295.has rfl ?_
 repeat'((conv=>whnf);first|refine aI ?_|refine oA ?_|refine oM fun x hx hm=>?_|((first|apply aK|apply aL|apply aM|apply aF|apply aE)<;>intro h<;>(try simp at h)))
 any_goals((conv=>whnf);first|exact G4 _)
theorem V3(a b:Int):aC pr 290 [.agg [.int .i64 a,.int .i64 b]] E4:=by
 refine aH k290.has rfl ?_
 repeat'((conv=>whnf);first|((first|apply aC.use|apply aC.draw);exact MU _;rintro r ⟨b,rfl⟩)|refine aI ?_|refine oA ?_|refine oM fun x hx hm=>?_|((first|apply aK|apply aL|apply aM|apply aF|apply aE)<;>intro h<;>(try simp at h)))
 any_goals((conv=>whnf);first|exact G4 _)
theorem JT(a b:Int):aC pr 265 [.agg [.int .i64 a,.int .i64 b]] E4:=by
 refine aH k265.has rfl ?_
 repeat'((conv=>whnf);first|((first|apply aC.use|apply aC.draw);exact V3 _ _;rintro r ⟨b,rfl⟩)|refine aI ?_|refine oA ?_|refine oM fun x hx hm=>?_|((first|apply aK|apply aL|apply aM|apply aF|apply aE)<;>intro h<;>(try simp at h)))
 any_goals((conv=>whnf);first|exact G4 _)
set_option maxRecDepth 20000 in
set_option maxHeartbeats 4000000 in
theorem HM(c:zQ):aC pr 230 [.agg (eN c)] E4:=by
 refine aH k230.has rfl ?_
 repeat'((conv=>whnf);first|refine aI ?_|refine oA ?_|refine oM fun x hx hm=>?_|((first|apply aK|apply aL|apply aM|apply aF|apply aE)<;>intro h<;>(try simp at h)<;>(try(exfalso;omega))))
 any_goals((conv=>whnf);first|exact G4 _)
set_option maxRecDepth 20000 in
theorem A4(c:zQ)(hc:FQ c):aC pr 264 [.agg (eN c)] (L5 (c.cols.length=c.ocols.length)):=by
 obtain⟨_,_,hcl,ho,hol,hcd⟩:=hc
 refine aH k264.has rfl ?_
 repeat'((conv=>whnf);first|((first|apply aC.use|apply aC.draw);exact nZ false c.cols hcl.1;rintro r ⟨e,rfl,he⟩)|((first|apply aC.use|apply aC.draw);exact nZ false c.ocols hol.1;rintro r ⟨e,rfl,he⟩)|((first|apply aC.use|apply aC.draw);exact i7 _ ho;rintro r ⟨b,rfl,hb⟩)|refine aI ?_|refine oA ?_|refine oM fun x hx hm=>?_|((first|apply aK|apply aL|apply aM|apply aF|apply aE)<;>intro h<;>(try simp at h)<;>(try(exfalso;omega))))
 any_goals((conv=>whnf);first|exact xA _ (by assumption)|exact xA _ (by decide)|(refine RP _ fun _=>?_;omega))
set_option maxRecDepth 20000 in
set_option maxHeartbeats 4000000 in
theorem MO(c:zQ)(hc:FQ c):aC pr 231 [.agg (eN c)] (L5 (Ck c)):=by
 have hc':=hc
 obtain⟨_,_,hcl,ho,hol,hcd⟩:=hc
 have hcl1:=hcl.1
 have hol1:=hol.1
 refine aH k231.has rfl ?_
 repeat'((conv=>whnf);first|((first|apply aC.use|apply aC.draw);exact nZ false c.cols hcl.1;rintro r ⟨e,rfl,he⟩)|((first|apply aC.use|apply aC.draw);exact fC _;rintro r ⟨b,rfl⟩)|((first|apply aC.use|apply aC.draw);exact A4 c hc';rintro r ⟨e,rfl,he⟩)|((first|apply aC.use|apply aC.draw);exact lK false c.cond hcd;rintro r ⟨e,rfl,hv⟩)|((first|apply aC.use|apply aC.draw);exact JT _ _;rintro r ⟨b,rfl⟩)|((first|apply aC.use|apply aC.draw);exact i7 _ ho;rintro r ⟨b,rfl,hb⟩)|refine aI ?_|refine oA ?_|refine oM fun x hx hm=>?_|((first|apply aK|apply aL|apply aM|apply aF|apply aE)<;>intro h<;>(try simp at h)<;>(try(exfalso;omega))))
 any_goals((conv=>whnf);first|exact xA _ (by assumption)|exact xA _ (by decide)|(refine RP _ fun h0=>⟨fun h=>?_,fun h=>?_,fun h=>?_⟩<;>omega))
set_option maxRecDepth 20000 in
set_option maxHeartbeats 4000000 in
theorem ID(c:zQ)(hc:FQ c):aC pr 179 [.agg (eN c)] (L5 (Ck c)):=by
 have hc':=hc
 obtain⟨_,ht,hcl,ho,hol,hcd⟩:=hc
 refine aH k179.has rfl ?_
 repeat'((conv=>whnf);first|((first|apply aC.use|apply aC.draw);exact i7 _ ht;rintro r ⟨b,rfl,hb⟩)|((first|apply aC.use|apply aC.draw);exact HM c;rintro r ⟨b,rfl⟩)|((first|apply aC.use|apply aC.draw);exact MO c hc';rintro r ⟨e,rfl,he⟩)|refine aI ?_|refine oA ?_|refine oM fun x hx hm=>?_|((first|apply aK|apply aL|apply aM|apply aF|apply aE)<;>intro h<;>(try simp at h)<;>(try(exfalso;omega))))
 any_goals((conv=>whnf);first|exact xA _ (by assumption)|exact xA _ (by decide)|(refine RP _ fun _=>?_;exact he (by assumption)))
set_option maxRecDepth 20000 in
set_option maxHeartbeats 4000000 in
theorem JA(m:vP)(hm:GA m):aC pr 177 [.agg (gQ m)] L6:=by
 obtain⟨h1,h2,h3,h4,h5,h6⟩:=hm
 have hsl:=h2.1
 refine aH k177.has rfl ?_
 repeat'((conv=>whnf);first|((first|apply aC.use|apply aC.draw);exact aC.of (dN false m.self (by omega));rintro r rfl)|((first|apply aC.use|apply aC.draw);exact zP false m.self hsl;rintro r ⟨b,rfl⟩)|((first|apply aC.use|apply aC.draw);exact sU false m.query h3;rintro r ⟨e,rfl,he⟩)|((first|apply aC.use|apply aC.draw);exact PO false m.query h3;rintro r ⟨rl,rfl,hr1,hr2⟩)|((first|apply aC.use|apply aC.draw);exact gE false rl hr1.1 _;rintro r ⟨b,rfl,hb⟩)|((first|apply aC.use|apply aC.draw);exact fC _;rintro r ⟨b,rfl⟩)|((first|apply aC.use|apply aC.draw);exact i7 _ h5;rintro r ⟨b,rfl,hb⟩)|((first|apply aC.use|apply aC.draw);exact aC.of (eH m.owner);rintro r rfl)|refine aI ?_|refine oA ?_|refine oM fun x hx hm=>?_|((first|apply aK|apply aL|apply aM|apply aF|apply aE)<;>intro h<;>(try simp at h)<;>(try(exfalso;omega))))
 any_goals((conv=>whnf);first|exact HQ _)
theorem D6:∀r,L6 r→r.scalar=true:=by rintro _ ⟨c,rfl⟩;rfl
def XA(r:a6):Prop:=∃e:Int,e≠0∧r=.tuple [.nil,.int .i64 e]
def YK(N:Nat)(es:List (List a6))(w:a6):Prop:=w=.int .i64 0∧∃l:List ByteArray,es=sC l∧l.length≤64∧N≤64
theorem UD{H H0 G:List aB}{ids:List Nat}{sz n0:Nat}{T:List (List a6)→a6→Prop}(hH:H=H0++G)(e:Int)(he:e≠0):∃G,H=H0++G∧((∃r,dV H 0 ids (.tuple [.nil,.int .i64 e]) r∧r.clT=true∧XA r) ∨
  ∃id n es w,a6.tuple [.nil,.int .i64 e]=.tuple [.sl id n 0 n,w]∧n0≤id∧H[id]?=some (.arr sz es)∧n=es.length∧bG es=true∧w.closed=true∧T es w) :=
 ⟨_,hH,.inl ⟨_,dU (.closed _ rfl) (.closed _ rfl),rfl,e,he,rfl⟩⟩
set_option maxRecDepth 20000 in
set_option maxHeartbeats 4000000 in
theorem IU(d:rA)(hd:d.F)(hm:d.macros.length=0):
  AZ pr 175 [d8 d] [.agg (bH d)] 1 XA (YK d.sources.length):=by
 have low:=gV d
 have hzl:=hd.z.1
 have hsl:=hd.s.1
 refine uA k175.has ⟨dX d,trivial⟩ ?_
 repeat'((conv=>whnf);first|refine aI ?_|refine oA ?_|refine oM fun x hx hm=>?_|((first|apply aK|apply aL|apply aM|apply aF|apply aE)<;>intro h<;>(try simp at h)<;>(try(exfalso;omega))))
 any_goals((conv=>whnf);first|exact UD (by exact rfl) _ (by decide))
 conv=>whnf
 refine⟨fun m ρ H1=>∃(k:Nat) (ns:List ByteArray),k+m=d.zones.length∧ns.length=k∧H1=[d8 d,.arr 6 [bH d],.arr 1 (sC ns)]∧Sv 141 [(1,.ptr 1 1 0 0),(4,.sl 2 ns.length 0 ns.length),(5,.nil),(6,.nil),(7,.int .i64 k)] ρ,d.zones.length,[(4,1)],fun i ρ H1=>i=0∧H1=[d8 d,.arr 6 [bH d]]∧Sv 141 [(1,.ptr 1 1 0 0),(5,.nil),(6,.nil)] ρ,?_,?_,?_⟩
 ·exact⟨0,[],by omega,rfl,rfl,Sv.intro rfl ⟨rfl,rfl,rfl,rfl,rfl,trivial⟩⟩
 ·rintro m ρ H1 ⟨k,ns,hk,hn,rfl,dd,rfl⟩
  repeat'((conv=>whnf);first|(refine aC.bor (lP false _ ns (hd.z.2 _ (by assumption)).1 (by omega)) D6 (.cons (.same _ rfl) (.cons (qW rfl (aP ns).symm (aO _)) .nil)) (fun r hr=>?_);obtain⟨c,rfl⟩:=hr)|((first|apply aC.use|apply aC.draw);exact oJ _ (hd.z.2 _ (by assumption));rintro r ⟨c,rfl⟩)|refine b8 (eM (aP ns).symm) ?_|refine And.intro (⟨by simp[aQ];omega,by simp[aQ];omega,rfl,(aP ns).symm⟩) ?_|refine aI ?_|refine oA ?_|refine oM fun x hx hm=>?_|((first|apply aK|apply aL|apply aM|apply aF|apply aE)<;>intro h<;>(try simp at h)<;>(try(exfalso;omega))))
  any_goals((conv=>whnf);first|exact UD (by exact rfl) _ (by assumption)|(refine⟨m-1,by omega,Gp.cutN (H:=[d8 d,.arr 6 [bH d],.arr 1 (sC ns++[[.str x.name]])]) rfl ⟨rfl,trivial⟩ ⟨low _,rfl,bU (by rw[eA];exact aO _),trivial⟩ rfl rfl ?_ fun ρ1 h=>⟨k+1,ns++[x.name],by omega,by simp;omega,by rw[eA],h⟩⟩;exact⟨rfl,eS (by simp) (by simp),rfl,rfl,aN (dT (by omega)),trivial⟩)|(refine Gp.cutN (H:=[d8 d,.arr 6 [bH d]]) rfl ⟨rfl,trivial⟩ ⟨low _,rfl,trivial⟩ rfl rfl ?_ fun ρ1 h=>⟨rfl,rfl,h⟩;exact⟨rfl,rfl,rfl,trivial⟩))
 ·rintro i ρ1 H1 ⟨rfl,rfl,dd,rfl⟩
  repeat'((conv=>whnf);first|refine aI ?_|refine oA ?_|refine oM fun x hx hm=>?_|((first|apply aK|apply aL|apply aM|apply aF|apply aE)<;>intro h<;>(try simp at h)<;>(try(exfalso;omega))))
  any_goals((conv=>whnf);first|exact UD (by exact rfl) _ (by decide))
  conv=>whnf
  refine⟨fun m ρ H1=>∃(k:Nat) (ns:List ByteArray),k+m=d.sources.length∧ns.length=k∧H1=[d8 d,.arr 6 [bH d],.arr 1 (sC ns)]∧Sv 141 [(1,.ptr 1 1 0 0),(5,.sl 2 ns.length 0 ns.length),(6,.nil),(10,.int .i64 k)] ρ,d.sources.length,[(5,1)],fun i ρ H1=>i=2∧∃ns:List ByteArray,ns.length≤64∧H1=[d8 d,.arr 6 [bH d],.arr 1 (sC ns)]∧Sv 141 [(1,.ptr 1 1 0 0),(5,.sl 2 ns.length 0 ns.length),(6,.nil)] ρ,?_,?_,?_⟩
  ·exact⟨0,[],by omega,rfl,rfl,Sv.intro rfl ⟨rfl,rfl,rfl,rfl,trivial⟩⟩
  ·rintro m ρ H1 ⟨k,ns,hk,hn,rfl,dd,rfl⟩
   repeat'((conv=>whnf);first|(refine aC.bor (lP false _ ns (hd.s.2 _ (by assumption)).1 (by omega)) D6 (.cons (.same _ rfl) (.cons (qW rfl (aP ns).symm (aO _)) .nil)) (fun r hr=>?_);obtain⟨c,rfl⟩:=hr)|((first|apply aC.use|apply aC.draw);exact GY _ (hd.s.2 _ (by assumption));rintro r ⟨c,rfl⟩)|refine b8 (eM (aP ns).symm) ?_|refine And.intro (⟨by simp[aQ];omega,by simp[aQ];omega,rfl,(aP ns).symm⟩) ?_|refine aI ?_|refine oA ?_|refine oM fun x hx hm=>?_|((first|apply aK|apply aL|apply aM|apply aF|apply aE)<;>intro h<;>(try simp at h)<;>(try(exfalso;omega))))
   any_goals((conv=>whnf);first|exact UD (by exact rfl) _ (by assumption)|(refine⟨m-1,by omega,Gp.cutN (H:=[d8 d,.arr 6 [bH d],.arr 1 (sC ns++[[.str x.name]])]) rfl ⟨rfl,trivial⟩ ⟨low _,rfl,bU (by rw[eA];exact aO _),trivial⟩ rfl rfl ?_ fun ρ1 h=>⟨k+1,ns++[x.name],by omega,by simp;omega,by rw[eA],h⟩⟩;exact⟨rfl,eS (by simp) (by simp),rfl,aN (dT (by omega)),trivial⟩)|(refine Gp.cutN (H:=[d8 d,.arr 6 [bH d],.arr 1 (sC ns)]) rfl ⟨rfl,trivial⟩ ⟨low _,rfl,bU (aO _),trivial⟩ rfl rfl ?_ fun ρ1 h=>⟨rfl,ns,by omega,rfl,h⟩;exact⟨rfl,rfl,rfl,trivial⟩))
  ·rintro i ρ1 H1 ⟨rfl,ns,hns,rfl,dd,rfl⟩
   repeat'((conv=>whnf);first|refine aI ?_|refine oA ?_|refine oM fun x hx hm=>?_|((first|apply aK|apply aL|apply aM|apply aF|apply aE)<;>intro h<;>(try simp at h)<;>(try(exfalso;omega))))
   conv=>whnf
   refine⟨fun m ρ H1=>H1=[d8 d,.arr 6 [bH d],.arr 1 (sC ns)]∧Sv 141 [(1,.ptr 1 1 0 0),(5,.sl 2 ns.length 0 ns.length),(6,.nil),(13,.int .i64 0)] ρ,0,[],fun i ρ H1=>i=4∧H1=[d8 d,.arr 6 [bH d],.arr 1 (sC ns)]∧Sv 141 [(5,.sl 2 ns.length 0 ns.length)] ρ,?_,?_,?_⟩
   ·exact⟨rfl,Sv.intro rfl ⟨rfl,rfl,rfl,rfl,trivial⟩⟩
   ·rintro m ρ H1 ⟨rfl,dd,rfl⟩
    repeat'((conv=>whnf);first|refine aI ?_|refine oA ?_|refine oM fun x hx hm=>?_|((first|apply aK|apply aL|apply aM|apply aF|apply aE)<;>intro h<;>(try simp at h)<;>(try(exfalso;omega))))
    any_goals((conv=>whnf);first|(refine Gp.cutN (H:=[d8 d,.arr 6 [bH d],.arr 1 (sC ns)]) rfl ⟨rfl,trivial⟩ ⟨low _,rfl,bU (aO _),trivial⟩ rfl rfl ?_ fun ρ1 h=>⟨rfl,rfl,h⟩;exact⟨rfl,trivial⟩))
   ·rintro i ρ1 H1 ⟨rfl,rfl,dd,rfl⟩
    conv=>whnf
    exact⟨_,by exact rfl,.inr ⟨2,_,sC ns,_,rfl,(by decide:1≤2),rfl,(aP ns).symm,aO _,rfl,rfl,ns,rfl,hns,by omega⟩⟩
theorem P2{p:Prop}{H H0 G:List aB}{ids:List Nat}(hH:H=H0++G)(e:Int)(h:e=0→p):∃r G,H=H0++G∧dV H 0 ids (.int .i64 e) r∧r.clT=true∧L5 p r:=⟨_,_,hH,.closed _ rfl,rfl,e,rfl,h⟩
set_option maxRecDepth 20000 in
set_option maxHeartbeats 4000000 in
theorem QC(d:rA)(hd:d.F)(hm:d.macros.length=0):
  cH pr 134 [d8 d] [.agg (bH d)] (L5 (d.models.length≤64∧d.snaps.length≤64∧d.sources.length≤64∧∀c∈d.checks,Ck c)):=by
 have low:=gV d
 have hql:=hd.q.1
 have hnl:=hd.n.1
 have hcl:=hd.c.1
 refine bQ k134.has ⟨low _,trivial⟩ ?_
 repeat'((conv=>whnf);first|refine aI ?_|refine oA ?_|refine oM fun x hx hm=>?_|((first|apply aK|apply aL|apply aM|apply aF|apply aE)<;>intro h<;>(try simp at h)<;>(try(exfalso;omega))))
 (conv=>whnf);refine AZ.use [0] (IU d hd hm) (by simp) rfl ⟨⟨_,rfl,.same (dX d)⟩,trivial⟩ ⟨fJ d rfl,trivial⟩ (fun r hr=>?_) (fun es v hr hp=>?_)
 ·obtain⟨e,he,rfl⟩:=hr
  repeat'((conv=>whnf);first|refine aI ?_|refine oA ?_|refine oM fun x hx hm=>?_|((first|apply aK|apply aL|apply aM|apply aF|apply aE)<;>intro h<;>(try simp at h)<;>(try(exfalso;omega))))
  any_goals((conv=>whnf);first|exact P2 (by exact rfl) _ (fun h=>absurd h (by assumption)))
 obtain⟨rfl,l0,rfl,hl0,hsrc⟩:=hr
 repeat'((conv=>whnf);first|refine aI ?_|refine oA ?_|refine oM fun x hx hm=>?_|((first|apply aK|apply aL|apply aM|apply aF|apply aE)<;>intro h<;>(try simp at h)<;>(try(exfalso;omega))))
 any_goals((conv=>whnf);first|exact P2 (by exact rfl) _ (fun h=>absurd h (by decide)))
 conv=>whnf
 refine⟨fun m ρ H1=>∃(k:Nat) (ns:List ByteArray),k+m=d.models.length∧ns.length≤64+k∧H1=[d8 d,.arr 6 [bH d],.arr 1 (sC ns)]∧Sv 141 [(1,.ptr 1 1 0 0),(3,.sl 2 ns.length 0 ns.length),(5,.int .i64 k)] ρ,d.models.length,[],fun i ρ H1=>i=0∧∃ns:List ByteArray,ns.length≤128∧H1=[d8 d,.arr 6 [bH d],.arr 1 (sC ns)]∧Sv 141 [(1,.ptr 1 1 0 0),(3,.sl 2 ns.length 0 ns.length)] ρ,?_,?_,?_⟩
 ·exact⟨0,l0,by omega,by omega,rfl,Sv.intro rfl ⟨rfl,eS (by simp) (by simp),rfl,trivial⟩⟩
 ·rintro m ρ H1 ⟨k,ns,hk,hn,rfl,dd,rfl⟩
  repeat'((conv=>whnf);first|(refine aC.bor (lP false _ ns (hd.q.2 _ (by assumption)).1 (by omega)) D6 (.cons (.same _ rfl) (.cons (qW rfl (aP ns).symm (aO _)) .nil)) (fun r hr=>?_);obtain⟨c,rfl⟩:=hr)|refine b8 (eM (aZ gQ d.models).symm) ?_|((first|apply aC.use|apply aC.draw);exact JA _ (hd.q.2 _ (by assumption));rintro r ⟨c,rfl⟩)|refine b8 (eM (aP ns).symm) ?_|refine And.intro (⟨by simp[aQ];omega,by simp[aQ];omega,rfl,(aP ns).symm⟩) ?_|refine aI ?_|refine oA ?_|refine oM fun x hx hm=>?_|((first|apply aK|apply aL|apply aM|apply aF|apply aE)<;>intro h<;>(try simp at h)<;>(try(exfalso;omega))))
  any_goals((conv=>whnf);first|exact P2 (by exact rfl) _ (fun h=>absurd h (by assumption))|exact P2 (by exact rfl) _ (fun h=>absurd h (by decide))|(refine⟨m-1,by omega,Gp.cutN (H:=[d8 d,.arr 6 [bH d],.arr 1 (sC ns++[[.str x.name]])]) rfl ⟨rfl,trivial⟩ ⟨low _,rfl,bU (by rw[eA];exact aO _),trivial⟩ rfl rfl ?_ fun ρ1 h=>⟨k+1,ns++[x.name],by omega,by simp;omega,by rw[eA],h⟩⟩;exact⟨rfl,eS (by simp) (by simp),aN (dT (by omega)),trivial⟩)|(refine Gp.cutN (H:=[d8 d,.arr 6 [bH d],.arr 1 (sC ns)]) rfl ⟨rfl,trivial⟩ ⟨low _,rfl,bU (aO _),trivial⟩ rfl rfl ?_ fun ρ1 h=>⟨rfl,ns,by omega,rfl,h⟩;exact⟨rfl,rfl,trivial⟩))
 ·rintro i ρ1 H1 ⟨rfl,ns,hns,rfl,dd,rfl⟩
  repeat'((conv=>whnf);first|refine aI ?_|refine oA ?_|refine oM fun x hx hm=>?_|((first|apply aK|apply aL|apply aM|apply aF|apply aE)<;>intro h<;>(try simp at h)<;>(try(exfalso;omega))))
  any_goals((conv=>whnf);first|exact P2 (by exact rfl) _ (fun h=>absurd h (by assumption))|exact P2 (by exact rfl) _ (fun h=>absurd h (by decide)))
  conv=>whnf
  refine⟨fun m ρ H1=>∃(k:Nat) (ns:List ByteArray),k+m=d.snaps.length∧ns.length≤128+k∧H1=[d8 d,.arr 6 [bH d],.arr 1 (sC ns)]∧Sv 141 [(1,.ptr 1 1 0 0),(3,.sl 2 ns.length 0 ns.length),(8,.int .i64 k)] ρ,d.snaps.length,[],fun i ρ H1=>i=2∧H1=[d8 d,.arr 6 [bH d]]∧Sv 141 [(1,.ptr 1 1 0 0)] ρ,?_,?_,?_⟩
  ·exact⟨0,ns,by omega,by omega,rfl,Sv.intro rfl ⟨rfl,rfl,rfl,trivial⟩⟩
  ·rintro m ρ H1 ⟨k,ns,hk,hn,rfl,dd,rfl⟩
   repeat'((conv=>whnf);first|(refine aC.bor (lP false _ ns (hd.n.2 _ (by assumption)).1 (by omega)) D6 (.cons (.same _ rfl) (.cons (qW rfl (aP ns).symm (aO _)) .nil)) (fun r hr=>?_);obtain⟨c,rfl⟩:=hr)|((first|apply aC.use|apply aC.draw);exact i7 _ (hd.n.2 _ (by assumption)).2;rintro r ⟨b,rfl,hb⟩)|refine b8 (eM (aP ns).symm) ?_|refine And.intro (⟨by simp[aQ];omega,by simp[aQ];omega,rfl,(aP ns).symm⟩) ?_|refine aI ?_|refine oA ?_|refine oM fun x hx hm=>?_|((first|apply aK|apply aL|apply aM|apply aF|apply aE)<;>intro h<;>(try simp at h)<;>(try(exfalso;omega))))
   any_goals((conv=>whnf);first|exact P2 (by exact rfl) _ (fun h=>absurd h (by assumption))|exact P2 (by exact rfl) _ (fun h=>absurd h (by decide))|(refine⟨m-1,by omega,Gp.cutN (H:=[d8 d,.arr 6 [bH d],.arr 1 (sC ns++[[.str x.name]])]) rfl ⟨rfl,trivial⟩ ⟨low _,rfl,bU (by rw[eA];exact aO _),trivial⟩ rfl rfl ?_ fun ρ1 h=>⟨k+1,ns++[x.name],by omega,by simp;omega,by rw[eA],h⟩⟩;exact⟨rfl,eS (by simp) (by simp),aN (dT (by omega)),trivial⟩)|(refine Gp.cutN (H:=[d8 d,.arr 6 [bH d]]) rfl ⟨rfl,trivial⟩ ⟨low _,rfl,trivial⟩ rfl rfl ?_ fun ρ1 h=>⟨rfl,rfl,h⟩;exact⟨rfl,trivial⟩))
  ·rintro i ρ1 H1 ⟨rfl,rfl,dd,rfl⟩
   repeat'((conv=>whnf);first|refine aI ?_|refine oA ?_|refine oM fun x hx hm=>?_|((first|apply aK|apply aL|apply aM|apply aF|apply aE)<;>intro h<;>(try simp at h)<;>(try(exfalso;omega))))
   any_goals((conv=>whnf);first|exact P2 (by exact rfl) _ (fun h=>absurd h (by assumption))|exact P2 (by exact rfl) _ (fun h=>absurd h (by decide)))
   conv=>whnf
   refine⟨fun m ρ H1=>∃(k:Nat) (ns:List ByteArray),k+m=d.checks.length∧ns.length=k∧(∀c∈d.checks.take k,Ck c)∧H1=[d8 d,.arr 6 [bH d],.arr 1 (sC ns)]∧Sv 141 [(1,.ptr 1 1 0 0),(10,.sl 2 ns.length 0 ns.length),(11,.int .i64 k)] ρ,d.checks.length,[(10,1)],fun i ρ H1=>i=4∧(∀c∈d.checks,Ck c)∧H1=[d8 d,.arr 6 [bH d]]∧Sv 141 [(1,.ptr 1 1 0 0)] ρ,?_,?_,?_⟩
   ·exact⟨0,[],by omega,rfl,(fun c h=>by simp at h),rfl,Sv.intro rfl ⟨rfl,rfl,rfl,trivial⟩⟩
   ·rintro m ρ H1 ⟨k,ns,hk,hn,hv,rfl,dd,rfl⟩
    repeat'((conv=>whnf);first|(refine aC.bor (lP false _ ns (hd.c.2 _ (by assumption)).1 (by omega)) D6 (.cons (.same _ rfl) (.cons (qW rfl (aP ns).symm (aO _)) .nil)) (fun r hr=>?_);obtain⟨c,rfl⟩:=hr)|((first|apply aC.use|apply aC.draw);exact ID _ (hd.c.2 _ (by assumption));rintro r ⟨c,rfl,hck⟩)|refine b8 (eM (aP ns).symm) ?_|refine And.intro (⟨by simp[aQ];omega,by simp[aQ];omega,rfl,(aP ns).symm⟩) ?_|refine aI ?_|refine oA ?_|refine oM fun x hx hm=>?_|((first|apply aK|apply aL|apply aM|apply aF|apply aE)<;>intro h<;>(try simp at h)<;>(try(exfalso;omega))))
    any_goals((conv=>whnf);first|exact P2 (by exact rfl) _ (fun h=>absurd h (by assumption))|exact P2 (by exact rfl) _ (fun h=>absurd h (by decide))|(refine⟨m-1,by omega,Gp.cutN (H:=[d8 d,.arr 6 [bH d],.arr 1 (sC ns++[[.str x.name]])]) rfl ⟨rfl,trivial⟩ ⟨low _,rfl,bU (by rw[eA];exact aO _),trivial⟩ rfl rfl ?_ fun ρ1 h=>⟨k+1,ns++[x.name],by omega,by simp;omega,sQ hv (by assumption) (hck (by assumption)),by rw[eA],h⟩⟩;exact⟨rfl,eS (by simp) (by simp),aN (dT (by omega)),trivial⟩)|(refine Gp.cutN (H:=[d8 d,.arr 6 [bH d]]) rfl ⟨rfl,trivial⟩ ⟨low _,rfl,trivial⟩ rfl rfl ?_ fun ρ1 h=>⟨rfl,by rwa [List.take_of_length_le (by omega)]at hv,rfl,h⟩;exact⟨rfl,trivial⟩))
   ·rintro i ρ1 H1 ⟨rfl,hv,rfl,dd,rfl⟩
    conv=>whnf
    exact P2 (by exact rfl) _ (fun _=>⟨by omega,by omega,hsrc,hv⟩)
set_option maxRecDepth 20000 in
set_option maxHeartbeats 4000000 in
theorem JD(d:rA)(h1:d.sources.length≤64)(h2:d.models.length≤64)(h3:d.snaps.length≤64):
  cH pr 180 [d8 d] [.agg (bH d),.int .i64 1] (fun r=>∃l:List ByteArray,r=sL l∧l.length≤192∧∀z∈d.models,z.name∈l):=by
 have low:=gV d
 refine bQ k180.has ⟨low _,trivial⟩ ?_
 repeat'((conv=>whnf);first|refine aI ?_|refine oA ?_|refine oM fun x hx hm=>?_|((first|apply aK|apply aL|apply aM|apply aF|apply aE)<;>intro h<;>(try simp at h)<;>(try(exfalso;omega))))
 conv=>whnf
 refine⟨fun m ρ H1=>∃(k:Nat) (ns:List ByteArray),k+m=d.sources.length∧ns.length≤0+k∧H1=[d8 d,.arr 6 [bH d],.arr 1 (sC ns)]∧Sv 118 [(2,.ptr 1 1 0 0),(5,.sl 2 ns.length 0 ns.length),(7,.int .i64 k)] ρ,d.sources.length,[(5,1)],fun i ρ H1=>i=3∧∃ns:List ByteArray,ns.length≤64∧H1=[d8 d,.arr 6 [bH d],.arr 1 (sC ns)]∧Sv 118 [(2,.ptr 1 1 0 0),(5,.sl 2 ns.length 0 ns.length)] ρ,?_,?_,?_⟩
 ·exact⟨0,[],by omega,by simp,rfl,Sv.intro rfl ⟨rfl,rfl,rfl,trivial⟩⟩
 ·rintro m ρ H1 ⟨k,ns,hk,hn,rfl,dd,rfl⟩
  repeat'((conv=>whnf);first|refine b8 (eM (aP ns).symm) ?_|refine And.intro (⟨by simp[aQ];omega,by simp[aQ];omega,rfl,(aP ns).symm⟩) ?_|refine aI ?_|refine oA ?_|refine oM fun x hx hm=>?_|((first|apply aK|apply aL|apply aM|apply aF|apply aE)<;>intro h<;>(try simp at h)<;>(try(exfalso;omega))))
  any_goals((conv=>whnf);first|(refine⟨m-1,by omega,Gp.cutN (H:=[d8 d,.arr 6 [bH d],.arr 1 (sC ns++[[.str x.name]])]) rfl ⟨rfl,trivial⟩ ⟨low _,rfl,bU (by rw[eA];exact aO _),trivial⟩ rfl rfl ?_ fun ρ1 h=>⟨k+1,ns++[x.name],by omega,by simp;omega,by rw[eA],h⟩⟩;exact⟨rfl,eS (by simp) (by simp),aN (dT (by omega)),trivial⟩)|(refine Gp.cutN (H:=[d8 d,.arr 6 [bH d],.arr 1 (sC ns)]) rfl ⟨rfl,trivial⟩ ⟨low _,rfl,bU (aO _),trivial⟩ rfl rfl ?_ fun ρ1 h=>⟨rfl,ns,by omega,rfl,h⟩;exact⟨rfl,rfl,trivial⟩))
 ·rintro i ρ1 H1 ⟨rfl,ns,hns,rfl,dd,rfl⟩
  conv=>whnf
  refine⟨fun m ρ H1=>∃(k:Nat) (ns:List ByteArray),k+m=d.models.length∧ns.length≤64+k∧(∀z∈d.models.take k,z.name∈ns)∧H1=[d8 d,.arr 6 [bH d],.arr 1 (sC ns)]∧Sv 118 [(2,.ptr 1 1 0 0),(5,.sl 2 ns.length 0 ns.length),(8,.int .i64 k)] ρ,d.models.length,[],fun i ρ H1=>i=5∧∃ns:List ByteArray,ns.length≤128∧(∀z∈d.models,z.name∈ns)∧H1=[d8 d,.arr 6 [bH d],.arr 1 (sC ns)]∧Sv 118 [(2,.ptr 1 1 0 0),(5,.sl 2 ns.length 0 ns.length)] ρ,?_,?_,?_⟩
  ·exact⟨0,ns,by omega,by omega,(fun z h=>by simp at h),rfl,Sv.intro rfl ⟨rfl,rfl,rfl,trivial⟩⟩
  ·rintro m ρ H1 ⟨k,ns,hk,hn,hv,rfl,dd,rfl⟩
   repeat'((conv=>whnf);first|refine b8 (eM (aZ gQ d.models).symm) ?_|refine b8 (eM (aP ns).symm) ?_|refine And.intro (⟨by simp[aQ];omega,by simp[aQ];omega,rfl,(aP ns).symm⟩) ?_|refine aI ?_|refine oA ?_|refine oM fun x hx hm=>?_|((first|apply aK|apply aL|apply aM|apply aF|apply aE)<;>intro h<;>(try simp at h)<;>(try(exfalso;omega))))
   any_goals((conv=>whnf);first|(refine⟨m-1,by omega,Gp.cutN (H:=[d8 d,.arr 6 [bH d],.arr 1 (sC ns++[[.str x.name]])]) rfl ⟨rfl,trivial⟩ ⟨low _,rfl,bU (by rw[eA];exact aO _),trivial⟩ rfl rfl ?_ fun ρ1 h=>⟨k+1,ns++[x.name],by omega,by simp;omega,sQ (fun z h=>List.mem_append_left _ (hv z h)) (by first|assumption|(rw[←Nat.zero_add ((k:Int)).toNat];assumption)) (by simp),by rw[eA],h⟩⟩;exact⟨rfl,eS (by simp) (by simp),aN (dT (by omega)),trivial⟩)|(refine Gp.cutN (H:=[d8 d,.arr 6 [bH d],.arr 1 (sC ns)]) rfl ⟨rfl,trivial⟩ ⟨low _,rfl,bU (aO _),trivial⟩ rfl rfl ?_ fun ρ1 h=>⟨rfl,ns,by omega,by rwa [List.take_of_length_le (by omega)]at hv,rfl,h⟩;exact⟨rfl,rfl,trivial⟩))
  ·rintro i ρ1 H1 ⟨rfl,ns,hns,hz,rfl,dd,rfl⟩
   conv=>whnf
   refine⟨fun m ρ H1=>∃(k:Nat) (ns:List ByteArray),k+m=d.snaps.length∧ns.length≤128+k∧(∀z∈d.models,z.name∈ns)∧H1=[d8 d,.arr 6 [bH d],.arr 1 (sC ns)]∧Sv 118 [(2,.ptr 1 1 0 0),(5,.sl 2 ns.length 0 ns.length),(9,.int .i64 k)] ρ,d.snaps.length,[],fun i ρ H1=>i=7∧∃ns:List ByteArray,ns.length≤192∧(∀z∈d.models,z.name∈ns)∧H1=[d8 d,.arr 6 [bH d],.arr 1 (sC ns)]∧Sv 118 [(2,.ptr 1 1 0 0),(5,.sl 2 ns.length 0 ns.length)] ρ,?_,?_,?_⟩
   ·exact⟨0,ns,by omega,by omega,hz,rfl,Sv.intro rfl ⟨rfl,rfl,rfl,trivial⟩⟩
   ·rintro m ρ H1 ⟨k,ns,hk,hn,hv,rfl,dd,rfl⟩
    repeat'((conv=>whnf);first|refine b8 (eM (aP ns).symm) ?_|refine And.intro (⟨by simp[aQ];omega,by simp[aQ];omega,rfl,(aP ns).symm⟩) ?_|refine aI ?_|refine oA ?_|refine oM fun x hx hm=>?_|((first|apply aK|apply aL|apply aM|apply aF|apply aE)<;>intro h<;>(try simp at h)<;>(try(exfalso;omega))))
    any_goals((conv=>whnf);first|(refine⟨m-1,by omega,Gp.cutN (H:=[d8 d,.arr 6 [bH d],.arr 1 (sC ns++[[.str x.name]])]) rfl ⟨rfl,trivial⟩ ⟨low _,rfl,bU (by rw[eA];exact aO _),trivial⟩ rfl rfl ?_ fun ρ1 h=>⟨k+1,ns++[x.name],by omega,by simp;omega,(fun z h=>List.mem_append_left _ (hv z h)),by rw[eA],h⟩⟩;exact⟨rfl,eS (by simp) (by simp),aN (dT (by omega)),trivial⟩)|(refine Gp.cutN (H:=[d8 d,.arr 6 [bH d],.arr 1 (sC ns)]) rfl ⟨rfl,trivial⟩ ⟨low _,rfl,bU (aO _),trivial⟩ rfl rfl ?_ fun ρ1 h=>⟨rfl,ns,by omega,hv,rfl,h⟩;exact⟨rfl,rfl,trivial⟩))
   ·rintro i ρ1 H1 ⟨rfl,ns,hns,hz,rfl,dd,rfl⟩
    conv=>whnf
    exact⟨_,_,by exact rfl,mJ (es:=sC ns) PD rfl (aP ns).symm (aP ns).symm (aO ns),rfl,ns,rfl,by omega,hz⟩
theorem qZ(d:rA)(h1:d.sources.length≤64)(h2:d.models.length≤64)(h3:d.snaps.length≤64):
  cH pr 135 [d8 d] [.agg (bH d)] (fun r=>∃l:List ByteArray,r=sL l∧l.length≤192∧∀z∈d.models,z.name∈l):=by
 refine bQ k135.has ⟨gV d _,trivial⟩ ?_
 repeat'((conv=>whnf);first|(refine cH.use [0] (JD d h1 h2 h3) (by simp) rfl ⟨⟨_,rfl,.same (dX d)⟩,trivial⟩ ⟨fJ d rfl,.closed _ rfl,trivial⟩ (fun r hr=>?_);obtain⟨l,rfl,hl⟩:=hr)|refine aI ?_|refine oA ?_|refine oM fun x hx hm=>?_|((first|apply aK|apply aL|apply aM|apply aF|apply aE)<;>intro h<;>(try simp at h)<;>(try(exfalso;omega))))
 any_goals((conv=>whnf);first|exact⟨_,_,by exact rfl,.closed _ rfl,rfl,l,rfl,hl⟩)
set_option maxRecDepth 20000 in
set_option maxHeartbeats 1000000 in
theorem PP(x:Bool)(q:List rG)(hq:Fl m5 q):j3 pr 227 [.list x 6 (mC cD q)] 1 (fun es=>∃l:List ByteArray,es=sC l∧Fl bM l∧l.length≤q.length):=by
 have hql:=hq.1
 refine fB k227.has ?_
 conv=>whnf
 refine⟨fun m ρ H1=>∃(k:Nat) (l:List ByteArray),k+m=q.length∧l.length≤k∧(∀s∈l,bM s)∧H1=[.arr 1 (sC l)]∧Sv 49 [(0,.list x 6 (mC cD q)),(3,.sl 0 l.length 0 l.length),(4,.int .i64 k)] ρ,q.length,[(3,1)],
  fun i ρ H1=>i=0∧∃l:List ByteArray,l.length≤q.length∧(∀s∈l,bM s)∧H1=[.arr 1 (sC l)]∧Sv 49 [(3,.sl 0 l.length 0 l.length)] ρ,?_,?_,?_⟩
 ·exact⟨0,[],by omega,Nat.le_refl _,(fun s h=>by simp at h),rfl,Sv.intro rfl ⟨rfl,rfl,rfl,trivial⟩⟩
 ·rintro m ρ H1 ⟨k,l,hk,hlk,hls,rfl,d,rfl⟩
  have hll:l.length≤100000:=by omega
  repeat'((conv=>whnf);first|refine b8 (eM (aP l).symm) ?_|(refine aC.bor (gE false l hll _) GS (.cons (qW rfl (aP l).symm (aO l)) (.cons (.same _ rfl) .nil)) (fun r hr=>?_);obtain⟨b,rfl,hb⟩:=hr)|refine And.intro (⟨by simp[aQ];omega,by simp[aQ];omega,rfl,(aP l).symm⟩) ?_|refine aI ?_|refine oA ?_|refine oM fun x hx hm=>?_|((first|apply aK|apply aL|apply aM|apply aF|apply aE)<;>intro h<;>(try simp at h)))
  any_goals((conv=>whnf);first|(refine⟨m-1,by omega,Gp.cut (H:=[.arr 1 (sC l)]) rfl ⟨bU (aO l),trivial⟩ rfl rfl ?_ fun ρ1 h=>⟨k+1,l,by omega,by omega,hls,rfl,h⟩⟩;exact⟨rfl,rfl,aN (dT (by omega)),trivial⟩)|(refine⟨m-1,by omega,Gp.cut (H:=[.arr 1 (sC l++[[.str x.src]])]) rfl ⟨bU (by rw[eA];exact aO _),trivial⟩ rfl rfl ?_ fun ρ1 h=>⟨k+1,l++[x.src],by omega,by simp;omega,dF hls (hq.2 x (by assumption)).1,by rw[eA],h⟩⟩;exact⟨rfl,eS (by simp) (by simp),aN (dT (by omega)),trivial⟩)|(refine Gp.cut (H:=[.arr 1 (sC l)]) rfl ⟨bU (aO l),trivial⟩ rfl rfl ?_ fun ρ1 h=>⟨rfl,l,by omega,hls,rfl,h⟩;exact⟨rfl,trivial⟩))
 ·rintro i ρ1 H1 ⟨rfl,l,hl,hls,rfl,d,rfl⟩
  conv=>whnf
  exact⟨0,_,sC l,rfl,rfl,(aP l).symm,aO l,l,rfl,⟨by omega,hls⟩,hl⟩
theorem WK{H:List aB}{ids:List Nat}(d:rA):A9 H (0::ids) (.arr 6 [bH d]) (.arr 6 [bH d]):=by
 refine .map 6 _ _ rfl (fun i e e1 h1 h2=>by rw[h1]at h2;cases h2;rfl) fun i j e e1 a b h1 h2 h3 h4=>?_
 rw[h1]at h2;cases h2
 rw[h3]at h4;cases h4
 rcases i with _|i
 ·cases h1
  rcases j with _|_|_|_|_|_|j
  ·cases h3;exact⟨.closed _ rfl,rfl⟩
  ·cases h3;exact⟨.closed _ rfl,rfl⟩
  ·cases h3;exact⟨.closed _ rfl,rfl⟩
  ·cases h3
   have:=dV.keep (H1:=H) (n:=0) (ids:=0::ids) 0 d.models.length 0 d.models.length 0 rfl
   rw[Nat.zero_add]at this
   exact⟨this,rfl⟩
  ·cases h3;exact⟨.closed _ rfl,rfl⟩
  ·cases h3;exact⟨.closed _ rfl,rfl⟩
  ·simp[bH]at h3
 ·simp at h1
theorem Gp.swp{n:Nat}{live:List (Nat×a6)}{ρ:List a6}{H':List aB}{I:List a6→List aB→Prop}{d:rA}{id:Nat}{es:List (List a6)}(hz:H'[0]?=Option.some (d8 d))(h0:H'[1]?=Option.some (.arr 6 [bH d]))(h1:H'[id]?=Option.some (.arr 1 es))(hid:2≤id)(hp:bG es=true)
  (hl:ρ.length=n) (h:lL H' [0,1,id] ρ live) (hI:∀ρ1,Sv n live ρ1→I ρ1 [d8 d,.arr 6 [bH d],.arr 1 es]):Gp ([d8 d].map aB.olen) ρ H' I :=
 Gp.keepL (H1:=[d8 d,.arr 6 [bH d],.arr 1 es]) [0,1,id] (by simp;omega) (bY rfl hz rfl) ⟨⟨_,hz,.same _ _ (dX d)⟩,⟨_,h0,WK d⟩,⟨_,h1,.same _ _ hp⟩,trivial⟩ hl h hI
theorem XR{H:List aB}{n:Nat}{ids:List Nat}{id ep idx fld m k:Nat}(hk:ids[k]?=some id)(hm:m=n+k):dV H n ids (.ptr id ep idx fld) (.ptr m ep idx fld):=by
 subst hm;exact .keepP _ _ _ _ _ hk
def YM(es:List (List a6))(w:a6):Prop:=(∃l:List ByteArray,es=sC l∧l.length≤100000)∧∃b,w=.bool b
set_option maxRecDepth 20000 in
set_option maxHeartbeats 4000000 in
theorem JU(d:rA)(nm:ByteArray)(hd:d.F):
  AZ pr 181 [d8 d] [.agg (bH d),.str nm] 1 (fun _=>False) YM:=by
 have low:=gV d
 have hql:=hd.q.1
 have hnl:=hd.n.1
 have hsl:=hd.s.1
 refine uA k181.has ⟨dX d,trivial⟩ ?_
 repeat'((conv=>whnf);first|refine aI ?_|refine oA ?_|refine oM fun x hx hm=>?_|((first|apply aK|apply aL|apply aM|apply aF|apply aE)<;>intro h<;>(try simp at h)<;>(try(exfalso;omega))))
 conv=>whnf
 refine⟨fun m ρ H1=>∃(k:Nat) (ns:List ByteArray) (b:Bool),k+m=d.models.length∧ns.length≤100000∧H1=[d8 d,.arr 6 [bH d],.arr 1 (sC ns)]∧Sv 77 [(1,.str nm),(2,.ptr 1 1 0 0),(6,.sl 2 ns.length 0 ns.length),(7,.bool b),(8,.int .i64 k)] ρ,d.models.length,[(6,1)],fun i ρ H1=>i=0∧∃(ns:List ByteArray) (b:Bool),ns.length≤100000∧H1=[d8 d,.arr 6 [bH d],.arr 1 (sC ns)]∧Sv 77 [(1,.str nm),(2,.ptr 1 1 0 0),(6,.sl 2 ns.length 0 ns.length),(7,.bool b)] ρ,?_,?_,?_⟩
 ·exact⟨0,[],false,by omega,by simp,rfl,Sv.intro rfl ⟨rfl,rfl,rfl,rfl,rfl,trivial⟩⟩
 ·rintro m ρ H1 ⟨k,ns,b,hk,hn,rfl,dd,rfl⟩
  repeat'((conv=>whnf);first|refine b8 (eM (aZ gQ d.models).symm) ?_|(refine j3.own (PP false _ (hd.q.2 _ (by assumption)).2.2.1) rfl (fun es hs hp=>?_);obtain⟨l,rfl,hl1,hl2⟩:=hs)|refine aI ?_|refine oA ?_|refine oM fun x hx hm=>?_|((first|apply aK|apply aL|apply aM|apply aF|apply aE)<;>intro h<;>(try simp at h)<;>(try(exfalso;omega))))
  any_goals((conv=>whnf);first|(refine⟨m-1,by omega,Gp.cutN (H:=[d8 d,.arr 6 [bH d],.arr 1 (sC ns)]) rfl ⟨rfl,trivial⟩ ⟨low _,rfl,bU (aO _),trivial⟩ rfl rfl ?_ fun ρ1 h=>⟨k+1,ns,b,by omega,hn,rfl,h⟩⟩;exact⟨rfl,rfl,rfl,rfl,aN (dT (by omega)),trivial⟩)|(refine Gp.cutN (H:=[d8 d,.arr 6 [bH d],.arr 1 (sC ns)]) rfl ⟨rfl,trivial⟩ ⟨low _,rfl,bU (aO _),trivial⟩ rfl rfl ?_ fun ρ1 h=>⟨rfl,ns,b,hn,rfl,h⟩;exact⟨rfl,rfl,rfl,rfl,trivial⟩)|(refine⟨m-1,by omega,Gp.swp (id:=3) rfl rfl rfl (by decide) (aO l) rfl ?_ fun ρ1 h=>⟨k+1,l,b,by omega,hl1.1,rfl,h⟩⟩;exact⟨.closed _ rfl,XR (k:=1) rfl rfl,kS (k:=2) rfl rfl (by simp) (by simp),.closed _ rfl,JO (aN (dT (by omega))) rfl,trivial⟩))
 ·rintro i ρ1 H1 ⟨rfl,ns,b,hn,rfl,dd,rfl⟩
  conv=>whnf
  refine⟨fun m ρ H1=>∃(k:Nat) (ns:List ByteArray) (b:Bool),k+m=d.snaps.length∧ns.length≤100000∧H1=[d8 d,.arr 6 [bH d],.arr 1 (sC ns)]∧Sv 77 [(1,.str nm),(2,.ptr 1 1 0 0),(6,.sl 2 ns.length 0 ns.length),(7,.bool b),(9,.int .i64 k)] ρ,d.snaps.length,[],fun i ρ H1=>i=2∧∃(ns:List ByteArray) (b:Bool),ns.length≤100000∧H1=[d8 d,.arr 6 [bH d],.arr 1 (sC ns)]∧Sv 77 [(1,.str nm),(2,.ptr 1 1 0 0),(6,.sl 2 ns.length 0 ns.length),(7,.bool b)] ρ,?_,?_,?_⟩
  ·exact⟨0,ns,b,by omega,hn,rfl,Sv.intro rfl ⟨rfl,rfl,rfl,rfl,rfl,trivial⟩⟩
  ·rintro m ρ H1 ⟨k,ns,b,hk,hn,rfl,dd,rfl⟩
   repeat'((conv=>whnf);first|refine aI ?_|refine oA ?_|refine oM fun x hx hm=>?_|((first|apply aK|apply aL|apply aM|apply aF|apply aE)<;>intro h<;>(try simp at h)<;>(try(exfalso;omega))))
   any_goals((conv=>whnf);first|(refine⟨m-1,by omega,Gp.cutN (H:=[d8 d,.arr 6 [bH d],.arr 1 (sC ns)]) rfl ⟨rfl,trivial⟩ ⟨low _,rfl,bU (aO _),trivial⟩ rfl rfl ?_ fun ρ1 h=>⟨k+1,ns,b,by omega,hn,rfl,h⟩⟩;exact⟨rfl,rfl,rfl,rfl,aN (dT (by omega)),trivial⟩)|(refine Gp.cutN (H:=[d8 d,.arr 6 [bH d],.arr 1 (sC ns)]) rfl ⟨rfl,trivial⟩ ⟨low _,rfl,bU (aO _),trivial⟩ rfl rfl ?_ fun ρ1 h=>⟨rfl,ns,b,hn,rfl,h⟩;exact⟨rfl,rfl,rfl,rfl,trivial⟩))
   rename KX=>y
   conv=>whnf
   refine⟨fun m1 ρ H1=>∃(j:Nat) (b2:Bool),j+m1=d.sources.length∧H1=[d8 d,.arr 6 [bH d],.arr 1 (sC ns),.arr 1 (sC [y.src])]∧Sv 77 [(1,.str nm),(2,.ptr 1 1 0 0),(6,.sl 3 1 0 1),(7,.bool b2),(9,.int .i64 k),(10,.int .i64 j)] ρ,d.sources.length,[],fun i ρ H1=>i=4∧∃b2:Bool,H1=[d8 d,.arr 6 [bH d],.arr 1 (sC ns),.arr 1 (sC [y.src])]∧Sv 77 [(1,.str nm),(2,.ptr 1 1 0 0),(6,.sl 3 1 0 1),(7,.bool b2),(9,.int .i64 k)] ρ,?_,?_,?_⟩
   ·exact⟨0,true,by omega,rfl,Sv.intro rfl ⟨rfl,rfl,rfl,rfl,rfl,rfl,trivial⟩⟩
   ·rintro m1 ρ H1 ⟨j,b2,hj,rfl,dd,rfl⟩
    repeat'((conv=>whnf);first|refine aI ?_|refine oA ?_|refine oM fun x hx hm=>?_|((first|apply aK|apply aL|apply aM|apply aF|apply aE)<;>intro h<;>(try simp at h)<;>(try(exfalso;omega))))
    any_goals((conv=>whnf);first|(refine⟨m1-1,by omega,Gp.cutN (H:=[d8 d,.arr 6 [bH d],.arr 1 (sC ns),.arr 1 (sC [y.src])]) rfl ⟨rfl,trivial⟩ ⟨low _,rfl,bU (aO _),rfl,trivial⟩ rfl rfl ?_ fun ρ1 h=>⟨j+1,b2,by omega,rfl,h⟩⟩;exact⟨rfl,rfl,rfl,rfl,rfl,aN (dT (by omega)),trivial⟩)|(refine⟨m1-1,by omega,Gp.cutN (H:=[d8 d,.arr 6 [bH d],.arr 1 (sC ns),.arr 1 (sC [y.src])]) rfl ⟨rfl,trivial⟩ ⟨low _,rfl,bU (aO _),rfl,trivial⟩ rfl rfl ?_ fun ρ1 h=>⟨j+1,false,by omega,rfl,h⟩⟩;exact⟨rfl,rfl,rfl,rfl,rfl,aN (dT (by omega)),trivial⟩)|(refine Gp.cutN (H:=[d8 d,.arr 6 [bH d],.arr 1 (sC ns),.arr 1 (sC [y.src])]) rfl ⟨rfl,trivial⟩ ⟨low _,rfl,bU (aO _),rfl,trivial⟩ rfl rfl ?_ fun ρ1 h=>⟨rfl,b2,rfl,h⟩;exact⟨rfl,rfl,rfl,rfl,rfl,trivial⟩))
   ·rintro i ρ1 H1 ⟨rfl,b2,rfl,dd,rfl⟩
    conv=>whnf
    refine⟨m-1,by omega,Gp.swp (id:=3) (es:=sC [y.src]) rfl rfl rfl (by decide) (aO _) rfl ?_ fun ρ1 h=>⟨k+1,[y.src],b2,by omega,by simp,rfl,h⟩⟩
    exact⟨.closed _ rfl,XR (k:=1) rfl rfl,kS (k:=2) rfl rfl rfl rfl,.closed _ rfl,JO (aN (dT (by omega))) rfl,trivial⟩
  ·rintro i ρ1 H1 ⟨rfl,ns,b,hn,rfl,dd,rfl⟩
   conv=>whnf
   exact⟨_,by exact rfl,.inr ⟨2,_,sC ns,_,rfl,(by decide:1≤2),rfl,(aP ns).symm,aO _,rfl,⟨ns,rfl,hn⟩,b,rfl⟩⟩
theorem x7(x y:Bool)(a b:List ByteArray)(ha:a.length≤1000000)(hb:b.length≤100000):aC pr 138 [.list x 1 (sC a),.list y 1 (sC b)] E4:=by
 refine aH k138.has rfl ?_
 conv=>whnf
 refine⟨fun m ρ H1=>∃k:Nat,k+m=(a).length∧H1=[]∧Sv 19 [(0,.list x 1 (sC a)),(1,.list y 1 (sC b)),(5,.int .i64 k)] ρ,(a).length,[],fun i ρ H1=>i=0∧H1=[]∧Sv 19 [(0,.list x 1 (sC a))] ρ,?_,?_,?_⟩
 ·exact⟨0,Nat.zero_add _,rfl,Sv.intro rfl ⟨rfl,rfl,rfl,trivial⟩⟩
 ·rintro m ρ H1 ⟨k,hk,rfl,d,rfl⟩
  repeat'((conv=>whnf);first|((first|apply aC.use|apply aC.draw);exact gE y b hb _;rintro r ⟨c,rfl,hc⟩)|refine aI ?_|refine oA ?_|refine oM fun x hx hm=>?_|((first|apply aK|apply aL|apply aM|apply aF|apply aE)<;>intro h<;>(try simp at h)))
  any_goals((conv=>whnf);first|exact G4 _|(refine⟨m-1,by omega,Gp.cut (H:=[]) rfl trivial rfl rfl ?_ fun ρ1 h=>⟨k+1,by omega,rfl,h⟩⟩;exact⟨rfl,rfl,aN (dT (by omega)),trivial⟩)|(refine Gp.cut (H:=[]) rfl trivial rfl rfl ?_ fun ρ1 h=>⟨rfl,rfl,h⟩;exact⟨rfl,trivial⟩))
 ·rintro i ρ1 H1 ⟨rfl,rfl,d,rfl⟩
  conv=>whnf
  exact G4 _
def QU(r:a6):Prop:=∃(c:a6) (l:List ByteArray) (e:Int),r=.tuple [c,.int .i64 e]∧gB c (sL l)∧l.length≤300000
def X7(r:a6):Prop:=∃(l:List ByteArray) (e:Int),r=.tuple [sL l,.int .i64 e]∧l.length≤300000
theorem QU.wk:∀r,QU r→∃r',gB r r'∧r'.clT=true∧X7 r':=by
 rintro r ⟨c,l,e,rfl,hw,hl⟩
 exact⟨_,.tuples (.cons hw (.cons (.refl _) .nil)),rfl,l,e,rfl,hl⟩
theorem XY{H H0 G:List aB}{ids:List Nat}(hH:H=H0++G)(e:Int):∃r G,H=H0++G∧dV H 0 ids (.tuple [.nil,.int .i64 e]) r∧r.clT=true∧QU r :=
 ⟨_,_,hH,dU (.closed _ rfl) (.closed _ rfl),rfl,.nil,[],e,rfl,.nil _ _,by simp⟩
theorem ZR{H H0 G:List aB}{ids:List Nat}(hH:H=H0++G)(l:List ByteArray)(e:Int)(hl:l.length≤300000):∃r G,H=H0++G∧dV H 0 ids (.tuple [sL l,.int .i64 e]) r∧r.clT=true∧QU r :=
 ⟨_,_,hH,dU (.closed _ rfl) (.closed _ rfl),rfl,sL l,l,e,rfl,.refl _,hl⟩
set_option maxRecDepth 20000 in
set_option maxHeartbeats 4000000 in
theorem G3(d:rA)(nm:ByteArray)(hd:d.F)(h1:d.sources.length≤64)(h2:d.models.length≤64)(h3:d.snaps.length≤64):
  cH pr 136 [d8 d] [.agg (bH d),.str nm] X7:=by
 have low:=gV d
 have hcl:=hd.c.1
 refine cH.weak ?_ QU.wk
 refine bQ k136.has ⟨low _,trivial⟩ ?_
 repeat'((conv=>whnf);first|(refine cH.use [0] (qZ d h1 h2 h3) (by simp) rfl ⟨⟨_,rfl,.same (dX d)⟩,trivial⟩ ⟨fJ d rfl,trivial⟩ (fun r hr=>?_);obtain⟨all,rfl,hal,hz⟩:=hr)|((first|apply aC.use|apply aC.draw);exact gE false all (by omega) _;rintro r ⟨b,rfl,hb⟩)|refine aI ?_|refine oA ?_|refine oM fun x hx hm=>?_|((first|apply aK|apply aL|apply aM|apply aF|apply aE)<;>intro h<;>(try simp at h)<;>(try(exfalso;omega))))
 any_goals((conv=>whnf);first|exact XY (by exact rfl) _)
 (conv=>whnf);refine AZ.use [0] (JU d nm hd) (by simp) rfl ⟨⟨_,rfl,.same (dX d)⟩,trivial⟩ ⟨fJ d rfl,.closed _ rfl,trivial⟩ (fun r hr=>hr.elim) (fun es v hr hp=>?_)
 obtain⟨⟨l0,rfl,hl0⟩,wr,rfl⟩:=hr
 conv=>whnf
 refine⟨fun m ρ H1=>∃(k:Nat) (ns:List ByteArray),k+m=d.checks.length∧ns.length≤100000+k∧H1=[d8 d,.arr 6 [bH d],.arr 1 (sC ns)]∧Sv 99 [(1,.str nm),(2,.ptr 1 1 0 0),(6,sL all),(7,.sl 2 ns.length 0 ns.length),(8,.bool wr),(9,.int .i64 k)] ρ,d.checks.length,[],fun i ρ H1=>i=0∧∃ns:List ByteArray,ns.length≤200000∧H1=[d8 d,.arr 6 [bH d],.arr 1 (sC ns)]∧Sv 99 [(6,sL all),(7,.sl 2 ns.length 0 ns.length),(8,.bool wr)] ρ,?_,?_,?_⟩
 ·exact⟨0,l0,by omega,by omega,rfl,Sv.intro rfl ⟨rfl,rfl,rfl,eS (by simp) (by simp),rfl,rfl,trivial⟩⟩
 ·rintro m ρ H1 ⟨k,ns,hk,hn,rfl,dd,rfl⟩
  repeat'((conv=>whnf);first|refine b8 (eM (aP ns).symm) ?_|refine And.intro (⟨by simp[aQ];omega,by simp[aQ];omega,rfl,(aP ns).symm⟩) ?_|refine aI ?_|refine oA ?_|refine oM fun x hx hm=>?_|((first|apply aK|apply aL|apply aM|apply aF|apply aE)<;>intro h<;>(try simp at h)<;>(try(exfalso;omega))))
  any_goals((conv=>whnf);first|(refine⟨m-1,by omega,Gp.cutN (H:=[d8 d,.arr 6 [bH d],.arr 1 (sC ns++[[.str x.other]])]) rfl ⟨rfl,trivial⟩ ⟨low _,rfl,bU (by rw[eA];exact aO _),trivial⟩ rfl rfl ?_ fun ρ1 h=>⟨k+1,ns++[x.other],by omega,by simp;omega,by rw[eA],h⟩⟩;exact⟨rfl,rfl,rfl,eS (by simp) (by simp),rfl,aN (dT (by omega)),trivial⟩)|(refine⟨m-1,by omega,Gp.cutN (H:=[d8 d,.arr 6 [bH d],.arr 1 (sC ns)]) rfl ⟨rfl,trivial⟩ ⟨low _,rfl,bU (aO _),trivial⟩ rfl rfl ?_ fun ρ1 h=>⟨k+1,ns,by omega,by omega,rfl,h⟩⟩;exact⟨rfl,rfl,rfl,rfl,rfl,aN (dT (by omega)),trivial⟩)|(refine Gp.cutN (H:=[d8 d,.arr 6 [bH d],.arr 1 (sC ns)]) rfl ⟨rfl,trivial⟩ ⟨low _,rfl,bU (aO _),trivial⟩ rfl rfl ?_ fun ρ1 h=>⟨rfl,ns,by omega,rfl,h⟩;exact⟨rfl,rfl,rfl,trivial⟩))
 ·rintro i ρ1 H1 ⟨rfl,ns,hns,rfl,dd,rfl⟩
  conv=>whnf
  refine⟨fun m ρ H1=>∃(k:Nat) (v:a6) (out:List ByteArray),k+m=ns.length∧((v=.nil∧out=[])∨v=sL out)∧out.length≤k∧H1=[d8 d,.arr 6 [bH d],.arr 1 (sC ns)]∧Sv 99 [(6,sL all),(7,.sl 2 ns.length 0 ns.length),(8,.bool wr),(10,v),(11,.int .i64 k)] ρ,ns.length,[],fun i ρ H1=>i=2∧∃(v:a6) (out:List ByteArray),((v=.nil∧out=[])∨v=sL out)∧out.length≤200000∧H1=[d8 d,.arr 6 [bH d],.arr 1 (sC ns)]∧Sv 99 [(6,sL all),(8,.bool wr),(10,v)] ρ,?_,?_,?_⟩
  ·exact⟨0,.nil,[],by omega,.inl ⟨rfl,rfl⟩,by simp,rfl,Sv.intro rfl ⟨rfl,rfl,rfl,rfl,rfl,trivial⟩⟩
  ·rintro m ρ H1 ⟨k,v,out,hk,hv,ho,rfl,dd,rfl⟩
   rcases hv with⟨rfl,rfl⟩|rfl
   ·repeat'((conv=>whnf);first|((first|apply aC.use|apply aC.draw);exact(I1 false [] (by first|(simp;done)|omega) _).args (.cons (.nil _ _) (.cons (.refl _) .nil));rintro r ⟨l1,rfl,hl1,hl2⟩)|refine b8 (eM (aP ns).symm) ?_|refine And.intro (⟨by simp[aQ];omega,by simp[aQ];omega,rfl,(aP ns).symm⟩) ?_|refine aI ?_|refine oA ?_|refine oM fun x hx hm=>?_|((first|apply aK|apply aL|apply aM|apply aF|apply aE)<;>intro h<;>(try simp at h)<;>(try(exfalso;omega))))
    any_goals((conv=>whnf);first|(refine⟨m-1,by omega,Gp.cutN (H:=[d8 d,.arr 6 [bH d],.arr 1 (sC ns)]) rfl ⟨rfl,trivial⟩ ⟨low _,rfl,bU (aO _),trivial⟩ rfl rfl ?_ fun ρ1 h=>⟨k+1,_,l1,by omega,.inr rfl,by first|omega|(simp;done)|(simp at *;omega),rfl,h⟩⟩;exact⟨rfl,rfl,rfl,rfl,aN (dT (by omega)),trivial⟩)|(refine⟨m-1,by omega,Gp.cutN (H:=[d8 d,.arr 6 [bH d],.arr 1 (sC ns)]) rfl ⟨rfl,trivial⟩ ⟨low _,rfl,bU (aO _),trivial⟩ rfl rfl ?_ fun ρ1 h=>⟨k+1,_,[],by omega,.inl ⟨rfl,rfl⟩,by first|omega|(simp;done)|(simp at *;omega),rfl,h⟩⟩;exact⟨rfl,rfl,rfl,rfl,aN (dT (by omega)),trivial⟩)|(refine Gp.cutN (H:=[d8 d,.arr 6 [bH d],.arr 1 (sC ns)]) rfl ⟨rfl,trivial⟩ ⟨low _,rfl,bU (aO _),trivial⟩ rfl rfl ?_ fun ρ1 h=>⟨rfl,_,[],.inl ⟨rfl,rfl⟩,by first|omega|(simp;done)|(simp at *;omega),rfl,h⟩;exact⟨rfl,rfl,rfl,trivial⟩))
   ·repeat'((conv=>whnf);first|((first|apply aC.use|apply aC.draw);exact(I1 false out (by first|(simp;done)|omega) _).args (.cons (.refl _) (.cons (.refl _) .nil));rintro r ⟨l1,rfl,hl1,hl2⟩)|refine b8 (eM (aP ns).symm) ?_|refine And.intro (⟨by simp[aQ];omega,by simp[aQ];omega,rfl,(aP ns).symm⟩) ?_|refine aI ?_|refine oA ?_|refine oM fun x hx hm=>?_|((first|apply aK|apply aL|apply aM|apply aF|apply aE)<;>intro h<;>(try simp at h)<;>(try(exfalso;omega))))
    any_goals((conv=>whnf);first|(refine⟨m-1,by omega,Gp.cutN (H:=[d8 d,.arr 6 [bH d],.arr 1 (sC ns)]) rfl ⟨rfl,trivial⟩ ⟨low _,rfl,bU (aO _),trivial⟩ rfl rfl ?_ fun ρ1 h=>⟨k+1,_,l1,by omega,.inr rfl,by first|omega|(simp;done)|(simp at *;omega),rfl,h⟩⟩;exact⟨rfl,rfl,rfl,rfl,aN (dT (by omega)),trivial⟩)|(refine⟨m-1,by omega,Gp.cutN (H:=[d8 d,.arr 6 [bH d],.arr 1 (sC ns)]) rfl ⟨rfl,trivial⟩ ⟨low _,rfl,bU (aO _),trivial⟩ rfl rfl ?_ fun ρ1 h=>⟨k+1,_,out,by omega,.inr rfl,by first|omega|(simp;done)|(simp at *;omega),rfl,h⟩⟩;exact⟨rfl,rfl,rfl,rfl,aN (dT (by omega)),trivial⟩)|(refine Gp.cutN (H:=[d8 d,.arr 6 [bH d],.arr 1 (sC ns)]) rfl ⟨rfl,trivial⟩ ⟨low _,rfl,bU (aO _),trivial⟩ rfl rfl ?_ fun ρ1 h=>⟨rfl,_,out,.inr rfl,by first|omega|(simp;done)|(simp at *;omega),rfl,h⟩;exact⟨rfl,rfl,rfl,trivial⟩))
  ·rintro i ρ1 H1 ⟨rfl,v,out,hv,ho,rfl,dd,rfl⟩
   rcases hv with⟨rfl,rfl⟩|rfl
   ·conv=>whnf
    refine⟨fun m ρ H1=>∃k:Nat,k+m=0∧H1=[d8 d,.arr 6 [bH d],.arr 1 (sC ns)]∧Sv 99 [(6,sL all),(8,.bool wr),(10,.nil),(12,.int .i64 k)] ρ,0,[],fun i ρ H1=>i=4∧H1=[d8 d,.arr 6 [bH d],.arr 1 (sC ns)]∧Sv 99 [(8,.bool wr),(10,.nil)] ρ,?_,?_,?_⟩
    ·exact⟨0,by omega,rfl,Sv.intro rfl ⟨rfl,rfl,rfl,rfl,trivial⟩⟩
    ·rintro m ρ H1 ⟨k,hk,rfl,dd,rfl⟩
     repeat'((conv=>whnf);first|((first|apply aC.use|apply aC.draw);exact gE false all (by omega) _;rintro r ⟨b,rfl,hb⟩)|refine aI ?_|refine oA ?_|refine oM fun x hx hm=>?_|((first|apply aK|apply aL|apply aM|apply aF|apply aE)<;>intro h<;>(try simp at h)<;>(try(exfalso;omega))))
     any_goals((conv=>whnf);first|exact XY (by exact rfl) _|(refine⟨m-1,by omega,Gp.cutN (H:=[d8 d,.arr 6 [bH d],.arr 1 (sC ns)]) rfl ⟨rfl,trivial⟩ ⟨low _,rfl,bU (aO _),trivial⟩ rfl rfl ?_ fun ρ1 h=>⟨k+1,by omega,rfl,h⟩⟩;exact⟨rfl,rfl,rfl,aN (dT (by omega)),trivial⟩)|(refine Gp.cutN (H:=[d8 d,.arr 6 [bH d],.arr 1 (sC ns)]) rfl ⟨rfl,trivial⟩ ⟨low _,rfl,bU (aO _),trivial⟩ rfl rfl ?_ fun ρ1 h=>⟨rfl,rfl,h⟩;exact⟨rfl,rfl,trivial⟩))
    ·rintro i ρ1 H1 ⟨rfl,rfl,dd,rfl⟩
     repeat'((conv=>whnf);first|refine aI ?_|refine oA ?_|refine oM fun x hx hm=>?_|((first|apply aK|apply aL|apply aM|apply aF|apply aE)<;>intro h<;>(try simp at h)<;>(try(exfalso;omega))))
     any_goals((conv=>whnf);first|exact XY (by exact rfl) _|(refine ZR (by exact rfl) _ _ ?_;omega))
   ·conv=>whnf
    refine⟨fun m ρ H1=>∃k:Nat,k+m=out.length∧H1=[d8 d,.arr 6 [bH d],.arr 1 (sC ns)]∧Sv 99 [(6,sL all),(8,.bool wr),(10,sL out),(12,.int .i64 k)] ρ,out.length,[],fun i ρ H1=>i=4∧H1=[d8 d,.arr 6 [bH d],.arr 1 (sC ns)]∧Sv 99 [(8,.bool wr),(10,sL out)] ρ,?_,?_,?_⟩
    ·exact⟨0,by omega,rfl,Sv.intro rfl ⟨rfl,rfl,rfl,rfl,trivial⟩⟩
    ·rintro m ρ H1 ⟨k,hk,rfl,dd,rfl⟩
     repeat'((conv=>whnf);first|((first|apply aC.use|apply aC.draw);exact gE false all (by omega) _;rintro r ⟨b,rfl,hb⟩)|refine aI ?_|refine oA ?_|refine oM fun x hx hm=>?_|((first|apply aK|apply aL|apply aM|apply aF|apply aE)<;>intro h<;>(try simp at h)<;>(try(exfalso;omega))))
     any_goals((conv=>whnf);first|exact XY (by exact rfl) _|(refine⟨m-1,by omega,Gp.cutN (H:=[d8 d,.arr 6 [bH d],.arr 1 (sC ns)]) rfl ⟨rfl,trivial⟩ ⟨low _,rfl,bU (aO _),trivial⟩ rfl rfl ?_ fun ρ1 h=>⟨k+1,by omega,rfl,h⟩⟩;exact⟨rfl,rfl,rfl,aN (dT (by omega)),trivial⟩)|(refine Gp.cutN (H:=[d8 d,.arr 6 [bH d],.arr 1 (sC ns)]) rfl ⟨rfl,trivial⟩ ⟨low _,rfl,bU (aO _),trivial⟩ rfl rfl ?_ fun ρ1 h=>⟨rfl,rfl,h⟩;exact⟨rfl,rfl,trivial⟩))
    ·rintro i ρ1 H1 ⟨rfl,rfl,dd,rfl⟩
     repeat'((conv=>whnf);first|refine aI ?_|refine oA ?_|refine oM fun x hx hm=>?_|((first|apply aK|apply aL|apply aM|apply aF|apply aE)<;>intro h<;>(try simp at h)<;>(try(exfalso;omega))))
     any_goals((conv=>whnf);first|exact XY (by exact rfl) _|(refine ZR (by exact rfl) _ _ ?_;omega))
theorem CD{α:Type}:∀(o l:List α),o.Nodup→(∀s∈o,s∈l)→o.length≤l.length
 |[],l,_,_=>Nat.zero_le _
 |a::t,l,hn,hs=>by
  obtain⟨l1,l2,rfl⟩:=List.append_of_mem (hs a (List.mem_cons_self ..))
  rw[List.nodup_cons]at hn
  have:=CD t (l1++l2) hn.2 fun s h=>by
   have h1:=hs s (List.mem_cons_of_mem _ h)
   rcases List.mem_append.1 h1 with h2|h2
   ·exact List.mem_append_left _ h2
   ·rcases List.mem_cons.1 h2 with rfl|h3
    ·exact absurd h hn.1
    ·exact List.mem_append_right _ h3
  simp at this ⊢
  omega
theorem PB{α:Type}{o l:List α}(hn:o.Nodup)(hs:∀s∈o,s∈l)(hl:o.length=l.length):∀x∈l,x∈o:=fun x hx=>by
 refine Classical.byContradiction fun h=>?_
 have:=CD (x::o) l (List.nodup_cons.2 ⟨h,hn⟩) fun s hs'=>by
  rcases List.mem_cons.1 hs' with rfl|h'
  ·exact hx
  ·exact hs s h'
 simp at this
 omega
theorem MD{α:Type}{o:List α}{x:α}(hn:o.Nodup)(h:x∉o):(o++[x]).Nodup:=by
 rw[List.nodup_append]
 exact⟨hn,by simp,fun a ha b hb=>by simp at hb;subst hb;exact fun e=>h (e▸ha)⟩
theorem U1{s t:ByteArray}:OV s t=true↔s=t:=by
 unfold OV
 rw[beq_iff_eq]
 exact⟨fun h=>ByteArray.ext (Array.toList_inj.1 h),fun h=>by rw[h]⟩
def QM(l:List ByteArray):List a6:=[sL l]
theorem kL(n:List ByteArray):(QM n).all a6.isPure=true:=rfl
def TR(p:List ByteArray→Prop)(r:a6):Prop:=∃(c:a6) (o:List ByteArray) (e:Int),r=.tuple [c,.int .i64 e]∧gB c (sL o)∧o.length≤192∧(e=0→p o)
def X4(p:List ByteArray→Prop)(r:a6):Prop:=∃(o:List ByteArray) (e:Int),r=.tuple [sL o,.int .i64 e]∧o.length≤192∧(e=0→p o)
theorem TR.wk{p:List ByteArray→Prop}:∀r,TR p r→∃r',gB r r'∧r'.clT=true∧X4 p r':=by
 rintro r ⟨c,o,e,rfl,hw,hl,h⟩
 exact⟨_,.tuples (.cons hw (.cons (.refl _) .nil)),rfl,o,e,rfl,hl,h⟩
theorem XQ{p:List ByteArray→Prop}{H H0 G:List aB}{ids:List Nat}(hH:H=H0++G)(e:Int)(he:e≠0):∃r G,H=H0++G∧dV H 0 ids (.tuple [.nil,.int .i64 e]) r∧r.clT=true∧TR p r :=
 ⟨_,_,hH,dU (.closed _ rfl) (.closed _ rfl),rfl,.nil,[],e,rfl,.nil _ _,by simp,fun h=>absurd h he⟩
theorem NT{u:Bool}{x:ByteArray}{o:List ByteArray}(hu:u=true↔∃t,t∈o∧OV x t=true)(h:u=false):x∉o:=fun hx=>by
 have:=hu.2 ⟨x,hx,U1.2 rfl⟩
 rw[h]at this;cases this
theorem OB:∀r,E4 r→r.scalar=true:=by rintro _ ⟨b,rfl⟩;rfl
abbrev UF(d:rA)(L:List (List ByteArray)):List aB:=[d8 d,.arr 6 [bH d],.arr 1 (mC QM L)]
abbrev QL(d:rA)(L:List (List ByteArray))(o:List ByteArray):List aB:=[d8 d,.arr 6 [bH d],.arr 1 (mC QM L),.arr 1 (sC o)]
set_option maxRecDepth 20000 in
set_option maxHeartbeats 4000000 in
theorem JK(d:rA)(hd:d.F)(hm:d.macros.length=0):
  cH pr 84 [d8 d] [.agg (bH d)] (X4 (fun o=>(∀c∈d.checks,Ck c)∧∀z∈d.models,z.name∈o)):=by
 have low:=gV d
 have hcl:=hd.c.1
 refine cH.weak ?_ TR.wk
 refine bQ k84.has ⟨low _,trivial⟩ ?_
 repeat'((conv=>whnf);first|(refine cH.use [0] (QC d hd hm) (by simp) rfl ⟨⟨_,rfl,.same (dX d)⟩,trivial⟩ ⟨fJ d rfl,trivial⟩ (fun r hr=>?_);obtain⟨c,rfl,hv⟩:=hr)|refine aI ?_|refine oA ?_|refine oM fun x hx hm=>?_|((first|apply aK|apply aL|apply aM|apply aF|apply aE)<;>intro h<;>(try simp at h)<;>(try(exfalso;omega))))
 any_goals((conv=>whnf);first|exact XQ (by exact rfl) _ (by assumption))
 obtain⟨h2,h3,h1,hck⟩:=hv (by assumption)
 (conv=>whnf);refine cH.use [0] (qZ d h1 h2 h3) (by simp) rfl ⟨⟨_,rfl,.same (dX d)⟩,trivial⟩ ⟨fJ d rfl,trivial⟩ (fun r hr=>?_)
 obtain⟨all,rfl,hal,hz⟩:=hr
 conv=>whnf
 refine⟨fun m ρ H1=>∃(k:Nat) (L:List (List ByteArray)),k+m=all.length∧L.length=k∧(∀l∈L,l.length≤300000)∧H1=UF d L∧Sv 125 [(1,.ptr 1 1 0 0),(5,sL all),(6,.sl 2 L.length 0 L.length),(7,.int .i64 k)] ρ,all.length,[(6,1)],fun i ρ H1=>i=0∧∃L:List (List ByteArray),L.length=all.length∧(∀l∈L,l.length≤300000)∧H1=UF d L∧Sv 125 [(1,.ptr 1 1 0 0),(5,sL all),(6,.sl 2 L.length 0 L.length)] ρ,?_,?_,?_⟩
 ·exact⟨0,[],by omega,rfl,(fun l h=>by simp at h),rfl,Sv.intro rfl ⟨rfl,rfl,rfl,rfl,trivial⟩⟩
 ·rintro m ρ H1 ⟨k,L,hk,hL,hLs,rfl,dd,rfl⟩
  repeat'((conv=>whnf);first|(refine cH.use [0] (G3 d _ hd h1 h2 h3) (by simp) rfl ⟨⟨_,rfl,.same (dX d)⟩,trivial⟩ ⟨fJ d rfl,.closed _ rfl,trivial⟩ (fun r hr=>?_);obtain⟨l,e,rfl,hl⟩:=hr)|refine b8 (eM (aZ QM L).symm) ?_|refine And.intro (⟨by simp[aQ];omega,by simp[aQ];omega,rfl,(aZ QM L).symm⟩) ?_|refine aI ?_|refine oA ?_|refine oM fun x hx hm=>?_|((first|apply aK|apply aL|apply aM|apply aF|apply aE)<;>intro h<;>(try simp at h)<;>(try(exfalso;omega))))
  any_goals((conv=>whnf);first|exact XQ (by exact rfl) _ (by assumption)|(refine⟨m-1,by omega,Gp.cutN (H:=UF d (L++[l])) (by rw[UF,dD];rfl) ⟨rfl,trivial⟩ ⟨low _,rfl,bU (aV kL _),trivial⟩ rfl rfl ?_ fun ρ1 h=>⟨k+1,L++[l],by omega,by simp;omega,dF hLs hl,rfl,h⟩⟩;exact⟨rfl,rfl,eS (by simp) (by simp),aN (dT (by omega)),trivial⟩)|(refine Gp.cutN (H:=UF d L) rfl ⟨rfl,trivial⟩ ⟨low _,rfl,bU (aV kL _),trivial⟩ rfl rfl ?_ fun ρ1 h=>⟨rfl,L,by omega,hLs,rfl,h⟩;exact⟨rfl,rfl,rfl,trivial⟩))
 ·rintro i ρ1 H1 ⟨rfl,L,hL,hLs,rfl,dd,rfl⟩
  conv=>whnf
  refine⟨fun m ρ H1=>∃k:Nat,k+m=d.checks.length∧H1=UF d L∧Sv 125 [(1,.ptr 1 1 0 0),(5,sL all),(6,.sl 2 L.length 0 L.length),(10,.int .i64 k)] ρ,d.checks.length,[],fun i ρ H1=>i=2∧H1=UF d L∧Sv 125 [(1,.ptr 1 1 0 0),(5,sL all),(6,.sl 2 L.length 0 L.length)] ρ,?_,?_,?_⟩
  ·exact⟨0,by omega,rfl,Sv.intro rfl ⟨rfl,rfl,rfl,rfl,trivial⟩⟩
  ·rintro m ρ H1 ⟨k,hk,rfl,dd,rfl⟩
   repeat'((conv=>whnf);first|((first|apply aC.use|apply aC.draw);exact gE false all (by omega) _;rintro r ⟨b,rfl,hb⟩)|refine aI ?_|refine oA ?_|refine oM fun x hx hm=>?_|((first|apply aK|apply aL|apply aM|apply aF|apply aE)<;>intro h<;>(try simp at h)<;>(try(exfalso;omega))))
   any_goals((conv=>whnf);first|exact XQ (by exact rfl) _ (by decide)|(refine⟨m-1,by omega,Gp.cutN (H:=UF d L) rfl ⟨rfl,trivial⟩ ⟨low _,rfl,bU (aV kL _),trivial⟩ rfl rfl ?_ fun ρ1 h=>⟨k+1,by omega,rfl,h⟩⟩;exact⟨rfl,rfl,rfl,aN (dT (by omega)),trivial⟩)|(refine Gp.cutN (H:=UF d L) rfl ⟨rfl,trivial⟩ ⟨low _,rfl,bU (aV kL _),trivial⟩ rfl rfl ?_ fun ρ1 h=>⟨rfl,rfl,h⟩;exact⟨rfl,rfl,rfl,trivial⟩))
  ·rintro i ρ1 H1 ⟨rfl,rfl,dd,rfl⟩
   conv=>whnf
   refine⟨fun m ρ H1=>∃(k:Nat) (o:List ByteArray),k+m=all.length∧o.length=k∧o.Nodup∧(∀s∈o,s∈all)∧H1=QL d L o∧Sv 125 [(5,sL all),(6,.sl 2 L.length 0 L.length),(12,.sl 3 o.length 0 o.length),(74,.int .i64 ((sC all).length:Nat)),(75,.int .i64 k)] ρ,all.length,[(12,1)],fun i ρ H1=>i=4∧∃o:List ByteArray,o.length=all.length∧o.Nodup∧(∀s∈o,s∈all)∧H1=QL d L o∧Sv 125 [(12,.sl 3 o.length 0 o.length)] ρ,?_,?_,?_⟩
   ·exact⟨0,[],by omega,rfl,List.nodup_nil,(fun s h=>by simp at h),rfl,Sv.intro rfl ⟨rfl,rfl,rfl,rfl,rfl,trivial⟩⟩
   ·rintro m ρ H1 ⟨k,o,hk,ho,hnd,hoa,rfl,dd,rfl⟩
    repeat'((conv=>whnf);first|refine aI ?_|refine oA ?_|refine oM fun x hx hm=>?_|((first|apply aK|apply aL|apply aM|apply aF|apply aE)<;>intro h<;>(try simp at h)<;>(try(exfalso;omega))))
    any_goals((conv=>whnf);first|(refine Gp.cutN (H:=QL d L o) rfl ⟨rfl,trivial⟩ ⟨low _,rfl,bU (aV kL _),bU (aO _),trivial⟩ rfl rfl ?_ fun ρ1 h=>⟨rfl,o,by omega,hnd,hoa,rfl,h⟩;exact⟨rfl,trivial⟩))
    conv=>whnf
    refine⟨fun m1 ρ H1=>∃(j:Nat) (b:Int),j+m1=all.length∧(b = -1∨(0≤b∧∃x,all[b.toNat]?=some x∧x∉o))∧H1=QL d L o∧Sv 125 [(5,sL all),(6,.sl 2 L.length 0 L.length),(12,.sl 3 o.length 0 o.length),(13,.int .i64 b),(14,.int .i64 j),(74,.int .i64 ((sC all).length:Nat)),(75,.int .i64 k)] ρ,all.length,[],fun i ρ H1=>i=6∧∃b:Int,(b = -1∨(0≤b∧∃x,all[b.toNat]?=some x∧x∉o))∧H1=QL d L o∧Sv 125 [(5,sL all),(6,.sl 2 L.length 0 L.length),(12,.sl 3 o.length 0 o.length),(13,.int .i64 b),(74,.int .i64 ((sC all).length:Nat)),(75,.int .i64 k)] ρ,?_,?_,?_⟩
    ·exact⟨0,-1,by omega,.inl rfl,rfl,Sv.intro rfl ⟨rfl,rfl,rfl,rfl,rfl,rfl,rfl,trivial⟩⟩
    ·rintro m1 ρ H1 ⟨j,b,hj,hb,rfl,dd,rfl⟩
     rcases Nat.lt_or_ge j all.length with hjl|hjl
     ·obtain⟨x,hx0⟩:∃x,all[j]?=some x:=⟨all[j],List.getElem?_eq_getElem hjl⟩
      obtain⟨l,hl0⟩:∃l,L[j]?=some l:=⟨L[j]'(by omega),List.getElem?_eq_getElem (by omega)⟩
      have hx:(sC all)[((j:Nat):Int).toNat]?=some [.str x]:=mL hx0
      have hl:(mC QM L)[((j:Nat):Int).toNat]?=some (QM l):=oZ hl0
      have hl2:(mC QM L)[0+((j:Nat):Int).toNat]?=some (QM l):=by rw[Nat.zero_add];exact hl
      have hall:=aP all
      have hmm:=aZ QM L
      rcases hb with rfl|⟨hb0,y,hy0,hyo⟩
      ·repeat'(first|refine aT hx ?_|refine aT hl ?_|((conv=>whnf);first|(refine aC.bor (gE false o (by omega) _) GS (.cons (qW rfl (aP o).symm (aO o)) (.cons (.same _ rfl) .nil)) (fun r hr=>?_);obtain⟨u,rfl,hu⟩:=hr)|(refine aC.bor (x7 false false l o (Nat.le_trans (hLs _ (List.mem_of_getElem? hl0)) (by decide)) (by omega)) OB (.cons (.same _ rfl) (.cons (qW rfl (aP o).symm (aO o)) .nil)) (fun r hr=>?_);obtain⟨u2,rfl⟩:=hr)|refine b4 hl2 ?_|refine b8 (eM (aZ QM L).symm) ?_|refine And.intro (by exact rfl) ?_|refine And.intro (by first|omega|(simp<;>omega)|(simp[aQ]<;>omega)) ?_|((first|refine aK (fun h=>?_) (fun h=>?_)|refine aF (fun h=>?_) (fun h=>?_)|refine aE (fun h=>?_) (fun h=>?_))<;>(try simp at h)<;>(try(exfalso;omega)))))
       any_goals((conv=>whnf);first|(refine⟨m1-1,by omega,Gp.cutN (H:=QL d L o) rfl ⟨rfl,trivial⟩ ⟨low _,rfl,bU (aV kL _),bU (aO _),trivial⟩ rfl rfl ?_ fun ρ1 h=>⟨j+1,-1,by omega,.inl rfl,rfl,h⟩⟩;exact⟨rfl,rfl,rfl,rfl,aN (dT (by omega)),rfl,rfl,trivial⟩)|(refine⟨m1-1,by omega,Gp.cutN (H:=QL d L o) rfl ⟨rfl,trivial⟩ ⟨low _,rfl,bU (aV kL _),bU (aO _),trivial⟩ rfl rfl ?_ fun ρ1 h=>⟨j+1,((j:Nat):Int),by omega,.inr ⟨by omega,x,by simpa using hx0,NT hu (by assumption)⟩,rfl,h⟩⟩;exact⟨rfl,rfl,rfl,rfl,aN (dT (by omega)),rfl,rfl,trivial⟩))
      ·have hy:(sC all)[b.toNat]?=some [.str y]:=mL hy0
       have hbl:=(List.getElem?_eq_some_iff.1 hy0).1
       repeat'(first|refine aT hx ?_|refine aT hl ?_|refine aT hy ?_|((conv=>whnf);first|(refine aC.bor (gE false o (by omega) _) GS (.cons (qW rfl (aP o).symm (aO o)) (.cons (.same _ rfl) .nil)) (fun r hr=>?_);obtain⟨u,rfl,hu⟩:=hr)|(refine aC.bor (x7 false false l o (Nat.le_trans (hLs _ (List.mem_of_getElem? hl0)) (by decide)) (by omega)) OB (.cons (.same _ rfl) (.cons (qW rfl (aP o).symm (aO o)) .nil)) (fun r hr=>?_);obtain⟨u2,rfl⟩:=hr)|refine b4 hl2 ?_|refine b8 (eM (aZ QM L).symm) ?_|refine And.intro (by exact rfl) ?_|refine And.intro (by first|omega|(simp<;>omega)|(simp[aQ]<;>omega)) ?_|((first|refine aK (fun h=>?_) (fun h=>?_)|refine aF (fun h=>?_) (fun h=>?_)|refine aE (fun h=>?_) (fun h=>?_))<;>(try simp at h)<;>(try(exfalso;omega)))))
       any_goals((conv=>whnf);first|(refine⟨m1-1,by omega,Gp.cutN (H:=QL d L o) rfl ⟨rfl,trivial⟩ ⟨low _,rfl,bU (aV kL _),bU (aO _),trivial⟩ rfl rfl ?_ fun ρ1 h=>⟨j+1,b,by omega,.inr ⟨hb0,y,hy0,hyo⟩,rfl,h⟩⟩;exact⟨rfl,rfl,rfl,rfl,aN (dT (by omega)),rfl,rfl,trivial⟩)|(refine⟨m1-1,by omega,Gp.cutN (H:=QL d L o) rfl ⟨rfl,trivial⟩ ⟨low _,rfl,bU (aV kL _),bU (aO _),trivial⟩ rfl rfl ?_ fun ρ1 h=>⟨j+1,((j:Nat):Int),by omega,.inr ⟨by omega,x,by simpa using hx0,NT hu (by assumption)⟩,rfl,h⟩⟩;exact⟨rfl,rfl,rfl,rfl,aN (dT (by omega)),rfl,rfl,trivial⟩))
     ·(conv=>whnf);refine sF (by simp;omega) ?_
      conv=>whnf
      refine Gp.cutN (H:=QL d L o) rfl ⟨rfl,trivial⟩ ⟨low _,rfl,bU (aV kL _),bU (aO _),trivial⟩ rfl rfl ?_ fun ρ1 h=>⟨rfl,b,hb,rfl,h⟩
      exact⟨rfl,rfl,rfl,rfl,rfl,rfl,trivial⟩
    ·rintro i ρ1 H1 ⟨rfl,b,hb,rfl,dd,rfl⟩
     rcases hb with rfl|⟨hb0,y,hy0,hyo⟩
     ·repeat'((conv=>whnf);first|refine aI ?_|refine oA ?_|refine oM fun x hx hm=>?_|((first|apply aK|apply aL|apply aM|apply aF|apply aE)<;>intro h<;>(try simp at h)<;>(try(exfalso;omega))))
      any_goals((conv=>whnf);first|exact XQ (by exact rfl) _ (by decide))
     ·have hy:(sC all)[b.toNat]?=some [.str y]:=mL hy0
      have hbl:=(List.getElem?_eq_some_iff.1 hy0).1
      have hall:=aP all
      repeat'((conv=>whnf);first|refine b4 hy ?_|refine b8 (eM (aP o).symm) ?_|refine And.intro (⟨by simp[aQ];omega,by simp[aQ];omega,rfl,(aP o).symm⟩) ?_|refine aI ?_|refine oA ?_|refine oM fun x hx hm=>?_|((first|apply aK|apply aL|apply aM|apply aF|apply aE)<;>intro h<;>(try simp at h)<;>(try(exfalso;omega))))
      any_goals((conv=>whnf);first|exact XQ (by exact rfl) _ (by decide)|(refine⟨m-1,by omega,Gp.cutN (H:=QL d L (o++[y])) (by rw[QL,jU];rfl) ⟨rfl,trivial⟩ ⟨low _,rfl,bU (aV kL _),bU (aO _),trivial⟩ rfl rfl ?_ fun ρ1 h=>⟨k+1,o++[y],by omega,by simp;omega,MD hnd hyo,dF hoa (List.mem_of_getElem? hy0),rfl,h⟩⟩;exact⟨rfl,rfl,eS (by simp) (by simp),rfl,aN (dT (by omega)),trivial⟩))
   ·rintro i ρ1 H1 ⟨rfl,o,ho,hnd,hoa,rfl,dd,rfl⟩
    conv=>whnf
    exact⟨_,_,by exact rfl,dU (mJ (es:=sC o) PD rfl (aP o).symm (aP o).symm (aO o)) (.closed _ rfl),rfl,_,o,0,rfl,.refl _,by omega,fun _=>⟨hck,fun z h=>PB hnd hoa ho _ (hz z h)⟩⟩
end Go.AW
