/-
  An abstract machine over the model, the code of functions on it, and their contracts: what the claim needs.
  No condition: definitions, plain laws, contracts over any program that has this code.
-/
import Derived.Test.YtbjodpkinpnebaaGreatZ8
set_option linter.all false
namespace Go.AW
variable [dE]
attribute [local irreducible] a7 bI oN Gp
theorem mX(x:Bool)(l:List Int)(n:Int)(hn:0≤n):aC pr 93 [.list x 1 (iC l),.int .i64 n] (fun r=>∃(y:Bool) (l':List Int),r=.list y 1 (iC l')∧l'.length≤l.length):=by
 refine aH k93.has rfl ?_
 conv=>whnf
 refine And.intro (by rw[cA];constructor<;>split<;>omega) ?_
 conv=>whnf
 exact⟨_,.closed _ rfl,_,l.drop (if(n:Int)<((iC l).length:Nat)then(n:Int)else((iC l).length:Nat)).toNat,by rw[List.take_length,NU],by simp⟩
theorem i9{ss:List yP}{V N C:a6}(hV:V.isCell=true)(hN:N.isPure=true)(hC:C.isPure=true):(cE ss V N C).all a6.isCell=true:=by
 have h1:=(dJ (H:=[]) (ids:=[]) hN).2
 have h2:=(dJ (H:=[]) (ids:=[]) hC).2
 simp only[cE,List.all_cons,List.all_nil,hV,h1,h2]
 rfl
theorem mF{ss:List yP}{V N C:a6}{k:Nat}(hV:V.lowC k=true)(hN:N.isPure=true)(hC:C.isPure=true):(aB.arr 6 [cE ss V N C]).lowO k:=by
 have h1:N.lowC k=true:=by cases N<;>first|exact hN|cases hN
 have h2:C.lowC k=true:=by cases C<;>first|exact hC|cases hC
 show([cE ss V N C].all fun e=>e.all (a6.lowC k))=true
 simp only[cE,List.all_cons,List.all_nil,hV,h1,h2]
 rfl
theorem RY{ss:List yP}{N C:a6}{id:Nat}:HX id [.agg (cE ss .nil N C)] [.agg (cE ss (.sl id 0 0 0) N C)]:=by
 refine⟨.agg _ _ rfl fun i v r h1 h2=>?_,trivial⟩
 rcases i with _|_|_|_|_|_|i
 ·cases h1;cases h2;exact .refl _
 ·cases h1;cases h2;exact .refl _
 ·cases h1;cases h2;exact .refl _
 ·cases h1;cases h2;exact .nil
 ·cases h1;cases h2;exact .refl _
 ·cases h1;cases h2;exact .refl _
 ·simp at h1
theorem NY{L:List jE}{x:jE}{b:Bool}{nm:ByteArray}(h1:b=true→x∈L∧x.name=nm)(h2:b=false→x=VG∧∀y∈L,y.name≠nm)(hz:∃y∈L,y.name=nm)(hL:∀x∈L,nH x∧Cz x.cols):Cz x.cols:=by
 cases b
 ·obtain⟨y,h3,h4⟩:=hz
  exact absurd h4 ((h2 rfl).2 y h3)
 ·exact(hL x (h1 rfl).1).2
theorem SN:∀r∈JW,B2 r:=fun r hr=>by
 simp only[JW,List.mem_cons,List.not_mem_nil,or_false]at hr
 rcases hr with rfl|rfl|rfl
 ·exact⟨⟨YE,xY.le⟩,xY⟩
 ·exact⟨⟨Z2,LL.le⟩,LL⟩
 ·exact⟨⟨Z3,xY.le⟩,xY⟩
theorem VJ(ms:List vP)(md:vP):List.take ms.length (List.drop 0 (mC gQ ms))++[gQ md]=mC gQ (ms++[md]):=by
 rw[List.drop_zero,List.take_of_length_le (by simp),dD];rfl
theorem RS{A B:(Nat→List a6→List aB→Prop)→(Nat→List a6→List aB→Prop)→Prop}(I X:Nat→List a6→List aB→Prop){G:Prop}
  (h:(∀(ρ:List a6) (H:List aB) (n:Nat),TM [] ρ H (I n)→∃(I:Nat→List a6→List aB→Prop) (n:Nat) (vs:List (Nat×Nat)) (X:Nat→List a6→List aB→Prop),TM vs ρ H (I n)∧A I X∧B I X)→G) (hA:A I X) (hB:B I X):G :=
 h fun ρ H n hn=>⟨I,n,[],X,hn,hA,hB⟩
theorem IN(ss:List yP)(rels:List jE)(ms:List vP)(md:vP)(N C:a6):[TL,.arr 6 [cE ss (.sl 3 (mC gQ ms++[gQ md]).length 0 (mC gQ ms++[gQ md]).length) N C],i8 rels,.arr 8 (mC gQ ms++[gQ md])]=LW ss rels (ms++[md]) N C:=by
 rw[G9,aZ]
theorem XE{H:List aB}{ids:List Nat}{id n sz:Nat}{es fs:List (List a6)}(he:es=fs)(ho:H[id]?=some (.arr sz es))(hid:id∉ids)(hn:n=es.length)(hp:bG fs=true):dV H 0 ids (.sl id n 0 n) (.list false sz fs)∧(a6.list false sz fs).isCell=true:=by
 subst he;exact oF ho hid hn hp
theorem Gp.chkA{n:Nat}{live:List (Nat×a6)}{ρ:List a6}{H':List aB}{I:List a6→List aB→Prop}{ss:List yP}{rels:List jE}{cs:List zQ}{N C:a6}{id m:Nat}{es er:List (List a6)}(h0:H'[0]?=Option.some TL)(h1:H'[1]?=Option.some (.arr 6 [cE ss .nil N C]))(h2:H'[2]?=Option.some (.arr 4 er))(h3:H'[3]?=Option.some (.arr 6 [cE ss .nil N (.sl id m 0 m)]))(h4:H'[id]?=Option.some (.arr 14 es))(he:es=mC eN cs)(hr:er=mC bS rels)(hm:m=es.length)(hid:4≤id)
  (hN:N.isPure=true) (hC:C.isPure=true) (hl:ρ.length=n) (h:lL H' [0,1,2,3] ρ live) (hI:∀ρ1,Sv n live ρ1→I ρ1 [TL,.arr 6 [cE ss .nil N C],i8 rels,.arr 6 [cE ss .nil N (.list false 14 (mC eN cs))]]):Gp [] ρ H' I:=by
 subst hr
 refine Gp.keepL (H1:=[TL,.arr 6 [cE ss .nil N C],i8 rels,.arr 6 [cE ss .nil N (.list false 14 (mC eN cs))]]) [0,1,2,3] (by simp) dO ⟨⟨_,h0,.same _ _ rfl⟩,⟨_,h1,iN ?_⟩,⟨_,h2,.same _ _ (aV cG _)⟩,⟨_,h3,iN ?_⟩,trivial⟩ hl h hI
 ·exact⟨dJ rfl,dJ rfl,dJ rfl,dJ rfl,dJ hN,dJ hC,trivial⟩
 ·exact⟨dJ rfl,dJ rfl,dJ rfl,dJ rfl,dJ hN,XE he h4 (by simp;omega) hm (aV IG _),trivial⟩
theorem Gp.chkB{n:Nat}{live:List (Nat×a6)}{ρ:List a6}{H':List aB}{I:List a6→List aB→Prop}{ss:List yP}{rels:List jE}{ms:List vP}{cs:List zQ}{N C:a6}{id m:Nat}{es er:List (List a6)}(h0:H'[0]?=Option.some TL)(h1:H'[1]?=Option.some (.arr 6 [cE ss (.sl 3 ms.length 0 ms.length) N C]))(h2:H'[2]?=Option.some (.arr 4 er))(h5:H'[3]?=Option.some (.arr 8 (mC gQ ms)))(h3:H'[4]?=Option.some (.arr 6 [cE ss (.sl 3 ms.length 0 ms.length) N (.sl id m 0 m)]))(h4:H'[id]?=Option.some (.arr 14 es))(he:es=mC eN cs)(hr:er=mC bS rels)(hm:m=es.length)(hid:5≤id)
  (hN:N.isPure=true) (hC:C.isPure=true) (hl:ρ.length=n) (h:lL H' [0,1,2,3,4] ρ live) (hI:∀ρ1,Sv n live ρ1→I ρ1 [TL,.arr 6 [cE ss (.sl 3 ms.length 0 ms.length) N C],i8 rels,.arr 8 (mC gQ ms),.arr 6 [cE ss (.sl 3 ms.length 0 ms.length) N (.list false 14 (mC eN cs))]]):Gp [] ρ H' I:=by
 subst hr
 refine Gp.keepL (H1:=[TL,.arr 6 [cE ss (.sl 3 ms.length 0 ms.length) N C],i8 rels,.arr 8 (mC gQ ms),.arr 6 [cE ss (.sl 3 ms.length 0 ms.length) N (.list false 14 (mC eN cs))]]) [0,1,2,3,4] (by simp) dO ⟨⟨_,h0,.same _ _ rfl⟩,⟨_,h1,iN ?_⟩,⟨_,h2,.same _ _ (aV cG _)⟩,⟨_,h5,.same _ _ (aV eD _)⟩,⟨_,h3,iN ?_⟩,trivial⟩ hl h hI
 ·exact⟨dJ rfl,dJ rfl,dJ rfl,hZ rfl rfl,dJ hN,dJ hC,trivial⟩
 ·exact⟨dJ rfl,dJ rfl,dJ rfl,hZ rfl rfl,dJ hN,XE he h4 (by simp;omega) hm (aV IG _),trivial⟩
theorem BP{α:Type}{p:α→Prop}{l:List α}{x:α}(h:Fl p l)(hl:l.length≤99999)(hx:p x):Fl p (l++[x]):=⟨by simp;omega,dF h.2 hx⟩
theorem xD.snoc{ss:List yP}{ms:List vP}{N C:a6}{ns:List KX}{cs:List zQ}{c:zQ}(h:xD ss ms N C ns cs)(hl:cs.length≤99999)(hc:FQ c):xD ss ms N (.list false 14 (mC eN (cs++[c]))) ns (cs++[c]) :=
 ⟨h.s,h.z,h.m,h.wn,h.pn,h.fn,.refl _,rfl,BP h.fc hl hc⟩
def ZH(v:a6)(H:List aB):Prop:=∃(ss:List yP) (ms:List vP) (N C:a6) (ns:List KX) (cs:List zQ),xD ss ms N C ns cs ∧
 ((ms=[]∧v=.agg (cE ss .nil N C))∨∃id,v=.agg (cE ss (.sl id ms.length 0 ms.length) N C)∧H[id]?=some (.arr 8 (mC gQ ms)))
set_option maxRecDepth 20000 in
set_option maxHeartbeats 16000000 in
theorem RH(h1:149=149)(h2:149=149)(h3:149=149)(h4:149=149)(g:Bool)(l:List Int)(hll:l.length≤1000000):
  ∃v H1,ZH v H1∧a7 pr 33 [.list g 1 (iC l)] [] (fun r H'=>r=v∧H'=H1):=by
 obtain⟨n,hn⟩:∃n,n=E6 l 0:=⟨_,rfl⟩
 have hN:0≤n∧n≤131070:=by rw[hn];exact fI l 0
 have hat0:aC pr 88 [.list g 1 (iC l),.int .i64 0] (fun r=>r=.int .i64 n):=by rw[hn];exact aC.of (jX g l 0)
 have hat1:=fI l 1
 have hc3:=CA (iG hN.1 (by omega) (k:=12) (by decide)).1
 obtain⟨z3,hs3,hf3⟩:=sD hc3.1 hc3.2 (kN 122 48) (kN 122 49) (kN 122 50)
 have hc4:=CA (iG hN.1 (by omega) (k:=128) (by decide)).1
 obtain⟨z4,hs4,hf4⟩:=sD hc4.1 hc4.2 YE Z2 Z3
 refine d6 k33.has ?_
 repeat'((conv=>whnf);first|((first|apply aC.use|apply aC.draw);exact hat0;rintro r rfl)|((first|apply aC.use|apply aC.draw);exact aC.of (jX g l 1);rintro r rfl)|((first|apply aC.use|apply aC.draw);exact tT;rintro r rfl)|((first|apply aC.use|apply aC.draw);exact KN _ hat1.1 hat1.2;rintro r ⟨ss,rfl,hss,hsz⟩)|(refine j3.own (uF) rfl (fun es hes hp=>?_);subst hes)|refine aI ?_|refine oA ?_|refine oM fun x hx hm=>?_|((first|apply aK|apply aL|apply aM|apply aF|apply aE)<;>intro h<;>(try simp at h)<;>(try(exfalso;omega))))
 conv=>whnf
 refine⟨fun m ρ H1=>∃(k:Nat) (rels:List jE) (ms:List vP),k+m=3∧rels.length≤3+k∧1≤rels.length∧(∀r∈rels,B2 r)∧Fl GA ms∧ms.length≤k∧((ms=[]∧H1=QJ ss rels .nil .nil)∨H1=LW ss rels ms .nil .nil)∧Sv 132 [(0,.list g 1 (iC l)),(2,.ptr 0 1 0 0),(3,.int .i64 n),(4,.ptr 1 1 0 0),(5,.sl 2 rels.length 0 rels.length),(6,.int .i64 k)] ρ,3,[],fun i ρ H1=>i=0∧∃(rels:List jE) (ms:List vP),rels.length≤6∧1≤rels.length∧(∀r∈rels,B2 r)∧Fl GA ms∧ms.length≤3∧((ms=[]∧H1=QJ ss rels .nil .nil)∨H1=LW ss rels ms .nil .nil)∧Sv 132 [(0,.list g 1 (iC l)),(2,.ptr 0 1 0 0),(3,.int .i64 n),(4,.ptr 1 1 0 0),(5,.sl 2 rels.length 0 rels.length)] ρ,?_,?_,?_⟩
 ·exact⟨0,JW,[],by omega,Nat.le_refl 3,(by decide:1≤3),SN,gA,by simp,.inl ⟨rfl,rfl⟩,Sv.intro rfl ⟨rfl,rfl,rfl,rfl,rfl,rfl,trivial⟩⟩
 ·rintro m ρ H1 ⟨k,rels,ms,hk,hr1,hr2,hr3,hms,hml,hH,d,rfl⟩
  have hwp:0≤IntKind.i64.wrap (3+IntKind.i64.wrap (5*(k:Int))):=by rw[aY (5*(k:Int)) (by omega) (by omega),aY _ (by omega) (by omega)];omega
  rcases hH with⟨rfl,rfl⟩|rfl
  ·repeat'((conv=>whnf);first|((first|apply aC.use|apply aC.draw);exact mX g l _ hwp;rintro r ⟨y,l',rfl,hl'⟩)|(refine cH.use [2] (B7 h1 h2 y rels hr2 (by omega) hr3 l' (by omega) (k:Int) (by omega)) (by simp) rfl ⟨⟨_,rfl,.same (aV cG rels)⟩,trivial⟩ ⟨.closed _ rfl,r6 rfl rfl rfl,.closed _ rfl,trivial⟩ (fun r hr=>?_);obtain⟨md,rfl,hmd⟩:=hr)|(refine cH.use [5] (tL (ms:=[md]) (N:=.nil) (C:=.nil) (ns:=[]) (cs:=[]) ⟨hss,hsz,pV hmd,.nil _ _,rfl,gA,.nil _ _,rfl,gA⟩) (by simp) rfl ⟨⟨_,rfl,JX rfl (aV eD _)⟩,trivial⟩ ⟨w7 rfl rfl rfl rfl,trivial⟩ (fun r hr=>?_);obtain⟨L,e,rfl,hL,hLs,hz⟩:=hr)|((first|apply aC.use|apply aC.draw);exact yY false L (by omega) _;rintro r ⟨x,b,rfl,hf1,hf2⟩)|refine b8 (eM (aZ bS rels).symm) ?_|refine And.intro (⟨by simp[aQ];omega,by simp[aQ];omega,rfl,(aZ bS rels).symm⟩) ?_|refine b8 ((bX _)) ?_|refine And.intro (by exact rfl) ?_|refine And.intro (by decide) ?_|refine aI ?_|refine oA ?_|refine oM fun x hx hm=>?_|((first|apply aK|apply aL|apply aM|apply aF|apply aE)<;>intro h<;>(try simp at h)<;>(try(exfalso;omega))))
   any_goals((conv=>whnf);first|(have hmo:=NY hf1 hf2 (hz (by assumption) md (by simp)) hLs;refine⟨m-1,by omega,Gp.dfs (id:=5) (ms:=[md]) (rels:=(rels++[⟨md.name,x.ec,x.cols,none⟩])) rfl rfl rfl rfl rfl (by rw[dD];rfl) rfl (by decide) rfl rfl rfl ?_ fun ρ1 h=>⟨k+1,(rels++[⟨md.name,x.ec,x.cols,none⟩]),_,by omega,by simp;omega,by simp,dF hr3 (show B2 ⟨md.name,x.ec,x.cols,none⟩from⟨⟨hmd.1,hmo.le⟩,hmo⟩),pV hmd,by simp,.inr rfl,h⟩⟩;exact⟨.closed _ rfl,aU rfl,.closed _ rfl,aU rfl,(hZ rfl (by simp)).1,nB (dT (by omega)),trivial⟩)|(refine⟨m-1,by omega,Gp.cut (H:=QJ ss rels .nil .nil) rfl ⟨rfl,mF rfl rfl rfl,bP _ _,trivial⟩ rfl rfl ?_ fun ρ1 h=>⟨k+1,rels,[],by omega,by omega,hr2,hr3,hms,by simp,.inl ⟨rfl,rfl⟩,h⟩⟩;exact⟨rfl,rfl,rfl,rfl,rfl,aN (dT (by omega)),trivial⟩)|(refine Gp.cut (H:=QJ ss rels .nil .nil) rfl ⟨rfl,mF rfl rfl rfl,bP _ _,trivial⟩ rfl rfl ?_ fun ρ1 h=>⟨rfl,rels,[],by omega,hr2,hr3,hms,by first|omega|(simp;done)|fail,.inl ⟨rfl,rfl⟩,h⟩;exact⟨rfl,rfl,rfl,rfl,rfl,trivial⟩)|fail)
  ·repeat'((conv=>whnf);first|((first|apply aC.use|apply aC.draw);exact mX g l _ hwp;rintro r ⟨y,l',rfl,hl'⟩)|(refine cH.use [2] (B7 h1 h2 y rels hr2 (by omega) hr3 l' (by omega) (k:Int) (by omega)) (by simp) rfl ⟨⟨_,rfl,.same (aV cG rels)⟩,trivial⟩ ⟨.closed _ rfl,r6 rfl rfl rfl,.closed _ rfl,trivial⟩ (fun r hr=>?_);obtain⟨md,rfl,hmd⟩:=hr)|(refine cH.use [6] (tL (ms:=ms++[md]) (N:=.nil) (C:=.nil) (ns:=[]) (cs:=[]) ⟨hss,hsz,BP hms (by omega) hmd,.nil _ _,rfl,gA,.nil _ _,rfl,gA⟩) (by simp) rfl ⟨⟨_,rfl,JX (VJ ms md).symm (aV eD _)⟩,trivial⟩ ⟨w7 rfl (by simp) rfl rfl,trivial⟩ (fun r hr=>?_);obtain⟨L,e,rfl,hL,hLs,hz⟩:=hr)|((first|apply aC.use|apply aC.draw);exact yY false L (by omega) _;rintro r ⟨x,b,rfl,hf1,hf2⟩)|refine b8 (eM (aZ bS rels).symm) ?_|refine And.intro (⟨by simp[aQ];omega,by simp[aQ];omega,rfl,(aZ bS rels).symm⟩) ?_|refine b8 (eM (aZ gQ ms).symm) ?_|refine And.intro (⟨by simp[aQ];omega,by simp[aQ];omega⟩) ?_|refine And.intro (⟨by simp[aQ];omega,by simp[aQ];omega,rfl,rfl⟩) ?_|refine b8 ((bX _)) ?_|refine And.intro (by exact rfl) ?_|refine And.intro (by decide) ?_|refine aI ?_|refine oA ?_|refine oM fun x hx hm=>?_|((first|apply aK|apply aL|apply aM|apply aF|apply aE)<;>intro h<;>(try simp at h)<;>(try(exfalso;omega))))
   any_goals((conv=>whnf);first|(have hmo:=NY hf1 hf2 (hz (by assumption) md (by simp)) hLs;refine⟨m-1,by omega,Gp.dfs (id:=6) (ms:=ms++[md]) (rels:=(rels++[⟨md.name,x.ec,x.cols,none⟩])) rfl rfl rfl rfl (VJ ms md) (by rw[dD];rfl) (by simp) (by decide) rfl rfl rfl ?_ fun ρ1 h=>⟨k+1,(rels++[⟨md.name,x.ec,x.cols,none⟩]),_,by omega,by simp;omega,by simp,dF hr3 (show B2 ⟨md.name,x.ec,x.cols,none⟩from⟨⟨hmd.1,hmo.le⟩,hmo⟩),BP hms (by omega) hmd,by simp;omega,.inr rfl,h⟩⟩;exact⟨.closed _ rfl,aU rfl,.closed _ rfl,aU rfl,(hZ rfl (by simp)).1,nB (dT (by omega)),trivial⟩)|(refine⟨m-1,by omega,Gp.cut (H:=LW ss rels ms .nil .nil) rfl ⟨rfl,mF rfl rfl rfl,bP _ _,bU (aV eD _),trivial⟩ rfl rfl ?_ fun ρ1 h=>⟨k+1,rels,ms,by omega,by omega,hr2,hr3,hms,by omega,.inr rfl,h⟩⟩;exact⟨rfl,rfl,rfl,rfl,rfl,aN (dT (by omega)),trivial⟩)|(refine Gp.cut (H:=LW ss rels ms .nil .nil) rfl ⟨rfl,mF rfl rfl rfl,bP _ _,bU (aV eD _),trivial⟩ rfl rfl ?_ fun ρ1 h=>⟨rfl,rels,ms,by omega,hr2,hr3,hms,by first|omega|(simp;done)|fail,.inr rfl,h⟩;exact⟨rfl,rfl,rfl,rfl,rfl,trivial⟩)|fail)
 ·apply RS (fun m ρ H1=>∃(k:Nat) (rels:List jE) (ms:List vP) (N C:a6) (ns:List KX) (cs:List zQ),k+m=4∧rels.length≤6∧1≤rels.length∧(∀r∈rels,B2 r)∧xD ss ms N C ns cs∧cs.length≤k∧((C=.nil∧cs=[])∨C=.list false 14 (mC eN cs))∧((ms=[]∧H1=QJ ss rels N C)∨H1=LW ss rels ms N C)∧Sv 132 [(0,.list g 1 (iC l)),(2,.ptr 0 1 0 0),(3,.int .i64 n),(4,.ptr 1 1 0 0),(5,.sl 2 rels.length 0 rels.length),(13,.int .i64 k)] ρ) (fun i ρ H1=>i=2∧∃(rels:List jE) (ms:List vP) (N C:a6) (ns:List KX) (cs:List zQ),xD ss ms N C ns cs∧((ms=[]∧H1=QJ ss rels N C)∨H1=LW ss rels ms N C)∧Sv 132 [(2,.ptr 0 1 0 0),(4,.ptr 1 1 0 0)] ρ)
  ·intro key
   rintro i ρ1 H1 ⟨rfl,rels,ms,hr1,hr2,hr3,hms,hml,hH,dd,rfl⟩
   rcases hH with⟨rfl,rfl⟩|rfl
   ·repeat'(first|refine aT (hs3) ?_|refine aT (hs4) ?_|((conv=>whnf);first|refine And.intro hc3.1 ?_|refine And.intro hc4.1 ?_|((first|apply aC.use|apply aC.draw);exact zI z3 hf3;rintro r ⟨mr,rfl,hmr⟩)|refine And.intro (⟨by simp[aQ],by simp[aQ]⟩) ?_|refine And.intro (by exact rfl) ?_|refine And.intro (by decide) ?_|refine aI ?_|refine oA ?_|refine oM fun x hx hm=>?_|((first|apply aK|apply aL|apply aM|apply aF|apply aE)<;>intro h<;>(try simp at h)<;>(try(exfalso;omega)))))
    all_goals
     conv=>whnf
     refine key _ _ 4 ?_
     (first|exact⟨0,rels,[],_,.nil,[],[],by omega,hr1,hr2,hr3,⟨hss,hsz,gA,.nil _ _,rfl,gA,.nil _ _,rfl,gA⟩,by simp,.inl ⟨rfl,rfl⟩,.inl ⟨rfl,rfl⟩,Sv.intro rfl ⟨rfl,rfl,rfl,rfl,rfl,rfl,trivial⟩⟩|exact⟨0,rels,[],_,.nil,[⟨bs [112,97,115,116],z4⟩],[],by omega,hr1,hr2,hr3,⟨hss,hsz,gA,.lst rfl rfl,rfl,pV ⟨(by decide:(4:Nat)≤100000),hf4⟩,.nil _ _,rfl,gA⟩,by simp,.inl ⟨rfl,rfl⟩,.inl ⟨rfl,rfl⟩,Sv.intro rfl ⟨rfl,rfl,rfl,rfl,rfl,rfl,trivial⟩⟩|exact⟨0,rels,[mr],_,.nil,[],[],by omega,hr1,hr2,hr3,⟨hss,hsz,pV hmr,.nil _ _,rfl,gA,.nil _ _,rfl,gA⟩,by simp,.inl ⟨rfl,rfl⟩,.inr rfl,Sv.intro rfl ⟨rfl,rfl,rfl,rfl,rfl,rfl,trivial⟩⟩|exact⟨0,rels,[mr],_,.nil,[⟨bs [112,97,115,116],z4⟩],[],by omega,hr1,hr2,hr3,⟨hss,hsz,pV hmr,.lst rfl rfl,rfl,pV ⟨(by decide:(4:Nat)≤100000),hf4⟩,.nil _ _,rfl,gA⟩,by simp,.inl ⟨rfl,rfl⟩,.inr rfl,Sv.intro rfl ⟨rfl,rfl,rfl,rfl,rfl,rfl,trivial⟩⟩|fail)
   ·repeat'(first|refine aT (hs3) ?_|refine aT (hs4) ?_|((conv=>whnf);first|refine And.intro hc3.1 ?_|refine And.intro hc4.1 ?_|((first|apply aC.use|apply aC.draw);exact zI z3 hf3;rintro r ⟨mr,rfl,hmr⟩)|refine b8 (eM (aZ gQ ms).symm) ?_|refine And.intro (⟨by simp[aQ];omega,by simp[aQ];omega,rfl,(aZ gQ ms).symm⟩) ?_|refine And.intro (⟨by simp[aQ];omega,by simp[aQ];omega⟩) ?_|refine And.intro (by exact rfl) ?_|refine And.intro (by decide) ?_|refine aI ?_|refine oA ?_|refine oM fun x hx hm=>?_|((first|apply aK|apply aL|apply aM|apply aF|apply aE)<;>intro h<;>(try simp at h)<;>(try(exfalso;omega)))))
    all_goals
     conv=>whnf
     refine key _ _ 4 ?_
     (first|exact⟨0,rels,ms,_,.nil,[],[],by omega,hr1,hr2,hr3,⟨hss,hsz,hms,.nil _ _,rfl,gA,.nil _ _,rfl,gA⟩,by simp,.inl ⟨rfl,rfl⟩,.inr rfl,Sv.intro rfl ⟨rfl,rfl,rfl,rfl,rfl,rfl,trivial⟩⟩|exact⟨0,rels,ms,_,.nil,[⟨bs [112,97,115,116],z4⟩],[],by omega,hr1,hr2,hr3,⟨hss,hsz,hms,.lst rfl rfl,rfl,pV ⟨(by decide:(4:Nat)≤100000),hf4⟩,.nil _ _,rfl,gA⟩,by simp,.inl ⟨rfl,rfl⟩,.inr rfl,Sv.intro rfl ⟨rfl,rfl,rfl,rfl,rfl,rfl,trivial⟩⟩|exact⟨0,rels,(ms++[mr]),_,.nil,[],[],by omega,hr1,hr2,hr3,⟨hss,hsz,BP hms (by omega) hmr,.nil _ _,rfl,gA,.nil _ _,rfl,gA⟩,by simp,.inl ⟨rfl,rfl⟩,.inr (IN _ _ _ _ _ _),Sv.intro rfl ⟨rfl,rfl,rfl,rfl,rfl,rfl,trivial⟩⟩|exact⟨0,rels,(ms++[mr]),_,.nil,[⟨bs [112,97,115,116],z4⟩],[],by omega,hr1,hr2,hr3,⟨hss,hsz,BP hms (by omega) hmr,.lst rfl rfl,rfl,pV ⟨(by decide:(4:Nat)≤100000),hf4⟩,.nil _ _,rfl,gA⟩,by simp,.inl ⟨rfl,rfl⟩,.inr (IN _ _ _ _ _ _),Sv.intro rfl ⟨rfl,rfl,rfl,rfl,rfl,rfl,trivial⟩⟩|fail)
  ·rintro m ρ H1 ⟨k,rels,ms1,N,C,ns,cs,hk,hr1,hr2,hr3,hok,hcl,hC,hH,d,rfl⟩
   have hwp:0≤IntKind.i64.wrap (20+IntKind.i64.wrap (7*(k:Int))):=by rw[aY (7*(k:Int)) (by omega) (by omega),aY _ (by omega) (by omega)];omega
   have hml1:=hok.m.1
   rcases hC with⟨rfl,rfl⟩|rfl
   ·rcases hH with⟨rfl,rfl⟩|rfl
    ·repeat'((conv=>whnf);first|((first|apply aC.use|apply aC.draw);exact mX g l _ hwp;rintro r ⟨y,l',rfl,hl'⟩)|(refine cH.use [2] (pN h3 h4 y rels hr2 (by omega) hr3 l' (k:Int) (by omega)) (by simp) rfl ⟨⟨_,rfl,.same (aV cG rels)⟩,trivial⟩ ⟨.closed _ rfl,r6 rfl rfl rfl,.closed _ rfl,trivial⟩ (fun r hr=>?_);obtain⟨c,rfl,hc⟩:=hr)|refine b8 (i9 (ss:=ss) (V:=.nil) (C:=.nil) rfl hok.pn rfl) ?_|refine b8 (i9 (ss:=ss) (V:=.nil) (C:=(.list false 14 (mC eN ([]++[c])))) rfl hok.pn rfl) ?_|refine And.intro (⟨by simp[aQ],by simp[aQ]⟩) ?_|refine And.intro (⟨by simp[aQ],by simp[aQ],rfl,rfl⟩) ?_|refine b8 (eM rfl) ?_|refine b8 ((bX _)) ?_|refine And.intro (by exact rfl) ?_|refine And.intro (by decide) ?_|refine aI ?_|refine oA ?_|refine oM fun x hx hm=>?_|((first|apply aK|apply aL|apply aM|apply aF|apply aE)<;>intro h<;>(try simp at h)<;>(try(exfalso;omega))))
     any_goals((conv=>whnf);first|(refine Gp.cut (H:=QJ ss rels N .nil) rfl ⟨rfl,mF rfl hok.pn rfl,bP _ _,trivial⟩ rfl rfl ?_ fun ρ1 h=>⟨rfl,rels,_,N,_,ns,[],hok,.inl ⟨rfl,rfl⟩,h⟩;exact⟨rfl,rfl,trivial⟩)|fail)
     have hok2:=hok.snoc (by first|omega|(simp;done)|fail) hc
     (conv=>whnf)
     refine Gp.chkA (live:=[(0,.list g 1 (iC l)),(2,.ptr 0 1 0 0),(3,.int .i64 n),(4,.ptr 1 1 0 0),(5,.sl 2 rels.length 0 rels.length),(13,.int .i64 k),(14,.ptr 3 1 0 0)]) (id:=4) (rels:=rels) (cs:=[]++[c]) rfl rfl rfl rfl rfl rfl rfl rfl (by decide) hok.pn rfl rfl ⟨.closed _ rfl,aU rfl,.closed _ rfl,aU rfl,(hZ rfl rfl).1,.closed _ rfl,aU rfl,trivial⟩ fun ρ1 h=>?_
     obtain⟨dd,rfl⟩:=h
     repeat'((conv=>whnf);first|(refine cH.useN 8 [4] (qR (ms:=[]) hok2) RY (by simp) rfl ⟨⟨_,rfl,.same rfl⟩,trivial⟩ ⟨w7 rfl rfl hok.pn rfl,trivial⟩ (fun r hr=>?_);obtain⟨e,rfl⟩:=hr)|refine b8 (i9 (ss:=ss) (V:=.nil) (C:=.nil) rfl hok.pn rfl) ?_|refine b8 (i9 (ss:=ss) (V:=.nil) (C:=(.list false 14 (mC eN ([]++[c])))) rfl hok.pn rfl) ?_|refine b8 ((bX _)) ?_|refine And.intro (by exact rfl) ?_|refine And.intro (by decide) ?_|refine aI ?_|refine oA ?_|refine oM fun x hx hm=>?_|((first|apply aK|apply aL|apply aM|apply aF|apply aE)<;>intro h<;>(try simp at h)<;>(try(exfalso;omega))))
     any_goals((conv=>whnf);first|(refine⟨m-1,by omega,Gp.cut (H:=QJ ss rels N (.list false 14 (mC eN ([]++[c])))) rfl ⟨rfl,mF rfl hok.pn rfl,bP _ _,trivial⟩ rfl rfl ?_ fun ρ1 h=>⟨k+1,rels,_,N,_,ns,[]++[c],by omega,hr1,hr2,hr3,hok2,by first|omega|(simp;done)|(simp;omega)|fail,.inr rfl,.inl ⟨rfl,rfl⟩,h⟩⟩;exact⟨rfl,rfl,rfl,rfl,rfl,aN (dT (by omega)),trivial⟩)|(refine⟨m-1,by omega,Gp.cut (H:=QJ ss rels N .nil) rfl ⟨rfl,mF rfl hok.pn rfl,bP _ _,trivial⟩ rfl rfl ?_ fun ρ1 h=>⟨k+1,rels,_,N,_,ns,[],by omega,hr1,hr2,hr3,hok,by first|omega|(simp;done)|(simp;omega)|fail,.inl ⟨rfl,rfl⟩,.inl ⟨rfl,rfl⟩,h⟩⟩;exact⟨rfl,rfl,rfl,rfl,rfl,aN (dT (by omega)),trivial⟩)|fail)
    ·repeat'((conv=>whnf);first|((first|apply aC.use|apply aC.draw);exact mX g l _ hwp;rintro r ⟨y,l',rfl,hl'⟩)|(refine cH.use [2] (pN h3 h4 y rels hr2 (by omega) hr3 l' (k:Int) (by omega)) (by simp) rfl ⟨⟨_,rfl,.same (aV cG rels)⟩,trivial⟩ ⟨.closed _ rfl,r6 rfl rfl rfl,.closed _ rfl,trivial⟩ (fun r hr=>?_);obtain⟨c,rfl,hc⟩:=hr)|refine b8 (i9 (ss:=ss) (V:=.sl 3 ms1.length 0 ms1.length) (C:=.nil) rfl hok.pn rfl) ?_|refine b8 (i9 (ss:=ss) (V:=.sl 3 ms1.length 0 ms1.length) (C:=(.list false 14 (mC eN ([]++[c])))) rfl hok.pn rfl) ?_|refine And.intro (⟨by simp[aQ],by simp[aQ]⟩) ?_|refine And.intro (⟨by simp[aQ],by simp[aQ],rfl,rfl⟩) ?_|refine b8 (eM rfl) ?_|refine b8 ((bX _)) ?_|refine And.intro (by exact rfl) ?_|refine And.intro (by decide) ?_|refine aI ?_|refine oA ?_|refine oM fun x hx hm=>?_|((first|apply aK|apply aL|apply aM|apply aF|apply aE)<;>intro h<;>(try simp at h)<;>(try(exfalso;omega))))
     any_goals((conv=>whnf);first|(refine Gp.cut (H:=LW ss rels ms1 N .nil) rfl ⟨rfl,mF rfl hok.pn rfl,bP _ _,bU (aV eD _),trivial⟩ rfl rfl ?_ fun ρ1 h=>⟨rfl,rels,_,N,_,ns,[],hok,.inr rfl,h⟩;exact⟨rfl,rfl,trivial⟩)|fail)
     have hok2:=hok.snoc (by first|omega|(simp;done)|fail) hc
     (conv=>whnf)
     refine Gp.chkB (live:=[(0,.list g 1 (iC l)),(2,.ptr 0 1 0 0),(3,.int .i64 n),(4,.ptr 1 1 0 0),(5,.sl 2 rels.length 0 rels.length),(13,.int .i64 k),(14,.ptr 4 1 0 0)]) (id:=5) (rels:=rels) (cs:=[]++[c]) rfl rfl rfl rfl rfl rfl rfl rfl rfl (by decide) hok.pn rfl rfl ⟨.closed _ rfl,aU rfl,.closed _ rfl,aU rfl,(hZ rfl rfl).1,.closed _ rfl,aU rfl,trivial⟩ fun ρ1 h=>?_
     obtain⟨dd,rfl⟩:=h
     repeat'((conv=>whnf);first|(refine cH.use [3] (qR hok2) (by simp) rfl ⟨⟨_,rfl,.same (aV eD _)⟩,trivial⟩ ⟨w7 rfl rfl hok.pn rfl,trivial⟩ (fun r hr=>?_);obtain⟨e,rfl⟩:=hr)|refine b8 (i9 (ss:=ss) (V:=.sl 3 ms1.length 0 ms1.length) (C:=.nil) rfl hok.pn rfl) ?_|refine b8 (i9 (ss:=ss) (V:=.sl 3 ms1.length 0 ms1.length) (C:=(.list false 14 (mC eN ([]++[c])))) rfl hok.pn rfl) ?_|refine b8 ((bX _)) ?_|refine And.intro (by exact rfl) ?_|refine And.intro (by decide) ?_|refine aI ?_|refine oA ?_|refine oM fun x hx hm=>?_|((first|apply aK|apply aL|apply aM|apply aF|apply aE)<;>intro h<;>(try simp at h)<;>(try(exfalso;omega))))
     any_goals((conv=>whnf);first|(refine⟨m-1,by omega,Gp.cut (H:=LW ss rels ms1 N (.list false 14 (mC eN ([]++[c])))) rfl ⟨rfl,mF rfl hok.pn rfl,bP _ _,bU (aV eD _),trivial⟩ rfl rfl ?_ fun ρ1 h=>⟨k+1,rels,_,N,_,ns,[]++[c],by omega,hr1,hr2,hr3,hok2,by first|omega|(simp;done)|(simp;omega)|fail,.inr rfl,.inr rfl,h⟩⟩;exact⟨rfl,rfl,rfl,rfl,rfl,aN (dT (by omega)),trivial⟩)|(refine⟨m-1,by omega,Gp.cut (H:=LW ss rels ms1 N .nil) rfl ⟨rfl,mF rfl hok.pn rfl,bP _ _,bU (aV eD _),trivial⟩ rfl rfl ?_ fun ρ1 h=>⟨k+1,rels,_,N,_,ns,[],by omega,hr1,hr2,hr3,hok,by first|omega|(simp;done)|(simp;omega)|fail,.inl ⟨rfl,rfl⟩,.inr rfl,h⟩⟩;exact⟨rfl,rfl,rfl,rfl,rfl,aN (dT (by omega)),trivial⟩)|fail)
   ·rcases hH with⟨rfl,rfl⟩|rfl
    ·repeat'((conv=>whnf);first|((first|apply aC.use|apply aC.draw);exact mX g l _ hwp;rintro r ⟨y,l',rfl,hl'⟩)|(refine cH.use [2] (pN h3 h4 y rels hr2 (by omega) hr3 l' (k:Int) (by omega)) (by simp) rfl ⟨⟨_,rfl,.same (aV cG rels)⟩,trivial⟩ ⟨.closed _ rfl,r6 rfl rfl rfl,.closed _ rfl,trivial⟩ (fun r hr=>?_);obtain⟨c,rfl,hc⟩:=hr)|refine b8 (i9 (ss:=ss) (V:=.nil) (C:=(.list false 14 (mC eN cs))) rfl hok.pn rfl) ?_|refine b8 (i9 (ss:=ss) (V:=.nil) (C:=(.list false 14 (mC eN (cs++[c])))) rfl hok.pn rfl) ?_|refine And.intro (⟨by simp[aQ];omega,by simp[aQ];omega⟩) ?_|refine And.intro (⟨by simp[aQ];omega,by simp[aQ];omega,rfl,rfl⟩) ?_|refine b8 (eM rfl) ?_|refine b8 ((bX _)) ?_|refine And.intro (by exact rfl) ?_|refine And.intro (by decide) ?_|refine aI ?_|refine oA ?_|refine oM fun x hx hm=>?_|((first|apply aK|apply aL|apply aM|apply aF|apply aE)<;>intro h<;>(try simp at h)<;>(try(exfalso;omega))))
     any_goals((conv=>whnf);first|(refine Gp.cut (H:=QJ ss rels N (.list false 14 (mC eN cs))) rfl ⟨rfl,mF rfl hok.pn rfl,bP _ _,trivial⟩ rfl rfl ?_ fun ρ1 h=>⟨rfl,rels,_,N,_,ns,cs,hok,.inl ⟨rfl,rfl⟩,h⟩;exact⟨rfl,rfl,trivial⟩)|fail)
     have hok2:=hok.snoc (by first|omega|(simp;done)|fail) hc
     (conv=>whnf)
     refine Gp.chkA (live:=[(0,.list g 1 (iC l)),(2,.ptr 0 1 0 0),(3,.int .i64 n),(4,.ptr 1 1 0 0),(5,.sl 2 rels.length 0 rels.length),(13,.int .i64 k),(14,.ptr 3 1 0 0)]) (id:=4) (rels:=rels) (cs:=cs++[c]) rfl rfl rfl rfl rfl (G9 eN cs c) rfl rfl (by decide) hok.pn rfl rfl ⟨.closed _ rfl,aU rfl,.closed _ rfl,aU rfl,(hZ rfl rfl).1,.closed _ rfl,aU rfl,trivial⟩ fun ρ1 h=>?_
     obtain⟨dd,rfl⟩:=h
     repeat'((conv=>whnf);first|(refine cH.useN 8 [4] (qR (ms:=[]) hok2) RY (by simp) rfl ⟨⟨_,rfl,.same rfl⟩,trivial⟩ ⟨w7 rfl rfl hok.pn rfl,trivial⟩ (fun r hr=>?_);obtain⟨e,rfl⟩:=hr)|refine b8 (i9 (ss:=ss) (V:=.nil) (C:=(.list false 14 (mC eN cs))) rfl hok.pn rfl) ?_|refine b8 (i9 (ss:=ss) (V:=.nil) (C:=(.list false 14 (mC eN (cs++[c])))) rfl hok.pn rfl) ?_|refine b8 ((bX _)) ?_|refine And.intro (by exact rfl) ?_|refine And.intro (by decide) ?_|refine aI ?_|refine oA ?_|refine oM fun x hx hm=>?_|((first|apply aK|apply aL|apply aM|apply aF|apply aE)<;>intro h<;>(try simp at h)<;>(try(exfalso;omega))))
     any_goals((conv=>whnf);first|(refine⟨m-1,by omega,Gp.cut (H:=QJ ss rels N (.list false 14 (mC eN (cs++[c])))) rfl ⟨rfl,mF rfl hok.pn rfl,bP _ _,trivial⟩ rfl rfl ?_ fun ρ1 h=>⟨k+1,rels,_,N,_,ns,cs++[c],by omega,hr1,hr2,hr3,hok2,by first|omega|(simp;done)|(simp;omega)|fail,.inr rfl,.inl ⟨rfl,rfl⟩,h⟩⟩;exact⟨rfl,rfl,rfl,rfl,rfl,aN (dT (by omega)),trivial⟩)|(refine⟨m-1,by omega,Gp.cut (H:=QJ ss rels N (.list false 14 (mC eN cs))) rfl ⟨rfl,mF rfl hok.pn rfl,bP _ _,trivial⟩ rfl rfl ?_ fun ρ1 h=>⟨k+1,rels,_,N,_,ns,cs,by omega,hr1,hr2,hr3,hok,by first|omega|(simp;done)|(simp;omega)|fail,.inr rfl,.inl ⟨rfl,rfl⟩,h⟩⟩;exact⟨rfl,rfl,rfl,rfl,rfl,aN (dT (by omega)),trivial⟩)|fail)
    ·repeat'((conv=>whnf);first|((first|apply aC.use|apply aC.draw);exact mX g l _ hwp;rintro r ⟨y,l',rfl,hl'⟩)|(refine cH.use [2] (pN h3 h4 y rels hr2 (by omega) hr3 l' (k:Int) (by omega)) (by simp) rfl ⟨⟨_,rfl,.same (aV cG rels)⟩,trivial⟩ ⟨.closed _ rfl,r6 rfl rfl rfl,.closed _ rfl,trivial⟩ (fun r hr=>?_);obtain⟨c,rfl,hc⟩:=hr)|refine b8 (i9 (ss:=ss) (V:=.sl 3 ms1.length 0 ms1.length) (C:=(.list false 14 (mC eN cs))) rfl hok.pn rfl) ?_|refine b8 (i9 (ss:=ss) (V:=.sl 3 ms1.length 0 ms1.length) (C:=(.list false 14 (mC eN (cs++[c])))) rfl hok.pn rfl) ?_|refine And.intro (⟨by simp[aQ];omega,by simp[aQ];omega⟩) ?_|refine And.intro (⟨by simp[aQ];omega,by simp[aQ];omega,rfl,rfl⟩) ?_|refine b8 (eM rfl) ?_|refine b8 ((bX _)) ?_|refine And.intro (by exact rfl) ?_|refine And.intro (by decide) ?_|refine aI ?_|refine oA ?_|refine oM fun x hx hm=>?_|((first|apply aK|apply aL|apply aM|apply aF|apply aE)<;>intro h<;>(try simp at h)<;>(try(exfalso;omega))))
     any_goals((conv=>whnf);first|(refine Gp.cut (H:=LW ss rels ms1 N (.list false 14 (mC eN cs))) rfl ⟨rfl,mF rfl hok.pn rfl,bP _ _,bU (aV eD _),trivial⟩ rfl rfl ?_ fun ρ1 h=>⟨rfl,rels,_,N,_,ns,cs,hok,.inr rfl,h⟩;exact⟨rfl,rfl,trivial⟩)|fail)
     have hok2:=hok.snoc (by first|omega|(simp;done)|fail) hc
     (conv=>whnf)
     refine Gp.chkB (live:=[(0,.list g 1 (iC l)),(2,.ptr 0 1 0 0),(3,.int .i64 n),(4,.ptr 1 1 0 0),(5,.sl 2 rels.length 0 rels.length),(13,.int .i64 k),(14,.ptr 4 1 0 0)]) (id:=5) (rels:=rels) (cs:=cs++[c]) rfl rfl rfl rfl rfl rfl (G9 eN cs c) rfl rfl (by decide) hok.pn rfl rfl ⟨.closed _ rfl,aU rfl,.closed _ rfl,aU rfl,(hZ rfl rfl).1,.closed _ rfl,aU rfl,trivial⟩ fun ρ1 h=>?_
     obtain⟨dd,rfl⟩:=h
     repeat'((conv=>whnf);first|(refine cH.use [3] (qR hok2) (by simp) rfl ⟨⟨_,rfl,.same (aV eD _)⟩,trivial⟩ ⟨w7 rfl rfl hok.pn rfl,trivial⟩ (fun r hr=>?_);obtain⟨e,rfl⟩:=hr)|refine b8 (i9 (ss:=ss) (V:=.sl 3 ms1.length 0 ms1.length) (C:=(.list false 14 (mC eN cs))) rfl hok.pn rfl) ?_|refine b8 (i9 (ss:=ss) (V:=.sl 3 ms1.length 0 ms1.length) (C:=(.list false 14 (mC eN (cs++[c])))) rfl hok.pn rfl) ?_|refine b8 ((bX _)) ?_|refine And.intro (by exact rfl) ?_|refine And.intro (by decide) ?_|refine aI ?_|refine oA ?_|refine oM fun x hx hm=>?_|((first|apply aK|apply aL|apply aM|apply aF|apply aE)<;>intro h<;>(try simp at h)<;>(try(exfalso;omega))))
     any_goals((conv=>whnf);first|(refine⟨m-1,by omega,Gp.cut (H:=LW ss rels ms1 N (.list false 14 (mC eN (cs++[c])))) rfl ⟨rfl,mF rfl hok.pn rfl,bP _ _,bU (aV eD _),trivial⟩ rfl rfl ?_ fun ρ1 h=>⟨k+1,rels,_,N,_,ns,cs++[c],by omega,hr1,hr2,hr3,hok2,by first|omega|(simp;done)|(simp;omega)|fail,.inr rfl,.inr rfl,h⟩⟩;exact⟨rfl,rfl,rfl,rfl,rfl,aN (dT (by omega)),trivial⟩)|(refine⟨m-1,by omega,Gp.cut (H:=LW ss rels ms1 N (.list false 14 (mC eN cs))) rfl ⟨rfl,mF rfl hok.pn rfl,bP _ _,bU (aV eD _),trivial⟩ rfl rfl ?_ fun ρ1 h=>⟨k+1,rels,_,N,_,ns,cs,by omega,hr1,hr2,hr3,hok,by first|omega|(simp;done)|(simp;omega)|fail,.inr rfl,.inr rfl,h⟩⟩;exact⟨rfl,rfl,rfl,rfl,rfl,aN (dT (by omega)),trivial⟩)|fail)
  ·rintro i ρ1 H1 ⟨rfl,rels,ms1,N,C,ns,cs,hok,hH,dd,rfl⟩
   rcases hH with⟨rfl,rfl⟩|rfl
   ·repeat'((conv=>whnf);first|refine b8 (i9 (ss:=ss) (V:=.nil) rfl hok.pn hok.pc) ?_|refine b8 ((bX _)) ?_|refine And.intro (by exact rfl) ?_|refine And.intro (by decide) ?_|refine aI ?_|refine oA ?_|refine oM fun x hx hm=>?_|((first|apply aK|apply aL|apply aM|apply aF|apply aE)<;>intro h<;>(try simp at h)<;>(try(exfalso;omega))))
    any_goals((conv=>whnf);first|exact⟨ss,[],N,C,ns,cs,hok,.inl ⟨rfl,rfl⟩⟩|fail)
   ·repeat'((conv=>whnf);first|refine b8 (i9 (ss:=ss) (V:=.sl 3 ms1.length 0 ms1.length) rfl hok.pn hok.pc) ?_|refine b8 ((bX _)) ?_|refine And.intro (by exact rfl) ?_|refine And.intro (by decide) ?_|refine aI ?_|refine oA ?_|refine oM fun x hx hm=>?_|((first|apply aK|apply aL|apply aM|apply aF|apply aE)<;>intro h<;>(try simp at h)<;>(try(exfalso;omega))))
    any_goals((conv=>whnf);first|exact⟨ss,ms1,N,C,ns,cs,hok,.inr ⟨3,rfl,rfl⟩⟩|fail)
theorem YP{ss:List yP}{N C:a6}(hN:N.isPure=true)(hC:C.isPure=true):(a6.agg (cE ss .nil N C)).closed=true:=by
 show(cE ss .nil N C).all a6.isPure=true
 simp only[cE,List.all_cons,List.all_nil,hN,hC]
 rfl
theorem EX{σ:Nat→Nat}:∀{vs:List a6},vs.all a6.closed=true→mO σ vs vs
 |[],_=>trivial
 |v::vs,h=>by
  simp only[List.all_cons,Bool.and_eq_true]at h
  exact⟨.closed _ h.1,EX h.2⟩
def X1(P:Program)(f:FuncId)(vs:List a6):Prop :=
 ∃(ss:List yP) (ms:List vP) (N C:a6) (ns:List KX) (cs:List zQ),xD ss ms N C ns cs ∧
  ((ms=[]∧∀H,a7 P f vs H (fun r H'=>r=.agg (cE ss .nil N C)∧H'=H)) ∨
  ∀H,a7 P f vs H (fun r H'=>r=.agg (cE ss (.sl H.length ms.length 0 ms.length) N C)∧H'=H++[.arr 8 (mC gQ ms)]))
theorem RI{P:Program}{f:FuncId}{vs:List a6}(ha:vs.all a6.closed=true)(h:∃v H1,ZH v H1∧a7 P f vs [] (fun r H'=>r=v∧H'=H1)):X1 P f vs:=by
 obtain⟨v,H1,⟨ss,ms,N,C,ns,cs,hok,hq⟩,hc⟩:=h
 refine⟨ss,ms,N,C,ns,cs,hok,?_⟩
 rcases hq with⟨rfl,rfl⟩|⟨id,rfl,ho⟩
 ·exact .inl ⟨rfl,fun H=>a7.pure ha (hc.mono fun _ _ ⟨e1,e2⟩=>by subst e1 e2;exact .closed _ (YP hok.pn hok.pc))⟩
 ·right
  intro H
  have hg:=a7.gpI hc [id] (by simp) (fun k m hk=>by simp at hk) (H2:=[.arr 8 (mC gQ ms)]) ⟨⟨_,ho,.same _ _ (aV eD ms)⟩,trivial⟩ (R':=.agg (cE ss (.sl 0 ms.length 0 ms.length) N C)) (by
   refine .agg _ _ rfl fun i v r h1 h2=>?_
   rcases i with _|_|_|_|_|_|i
   ·cases h1;cases h2;exact .closed _ rfl
   ·cases h1;cases h2;exact .closed _ rfl
   ·cases h1;cases h2;exact .closed _ rfl
   ·cases h1;cases h2;exact(hZ rfl rfl).1
   ·cases h1;cases h2;exact(dJ hok.pn).1
   ·cases h1;cases h2;exact(dJ hok.pc).1
   ·simp at h1)
  have hm:oD [] H.length 0=H.length:=by rw[oE (by simp)];simp
  refine hg.frL (H2:=H++[.arr 8 (mC gQ ms)]) [] List.nodup_nil rfl trivial (EX ha) (w7 hm rfl hok.pn hok.pc) (by simp) ?_ (GG fun i x hx=>by rw[Nat.zero_add,List.getElem?_append_left (qO hx)];exact hx)
  exact⟨⟨_,by rw[hm,List.getElem?_append_right (Nat.le_refl _)];simp,.same (aV eD ms)⟩,trivial⟩
theorem Gp.ent{n:Nat}{live:List (Nat×a6)}{ρ:List a6}{H':List aB}{I:List a6→List aB→Prop}{id m i:Nat}{ls:List Int}{L:List cU}{row:List V}{c:Int}(hz:H'[0]?=Option.some (gO ls i))(h0:H'[1]?=Option.some (.arr 2 (eC L++[[.sl id m 0 m,.int .i64 c]])))(h1:H'[id]?=Option.some (.arr 3 (vC row)))(hid:2≤id)(hm:m=(vC row).length)
  (hl:ρ.length=n) (h:lL H' [0,1] ρ live) (hI:∀ρ1,Sv n live ρ1→I ρ1 [gO ls i,.arr 2 (eC (L++[⟨row,c⟩]))]):Gp [1] ρ H' I:=by
 refine Gp.keepL (H1:=[gO ls i,.arr 2 (eC (L++[⟨row,c⟩]))]) [0,1] (by simp) (bY rfl hz rfl) ⟨⟨_,hz,.same _ _ rfl⟩,⟨_,h0,?_⟩,trivial⟩ hl h hI
 refine O1 2 _ _ _ (j4 ⟨row,c⟩) (l5 ..) (gM _) rfl fun j d d1 h2 h3=>?_
 rcases j with _|_|j
 ·cases h2;cases h3
  exact⟨mJ (by simp;omega) h1 (by omega) (by omega) (l9 row),rfl⟩
 ·cases h2;cases h3
  exact⟨.closed _ rfl,rfl⟩
 ·simp at h2
set_option maxRecDepth 20000 in
set_option maxHeartbeats 2000000 in
theorem OF(cs:List c8)(hc:cs≠[])(hcl:cs.length≤1000)(l:List Int)(hl:l.length≤1000000)(n:Nat)(hn:n≤1000):
  ∃v H1,(∃(rows:List cU) (i:Nat) (G:List aB),v=.list false 2 (eC rows)∧gI rows=0∧H1=gO l i::G)∧a7 pr 34 [.list false 3 (cC cs),.ptr 0 1 0 0,.int .i64 n] [gO l 0] (fun r H'=>r=v∧H'=H1):=by
 have hw:IntKind.i64.wrap ((n:Int)+1)=(n:Int)+1:=aY _ (by omega) (by omega)
 obtain⟨N,hN⟩:∃N,N=IntKind.i64.wrap ((n:Int)+1):=⟨_,rfl⟩
 have hN1:1≤N∧N≤1001:=by rw[hN,hw];omega
 have hx:=vD l 0 N hN1.1
 have hxl:=EQ (l:=l) (i:=0) (n:=N) (Nat.zero_le _)
 refine d6 k34.has ?_
 conv=>whnf
 rw[←hN]
 (conv=>whnf);refine bI.of (gG l 0 N (Nat.zero_le _) hl (by omega) [gO l 0] 0 rfl) ?_
 conv=>whnf
 refine⟨fun m ρ H1=>∃(k:Int) (i:Nat) (L:List cU),m=k.toNat∧0≤k∧k≤1001∧i≤l.length∧L.length+k≤1001∧H1=[gO l i,.arr 2 (eC L)]∧Sv 36 [(0,.list false 3 (cC cs)),(1,.ptr 0 1 0 0),(7,.sl 1 L.length 0 L.length),(8,.int .i64 k)] ρ,(nx l 0 N).1.toNat,[(7,2)],fun i ρ H1=>i=0∧∃(i:Nat) (L:List cU),L.length≤1001∧H1=[gO l i,.arr 2 (eC L)]∧Sv 36 [(1,.ptr 0 1 0 0),(7,.sl 1 L.length 0 L.length)] ρ,?_,?_,?_⟩
 ·exact⟨_,_,[],rfl,hx.1,by omega,hxl,by simp;omega,rfl,Sv.intro rfl ⟨rfl,rfl,rfl,rfl,trivial⟩⟩
 ·rintro m ρ H1 ⟨k,i,L,rfl,hk0,hk1,hi,hLk,rfl,d,rfl⟩
  have hi2:=VL l cs i [] hi
  have hi3:=EQ l (wr l cs i []).2 3 hi2
  repeat'((conv=>whnf);first|refine bI.of (QD cs hc hcl l i hi hl _ 0 rfl) ?_|refine bI.of (gG l (wr l cs i []).2 3 hi2 hl (by decide) _ 0 rfl) ?_|refine b8 (eM (aR L).symm) ?_|refine And.intro (⟨by simp[aQ];omega,by simp[aQ];omega,rfl,(aR L).symm⟩) ?_|refine And.intro (by exact rfl) ?_|refine And.intro (by decide) ?_|refine aI ?_|refine oA ?_|refine oM fun x hx hm=>?_|((first|apply aK|apply aL|apply aM|apply aF|apply aE)<;>intro h<;>(try simp at h)<;>(try(exfalso;omega))))
  any_goals((conv=>whnf);first|(refine⟨(k-1).toNat,by omega,Gp.ent (id:=2) (row:=(wr l cs i []).1) (L:=L) rfl rfl rfl (by decide) (by simp[TI]) rfl ?_ fun ρ1 h=>⟨k-1,_,_,rfl,by omega,by omega,hi3,by simp;omega,rfl,h⟩⟩;exact⟨.closed _ rfl,aU rfl,(hZ rfl (by simp)).1,nB (aY _ (by omega) (by omega)),trivial⟩)|(refine Gp.cutN (H:=[gO l i,.arr 2 (eC L)]) rfl ⟨rfl,trivial⟩ ⟨rfl,bU (gM _),trivial⟩ rfl rfl ?_ fun ρ1 h=>⟨rfl,i,L,by omega,rfl,h⟩;exact⟨rfl,rfl,trivial⟩)|fail)
 ·rintro i ρ1 H1 ⟨rfl,i,L,hL,rfl,dd,rfl⟩
  conv=>whnf
  refine Gp.keepL (live:=[(7,.list false 2 (eC L))]) (H1:=[gO l i]) [0] (by simp) (bY rfl rfl rfl) ⟨⟨_,rfl,.same _ _ rfl⟩,trivial⟩ rfl ⟨mJ (by simp) rfl (aR L).symm (aR L).symm (gM L),trivial⟩ fun ρ1 h=>?_
  obtain⟨dd,rfl⟩:=h
  repeat'((conv=>whnf);first|((first|apply aC.use|apply aC.draw);exact aC.of (yA false L (by omega));rintro r rfl)|refine aI ?_|refine oA ?_|refine oM fun x hx hm=>?_|((first|apply aK|apply aL|apply aM|apply aF|apply aE)<;>intro h<;>(try simp at h)<;>(try(exfalso;omega))))
  any_goals((conv=>whnf);first|exact⟨(PC L).1,i,[],rfl,(EP L).1,rfl⟩|fail)
theorem B3(cs:List c8)(hc:cs≠[])(hcl:cs.length≤1000)(l:List Int)(hl:l.length≤1000000)(n:Nat)(hn:n≤1000):
  ∃(rows:List cU) (i:Nat),gI rows=0∧∀(H:List aB) (id:Nat),H[id]?=some (gO l 0)→a7 pr 34 [.list false 3 (cC cs),.ptr id 1 0 0,.int .i64 n] H (fun r H'=>r=.list false 2 (eC rows)∧H'=H.set id (gO l i)):=by
 obtain⟨v,H1,⟨rows,i,G,rfl,hb,rfl⟩,h⟩:=OF cs hc hcl l hl n hn
 refine⟨rows,i,hb,fun H id ho=>?_⟩
 have hg:=a7.gpI h [0] (by simp) (bY rfl rfl rfl) (H2:=[gO l i]) ⟨⟨_,rfl,.same _ _ rfl⟩,trivial⟩ (R':=.list false 2 (eC rows)) (.closed _ rfl)
 exact hg.fr ho rfl rfl (.cl rfl (.pt (.cl rfl trivial))) (.closed _ rfl)
end Go.AW
namespace Go.AW
variable [dE]
attribute [local irreducible] a7
theorem JN(l:List Int)(rest:List (List a6)):(bC l++rest).length=l.length+rest.length:=by rw[List.length_append,aD]
set_option maxRecDepth 20000 in
theorem I5(l:List Int)(m:Nat)(rest:List (List a6))(hm:m≤l.length)(ep:Nat)(hep:ep=l.length+rest.length)(hl:l.length≤90000000):
  a7 pr 63 [.sl 0 ep 0 m] [.arr 1 (bC l++rest)] (fun r H'=>(r=.nil∧m=0∧H'=[.arr 1 (bC l++rest)])∨(r=.sl 1 m 0 m∧H'=[.arr 1 (bC l++rest),.arr 1 (bC (l.take m))])):=by
 subst hep
 have ht:List.take m (List.drop 0 (bC l++rest))=bC (l.take m):=by
  rw[List.drop_zero,List.take_append_of_le_length (by rw[aD];exact hm),sZ]
 have htl:(l.take m).length=m:=by rw[List.length_take];omega
 refine aA k63.has ?_
 (conv=>whnf);refine b8 (by rw[JN];exact Nat.beq_refl _) ?_
 refine And.intro (fun h=>?_) ?_
 ·conv=>whnf
  exact .inl ⟨rfl,h,rfl⟩
 ·(conv=>whnf);refine b8 (by rw[JN];exact Nat.beq_refl _) ?_
  conv=>whnf
  (conv=>whnf);refine And.intro (⟨fG (by simp;omega),bK (by simp;omega),.inr rfl⟩) ?_
  conv=>whnf
  rw[ht]
  have el:(List.replicate 0 [a6.int IntKind.u8 0]++bC (List.take m l)).length=m:=by
   show(bC (List.take m l)).length=m
   rw[aD,htl]
  exact .inr ⟨eS el el,rfl⟩
theorem CI(zs:List Int)(q:Nat):bG (bC zs++bC (List.replicate q 0))=true:=by rw[←c9];exact eG _
theorem OO(zs:List Int)(m q:Nat)(hm:m≤zs.length)(ep:Nat)(hep:ep=zs.length+q)(hl:zs.length≤90000000):
  a7 pr 63 [.sl 0 ep 0 m] [.arr 1 (bC zs++bC (List.replicate q 0))] (fun r H'=>r=.list false 1 (bC (zs.take m))∧H'=[.arr 1 (bC zs++bC (List.replicate q 0))]):=by
 have htl:(bC (zs.take m)).length=m:=by rw[aD,List.length_take];omega
 refine a7.weakR (Q:=fun r H'=>(r=.list false 1 (bC (zs.take m))∨(r=.nil∧m=0))∧H'=[.arr 1 (bC zs++bC (List.replicate q 0))]) ((I5 zs m (bC (List.replicate q 0)) hm ep (by rw[hep,aD,List.length_replicate]) hl).gp ?_) ?_
 ·rintro r H1 (⟨rfl,h1,rfl⟩|⟨rfl,rfl⟩)
  ·refine Gp.res (r':=.nil) (H1:=[.arr 1 (bC zs++bC (List.replicate q 0))]) [0] (by simp) (bY rfl rfl rfl) ⟨⟨_,rfl,.same _ _ (CI _ _)⟩,trivial⟩ (.closed _ rfl) ?_
   exact⟨_,rfl,.inr ⟨rfl,h1⟩,rfl⟩
  ·refine Gp.res (r':=.list false 1 (bC (zs.take m))) (H1:=[.arr 1 (bC zs++bC (List.replicate q 0))]) [0] (by simp) (bY rfl rfl rfl) ⟨⟨_,rfl,.same _ _ (CI _ _)⟩,trivial⟩ (mJ (by simp) rfl htl.symm htl.symm (eG _)) ?_
   exact⟨_,rfl,.inl rfl,rfl⟩
 ·rintro r H' ⟨rfl|⟨rfl,h0⟩,rfl⟩
  ·exact⟨_,.refl _,rfl,rfl⟩
  ·refine⟨_,.nil false 1,?_,rfl⟩
   subst h0;rfl
section
variable {H:List aB}{s:Nat}
theorem ON(l:List Int)(hl:l.length≤90000000)(H:List aB)(id n:Nat)(hn:n=l.length)(ho:H[id]?=some (bO l)):
  a7 pr 63 [.sl id n 0 n] H (fun r H'=>r=.list false 1 (bC l)∧H'=H):=by
 subst hn
 have h:=OO l l.length 0 (Nat.le_refl _) l.length rfl hl
 have e0:bC l++bC (List.replicate 0 0)=bC l:=by simp[bC]
 rw[e0,List.take_length]at h
 have:=h.fr (args:=[.sl id l.length 0 l.length]) ho (by simp[aB.clean,eG]) (by simp[aB.clean,eG]) (.sl trivial) (.closed _ rfl)
 refine this.mono fun r H' hq=>⟨hq.1,?_⟩
 rw[hq.2]
 exact MT ho
end
attribute [local irreducible] bI oN Gp
theorem QB{b:List Int}(hb:fO b)(hl:b.length≤1000000):∃(y:pK) (e:Int),wZ fS b=.tuple [.agg (cO y),.int .i64 e]∧y.Fit∧y.keys.length≤1000000∧(∀k∈y.keys,k.2.length≤1000000)∧y=oT y:=by
 unfold wZ
 by_cases h:sT fS b=true
 ·rw[if_pos h]
  obtain⟨h1,x,h2,h3⟩:=(pI rfl rfl b).1 h
  have hr:=(wK h2 (fl:=fS) rfl rfl).1
  rw[h3]at hr
  have hk:=B9 (BA h2).2.2.1
  have hc:oT (oT x)=oT x:=by simp[oT,List.map_map,Function.comp_def]
  refine⟨_,_,rfl,CO fS hb hl,?_,?_,?_⟩
  ·rw[hr];show(x.keys.map _).length≤_;rw[List.length_map];omega
  ·rw[hr]
   intro k hk2
   obtain⟨k0,h4,rfl⟩:=List.mem_map.1 (show k∈x.keys.map (fun k=>(false,k.2))from hk2)
   have:=(hk.2 k0 h4).1
   show k0.2.length≤_;omega
  ·rw[hr,hc]
 ·rw[if_neg h]
  exact⟨SR,11,rfl,⟨by decide,by decide,by decide,fun e he=>by simp[SR]at he⟩,by decide,(fun k hk=>by simp[SR]at hk),rfl⟩
theorem vE(x:pK):∃(a:a6) (l:List Int) (e:Int),mH x=.tuple [a,.int .i64 e]∧gB a (.list false 1 (bC l))∧a.closed=true∧fO l∧(e=0→eJ x=0∧l=dL x∧l.length≤65536∧a=.list false 1 (bC l)):=by
 rcases sA x with⟨h1,h2,h3⟩|⟨n,h1,h2,_⟩
 ·exact⟨_,dL x,0,h3,.refl _,rfl,t6 x,fun _=>⟨h1,rfl,h2,rfl⟩⟩
 ·exact⟨.nil,[],n,h2,.nil _ _,rfl,(fun y hy=>by simp at hy),fun h=>absurd h h1⟩
def YX:Option (List (Bool×List ByteArray))→List (Bool×List ByteArray)
 |none=>[]
 |some l=>l.map fun k=>(false,k.2)
theorem XK(k:Option (List (Bool×List ByteArray))):gB (U7 k) (.list false 1 (z8 (YX k))):=by
 cases k with
 |none=>exact .nil _ _
 |some l =>
  show gB (.list false 1 (z8 l)) (.list false 1 (z8 (l.map fun k=>(false,k.2))))
  refine NB (by simp[z8]) fun i e f he hf=>?_
  rw[z8,List.getElem?_map]at he hf
  rw[List.getElem?_map]at hf
  obtain⟨k,hk,rfl⟩:=Option.map_eq_some_iff.1 he
  rw[hk]at hf;cases hf
  exact⟨rfl,fun c hc=>by simp at hc;subst hc;rfl,.cons (.lst rfl (aO _)) .nil⟩
def CP(r:jE)(rows:List cU):pK:=⟨r.name,false,r.cols,false,YX r.kx,false,rows⟩
theorem O6(r:jE)(rows:List cU):gB (.agg [.str r.name,.list r.ec 3 (cC r.cols),U7 r.kx,.list false 2 (eC rows)]) (.agg (cO (CP r rows))) :=
 .aggs (.cons (.refl _) (.cons (.lst rfl (cI _)) (.cons (XK _) (.cons (.refl _) .nil))))
theorem tM(r:jE)(rows:List cU):CP r rows=oT (CP r rows):=by
 obtain⟨a,b,c,k⟩:=r
 cases k<;>simp[CP,oT,YX,List.map_map,Function.comp_def]
theorem JV{r:jE}{rows:List cU}(hr:nH r)(hb:gI rows=0):(CP r rows).Fit:=by
 obtain⟨h1,h2,_⟩:=TV hb
 refine⟨Nat.le_trans hr.1 (by decide),Nat.le_trans hr.2 (by decide),by show rows.length≤_;omega,fun e he=>?_⟩
 have:=(h2 e he).1
 omega
theorem AI{x:pK}(h:eJ x=0):x.keys.length≤1000000∧∀k∈x.keys,k.2.length≤1000000:=by
 have hk:=B9 (BA h).2.2.1
 exact⟨by omega,fun k hk2=>Nat.le_trans (hk.2 k hk2).1 (by decide)⟩
set_option maxRecDepth 20000 in
set_option maxHeartbeats 8000000 in
theorem P7(hkn:aC pr 8 [] (fun r=>r=.bool true))(eb ed:Bool)(xr:pK)(b ds ls:List Int)(which:Int)(hby:fO b)
  (hdef:ds.length≤80→X1 pr 33 [.list ed 1 (iC ds)]):∃v H1,v=.bool true∧a7 pr 6 [.agg (cO xr),.list eb 1 (bC b),.list ed 1 (iC ds),.list false 1 (iC ls),.int .i64 which] [] (fun r H'=>r=v∧H'=H1):=by
 refine d6 k6.has ?_
 repeat'((conv=>whnf);first|((first|apply aC.use|apply aC.draw);exact NA xr.er xr.rows 16 (by decide);rintro r ⟨t,rfl,hw⟩)|((first|apply aC.use|apply aC.draw);exact hkn;rintro r rfl)|refine aI ?_|refine oA ?_|refine oM fun x hx hm=>?_|((first|apply aK|apply aL|apply aM|apply aF|apply aE)<;>intro h<;>(try simp at h)<;>(try(exfalso;omega))))
 any_goals((conv=>whnf);done)
 obtain⟨hr1,hr2⟩:=hw (by assumption)
 have hbc:=aD b
 have hkl:=gU xr.keys
 have hcl:=aW xr.cols
 have hfit:xr.Fit:=⟨by omega,by omega,by omega,fun e he=>Nat.le_trans (hr2 e he) (by decide)⟩
 have hls:ls.length≤1000000:=by omega
 obtain⟨a,pl,pe,hp,hpw,hpc,hpb,_⟩:=vE xr
 have hP1:aC pr 26 [.agg (cO xr)] (fun r=>r=.tuple [a,.int .i64 pe]):=by rw[←hp];exact aC.of (sV xr hfit)
 have hP2:aC pr 27 [.agg (cO xr)] (fun r=>r=.tuple [a,.int .i64 pe]):=by rw[←hp];exact aC.of (qJ xr hfit)
 have hS1:aC pr 30 [a,a] (fun r=>r=.bool true):=by
  have:=(aC.of (mY false false pl pl hpb hpb)).args (.cons hpw (.cons hpw .nil))
  rwa [beq_self_eq_true]at this
 obtain⟨y,ye,hu,hyf,hyk,hyks,hyc⟩:=QB hby (by omega)
 have hU1:aC pr 28 [.list eb 1 (bC b)] (fun r=>r=.tuple [.agg (cO y),.int .i64 ye]):=by rw[←hu];exact(aC.of (rH b hby (by omega))).args (.cons (.lst rfl (eG b)) .nil)
 have hU2:aC pr 29 [.list eb 1 (bC b)] (fun r=>r=.tuple [.agg (cO y),.int .i64 ye]):=by rw[←hu];exact(aC.of (GL b hby (by omega))).args (.cons (.lst rfl (eG b)) .nil)
 conv=>whnf
 refine⟨fun m ρ H1=>∃k:Nat,k+m=xr.keys.length∧H1=[.arr 4 [cO xr]]∧Sv 194 [(1,.list eb 1 (bC b)),(2,.list ed 1 (iC ds)),(3,.list false 1 (iC ls)),(4,.int .i64 which),(5,.ptr 0 1 0 0),(64,.int .i64 ((z8 xr.keys).length:Nat)),(65,.int .i64 k)] ρ,xr.keys.length,[],fun i ρ H1=>i=0∧H1=[.arr 4 [cO xr]]∧Sv 194 [(1,.list eb 1 (bC b)),(2,.list ed 1 (iC ds)),(3,.list false 1 (iC ls)),(4,.int .i64 which),(5,.ptr 0 1 0 0)] ρ,?_,?_,?_⟩
 ·exact⟨0,by omega,rfl,Sv.intro rfl ⟨rfl,rfl,rfl,rfl,rfl,rfl,rfl,trivial⟩⟩
 ·rintro m ρ H1 ⟨k,hk,rfl,d,rfl⟩
  repeat'((conv=>whnf);first|((first|apply aC.use|apply aC.draw);exact hkn;rintro r rfl)|refine aI ?_|refine oA ?_|refine oM fun x hx hm=>?_|((first|apply aK|apply aL|apply aM|apply aF|apply aE)<;>intro h<;>(try simp at h)<;>(try(exfalso;omega))))
  try any_goals((conv=>whnf);done)
  any_goals((conv=>whnf);first|(refine⟨m-1,by omega,Gp.cut (H:=[.arr 4 [cO xr]]) rfl ⟨rfl,trivial⟩ rfl rfl ?_ fun ρ1 h=>⟨k+1,by omega,rfl,h⟩⟩;exact⟨rfl,rfl,rfl,rfl,rfl,rfl,aN (dT (by omega)),trivial⟩)|(refine Gp.cut (H:=[.arr 4 [cO xr]]) rfl ⟨rfl,trivial⟩ rfl rfl ?_ fun ρ1 h=>⟨rfl,rfl,h⟩;exact⟨rfl,rfl,rfl,rfl,rfl,trivial⟩)|fail)
 ·rintro i ρ1 H1 ⟨rfl,rfl,dd,rfl⟩
  conv=>whnf
  refine⟨fun m ρ H1=>∃k:Nat,k+m=xr.cols.length∧H1=[.arr 4 [cO xr]]∧Sv 194 [(1,.list eb 1 (bC b)),(2,.list ed 1 (iC ds)),(3,.list false 1 (iC ls)),(4,.int .i64 which),(5,.ptr 0 1 0 0),(79,.int .i64 ((cC xr.cols).length:Nat)),(80,.int .i64 k)] ρ,xr.cols.length,[],fun i ρ H1=>i=2∧H1=[.arr 4 [cO xr]]∧Sv 194 [(1,.list eb 1 (bC b)),(2,.list ed 1 (iC ds)),(3,.list false 1 (iC ls)),(4,.int .i64 which),(5,.ptr 0 1 0 0)] ρ,?_,?_,?_⟩
  ·exact⟨0,by omega,rfl,Sv.intro rfl ⟨rfl,rfl,rfl,rfl,rfl,rfl,rfl,trivial⟩⟩
  ·rintro m ρ H1 ⟨k,hk,rfl,d,rfl⟩
   repeat'((conv=>whnf);first|((first|apply aC.use|apply aC.draw);exact hkn;rintro r rfl)|refine aI ?_|refine oA ?_|refine oM fun x hx hm=>?_|((first|apply aK|apply aL|apply aM|apply aF|apply aE)<;>intro h<;>(try simp at h)<;>(try(exfalso;omega))))
   try any_goals((conv=>whnf);done)
   any_goals((conv=>whnf);first|(refine⟨m-1,by omega,Gp.cut (H:=[.arr 4 [cO xr]]) rfl ⟨rfl,trivial⟩ rfl rfl ?_ fun ρ1 h=>⟨k+1,by omega,rfl,h⟩⟩;exact⟨rfl,rfl,rfl,rfl,rfl,rfl,aN (dT (by omega)),trivial⟩)|(refine Gp.cut (H:=[.arr 4 [cO xr]]) rfl ⟨rfl,trivial⟩ rfl rfl ?_ fun ρ1 h=>⟨rfl,rfl,h⟩;exact⟨rfl,rfl,rfl,rfl,rfl,trivial⟩)|fail)
  ·rintro i ρ1 H1 ⟨rfl,rfl,dd,rfl⟩
   repeat'((conv=>whnf);first|((first|apply aC.use|apply aC.draw);exact hP1;rintro r rfl)|((first|apply aC.use|apply aC.draw);exact hP2;rintro r rfl)|((first|apply aC.use|apply aC.draw);exact hU1;rintro r rfl)|((first|apply aC.use|apply aC.draw);exact hU2;rintro r rfl)|((first|apply aC.use|apply aC.draw);exact hS1;rintro r rfl)|((first|apply aC.use|apply aC.draw);exact qN y hyf hyk hyks hyc;rintro r rfl)|refine aI ?_|refine oA ?_|refine oM fun x hx hm=>?_|((first|apply aK|apply aL|apply aM|apply aF|apply aE)<;>intro h<;>(try simp at h)<;>(try(exfalso;omega))))
   try any_goals((conv=>whnf);done)
   obtain⟨ss,ms,N,C,ns,cs,hok,hdf⟩:=hdef (by omega)
   rcases hdf with⟨rfl,hd⟩|hd
   ·(conv=>whnf);refine bI.of (hd _) ?_
    (conv=>whnf);refine cH.useN 8 [3] (tL (ms:=[]) hok) RY (by simp) rfl ⟨⟨_,rfl,.same rfl⟩,trivial⟩ ⟨w7 rfl rfl hok.pn hok.pc,trivial⟩ (fun r hr=>?_)
    obtain⟨L,e,rfl,hL,hLs,hz⟩:=hr
    rcases Decidable.em (L=[])with rfl|hLn
    ·repeat'((conv=>whnf);first|((first|apply aC.use|apply aC.draw);exact hkn;rintro r rfl)|refine aI ?_|refine oA ?_|refine oM fun x hx hm=>?_|((first|apply aK|apply aL|apply aM|apply aF|apply aE)<;>intro h<;>(try simp at h)<;>(try(exfalso;omega))))
     try any_goals((conv=>whnf);done)
    ·have hLp:1≤L.length:=List.length_pos_iff.2 hLn
     have hml:=aZ bS L
     have hi0:0≤which % ((mC bS L).length:Nat)∧which % ((mC bS L).length:Nat)<((mC bS L).length:Nat):=⟨Int.emod_nonneg _ (by omega),Int.emod_lt_of_pos _ (by omega)⟩
     obtain⟨r0,hr0⟩:∃r,L[(which % ((mC bS L).length:Nat)).toNat]?=some r:=⟨_,List.getElem?_eq_getElem (by omega)⟩
     have hrm:(mC bS L)[(which % ((mC bS L).length:Nat)).toNat]?=some (bS r0):=oZ hr0
     obtain⟨hrf,hrz⟩:=hLs r0 (List.mem_of_getElem? hr0)
     obtain⟨rows,ti,hbag,hT⟩:=B3 r0.cols (by intro h;have:=hrz.1;rw[h]at this;simp at this) (by have:=hrz.2.1;omega) ls hls 8 (by decide)
     have hXf:=JV hrf hbag
     have hwk:=O6 r0 rows
     obtain⟨a2,pl2,pe2,hp2,hpw2,hpc2,hpb2,hpk2⟩:=vE (CP r0 rows)
     have hQ1:aC pr 26 [.agg [.str r0.name,.list r0.ec 3 (cC r0.cols),U7 r0.kx,.list false 2 (eC rows)]] (fun r=>r=.tuple [a2,.int .i64 pe2]):=by rw[←hp2];exact(aC.of (sV _ hXf)).args (.cons hwk .nil)
     have hQ2:aC pr 27 [.agg [.str r0.name,.list r0.ec 3 (cC r0.cols),U7 r0.kx,.list false 2 (eC rows)]] (fun r=>r=.tuple [a2,.int .i64 pe2]):=by rw[←hp2];exact(aC.of (qJ _ hXf)).args (.cons hwk .nil)
     have hS2:aC pr 30 [a2,a2] (fun r=>r=.bool true):=by
      have:=(aC.of (mY false false pl2 pl2 hpb2 hpb2)).args (.cons hpw2 (.cons hpw2 .nil))
      rwa [beq_self_eq_true]at this
     have hU3:pe2=0→aC pr 28 [a2] (fun r=>r=.tuple [.agg (cO (CP r0 rows)),.int .i64 0]):=fun h0=>by
      obtain⟨q1,q2,q3,q4⟩:=hpk2 h0
      have:=aC.of (rH pl2 hpb2 (by omega))
      rw[q2,KU q1 (by rw[←q2];exact q3),←tM,←q2,←q4]at this
      exact this
     have hR3:pe2=0→aC pr 31 [.agg (cO (CP r0 rows)),.agg [.str r0.name,.list r0.ec 3 (cC r0.cols),U7 r0.kx,.list false 2 (eC rows)]] (fun r=>r=.bool true):=fun h0 =>
      (qN _ hXf (AI (hpk2 h0).1).1 (AI (hpk2 h0).1).2 (tM _ _)).args (.cons (.refl _) (.cons hwk .nil))
     repeat'(first|refine aT (hrm) ?_|((conv=>whnf);first|((first|apply aC.use|apply aC.draw);exact aC.of (uQ which ((mC bS L).length:Nat) (by omega) (by omega));rintro r rfl)|refine And.intro hi0 ?_|refine And.intro hi0.1 ?_|refine bI.of ((hT _ 5 rfl).weakD (.cons (.lst rfl (cI _)) (.cons (.refl _) (.cons (.refl _) .nil)))) ?_|((first|apply aC.use|apply aC.draw);exact hQ1;rintro r rfl)|((first|apply aC.use|apply aC.draw);exact hQ2;rintro r rfl)|((first|apply aC.use|apply aC.draw);exact hS2;rintro r rfl)|((first|apply aC.use|apply aC.draw);exact hkn;rintro r rfl)|((first|apply aC.use|apply aC.draw);exact hU3 (by assumption);rintro r rfl)|((first|apply aC.use|apply aC.draw);exact hR3 (by assumption);rintro r rfl)|refine b8 ((bX _)) ?_|refine aI ?_|refine oA ?_|refine oM fun x hx hm=>?_|((first|apply aK|apply aL|apply aM|apply aF|apply aE)<;>intro h<;>(try simp at h)<;>(try(exfalso;omega)))))
     try any_goals((conv=>whnf);done)
   ·(conv=>whnf);refine bI.of (hd _) ?_
    (conv=>whnf);refine cH.use [3] (tL hok) (by simp) rfl ⟨⟨_,rfl,.same (aV eD _)⟩,trivial⟩ ⟨w7 rfl rfl hok.pn hok.pc,trivial⟩ (fun r hr=>?_)
    obtain⟨L,e,rfl,hL,hLs,hz⟩:=hr
    rcases Decidable.em (L=[])with rfl|hLn
    ·repeat'((conv=>whnf);first|((first|apply aC.use|apply aC.draw);exact hkn;rintro r rfl)|refine aI ?_|refine oA ?_|refine oM fun x hx hm=>?_|((first|apply aK|apply aL|apply aM|apply aF|apply aE)<;>intro h<;>(try simp at h)<;>(try(exfalso;omega))))
     try any_goals((conv=>whnf);done)
    ·have hLp:1≤L.length:=List.length_pos_iff.2 hLn
     have hml:=aZ bS L
     have hi0:0≤which % ((mC bS L).length:Nat)∧which % ((mC bS L).length:Nat)<((mC bS L).length:Nat):=⟨Int.emod_nonneg _ (by omega),Int.emod_lt_of_pos _ (by omega)⟩
     obtain⟨r0,hr0⟩:∃r,L[(which % ((mC bS L).length:Nat)).toNat]?=some r:=⟨_,List.getElem?_eq_getElem (by omega)⟩
     have hrm:(mC bS L)[(which % ((mC bS L).length:Nat)).toNat]?=some (bS r0):=oZ hr0
     obtain⟨hrf,hrz⟩:=hLs r0 (List.mem_of_getElem? hr0)
     obtain⟨rows,ti,hbag,hT⟩:=B3 r0.cols (by intro h;have:=hrz.1;rw[h]at this;simp at this) (by have:=hrz.2.1;omega) ls hls 8 (by decide)
     have hXf:=JV hrf hbag
     have hwk:=O6 r0 rows
     obtain⟨a2,pl2,pe2,hp2,hpw2,hpc2,hpb2,hpk2⟩:=vE (CP r0 rows)
     have hQ1:aC pr 26 [.agg [.str r0.name,.list r0.ec 3 (cC r0.cols),U7 r0.kx,.list false 2 (eC rows)]] (fun r=>r=.tuple [a2,.int .i64 pe2]):=by rw[←hp2];exact(aC.of (sV _ hXf)).args (.cons hwk .nil)
     have hQ2:aC pr 27 [.agg [.str r0.name,.list r0.ec 3 (cC r0.cols),U7 r0.kx,.list false 2 (eC rows)]] (fun r=>r=.tuple [a2,.int .i64 pe2]):=by rw[←hp2];exact(aC.of (qJ _ hXf)).args (.cons hwk .nil)
     have hS2:aC pr 30 [a2,a2] (fun r=>r=.bool true):=by
      have:=(aC.of (mY false false pl2 pl2 hpb2 hpb2)).args (.cons hpw2 (.cons hpw2 .nil))
      rwa [beq_self_eq_true]at this
     have hU3:pe2=0→aC pr 28 [a2] (fun r=>r=.tuple [.agg (cO (CP r0 rows)),.int .i64 0]):=fun h0=>by
      obtain⟨q1,q2,q3,q4⟩:=hpk2 h0
      have:=aC.of (rH pl2 hpb2 (by omega))
      rw[q2,KU q1 (by rw[←q2];exact q3),←tM,←q2,←q4]at this
      exact this
     have hR3:pe2=0→aC pr 31 [.agg (cO (CP r0 rows)),.agg [.str r0.name,.list r0.ec 3 (cC r0.cols),U7 r0.kx,.list false 2 (eC rows)]] (fun r=>r=.bool true):=fun h0 =>
      (qN _ hXf (AI (hpk2 h0).1).1 (AI (hpk2 h0).1).2 (tM _ _)).args (.cons (.refl _) (.cons hwk .nil))
     repeat'(first|refine aT (hrm) ?_|((conv=>whnf);first|((first|apply aC.use|apply aC.draw);exact aC.of (uQ which ((mC bS L).length:Nat) (by omega) (by omega));rintro r rfl)|refine And.intro hi0 ?_|refine And.intro hi0.1 ?_|refine bI.of ((hT _ 5 rfl).weakD (.cons (.lst rfl (cI _)) (.cons (.refl _) (.cons (.refl _) .nil)))) ?_|((first|apply aC.use|apply aC.draw);exact hQ1;rintro r rfl)|((first|apply aC.use|apply aC.draw);exact hQ2;rintro r rfl)|((first|apply aC.use|apply aC.draw);exact hS2;rintro r rfl)|((first|apply aC.use|apply aC.draw);exact hkn;rintro r rfl)|((first|apply aC.use|apply aC.draw);exact hU3 (by assumption);rintro r rfl)|((first|apply aC.use|apply aC.draw);exact hR3 (by assumption);rintro r rfl)|refine b8 ((bX _)) ?_|refine aI ?_|refine oA ?_|refine oM fun x hx hm=>?_|((first|apply aK|apply aL|apply aM|apply aF|apply aE)<;>intro h<;>(try simp at h)<;>(try(exfalso;omega)))))
     try any_goals((conv=>whnf);done)
end Go.AW
namespace Go.AW
variable [dE]
attribute [local irreducible] a7
theorem IB{e:List a6}(h:jY [.slice [.str]] e):∃k:Bool×List ByteArray,e=[.list k.1 1 (sC k.2)]∧True:=by
 match e,h with
 |[a],h =>
  obtain⟨h1,_⟩:=h
  obtain⟨es,rfl,hl,h3⟩:=lA h1
  obtain⟨m,rfl,hm⟩:=jM (g:=fun s=>[a6.str s]) es fun e he=>IC (h3 e he)
  exact⟨(false,m),rfl,trivial⟩
theorem OL{a:a6}(h:yM (true,[.str,.slice [.str,.int .i64,.bool],.slice [.slice [.str]],.slice [.slice [.int .i64,.int .i64,.str],.int .i64]]) a):∃x:pK,a=.agg (cO x):=by
 obtain⟨asv,rfl,hc⟩:=OJ h
 match asv,hc with
 |[a,b,c,d],hc =>
  obtain⟨h1,h2,h3,h4,_⟩:=hc
  obtain⟨es,rfl,hl,h2⟩:=lA h2
  obtain⟨m2,rfl,hm2⟩:=jM (g:=fY) es fun e he=>I8 (h2 e he)
  obtain⟨es,rfl,hl,h3⟩:=lA h3
  obtain⟨m3,rfl,hm3⟩:=jM (g:=fun k:Bool×List ByteArray=>[a6.list k.1 1 (sC k.2)]) es fun e he=>IB (h3 e he)
  obtain⟨es,rfl,hl,h4⟩:=lA h4
  obtain⟨m4,rfl,hm4⟩:=jM (g:=j4) es fun e he=>I9 (h4 e he)
  cases h1
  exact⟨⟨_,false,m2,false,m3,false,m4⟩,rfl⟩
end Go.AW
namespace Go.AW
open Go.Proofs Go.Shelf Go.RowKit Go.Maps Go.Sort
variable [dE]
variable {P:Program}
theorem GD{a:a6}{vs:Array Value}(hl:[a].length=vs.size):∃v,vs = #[v]:=by
 obtain⟨m⟩:=vs
 match m,hl with
 |[v],_=>exact⟨v,rfl⟩
def QH(C:Nat→Nat)(w W':World)(x:Nat):Nat:=if x<w.heap.size then C x else match W'.heap[x]? with
 |some (.cells cs _ _)=>cs.size
 |_=>0
theorem VM{C:Nat→Nat}{w W':World}(hw:w.heap.size≤W'.heap.size)(b:Nat)(hC:∀b,0<C b→b<w.heap.size)(h:0<QH C w W' b):b<W'.heap.size:=by
 unfold QH at h
 by_cases hb:b<w.heap.size
 ·omega
 ·rw[if_neg hb]at h
  by_cases hb2:b<W'.heap.size
  ·exact hb2
  ·rw[Array.getElem?_eq_none (by omega)]at h;simp at h
theorem T9(hup:¬dE.up){C:Nat→Nat}{τ:Nat→Option Go.AW.Loc}{H:List aB}{w W':World}(hw:WF C τ H w)(hB:Below w.heap.size w W'):St w (cX τ H w) (QH C w W') τ H W'∧cV C τ H w (QH C w W') τ H W':=by
 have s:cV C τ H w (QH C w W') τ H W':=by
  refine⟨fun b=>?_,fun b i hi=>?_,fun id o h=>⟨o,h,o.after_refl _⟩,hB.size,fun b hb=>by rw[QH,if_pos hb]⟩
  ·by_cases hb:b<w.heap.size
   ·rw[QH,if_pos hb];exact Nat.le_refl _
   ·have:C b=0:=by
     rcases Nat.eq_zero_or_pos (C b)with h|h
     ·exact h
     ·exact absurd (hw.lt b h) hb
    omega
  ·exact hB.cell (p:=⟨b,i,none⟩) (hw.lt b (by omega))
 refine⟨⟨⟨hw.ok,hw.virt,fun id o l h1 h2=>(hw.objs id o l h1 h2).mono s (hB.block _ (hw.locLt (List.getElem?_eq_some_iff.1 h1).1 h2)),fun id l h1 h2=>?_,hw.inj,fun b hb=>VM hB.size b hw.lt hb⟩,⟨hB.os,hB.tape,hB.output,hB.size,fun b hb=>hB.block b hb.1,fun u=>absurd u hup⟩,fun b ho hp=>hp.2 ho,fun b hb=>hb.1⟩,s⟩
 rw[QH,if_pos (hw.locLt h1 h2)]
 exact hw.comm id l h1 h2
theorem I6{C:Nat→Nat}{τ:Nat→Option Go.AW.Loc}{H:List aB}{w:World}(hw:WF C τ H w){box:Nat}{m:a6}{v:Value}(hb:H[box]?=some (.arr 1 [[m]]))(hr:bV C w τ H (.ptr box 1 0 0) v):
  ∃B u,v=.pointer (some ⟨B,0,none⟩)∧w.cell? ⟨B,0,none⟩=some u∧B<w.heap.size∧bV C w τ H m u:=by
 cases hr with
 |rd h=>cases h
 |ptr _ _ _ _ a esz es ho hep h =>
  rw[hb]at ho
  cases ho
  obtain⟨l,ht,rfl⟩:=h rfl
  obtain⟨_,cells,elem,fz,h1,_,_,h4⟩:=hw.objs box _ l hb ht
  obtain⟨u,hu,hru⟩:=h4 0 0 [m] m rfl rfl
  refine⟨l.b,u,rfl,?_,hw.locLt (List.getElem?_eq_some_iff.1 hb).1 ht,hru⟩
  simp only[World.cell?,h1]
  exact hu
theorem K1{C:Nat→Nat}{w W':World}{e:TypeId}{v:Value}{ks:List ByteArray}(h:W'.ownsRow w.heap.size e 1 v ks.length (ks.map fun k=>Value.string k)):
  Rd (QH C w W') W' (.list false 1 (ks.map fun k=>[a6.str k])) v:=by
 rcases h.2 with⟨rfl,hn⟩|⟨g,cp,cur,rfl,hg,hgb,hncap,_,hcs,htake⟩
 ·have:ks=[]:=List.eq_nil_of_length_eq_zero hn
  subst this
  exact .list0 _ _ _ _ (by simp)
 ·have hC:QH C w W' g=cur.size:=by unfold QH;rw[if_neg (by omega),hgb]
  have hcell:∀i,i<ks.length→W'.cell? ⟨g,0+i*1+0,none⟩=some (.string (ks.getD i ⟨#[]⟩)):=fun i hi=>by
   simp only[World.cell?,hgb]
   have h1:=congrArg (fun l=>l[i]?) htake
   simp only[List.getElem?_take,Nat.mul_one,if_pos hi,List.getElem?_map,List.getElem?_eq_getElem hi,Option.map_some]at h1
   rw[show 0+i*1+0=i by omega,←Array.getElem?_toList,h1,List.getD_eq_getElem?_getD,List.getElem?_eq_getElem hi]
   rfl
  have:=Rd.list (C:=QH C w W') (w:=W') false 1 (ks.map fun k=>[a6.str k]) g 0 cp (fun i _=>.string (ks.getD i ⟨#[]⟩)) (by simp) (by rw[List.length_map];exact hncap) (fun e he=>by
   obtain⟨x,_,rfl⟩:=List.mem_map.1 he
   rfl) (by rw[List.length_map,hC,hcs];omega) (fun i j hi hj=>by
   obtain rfl:j=0:=by omega
   rw[List.length_map]at hi
   exact hcell i hi) (fun i j e d he hd=>by
   rw[List.getElem?_map]at he
   obtain⟨x,_,rfl⟩:=Option.map_eq_some_iff.1 he
   rcases j with _|j
   ·cases hd;rfl
   ·simp at hd) (fun i j e d he hd=>by
   rw[List.getElem?_map]at he
   obtain⟨x,hx,rfl⟩:=Option.map_eq_some_iff.1 he
   rcases j with _|j
   ·cases hd
    rw[List.getD_eq_getElem?_getD,hx]
    exact .str _
   ·simp at hd)
  rwa [List.length_map]at this
theorem M7{ks:List ByteArray}(h:ks.Pairwise fun a b=>YY a b=true):(ks.map fun k=>k.data.toList).mergeSort (fun x y=>decide (x≤y))=ks.map fun k=>k.data.toList:=by
 refine List.mergeSort_of_pairwise (List.pairwise_map.2 (h.imp fun{a b} hab=>?_))
 unfold YY at hab
 rw[bytesLess_eq]at hab
 exact decide_eq_true (List.le_of_lt (of_decide_eq_true hab))
def YS:Value→List UInt8
 |.string s=>s.data.toList
 |_=>[]
def OI(_:Value):Option (DataW Unit×List MemPlace):=some (.nil,[])
section
variable {ρk ρs ρm:Go.Shelf.Ren}
theorem KC(hup:¬dE.up)(Lk:SlLaysZ.n10 P ρk)(Ls:SlLaysZ.n6 P ρs)(Lm:SlLaysM.n6 P ρm)(h9:ρs.f 9=ρm.f 6)
  (e9:∀args w,(callFunc (ρs.f 9) args).run P w=.ok (.enter (ρs.f 9) args) w) (e10:∀args w,(callFunc (ρk.f 10) args).run P w=.ok (.enter (ρk.f 10) args) w)
  (e6:∀args w,(callFunc (ρs.f 6) args).run P w=.ok (.enter (ρs.f 6) args) w):oP P (ρs.f 6) (ρk.f 10):=by
 have hs:∀m,AnyZ.SortsIn P ρs Fence.wide m:=fun m=>by
  unfold AnyZ.SortsIn
  rw[h9]
  exact⟨fun blk off cap ss W hH hblk hsz=>callsIn_wide.2 (AnyM.slices_Sort_string Lm blk off cap ss W hH hblk hsz),fun p cap W=>callsIn_wide.2 (AnyM.slices_Sort_string_none Lm p cap W)⟩
 have hfn:∀{C:Nat→Nat}{w:World}{τ:Nat→Option Go.AW.Loc}{H:List aB}{p:a6}{v:Value},bV C w τ H (.fn (ρk.f 10) [p]) v→∃u,v=.func (.func (ρk.f 10)) #[] #[u]∧bV C w τ H p u:=fun{C w τ H p v} h=>by
  cases h with
  |rd h=>cases h
  |fn _ _ vs hl h =>
   obtain⟨u,rfl⟩:=GD hl
   exact⟨u,rfl,h 0 _ _ rfl rfl⟩
 constructor
 ·intro H box id kvs ks hbox hid hks hsrt hn hsz C τ w vs hw hl hr
  obtain⟨v,rfl⟩:=GD hl
  obtain⟨u,rfl,hu⟩:=hfn (hr 0 _ v rfl rfl)
  obtain⟨B,mv,rfl,hc,hB,hmv⟩:=I6 hw hbox hu
  obtain⟨l,ht,rfl⟩:=qB hmv
  obtain⟨kvs0,es,clock,hp,hb,hsize,hel,hnd,hbn,hlt⟩:=hw.objs id _ l hid ht
  have hkeys:es.toList.map (·.key)=kvs0.map fun kv=>kv.1.lit:=by
   apply List.ext_getElem?
   intro i
   rw[List.getElem?_map,List.getElem?_map]
   by_cases hi:i<es.size
   ·have h1:es[i]?=some es[i]:=Array.getElem?_eq_getElem hi
    have h2:kvs0[i]?=some (kvs0[i]'(by omega)):=List.getElem?_eq_getElem (by omega)
    rw[Array.getElem?_toList,h1,h2]
    simp only[Option.map_some]
    rw[(hel i _ _ h1 h2).1]
   ·rw[Array.getElem?_toList,Array.getElem?_eq_none (by omega),List.getElem?_eq_none (by omega)];rfl
  have hpk:(es.toList.map (·.key)).Perm (ks.map Value.string):=by
   rw[hkeys]
   have h1:=(hp.map (fun kv:a6×a6=>kv.1)).trans hks
   have h2:=h1.map a6.lit
   rw[List.map_map,List.map_map]at h2
   exact h2
  have hreads:∀x∈es.toList,∃k∈ks,x.key=.string k:=fun x hx=>by
   have:=hpk.mem_iff.1 (List.mem_map.2 ⟨x,hx,rfl⟩)
   obtain⟨k,hk,e⟩:=List.mem_map.1 this
   exact⟨k,hk,e.symm⟩
  have hrd:∀x∈es.toList,Go.WideElems.rd P (ρk.t 26) OI x=some (.string (YS x.key),.nil):=fun x hx=>by
   obtain⟨k,hk,e⟩:=hreads x hx
   unfold Go.WideElems.rd OI
   rw[e,Go.WideMaps.keyOf_string_mk Lk.t26 (Nat.le_trans (hsz k hk) (by decide))]
   rfl
  have hmap:es.toList.map (Go.WideElems.rg P (ρk.t 26) OI)=es.toList.map fun x=>((.string (YS x.key):Lit),(.nil:DataW Unit)):=List.map_congr_left fun x hx=>by
   unfold Go.WideElems.rg
   rw[hrd x hx];rfl
  have hsz2:es.size=ks.length:=by
   have:=hpk.length_eq
   rw[List.length_map,List.length_map,Array.length_toList]at this
   exact this
  have hkn:(es.toList.map (·.key)).Nodup:=by rw[hkeys];exact hnd
  obtain⟨D0,hD0⟩:∃D0:DataW Unit,D0=.map ((es.toList.map (Go.WideElems.rg P (ρk.t 26) OI)).foldr DataW.insert []):=⟨_,rfl⟩
  have hown:w.ownsMap P (ρk.t 26) OI l.b es.size D0:=⟨es,clock,hb,⟨by rw[hsz2];exact Nat.le_trans hn (by decide),⟨hlt,hbn,hkn⟩,fun x hx=>⟨_,hrd x hx⟩⟩,Nat.le_refl _,hD0⟩
  have hsp:=Go.WideShapes.sorted_perm (es.toList.map (Go.WideElems.rg (H:=Unit) P (ρk.t 26) OI))
  have hperm:(strKeys D0).Perm (ks.map fun k=>k.data.toList):=by
   rw[hD0]
   refine(hsp.map _).trans ?_
   rw[hmap,List.map_map]
   have h2:=hpk.map YS
   rw[List.map_map,List.map_map]at h2
   exact h2
  have hms:Maps.size D0=ks.length:=by
   rw[hD0,Maps.size_eq,hsp.length_eq,List.length_map,Array.length_toList,hsz2]
  have hseq:=AnyZ.keys_gives Lk Fence.wide 2 trivial rfl (by omega) B l.b es.size D0 w hB hc hown
  have cS:=AnyZ.sorted_in Ls Fence.wide 5 trivial trivial trivial trivial rfl (by omega) (hs _) e9 (ρk.f 10) #[.pointer (some ⟨B,0,none⟩)] trivial e10 _ (Maps.size D0) (by rw[hms];exact Nat.le_trans hn (by decide)) (by rw[hms];omega) w hseq
  unfold eU
  rw[e6]
  refine Calls.mono (callsIn_wide.1 cS) ?_
  rintro e w' ⟨v,ss,rfl,hS,hrow,hnil,hbel⟩
  have hss:ss.mergeSort (fun x y=>decide (x≤y))=ks.map fun k=>k.data.toList:=(mergeSort_of_perm (hS.trans hperm)).trans (M7 hsrt)
  have hsl:ss.length=ks.length:=by rw[(hS.trans hperm).length_eq,List.length_map]
  rw[hss,hsl,List.map_map]at hrow
  have henc:(ks.map ((encStr) ∘ fun k=>k.data.toList))=ks.map Value.string:=List.map_congr_left fun k _=>rfl
  obtain⟨h1,h2⟩:=T9 hup hw hbel
  exact⟨_,_,_,_,_,rfl,⟨rfl,rfl⟩,.rd (K1 (by rw[←henc];exact hrow)),h1,h2⟩
 ·intro H box hbox C τ w vs hw hl hr
  obtain⟨v,rfl⟩:=GD hl
  obtain⟨u,rfl,hu⟩:=hfn (hr 0 _ v rfl rfl)
  obtain⟨B,mv,rfl,hc,hB,hmv⟩:=I6 hw hbox hu
  obtain rfl:=p8 hmv
  have hseq:SeqGives Fence.wide 2 P (ρk.f 10) #[.pointer (some ⟨B,0,none⟩)] encStr (fun ss:List (List UInt8)=>ss=[]) 0 w:=AnyZ.keys_gives_nil Lk Fence.wide _ trivial rfl B w hB hc
  have cS:=AnyZ.sorted_in Ls Fence.wide 5 trivial trivial trivial trivial rfl (by omega) (hs _) e9 (ρk.f 10) #[.pointer (some ⟨B,0,none⟩)] trivial e10 _ 0 (Nat.zero_le _) (by omega) w hseq
  unfold eU
  rw[e6]
  refine Calls.mono (callsIn_wide.1 cS) ?_
  rintro e w' ⟨v,ss,rfl,rfl,hrow,hnil,hbel⟩
  obtain⟨h1,h2⟩:=T9 hup hw hbel
  exact⟨_,_,_,_,_,rfl,⟨rfl,rfl⟩,.rd (K1 (ks:=[]) (by simpa using hrow)),h1,h2⟩
end
end Go.AW
