/-
  An abstract machine over the model, the code of functions on it, and their contracts: what the claim needs.
  No condition: definitions, plain laws, contracts over any program that has this code.
-/
import Derived.Test.YtbjodpkinpnebaaGreatY4
set_option linter.all false
namespace Go.AW
variable [dK]
attribute [local irreducible] a7
set_option maxRecDepth 20000 in
theorem zF(g:FuncId)(caps:List a6)(p:ByteArray→Bool)(H:List aB)(hg:∀c:ByteArray,a7 pr g ([.str c]++caps) H (fun r H'=>r=.bool (p c)∧H'=H))
  (ex:Bool) (cs:List ByteArray) (hl:cs.length≤1000000) :
  a7 pr 217 [.list ex 1 (sC cs),.fn g caps] H (fun r H'=>r=.int .i64 (fS p cs 0)∧H'=H):=by
 refine aA k217.has ?_
 conv=>whnf
 refine⟨fun m ρ H1=>∃k:Nat,k+m=cs.length∧fS p (cs.drop k) k=fS p cs 0∧H1=H ∧
  Sv 19 [(0,.list ex 1 (sC cs)),(1,.fn g caps),(7,.int .i64 cs.length),(8,.int .i64 k)] ρ,cs.length,[],?_,?_⟩
 ·exact⟨0,by omega,rfl,rfl,Sv.intro rfl ⟨rfl,rfl,aN (by rw[aP]),rfl,trivial⟩⟩
 rintro m ρ H1 ⟨k,hk,hr,rfl,d,rfl⟩
 (conv=>whnf);refine aE (fun hlt=>?_) (fun hlt=>?_)
 ·simp at hlt
  obtain⟨c,hc,hd,_⟩:=aY hlt
  rw[hd]at hr
  (conv=>whnf);refine And.intro (by omega) ?_
  (conv=>whnf);refine b8 (mI hc) ?_
  (conv=>whnf);refine a7.use (hg c) ?_
  (conv=>whnf);refine aE (fun hp=>?_) (fun hp=>?_)
  ·conv=>whnf
   refine⟨aN ?_,rfl⟩
   rw[←hr,fS,if_pos (show p c=true from hp)]
  ·conv=>whnf
   refine⟨m-1,by omega,Gp.keep rfl ?_ fun ρ1 h=>⟨k+1,by omega,?_,rfl,h⟩⟩
   ·exact⟨rfl,rfl,rfl,aN (aW ((k:Int)+1) (by omega) (by omega)),trivial⟩
   ·rw[←hr,fS,if_neg (by rw[show p c=false from hp];simp)];rfl
 ·simp at hlt
  conv=>whnf
  rw[List.drop_eq_nil_of_le hlt]at hr
  exact⟨aN hr,rfl⟩
theorem uG(g:FuncId)(caps:List a6)(p:ByteArray→Bool)(H:List aB)(hg:∀c:ByteArray,a7 pr g ([.str c]++caps) H (fun r H'=>r=.bool (p c)∧H'=H))
  (ex:Bool) (cs:List ByteArray) (hl:cs.length≤1000000) :
  a7 pr 164 [.list ex 1 (sC cs),.fn g caps] H (fun r H'=>r=.bool (cs.any p)∧H'=H):=by
 refine aA k164.has ?_
 (conv=>whnf);refine a7.use (zF g caps p H hg ex cs hl) ?_
 conv=>whnf
 refine⟨?_,rfl⟩
 have h:=t7 p cs 0 (Int.le_refl _)
 congr 1
 rw[Bool.eq_iff_iff,←h];simp
def zM(l:List (Bool×List ByteArray)):List (List a6):=l.map fun k=>[.list k.1 1 (sC k.2)]
theorem iN(l:List (Bool×List ByteArray)):(zM l).length=l.length:=by simp[zM]
theorem pW{l:List (Bool×List ByteArray)}{k:Nat}{x:Bool×List ByteArray}(h:l[k]?=some x):(zM l)[k]?=some [.list x.1 1 (sC x.2)]:=by rw[zM,List.getElem?_map,h];rfl
def k4(k:List ByteArray):Int:=if 12<k.length then 2 else if(k.any fun s=>!eF s)then 4 else 0
def lN:List (Bool×List ByteArray)→Int
 |[]=>0
 |k::r=>if k4 k.2=0 then lN r else k4 k.2
def jQ(l:List (Bool×List ByteArray)):Int:=if 12<l.length then 2 else lN l
theorem zK(s:ByteArray)(H:List aB):
  a7 pr 165 ([.str s]++[]) H (fun r H'=>r=.bool (!eF s)∧H'=H):=by
 refine a7.pure rfl (aA k165.has ?_)
 (conv=>whnf);refine a7.use (eI s _) ?_
 conv=>whnf
 exact iB rfl
set_option maxRecDepth 20000 in
theorem AZ(ex:Bool)(l:List (Bool×List ByteArray))(H:List aB):
  a7 pr 117 [.list ex 1 (zM l)] H (fun r H'=>r=.int .i64 (jQ l)∧H'=H):=by
 refine a7.pure rfl (aA k117.has ?_)
 have hn:=iN l
 (conv=>whnf);refine aE (fun h0=>?_) (fun h0=>?_)
 ·rw[hn]at h0
  simp at h0
  conv=>whnf
  unfold jQ
  rw[if_pos (by omega)]
  exact cZ rfl
 rw[hn]at h0
 simp at h0
 conv=>whnf
 refine⟨fun m ρ H1=>∃k:Nat,k+m=l.length∧H1=[]∧lN (l.drop k)=lN l∧Sv 20 [(8,.list ex 1 (zM l)),(9,.int .i64 l.length),(10,.int .i64 k)] ρ,l.length,[],?_,?_⟩
 ·exact⟨0,by omega,rfl,rfl,Sv.intro rfl ⟨rfl,aN (by rw[hn]),rfl,trivial⟩⟩
 rintro m ρ H1 ⟨k,hk,rfl,hd,d,rfl⟩
 (conv=>whnf);refine aE (fun hlt=>?_) (fun hlt=>?_)
 ·simp at hlt
  obtain⟨x,hx,r7,_⟩:=aY hlt
  (conv=>whnf);refine And.intro (by omega) ?_
  (conv=>whnf);refine b8 (pW hx) ?_
  rw[r7,lN]at hd
  have hsl:=aP x.2
  (conv=>whnf);refine aE (fun h12=>?_) (fun h12=>?_)
  ·rw[hsl]at h12
   simp at h12
   conv=>whnf
   have:k4 x.2=2:=by unfold k4;rw[if_pos (by omega)]
   rw[this,if_neg (by decide)]at hd
   unfold jQ
   rw[if_neg (by omega),←hd]
   exact cZ rfl
  rw[hsl]at h12
  simp at h12
  (conv=>whnf);refine a7.use (uG 165 [] (fun s=>!eF s) [] (fun c=>zK c []) x.1 x.2 (by omega)) ?_
  (conv=>whnf);refine aE (fun hany=>?_) (fun hany=>?_)
  ·conv=>whnf
   have:k4 x.2=4:=by unfold k4;rw[if_neg (by omega),if_pos hany]
   rw[this,if_neg (by decide)]at hd
   unfold jQ
   rw[if_neg (by omega),←hd]
   exact cZ rfl
  ·conv=>whnf
   have:k4 x.2=0:=by unfold k4;rw[if_neg (by omega),if_neg (by simp at hany ⊢;exact hany)]
   rw[this,if_pos rfl]at hd
   refine⟨m-1,by omega,Gp.keep rfl ?_ fun ρ1 h=>⟨k+1,by omega,rfl,hd,h⟩⟩
   exact⟨rfl,rfl,aN (aW ((k:Int)+1) (by omega) (by omega)),trivial⟩
 ·simp at hlt
  conv=>whnf
  rw[List.drop_eq_nil_of_le hlt]at hd
  unfold jQ
  rw[if_neg (by omega),←hd]
  exact cZ rfl
structure r6 where
 name:ByteArray
 ec:Bool
 cols:List c8
 ek:Bool
 keys:List (Bool×List ByteArray)
 er:Bool
 rows:List cW
def dR(x:r6):List a6:=[.str x.name,.list x.ec 3 (cC x.cols),.list x.ek 1 (zM x.keys),.list x.er 2 (eC x.rows)]
def k6(cs:List c8):List cW→Int
 |[]=>0
 |e::r=>if kZ cs e.row=0 then k6 cs r else kZ cs e.row
def eX(x:r6):Int :=
 if mH x.name=false then 4 else if qY x.cols≠0 then qY x.cols else if jQ x.keys≠0 then jQ x.keys
 else if gI x.rows≠0 then gI x.rows else if GU x.rows=false then 8 else k6 x.cols x.rows
structure r6.Fit(x:r6):Prop where
 n:x.name.size≤1000000
 c:x.cols.length≤1000000
 l:x.rows.length≤1000000
 r:∀e∈x.rows,e.row.length≤1000000
set_option maxRecDepth 20000 in
theorem uJ(x:r6)(hx:x.Fit)(H:List aB):
  a7 pr 66 [.agg (dR x)] H (fun r H'=>r=.int .i64 (eX x)∧H'=H):=by
 refine a7.pure rfl (aA k66.has ?_)
 (conv=>whnf);refine a7.use (jW x.name hx.n _) ?_
 (conv=>whnf);refine aE (fun hq=>?_) (fun hq=>?_)
 ·conv=>whnf
  simp at hq
  unfold eX
  rw[if_pos hq]
  exact cZ rfl
 simp at hq
 (conv=>whnf);refine a7.use (sF x.ec x.cols hx.c _) ?_
 (conv=>whnf);refine aE (fun hv=>?_) (fun hv=>?_)
 ·conv=>whnf
  simp at hv
  unfold eX
  rw[if_neg (by simp[hq]),if_pos hv]
  exact cZ rfl
 simp at hv
 (conv=>whnf);refine a7.use (AZ x.ek x.keys _) ?_
 (conv=>whnf);refine aE (fun hk=>?_) (fun hk=>?_)
 ·conv=>whnf
  simp at hk
  unfold eX
  rw[if_neg (by simp[hq]),if_neg (by simp[hv]),if_pos hk]
  exact cZ rfl
 simp at hk
 (conv=>whnf);refine a7.use (nJ x.er x.rows _) ?_
 (conv=>whnf);refine aE (fun hb=>?_) (fun hb=>?_)
 ·conv=>whnf
  simp at hb
  unfold eX
  rw[if_neg (by simp[hq]),if_neg (by simp[hv]),if_neg (by simp[hk]),if_pos hb]
  exact cZ rfl
 simp at hb
 (conv=>whnf);refine a7.use (x5 x.er x.rows _) ?_
 (conv=>whnf);refine aE (fun ht=>?_) (fun ht=>?_)
 ·conv=>whnf
  simp at ht
  unfold eX
  rw[if_neg (by simp[hq]),if_neg (by simp[hv]),if_neg (by simp[hk]),if_neg (by simp[hb]),if_pos ht]
  exact cZ rfl
 simp at ht
 have hE:eX x=k6 x.cols x.rows:=by
  unfold eX
  rw[if_neg (by simp[hq]),if_neg (by simp[hv]),if_neg (by simp[hk]),if_neg (by simp[hb]),if_neg (by simp[ht])]
 rw[hE]
 have hn:=aR x.rows
 conv=>whnf
 refine⟨fun m ρ H1=>∃(k:Nat),k+m=x.rows.length∧H1[0]?=some (.arr 4 [dR x])∧k6 x.cols (x.rows.drop k)=k6 x.cols x.rows ∧
  Sv 51 [(1,.ptr 0 1 0 0),(36,.list x.er 2 (eC x.rows)),(37,.int .i64 x.rows.length),(38,.int .i64 k)] ρ,x.rows.length,[],?_,?_⟩
 ·exact⟨0,by omega,rfl,rfl,Sv.intro rfl ⟨rfl,rfl,aN (by rw[hn]),rfl,trivial⟩⟩
 rintro m ρ H1 ⟨k,hk2,h0,hd,d,rfl⟩
 have hxl:=hx.l
 (conv=>whnf);refine aE (fun hlt=>?_) (fun hlt=>?_)
 ·simp at hlt
  obtain⟨e,he,r7,hem⟩:=aY hlt
  rw[r7,k6]at hd
  (conv=>whnf);refine And.intro (by omega) ?_
  (conv=>whnf);refine b8 (fE he) ?_
  (conv=>whnf);refine pG ?_
  (conv=>whnf);refine b8 (gB _ _) ?_
  (conv=>whnf);refine eD (pD _ _ _) ?_
  (conv=>whnf);refine b8 (pK h0) ?_
  (conv=>whnf);refine b8 (gB _ _) ?_
  (conv=>whnf);refine a7.use (sE x.ec false x.cols e.row (hx.r e hem) _) ?_
  (conv=>whnf);refine aE (fun hc=>?_) (fun hc=>?_)
  ·conv=>whnf
   simp at hc
   rw[if_neg hc]at hd
   rw[←hd]
   exact cZ rfl
  ·conv=>whnf
   simp at hc
   rw[if_pos hc]at hd
   refine⟨m-1,by omega,Gp.keep rfl ?_ fun ρ1 h=>⟨k+1,by omega,pK h0,hd,h⟩⟩
   exact⟨rfl,rfl,rfl,aN (aW ((k:Int)+1) (by omega) (by omega)),trivial⟩
 ·simp at hlt
  conv=>whnf
  rw[List.drop_eq_nil_of_le hlt]at hd
  rw[←hd]
  exact cZ rfl
theorem GT(H:List aB)(s:ByteArray)(hs:s.size≤100000):
  a7 pr 67 [.nil,.str s] H (fun r H'=>r=FG H.length (eU s)∧H'=H++[bO (eU s)]):=by
 have hbl:=bT s
 have l0:0+H.length=H.length:=Nat.zero_add _
 have e:[[a6.int .u8 (u8 s.size)]]++bU s.data.toList=bC (eU s):=by rw[eJ];rfl
 have el:(bC (eU s)).length=s.size+1:=by rw[aD,eU];simp[hbl]
 refine aA k67.has ?_
 (conv=>whnf);refine And.intro (⟨by simp[aQ],by simp[aQ]⟩) ?_
 (conv=>whnf);refine pG ?_
 (conv=>whnf);refine b8 (gB _ _) ?_
 have ebl:(bU s.data.toList).length=s.size:=by rw[eJ];simpa[aD]using hbl
 (conv=>whnf);refine And.intro (⟨by simp[aQ,ebl];omega,by simp[aQ,ebl];omega,rfl,rfl⟩) ?_
 (conv=>whnf);refine eD (pD _ _ _) ?_
 conv=>whnf
 refine⟨?_,?_⟩
 ·show a6.sl _ _ _ _=_
  rw[l0]
  have:([[a6.int IntKind.u8 (IntKind.u8.wrap ↑s.size)]]++bU s.data.toList).length=(eU s).length:=by rw[show IntKind.u8.wrap (s.size:Int)=u8 s.size from rfl,e,aD]
  rw[this];rfl
 ·show _=H++[.arr 1 (bC (eU s))]
  rw[←e];rfl
theorem I7{x:r6}(h:eX x=0):mH x.name=true∧qY x.cols=0∧jQ x.keys=0∧gI x.rows=0∧GU x.rows=true∧k6 x.cols x.rows=0:=by
 unfold eX at h
 split at h
 ·cases h
 ·rename_i h1
  split at h
  ·rename_i h2;exact absurd h h2
  ·rename_i h2
   split at h
   ·rename_i h3;exact absurd h h3
   ·rename_i h3
    split at h
    ·rename_i h4;exact absurd h h4
    ·rename_i h4
     split at h
     ·cases h
     ·rename_i h5
      simp at h1 h2 h3 h4 h5
      exact⟨h1,h2,h3,h4,h5,h⟩
theorem DZ:∀{l:List (Bool×List ByteArray)},lN l=0→∀k∈l,k4 k.2=0
 |[],_,k,hk=>by cases hk
 |y::l,h,k,hk=>by
  unfold lN at h
  split at h
  ·rename_i h0
   rcases List.mem_cons.1 hk with rfl|hk
   ·exact h0
   ·exact DZ h k hk
  ·rename_i h0;exact absurd h h0
theorem R1{k:List ByteArray}(h:k4 k=0):k.length≤12∧∀s∈k,eF s=true:=by
 unfold k4 at h
 split at h
 ·cases h
 ·rename_i h1
  split at h
  ·cases h
  ·rename_i h2
   simp at h2
   exact⟨by omega,h2⟩
theorem I6{l:List (Bool×List ByteArray)}(h:jQ l=0):l.length≤12∧∀k∈l,k.2.length≤12∧∀s∈k.2,eF s=true:=by
 unfold jQ at h
 split at h
 ·cases h
 ·exact⟨by omega,fun k hk=>R1 (DZ h k hk)⟩
theorem KN(full:List c8):∀{l:List c8}{i:Int},uF full l i=0→∀c∈l,eF c.name=true∧1≤c.kind∧c.kind≤4
 |[],_,_,c,hc=>by cases hc
 |y::l,i,h,c,hc=>by
  unfold uF at h
  split at h
  ·cases h
  ·rename_i h1
   split at h
   ·cases h
   ·rename_i h2
    split at h
    ·cases h
    ·rcases List.mem_cons.1 hc with rfl|hc
     ·exact⟨by simpa using h1,by omega,by omega⟩
     ·exact KN full h c hc
theorem jJ{cs:List c8}(h:qY cs=0):1≤cs.length∧cs.length≤12∧∀c∈cs,eF c.name=true∧1≤c.kind∧c.kind≤4:=by
 unfold qY at h
 split at h
 ·cases h
 ·exact⟨by omega,by omega,KN cs h⟩
theorem uR{s:ByteArray}(h:eF s=true):s.size≤24:=by
 unfold eF at h
 simp at h
 exact h.1
structure r6.Ok(x:r6):Prop where
 nm:x.name.size≤49
 cl:x.cols.length≤12
 cs:∀c∈x.cols,c.name.size≤24∧1≤c.kind∧c.kind≤4
 kl:x.keys.length≤12
 ks:∀k∈x.keys,k.2.length≤12∧∀s∈k.2,s.size≤24
 rl:x.rows.length≤4096
 rs:∀e∈x.rows,e.row.length≤12∧0<e.cnt∧e.cnt≤65536∧∀v∈e.row,c7 v=true
theorem r6.ok_of{x:r6}(h:eX x=0):x.Ok:=by
 obtain⟨h1,h2,h3,h4,h5,h6⟩:=I7 h
 obtain⟨_,c2,c3⟩:=jJ h2
 obtain⟨k1,k2⟩:=I6 h3
 obtain⟨b1,b2,_⟩:=(vJ _).1 h4
 refine⟨MD h1,c2,fun c hc=>⟨uR (c3 c hc).1,(c3 c hc).2⟩,k1,fun k hk=>⟨(k2 k hk).1,fun s hs=>uR ((k2 k hk).2 s hs)⟩,b1,fun e he=>?_⟩
 obtain⟨f1,f2,f3,f4⟩:=oW e (b2 e he).1
 simp[GU,GA]at h5
 exact⟨f1,by have:=h5.2 e he;omega,f3,f4⟩
theorem gV{α:Type}{f:α→List Int}{n:Nat}:∀{l:List α},(∀x∈l,(f x).length≤n)→(l.flatMap f).length≤n*l.length
 |[],_=>Nat.zero_le _
 |y::l,h=>by
  have h1:=gV (l:=l) fun x hx=>h x (List.mem_cons_of_mem _ hx)
  have h2:=h y (List.mem_cons_self ..)
  rw[List.flatMap_cons,List.length_append,List.length_cons,Nat.mul_succ]
  omega
def jX(c:c8):List Int:=eU c.name++[u8 c.kind,bif c.nul then 1 else 0]
def j8(k:Bool×List ByteArray):List Int:=u8 k.2.length::k.2.flatMap eU
def jE(e:cW):List Int:=j2 3 e.cnt++j2 2 (eY e.row).length++eY e.row
def cH(x:r6):List Int :=
 eU x.name++u8 x.cols.length::x.cols.flatMap jX++u8 x.keys.length::x.keys.flatMap j8++j2 2 x.rows.length++x.rows.flatMap jE
def mE(x:r6):a6:=if eX x≠0 then .tuple [.nil,.int .i64 (eX x)]else if 65536<(cH x).length then .tuple [.nil,.int .i64 2]else .tuple [.list false 1 (bC (cH x)),.int .i64 0]
set_option maxRecDepth 20000 in
set_option maxHeartbeats 2000000 in
theorem OA(x:r6)(hx:x.Fit)(H:List aB):
  a7 pr 26 [.agg (dR x)] H (fun r H'=>r=mE x∧H'=H):=by
 refine a7.pure rfl (aA k26.has ?_)
 unfold mE
 (conv=>whnf);refine a7.use (uJ x hx _) ?_
 (conv=>whnf);refine aE (fun hc=>?_) (fun hc=>?_)
 ·conv=>whnf
  simp at hc
  rw[if_pos hc]
  exact dP (.closed _ rfl) (.closed _ rfl)
 simp at hc
 rw[if_neg (by simp[hc])]
 have ok:=r6.ok_of hc
 (conv=>whnf);refine a7.mono (GT _ x.name (by have:=ok.nm;omega)) ?_
 rintro r H1 ⟨rfl,rfl⟩
 have hnl:(eU x.name).length≤50:=by have:=ok.nm;simp[eU,bT];omega
 (conv=>whnf);refine b4 (by rw[aD];exact Nat.beq_refl _) ?_
 (conv=>whnf);refine And.intro (⟨by simp[aQ];omega,by simp[aQ];omega,rfl,by rw[aD]⟩) ?_
 obtain⟨L0,hL0⟩:∃L0,L0=eU x.name++[u8 x.cols.length]:=⟨_,rfl⟩
 have hL0l:L0.length≤51:=by rw[hL0];simp;omega
 have hL0c:bC (eU x.name)++[[a6.int IntKind.u8 (IntKind.u8.wrap ((cC x.cols).length:Int))]]=bC L0:=by rw[hL0,c9,aX];rfl
 conv=>whnf
 refine⟨fun m ρ H1=>∃k:Nat,k+m=x.cols.length∧H1[0]?=some (.arr 4 [dR x])∧H1[1]?=some (bO (L0++(x.cols.take k).flatMap jX)) ∧
  Sv 114 [(1,.ptr 0 1 0 0),(5,FG 1 (L0++(x.cols.take k).flatMap jX)),(32,.list x.ec 3 (cC x.cols)),(33,.int .i64 x.cols.length),(34,.int .i64 k)] ρ,x.cols.length,[],?_,?_⟩
 ·refine⟨0,by omega,rfl,?_,Sv.intro rfl ⟨rfl,?_,rfl,aN (by rw[aX]),rfl,trivial⟩⟩
  ·rw[List.take_zero,List.flatMap_nil,List.append_nil]
   exact congrArg (fun e=>some (aB.arr 1 e)) hL0c
  ·rw[List.take_zero,List.flatMap_nil,List.append_nil]
   exact eQ (by rw[hL0c,aD]) (by rw[hL0c,aD])
 rintro m ρ H1 ⟨k,hk,g0,g1,d,rfl⟩
 have hcl:=ok.cl
 (conv=>whnf);refine aE (fun hlt=>?_) (fun hlt=>?_)
 ·simp at hlt
  obtain⟨c,hcc,r7,hcm⟩:=aY hlt
  (conv=>whnf);refine And.intro (by omega) ?_
  (conv=>whnf);refine b8 (iI hcc) ?_
  (conv=>whnf);refine pG ?_
  (conv=>whnf);refine b8 (gB _ _) ?_
  (conv=>whnf);refine eD (pD _ _ _) ?_
  have hc24:=(ok.cs c hcm).1
  obtain⟨Lk,hLk⟩:∃Lk,Lk=L0++(x.cols.take k).flatMap jX:=⟨_,rfl⟩
  rw[←hLk]at g1 ⊢
  have hLkl:Lk.length≤1000:=by
   have h1:=gV (f:=jX) (n:=27) (l:=x.cols.take k) fun y hy=>by
    have:=(ok.cs y (List.mem_of_mem_take hy)).1
    simp[jX,eU,bT];omega
   have h2:(x.cols.take k).length≤12:=by rw[List.length_take];omega
   have h3:=Nat.mul_le_mul_left 27 h2
   rw[hLk,List.length_append]
   omega
  obtain⟨n,hn⟩:∃n,n=0+H1.length:=⟨_,rfl⟩
  have hn1:n≠1:=by have:=(List.getElem?_eq_some_iff.1 g1).1;omega
  have hA1:=pK (X:=[aB.arr 3 [gJ c]]) g1
  have hA0:=pK (X:=[aB.arr 3 [gJ c]]) g0
  have hAn:(H1++[aB.arr 3 [gJ c]])[n]?=some (.arr 3 [gJ c]):=by rw[hn];exact gB _ _
  (conv=>whnf);refine b8 (gB _ _) ?_
  have s1:=uA _ 1 Lk c.name hA1 (by omega) (by omega)
  obtain⟨HB,hHB⟩:∃HB,HB=(H1++[aB.arr 3 [gJ c]]).set 1 (bO (Lk++eU c.name)):=⟨_,rfl⟩
  rw[←hHB]at s1
  (conv=>whnf);refine⟨_,_,s1,?_⟩
  have hB1:HB[1]?=some (bO (Lk++eU c.name)):=by rw[hHB];exact g8 hA1
  have hB0:HB[0]?=some (.arr 4 [dR x]):=by rw[hHB,dJ (by decide)];exact hA0
  have hBn:HB[0+H1.length]?=some (.arr 3 [gJ c]):=by rw[hHB,dJ (by omega)];exact gB _ _
  have htl:(eU c.name).length≤25:=by simp[eU,bT];omega
  (conv=>whnf);refine b8 (hBn) ?_
  have hb25:(Lk++eU c.name).length≤1030:=by simp;omega
  (conv=>whnf);refine b8 (hB1) ?_
  (conv=>whnf);refine b4 (by rw[aD];exact Nat.beq_refl _) ?_
  (conv=>whnf);refine And.intro (⟨by simp[aQ];omega,by simp[aQ];omega,rfl,by rw[aD]⟩) ?_
  have hcc2:bC (Lk++eU c.name)++[[a6.int .u8 (IntKind.u8.wrap c.kind)]]=bC (Lk++eU c.name++[u8 c.kind]):=by rw[c9 (Lk++eU c.name)];rfl
  obtain⟨HC,hHC⟩:∃HC,HC=HB.set 1 (.arr 1 (bC (Lk++eU c.name)++[[a6.int .u8 (IntKind.u8.wrap c.kind)]])):=⟨_,rfl⟩
  (conv=>whnf);refine eD hHC.symm ?_
  have hC1:HC[1]?=some (bO (Lk++eU c.name++[u8 c.kind])):=by rw[hHC,hcc2];exact g8 hB1
  have hC0:HC[0]?=some (.arr 4 [dR x]):=by rw[hHC,dJ (by decide)];exact hB0
  have hCn:HC[0+H1.length]?=some (.arr 3 [gJ c]):=by rw[hHC,dJ (by omega)];exact hBn
  (conv=>whnf);refine b8 (hCn) ?_
  have hll:(bC (Lk++eU c.name)++[[a6.int .u8 (IntKind.u8.wrap c.kind)]]).length=(Lk++eU c.name++[u8 c.kind]).length:=by rw[hcc2,aD]
  have s2:=DR HC 1 (Lk++eU c.name++[u8 c.kind]) c.nul hC1 (by simp at hb25 ⊢;omega)
  obtain⟨HD,hHD⟩:∃HD,HD=HC.set 1 (bO (Lk++eU c.name++[u8 c.kind]++[bif c.nul then 1 else 0])):=⟨_,rfl⟩
  rw[←hHD,show FG 1 (Lk++eU c.name++[u8 c.kind])=a6.sl 1 (bC (Lk++eU c.name)++[[a6.int .u8 (IntKind.u8.wrap c.kind)]]).length 0 (bC (Lk++eU c.name)++[[a6.int .u8 (IntKind.u8.wrap c.kind)]]).length by rw[hll];rfl]at s2
  (conv=>whnf);refine⟨_,_,s2,?_⟩
  have hD1:HD[1]?=some (bO (Lk++eU c.name++[u8 c.kind]++[bif c.nul then 1 else 0])):=by rw[hHD];exact g8 hC1
  have hD0:HD[0]?=some (.arr 4 [dR x]):=by rw[hHD,dJ (by decide)];exact hC0
  have hDn:HD[0+H1.length]?=some (.arr 3 [gJ c]):=by rw[hHD,dJ (by omega)];exact hCn
  repeat((conv=>whnf);first|refine And.intro (by(conv=>whnf);refine b8 hDn ?_;rfl) ?_|refine And.intro (by(conv=>whnf);refine b8 hCn ?_;rfl) ?_|refine And.intro (by(conv=>whnf);refine b8 hBn ?_;rfl) ?_|refine And.intro (by(conv=>whnf);refine b8 (gB _ _) ?_;rfl) ?_)
  have hnext:L0++(x.cols.take (k+1)).flatMap jX=Lk++eU c.name++[u8 c.kind]++[bif c.nul then 1 else 0]:=by
   rw[List.take_add_one,hcc,hLk]
   simp[jX]
  conv=>whnf
  refine⟨m-1,by omega,Gp.keep rfl ?_ fun ρ1 h=>⟨k+1,by omega,hD0,by rw[hnext];exact hD1,h⟩⟩
  rw[hnext]
  exact⟨rfl,rfl,rfl,rfl,aN (aW ((k:Int)+1) (by omega) (by omega)),trivial⟩
 simp at hlt
 have hk2:x.cols.take k=x.cols:=List.take_of_length_le hlt
 rw[hk2]at g1 ⊢
 obtain⟨L1,hL1⟩:∃L1,L1=L0++x.cols.flatMap jX:=⟨_,rfl⟩
 rw[←hL1]at g1 ⊢
 have hL1l:L1.length≤400:=by
  have h1:=gV (f:=jX) (n:=27) (l:=x.cols) fun y hy=>by
   have:=(ok.cs y hy).1
   simp[jX,eU,bT];omega
  have h3:=Nat.mul_le_mul_left 27 hcl
  rw[hL1,List.length_append]
  omega
 have hkl:=ok.kl
 (conv=>whnf);refine b8 (g0) ?_
 (conv=>whnf);refine b8 (g1) ?_
 (conv=>whnf);refine b4 (by rw[aD];exact Nat.beq_refl _) ?_
 (conv=>whnf);refine And.intro (⟨by simp[aQ];omega,by simp[aQ];omega,rfl,by rw[aD]⟩) ?_
 obtain⟨L2,hL2⟩:∃L2,L2=L1++[u8 x.keys.length]:=⟨_,rfl⟩
 have hL2c:bC L1++[[a6.int IntKind.u8 (IntKind.u8.wrap ((zM x.keys).length:Int))]]=bC L2:=by rw[hL2,c9,iN];rfl
 obtain⟨H2,hH2⟩:∃H2,H2=H1.set 1 (.arr 1 (bC L1++[[a6.int IntKind.u8 (IntKind.u8.wrap ((zM x.keys).length:Int))]])):=⟨_,rfl⟩
 (conv=>whnf);refine eD hH2.symm ?_
 have h21:H2[1]?=some (bO L2):=by rw[hH2,hL2c];exact g8 g1
 have h20:H2[0]?=some (.arr 4 [dR x]):=by rw[hH2,dJ (by decide)];exact g0
 (conv=>whnf);refine b8 (h20) ?_
 have hL2l:L2.length≤401:=by rw[hL2];simp;omega
 have hkyl:∀y∈x.keys,(j8 y).length≤301:=fun y hy=>by
  obtain⟨q1,q2⟩:=ok.ks y hy
  have h1:=gV (f:=eU) (n:=25) (l:=y.2) fun t ht=>by
   have:=q2 t ht
   simp[eU,bT];omega
  have h3:=Nat.mul_le_mul_left 25 q1
  simp[j8]
  simp at h1
  omega
 conv=>whnf
 refine⟨fun m ρ H3=>∃k:Nat,k+m=x.keys.length∧H3[0]?=some (.arr 4 [dR x])∧H3[1]?=some (bO (L2++(x.keys.take k).flatMap j8)) ∧
  Sv 114 [(1,.ptr 0 1 0 0),(5,FG 1 (L2++(x.keys.take k).flatMap j8)),(59,.list x.ek 1 (zM x.keys)),(60,.int .i64 x.keys.length),(61,.int .i64 k)] ρ,x.keys.length,[],?_,?_⟩
 ·refine⟨0,by omega,h20,?_,Sv.intro rfl ⟨rfl,?_,rfl,aN (by rw[iN]),rfl,trivial⟩⟩
  ·rw[List.take_zero,List.flatMap_nil,List.append_nil]
   exact h21
  ·rw[List.take_zero,List.flatMap_nil,List.append_nil]
   exact eQ (by rw[hL2c,aD]) (by rw[hL2c,aD])
 rintro m ρ H3 ⟨k,hk,g0,g1,d,rfl⟩
 (conv=>whnf);refine aE (fun hlt=>?_) (fun hlt=>?_)
 ·simp at hlt
  obtain⟨y,hy,r7,hym⟩:=aY hlt
  obtain⟨q1,q2⟩:=ok.ks y hym
  obtain⟨Lk,hLk⟩:∃Lk,Lk=L2++(x.keys.take k).flatMap j8:=⟨_,rfl⟩
  rw[←hLk]at g1 ⊢
  have hLkl:Lk.length≤5000:=by
   have h1:=gV (f:=j8) (n:=301) (l:=x.keys.take k) fun z hz=>hkyl z (List.mem_of_mem_take hz)
   have h2:(x.keys.take k).length≤12:=by rw[List.length_take];omega
   have h3:=Nat.mul_le_mul_left 301 h2
   rw[hLk,List.length_append]
   omega
  (conv=>whnf);refine And.intro (by omega) ?_
  (conv=>whnf);refine b8 (pW hy) ?_
  (conv=>whnf);refine b8 (g1) ?_
  (conv=>whnf);refine b4 (by rw[aD];exact Nat.beq_refl _) ?_
  (conv=>whnf);refine And.intro (⟨by simp[aQ];omega,by simp[aQ];omega,rfl,by rw[aD]⟩) ?_
  have hc3:bC Lk++[[a6.int .u8 (IntKind.u8.wrap ((sC y.2).length:Int))]]=bC (Lk++[u8 y.2.length]):=by rw[c9,aP];rfl
  obtain⟨H4,hH4⟩:∃H4,H4=H3.set 1 (.arr 1 (bC Lk++[[a6.int .u8 (IntKind.u8.wrap ((sC y.2).length:Int))]])):=⟨_,rfl⟩
  (conv=>whnf);refine eD hH4.symm ?_
  have h41:H4[1]?=some (bO (Lk++[u8 y.2.length])):=by rw[hH4,hc3];exact g8 g1
  have h40:H4[0]?=some (.arr 4 [dR x]):=by rw[hH4,dJ (by decide)];exact g0
  conv=>whnf
  refine⟨fun m2 ρ H5=>∃j:Nat,j+m2=y.2.length∧H5[0]?=some (.arr 4 [dR x])∧H5[1]?=some (bO (Lk++[u8 y.2.length]++(y.2.take j).flatMap eU)) ∧
   Sv 114 [(1,.ptr 0 1 0 0),(5,FG 1 (Lk++[u8 y.2.length]++(y.2.take j).flatMap eU)),(59,.list x.ek 1 (zM x.keys)),(60,.int .i64 x.keys.length),(61,.int .i64 k),(71,.list y.1 1 (sC y.2)),(72,.int .i64 y.2.length),(73,.int .i64 j)] ρ,y.2.length,[],?_,?_⟩
  ·refine⟨0,by omega,h40,?_,Sv.intro rfl ⟨rfl,?_,rfl,rfl,rfl,rfl,aN (by rw[aP]),rfl,trivial⟩⟩
   ·rw[List.take_zero,List.flatMap_nil,List.append_nil]
    exact h41
   ·rw[List.take_zero,List.flatMap_nil,List.append_nil]
    exact eQ (by rw[hc3,aD]) (by rw[hc3,aD])
  rintro m2 ρ H5 ⟨j,hj,f0,f1,d2,rfl⟩
  (conv=>whnf);refine aE (fun hlt2=>?_) (fun hlt2=>?_)
  ·simp at hlt2
   obtain⟨t,ht,_,htm⟩:=aY hlt2
   have ht24:=q2 t htm
   obtain⟨Lj,hLj⟩:∃Lj,Lj=Lk++[u8 y.2.length]++(y.2.take j).flatMap eU:=⟨_,rfl⟩
   rw[←hLj]at f1 ⊢
   have hLjl:Lj.length≤6000:=by
    have h1:=gV (f:=eU) (n:=25) (l:=y.2.take j) fun z hz=>by
     have:=q2 z (List.mem_of_mem_take hz)
     simp[eU,bT];omega
    have h2:(y.2.take j).length≤12:=by rw[List.length_take];omega
    have h3:=Nat.mul_le_mul_left 25 h2
    rw[hLj,List.length_append,List.length_append,List.length_singleton]
    omega
   (conv=>whnf);refine And.intro (by omega) ?_
   (conv=>whnf);refine b8 (mI ht) ?_
   (conv=>whnf);refine a7.mono (uA _ 1 Lj t f1 (by omega) (by omega)) ?_
   rintro r H6 ⟨rfl,rfl⟩
   have hnext:Lk++[u8 y.2.length]++(y.2.take (j+1)).flatMap eU=Lj++eU t:=by
    rw[List.take_add_one,ht,hLj]
    simp
   conv=>whnf
   refine⟨m2-1,by omega,Gp.keep rfl ?_ fun ρ1 h=>⟨j+1,by omega,(dJ (by decide)).trans f0,by rw[hnext];exact g8 f1,h⟩⟩
   rw[hnext]
   exact⟨rfl,rfl,rfl,rfl,rfl,rfl,rfl,aN (aW ((j:Int)+1) (by omega) (by omega)),trivial⟩
  ·simp at hlt2
   rw[List.take_of_length_le hlt2]at f1 ⊢
   have hnext:L2++(x.keys.take (k+1)).flatMap j8=Lk++[u8 y.2.length]++y.2.flatMap eU:=by
    rw[List.take_add_one,hy,hLk]
    simp[j8]
   conv=>whnf
   refine⟨m-1,by omega,Gp.keep rfl ?_ fun ρ1 h=>⟨k+1,by omega,f0,by rw[hnext];exact f1,h⟩⟩
   rw[hnext]
   exact⟨rfl,rfl,rfl,rfl,aN (aW ((k:Int)+1) (by omega) (by omega)),trivial⟩
 simp at hlt
 rw[List.take_of_length_le hlt]at g1 ⊢
 obtain⟨L3,hL3⟩:∃L3,L3=L2++x.keys.flatMap j8:=⟨_,rfl⟩
 rw[←hL3]at g1 ⊢
 have hL3l:L3.length≤5000:=by
  have h1:=gV (f:=j8) (n:=301) (l:=x.keys) hkyl
  have h3:=Nat.mul_le_mul_left 301 hkl
  rw[hL3,List.length_append]
  omega
 have hrl:=ok.rl
 have hn:=aR x.rows
 (conv=>whnf);refine b8 (g0) ?_
 have s3:=y7 H3 1 L3 2 ((eC x.rows).length:Int) g1 (by omega) (by decide) (by omega)
 obtain⟨L4,hL4⟩:∃L4,L4=L3++j2 2 x.rows.length:=⟨_,rfl⟩
 rw[hn,←hL4]at s3
 rw[←hn]at s3
 (conv=>whnf);refine a7.mono (s3) ?_
 rintro r H4 ⟨rfl,hH4⟩
 have h41:H4[1]?=some (bO L4):=by rw[hH4];exact g8 g1
 have h40:H4[0]?=some (.arr 4 [dR x]):=by rw[hH4,dJ (by decide)];exact g0
 (conv=>whnf);refine b8 (h40) ?_
 conv=>whnf
 refine⟨fun m ρ H5=>∃k:Nat,k+m=x.rows.length∧H5[0]?=some (.arr 4 [dR x])∧H5[1]?=some (bO (L4++(x.rows.take k).flatMap jE)) ∧
  Sv 114 [(1,.ptr 0 1 0 0),(5,FG 1 (L4++(x.rows.take k).flatMap jE)),(88,.list x.er 2 (eC x.rows)),(89,.int .i64 x.rows.length),(90,.int .i64 k)] ρ,x.rows.length,[],?_,?_⟩
 ·refine⟨0,by omega,h40,?_,Sv.intro rfl ⟨rfl,?_,rfl,aN (by rw[hn]),rfl,trivial⟩⟩
  ·rw[List.take_zero,List.flatMap_nil,List.append_nil]
   exact h41
  ·rw[List.take_zero,List.flatMap_nil,List.append_nil]
   rfl
 rintro m ρ H5 ⟨k,hk,g0,g1,d,rfl⟩
 (conv=>whnf);refine aE (fun hlt=>?_) (fun hlt=>?_)
 ·simp at hlt
  obtain⟨e,he,r7,hem⟩:=aY hlt
  (conv=>whnf);refine And.intro (by omega) ?_
  (conv=>whnf);refine b8 (fE he) ?_
  (conv=>whnf);refine pG ?_
  (conv=>whnf);refine b8 (gB _ _) ?_
  (conv=>whnf);refine eD (pD _ _ _) ?_
  (conv=>whnf);refine b8 (gB _ _) ?_
  obtain⟨r1,r2,r3,r4⟩:=ok.rs e hem
  have henc:=fun H=>IF false e.row H
  rw[B6 r1 r4]at henc
  have hel:(eY e.row).length≤793:=rO (by unfold DM;rw[if_neg (by omega),if_pos (List.all_eq_true.2 r4)])
  obtain⟨Lk,hLk⟩:∃Lk,Lk=L4++(x.rows.take k).flatMap jE:=⟨_,rfl⟩
  rw[←hLk]at g1 ⊢
  have hLkl:Lk.length≤5000000:=by
   have h1:=gV (f:=jE) (n:=798) (l:=x.rows.take k) fun z hz=>by
    obtain⟨z1,_,_,z4⟩:=ok.rs z (List.mem_of_mem_take hz)
    have:=rO (row:=z.row) (by unfold DM;rw[if_neg (by omega),if_pos (List.all_eq_true.2 z4)])
    simp[jE,bX];omega
   have h2:(x.rows.take k).length≤4096:=by rw[List.length_take];omega
   have h3:=Nat.mul_le_mul_left 798 h2
   rw[hLk,List.length_append,hL4,List.length_append,bX]
   omega
  (conv=>whnf);refine a7.use (henc _) ?_
  (conv=>whnf);refine b8 (gB _ _) ?_
  (conv=>whnf);refine a7.mono (y7 _ 1 Lk 3 e.cnt (pK g1) (by omega) (by decide) (by omega)) ?_
  rintro r H6 ⟨rfl,hH6⟩
  have h61:H6[1]?=some (bO (Lk++j2 3 e.cnt)):=by rw[hH6];exact g8 (pK g1)
  have h60:H6[0]?=some (.arr 4 [dR x]):=by rw[hH6,dJ (by decide)];exact pK g0
  (conv=>whnf);refine a7.mono (y7 H6 1 (Lk++j2 3 e.cnt) 2 ((bC (eY e.row)).length:Int) h61 (by simp[bX];omega) (by decide) (by omega)) ?_
  rintro r H7 ⟨rfl,hH7⟩
  have h71:H7[1]?=some (bO (Lk++j2 3 e.cnt++j2 2 ((bC (eY e.row)).length:Int))):=by rw[hH7];exact g8 h61
  have h70:H7[0]?=some (.arr 4 [dR x]):=by rw[hH7,dJ (by decide)];exact h60
  have hbl:=aD (eY e.row)
  obtain⟨Lm,hLm⟩:∃Lm,Lm=Lk++j2 3 e.cnt++j2 2 ((bC (eY e.row)).length:Int):=⟨_,rfl⟩
  have hLml:Lm.length≤5000010:=by rw[hLm];simp[bX];omega
  rw[←hLm]at h71 ⊢
  (conv=>whnf);refine b8 (h71) ?_
  (conv=>whnf);refine b4 (by rw[aD];exact Nat.beq_refl _) ?_
  (conv=>whnf);refine And.intro (⟨by simp[aQ];omega,by simp[aQ];omega,rfl,by rw[aD]⟩) ?_
  obtain⟨H8,hH8⟩:∃H8,H8=H7.set 1 (.arr 1 (bC Lm++bC (eY e.row))):=⟨_,rfl⟩
  (conv=>whnf);refine eD hH8.symm ?_
  have h81:H8[1]?=some (bO (Lm++eY e.row)):=by rw[hH8,←c9];exact g8 h71
  have h80:H8[0]?=some (.arr 4 [dR x]):=by rw[hH8,dJ (by decide)];exact h70
  have hnext:L4++(x.rows.take (k+1)).flatMap jE=Lm++eY e.row:=by
   rw[List.take_add_one,he,hLm,hLk,hbl]
   simp[jE]
  conv=>whnf
  refine⟨m-1,by omega,Gp.keep rfl ?_ fun ρ1 h=>⟨k+1,by omega,h80,by rw[hnext];exact h81,h⟩⟩
  rw[hnext]
  exact⟨rfl,eQ (by rw[←c9,aD]) (by rw[←c9,aD]),rfl,rfl,aN (aW ((k:Int)+1) (by omega) (by omega)),trivial⟩
 ·simp at hlt
  rw[List.take_of_length_le hlt]at g1 ⊢
  have hpk:cH x=L4++x.rows.flatMap jE:=by
   rw[hL4,hL3,hL2,hL1,hL0]
   simp[cH]
  rw[←hpk]at g1 ⊢
  (conv=>whnf);refine b8 (g1) ?_
  (conv=>whnf);refine b4 (by rw[aD];exact Nat.beq_refl _) ?_
  (conv=>whnf);refine aE (fun h6=>?_) (fun h6=>?_)
  ·conv=>whnf
   simp at h6
   rw[if_pos (by omega)]
   exact dP (.closed _ rfl) (.closed _ rfl)
  ·conv=>whnf
   simp at h6
   rw[if_neg (by omega)]
   exact dP (qH g1 (aD _).symm (aD _).symm (dQ _)) (.closed _ rfl)
def oO(P:Program)(f k:FuncId):Prop :=
 (∀(H:List aB) (box id:Nat) (kvs:List (a6×a6)) (ks:List ByteArray),H[box]?=some (.arr 1 [[.mp id]])→H[id]?=some (.map kvs)→(kvs.map (·.1)).Perm (ks.map a6.str)→ks.Pairwise (fun a b=>YM a b=true)→ks.length≤1000000→(∀k∈ks,k.size≤1000000) →
  a7 P f [.fn k [.ptr box 1 0 0]] H (fun r H'=>r=.list false 1 (ks.map fun k=>[a6.str k])∧H'=H)) ∧
 (∀(H:List aB) (box:Nat),H[box]?=some (.arr 1 [[.nilm]])→a7 P f [.fn k [.ptr box 1 0 0]] H (fun r H'=>r=.list false 1 []∧H'=H))
theorem EK(ids:List Nat):∀(pre xs:List aB),P7 ids (pre++xs) pre.length xs
 |_,[]=>trivial
 |pre,x::xs=>by
  refine⟨.inr (by simp),?_⟩
  have:=EK ids (pre++[x]) xs
  rw[List.append_assoc,List.length_append]at this
  exact this
theorem oR{x:Int}{b:List Int}(h1:0≤x∧x≤255)(h2:fI b):fI (x::b):=fun y hy=>by
 rcases List.mem_cons.1 hy with rfl|hy
 ·exact h1
 ·exact h2 y hy
theorem GW(s:ByteArray):fI (eU s):=by
 refine oR ?_ fun x hx=>?_
 ·rw[m3];omega
 ·obtain⟨b,_,rfl⟩:=List.mem_map.1 hx
  have:=b.toNat_lt
  constructor<;>omega
set_option maxRecDepth 20000 in
theorem CM(s:ByteArray)(hs:s.size≤100000)(H:List aB):
  a7 pr 47 [.str s] H (fun r H'=>r=.list false 1 (bC (eU s))∧H'=H):=by
 have hbl:=bT s
 refine a7.pure rfl (aA k47.has ?_)
 (conv=>whnf);refine And.intro (⟨fG (by rw[eJ];simp[aD];omega),bK (by rw[eJ];simp[aD];omega),rfl,rfl⟩) ?_
 conv=>whnf
 have e5:[[a6.int .u8 (u8 s.size)]]++bU s.data.toList=bC (eU s):=by rw[eJ];rfl
 have hl4:([[a6.int .u8 (u8 s.size)]]++bU s.data.toList).length=(bC (eU s)).length:=by rw[e5]
 refine qH (es:=bC (eU s)) ?_ hl4 hl4 (dQ _)
 rw[←e5];rfl
set_option maxRecDepth 20000 in
theorem MF(t:Bool)(H:List aB):
  a7 pr 48 [.bool t] H (fun r H'=>r=.int .u8 (bif t then 1 else 0)∧H'=H):=by
 cases t<;>refine a7.pure rfl (aA k48.has ?_)<;>(conv=>whnf)<;>exact .closed _ rfl
theorem p8{x:r6}{n:Int}(h:eX x=n)(h0:n≠0):mE x=.tuple [.nil,.int .i64 n]:=by
 unfold mE
 rw[h,if_pos h0]
theorem I5{l:List (Bool×List ByteArray)}{k:Nat}(h12:l.length≤12){y:Bool×List ByteArray}(hd:lN (l.drop k)=lN l)(hy:l.drop k=y::l.drop (k+1))(h0:k4 y.2≠0):jQ l=k4 y.2:=by
 unfold jQ
 rw[if_neg (by omega),←hd,hy,lN,if_neg h0]
set_option maxRecDepth 20000 in
theorem PH(s:ByteArray)(hs:s.size≤100000)(H:List aB):
  a7 pr 47 [.str s] H (fun r H'=>r=FG H.length (eU s)∧H'=H++[bO (eU s)]):=by
 have hbl:=bT s
 have l0:0+H.length=H.length:=Nat.zero_add _
 have e:[[a6.int .u8 (u8 s.size)]]++bU s.data.toList=bC (eU s):=by rw[eJ];rfl
 have el:(bC (eU s)).length=s.size+1:=by rw[aD,eU];simp[hbl]
 refine aA k47.has ?_
 (conv=>whnf);refine pG ?_
 (conv=>whnf);refine b8 (gB _ _) ?_
 have ebl:(bU s.data.toList).length=s.size:=by rw[eJ];simpa[aD]using hbl
 (conv=>whnf);refine And.intro (⟨by simp[aQ,ebl];omega,by simp[aQ,ebl];omega,rfl,rfl⟩) ?_
 (conv=>whnf);refine eD (pD _ _ _) ?_
 conv=>whnf
 refine⟨?_,?_⟩
 ·show a6.sl _ _ _ _=_
  rw[l0]
  have:([[a6.int IntKind.u8 (IntKind.u8.wrap ↑s.size)]]++bU s.data.toList).length=(eU s).length:=by rw[show IntKind.u8.wrap (s.size:Int)=u8 s.size from rfl,e,aD]
  rw[this];rfl
 ·show _=H++[.arr 1 (bC (eU s))]
  rw[←e];rfl
def Z8(x:r6)(r:a6)(H':List aB):Prop:=(r=mE x∧∃e,mE x=.tuple [.nil,.int .i64 e])∨∃id,r=.tuple [FG id (cH x),.int .i64 0]∧H'[id]?=some (bO (cH x))∧mE x=.tuple [.list false 1 (bC (cH x)),.int .i64 0]
theorem U6{x:r6}{e:Int}{H:List aB}(h:mE x=.tuple [.nil,.int .i64 e]):Z8 x (.tuple [.nil,.int .i64 e]) H:=.inl ⟨h.symm,e,h⟩
set_option maxRecDepth 20000 in
set_option maxHeartbeats 2000000 in
theorem EP(x:r6)(hx:x.Fit):
  a7 pr 27 [.agg (dR x)] [] (Z8 x):=by
 refine aA k27.has ?_
 (conv=>whnf);refine a7.use (kW x.name hx.n _) ?_
 (conv=>whnf);refine aE (fun hq=>?_) (fun hq=>?_)
 ·conv=>whnf
  simp at hq
  exact U6 (p8 (n:=4) (by unfold eX;rw[if_pos hq]) (by decide))
 simp at hq
 (conv=>whnf);refine a7.use (dM x.ec x.cols hx.c _) ?_
 (conv=>whnf);refine aE (fun hv=>?_) (fun hv=>?_)
 ·conv=>whnf
  simp at hv
  exact U6 (p8 (n:=qY x.cols) (by unfold eX;rw[if_neg (by simp[hq]),if_pos hv]) hv)
 simp at hv
 have hkE:∀n:Int,jQ x.keys=n→n≠0→mE x=.tuple [.nil,.int .i64 n]:=fun n h h0=>p8 (by unfold eX;rw[if_neg (by simp[hq]),if_neg (by simp[hv]),if_pos (by rw[h];exact h0),h]) h0
 have hkn:=iN x.keys
 (conv=>whnf);refine aE (fun h12=>?_) (fun h12=>?_)
 ·conv=>whnf
  rw[hkn]at h12
  simp at h12
  exact U6 (hkE 2 (by unfold jQ;rw[if_pos (by omega)]) (by decide))
 rw[hkn]at h12
 simp at h12
 conv=>whnf
 refine⟨fun m ρ H1=>∃k:Nat,k+m=x.keys.length∧H1=[.arr 4 [dR x]]∧lN (x.keys.drop k)=lN x.keys ∧
  Sv 192 [(1,.ptr 0 1 0 0),(37,.list x.ek 1 (zM x.keys)),(38,.int .i64 x.keys.length),(39,.int .i64 k)] ρ,x.keys.length,[],?_,?_⟩
 ·exact⟨0,by omega,rfl,rfl,Sv.intro rfl ⟨rfl,rfl,aN (by rw[hkn]),rfl,trivial⟩⟩
 rintro m ρ H1 ⟨k,hk,rfl,hd,d,rfl⟩
 (conv=>whnf);refine aE (fun hlt=>?_) (fun hlt=>?_)
 ·simp at hlt
  obtain⟨y,hy,r7,hym⟩:=aY hlt
  have hsl:=aP y.2
  (conv=>whnf);refine And.intro (by omega) ?_
  (conv=>whnf);refine b8 (pW hy) ?_
  (conv=>whnf);refine aE (fun hy12=>?_) (fun hy12=>?_)
  ·conv=>whnf
   rw[hsl]at hy12
   simp at hy12
   have h2:k4 y.2=2:=by unfold k4;rw[if_pos (by omega)]
   exact U6 (hkE 2 (by rw[I5 (by omega) hd r7 (by rw[h2];decide),h2]) (by decide))
  rw[hsl]at hy12
  simp at hy12
  conv=>whnf
  refine⟨fun m2 ρ H2=>∃j:Nat,j+m2=y.2.length∧H2=[.arr 4 [dR x]]∧(∀s∈y.2.take j,eF s=true) ∧
   Sv 192 [(1,.ptr 0 1 0 0),(37,.list x.ek 1 (zM x.keys)),(38,.int .i64 x.keys.length),(39,.int .i64 k),(46,.list y.1 1 (sC y.2)),(47,.int .i64 y.2.length),(48,.int .i64 j)] ρ,y.2.length,[],?_,?_⟩
  ·exact⟨0,by omega,rfl,(fun s h=>by simp at h),Sv.intro rfl ⟨rfl,rfl,rfl,rfl,rfl,aN (by rw[hsl]),rfl,trivial⟩⟩
  rintro m2 ρ H2 ⟨j,hj,rfl,hjs,d2,rfl⟩
  (conv=>whnf);refine aE (fun hlt2=>?_) (fun hlt2=>?_)
  ·simp at hlt2
   obtain⟨t,ht,_,htm⟩:=aY hlt2
   (conv=>whnf);refine And.intro (by omega) ?_
   (conv=>whnf);refine b8 (mI ht) ?_
   (conv=>whnf);refine a7.use (eH t _) ?_
   (conv=>whnf);refine aE (fun hnm=>?_) (fun hnm=>?_)
   ·conv=>whnf
    simp at hnm
    have h4:k4 y.2=4:=by
     unfold k4
     rw[if_neg (by omega),if_pos (List.any_eq_true.2 ⟨t,htm,by rw[hnm];rfl⟩)]
    exact U6 (hkE 4 (by rw[I5 (by omega) hd r7 (by rw[h4];decide),h4]) (by decide))
   ·conv=>whnf
    simp at hnm
    refine⟨m2-1,by omega,Gp.keep rfl ?_ fun ρ1 h=>⟨j+1,by omega,rfl,fun s hs=>?_,h⟩⟩
    ·exact⟨rfl,rfl,rfl,rfl,rfl,rfl,aN (aW ((j:Int)+1) (by omega) (by omega)),trivial⟩
    ·rw[List.take_add_one,ht]at hs
     rcases List.mem_append.1 hs with hs|hs
     ·exact hjs s hs
     ·simp at hs;subst hs;exact hnm
  ·simp at hlt2
   rw[List.take_of_length_le hlt2]at hjs
   have h0:k4 y.2=0:=by
    unfold k4
    rw[if_neg (by omega),if_neg (by simp;exact hjs)]
   rw[r7,lN,if_pos h0]at hd
   conv=>whnf
   refine⟨m-1,by omega,Gp.keep rfl ?_ fun ρ1 h=>⟨k+1,by omega,rfl,hd,h⟩⟩
   exact⟨rfl,rfl,rfl,aN (aW ((k:Int)+1) (by omega) (by omega)),trivial⟩
 simp at hlt
 rw[List.drop_eq_nil_of_le hlt]at hd
 have hk0:jQ x.keys=0:=by unfold jQ;rw[if_neg (by omega),←hd];rfl
 (conv=>whnf);refine a7.use (n9 x.er x.rows _) ?_
 (conv=>whnf);refine aE (fun hb=>?_) (fun hb=>?_)
 ·conv=>whnf
  simp at hb
  exact U6 (p8 (n:=gI x.rows) (by unfold eX;rw[if_neg (by simp[hq]),if_neg (by simp[hv]),if_neg (by simp[hk0]),if_pos hb]) hb)
 simp at hb
 (conv=>whnf);refine a7.use (w8 x.er x.rows _) ?_
 (conv=>whnf);refine aE (fun ht=>?_) (fun ht=>?_)
 ·conv=>whnf
  simp at ht
  exact U6 (p8 (n:=8) (by unfold eX;rw[if_neg (by simp[hq]),if_neg (by simp[hv]),if_neg (by simp[hk0]),if_neg (by simp[hb]),if_pos ht]) (by decide))
 simp at ht
 have hE:eX x=k6 x.cols x.rows:=by
  unfold eX
  rw[if_neg (by simp[hq]),if_neg (by simp[hv]),if_neg (by simp[hk0]),if_neg (by simp[hb]),if_neg (by simp[ht])]
 have hn:=aR x.rows
 have hrl:=hx.l
 conv=>whnf
 refine⟨fun m ρ H1=>∃k:Nat,k+m=x.rows.length∧H1=[.arr 4 [dR x]]∧k6 x.cols (x.rows.drop k)=k6 x.cols x.rows ∧
  Sv 192 [(1,.ptr 0 1 0 0),(10,.int .i64 k)] ρ,x.rows.length,[],?_,?_⟩
 ·exact⟨0,by omega,rfl,rfl,Sv.intro rfl ⟨rfl,rfl,trivial⟩⟩
 rintro m ρ H1 ⟨k,hk,rfl,hd,d,rfl⟩
 (conv=>whnf);refine aE (fun hlt=>?_) (fun hlt=>?_)
 ·rw[hn]at hlt
  simp at hlt
  obtain⟨e,he,r7,hem⟩:=aY hlt
  rw[r7,k6]at hd
  (conv=>whnf);refine And.intro (by omega) ?_
  (conv=>whnf);refine b8 (fE he) ?_
  (conv=>whnf);refine⟨_,uV x.ec false x.cols e.row (hx.r e hem) _,?_⟩
  (conv=>whnf);refine aE (fun hc=>?_) (fun hc=>?_)
  ·conv=>whnf
   simp at hc
   rw[if_neg hc]at hd
   exact U6 (p8 (n:=kZ x.cols e.row) (by rw[hE,←hd]) hc)
  ·conv=>whnf
   simp at hc
   rw[if_pos hc]at hd
   refine⟨m-1,by omega,Gp.keep rfl ?_ fun ρ1 h=>⟨k+1,by omega,rfl,hd,h⟩⟩
   exact⟨rfl,aN (aW ((k:Int)+1) (by omega) (by omega)),trivial⟩
 simp at hlt
 rw[List.drop_eq_nil_of_le (by omega)]at hd
 have hc:eX x=0:=by rw[hE,←hd];rfl
 have ok:=r6.ok_of hc
 have hpk:mE x=if 65536<(cH x).length then .tuple [.nil,.int .i64 2]else .tuple [.list false 1 (bC (cH x)),.int .i64 0]:=by
  unfold mE
  rw[if_neg (by simp[hc])]
 have hnl:(eU x.name).length≤50:=by have:=ok.nm;simp[eU,bT];omega
 (conv=>whnf);refine⟨_,_,PH x.name (by have:=ok.nm;omega) _,?_⟩
 (conv=>whnf);refine b4 (by rw[aD];exact Nat.beq_refl _) ?_
 (conv=>whnf);refine And.intro (⟨by simp[aQ];omega,by simp[aQ];omega,rfl,by rw[aD]⟩) ?_
 repeat((conv=>whnf);refine And.intro rfl ?_)
 obtain⟨L0,hL0⟩:∃L0,L0=eU x.name++[u8 x.cols.length]:=⟨_,rfl⟩
 have hL0l:L0.length≤51:=by rw[hL0];simp;omega
 have hL0c:bC (eU x.name)++[[a6.int IntKind.u8 (IntKind.u8.wrap ((cC x.cols).length:Int))]]=bC L0:=by rw[hL0,c9,aX];rfl
 conv=>whnf
 refine⟨fun m ρ H1=>∃k:Nat,k+m=x.cols.length∧H1[0]?=some (.arr 4 [dR x])∧H1[1]?=some (bO (L0++(x.cols.take k).flatMap jX)) ∧
  Sv 192 [(1,.ptr 0 1 0 0),(12,FG 1 (L0++(x.cols.take k).flatMap jX)),(96,.list x.ec 3 (cC x.cols)),(97,.int .i64 x.cols.length),(98,.int .i64 k)] ρ,x.cols.length,[],?_,?_⟩
 ·refine⟨0,by omega,rfl,?_,Sv.intro rfl ⟨rfl,?_,rfl,aN (by rw[aX]),rfl,trivial⟩⟩
  ·rw[List.take_zero,List.flatMap_nil,List.append_nil]
   exact congrArg (fun e=>some (aB.arr 1 e)) hL0c
  ·rw[List.take_zero,List.flatMap_nil,List.append_nil]
   exact eQ (by rw[hL0c,aD]) (by rw[hL0c,aD])
 rintro m ρ H1 ⟨k,hk,g0,g1,d,rfl⟩
 have hcl:=ok.cl
 (conv=>whnf);refine aE (fun hlt=>?_) (fun hlt=>?_)
 ·simp at hlt
  obtain⟨c,hcc,r7,hcm⟩:=aY hlt
  (conv=>whnf);refine And.intro (by omega) ?_
  (conv=>whnf);refine b8 (iI hcc) ?_
  (conv=>whnf);refine pG ?_
  (conv=>whnf);refine b8 (gB _ _) ?_
  (conv=>whnf);refine eD (pD _ _ _) ?_
  have hc24:=(ok.cs c hcm).1
  obtain⟨Lk,hLk⟩:∃Lk,Lk=L0++(x.cols.take k).flatMap jX:=⟨_,rfl⟩
  rw[←hLk]at g1 ⊢
  have hLkl:Lk.length≤1000:=by
   have h1:=gV (f:=jX) (n:=27) (l:=x.cols.take k) fun y hy=>by
    have:=(ok.cs y (List.mem_of_mem_take hy)).1
    simp[jX,eU,bT];omega
   have h2:(x.cols.take k).length≤12:=by rw[List.length_take];omega
   have h3:=Nat.mul_le_mul_left 27 h2
   rw[hLk,List.length_append]
   omega
  obtain⟨n,hn⟩:∃n,n=0+H1.length:=⟨_,rfl⟩
  have hn1:n≠1:=by have:=(List.getElem?_eq_some_iff.1 g1).1;omega
  have hA1:=pK (X:=[aB.arr 3 [gJ c]]) g1
  have hA0:=pK (X:=[aB.arr 3 [gJ c]]) g0
  (conv=>whnf);refine b8 (gB _ _) ?_
  have htl:(eU c.name).length≤25:=by simp[eU,bT];omega
  (conv=>whnf);refine⟨_,CM c.name (by omega) _,?_⟩
  (conv=>whnf);refine b8 (hA1) ?_
  (conv=>whnf);refine b4 (by rw[aD];exact Nat.beq_refl _) ?_
  (conv=>whnf);refine And.intro (⟨by simp[aQ,aD];omega,by simp[aQ,aD];omega,rfl,by rw[aD]⟩) ?_
  have hcc2:bC Lk++bC (eU c.name)=bC (Lk++eU c.name):=(c9 _ _).symm
  obtain⟨HC,hHC⟩:∃HC,HC=(H1++[aB.arr 3 [gJ c]]).set 1 (.arr 1 (bC Lk++bC (eU c.name))):=⟨_,rfl⟩
  (conv=>whnf);refine eD hHC.symm ?_
  have hC1:HC[1]?=some (bO (Lk++eU c.name)):=by rw[hHC,hcc2];exact g8 hA1
  have hC0:HC[0]?=some (.arr 4 [dR x]):=by rw[hHC,dJ (by decide)];exact hA0
  have hCn:HC[0+H1.length]?=some (.arr 3 [gJ c]):=by rw[hHC,dJ (by omega)];exact gB _ _
  (conv=>whnf);refine b8 (hCn) ?_
  (conv=>whnf);refine b8 (hCn) ?_
  (conv=>whnf);refine⟨_,MF c.nul _,?_⟩
  (conv=>whnf);refine b8 (hC1) ?_
  have hb25:(Lk++eU c.name).length≤1030:=by simp;omega
  (conv=>whnf);refine b4 (by rw[hcc2,aD];exact Nat.beq_refl _) ?_
  (conv=>whnf);refine And.intro (⟨by simp[aQ,aD];omega,by simp[aQ,aD];omega,rfl,by rw[hcc2,aD]⟩) ?_
  have hcc3:bC (Lk++eU c.name)++[[a6.int .u8 (IntKind.u8.wrap c.kind)],[a6.int .u8 (bif c.nul then 1 else 0)]]=bC (Lk++eU c.name++[u8 c.kind,bif c.nul then 1 else 0]):=by rw[c9 (Lk++eU c.name)];rfl
  obtain⟨HD,hHD⟩:∃HD,HD=HC.set 1 (.arr 1 (bC (Lk++eU c.name)++[[a6.int .u8 (IntKind.u8.wrap c.kind)],[a6.int .u8 (bif c.nul then 1 else 0)]])):=⟨_,rfl⟩
  (conv=>whnf);refine eD hHD.symm ?_
  have hD1:HD[1]?=some (bO (Lk++eU c.name++[u8 c.kind,bif c.nul then 1 else 0])):=by rw[hHD,hcc3];exact g8 hC1
  have hD0:HD[0]?=some (.arr 4 [dR x]):=by rw[hHD,dJ (by decide)];exact hC0
  have hDn:HD[0+H1.length]?=some (.arr 3 [gJ c]):=by rw[hHD,dJ (by omega)];exact hCn
  repeat((conv=>whnf);first|refine And.intro (by(conv=>whnf);refine b8 (gB _ _) ?_;rfl) ?_|refine And.intro (by(conv=>whnf);refine b8 hDn ?_;rfl) ?_|refine And.intro (by(conv=>whnf);refine b8 hCn ?_;rfl) ?_)
  have hnext:L0++(x.cols.take (k+1)).flatMap jX=Lk++eU c.name++[u8 c.kind,bif c.nul then 1 else 0]:=by
   rw[List.take_add_one,hcc,hLk]
   simp[jX]
  conv=>whnf
  refine⟨m-1,by omega,Gp.keep rfl ?_ fun ρ1 h=>⟨k+1,by omega,hD0,by rw[hnext];exact hD1,h⟩⟩
  rw[hnext]
  exact⟨rfl,eQ (by rw[hcc3,aD]) (by rw[hcc3,aD]),rfl,rfl,aN (aW ((k:Int)+1) (by omega) (by omega)),trivial⟩
 simp at hlt
 have hk2:x.cols.take k=x.cols:=List.take_of_length_le hlt
 rw[hk2]at g1 ⊢
 obtain⟨L1,hL1⟩:∃L1,L1=L0++x.cols.flatMap jX:=⟨_,rfl⟩
 rw[←hL1]at g1 ⊢
 have hL1l:L1.length≤400:=by
  have h1:=gV (f:=jX) (n:=27) (l:=x.cols) fun y hy=>by
   have:=(ok.cs y hy).1
   simp[jX,eU,bT];omega
  have h3:=Nat.mul_le_mul_left 27 hcl
  rw[hL1,List.length_append]
  omega
 have hkl:=ok.kl
 (conv=>whnf);refine b8 (g0) ?_
 (conv=>whnf);refine b8 (g1) ?_
 (conv=>whnf);refine b4 (by rw[aD];exact Nat.beq_refl _) ?_
 (conv=>whnf);refine And.intro (⟨by simp[aQ];omega,by simp[aQ];omega,rfl,by rw[aD]⟩) ?_
 obtain⟨L2,hL2⟩:∃L2,L2=L1++[u8 x.keys.length]:=⟨_,rfl⟩
 have hL2c:bC L1++[[a6.int IntKind.u8 (IntKind.u8.wrap ((zM x.keys).length:Int))]]=bC L2:=by rw[hL2,c9,iN];rfl
 obtain⟨H2,hH2⟩:∃H2,H2=H1.set 1 (.arr 1 (bC L1++[[a6.int IntKind.u8 (IntKind.u8.wrap ((zM x.keys).length:Int))]])):=⟨_,rfl⟩
 (conv=>whnf);refine eD hH2.symm ?_
 have h21:H2[1]?=some (bO L2):=by rw[hH2,hL2c];exact g8 g1
 have h20:H2[0]?=some (.arr 4 [dR x]):=by rw[hH2,dJ (by decide)];exact g0
 (conv=>whnf);refine b8 (h20) ?_
 have hL2l:L2.length≤401:=by rw[hL2];simp;omega
 have hkyl:∀y∈x.keys,(j8 y).length≤301:=fun y hy=>by
  obtain⟨q1,q2⟩:=ok.ks y hy
  have h1:=gV (f:=eU) (n:=25) (l:=y.2) fun t ht=>by
   have:=q2 t ht
   simp[eU,bT];omega
  have h3:=Nat.mul_le_mul_left 25 q1
  simp[j8]
  simp at h1
  omega
 conv=>whnf
 refine⟨fun m ρ H3=>∃k:Nat,k+m=x.keys.length∧H3[0]?=some (.arr 4 [dR x])∧H3[1]?=some (bO (L2++(x.keys.take k).flatMap j8)) ∧
  Sv 192 [(1,.ptr 0 1 0 0),(12,FG 1 (L2++(x.keys.take k).flatMap j8)),(124,.list x.ek 1 (zM x.keys)),(125,.int .i64 x.keys.length),(126,.int .i64 k)] ρ,x.keys.length,[],?_,?_⟩
 ·refine⟨0,by omega,h20,?_,Sv.intro rfl ⟨rfl,?_,rfl,aN (by rw[hkn]),rfl,trivial⟩⟩
  ·rw[List.take_zero,List.flatMap_nil,List.append_nil]
   exact h21
  ·rw[List.take_zero,List.flatMap_nil,List.append_nil]
   exact eQ (by rw[hL2c,aD]) (by rw[hL2c,aD])
 rintro m ρ H3 ⟨k,hk,g0,g1,d,rfl⟩
 (conv=>whnf);refine aE (fun hlt=>?_) (fun hlt=>?_)
 ·simp at hlt
  obtain⟨y,hy,r7,hym⟩:=aY hlt
  obtain⟨q1,q2⟩:=ok.ks y hym
  obtain⟨Lk,hLk⟩:∃Lk,Lk=L2++(x.keys.take k).flatMap j8:=⟨_,rfl⟩
  rw[←hLk]at g1 ⊢
  have hLkl:Lk.length≤5000:=by
   have h1:=gV (f:=j8) (n:=301) (l:=x.keys.take k) fun z hz=>hkyl z (List.mem_of_mem_take hz)
   have h2:(x.keys.take k).length≤12:=by rw[List.length_take];omega
   have h3:=Nat.mul_le_mul_left 301 h2
   rw[hLk,List.length_append]
   omega
  (conv=>whnf);refine And.intro (by omega) ?_
  (conv=>whnf);refine b8 (pW hy) ?_
  (conv=>whnf);refine b8 (g1) ?_
  (conv=>whnf);refine b4 (by rw[aD];exact Nat.beq_refl _) ?_
  (conv=>whnf);refine And.intro (⟨by simp[aQ];omega,by simp[aQ];omega,rfl,by rw[aD]⟩) ?_
  have hc3:bC Lk++[[a6.int .u8 (IntKind.u8.wrap ((sC y.2).length:Int))]]=bC (Lk++[u8 y.2.length]):=by rw[c9,aP];rfl
  obtain⟨H4,hH4⟩:∃H4,H4=H3.set 1 (.arr 1 (bC Lk++[[a6.int .u8 (IntKind.u8.wrap ((sC y.2).length:Int))]])):=⟨_,rfl⟩
  (conv=>whnf);refine eD hH4.symm ?_
  have h41:H4[1]?=some (bO (Lk++[u8 y.2.length])):=by rw[hH4,hc3];exact g8 g1
  have h40:H4[0]?=some (.arr 4 [dR x]):=by rw[hH4,dJ (by decide)];exact g0
  conv=>whnf
  refine⟨fun m2 ρ H5=>∃j:Nat,j+m2=y.2.length∧H5[0]?=some (.arr 4 [dR x])∧H5[1]?=some (bO (Lk++[u8 y.2.length]++(y.2.take j).flatMap eU)) ∧
   Sv 192 [(1,.ptr 0 1 0 0),(12,FG 1 (Lk++[u8 y.2.length]++(y.2.take j).flatMap eU)),(124,.list x.ek 1 (zM x.keys)),(125,.int .i64 x.keys.length),(126,.int .i64 k),(136,.list y.1 1 (sC y.2)),(137,.int .i64 y.2.length),(138,.int .i64 j)] ρ,y.2.length,[],?_,?_⟩
  ·refine⟨0,by omega,h40,?_,Sv.intro rfl ⟨rfl,?_,rfl,rfl,rfl,rfl,aN (by rw[aP]),rfl,trivial⟩⟩
   ·rw[List.take_zero,List.flatMap_nil,List.append_nil]
    exact h41
   ·rw[List.take_zero,List.flatMap_nil,List.append_nil]
    exact eQ (by rw[hc3,aD]) (by rw[hc3,aD])
  rintro m2 ρ H5 ⟨j,hj,f0,f1,d2,rfl⟩
  (conv=>whnf);refine aE (fun hlt2=>?_) (fun hlt2=>?_)
  ·simp at hlt2
   obtain⟨t,ht,_,htm⟩:=aY hlt2
   have ht24:=q2 t htm
   obtain⟨Lj,hLj⟩:∃Lj,Lj=Lk++[u8 y.2.length]++(y.2.take j).flatMap eU:=⟨_,rfl⟩
   rw[←hLj]at f1 ⊢
   have hLjl:Lj.length≤6000:=by
    have h1:=gV (f:=eU) (n:=25) (l:=y.2.take j) fun z hz=>by
     have:=q2 z (List.mem_of_mem_take hz)
     simp[eU,bT];omega
    have h2:(y.2.take j).length≤12:=by rw[List.length_take];omega
    have h3:=Nat.mul_le_mul_left 25 h2
    rw[hLj,List.length_append,List.length_append,List.length_singleton]
    omega
   have htl:(eU t).length≤25:=by simp[eU,bT];omega
   (conv=>whnf);refine And.intro (by omega) ?_
   (conv=>whnf);refine b8 (mI ht) ?_
   (conv=>whnf);refine a7.use (CM t (by omega) _) ?_
   (conv=>whnf);refine b8 (f1) ?_
   (conv=>whnf);refine b4 (by rw[aD];exact Nat.beq_refl _) ?_
   (conv=>whnf);refine And.intro (⟨by simp[aQ,aD];omega,by simp[aQ,aD];omega,rfl,by rw[aD]⟩) ?_
   have hc4:bC Lj++bC (eU t)=bC (Lj++eU t):=(c9 _ _).symm
   obtain⟨H6,hH6⟩:∃H6,H6=H5.set 1 (.arr 1 (bC Lj++bC (eU t))):=⟨_,rfl⟩
   (conv=>whnf);refine eD hH6.symm ?_
   have h61:H6[1]?=some (bO (Lj++eU t)):=by rw[hH6,hc4];exact g8 f1
   have h60:H6[0]?=some (.arr 4 [dR x]):=by rw[hH6,dJ (by decide)];exact f0
   have hnext:Lk++[u8 y.2.length]++(y.2.take (j+1)).flatMap eU=Lj++eU t:=by
    rw[List.take_add_one,ht,hLj]
    simp
   conv=>whnf
   refine⟨m2-1,by omega,Gp.keep rfl ?_ fun ρ1 h=>⟨j+1,by omega,h60,by rw[hnext];exact h61,h⟩⟩
   rw[hnext]
   exact⟨rfl,eQ (by rw[hc4,aD]) (by rw[hc4,aD]),rfl,rfl,rfl,rfl,rfl,aN (aW ((j:Int)+1) (by omega) (by omega)),trivial⟩
  ·simp at hlt2
   rw[List.take_of_length_le hlt2]at f1 ⊢
   have hnext:L2++(x.keys.take (k+1)).flatMap j8=Lk++[u8 y.2.length]++y.2.flatMap eU:=by
    rw[List.take_add_one,hy,hLk]
    simp[j8]
   conv=>whnf
   refine⟨m-1,by omega,Gp.keep rfl ?_ fun ρ1 h=>⟨k+1,by omega,f0,by rw[hnext];exact f1,h⟩⟩
   rw[hnext]
   exact⟨rfl,rfl,rfl,rfl,aN (aW ((k:Int)+1) (by omega) (by omega)),trivial⟩
 simp at hlt
 rw[List.take_of_length_le hlt]at g1 ⊢
 obtain⟨L3,hL3⟩:∃L3,L3=L2++x.keys.flatMap j8:=⟨_,rfl⟩
 rw[←hL3]at g1 ⊢
 have hL3l:L3.length≤5000:=by
  have h1:=gV (f:=j8) (n:=301) (l:=x.keys) hkyl
  have h3:=Nat.mul_le_mul_left 301 hkl
  rw[hL3,List.length_append]
  omega
 have hrl:=ok.rl
 (conv=>whnf);refine b8 (g0) ?_
 have num:∀(n:Int) (k:Nat),0≤n→n≤9000000→k≤100→∀H,a7 pr 41 [.int .i64 n,.int .i64 k] H (fun r H'=>r=.list false 1 (bC (j2 k n))∧H'=H):=fun n k h1 h2 h3 H=>w6 n k h1 (by omega) h3 H
 (conv=>whnf);refine a7.use (num ((eC x.rows).length:Int) 2 (by omega) (by omega) (by decide) _) ?_
 (conv=>whnf);refine b8 (g1) ?_
 (conv=>whnf);refine b4 (by rw[aD];exact Nat.beq_refl _) ?_
 (conv=>whnf);refine And.intro (⟨by simp[aQ,aD,bX];omega,by simp[aQ,aD,bX];omega,rfl,by rw[aD]⟩) ?_
 obtain⟨L4,hL4⟩:∃L4,L4=L3++j2 2 x.rows.length:=⟨_,rfl⟩
 have hL4c:bC L3++bC (j2 2 ((eC x.rows).length:Int))=bC L4:=by rw[hL4,c9,hn]
 obtain⟨H4,hH4⟩:∃H4,H4=H3.set 1 (.arr 1 (bC L3++bC (j2 2 ((eC x.rows).length:Int)))):=⟨_,rfl⟩
 (conv=>whnf);refine eD hH4.symm ?_
 have h41:H4[1]?=some (bO L4):=by rw[hH4,hL4c];exact g8 g1
 have h40:H4[0]?=some (.arr 4 [dR x]):=by rw[hH4,dJ (by decide)];exact g0
 conv=>whnf
 refine⟨fun m ρ H5=>∃k:Nat,k+m=x.rows.length∧H5[0]?=some (.arr 4 [dR x])∧H5[1]?=some (bO (L4++(x.rows.take k).flatMap jE)) ∧
  Sv 192 [(1,.ptr 0 1 0 0),(12,FG 1 (L4++(x.rows.take k).flatMap jE)),(19,.int .i64 k)] ρ,x.rows.length,[],?_,?_⟩
 ·refine⟨0,by omega,h40,?_,Sv.intro rfl ⟨rfl,?_,rfl,trivial⟩⟩
  ·rw[List.take_zero,List.flatMap_nil,List.append_nil]
   exact h41
  ·rw[List.take_zero,List.flatMap_nil,List.append_nil]
   exact eQ (by rw[hL4c,aD]) (by rw[hL4c,aD])
 rintro m ρ H5 ⟨k,hk,g0,g1,d,rfl⟩
 (conv=>whnf);refine b8 (g0) ?_
 (conv=>whnf);refine aE (fun hlt=>?_) (fun hlt=>?_)
 ·rw[hn]at hlt
  simp at hlt
  obtain⟨e,he,r7,hem⟩:=aY hlt
  (conv=>whnf);refine b8 (g0) ?_
  (conv=>whnf);refine And.intro (by omega) ?_
  (conv=>whnf);refine b8 (fE he) ?_
  obtain⟨r1,r2,r3,r4⟩:=ok.rs e hem
  have henc:=fun H=>xP false e.row H
  rw[B6 r1 r4]at henc
  have hel:(eY e.row).length≤793:=rO (by unfold DM;rw[if_neg (by omega),if_pos (List.all_eq_true.2 r4)])
  obtain⟨Lk,hLk⟩:∃Lk,Lk=L4++(x.rows.take k).flatMap jE:=⟨_,rfl⟩
  rw[←hLk]at g1 ⊢
  have hLkl:Lk.length≤5000000:=by
   have h1:=gV (f:=jE) (n:=798) (l:=x.rows.take k) fun z hz=>by
    obtain⟨z1,_,_,z4⟩:=ok.rs z (List.mem_of_mem_take hz)
    have:=rO (row:=z.row) (by unfold DM;rw[if_neg (by omega),if_pos (List.all_eq_true.2 z4)])
    simp[jE,bX];omega
   have h2:(x.rows.take k).length≤4096:=by rw[List.length_take];omega
   have h3:=Nat.mul_le_mul_left 798 h2
   rw[hLk,List.length_append,hL4,List.length_append,bX]
   omega
  (conv=>whnf);refine a7.use (henc _) ?_
  (conv=>whnf);refine b8 (g0) ?_
  (conv=>whnf);refine And.intro (by omega) ?_
  (conv=>whnf);refine b8 (fE he) ?_
  (conv=>whnf);refine a7.use (num e.cnt 3 (by omega) (by omega) (by decide) _) ?_
  (conv=>whnf);refine b8 (g1) ?_
  (conv=>whnf);refine b4 (by rw[aD];exact Nat.beq_refl _) ?_
  (conv=>whnf);refine And.intro (⟨by simp[aQ,aD,bX];omega,by simp[aQ,aD,bX];omega,rfl,by rw[aD]⟩) ?_
  have hc6:bC Lk++bC (j2 3 e.cnt)=bC (Lk++j2 3 e.cnt):=(c9 _ _).symm
  obtain⟨H6,hH6⟩:∃H6,H6=H5.set 1 (.arr 1 (bC Lk++bC (j2 3 e.cnt))):=⟨_,rfl⟩
  (conv=>whnf);refine eD hH6.symm ?_
  have h61:H6[1]?=some (bO (Lk++j2 3 e.cnt)):=by rw[hH6,hc6];exact g8 g1
  have h60:H6[0]?=some (.arr 4 [dR x]):=by rw[hH6,dJ (by decide)];exact g0
  have hbl:=aD (eY e.row)
  (conv=>whnf);refine a7.use (num ((bC (eY e.row)).length:Int) 2 (by omega) (by omega) (by decide) _) ?_
  (conv=>whnf);refine b8 (h61) ?_
  (conv=>whnf);refine b4 (by rw[hc6,aD];exact Nat.beq_refl _) ?_
  (conv=>whnf);refine And.intro (⟨by simp[aQ,aD,bX];omega,by simp[aQ,aD,bX];omega,rfl,by rw[hc6,aD]⟩) ?_
  obtain⟨Lm,hLm⟩:∃Lm,Lm=Lk++j2 3 e.cnt++j2 2 ((bC (eY e.row)).length:Int):=⟨_,rfl⟩
  have hLml:Lm.length≤5000010:=by rw[hLm];simp[bX];omega
  have hc7:bC (Lk++j2 3 e.cnt)++bC (j2 2 ((bC (eY e.row)).length:Int))=bC Lm:=by rw[hLm,c9 (Lk++j2 3 e.cnt)]
  obtain⟨H7,hH7⟩:∃H7,H7=H6.set 1 (.arr 1 (bC (Lk++j2 3 e.cnt)++bC (j2 2 ((bC (eY e.row)).length:Int)))):=⟨_,rfl⟩
  (conv=>whnf);refine eD hH7.symm ?_
  have h71:H7[1]?=some (bO Lm):=by rw[hH7,hc7];exact g8 h61
  have h70:H7[0]?=some (.arr 4 [dR x]):=by rw[hH7,dJ (by decide)];exact h60
  (conv=>whnf);refine b8 (h71) ?_
  (conv=>whnf);refine b4 (by rw[hc7,aD];exact Nat.beq_refl _) ?_
  have b3:(j2 3 e.cnt).length=3:=bX _ _
  have b2:(j2 2 ((bC (eY e.row)).length:Int)).length=2:=bX _ _
  (conv=>whnf);refine And.intro (⟨by simp only[aQ,aD,List.length_append]at *;omega,by simp only[aQ,aD,List.length_append]at *;omega,rfl,by rw[hc7,aD]⟩) ?_
  obtain⟨H8,hH8⟩:∃H8,H8=H7.set 1 (.arr 1 (bC Lm++bC (eY e.row))):=⟨_,rfl⟩
  (conv=>whnf);refine eD hH8.symm ?_
  have h81:H8[1]?=some (bO (Lm++eY e.row)):=by rw[hH8,←c9];exact g8 h71
  have h80:H8[0]?=some (.arr 4 [dR x]):=by rw[hH8,dJ (by decide)];exact h70
  have hnext:L4++(x.rows.take (k+1)).flatMap jE=Lm++eY e.row:=by
   rw[List.take_add_one,he,hLm,hLk,hbl]
   simp[jE]
  conv=>whnf
  refine⟨m-1,by omega,Gp.keep rfl ?_ fun ρ1 h=>⟨k+1,by omega,h80,by rw[hnext];exact h81,h⟩⟩
  rw[hnext]
  exact⟨rfl,eQ (by rw[←c9,aD]) (by rw[←c9,aD]),aN (aW ((k:Int)+1) (by omega) (by omega)),trivial⟩
 ·simp at hlt
  rw[List.take_of_length_le (by omega)]at g1 ⊢
  have hpl:cH x=L4++x.rows.flatMap jE:=by
   rw[hL4,hL3,hL2,hL1,hL0]
   simp[cH]
  rw[←hpl]at g1 ⊢
  (conv=>whnf);refine b8 (g1) ?_
  (conv=>whnf);refine b4 (by rw[aD];exact Nat.beq_refl _) ?_
  (conv=>whnf);refine aE (fun h6=>?_) (fun h6=>?_)
  ·conv=>whnf
   simp at h6
   exact U6 (hpk.trans (if_pos (by omega)))
  ·conv=>whnf
   simp at h6
   exact .inr ⟨1,rfl,g1,hpk.trans (if_neg (by omega))⟩
theorem uU(x:r6)(hx:x.Fit)(H:List aB):
  a7 pr 27 [.agg (dR x)] H (fun r H'=>r=mE x∧H'=H):=by
 refine a7.pure rfl ((EP x hx).mono fun r H1 h=>?_)
 rcases h with⟨rfl,e,h⟩|⟨id,rfl,ho,h⟩
 ·rw[h];exact dP (.closed _ rfl) (.closed _ rfl)
 ·rw[h];exact dP (qH ho (aD _).symm (aD _).symm (dQ _)) (.closed _ rfl)
set_option maxRecDepth 20000 in
theorem u5(n:Int)(hn:0≤n)(hn6:n≤4)(s:dH)(hby:fI s.rest):
  a7 pr 79 [.ptr 0 1 0 0,.int .i64 n] [fV s] (fun r H'=>r=.int .i64 (lR n s)∧H'=[fV (kQ n s)]):=by
 have hl:=qL (s:=s) hn
 have hb:=lH (n:=n) hby
 refine aA k79.has ?_
 (conv=>whnf);refine a7.mono (sK ⟨81,k81.has⟩ n hn s) ?_
 rintro r H' ⟨rfl,rfl⟩
 conv=>whnf
 refine⟨fun m ρ H=>∃(k:Nat) (acc:Int),k+m=(pJ n s).length∧0≤acc∧acc<256 ^ k∧((pJ n s).drop k).foldl (fun n x=>n*256+x) acc=num (pJ n s)∧H=[fV (kQ n s)] ∧
  Sv 23 [(5,.int .i64 acc),(10,.list false 1 (bC (pJ n s))),(11,.int .i64 (pJ n s).length),(12,.int .i64 k)] ρ,(pJ n s).length,[],?_,?_⟩
 ·exact⟨0,0,by omega,by omega,by omega,rfl,rfl,Sv.intro rfl ⟨rfl,rfl,aN (by rw[aD]),rfl,trivial⟩⟩
 rintro m ρ H ⟨k,acc,hk,h0,h1,hr,rfl,d,rfl⟩
 (conv=>whnf);refine aE (fun hlt=>?_) (fun hlt=>?_)
 ·simp at hlt
  obtain⟨x,hx,hd,hmem⟩:=aY hlt
  have hxb:=hb x hmem
  (conv=>whnf);refine And.intro (by omega) ?_
  (conv=>whnf);refine b8 (jZ hx) ?_
  conv=>whnf
  have hp:(256:Int) ^ k≤256 ^ 4:=by
   have:(256:Nat) ^ k≤256 ^ 4:=Nat.pow_le_pow_right (by omega) (by omega)
   exact_mod_cast this
  have hp2:(256:Int) ^ (k+1)=256 ^ k*256:=Int.pow_succ ..
  refine⟨m-1,by omega,Gp.keep rfl ?_ fun ρ1 h=>⟨k+1,acc*256+x,by omega,by omega,by omega,?_,rfl,h⟩⟩
  ·refine⟨aN ?_,rfl,rfl,aN (aW ((k:Int)+1) (by omega) (by omega)),trivial⟩
   show IntKind.i64.wrap (IntKind.i64.wrap (acc*256)+IntKind.i64.wrap x)=_
   rw[aW (acc*256) (by omega) (by omega),aW x (by omega) (by omega),aW _ (by omega) (by omega)]
  ·rw[←hr,hd];rfl
 ·simp at hlt
  conv=>whnf
  rw[List.drop_eq_nil_of_le hlt]at hr
  exact⟨aN hr,rfl⟩
theorem cK(n:Int)(hn:0≤n)(hn6:n≤4)(s:dH)(hby:fI s.rest)(H:List aB)(id:Nat)(ho:H[id]?=some (fV s)):
  a7 pr 79 [.ptr id 1 0 0,.int .i64 n] H (fun r H'=>r=.int .i64 (lR n s)∧H'=H.set id (fV (kQ n s))) :=
 (u5 n hn hn6 s hby).fr ho rfl rfl (.pt (.cl rfl trivial)) (.closed _ rfl)
set_option maxRecDepth 20000 in
theorem JJ(s:dH)(hby:fI s.rest):
  a7 pr 78 [.ptr 0 1 0 0] [fV s] (fun r H'=>r=.str (fH s)∧H'=[fV (uD s)]):=by
 refine aA k78.has ?_
 (conv=>whnf);refine a7.mono (u5 1 (by omega) (by omega) s hby) ?_
 rintro r H' ⟨rfl,rfl⟩
 (conv=>whnf);refine a7.mono (sK ⟨81,k81.has⟩ _ (mT (by omega) (by omega) hby).1 (kQ 1 s)) ?_
 rintro r H' ⟨rfl,rfl⟩
 (conv=>whnf);refine⟨_,fX _,?_⟩
 conv=>whnf
 exact⟨rfl,rfl⟩
theorem kJ(s:dH)(hby:fI s.rest)(H:List aB)(id:Nat)(ho:H[id]?=some (fV s)):
  a7 pr 78 [.ptr id 1 0 0] H (fun r H'=>r=.str (fH s)∧H'=H.set id (fV (uD s))) :=
 (JJ s hby).fr ho rfl rfl (.pt trivial) (.closed _ rfl)
def HI(fl:Int→Bool)(s:dH):c8:=⟨fH s,lR 1 (uD s),fl (lR 1 (kQ 1 (uD s)))⟩
def TM(s:dH):dH:=kQ 1 (kQ 1 (uD s))
def k9(fl:Int→Bool):Nat→dH→List c8→List c8×dH
 |0,s,L=>(L,s)
 |n+1,s,L=>if s.bad then(L,s)else k9 fl n (TM s) (L++[HI fl s])
def kP:Nat→dH→List ByteArray→List ByteArray×dH
 |0,s,L=>(L,s)
 |n+1,s,L=>if s.bad then(L,s)else kP n (uD s) (L++[fH s])
def xG(s:dH):List ByteArray×dH:=kP (lR 1 s).toNat (kQ 1 s) []
def kF:Nat→dH→List (List ByteArray)→List (List ByteArray)×dH
 |0,s,L=>(L,s)
 |n+1,s,L=>if s.bad then(L,s)else kF n (xG s).2 (L++[(xG s).1])
def V5(s:dH):dH:=kQ 2 (kQ 3 s)
def KQ(s:dH):List Int:=pJ (lR 2 (kQ 3 s)) (V5 s)
def PM(s:dH):dH:=kQ (lR 2 (kQ 3 s)) (V5 s)
def f5(s:dH):Option (List V)×Int:=(Q8 (KQ s),lR 3 s)
def kL(s:dH):dH:=match Q8 (KQ s)with
 |some _=>PM s
 |none=>⟨(PM s).rest,true⟩
def iR:Nat→dH→List (Option (List V)×Int)→List (Option (List V)×Int)×dH
 |0,s,L=>(L,s)
 |n+1,s,L=>if s.bad then(L,s)else iR n (kL s) (L++[f5 s])
def MG(fl:Int→Bool)(s:dH):List c8×dH:=k9 fl (lR 1 (uD s)).toNat (kQ 1 (uD s)) []
def GI(fl:Int→Bool)(s:dH):List (List ByteArray)×dH:=kF (lR 1 (MG fl s).2).toNat (kQ 1 (MG fl s).2) []
def JT(fl:Int→Bool)(s:dH):List (Option (List V)×Int)×dH:=iR (lR 2 (GI fl s).2).toNat (kQ 2 (GI fl s).2) []
def B7(p:Option (List V)×Int):cW:=⟨p.1.getD [],p.2⟩
def tM(fl:Int→Bool)(s:dH):r6:=⟨fH s,false,(MG fl s).1,false,(GI fl s).1.map fun k=>(false,k),false,(JT fl s).1.map B7⟩
def uX(fl:Int→Bool)(s:dH):dH:=(JT fl s).2
def dH.To(s t:dH):Prop:=fI t.rest∧t.rest.length≤s.rest.length
theorem dH.To.tk{s t:dH}(h:s.To t)(n:Int):s.To (kQ n t):=⟨gY h.1,Nat.le_trans (GV _ _) h.2⟩
theorem dH.To.tx{s t:dH}(h:s.To t):s.To (uD t):=⟨iZ h.1,Nat.le_trans (UP _) h.2⟩
theorem dH.To.col{s t:dH}(h:s.To t):s.To (TM t):=(h.tx.tk 1).tk 1
theorem dH.To.row{s t:dH}(h:s.To t):s.To (kL t):=by
 have h3:s.To (PM t):=((h.tk 3).tk 2).tk _
 unfold kL
 split
 ·exact h3
 ·exact h3
theorem dH.To.strs:∀(n:Nat) {s t:dH}{L:List ByteArray},s.To t→s.To (kP n t L).2
 |0,_,_,_,h=>h
 |n+1,s,t,L,h=>by
  unfold kP
  split
  ·exact h
  ·exact dH.To.strs n h.tx
theorem dH.To.key{s t:dH}(h:s.To t):s.To (xG t).2:=dH.To.strs _ (h.tk 1)
theorem dH.To.cols(fl:Int→Bool):∀(n:Nat) {s t:dH}{L:List c8},s.To t→s.To (k9 fl n t L).2
 |0,_,_,_,h=>h
 |n+1,s,t,L,h=>by
  unfold k9
  split
  ·exact h
  ·exact dH.To.cols fl n h.col
theorem dH.To.keys:∀(n:Nat) {s t:dH}{L:List (List ByteArray)},s.To t→s.To (kF n t L).2
 |0,_,_,_,h=>h
 |n+1,s,t,L,h=>by
  unfold kF
  split
  ·exact h
  ·exact dH.To.keys n h.key
theorem dH.To.refl{s:dH}(h:fI s.rest):s.To s:=⟨h,Nat.le_refl _⟩
theorem E1(fl:Int→Bool):∀(n:Nat) (s:dH) (L:List c8),(k9 fl n s L).1.length≤L.length+n
 |0,_,_=>Nat.le_refl _
 |n+1,s,L=>by
  unfold k9
  split
  ·exact Nat.le_add_right _ _
  ·have:=E1 fl n (TM s) (L++[HI fl s]);rw[List.length_append]at this;simp only[List.length_singleton]at this;omega
theorem EV:∀(n:Nat) (s:dH) (L:List (Option (List V)×Int)),(iR n s L).1.length≤L.length+n
 |0,_,_=>Nat.le_refl _
 |n+1,s,L=>by
  unfold iR
  split
  ·exact Nat.le_add_right _ _
  ·have:=EV n (kL s) (L++[f5 s]);rw[List.length_append]at this;simp only[List.length_singleton]at this;omega
set_option maxRecDepth 20000 in
theorem TY{s:dH}(h:fI s.rest):0≤lR 1 s∧lR 1 s≤255:=by
 have h1:=AA _ (lH (n:=1) (s:=s) h)
 have h2:=qL (n:=1) (s:=s) (by omega)
 have h3:(256:Int) ^ (pJ 1 s).length≤256 ^ 1:=by
  have:(256:Nat) ^ (pJ 1 s).length≤256 ^ 1:=Nat.pow_le_pow_right (by omega) (by omega)
  exact_mod_cast this
 have h4:(256:Int) ^ 1=256:=by decide
 show 0≤num (pJ 1 s)∧num (pJ 1 s)≤255
 omega
set_option maxRecDepth 20000 in
theorem YP{s:dH}(h:fI s.rest):0≤lR 2 s∧lR 2 s≤65535:=by
 have h1:=AA _ (lH (n:=2) (s:=s) h)
 have h2:=qL (n:=2) (s:=s) (by omega)
 have h3:(256:Int) ^ (pJ 2 s).length≤256 ^ 2:=by
  have:(256:Nat) ^ (pJ 2 s).length≤256 ^ 2:=Nat.pow_le_pow_right (by omega) (by omega)
  exact_mod_cast this
 have h4:(256:Int) ^ 2=65536:=by decide
 show 0≤num (pJ 2 s)∧num (pJ 2 s)≤65535
 omega
def CL(a:a6)(sz:Nat)(es:List (List a6)):Prop:=(a=.nil∧es=[])∨a=.list false sz es
theorem CL.wk{a:a6}{sz:Nat}{es:List (List a6)}(h:CL a sz es):gG a (.list false sz es):=by
 rcases h with⟨rfl,rfl⟩|rfl
 ·exact .nil _ _
 ·exact .refl _
theorem CL.closed{a:a6}{sz:Nat}{es:List (List a6)}(h:CL a sz es):a.isPure=true:=by
 rcases h with⟨rfl,rfl⟩|rfl<;>rfl
def u3(cs:List a6):List (List a6):=cs.map fun c=>[c]
def zH(cs:List a6)(L:List (List ByteArray)):Prop:=cs.length=L.length∧∀(i:Nat) (c:a6) (k:List ByteArray),cs[i]?=some c→L[i]?=some k→CL c 1 (sC k)
def tP(p:Option (List V)×Int):List a6:=match p.1 with
 |some r=>[.list false 3 (vC r),.int .i64 p.2]
 |none=>[.nil,.int .i64 p.2]
def iH(L:List (Option (List V)×Int)):List (List a6):=L.map tP
theorem fF(L:List (Option (List V)×Int)):bG (iH L)=true:=by
 simp only[bG,iH,List.all_map,List.all_eq_true]
 rintro⟨p,n⟩ _
 cases p<;>rfl
theorem sD(a b:List (Option (List V)×Int)):iH (a++b)=iH a++iH b:=List.map_append
theorem d5(a:List (Option (List V)×Int)):(iH a).length=a.length:=List.length_map ..
theorem BS(a b:List a6):u3 (a++b)=u3 a++u3 b:=List.map_append
theorem eT(a:List a6):(u3 a).length=a.length:=List.length_map ..
theorem zH.snoc{cs:List a6}{L:List (List ByteArray)}(h:zH cs L){c:a6}{k:List ByteArray}(hc:CL c 1 (sC k)):zH (cs++[c]) (L++[k]):=by
 refine⟨by simp[h.1],fun i c' k' h1 h2=>?_⟩
 by_cases hi:i<cs.length
 ·rw[List.getElem?_append_left hi]at h1
  rw[List.getElem?_append_left (by rw[←h.1];exact hi)]at h2
  exact h.2 i c' k' h1 h2
 ·rw[List.getElem?_append_right (by omega)]at h1
  rw[List.getElem?_append_right (by rw[←h.1];omega)]at h2
  have e1:=(List.getElem?_eq_some_iff.1 h1).1
  simp at e1
  rw[show i-cs.length=0 from by omega]at h1
  rw[show i-L.length=0 from by rw[←h.1];omega]at h2
  simp at h1 h2
  subst h1 h2
  exact hc
theorem zH.pure{cs:List a6}{L:List (List ByteArray)}(h:zH cs L):bG (u3 cs)=true:=by
 simp only[bG,u3,List.all_map,List.all_eq_true]
 intro c hc
 obtain⟨i,hi,rfl⟩:=List.getElem_of_mem hc
 have:=(h.2 i cs[i] (L[i]'(by rw[←h.1];exact hi)) (List.getElem?_eq_getElem hi) (List.getElem?_eq_getElem _)).closed
 simpa using this
def eG(nm:ByteArray)(a b c:a6):aB:=.arr 4 [[.str nm,a,b,c]]
end Go.AW
namespace Go.AW
variable [dK]
def aC(P:Program)(f:FuncId)(vs:List a6)(S:a6→Prop):Prop :=
 ∃r,S r∧∀H,a7 P f vs H (fun r' H'=>r'=r∧H'=H)
theorem aC.mono{P:Program}{f:FuncId}{vs:List a6}{S T:a6→Prop}(h:aC P f vs S)(hs:∀r,S r→T r):aC P f vs T:=by
 obtain⟨r,h1,h2⟩:=h
 exact⟨r,hs r h1,h2⟩
theorem aC.of{P:Program}{f:FuncId}{vs:List a6}{R:a6}(h:∀H,a7 P f vs H (fun r' H'=>r'=R∧H'=H)):aC P f vs (fun r=>r=R):=⟨R,rfl,h⟩
def bH(P:Program)(f:FuncId)(vs:List a6)(H:List aB)(k:a6→List aB→Prop):Prop :=
 ∃r H1,k r H1∧a7 P f vs H (fun r' H'=>r'=r∧H'=H1)
def oL(P:Program)(f:FuncId)(vs:List a6)(k:a6→Prop):Prop :=
 ∃r,k r∧∀H,a7 P f vs H (fun r' H'=>r'=r∧H'=H)
theorem aC.use{P:Program}{f:FuncId}{vs:List a6}{S:a6→Prop}{H:List aB}{k:a6→List aB→Prop}(h:aC P f vs S)(hk:∀r,S r→k r H):bH P f vs H k:=by
 obtain⟨r,h1,h2⟩:=h
 exact⟨r,H,hk r h1,h2 H⟩
theorem aC.draw{P:Program}{f:FuncId}{vs:List a6}{S:a6→Prop}{k:a6→Prop}(h:aC P f vs S)(hk:∀r,S r→k r):oL P f vs k:=by
 obtain⟨r,h1,h2⟩:=h
 exact⟨r,hk r h1,h2⟩
theorem bH.of{P:Program}{f:FuncId}{vs:List a6}{H H1:List aB}{R:a6}{k:a6→List aB→Prop}(h:a7 P f vs H (fun r' H'=>r'=R∧H'=H1))(hk:k R H1):bH P f vs H k:=⟨R,H1,hk,h⟩
def RZ(dr:Bool)(P:Program)(o:oK)(ρ:List a6)(H:List aB)(K:a6→List aB→Prop):Prop :=
 match o with
 |.call f args=>tJ ρ args fun vs=>match dr with
  |true=>oL P f vs fun r=>K r H
  |false=>bH P f vs H K
 |.callv x args=>fL ρ x fun v=>tJ ρ args fun vs=>match v with
  |.fn f caps=>match dr with
   |true=>oL P f (vs++caps) fun r=>K r H
   |false=>bH P f (vs++caps) H K
  |_=>False
 |.callE f args=>tJ ρ args fun vs=>bH P f vs H K
 |.callvE x args=>fL ρ x fun v=>tJ ρ args fun vs=>match v with
  |.fn f caps=>bH P f (vs++caps) H K
  |_=>False
 |o=>match o.quiet with
  |true=>EI P o ρ H fun v=>K v H
  |false=>match o.effect with
   |true=>QA P o ρ H K
   |false=>False
theorem M8{P:Program}{ρ:List a6}{H:List aB}{o:oK}{v:a6}(hc:∀f args,o≠.call f args)(hv:∀x args,o≠.callv x args)(h:KY P o ρ H v)(k:a6→Prop)(hk:k v):EI P o ρ H k:=by
 have h:=h (fun v' _=>k v') hk
 cases o<;>first|exact h|exact absurd rfl (hc _ _)|exact absurd rfl (hv _ _)
theorem M7{P:Program}{ρ:List a6}{H H':List aB}{o:oK}{v:a6}(hc:∀f args,o≠.callE f args)(hv:∀x args,o≠.callvE x args)(h:sS P o ρ H v H')(K:a6→List aB→Prop)(hk:K v H'):QA P o ρ H K:=by
 have h:=h K hk
 cases o<;>first|exact h|exact absurd rfl (hc _ _)|exact absurd rfl (hv _ _)
def qS(P:Program)(o:oK)(ρ:List a6)(v:a6):List aB→Prop :=
 match o with
 |.call _ _ | .callv _ _=>fun _=>v=v
 |o=>fun H'=>EI P o ρ H' fun v'=>v'=v
def UT(dr:Bool)(P:Program)(o:oK)(ρ:List a6)(H:List aB)(v:a6)(H':List aB):Prop :=
 sS P o ρ H v H'∧(dr=true→o.quiet=true→H'=H∧(∀k:a6→Prop,k v→EI P o ρ H k)∧∀H2,qS P o ρ v H2→EI P o ρ H2 (fun v'=>v'=v))∧(o.quiet=false→∀K':a6→List aB→Prop,K' v H'→QA P o ρ H K')
theorem U9{P:Program}{ρ:List a6}{o:oK}{v:a6}(h1:∀f args,o≠.call f args)(h2:∀x args,o≠.callv x args)(H:List aB)(h:qS P o ρ v H):EI P o ρ H (fun v'=>v'=v):=by
 cases o<;>first|exact h|exact absurd rfl (h1 _ _)|exact absurd rfl (h2 _ _)
theorem S0{dr:Bool}{P:Program}{ρ:List a6}{H:List aB}{o:oK}{K:a6→List aB→Prop}(h1:∀f args,o≠.call f args)(h2:∀x args,o≠.callv x args)(h3:∀f args,o≠.callE f args)(h4:∀x args,o≠.callvE x args)
  (h:match o.quiet with
   |true=>EI P o ρ H fun v=>K v H
   |false=>match o.effect with
    |true=>QA P o ρ H K
    |false=>False):∃v H',K v H'∧UT dr P o ρ H v H':=by
 cases hq:o.quiet with
 |true =>
  rw[hq]at h
  obtain⟨v,hv,hy⟩:=G7 hq h
  exact⟨v,H,hv,hy,fun _ _=>⟨rfl,M8 h1 h2 hy,U9 h1 h2⟩,(fun hn=>by rw[hq]at hn;cases hn)⟩
 |false =>
  rw[hq]at h
  cases he:o.effect with
  |true =>
   rw[he]at h
   obtain⟨v,H',hk,hy⟩:=NX he h
   exact⟨v,H',hk,hy,(fun _ hn=>by rw[hq]at hn;cases hn),fun _=>M7 h3 h4 hy⟩
  |false=>rw[he]at h;exact h.elim
theorem NY{dr:Bool}{P:Program}{ρ:List a6}{H:List aB}{o:oK}{K:a6→List aB→Prop}(h:RZ dr P o ρ H K):∃v H',K v H'∧UT dr P o ρ H v H':=by
 cases o
 case call f args =>
  simp only[RZ,dA]at h
  cases dr with
  |true =>
   obtain⟨r,hk,hc⟩:=h
   refine⟨r,H,hk,?_,fun _ _=>⟨rfl,fun k hk=>?_,fun H2 _=>?_⟩,(fun hn=>by cases hn)⟩
   ·intro K' hK'
    simp only[d7,dA]
    exact(hc H).ret' hK'
   ·simp only[EI,dA]
    exact⟨r,hc H,hk⟩
   ·simp only[EI,dA]
    exact⟨r,hc H2,rfl⟩
  |false =>
   obtain⟨r,H1,hk,hc⟩:=h
   refine⟨r,H1,hk,?_,(fun hn=>by cases hn),(fun hn=>by cases hn)⟩
   intro K' hK'
   simp only[d7,dA]
   exact hc.ret' hK'
 case callv x args =>
  simp only[RZ,bD,dA]at h
  split at h
  ·rename_i f caps hx
   cases dr with
   |true =>
    obtain⟨r,hk,hc⟩:=h
    refine⟨r,H,hk,?_,fun _ _=>⟨rfl,fun k hk=>?_,fun H2 _=>?_⟩,(fun hn=>by cases hn)⟩
    ·intro K' hK'
     simp only[d7,bD,dA,hx]
     exact(hc H).ret' hK'
    ·simp only[EI,bD,dA,hx]
     exact⟨r,hc H,hk⟩
    ·simp only[EI,bD,dA,hx]
     exact⟨r,hc H2,rfl⟩
   |false =>
    obtain⟨r,H1,hk,hc⟩:=h
    refine⟨r,H1,hk,?_,(fun hn=>by cases hn),(fun hn=>by cases hn)⟩
    intro K' hK'
    simp only[d7,bD,dA,hx]
    exact hc.ret' hK'
  ·exact h.elim
 case callE f args =>
  simp only[RZ,dA]at h
  obtain⟨r,H1,hk,hc⟩:=h
  refine⟨r,H1,hk,?_,(fun _ hn=>by cases hn),fun _ K' hK'=>?_⟩
  ·intro K' hK'
   simp only[d7,dA]
   exact hc.ret' hK'
  ·simp only[QA,dA]
   exact⟨r,H1,hc,hK'⟩
 case callvE x args =>
  simp only[RZ,bD,dA]at h
  split at h
  ·rename_i f caps hx
   obtain⟨r,H1,hk,hc⟩:=h
   refine⟨r,H1,hk,?_,(fun _ hn=>by cases hn),fun _ K' hK'=>?_⟩
   ·intro K' hK'
    simp only[d7,bD,dA,hx]
    exact hc.ret' hK'
   ·simp only[QA,bD,dA,hx]
    exact⟨r,H1,hc,hK'⟩
  ·exact h.elim
 all_goals exact S0 (fun _ _ h=>by cases h) (fun _ _ h=>by cases h) (fun _ _ h=>by cases h) (fun _ _ h=>by cases h) h
def JY(P:Program)(is:List cT):List a6→List aB→(List a6→List aB→Prop)→Prop :=
 @List.rec cT (fun _=>List a6→List aB→(List a6→List aB→Prop)→Prop) (fun ρ H K=>K ρ H)
  (fun i _ ih ρ H K=>j7 ρ i.guard fun ρ t=>match t with
   |true=>RZ false P i.op ρ H fun v H'=>oH ρ i.dst v fun ρ'=>ih ρ' H' K
   |false=>oH ρ i.dst (.tuple []) fun ρ'=>ih ρ' H K) is
theorem PK(P:Program)(i:cT)(is:List cT)(ρ:List a6)(H:List aB)(K:List a6→List aB→Prop):JY P (i::is) ρ H K=j7 ρ i.guard fun ρ t=>match t with
  |true=>RZ false P i.op ρ H fun v H'=>oH ρ i.dst v fun ρ'=>JY P is ρ' H' K
  |false=>oH ρ i.dst (.tuple []) fun ρ'=>JY P is ρ' H K:=rfl
theorem oX{ρ:List a6}{g:Option (Option Nat×Bool)}{t:Bool}(h:l7 ρ g=some t){k:List a6→Bool→Prop}(hk:k ρ t):j7 ρ g k:=by
 unfold l7 at h
 unfold j7
 split at h
 ·cases h;exact hk
 ·rename_i d want
  simp only[jI]
  split at h
  ·rename_i b hv
   cases h
   simp only[hv,eN,mP,y6 _ _ _ hv]
   exact hk
  ·rename_i hv
   cases h
   simp only[hv]
   exact hk
  ·cases h
 ·cases h
theorem CP{P:Program}:∀(is:List cT) {ρ:List a6}{H:List aB}{K:List a6→List aB→Prop},JY P is ρ H K →
  ∃ρ' H',K ρ' H'∧∀K':List a6→List aB→Prop,K' ρ' H'→PJ P is ρ H K'
 |[],ρ,H,K,h=>⟨ρ,H,h,fun _ hk=>hk⟩
 |i::is,ρ,H,K,h=>by
  rw[PK]at h
  obtain⟨t,ht,h⟩:=uO h
  cases t with
  |true =>
   obtain⟨v,H1,h,hy,_⟩:=NY (show RZ false P i.op ρ H _ from h)
   rw[fU]at h
   obtain⟨ρ',H',hk,hr⟩:=CP is h
   refine⟨ρ',H',hk,fun K' hK'=>?_⟩
   rw[y5]
   refine oX ht (hy _ ?_)
   rw[fU]
   exact hr _ hK'
  |false =>
   simp only[fU]at h
   obtain⟨ρ',H',hk,hr⟩:=CP is h
   refine⟨ρ',H',hk,fun K' hK'=>?_⟩
   rw[y5]
   refine oX ht ?_
   simp only[fU]
   exact hr _ hK'
def CN(P:Program)(is:List (cT×List Nat)):List (List Nat×(List aB→Prop))→List (List aB)→List a6→List aB→(List a6→List aB→Prop)→Prop :=
 @List.rec (cT×List Nat) (fun _=>List (List Nat×(List aB→Prop))→List (List aB)→List a6→List aB→(List a6→List aB→Prop)→Prop)
  (fun cs Hs ρ H K=>rI cs (H::Hs) (K ρ H))
  (fun p _ ih cs Hs ρ H K=>match p with
   |(i,ps)=>j7 ρ i.guard fun ρ t=>match t with
    |true=>RZ true P i.op ρ H fun v H'=>oH ρ i.dst v fun ρ'=>match i.op.quiet with
     |true=>ih (FC ps (qS P i.op ρ v) cs) (H::Hs) ρ' H' K
     |false=>ih cs (H::Hs) ρ' H' K
    |false=>oH ρ i.dst (.tuple []) fun ρ'=>ih cs (H::Hs) ρ' H K) is
theorem MI(P:Program)(i:cT)(ps:List Nat)(is:List (cT×List Nat))(cs:List (List Nat×(List aB→Prop)))(Hs:List (List aB))(ρ:List a6)(H:List aB)(K:List a6→List aB→Prop):
  CN P ((i,ps)::is) cs Hs ρ H K=j7 ρ i.guard fun ρ t=>match t with
    |true=>RZ true P i.op ρ H fun v H'=>oH ρ i.dst v fun ρ'=>match i.op.quiet with
     |true=>CN P is (FC ps (qS P i.op ρ v) cs) (H::Hs) ρ' H' K
     |false=>CN P is cs (H::Hs) ρ' H' K
    |false=>oH ρ i.dst (.tuple []) fun ρ'=>CN P is cs (H::Hs) ρ' H K:=rfl
theorem yH{f:List aB→Prop}{Hs:List (List aB)}{k:Prop}(hk:k):∀(ps:List Nat),(∀p∈ps,∃H',Hs[p]?=some H'∧f H')→mW ps f Hs k
 |[],_=>hk
 |p::ps,h=>by
  show xF Hs p fun H'=>f H'∧mW ps f Hs k
  obtain⟨H',h1,h2⟩:=h p (List.mem_cons_self ..)
  exact aT h1 ⟨h2,yH hk ps fun q hq=>h q (List.mem_cons_of_mem _ hq)⟩
theorem DY{Hs:List (List aB)}{k:Prop}(hk:k):∀(cs:List (List Nat×(List aB→Prop))),(∀c∈cs,∀p∈c.1,∃H',Hs[p]?=some H'∧c.2 H')→rI cs Hs k
 |[],_=>hk
 |(ps,f)::cs,h=>by
  show mW ps f Hs (rI cs Hs k)
  exact yH (DY hk cs fun c hc=>h c (List.mem_cons_of_mem _ hc)) ps (h (ps,f) (List.mem_cons_self ..))
def XW(cs' cs:List (List Nat×(List aB→Prop))):Prop:=∀c'∈cs',∃c∈cs,c.1=c'.1∧∀H,c.2 H→c'.2 H
theorem XW.add{cs' cs:List (List Nat×(List aB→Prop))}(h:XW cs' cs)(ps:List Nat){f' f:List aB→Prop}(hf:∀H,f H→f' H):XW (FC ps f' cs') (FC ps f cs):=by
 cases ps with
 |nil=>exact h
 |cons p ps =>
  intro c' hc
  simp only[FC,List.mem_cons]at hc ⊢
  rcases hc with rfl|hc
  ·exact⟨_,.inl rfl,rfl,hf⟩
  ·obtain⟨c,h1,h2⟩:=h c' hc
   exact⟨c,.inr h1,h2⟩
theorem tE{P:Program}:∀(is:List (cT×List Nat)) {cs' cs:List (List Nat×(List aB→Prop))}{Hs:List (List aB)}{ρ:List a6}{H:List aB}{K:List a6→List aB→Prop},XW cs' cs→CN P is cs Hs ρ H K →
  ∃ρ' H',K ρ' H'∧∀K':List a6→List aB→Prop,K' ρ' H'→JX P is cs' Hs ρ H K'
 |[],cs',cs,Hs,ρ,H,K,hc,h=>by
  obtain⟨h1,h2⟩:=yG (show rI cs (H::Hs) (K ρ H)from h)
  refine⟨ρ,H,h1,fun K' hK'=>DY hK' cs' fun c' hc' p hp=>?_⟩
  obtain⟨c,hcm,he,hi⟩:=hc c' hc'
  obtain⟨H',h3,h4⟩:=h2 c hcm p (by rw[he];exact hp)
  exact⟨H',h3,hi H' h4⟩
 |(i,ps)::is,cs',cs,Hs,ρ,H,K,hc,h=>by
  rw[MI]at h
  obtain⟨t,ht,h⟩:=uO h
  cases t with
  |true =>
   obtain⟨v,H1,h,hy,hq1,hq2⟩:=NY (show RZ true P i.op ρ H _ from h)
   rw[fU]at h
   cases hq:i.op.quiet with
   |true =>
    simp only[hq]at h
    obtain⟨rfl,hv,hcs⟩:=hq1 rfl hq
    obtain⟨ρ',H',hk,hr⟩:=tE is (hc.add ps hcs) h
    refine⟨ρ',H',hk,fun K' hK'=>?_⟩
    rw[tG]
    refine oX ht ?_
    simp only[hq]
    refine hv _ ?_
    rw[fU]
    exact hr _ hK'
   |false =>
    simp only[hq]at h
    obtain⟨ρ',H',hk,hr⟩:=tE is hc h
    refine⟨ρ',H',hk,fun K' hK'=>?_⟩
    rw[tG]
    refine oX ht ?_
    simp only[hq]
    refine hq2 hq _ ?_
    rw[fU]
    exact hr _ hK'
  |false =>
   simp only[fU]at h
   obtain⟨ρ',H',hk,hr⟩:=tE is hc h
   refine⟨ρ',H',hk,fun K' hK'=>?_⟩
   rw[tG]
   refine oX ht ?_
   simp only[fU]
   exact hr _ hK'
def vI(P:Program)(n0:List Nat)(c:g9):(jA→List a6→List aB→Prop)→List a6→List aB→Prop :=
 @g9.rec (fun _=>(jA→List a6→List aB→Prop)→List a6→List aB→Prop)
  (fun Q ρ H=>Q .normal ρ H)
  (fun ops Q ρ H=>JY P ops ρ H (Q .normal))
  (fun ops Q ρ H=>CN P ops [] [] ρ H (Q .normal))
  (fun _ _ iha ihb Q ρ H=>iha (fun e ρ' H'=>match e with
   |.normal=>ihb Q ρ' H'
   |.exit id=>Q (.exit id) ρ' H'
   |.ret=>Q .ret ρ' H') ρ H)
  (fun c _ _ iha ihb Q ρ H=>fL ρ c fun v=>match v with
   |.bool t=>tX t fun t=>match t with
    |true=>iha Q ρ H
    |false=>ihb Q ρ H
   |_=>False)
  (fun id _ ih Q ρ H=>ih (fun e ρ' H'=>match e with
   |.normal=>Q .normal ρ' H'
   |.exit id'=>if id'=id then Q .normal ρ' H' else Q (.exit id') ρ' H'
   |.ret=>Q .ret ρ' H') ρ H)
  (fun _ ih Q ρ H=>∃(I:Nat→List a6→List aB→Prop) (n:Nat) (vs:List (Nat×Nat)) (X:Nat→List a6→List aB→Prop),TB vs ρ H (I n)∧(∀n1 ρ1 H1,I n1 ρ1 H1 →
   dL ρ1 fun ρ1=>ih (fun e ρ' H'=>match e with
    |.normal=>∃m,m<n1∧Gp n0 ρ' H' (I m)
    |.exit id=>Gp n0 ρ' H' (X id)
    |.ret=>Q .ret ρ' H') ρ1 H1)∧∀id ρ1 H1,X id ρ1 H1→dL ρ1 fun ρ1=>Q (.exit id) ρ1 H1)
  (fun id Q ρ H=>Q (.exit id) ρ H)
  (fun Q ρ H=>Q .ret ρ H)
  (fun Q ρ H=>Gp n0 ρ H fun ρ1 H1=>dL ρ1 fun ρ1=>Q .normal ρ1 H1)
  (fun _ _ _=>False) c
theorem Gp.det{n0:List Nat}{ρ:List a6}{H:List aB}{I:List a6→List aB→Prop}(h:Gp n0 ρ H I):∃ρ1 H1,I ρ1 H1∧∀I':List a6→List aB→Prop,I' ρ1 H1→Gp n0 ρ H I':=by
 rcases h with h|⟨ids,ρ1,H1,a,b,c,d,h⟩
 ·exact⟨ρ,H,h,fun _ h=>.inl h⟩
 ·exact⟨ρ1,H1,h,fun _ h=>.inr ⟨ids,ρ1,H1,a,b,c,d,h⟩⟩
theorem NU:∀(vs:List (Nat×Nat)) {ρ:List a6}{H:List aB}{k:List a6→List aB→Prop},TB vs ρ H k→∃ρ1 H1,k ρ1 H1∧∀k':List a6→List aB→Prop,k' ρ1 H1→TB vs ρ H k'
 |[],ρ,H,k,h=>⟨ρ,H,h,fun _ h=>h⟩
 |(s,sz)::vs,ρ,H,k,h=>by
  simp only[J8,jI,dG,mP]at h⊢
  split at h
  ·exact NU vs h
  ·exact h.elim
def g9.flat:g9→Bool
 |.seq a b=>a.flat&&b.flat
 |.skip | .region _ | .draw _ | .ghost | .stuck=>true
 |_=>false
theorem BF{P:Program}{n0:List Nat}:∀(c:g9),c.flat=true→∀{Q:jA→List a6→List aB→Prop}{ρ:List a6}{H:List aB},vI P n0 c Q ρ H →
  ∃ρ' H',Q .normal ρ' H'∧∀Q':jA→List a6→List aB→Prop,Q' .normal ρ' H'→N8 P n0 c Q' ρ H
 |.skip,_,Q,ρ,H,h=>⟨ρ,H,h,fun _ h=>h⟩
 |.region ops,_,Q,ρ,H,h=>by
  obtain⟨ρ',H',h1,h2⟩:=CP ops (show JY P ops ρ H (Q .normal)from h)
  exact⟨ρ',H',h1,fun Q' hQ=>h2 _ hQ⟩
 |.draw ops,_,Q,ρ,H,h=>by
  obtain⟨ρ',H',h1,h2⟩:=tE (cs':=[]) ops (fun c hc=>by simp at hc) (show CN P ops [] [] ρ H (Q .normal)from h)
  exact⟨ρ',H',h1,fun Q' hQ=>h2 _ hQ⟩
 |.seq a b,hf,Q,ρ,H,h=>by
  simp only[g9.flat,Bool.and_eq_true]at hf
  obtain⟨ρ1,H1,h1,h2⟩:=BF a hf.1 (show vI P n0 a _ ρ H from h)
  obtain⟨ρ2,H2,h3,h4⟩:=BF b hf.2 (show vI P n0 b Q ρ1 H1 from h1)
  exact⟨ρ2,H2,h3,fun Q' hQ=>by rw[zZ];exact h2 _ (h4 _ hQ)⟩
 |.ghost,_,Q,ρ,H,h=>by
  obtain⟨ρ1,H1,h1,h2⟩:=Gp.det (show Gp n0 ρ H fun ρ1 H1=>dL ρ1 fun ρ1=>Q .normal ρ1 H1 from h)
  rw[dC]at h1
  exact⟨ρ1,H1,h1,fun Q' hQ=>.mk (h2 _ (by rw[dC];exact hQ))⟩
 |.stuck,_,Q,ρ,H,h=>h.elim
theorem GE{P:Program}{ops:Array Oper}{draw:Bool}{l:List cT}{c:g9}(h:AD P ops draw l=some c):c.flat=true:=by
 unfold AD at h
 split at h
 ·split at h
  ·cases h;rfl
  ·cases h
 ·cases h;rfl
theorem GG{P:Program}{ob:List Nat}{ops:Array Oper}{draw:Bool}{c:g9}(h:AE P ob ops draw=some c):c.flat=true:=by
 unfold AE at h
 split at h
 ·split at h
  ·rename_i c0 hc
   cases h
   unfold GF at hc
   split at hc
   ·rename_i c1 hc1
    have:=GE hc1
    split at hc
    ·cases hc;simp[g9.flat,this]
    ·split at hc
     ·cases hc;simp[g9.flat,this]
     ·cases hc;exact this
   ·cases hc
  ·cases h;rfl
 ·cases h;rfl
def WQ(P:Program)(n0:List Nat)(c:Code)(ρ:List a6)(H:List aB)(e:jA)(ρ':List a6)(H':List aB):Prop :=
 ∀(E:tT),E.H0.map aB.olen=n0→∀(C:Nat→Nat) (τ:Nat→Option Loc) (a:Act) (w:World),SA E C τ ρ H a w→c.wp P (QR E (fun e2 ρ2 H2=>e2=e∧ρ2=ρ'∧H2=H')) a w
theorem QR.inv{E:tT}{e:jA}{ρ':List a6}{H':List aB}{x:Exit}{a:Act}{w:World}(h:QR E (fun e2 ρ2 H2=>e2=e∧ρ2=ρ'∧H2=H') x a w):
  ∃C τ,SA E C τ ρ' H' a w∧(match e with
   |.normal=>x=.normal
   |.exit id=>x=.exit id
   |.ret=>x=.ret):=by
 cases x with
 |normal=>obtain⟨ρ,H,C,τ,⟨rfl,rfl,rfl⟩,hs⟩:=h;exact⟨C,τ,hs,rfl⟩
 |exit id=>obtain⟨ρ,H,C,τ,⟨rfl,rfl,rfl⟩,hs⟩:=h;exact⟨C,τ,hs,rfl⟩
 |ret=>obtain⟨ρ,H,C,τ,⟨rfl,rfl,rfl⟩,hs⟩:=h;exact⟨C,τ,hs,rfl⟩
 |_=>exact h.elim
theorem OF{P:Program}{ob:List Nat}{n0:List Nat}:∀(c:Code) (ac:g9) (Q:jA→List a6→List aB→Prop) (ρ:List a6) (H:List aB),
  kR P ob c=some ac→vI P n0 ac Q ρ H→∃e ρ' H',Q e ρ' H'∧WQ P n0 c ρ H e ρ' H':=by
 intro c
 induction c with
 |skip =>
  intro ac Q ρ H hc h
  simp only[kR,Option.some.injEq]at hc;subst hc
  exact⟨.normal,ρ,H,h,fun E _ C τ a w hs=>wp_skip ⟨ρ,H,C,τ,⟨rfl,rfl,rfl⟩,hs⟩⟩
 |region id ops draw =>
  intro ac Q ρ H hc h
  obtain⟨ρ',H',h1,h2⟩:=BF ac (GG (by simpa only[kR]using hc)) h
  refine⟨.normal,ρ',H',h1,fun E he C τ a w hs=>?_⟩
  subst he
  exact B0 (E:=E) (fun id ops is Q C τ ρ H a w h1 h2 h3 h4=>B4 h1 h2 h3 h4) (.region id ops draw) ac _ C τ ρ H a w hc (h2 _ ⟨rfl,rfl,rfl⟩) hs
 |seq x y ihx ihy =>
  intro ac Q ρ H hc h
  simp only[kR,Option.bind_eq_bind,Option.bind_eq_some_iff,Option.pure_def,Option.some.injEq]at hc
  obtain⟨ax,hx,ay,hy,rfl⟩:=hc
  obtain⟨e,ρ1,H1,h1,h2⟩:=ihx ax _ ρ H hx (show vI P n0 ax _ ρ H from h)
  cases e with
  |normal =>
   obtain⟨e,ρ2,H2,h3,h4⟩:=ihy ay Q ρ1 H1 hy h1
   refine⟨e,ρ2,H2,h3,fun E he C τ a w hs=>wp_seq (wp_mono (h2 E he C τ a w hs) fun x a' w' hq=>?_)⟩
   obtain⟨C',τ',hs',hx⟩:=hq.inv
   dsimp only at hx
   subst hx
   exact h4 E he C' τ' a' w' hs'
  |exit id =>
   refine⟨.exit id,ρ1,H1,h1,fun E he C τ a w hs=>wp_seq (wp_mono (h2 E he C τ a w hs) fun x a' w' hq=>?_)⟩
   obtain⟨C',τ',hs',hx⟩:=hq.inv
   dsimp only at hx
   subst hx
   exact hq
  |ret =>
   refine⟨.ret,ρ1,H1,h1,fun E he C τ a w hs=>wp_seq (wp_mono (h2 E he C τ a w hs) fun x a' w' hq=>?_)⟩
   obtain⟨C',τ',hs',hx⟩:=hq.inv
   dsimp only at hx
   subst hx
   exact hq
 |cond c x y ihx ihy =>
  intro ac Q ρ H hc h
  simp only[kR,Option.bind_eq_bind,Option.bind_eq_some_iff,Option.pure_def,Option.some.injEq]at hc
  obtain⟨oc,hoc,ax,hx,ay,hy,rfl⟩:=hc
  have h:fL ρ oc fun v=>match v with
   |.bool t=>tX t fun t=>match t with
    |true=>vI P n0 ax Q ρ H
    |false=>vI P n0 ay Q ρ H
   |_=>False:=h
  simp only[bD]at h
  split at h
  case h_2=>exact h.elim
  rename_i t hv
  rw[eN]at h
  cases t with
  |true =>
   obtain⟨e,ρ1,H1,h1,h2⟩:=ihx ax Q ρ H hx h
   refine⟨e,ρ1,H1,h1,fun E he C τ a w hs=>?_⟩
   have hr:=hs.ev hoc
   rw[hv]at hr
   exact wp_cond hr.bool_inv (h2 E he C τ a w hs)
  |false =>
   obtain⟨e,ρ1,H1,h1,h2⟩:=ihy ay Q ρ H hy h
   refine⟨e,ρ1,H1,h1,fun E he C τ a w hs=>?_⟩
   have hr:=hs.ev hoc
   rw[hv]at hr
   exact wp_cond hr.bool_inv (h2 E he C τ a w hs)
 |block id x ih =>
  intro ac Q ρ H hc h
  simp only[kR,Option.bind_eq_bind,Option.bind_eq_some_iff,Option.pure_def,Option.some.injEq]at hc
  obtain⟨ax,hx,rfl⟩:=hc
  have main:∀(Q:jA→List a6→List aB→Prop),vI P n0 (.block id ax) Q ρ H→∃e ρ' H',Q e ρ' H'∧WQ P n0 (.block id x) ρ H e ρ' H':=by
   intro Q h
   obtain⟨e,ρ1,H1,h1,h2⟩:=ih ax _ ρ H hx (show vI P n0 ax _ ρ H from h)
   cases e with
   |normal =>
    refine⟨.normal,ρ1,H1,h1,fun E he C τ a w hs=>wp_block (wp_mono (h2 E he C τ a w hs) fun x a' w' hq=>?_)⟩
    obtain⟨C',τ',hs',hx⟩:=hq.inv
    dsimp only at hx
    subst hx
    exact hq
   |exit id' =>
    have h1:(if id'=id then Q .normal ρ1 H1 else Q (.exit id') ρ1 H1):=h1
    by_cases hid:id'=id
    ·rw[if_pos hid]at h1
     refine⟨.normal,ρ1,H1,h1,fun E he C τ a w hs=>wp_block (wp_mono (h2 E he C τ a w hs) fun x a' w' hq=>?_)⟩
     obtain⟨C',τ',hs',hx⟩:=hq.inv
     dsimp only at hx
     subst hx
     simp only[Exit.inBlock,hid,if_true]
     exact⟨ρ1,H1,C',τ',⟨rfl,rfl,rfl⟩,hs'⟩
    ·rw[if_neg hid]at h1
     refine⟨.exit id',ρ1,H1,h1,fun E he C τ a w hs=>wp_block (wp_mono (h2 E he C τ a w hs) fun x a' w' hq=>?_)⟩
     obtain⟨C',τ',hs',hx⟩:=hq.inv
     dsimp only at hx
     subst hx
     simp only[Exit.inBlock,hid,if_false]
     exact hq
   |ret =>
    refine⟨.ret,ρ1,H1,h1,fun E he C τ a w hs=>wp_block (wp_mono (h2 E he C τ a w hs) fun x a' w' hq=>?_)⟩
    obtain⟨C',τ',hs',hx⟩:=hq.inv
    dsimp only at hx
    subst hx
    exact hq
  unfold L9 at h
  split at h
  ·obtain⟨e,ρ1,H1,h1,h2⟩:=main (fun e ρ' H'=>match e with
    |.normal=>Gp n0 ρ' H' fun ρ1 H1=>dL ρ1 fun ρ1=>Q .normal ρ1 H1
    |.exit id=>Q (.exit id) ρ' H'
    |.ret=>Q .ret ρ' H') h
   cases e with
   |normal =>
    obtain⟨ρ2,H2,h3,h4⟩:=Gp.det (show Gp n0 ρ1 H1 fun ρ1 H1=>dL ρ1 fun ρ1=>Q .normal ρ1 H1 from h1)
    rw[dC]at h3
    refine⟨.normal,ρ2,H2,h3,fun E he C τ a w hs=>wp_mono (h2 E he C τ a w hs) fun x a' w' hq=>?_⟩
    obtain⟨C',τ',hs',hx⟩:=hq.inv
    dsimp only at hx
    subst hx
    obtain⟨ρ3,H3,C3,τ3,hI,hs3⟩:=hs'.regroup (h4 (fun ρ H=>ρ=ρ2∧H=H2) ⟨rfl,rfl⟩ |> fun g=>by rw[he];exact g)
    exact⟨ρ3,H3,C3,τ3,⟨rfl,hI⟩,hs3⟩
   |exit id'=>exact⟨.exit id',ρ1,H1,h1,h2⟩
   |ret=>exact⟨.ret,ρ1,H1,h1,h2⟩
  ·exact main Q h
 |loop x ih =>
  intro ac Q ρ H hc h
  simp only[kR,Option.bind_eq_bind,Option.bind_eq_some_iff,Option.pure_def,Option.some.injEq]at hc
  obtain⟨ax,hx,rfl⟩:=hc
  obtain⟨I,n,vs,X,h0,hround,hX⟩:=h
  have key:∀(n:Nat) (ρ:List a6) (H:List aB),I n ρ H→∃e ρ' H',Q e ρ' H'∧∀(E:tT),E.H0.map aB.olen=n0→∀(C:Nat→Nat) (τ:Nat→Option Loc) (a:Act) (w:World),SA E C τ ρ H a w →
    ∀(b:Frame) (k:List Item) (cs:List Frame),∃x' a' w',QR E (fun e2 ρ2 H2=>e2=e∧ρ2=ρ'∧H2=H') x' a' w'∧Arrives P (lone (b.at a (.code x::.inLoop x::k)) cs w) b k cs x' a' w':=by
   intro n
   induction n using Nat.strongRecOn with
   |_ n ihn =>
    intro ρ H hI
    have h:=hround n ρ H hI
    rw[dC]at h
    obtain⟨e1,ρ1,H1,h1,h2⟩:=ih ax _ ρ H hx h
    cases e1 with
    |normal =>
     obtain⟨m,hlt,hg⟩:=h1
     obtain⟨ρ2,H2,h3,h4⟩:=hg.det
     obtain⟨e,ρ',H',h5,h6⟩:=ihn m hlt ρ2 H2 h3
     refine⟨e,ρ',H',h5,fun E he C τ a w hs b k cs=>?_⟩
     obtain⟨x',a1,w1,hq,harr⟩:=h2 E he C τ a w hs b (.inLoop x::k) cs
     obtain⟨C',τ',hs',hx⟩:=hq.inv
     dsimp only at hx
     subst hx
     obtain⟨ρ3,H3,C3,τ3,⟨rfl,rfl⟩,hs3⟩:=hs'.regroup (h4 (fun ρ H=>ρ=ρ2∧H=H2) ⟨rfl,rfl⟩ |> fun g=>by rw[he];exact g)
     obtain⟨e2,a2,w2,hq2,harr2⟩:=h6 E he C3 τ3 a1 w1 hs3 b k cs
     exact⟨e2,a2,w2,hq2,.of_steps (Steps.trans harr (.one step_inLoop)) harr2⟩
    |exit id =>
     obtain⟨ρ2,H2,h3,h4⟩:=Gp.det (show Gp n0 ρ1 H1 (X id)from h1)
     have h5:=hX id ρ2 H2 h3
     rw[dC]at h5
     refine⟨.exit id,ρ2,H2,h5,fun E he C τ a w hs b k cs=>?_⟩
     obtain⟨x',a1,w1,hq,harr⟩:=h2 E he C τ a w hs b (.inLoop x::k) cs
     obtain⟨C',τ',hs',hx⟩:=hq.inv
     dsimp only at hx
     subst hx
     obtain⟨ρ3,H3,C3,τ3,⟨rfl,rfl⟩,hs3⟩:=hs'.regroup (h4 (fun ρ H=>ρ=ρ2∧H=H2) ⟨rfl,rfl⟩ |> fun g=>by rw[he];exact g)
     exact⟨.exit id,a1,w1,⟨_,_,C3,τ3,⟨rfl,rfl,rfl⟩,hs3⟩,.pass (x:=.inLoop x) rfl (fun _ _=>.inl (by simp)) harr⟩
    |ret =>
     refine⟨.ret,ρ1,H1,h1,fun E he C τ a w hs b k cs=>?_⟩
     obtain⟨x',a1,w1,hq,harr⟩:=h2 E he C τ a w hs b (.inLoop x::k) cs
     obtain⟨C',τ',hs',hx⟩:=hq.inv
     dsimp only at hx
     subst hx
     exact⟨.ret,a1,w1,hq,.pass (x:=.inLoop x) rfl (fun _ _=>.inl (by simp)) harr⟩
  obtain⟨ρ1,H1,h1,h2⟩:=NU vs h0
  obtain⟨e,ρ',H',h3,h4⟩:=key n ρ1 H1 h1
  refine⟨e,ρ',H',h3,fun E he C τ a w hs b k cs=>?_⟩
  obtain⟨τ1,ρ2,H2,⟨rfl,rfl⟩,hs1⟩:=hs.nv vs (h2 (fun ρ H=>ρ=ρ1∧H=H1) ⟨rfl,rfl⟩)
  obtain⟨x',a',w',hq,harr⟩:=h4 E he C τ1 a w hs1 b k cs
  exact⟨x',a',w',hq,.of_steps (.one step_loop) harr⟩
 |exit id =>
  intro ac Q ρ H hc h
  simp only[kR,Option.some.injEq]at hc;subst hc
  exact⟨.exit id,ρ,H,h,fun E _ C τ a w hs=>wp_exit ⟨ρ,H,C,τ,⟨rfl,rfl,rfl⟩,hs⟩⟩
 |ret =>
  intro ac Q ρ H hc h
  simp only[kR,Option.some.injEq]at hc;subst hc
  exact⟨.ret,ρ,H,h,fun E _ C τ a w hs=>wp_ret ⟨ρ,H,C,τ,⟨rfl,rfl,rfl⟩,hs⟩⟩
 |_=>intro ac Q ρ H hc h;simp only[kR,Option.some.injEq]at hc;subst hc;exact h.elim
theorem CI{ρ:List a6}{H:List aB}:∀(rs:List F7) {k:List a6→Prop},uY ρ H rs k→∃vs,k vs∧∀k':List a6→Prop,k' vs→uY ρ H rs k'
 |[],k,h=>⟨[],h,fun _ h=>h⟩
 |.tmp t::rs,k,h=>by
  simp only[JS,jI]at h⊢
  obtain⟨vs,h1,h2⟩:=CI rs h
  exact⟨_,h1,fun k' hk=>h2 _ hk⟩
 |.cell ag sz t::rs,k,h=>by
  simp only[EQ,jI,dC]at h⊢
  split at h
  ·simp only[cM,b6]at h⊢
   obtain⟨ob,hob,h⟩:=h
   split at h
   ·simp only[iW,aG]at h
    obtain⟨h1,e,h2,h3,h4⟩:=h
    obtain⟨vs,h5,h6⟩:=CI rs h4
    exact⟨_,h5,fun k' hk=>⟨_,hob,by simp only[iW,aG];exact⟨h1,e,h2,h3,h6 _ hk⟩⟩⟩
   ·exact h.elim
  ·exact h.elim
theorem T2{vs:List a6}{k:a6→Prop}(h:wL vs k):∃v,k v∧∀k':a6→Prop,k' v→wL vs k':=by
 unfold wL at h⊢
 split at h
 ·exact⟨_,h,fun _ h=>h⟩
 ·exact⟨_,h,fun _ h=>h⟩
def jA.isOut:jA→Bool
 |.exit _=>false
 |_=>true
theorem d6{P:Program}{f:FuncId}{ob:List Nat}{af:tS}{args:List a6}{H:List aB}{Q:a6→List aB→Prop}(hf:QG P f ob af)
  (h:dL (args++List.replicate (af.ntmps-args.length) (.tuple [])) fun ρ=>vI P (H.map aB.olen) af.code (fun e ρ' H'=>match e with
   |.exit _=>False
   |_=>uY ρ' H' af.res fun vs=>wL vs fun v=>Q v H') ρ H):∃v H1,Q v H1∧a7 P f args H (fun r H'=>r=v∧H'=H1):=by
 rw[dC]at h
 obtain⟨fn,c,hfn,hname,hbody,hcomp,hnt,hres⟩:=hf
 obtain⟨ae,ρ',H',h1,h2⟩:=OF c af.code _ _ H hcomp h
 have h1:ae.isOut=true∧uY ρ' H' af.res fun vs=>wL vs fun v=>Q v H':=by
  cases ae with
  |normal=>exact⟨rfl,h1⟩
  |exit id=>exact h1.elim
  |ret=>exact⟨rfl,h1⟩
 obtain⟨he,h1⟩:=h1
 obtain⟨xs,h3,h4⟩:=CI _ h1
 obtain⟨v,hv,h5⟩:=T2 h3
 refine⟨v,H',hv,?_⟩
 intro C τ w vs hw hl hr
 have hcall:(callFunc f vs).run P w=.ok (.enter f vs) w:=by
  simp only[callFunc,Sem.run_bind,run_program,Result.andThen_ok,hfn,hname,Bool.false_eq_true,if_false,hbody,Option.isNone_some,Sem.run_pure]
 unfold eS
 rw[hcall]
 let E:tT:=⟨w,cX τ H w,C,τ,H,fun b hb hn=>Classical.byContradiction fun ho=>hn ⟨hb,ho⟩⟩
 have hsa:SA E C τ (args++List.replicate (af.ntmps-args.length) (.tuple [])) H { tmps:=vs++Array.replicate (fn.ntmps-vs.size) undef,defers:=[] } w:=by
  refine⟨St.start hw,cU.refl,fun t=>?_,by simp[hl,hnt],rfl⟩
  rw[iA]
  simp only[Array.getD_eq_getD_getElem?]
  by_cases ht:t<args.length
  ·rw[dif_pos ht,Array.getElem?_append_left (by omega),Array.getElem?_eq_getElem (by omega)]
   exact hr t _ _ (List.getElem?_eq_getElem ht) (Array.getElem?_eq_getElem (by omega))
  ·rw[dif_neg ht,Array.getElem?_append_right (by omega)]
   split
   ·rename_i h2
    rw[Array.getElem?_replicate,if_pos (by omega)]
    exact sA
   ·exact .undef _
 refine calls_of_wp hfn hbody (wp_mono (h2 E rfl C τ _ w hsa) fun x a' w' hq=>?_)
 obtain⟨C',τ',hs,hx⟩:=hq.inv
 have fin:a'.defers=[]∧∃u,(results fn a'.tmps).run P w'=.ok u w'∧∃v2 r C' τ' H1,Ending.returned u=.returned v2∧(r=v∧H1=H')∧bW C' w' τ' H1 r v2∧St w (cX τ H w) C' τ' H1 w'∧cU C τ H w C' τ' H1 w':=by
  refine⟨hs.defers,?_⟩
  obtain⟨xs2,us,g1,g2,g3,g4⟩:=nS hs fn.results.toList af.res _ hres (h4 (fun zs=>wL zs fun z=>z=v) (h5 _ rfl))
  have hm:(fn.results.mapM (xY a'.tmps)).run P w'=.ok us.toArray w':=by
   rw[Array.mapM_eq_mapM_toList,Sem.run_map,g2];rfl
  have hrun:(results fn a'.tmps).run P w'=.ok (if h:us.toArray.size=1 then us.toArray[0]else .tuple us.toArray) w':=by
   rw[CK,Sem.run_bind,hm]
   rfl
  refine⟨_,hrun,?_⟩
  unfold wL at g1
  split at g1
  ·rename_i v0
   subst g1
   have hu:us.length=1:=by rw[←g3];rfl
   obtain⟨u,rfl⟩:=List.length_eq_one_iff.1 hu
   exact⟨_,v0,C',τ',H',rfl,⟨rfl,rfl⟩,g4 0 v0 u rfl rfl,hs.st,hs.step⟩
  ·rename_i hne
   subst g1
   have hu:¬us.toArray.size=1:=by
    intro hu
    simp at hu
    rw[←g3]at hu
    obtain⟨v,hv⟩:=List.length_eq_one_iff.1 hu
    exact hne v hv
   refine⟨_,_,C',τ',H',rfl,⟨rfl,rfl⟩,?_,hs.st,hs.step⟩
   rw[dif_neg hu]
   exact .tuple _ _ (by simpa using g3) fun i c v hc hv=>g4 i c v hc (by simpa using hv)
 cases ae with
 |normal=>dsimp only at hx;subst hx;exact fin
 |exit id=>cases he
 |ret=>dsimp only at hx;subst hx;exact fin
theorem aH{P:Program}{f:FuncId}{ob:List Nat}{af:tS}{args:List a6}{S:a6→Prop}(hf:QG P f ob af)(ha:args.all a6.closed=true)
  (h:dL (args++List.replicate (af.ntmps-args.length) (.tuple [])) fun ρ=>vI P [] af.code (fun e ρ' H'=>match e with
   |.exit _=>False
   |_=>uY ρ' H' af.res fun vs=>wL vs fun v=>∃r,dV H' 0 [] v r∧S r) ρ []):aC P f args S:=by
 obtain⟨v,H1,⟨r,hp,hs⟩,hc⟩:=d6 (H:=[]) (Q:=fun v H'=>∃r,dV H' 0 [] v r∧S r) hf h
 exact⟨r,hs,fun H=>a7.pure ha (hc.mono fun _ _ ⟨h1,h2⟩=>by subst h1 h2;exact hp)⟩
attribute [local irreducible] a7 bH oL Gp
def QL(H:List aB)(ids:List Nat):List a6→List a6→Prop
 |[],[]=>True
 |v::vs,r::rs=>(dV H 0 ids v r∧r.isCell=true)∧QL H ids vs rs
 |_,_=>False
theorem QL.get{H:List aB}{ids:List Nat}:∀{vs rs:List a6},QL H ids vs rs→rs.length=vs.length∧∀(j:Nat) (v r:a6),vs[j]?=some v→rs[j]?=some r→dV H 0 ids v r∧r.isCell=true
 |[],[],_=>⟨rfl,fun j v r h=>by simp at h⟩
 |v::vs,r::rs,h=>by
  obtain⟨h1,h2⟩:=QL.get h.2
  refine⟨by simp[h1],fun j v' r' hv hr=>?_⟩
  cases j with
  |zero=>simp at hv hr;subst hv hr;exact h.1
  |succ j=>exact h2 j v' r' (by simpa using hv) (by simpa using hr)
 |[],_::_,h=>h.elim
 |_::_,[],h=>h.elim
theorem iO{H:List aB}{ids:List Nat}{n:Nat}{e e1:List a6}(h:QL H ids e e1):zY H ids (.arr n [e]) (.arr n [e1]):=by
 obtain⟨h1,h2⟩:=h.get
 refine .map n _ _ rfl (fun i a b ha hb=>?_) (fun i j a b d d1 ha hb hd hd1=>?_)
 ·cases i with
  |zero=>simp at ha hb;subst ha hb;exact h1
  |succ i=>simp at ha
 ·cases i with
  |zero=>simp at ha hb;subst ha hb;exact h2 j d d1 hd hd1
  |succ i=>simp at ha
def kX:aB:=.arr 4 [[.str (bs []),.nil,.nil,.nil]]
def YD(st:dH)(nm:ByteArray)(L:List c8)(H:List aB):Prop :=
 (L=[]∧H=[fV st,kX,eG nm .nil .nil .nil])∨H=[fV st,kX,eG nm (.sl 3 L.length 0 L.length) .nil .nil,.arr 3 (cC L)]
def YL(st:dH)(nm:ByteArray)(a:a6)(cs:List a6)(H:List aB):Prop :=
 (cs=[]∧H=[fV st,kX,eG nm a .nil .nil])∨H=[fV st,kX,eG nm a (.sl 3 cs.length 0 cs.length) .nil,.arr 1 (u3 cs)]
def YX(st:dH)(nm:ByteArray)(a b:a6)(L:List (Option (List V)×Int))(H:List aB):Prop :=
 (L=[]∧H=[fV st,kX,eG nm a b .nil])∨H=[fV st,kX,eG nm a b (.sl 3 L.length 0 L.length),.arr 2 (iH L)]
def fY(n:Int):Bool:=!(n==0)
theorem HK{m:Nat}(h:0<m)(hm:m≤100000):IntKind.i64.wrap ((m:Int)-1)=((m-1:Nat):Int):=by rw[aW _ (by omega) (by omega)];omega
theorem A1(L:List c8)(c:c8):cC L++[gJ c]=cC (L++[c]):=by rw[sU];rfl
theorem aU{H:List aB}{ids:List Nat}{id ep idx fld:Nat}(h:ids[id]?=some id):dV H 0 ids (.ptr id ep idx fld) (.ptr id ep idx fld):=by
 have:=dV.keepP (H1:=H) (n:=0) (ids:=ids) id ep idx fld id h
 rwa [Nat.zero_add]at this
theorem n8{H:List aB}{ids:List Nat}{a b:Int}(h:a=b):dV H 0 ids (.int .i64 a) (.int .i64 b):=cZ h
theorem oE{H:List aB}{ids:List Nat}{id n sz:Nat}{es:List (List a6)}(ho:H[id]?=some (.arr sz es))(hid:id∉ids)(hn:n=es.length)(hp:bG es=true):
  dV H 0 ids (.sl id n 0 n) (.list false sz es)∧(a6.list false sz es).isCell=true:=⟨mG hid ho hn hn hp,rfl⟩
theorem dI{H:List aB}{ids:List Nat}{c:a6}(h:c.isPure=true):dV H 0 ids c c∧c.isCell=true:=by
 refine⟨.closed _ ?_,?_⟩<;>cases c<;>simp_all [a6.closed,a6.isPure,a6.isCell]
theorem i1{H:List aB}{ids:List Nat}{id id1 n m:Nat}(h:ids[id1]?=some id)(hm:n=m):dV H 0 ids (.sl id n 0 n) (.sl id1 m 0 m)∧(a6.sl id1 m 0 m).isCell=true:=by
 subst hm
 refine⟨?_,rfl⟩
 have:=dV.keep (H1:=H) (n:=0) (ids:=ids) id n 0 n id1 h
 rwa [Nat.zero_add]at this
set_option maxRecDepth 20000 in
set_option maxHeartbeats 4000000 in
theorem GH(s:dH)(hby:fI s.rest)(hl:s.rest.length≤1000000):
  ∃r H',(∃a b c cs,r=.agg [.str (fH s),a,b,c]∧CL a 3 (cC (MG fY s).1)∧CL b 1 (u3 cs)∧zH cs (GI fY s).1∧CL c 2 (iH (JT fY s).1)∧∃X,H'=fV (uX fY s)::X)∧a7 pr 76 [.ptr 0 1 0 0] [fV s] (fun r' H1=>r'=r∧H1=H'):=by
 refine d6 k76.has ?_
 have t0:s.To s:=.refl hby
 (conv=>whnf);refine bH.of (nA  s hby _ 0 rfl) ?_
 (conv=>whnf);refine bH.of (d9  1 (by omega) (by omega) (uD s) (iZ hby) _ 0 rfl) ?_
 have n1:=TY (iZ hby)
 conv=>whnf
 refine⟨fun m ρ H1=>∃(st:dH) (L:List c8),k9 fY m st L=MG fY s∧L.length+m≤255∧s.To st∧YD st (fH s) L H1 ∧
  Sv 120 [(0,.ptr 0 1 0 0),(2,.ptr 1 1 0 0),(3,.ptr 2 1 0 0),(4,.int .i64 m)] ρ,(lR 1 (uD s)).toNat,[],
  fun id ρ H1=>id=0∧∃(st:dH) (L:List c8) (a:a6),(L,st)=MG fY s∧s.To st∧CL a 3 (cC L)∧H1=[fV st,kX,eG (fH s) a .nil .nil] ∧
   Sv 120 [(0,.ptr 0 1 0 0),(2,.ptr 1 1 0 0),(3,.ptr 2 1 0 0)] ρ,?_,?_,?_⟩
 ·exact⟨_,[],rfl,by simp;omega,(t0.tx).tk 1,.inl ⟨rfl,rfl⟩,Sv.intro rfl ⟨rfl,rfl,rfl,aN (by omega),trivial⟩⟩
 ·rintro m ρ H1 ⟨st,L,hr,hle,ht,hH,d,rfl⟩
  have hb:=ht.1
  rcases hH with⟨rfl,rfl⟩|rfl
  ·(conv=>whnf);refine aE (fun hlt=>?_) (fun hlt=>?_)
   ·simp at hlt
    (conv=>whnf);refine aE (fun hbad=>?_) (fun hbad=>?_)
    ·replace hbad:(!st.bad)=true:=hbad
     simp at hbad
     obtain⟨k,rfl⟩:∃k,m=k+1:=⟨m-1,by omega⟩
     (conv=>whnf);refine bH.of (nA  st hb _ 0 rfl) ?_
     (conv=>whnf);refine bH.of (d9  1 (by omega) (by omega) (uD st) (iZ hb) _ 0 rfl) ?_
     (conv=>whnf);refine bH.of (d9  1 (by omega) (by omega) (kQ 1 (uD st)) (gY (iZ hb)) _ 0 rfl) ?_
     (conv=>whnf);refine And.intro (⟨cN (by simp) (by omega),bK (by simp)⟩) ?_
     conv=>whnf
     rw[k9,if_neg (by simp[hbad])]at hr
     refine⟨k,by omega,Gp.keepL [0,1,2,4] (by simp) (bY rfl rfl rfl) (H1:=[fV (TM st),kX,eG (fH s) (.sl 3 1 0 1) .nil .nil,.arr 3 (cC [HI fY st])]) ⟨⟨_,rfl,.same _ _ rfl⟩,⟨_,rfl,.same _ _ rfl⟩,⟨_,rfl,iO ⟨dI rfl,i1 rfl rfl,dI rfl,dI rfl,trivial⟩⟩,⟨_,rfl,.same _ _ rfl⟩,trivial⟩ rfl ?_ fun ρ1 h=>⟨_,_,hr,by simp at hle ⊢;omega,ht.col,.inr rfl,h⟩⟩
     exact⟨aU rfl,aU rfl,aU rfl,n8 (HK (by omega) (by omega)),trivial⟩
    ·replace hbad:(!st.bad)=false:=hbad
     simp at hbad
     obtain⟨k,rfl⟩:∃k,m=k+1:=⟨m-1,by omega⟩
     rw[k9,if_pos hbad]at hr
     conv=>whnf
     refine Gp.keep rfl ?_ fun ρ1 h=>⟨rfl,st,[],.nil,hr,ht,.inl ⟨rfl,rfl⟩,rfl,h⟩
     exact⟨rfl,rfl,rfl,trivial⟩
   ·simp at hlt
    subst hlt
    conv=>whnf
    refine Gp.keep rfl ?_ fun ρ1 h=>⟨rfl,st,[],.nil,hr,ht,.inl ⟨rfl,rfl⟩,rfl,h⟩
    exact⟨rfl,rfl,rfl,trivial⟩
  ·(conv=>whnf);refine aE (fun hlt=>?_) (fun hlt=>?_)
   ·simp at hlt
    (conv=>whnf);refine aE (fun hbad=>?_) (fun hbad=>?_)
    ·replace hbad:(!st.bad)=true:=hbad
     simp at hbad
     obtain⟨k,rfl⟩:∃k,m=k+1:=⟨m-1,by omega⟩
     (conv=>whnf);refine bH.of (nA  st hb _ 0 rfl) ?_
     (conv=>whnf);refine bH.of (d9  1 (by omega) (by omega) (uD st) (iZ hb) _ 0 rfl) ?_
     (conv=>whnf);refine bH.of (d9  1 (by omega) (by omega) (kQ 1 (uD st)) (gY (iZ hb)) _ 0 rfl) ?_
     (conv=>whnf);refine b4 (by rw[aX];exact Nat.beq_refl _) ?_
     (conv=>whnf);refine And.intro (⟨cN (by simp;omega) (by omega),bK (by simp;omega),rfl,by rw[aX]⟩) ?_
     conv=>whnf
     rw[k9,if_neg (by simp[hbad])]at hr
     have hc:(cC L++[gJ (HI fY st)]).length=(L++[HI fY st]).length:=by rw[A1,aX]
     refine⟨k,by omega,Gp.keepL [0,1,2,3] (by simp) (bY rfl rfl rfl) (H1:=[fV (TM st),kX,eG (fH s) (.sl 3 (L++[HI fY st]).length 0 (L++[HI fY st]).length) .nil .nil,.arr 3 (cC (L++[HI fY st]))]) ⟨⟨_,rfl,.same _ _ rfl⟩,⟨_,rfl,.same _ _ rfl⟩,⟨_,rfl,iO ⟨dI rfl,i1 rfl hc,dI rfl,dI rfl,trivial⟩⟩,⟨_,rfl,zY.of_eq (A1 L (HI fY st)) (cG _)⟩,trivial⟩ rfl ?_ fun ρ1 h=>⟨_,_,hr,by simp at hle ⊢;omega,ht.col,.inr rfl,h⟩⟩
     exact⟨aU rfl,aU rfl,aU rfl,n8 (HK (by omega) (by omega)),trivial⟩
    ·replace hbad:(!st.bad)=false:=hbad
     simp at hbad
     obtain⟨k,rfl⟩:∃k,m=k+1:=⟨m-1,by omega⟩
     rw[k9,if_pos hbad]at hr
     conv=>whnf
     refine Gp.keepL [0,1,2] (by simp) (bY rfl rfl rfl) (H1:=[fV st,kX,eG (fH s) (.list false 3 (cC L)) .nil .nil]) ?_ rfl ?_ fun ρ1 h=>⟨rfl,st,L,_,hr,ht,.inr rfl,rfl,h⟩
     ·exact⟨⟨_,rfl,.same _ _ rfl⟩,⟨_,rfl,.same _ _ rfl⟩,⟨_,rfl,iO ⟨dI rfl,oE rfl (by simp) (aX L).symm (cG L),dI rfl,dI rfl,trivial⟩⟩,trivial⟩
     ·exact⟨aU rfl,aU rfl,aU rfl,trivial⟩
   ·simp at hlt
    subst hlt
    conv=>whnf
    refine Gp.keepL [0,1,2] (by simp) (bY rfl rfl rfl) (H1:=[fV st,kX,eG (fH s) (.list false 3 (cC L)) .nil .nil]) ?_ rfl ?_ fun ρ1 h=>⟨rfl,st,L,_,hr,ht,.inr rfl,rfl,h⟩
    ·exact⟨⟨_,rfl,.same _ _ rfl⟩,⟨_,rfl,.same _ _ rfl⟩,⟨_,rfl,iO ⟨dI rfl,oE rfl (by simp) (aX L).symm (cG L),dI rfl,dI rfl,trivial⟩⟩,trivial⟩
    ·exact⟨aU rfl,aU rfl,aU rfl,trivial⟩
 rintro _ ρ1 H1 ⟨rfl,st,cols,a,hr,t1,ha,rfl,d,rfl⟩
 have hb1:=t1.1
 have h3:kF (lR 1 st).toNat (kQ 1 st) []=GI fY s:=by rw[GI,←hr]
 have e2:(MG fY s).1=cols:=by rw[←hr]
 rw[e2]
 (conv=>whnf);refine bH.of (d9  1 (by omega) (by omega) st hb1 _ 0 rfl) ?_
 have n2:=TY hb1
 conv=>whnf
 refine⟨fun m ρ H1=>∃(st:dH) (L:List (List ByteArray)) (cs:List a6),kF m st L=GI fY s∧L.length+m≤255∧s.To st∧zH cs L∧YL st (fH s) a cs H1 ∧
  Sv 120 [(0,.ptr 0 1 0 0),(2,.ptr 1 1 0 0),(3,.ptr 2 1 0 0),(6,.int .i64 m)] ρ,(lR 1 st).toNat,[],
  fun id ρ H1=>id=2∧∃(st:dH) (L:List (List ByteArray)) (cs:List a6) (b:a6),(L,st)=GI fY s∧s.To st∧zH cs L∧CL b 1 (u3 cs)∧H1=[fV st,kX,eG (fH s) a b .nil] ∧
   Sv 120 [(0,.ptr 0 1 0 0),(2,.ptr 1 1 0 0),(3,.ptr 2 1 0 0)] ρ,?_,?_,?_⟩
 ·exact⟨_,[],[],h3,by simp;omega,t1.tk 1,⟨rfl,fun i c k h=>by simp at h⟩,.inl ⟨rfl,rfl⟩,Sv.intro rfl ⟨rfl,rfl,rfl,aN (by omega),trivial⟩⟩
 ·rintro m ρ H1 ⟨st,L,cs,hr,hle,ht,hks,hH,d,rfl⟩
  have hb:=ht.1
  have hkl:=hks.1
  rcases hH with⟨rfl,rfl⟩|rfl
  ·(conv=>whnf);refine aE (fun hlt=>?_) (fun hlt=>?_)
   ·simp at hlt
    (conv=>whnf);refine aE (fun hbad=>?_) (fun hbad=>?_)
    ·replace hbad:(!st.bad)=true:=hbad
     simp at hbad
     obtain⟨k,rfl⟩:∃k,m=k+1:=⟨m-1,by omega⟩
     rw[kF,if_neg (by simp[hbad])]at hr
     (conv=>whnf);refine bH.of (d9  1 (by omega) (by omega) st hb _ 0 rfl) ?_
     have n3:=TY hb
     conv=>whnf
     refine⟨fun m2 ρ H1=>∃(st2:dH) (key:List ByteArray),kP m2 st2 key=xG st∧key.length+m2≤255∧s.To st2∧H1=[fV st2,kX,eG (fH s) a .nil .nil]++[.arr 1 (sC key)] ∧
      Sv 120 [(0,.ptr 0 1 0 0),(2,.ptr 1 1 0 0),(3,.ptr 2 1 0 0),(6,.int .i64 (k+1:Nat)),(7,.sl 3 key.length 0 key.length),(8,.int .i64 m2)] ρ,(lR 1 st).toNat,[(7,1)],
      fun id ρ H1=>id=4∧∃(st2:dH) (key:List ByteArray),(key,st2)=xG st∧s.To st2∧H1=[fV st2,kX,eG (fH s) a .nil .nil] ∧
       Sv 120 [(0,.ptr 0 1 0 0),(2,.ptr 1 1 0 0),(3,.ptr 2 1 0 0),(6,.int .i64 (k+1:Nat)),(7,.list false 1 (sC key))] ρ,?_,?_,?_⟩
     ·exact⟨_,[],rfl,by simp;omega,ht.tk 1,rfl,Sv.intro rfl ⟨rfl,rfl,rfl,rfl,rfl,aN (by omega),trivial⟩⟩
     ·rintro m2 ρ H2 ⟨st2,key,hr2,hle2,ht2,rfl,d2,rfl⟩
      have hb2:=ht2.1
      (conv=>whnf);refine aE (fun hlt2=>?_) (fun hlt2=>?_)
      ·simp at hlt2
       obtain⟨j,rfl⟩:∃j,m2=j+1:=⟨m2-1,by omega⟩
       (conv=>whnf);refine aE (fun hbad2=>?_) (fun hbad2=>?_)
       ·replace hbad2:(!st2.bad)=true:=hbad2
        simp at hbad2
        rw[kP,if_neg (by simp[hbad2])]at hr2
        (conv=>whnf);refine bH.of (nA  st2 hb2 _ 0 rfl) ?_
        (conv=>whnf);refine b4 (by rw[aP];exact Nat.beq_refl _) ?_
        (conv=>whnf);refine And.intro (⟨cN (by simp;omega) (by omega),bK (by simp;omega),rfl,by rw[aP]⟩) ?_
        conv=>whnf
        have hc:sC key++[[a6.str (fH st2)]]=sC (key++[fH st2]):=(jV key [fH st2]).symm
        have hcl:(sC key++[[a6.str (fH st2)]]).length=(key++[fH st2]).length:=by rw[hc,aP]
        refine⟨j,by omega,Gp.keep rfl ?_ fun ρ1 h=>⟨_,key++[fH st2],hr2,by simp;omega,ht2.tx,?_,h⟩⟩
        ·exact⟨rfl,rfl,rfl,rfl,eQ hcl hcl,aN (HK (by omega) (by omega)),trivial⟩
        ·rw[←hc];rfl
       ·replace hbad2:(!st2.bad)=false:=hbad2
        simp at hbad2
        rw[kP,if_pos hbad2]at hr2
        conv=>whnf
        refine Gp.keepL [0,1,2] (by simp) (bY rfl rfl rfl) (H1:=[fV st2,kX,eG (fH s) a .nil .nil]) ⟨⟨_,rfl,.same _ _ rfl⟩,⟨_,rfl,.same _ _ rfl⟩,⟨_,rfl,iO ⟨dI rfl,dI ha.closed,dI rfl,dI rfl,trivial⟩⟩,trivial⟩ rfl ?_ fun ρ1 h=>⟨rfl,st2,key,hr2,ht2,rfl,h⟩
        exact⟨aU rfl,aU rfl,aU rfl,.closed _ rfl,(oE rfl (by simp) (aP key).symm (aO key)).1,trivial⟩
      ·simp at hlt2
       subst hlt2
       conv=>whnf
       refine Gp.keepL [0,1,2] (by simp) (bY rfl rfl rfl) (H1:=[fV st2,kX,eG (fH s) a .nil .nil]) ⟨⟨_,rfl,.same _ _ rfl⟩,⟨_,rfl,.same _ _ rfl⟩,⟨_,rfl,iO ⟨dI rfl,dI ha.closed,dI rfl,dI rfl,trivial⟩⟩,trivial⟩ rfl ?_ fun ρ1 h=>⟨rfl,st2,key,hr2,ht2,rfl,h⟩
       exact⟨aU rfl,aU rfl,aU rfl,.closed _ rfl,(oE rfl (by simp) (aP key).symm (aO key)).1,trivial⟩
     rintro _ ρ2 H2 ⟨rfl,st2,key,hr2,ht2,rfl,d2,rfl⟩
     rw[←hr2]at hr
     (conv=>whnf);refine And.intro (⟨cN (by simp) (by omega),bK (by simp)⟩) ?_
     conv=>whnf
     refine⟨k,by omega,Gp.keep rfl ?_ fun ρ1 h=>⟨_,L++[key],[a6.list false 1 (sC key)],hr,by simp at hle ⊢;omega,ht2,hks.snoc (.inr rfl),.inr rfl,h⟩⟩
     exact⟨rfl,rfl,rfl,aN (HK (by omega) (by omega)),trivial⟩
    ·replace hbad:(!st.bad)=false:=hbad
     simp at hbad
     obtain⟨k,rfl⟩:∃k,m=k+1:=⟨m-1,by omega⟩
     rw[kF,if_pos hbad]at hr
     conv=>whnf
     refine Gp.keep rfl ?_ fun ρ1 h=>⟨rfl,st,L,[],.nil,hr,ht,hks,.inl ⟨rfl,rfl⟩,rfl,h⟩
     exact⟨rfl,rfl,rfl,trivial⟩
   ·simp at hlt
    subst hlt
    conv=>whnf
    refine Gp.keep rfl ?_ fun ρ1 h=>⟨rfl,st,L,[],.nil,hr,ht,hks,.inl ⟨rfl,rfl⟩,rfl,h⟩
    exact⟨rfl,rfl,rfl,trivial⟩
  ·(conv=>whnf);refine aE (fun hlt=>?_) (fun hlt=>?_)
   ·simp at hlt
    (conv=>whnf);refine aE (fun hbad=>?_) (fun hbad=>?_)
    ·replace hbad:(!st.bad)=true:=hbad
     simp at hbad
     obtain⟨k,rfl⟩:∃k,m=k+1:=⟨m-1,by omega⟩
     rw[kF,if_neg (by simp[hbad])]at hr
     (conv=>whnf);refine bH.of (d9  1 (by omega) (by omega) st hb _ 0 rfl) ?_
     have n3:=TY hb
     conv=>whnf
     refine⟨fun m2 ρ H1=>∃(st2:dH) (key:List ByteArray),kP m2 st2 key=xG st∧key.length+m2≤255∧s.To st2∧H1=[fV st2,kX,eG (fH s) a (.sl 3 cs.length 0 cs.length) .nil,.arr 1 (u3 cs)]++[.arr 1 (sC key)] ∧
      Sv 120 [(0,.ptr 0 1 0 0),(2,.ptr 1 1 0 0),(3,.ptr 2 1 0 0),(6,.int .i64 (k+1:Nat)),(7,.sl 4 key.length 0 key.length),(8,.int .i64 m2)] ρ,(lR 1 st).toNat,[(7,1)],
      fun id ρ H1=>id=4∧∃(st2:dH) (key:List ByteArray),(key,st2)=xG st∧s.To st2∧H1=[fV st2,kX,eG (fH s) a (.sl 3 cs.length 0 cs.length) .nil,.arr 1 (u3 cs)] ∧
       Sv 120 [(0,.ptr 0 1 0 0),(2,.ptr 1 1 0 0),(3,.ptr 2 1 0 0),(6,.int .i64 (k+1:Nat)),(7,.list false 1 (sC key))] ρ,?_,?_,?_⟩
     ·exact⟨_,[],rfl,by simp;omega,ht.tk 1,rfl,Sv.intro rfl ⟨rfl,rfl,rfl,rfl,rfl,aN (by omega),trivial⟩⟩
     ·rintro m2 ρ H2 ⟨st2,key,hr2,hle2,ht2,rfl,d2,rfl⟩
      have hb2:=ht2.1
      (conv=>whnf);refine aE (fun hlt2=>?_) (fun hlt2=>?_)
      ·simp at hlt2
       obtain⟨j,rfl⟩:∃j,m2=j+1:=⟨m2-1,by omega⟩
       (conv=>whnf);refine aE (fun hbad2=>?_) (fun hbad2=>?_)
       ·replace hbad2:(!st2.bad)=true:=hbad2
        simp at hbad2
        rw[kP,if_neg (by simp[hbad2])]at hr2
        (conv=>whnf);refine bH.of (nA  st2 hb2 _ 0 rfl) ?_
        (conv=>whnf);refine b4 (by rw[aP];exact Nat.beq_refl _) ?_
        (conv=>whnf);refine And.intro (⟨cN (by simp;omega) (by omega),bK (by simp;omega),rfl,by rw[aP]⟩) ?_
        conv=>whnf
        have hc:sC key++[[a6.str (fH st2)]]=sC (key++[fH st2]):=(jV key [fH st2]).symm
        have hcl:(sC key++[[a6.str (fH st2)]]).length=(key++[fH st2]).length:=by rw[hc,aP]
        refine⟨j,by omega,Gp.keep rfl ?_ fun ρ1 h=>⟨_,key++[fH st2],hr2,by simp;omega,ht2.tx,?_,h⟩⟩
        ·exact⟨rfl,rfl,rfl,rfl,eQ hcl hcl,aN (HK (by omega) (by omega)),trivial⟩
        ·rw[←hc];rfl
       ·replace hbad2:(!st2.bad)=false:=hbad2
        simp at hbad2
        rw[kP,if_pos hbad2]at hr2
        conv=>whnf
        refine Gp.keepL [0,1,2,3] (by simp) (bY rfl rfl rfl) (H1:=[fV st2,kX,eG (fH s) a (.sl 3 cs.length 0 cs.length) .nil,.arr 1 (u3 cs)]) ⟨⟨_,rfl,.same _ _ rfl⟩,⟨_,rfl,.same _ _ rfl⟩,⟨_,rfl,iO ⟨dI rfl,dI ha.closed,i1 rfl rfl,dI rfl,trivial⟩⟩,⟨_,rfl,.same _ _ hks.pure⟩,trivial⟩ rfl ?_ fun ρ1 h=>⟨rfl,st2,key,hr2,ht2,rfl,h⟩
        exact⟨aU rfl,aU rfl,aU rfl,.closed _ rfl,(oE rfl (by simp) (aP key).symm (aO key)).1,trivial⟩
      ·simp at hlt2
       subst hlt2
       conv=>whnf
       refine Gp.keepL [0,1,2,3] (by simp) (bY rfl rfl rfl) (H1:=[fV st2,kX,eG (fH s) a (.sl 3 cs.length 0 cs.length) .nil,.arr 1 (u3 cs)]) ⟨⟨_,rfl,.same _ _ rfl⟩,⟨_,rfl,.same _ _ rfl⟩,⟨_,rfl,iO ⟨dI rfl,dI ha.closed,i1 rfl rfl,dI rfl,trivial⟩⟩,⟨_,rfl,.same _ _ hks.pure⟩,trivial⟩ rfl ?_ fun ρ1 h=>⟨rfl,st2,key,hr2,ht2,rfl,h⟩
       exact⟨aU rfl,aU rfl,aU rfl,.closed _ rfl,(oE rfl (by simp) (aP key).symm (aO key)).1,trivial⟩
     rintro _ ρ2 H2 ⟨rfl,st2,key,hr2,ht2,rfl,d2,rfl⟩
     rw[←hr2]at hr
     (conv=>whnf);refine b4 (by rw[eT];exact Nat.beq_refl _) ?_
     (conv=>whnf);refine And.intro (⟨cN (by simp;omega) (by omega),bK (by simp;omega),rfl,by rw[eT]⟩) ?_
     conv=>whnf
     have hc:u3 cs++[[a6.list false 1 (sC key)]]=u3 (cs++[a6.list false 1 (sC key)]):=(BS cs [a6.list false 1 (sC key)]).symm
     have hcl:(u3 cs++[[a6.list false 1 (sC key)]]).length=(cs++[a6.list false 1 (sC key)]).length:=by rw[hc,eT]
     refine⟨k,by omega,Gp.keep rfl ?_ fun ρ1 h=>⟨_,L++[key],cs++[a6.list false 1 (sC key)],hr,by simp at hle ⊢;omega,ht2,hks.snoc (.inr rfl),.inr ?_,h⟩⟩
     ·exact⟨rfl,rfl,rfl,aN (HK (by omega) (by omega)),trivial⟩
     ·rw[←hc,←hcl];rfl
    ·replace hbad:(!st.bad)=false:=hbad
     simp at hbad
     obtain⟨k,rfl⟩:∃k,m=k+1:=⟨m-1,by omega⟩
     rw[kF,if_pos hbad]at hr
     conv=>whnf
     refine Gp.keepL [0,1,2] (by simp) (bY rfl rfl rfl) (H1:=[fV st,kX,eG (fH s) a (.list false 1 (u3 cs)) .nil]) ?_ rfl ?_ fun ρ1 h=>⟨rfl,st,L,cs,_,hr,ht,hks,.inr rfl,rfl,h⟩
     ·exact⟨⟨_,rfl,.same _ _ rfl⟩,⟨_,rfl,.same _ _ rfl⟩,⟨_,rfl,iO ⟨dI rfl,dI ha.closed,oE rfl (by simp) (eT cs).symm hks.pure,dI rfl,trivial⟩⟩,trivial⟩
     ·exact⟨aU rfl,aU rfl,aU rfl,trivial⟩
   ·simp at hlt
    subst hlt
    conv=>whnf
    refine Gp.keepL [0,1,2] (by simp) (bY rfl rfl rfl) (H1:=[fV st,kX,eG (fH s) a (.list false 1 (u3 cs)) .nil]) ?_ rfl ?_ fun ρ1 h=>⟨rfl,st,L,cs,_,hr,ht,hks,.inr rfl,rfl,h⟩
    ·exact⟨⟨_,rfl,.same _ _ rfl⟩,⟨_,rfl,.same _ _ rfl⟩,⟨_,rfl,iO ⟨dI rfl,dI ha.closed,oE rfl (by simp) (eT cs).symm hks.pure,dI rfl,trivial⟩⟩,trivial⟩
    ·exact⟨aU rfl,aU rfl,aU rfl,trivial⟩
 rintro _ ρ1 H1 ⟨rfl,st,keys,cs,b,hr3,t2,hks,hcb,rfl,d,rfl⟩
 have hb3:=t2.1
 have h4:iR (lR 2 st).toNat (kQ 2 st) []=JT fY s:=by rw[JT,←hr3]
 have e3:(GI fY s).1=keys:=by rw[←hr3]
 rw[e3]
 (conv=>whnf);refine bH.of (d9  2 (by omega) (by omega) st hb3 _ 0 rfl) ?_
 have n4:=YP hb3
 conv=>whnf
 refine⟨fun m ρ H1=>∃(st:dH) (L:List (Option (List V)×Int)),iR m st L=JT fY s∧L.length+m≤65535∧s.To st∧YX st (fH s) a b L H1 ∧
  Sv 120 [(0,.ptr 0 1 0 0),(2,.ptr 1 1 0 0),(3,.ptr 2 1 0 0),(9,.int .i64 m)] ρ,(lR 2 st).toNat,[],
  fun id ρ H1=>id=6∧∃(st:dH) (L:List (Option (List V)×Int)) (c:a6),(L,st)=JT fY s∧CL c 2 (iH L)∧H1=[fV st,kX,eG (fH s) a b c] ∧
   Sv 120 [(0,.ptr 0 1 0 0),(2,.ptr 1 1 0 0),(3,.ptr 2 1 0 0)] ρ,?_,?_,?_⟩
 ·exact⟨_,[],h4,by simp;omega,t2.tk 2,.inl ⟨rfl,rfl⟩,Sv.intro rfl ⟨rfl,rfl,rfl,aN (by omega),trivial⟩⟩
 ·rintro m ρ H1 ⟨st,L,hr,hle,ht,hH,d,rfl⟩
  have hb:=ht.1
  rcases hH with⟨rfl,rfl⟩|rfl
  ·(conv=>whnf);refine aE (fun hlt=>?_) (fun hlt=>?_)
   ·simp at hlt
    (conv=>whnf);refine aE (fun hbad=>?_) (fun hbad=>?_)
    ·replace hbad:(!st.bad)=true:=hbad
     simp at hbad
     obtain⟨k,rfl⟩:∃k,m=k+1:=⟨m-1,by omega⟩
     rw[iR,if_neg (by simp[hbad])]at hr
     (conv=>whnf);refine bH.of (d9  3 (by omega) (by omega) st hb _ 0 rfl) ?_
     (conv=>whnf);refine bH.of (d9  2 (by omega) (by omega) (kQ 3 st) (gY hb) _ 0 rfl) ?_
     (conv=>whnf);refine bH.of (tH ⟨131,k131.has⟩ _ (mT (by omega) (by omega) (gY (n:=3) hb)).1 (V5 st) _ 0 rfl) ?_
     have hd:=fun H=>nW false (KQ st) (lH (ht.tk 3 |>.tk 2).1) (Nat.le_trans (wK _ _) (Nat.le_trans (ht.tk 3 |>.tk 2).2 hl)) H
     rw[sW]at hd
     rcases hdc:Q8 (KQ st)with _|rs
     rotate_left
     ·rw[hdc]at hd
      have hrs:kL st=PM st:=by rw[kL,hdc]
      have hrv:[a6.list false 3 (vC rs),a6.int .i64 (lR 3 st)]=tP (f5 st):=by rw[f5,hdc];rfl
      (conv=>whnf);refine bH.of (hd _) ?_
      (conv=>whnf);refine And.intro (⟨cN (by simp) (by omega),bK (by simp)⟩) ?_
      conv=>whnf
      refine⟨k,by omega,Gp.keepL [0,1,2,4] (by simp) (bY rfl rfl rfl) (H1:=[fV (kL st),kX,eG (fH s) a b (.sl 3 1 0 1),.arr 2 (iH [f5 st])]) ?_ rfl ?_ fun ρ1 h=>⟨_,_,hr,by simp at hle ⊢;omega,ht.row,.inr rfl,h⟩⟩
      ·exact⟨⟨_,rfl,by rw[hrs];exact .same _ _ rfl⟩,⟨_,rfl,.same _ _ rfl⟩,⟨_,rfl,iO ⟨dI rfl,dI ha.closed,dI hcb.closed,i1 rfl rfl,trivial⟩⟩,⟨_,rfl,zY.of_eq (by rw[show iH [f5 st]=[tP (f5 st)]from rfl,←hrv]) (fF _)⟩,trivial⟩
      ·exact⟨aU rfl,aU rfl,aU rfl,n8 (HK (by omega) (by omega)),trivial⟩
     ·rw[hdc]at hd
      have hrs:kL st=⟨(PM st).rest,true⟩:=by rw[kL,hdc]
      have hrv:[a6.nil,a6.int .i64 (lR 3 st)]=tP (f5 st):=by rw[f5,hdc];rfl
      (conv=>whnf);refine bH.of (hd _) ?_
      (conv=>whnf);refine And.intro (⟨cN (by simp) (by omega),bK (by simp)⟩) ?_
      conv=>whnf
      refine⟨k,by omega,Gp.keepL [0,1,2,4] (by simp) (bY rfl rfl rfl) (H1:=[fV (kL st),kX,eG (fH s) a b (.sl 3 1 0 1),.arr 2 (iH [f5 st])]) ?_ rfl ?_ fun ρ1 h=>⟨_,_,hr,by simp at hle ⊢;omega,ht.row,.inr rfl,h⟩⟩
      ·exact⟨⟨_,rfl,by rw[hrs];exact .same _ _ rfl⟩,⟨_,rfl,.same _ _ rfl⟩,⟨_,rfl,iO ⟨dI rfl,dI ha.closed,dI hcb.closed,i1 rfl rfl,trivial⟩⟩,⟨_,rfl,zY.of_eq (by rw[show iH [f5 st]=[tP (f5 st)]from rfl,←hrv]) (fF _)⟩,trivial⟩
      ·exact⟨aU rfl,aU rfl,aU rfl,n8 (HK (by omega) (by omega)),trivial⟩
    ·replace hbad:(!st.bad)=false:=hbad
     simp at hbad
     obtain⟨k,rfl⟩:∃k,m=k+1:=⟨m-1,by omega⟩
     rw[iR,if_pos hbad]at hr
     conv=>whnf
     refine Gp.keep rfl ?_ fun ρ1 h=>⟨rfl,st,[],.nil,hr,.inl ⟨rfl,rfl⟩,rfl,h⟩
     exact⟨rfl,rfl,rfl,trivial⟩
   ·simp at hlt
    subst hlt
    conv=>whnf
    refine Gp.keep rfl ?_ fun ρ1 h=>⟨rfl,st,[],.nil,hr,.inl ⟨rfl,rfl⟩,rfl,h⟩
    exact⟨rfl,rfl,rfl,trivial⟩
  ·(conv=>whnf);refine aE (fun hlt=>?_) (fun hlt=>?_)
   ·simp at hlt
    (conv=>whnf);refine aE (fun hbad=>?_) (fun hbad=>?_)
    ·replace hbad:(!st.bad)=true:=hbad
     simp at hbad
     obtain⟨k,rfl⟩:∃k,m=k+1:=⟨m-1,by omega⟩
     rw[iR,if_neg (by simp[hbad])]at hr
     (conv=>whnf);refine bH.of (d9  3 (by omega) (by omega) st hb _ 0 rfl) ?_
     (conv=>whnf);refine bH.of (d9  2 (by omega) (by omega) (kQ 3 st) (gY hb) _ 0 rfl) ?_
     (conv=>whnf);refine bH.of (tH ⟨131,k131.has⟩ _ (mT (by omega) (by omega) (gY (n:=3) hb)).1 (V5 st) _ 0 rfl) ?_
     have hd:=fun H=>nW false (KQ st) (lH (ht.tk 3 |>.tk 2).1) (Nat.le_trans (wK _ _) (Nat.le_trans (ht.tk 3 |>.tk 2).2 hl)) H
     rw[sW]at hd
     rcases hdc:Q8 (KQ st)with _|rs
     rotate_left
     ·rw[hdc]at hd
      have hrs:kL st=PM st:=by rw[kL,hdc]
      have hrv:[a6.list false 3 (vC rs),a6.int .i64 (lR 3 st)]=tP (f5 st):=by rw[f5,hdc];rfl
      (conv=>whnf);refine bH.of (hd _) ?_
      (conv=>whnf);refine b4 (by rw[d5];exact Nat.beq_refl _) ?_
      (conv=>whnf);refine And.intro (⟨cN (by simp;omega) (by omega),bK (by simp;omega),rfl,by rw[d5]⟩) ?_
      conv=>whnf
      rw[hrv]
      have hc:iH L++[tP (f5 st)]=iH (L++[f5 st]):=(sD L [f5 st]).symm
      have hcl:(iH L++[tP (f5 st)]).length=(L++[f5 st]).length:=by rw[hc,d5]
      refine⟨k,by omega,Gp.keepL [0,1,2,3] (by simp) (bY rfl rfl rfl) (H1:=[fV (kL st),kX,eG (fH s) a b (.sl 3 (L++[f5 st]).length 0 (L++[f5 st]).length),.arr 2 (iH (L++[f5 st]))]) ?_ rfl ?_ fun ρ1 h=>⟨_,_,hr,by simp at hle ⊢;omega,ht.row,.inr rfl,h⟩⟩
      ·exact⟨⟨_,rfl,by rw[hrs];exact .same _ _ rfl⟩,⟨_,rfl,.same _ _ rfl⟩,⟨_,rfl,iO ⟨dI rfl,dI ha.closed,dI hcb.closed,i1 rfl hcl,trivial⟩⟩,⟨_,rfl,zY.of_eq hc (fF _)⟩,trivial⟩
      ·exact⟨aU rfl,aU rfl,aU rfl,n8 (HK (by omega) (by omega)),trivial⟩
     ·rw[hdc]at hd
      have hrs:kL st=⟨(PM st).rest,true⟩:=by rw[kL,hdc]
      have hrv:[a6.nil,a6.int .i64 (lR 3 st)]=tP (f5 st):=by rw[f5,hdc];rfl
      (conv=>whnf);refine bH.of (hd _) ?_
      (conv=>whnf);refine b4 (by rw[d5];exact Nat.beq_refl _) ?_
      (conv=>whnf);refine And.intro (⟨cN (by simp;omega) (by omega),bK (by simp;omega),rfl,by rw[d5]⟩) ?_
      conv=>whnf
      rw[hrv]
      have hc:iH L++[tP (f5 st)]=iH (L++[f5 st]):=(sD L [f5 st]).symm
      have hcl:(iH L++[tP (f5 st)]).length=(L++[f5 st]).length:=by rw[hc,d5]
      refine⟨k,by omega,Gp.keepL [0,1,2,3] (by simp) (bY rfl rfl rfl) (H1:=[fV (kL st),kX,eG (fH s) a b (.sl 3 (L++[f5 st]).length 0 (L++[f5 st]).length),.arr 2 (iH (L++[f5 st]))]) ?_ rfl ?_ fun ρ1 h=>⟨_,_,hr,by simp at hle ⊢;omega,ht.row,.inr rfl,h⟩⟩
      ·exact⟨⟨_,rfl,by rw[hrs];exact .same _ _ rfl⟩,⟨_,rfl,.same _ _ rfl⟩,⟨_,rfl,iO ⟨dI rfl,dI ha.closed,dI hcb.closed,i1 rfl hcl,trivial⟩⟩,⟨_,rfl,zY.of_eq hc (fF _)⟩,trivial⟩
      ·exact⟨aU rfl,aU rfl,aU rfl,n8 (HK (by omega) (by omega)),trivial⟩
    ·replace hbad:(!st.bad)=false:=hbad
     simp at hbad
     obtain⟨k,rfl⟩:∃k,m=k+1:=⟨m-1,by omega⟩
     rw[iR,if_pos hbad]at hr
     conv=>whnf
     refine Gp.keepL [0,1,2] (by simp) (bY rfl rfl rfl) (H1:=[fV st,kX,eG (fH s) a b (.list false 2 (iH L))]) ?_ rfl ?_ fun ρ1 h=>⟨rfl,st,L,_,hr,.inr rfl,rfl,h⟩
     ·exact⟨⟨_,rfl,.same _ _ rfl⟩,⟨_,rfl,.same _ _ rfl⟩,⟨_,rfl,iO ⟨dI rfl,dI ha.closed,dI hcb.closed,oE rfl (by simp) (d5 L).symm (fF L),trivial⟩⟩,trivial⟩
     ·exact⟨aU rfl,aU rfl,aU rfl,trivial⟩
   ·simp at hlt
    subst hlt
    conv=>whnf
    refine Gp.keepL [0,1,2] (by simp) (bY rfl rfl rfl) (H1:=[fV st,kX,eG (fH s) a b (.list false 2 (iH L))]) ?_ rfl ?_ fun ρ1 h=>⟨rfl,st,L,_,hr,.inr rfl,rfl,h⟩
    ·exact⟨⟨_,rfl,.same _ _ rfl⟩,⟨_,rfl,.same _ _ rfl⟩,⟨_,rfl,iO ⟨dI rfl,dI ha.closed,dI hcb.closed,oE rfl (by simp) (d5 L).symm (fF L),trivial⟩⟩,trivial⟩
    ·exact⟨aU rfl,aU rfl,aU rfl,trivial⟩
 rintro _ ρ1 H1 ⟨rfl,st,rows,c,hr4,hcc,rfl,d,rfl⟩
 have ia:a.isCell=true:=(dI (H:=[]) (ids:=[]) ha.closed).2
 have ib:b.isCell=true:=(dI (H:=[]) (ids:=[]) hcb.closed).2
 have ic:c.isCell=true:=(dI (H:=[]) (ids:=[]) hcc.closed).2
 (conv=>whnf);refine b4 (by(show(_&&List.all [a6.str (fH s),a,b,c] a6.isCell)=true);simp only[List.all_cons,List.all_nil,ia,ib,ic];rfl) ?_
 conv=>whnf
 have e4:(JT fY s).1=rows:=by rw[←hr4]
 rw[e4]
 exact⟨a,b,c,cs,rfl,ha,hcb,hks,hcc,[_,_],by rw[uX,←hr4]⟩
end Go.AW
namespace Go.AW
variable [dK]
attribute [local irreducible] a7
theorem LD(l:List Int):rL l=rK∨∃rs:List V,rs.length≤1000000∧rL l=.tuple [.list false 3 (vC rs),.int .i64 0]:=by
 have hlen:∀(n:Nat) (l:List Int) (rs:List V) (r:List Int),oB n l=some (rs,r)→rs.length=n:=by
  intro n
  induction n with
  |zero=>intro l rs r h;simp[oB]at h;rw[h.1];rfl
  |succ n ih =>
   intro l rs r h
   rw[jR]at h
   split at h
   ·cases h
   split at h
   ·rename_i rs' r' h'
    simp at h
    rw[←h.1,List.length_cons,ih _ _ _ h']
   ·cases h
 unfold rL
 split
 ·exact .inl rfl
 ·rename_i h0
  split
  ·rename_i rs hd
   exact .inr ⟨rs,by rw[hlen _ _ _ _ hd];omega,rfl⟩
  ·exact .inl rfl
attribute [local irreducible] bH oL Gp
theorem N4{sz:Nat}{es fs:List (List a6)}(hl:es.length=fs.length)(h:∀(i:Nat) (e f:List a6),es[i]?=some e→fs[i]?=some f→e.length=f.length∧(∀c∈f,c.isCell=true)∧oP e f):gG (.list false sz es) (.list false sz fs):=by
 have hex:∀{i:Nat}{f:List a6},fs[i]?=some f→∃e,es[i]?=some e:=fun{i f} hf=>⟨_,List.getElem?_eq_getElem (by have:=(List.getElem?_eq_some_iff.1 hf).1;omega)⟩
 refine .list false false sz es fs (fun h=>h) hl (fun i e f he hf=>(h i e f he hf).1) (fun i j f c hf hc=>?_) (fun i j e f d c he hf hd hc=>(h i e f he hf).2.2.2 j d c hd hc)
 obtain⟨e,he⟩:=hex hf
 exact(h i e f he hf).2.1 c (List.mem_of_getElem? hc)
theorem TV{b:a6}{cs:List a6}{L:List (List ByteArray)}(hb:CL b 1 (u3 cs))(h:zH cs L):gG b (.list false 1 (zM (L.map fun k=>(false,k)))):=by
 have hl:=h.1
 rcases hb with⟨rfl,he⟩|rfl
 ·have:L=[]:=by
   have:=congrArg List.length he
   rw[eT]at this
   exact List.length_eq_zero_iff.1 (by rw[←hl];exact this)
  subst this
  exact .nil _ _
 ·refine N4 (by rw[eT,iN,List.length_map,hl]) fun i e f he hf=>?_
  rw[u3,List.getElem?_map]at he
  rw[zM,List.map_map,List.getElem?_map]at hf
  obtain⟨c,hc,rfl⟩:=Option.map_eq_some_iff.1 he
  obtain⟨k,hk,rfl⟩:=Option.map_eq_some_iff.1 hf
  exact⟨rfl,fun c hc=>by simp at hc;subst hc;rfl,.cons (h.2 i c k hc hk).wk .nil⟩
theorem UD{c:a6}{L:List (Option (List V)×Int)}(hc:CL c 2 (iH L)):gG c (.list false 2 (eC (L.map B7))):=by
 rcases hc with⟨rfl,he⟩|rfl
 ·have:L=[]:=by
   have:=congrArg List.length he
   rw[d5]at this
   exact List.length_eq_zero_iff.1 this
  subst this
  exact .nil _ _
 ·refine N4 (by rw[d5,aR,List.length_map]) fun i e f he hf=>?_
  rw[iH,List.getElem?_map]at he
  rw[eC,List.map_map,List.getElem?_map]at hf
  obtain⟨p,hp,rfl⟩:=Option.map_eq_some_iff.1 he
  rw[hp]at hf
  cases hf
  obtain⟨r,n⟩:=p
  cases r with
  |none=>exact⟨rfl,fun c hc=>by simp[jN,B7]at hc;rcases hc with rfl|rfl<;>rfl,.cons (.nil false 3) (.cons (.refl _) .nil)⟩
  |some r=>exact⟨rfl,fun c hc=>by simp[jN,B7]at hc;rcases hc with rfl|rfl<;>rfl,.cons (.refl _) (.cons (.refl _) .nil)⟩
theorem SH{nm:ByteArray}{a b c:a6}{cols:List c8}{keys:List (List ByteArray)}{rows:List (Option (List V)×Int)}{cs:List a6}(ha:CL a 3 (cC cols))(hb:CL b 1 (u3 cs))(hk:zH cs keys)(hc:CL c 2 (iH rows)):
  gG (.agg [.str nm,a,b,c]) (.agg (dR ⟨nm,false,cols,false,keys.map fun k=>(false,k),false,rows.map B7⟩)) :=
 .aggs (.cons (.refl _) (.cons ha.wk (.cons (TV hb hk) (.cons (UD hc) .nil))))
theorem CH(s:dH)(hby:fI s.rest)(hl:s.rest.length≤1000000):
  a7 pr 76 [.ptr 0 1 0 0] [fV s] (fun r H'=>r=.agg (dR (tM fY s))∧H'=[fV (uX fY s)]):=by
 obtain⟨r,H',⟨a,b,c,cs,rfl,ha,hb,hk,hc,X,rfl⟩,h⟩:=GH s hby hl
 refine a7.weakRD (Q:=fun r H'=>r=.agg [.str (fH s),a,b,c]∧H'=[fV (uX fY s)]) ?_ (by
  rintro r H' ⟨rfl,rfl⟩
  exact⟨_,SH ha hb hk hc,rfl,rfl⟩)
 refine h.gp ?_
 rintro r H' ⟨rfl,rfl⟩
 refine Gp.res [0] (by simp) (bY rfl rfl rfl) (H1:=[fV (uX fY s)]) ⟨⟨_,rfl,.same _ _ rfl⟩,trivial⟩ (.closed (.agg [.str (fH s),a,b,c]) ?_) ⟨_,rfl,rfl,rfl⟩
 show List.all [a6.str (fH s),a,b,c] a6.isPure=true
 simp only[List.all_cons,List.all_nil,ha.closed,hb.closed,hc.closed];rfl
theorem DL(s:dH)(hby:fI s.rest)(hl:s.rest.length≤1000000)(H:List aB)(id:Nat)(ho:H[id]?=some (fV s)):
  a7 pr 76 [.ptr id 1 0 0] H (fun r H'=>r=.agg (dR (tM fY s))∧H'=H.set id (fV (uX fY s))) :=
 (CH s hby hl).fr ho rfl rfl (.pt trivial) (.closed _ rfl)
theorem EU(l:Nat):∀(n:Nat) (s:dH) (L:List (Option (List V)×Int)),fI s.rest→s.rest.length≤1000000→(∀p∈L,(B7 p).row.length≤1000000)→∀p∈(iR n s L).1,(B7 p).row.length≤1000000
 |0,_,_,_,_,h=>h
 |n+1,s,L,hb,hl,h=>by
  unfold iR
  split
  ·exact h
  ·have h3:=(dH.To.refl hb).row
   refine EU l n (kL s) _ h3.1 (Nat.le_trans h3.2 hl) fun p hp=>?_
   rcases List.mem_append.1 hp with hp|hp
   ·exact h p hp
   ·simp at hp
    subst hp
    rw[B7,f5]
    have hd:=sW (KQ s)
    rcases LD (KQ s)with h1|⟨rs,h1,h2⟩
    ·cases hc:Q8 (KQ s)with
     |none=>simp
     |some rs=>rw[hc,h1]at hd;simp[rK]at hd
    ·cases hc:Q8 (KQ s)with
     |none=>simp
     |some rs2 =>
      rw[hc,h2]at hd
      simp at hd
      have:=N3 hd
      subst this
      exact h1
theorem CD(fl:Int→Bool){s:dH}(hb:fI s.rest)(hl:s.rest.length≤1000000):(tM fl s).Fit:=by
 have t0:=dH.To.refl hb
 have t1:=t0.tx
 have t2:s.To (MG fl s).2:=dH.To.cols fl _ (t1.tk 1)
 have t3:s.To (GI fl s).2:=dH.To.keys _ (t2.tk 1)
 have n1:=TY t1.1
 have n4:=YP t3.1
 refine⟨?_,?_,?_,?_⟩
 ·have:=T3 (s:=s) hb;show(fH s).size≤1000000;omega
 ·have:=E1 fl (lR 1 (uD s)).toNat (kQ 1 (uD s)) []
  show(MG fl s).1.length≤1000000
  rw[MG];simp at this;omega
 ·have:=EV (lR 2 (GI fl s).2).toNat (kQ 2 (GI fl s).2) []
  show((JT fl s).1.map B7).length≤1000000
  rw[List.length_map,JT];simp at this;omega
 ·intro e he
  obtain⟨p,hp,rfl⟩:=List.mem_map.1 (show e∈(JT fl s).1.map B7 from he)
  exact EU 0 _ _ [] (t3.tk 2).1 (Nat.le_trans (t3.tk 2).2 hl) (fun p hp=>by simp at hp) p hp
def sN(fl:Int→Bool)(b:List Int):Bool:=!(uX fl ⟨b,false⟩).bad&&decide (eX (tM fl ⟨b,false⟩)=0)&&decide (b.length≤65536)&&(cH (tM fl ⟨b,false⟩)==b)
def SG:r6:=⟨bs [],false,[],false,[],false,[]⟩
def zX(fl:Int→Bool)(b:List Int):a6:=if sN fl b then .tuple [.agg (dR (tM fl ⟨b,false⟩)),.int .i64 0]else .tuple [.agg (dR SG),.int .i64 11]
def GZ(fl:Int→Bool)(b:List Int):a6:=if sN fl b then .tuple [.agg (dR (tM fl ⟨b,false⟩)),.int .i64 0]else .tuple [.agg [.str (bs []),.nil,.nil,.nil],.int .i64 11]
theorem WN(fl:Int→Bool)(b:List Int):gG (GZ fl b) (zX fl b):=by
 unfold GZ zX
 split
 ·exact .refl _
 ·exact .tuples (.cons (.aggs (.cons (.refl _) (.cons (.nil false 3) (.cons (.nil false 1) (.cons (.nil false 2) .nil))))) (.cons (.refl _) .nil))
theorem nQ(x:r6):(eX x=0∧(cH x).length≤65536∧mE x=.tuple [.list false 1 (bC (cH x)),.int .i64 0])∨(∃n:Int,n≠0∧mE x=.tuple [.nil,.int .i64 n]∧(eX x≠0∨65536<(cH x).length)):=by
 unfold mE
 split
 ·rename_i h;exact .inr ⟨_,h,rfl,.inl h⟩
 ·rename_i h
  split
  ·rename_i h2;exact .inr ⟨2,by decide,rfl,.inr h2⟩
  ·rename_i h2;exact .inl ⟨by simpa using h,by omega,rfl⟩
theorem vN{α:Type}{f:α→List Int}{l:List α}(h:∀x∈l,fI (f x)):fI (l.flatMap f):=fun y hy=>by
 obtain⟨x,hx,hy⟩:=List.mem_flatMap.1 hy
 exact h x hx y hy
theorem oS(x:r6):fI (cH x):=by
 have h1:fI (x.cols.flatMap jX):=vN fun c _=>pM (GW _) (oR (nY _) (oR (by cases c.nul<;>decide) TL))
 have h2:fI (x.keys.flatMap j8):=vN fun k _=>oR (nY _) (vN fun s _=>GW s)
 have h3:fI (x.rows.flatMap jE):=vN fun e _=>pM (pM (A0 _ _) (A0 _ _)) (QX _)
 unfold cH
 exact pM (pM (pM (pM (GW _) (oR (nY _) h1)) (oR (nY _) h2)) (A0 _ _)) h3
set_option maxRecDepth 20000 in
theorem HT(b:List Int)(hby:fI b)(hl:b.length≤1000000)(H:List aB):
  a7 pr 28 [.list false 1 (bC b)] H (fun r H'=>r=zX fY b∧H'=H):=by
 refine a7.weakRD (Q:=fun r H'=>r=GZ fY b∧H'=H) ?_ (by rintro r H' ⟨rfl,rfl⟩;exact⟨_,WN _ _,rfl,rfl⟩)
 refine a7.pure rfl (aA k28.has ?_)
 have hfit:=CD fY (s:=⟨b,false⟩) hby hl
 have hrel:=fun H' id ho=>DL ⟨b,false⟩ hby hl H' id ho
 obtain⟨x,hx⟩:∃x,tM fY ⟨b,false⟩=x:=⟨_,rfl⟩
 obtain⟨t,ht⟩:∃t,uX fY ⟨b,false⟩=t:=⟨_,rfl⟩
 have hU:sN fY b=(!t.bad&&decide (eX x=0)&&decide (b.length≤65536)&&(cH x==b)):=by rw[sN,hx,ht]
 rw[GZ,hx]
 rw[hx]at hfit
 rw[hx,ht]at hrel
 (conv=>whnf);refine a7.mono (hrel _ 1 rfl) ?_
 rintro r H' ⟨rfl,rfl⟩
 (conv=>whnf);refine a7.use (OA x hfit _) ?_
 have err:∀{H1:List aB},sN fY b=false→dV H1 0 [] (.tuple [.agg [.str (bs []),.nil,.nil,.nil],.int .i64 11]) (if sN fY b=true then .tuple [.agg (dR x),.int .i64 0]else .tuple [.agg [.str (bs []),.nil,.nil,.nil],.int .i64 11]):=by
  intro H1 h
  rw[h]
  exact dP (.closed _ rfl) (.closed _ rfl)
 rcases nQ x with⟨h1,h2,h3⟩|⟨n,h1,h2,h3⟩
 ·rw[h3]
  (conv=>whnf);refine aE (fun hb=>?_) (fun hb=>?_)
  ·conv=>whnf
   exact err (by rw[hU,hb];rfl)
  (conv=>whnf);refine a7.use (zJ false false (cH x) b (oS _) hby _) ?_
  (conv=>whnf);refine aE (fun he=>?_) (fun he=>?_)
  ·conv=>whnf
   exact err (by rw[hU];simp at he;simp[he])
  ·conv=>whnf
   replace he:(!(cH x==b))=false:=he
   simp at he
   rw[he]at h2
   have:sN fY b=true:=by rw[hU,hb,h1,he];simp;omega
   rw[if_pos this]
   exact dP (.closed _ rfl) (.closed _ rfl)
 ·rw[h2]
  (conv=>whnf);refine aE (fun hb=>?_) (fun hb=>?_)
  ·conv=>whnf
   exact err (by rw[hU,hb];rfl)
  (conv=>whnf);refine aE (fun hn=>?_) (fun hn=>?_)
  ·conv=>whnf
   exact err (by
    rw[hU]
    rcases h3 with h3|h3
    ·simp[h3]
    ·by_cases hx2:cH x=b
     ·rw[←hx2];simp;omega
     ·simp[hx2])
  ·simp at hn
   exact absurd hn h1
def iX(n:Int):Bool:=n==1
theorem XR{n:Int}(h0:0≤n)(h1:n≤255):u8 n=n:=by rw[m3];omega
theorem J6{n:Int}(h0:0≤n)(h1:n≤255)(rest:List Int):lR 1 ⟨u8 n::rest,false⟩=n∧kQ 1 ⟨u8 n::rest,false⟩=⟨rest,false⟩:=by
 refine⟨?_,(y8 [u8 n] rest 1 rfl).2.2⟩
 have:=M5 [u8 n] rest 1 rfl
 rw[show[u8 n]++rest=u8 n::rest from rfl]at this
 rw[this]
 show 0*256+u8 n=n
 rw[XR h0 h1];omega
theorem RN(k:Nat){n:Int}(h0:0≤n)(h1:n<256 ^ k)(rest:List Int):lR k ⟨j2 k n++rest,false⟩=n∧kQ k ⟨j2 k n++rest,false⟩=⟨rest,false⟩ :=
 ⟨by rw[M5 _ _ _ (by rw[bX]),RU k n h0 h1],(y8 _ _ _ (by rw[bX])).2.2⟩
theorem GX(s:ByteArray)(rest:List Int)(hs:s.size≤255):fH ⟨eU s++rest,false⟩=s∧uD ⟨eU s++rest,false⟩=⟨rest,false⟩:=⟨(KL s rest hs).1,(KL s rest hs).2.2⟩
section
variable {fl:Int→Bool}(hf1:fl 1=true)(hf0:fl 0=false)
include hf1 hf0
theorem ND(c:c8)(h1:c.name.size≤24)(h2:1≤c.kind)(h3:c.kind≤4)(rest:List Int):HI fl ⟨jX c++rest,false⟩=c∧TM ⟨jX c++rest,false⟩=⟨rest,false⟩:=by
 have e:jX c++rest=eU c.name++(u8 c.kind::((bif c.nul then 1 else 0)::rest)):=by simp[jX]
 obtain⟨a1,a2⟩:=GX c.name (u8 c.kind::((bif c.nul then 1 else 0)::rest)) (by omega)
 obtain⟨b1,b2⟩:=J6 (n:=c.kind) (by omega) (by omega) ((bif c.nul then 1 else 0)::rest)
 have hu:(bif c.nul then(1:Int)else 0)=u8 (bif c.nul then 1 else 0):=by cases c.nul<;>rfl
 obtain⟨d1,d2⟩:=J6 (n:=bif c.nul then 1 else 0) (by cases c.nul<;>decide) (by cases c.nul<;>decide) rest
 rw[←hu]at d1 d2
 rw[e]
 constructor
 ·rw[HI,a1,a2,b1,b2,d1]
  cases c with
  |mk nm k nu=>cases nu<;>simp[hf1,hf0]
 ·rw[TM,a2,b2,d2]
theorem IB:∀(l:List c8),(∀c∈l,c.name.size≤24∧1≤c.kind∧c.kind≤4)→∀(rest:List Int) (L:List c8),k9 fl l.length ⟨l.flatMap jX++rest,false⟩ L=(L++l,⟨rest,false⟩)
 |[],_,rest,L=>by simp[k9]
 |c::l,h,rest,L=>by
  obtain⟨c1,c2,c3⟩:=h c (List.mem_cons_self ..)
  rw[List.flatMap_cons,List.append_assoc,List.length_cons,k9,if_neg (by simp),(ND hf1 hf0 c c1 c2 c3 _).1,(ND hf1 hf0 c c1 c2 c3 _).2,IB l (fun d hd=>h d (List.mem_cons_of_mem _ hd))]
  simp
end
theorem KK:∀(l:List ByteArray),(∀s∈l,s.size≤24)→∀(rest:List Int) (L:List ByteArray),kP l.length ⟨l.flatMap eU++rest,false⟩ L=(L++l,⟨rest,false⟩)
 |[],_,rest,L=>by simp[kP]
 |c::l,h,rest,L=>by
  have c1:=h c (List.mem_cons_self ..)
  rw[List.flatMap_cons,List.append_assoc,List.length_cons,kP,if_neg (by simp),(GX c _ (by omega)).1,(GX c _ (by omega)).2,KK l (fun d hd=>h d (List.mem_cons_of_mem _ hd))]
  simp
theorem TU(k:Bool×List ByteArray)(h1:k.2.length≤12)(h2:∀s∈k.2,s.size≤24)(rest:List Int):xG ⟨j8 k++rest,false⟩=(k.2,⟨rest,false⟩):=by
 have e:j8 k++rest=u8 (k.2.length:Int)::(k.2.flatMap eU++rest):=by simp[j8]
 obtain⟨a1,a2⟩:=J6 (n:=(k.2.length:Int)) (by omega) (by omega) (k.2.flatMap eU++rest)
 rw[e,xG,a1,a2,Int.toNat_natCast,KK _ h2]
 simp
theorem IX:∀(l:List (Bool×List ByteArray)),(∀k∈l,k.2.length≤12∧∀s∈k.2,s.size≤24)→∀(rest:List Int) (L:List (List ByteArray)),kF l.length ⟨l.flatMap j8++rest,false⟩ L=(L++l.map (·.2),⟨rest,false⟩)
 |[],_,rest,L=>by simp[kF]
 |k::l,h,rest,L=>by
  obtain⟨c1,c2⟩:=h k (List.mem_cons_self ..)
  rw[List.flatMap_cons,List.append_assoc,List.length_cons,kF,if_neg (by simp),TU k c1 c2,IX l (fun d hd=>h d (List.mem_cons_of_mem _ hd))]
  simp
theorem O4(e:cW)(h1:e.row.length≤12)(h2:0<e.cnt)(h3:e.cnt≤65536)(h4:∀v∈e.row,c7 v=true)(rest:List Int):f5 ⟨jE e++rest,false⟩=(some e.row,e.cnt)∧kL ⟨jE e++rest,false⟩=⟨rest,false⟩:=by
 have hre:DM e.row=0:=by unfold DM;rw[if_neg (by omega),if_pos (List.all_eq_true.2 h4)]
 have hel:=rO hre
 have e1:jE e++rest=j2 3 e.cnt++(j2 2 ((eY e.row).length:Int)++(eY e.row++rest)):=by simp[jE]
 obtain⟨a1,a2⟩:=RN 3 (n:=e.cnt) (by omega) (by omega) (j2 2 ((eY e.row).length:Int)++(eY e.row++rest))
 obtain⟨b1,b2⟩:=RN 2 (n:=((eY e.row).length:Int)) (by omega) (by omega) (eY e.row++rest)
 obtain⟨d1,_,d2⟩:=y8 (eY e.row) rest ((eY e.row).length:Int) rfl
 have hL:KQ ⟨jE e++rest,false⟩=eY e.row:=by rw[KQ,V5,e1];erw [a2,b1,b2];exact d1
 have hE:PM ⟨jE e++rest,false⟩=⟨rest,false⟩:=by rw[PM,V5,e1];erw [a2,b1,b2];exact d2
 have hd:=TO hre
 constructor
 ·rw[f5,hL,hd,e1];erw [a1]
 ·rw[kL,hL,hd];exact hE
theorem JV:∀(l:List cW),(∀e∈l,e.row.length≤12∧0<e.cnt∧e.cnt≤65536∧∀v∈e.row,c7 v=true)→∀(rest:List Int) (L:List (Option (List V)×Int)),iR l.length ⟨l.flatMap jE++rest,false⟩ L=(L++l.map (fun e=>(some e.row,e.cnt)),⟨rest,false⟩)
 |[],_,rest,L=>by simp[iR]
 |e::l,h,rest,L=>by
  obtain⟨c1,c2,c3,c4⟩:=h e (List.mem_cons_self ..)
  rw[List.flatMap_cons,List.append_assoc,List.length_cons,iR,if_neg (by simp),(O4 e c1 c2 c3 c4 _).1,(O4 e c1 c2 c3 c4 _).2,JV l (fun d hd=>h d (List.mem_cons_of_mem _ hd))]
  simp
def rH(x:r6):r6:=⟨x.name,false,x.cols,false,x.keys.map fun k=>(false,k.2),false,x.rows⟩
theorem AF{x:r6}(h:eX x=0){fl:Int→Bool}(hf1:fl 1=true)(hf0:fl 0=false):tM fl ⟨cH x,false⟩=rH x∧uX fl ⟨cH x,false⟩=⟨[],false⟩:=by
 have ok:=r6.ok_of h
 obtain⟨o1,o2,o3,o4,o5,o6,o7⟩:=ok
 have e:cH x=eU x.name++(u8 (x.cols.length:Int)::(x.cols.flatMap jX++(u8 (x.keys.length:Int)::(x.keys.flatMap j8++(j2 2 (x.rows.length:Int)++(x.rows.flatMap jE++[])))))):=by simp[cH]
 obtain⟨a1,a2⟩:=GX x.name (u8 (x.cols.length:Int)::(x.cols.flatMap jX++(u8 (x.keys.length:Int)::(x.keys.flatMap j8++(j2 2 (x.rows.length:Int)++(x.rows.flatMap jE++[])))))) (by omega)
 obtain⟨b1,b2⟩:=J6 (n:=(x.cols.length:Int)) (by omega) (by omega) (x.cols.flatMap jX++(u8 (x.keys.length:Int)::(x.keys.flatMap j8++(j2 2 (x.rows.length:Int)++(x.rows.flatMap jE++[])))))
 have h2:MG fl ⟨cH x,false⟩=(x.cols,⟨u8 (x.keys.length:Int)::(x.keys.flatMap j8++(j2 2 (x.rows.length:Int)++(x.rows.flatMap jE++[]))),false⟩):=by
  rw[MG,e,a2,b1,b2,Int.toNat_natCast,IB hf1 hf0 _ o3]
  simp
 obtain⟨c1,c2⟩:=J6 (n:=(x.keys.length:Int)) (by omega) (by omega) (x.keys.flatMap j8++(j2 2 (x.rows.length:Int)++(x.rows.flatMap jE++[])))
 have h3:GI fl ⟨cH x,false⟩=(x.keys.map (·.2),⟨j2 2 (x.rows.length:Int)++(x.rows.flatMap jE++[]),false⟩):=by
  rw[GI,h2,c1,c2,Int.toNat_natCast,IX _ o5]
  simp
 obtain⟨d1,d2⟩:=RN 2 (n:=(x.rows.length:Int)) (by omega) (by omega) (x.rows.flatMap jE++[])
 have h4:JT fl ⟨cH x,false⟩=(x.rows.map (fun e=>(some e.row,e.cnt)),⟨[],false⟩):=by
  rw[JT,h3]
  erw [d1,d2]
  rw[Int.toNat_natCast,JV _ o7]
  simp
 refine⟨?_,by rw[uX,h4]⟩
 rw[tM,h2,h3,h4,rH]
 have e1:fH ⟨cH x,false⟩=x.name:=by rw[e];exact a1
 rw[e1]
 simp[B7,Function.comp_def]
theorem E0:∀l:List (Bool×List ByteArray),lN (l.map fun k=>(false,k.2))=lN l
 |[]=>rfl
 |k::l=>by rw[List.map_cons,lN,lN,E0 l]
theorem R2(x:r6):eX (rH x)=eX x:=by
 have h:jQ (rH x).keys=jQ x.keys:=by
  rw[rH,jQ,jQ,E0,List.length_map]
 unfold eX
 rw[h]
 rfl
theorem P8(x:r6):cH (rH x)=cH x:=by
 have:(rH x).keys.flatMap j8=x.keys.flatMap j8:=by rw[rH,List.flatMap_map];rfl
 have h2:(rH x).keys.length=x.keys.length:=by rw[rH,List.length_map]
 unfold cH
 rw[this,h2]
 rfl
theorem sO{fl:Int→Bool}(hf1:fl 1=true)(hf0:fl 0=false)(b:List Int):sN fl b=true↔b.length≤65536∧∃x,eX x=0∧cH x=b:=by
 constructor
 ·intro h
  simp[sN]at h
  exact⟨h.1.2,_,h.1.1.2,h.2⟩
 ·rintro⟨h1,x,h2,rfl⟩
  obtain⟨h3,h4⟩:=AF h2 hf1 hf0
  rw[sN,h3,h4,R2,P8,h2]
  simp[h1]
theorem T4{fl fr:Int→Bool}(a1:fl 1=true)(a0:fl 0=false)(b1:fr 1=true)(b0:fr 0=false)(b:List Int):zX fl b=zX fr b:=by
 unfold zX
 by_cases h:∃x,eX x=0∧cH x=b∧b.length≤65536
 ·obtain⟨x,h1,h2,h3⟩:=h
  rw[(sO a1 a0 b).2 ⟨h3,x,h1,h2⟩,(sO b1 b0 b).2 ⟨h3,x,h1,h2⟩,if_pos rfl,if_pos rfl,←h2,(AF h1 a1 a0).1,(AF h1 b1 b0).1]
 ·have n1:¬sN fl b=true:=fun hu=>by obtain⟨h1,x,h2,h3⟩:=(sO a1 a0 b).1 hu;exact h ⟨x,h2,h3,h1⟩
  have n2:¬sN fr b=true:=fun hu=>by obtain⟨h1,x,h2,h3⟩:=(sO b1 b0 b).1 hu;exact h ⟨x,h2,h3,h1⟩
  rw[if_neg n1,if_neg n2]
end Go.AW
