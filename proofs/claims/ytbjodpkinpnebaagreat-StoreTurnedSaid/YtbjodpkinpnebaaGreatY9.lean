/-
  An abstract machine over the model, the code of functions on it, and their contracts: what the claim needs.
  No condition: definitions, plain laws, contracts over any program that has this code.
-/
import Derived.Test.YtbjodpkinpnebaaGreatY8
set_option linter.all false
namespace Go.AW
variable [dK]
attribute [local irreducible] a7 bH oL Gp
theorem Gp.ent{n:Nat}{live:List (Nat×a6)}{ρ:List a6}{H':List aB}{I:List a6→List aB→Prop}{id m i:Nat}{ls:List Int}{L:List cW}{row:List V}{c:Int}(hz:H'[0]?=Option.some (gO ls i))(h0:H'[1]?=Option.some (.arr 2 (eC L++[[.sl id m 0 m,.int .i64 c]])))(h1:H'[id]?=Option.some (.arr 3 (vC row)))(hid:2≤id)(hm:m=(vC row).length)
  (hl:ρ.length=n) (h:lK H' [0,1] ρ live) (hI:∀ρ1,Sv n live ρ1→I ρ1 [gO ls i,.arr 2 (eC (L++[⟨row,c⟩]))]):Gp [1] ρ H' I:=by
 refine Gp.keepL (H1:=[gO ls i,.arr 2 (eC (L++[⟨row,c⟩]))]) [0,1] (by simp) (bY rfl hz rfl) ⟨⟨_,hz,.same _ _ rfl⟩,⟨_,h0,?_⟩,trivial⟩ hl h hI
 refine NV 2 _ _ _ (jN ⟨row,c⟩) (l5 ..) (gP _) rfl fun j d d1 h2 h3=>?_
 rcases j with _|_|j
 ·cases h2;cases h3
  exact⟨mG (by simp;omega) h1 (by omega) (by omega) (l9 row),rfl⟩
 ·cases h2;cases h3
  exact⟨.closed _ rfl,rfl⟩
 ·simp at h2
set_option maxRecDepth 20000 in
set_option maxHeartbeats 2000000 in
theorem OB(cs:List c8)(hc:cs≠[])(hcl:cs.length≤1000)(l:List Int)(hl:l.length≤1000000)(n:Nat)(hn:n≤1000):
  ∃v H1,(∃(rows:List cW) (i:Nat) (G:List aB),v=.list false 2 (eC rows)∧gI rows=0∧H1=gO l i::G)∧a7 pr 34 [.list false 3 (cC cs),.ptr 0 1 0 0,.int .i64 n] [gO l 0] (fun r H'=>r=v∧H'=H1):=by
 have hw:IntKind.i64.wrap ((n:Int)+1)=(n:Int)+1:=aW _ (by omega) (by omega)
 obtain⟨N,hN⟩:∃N,N=IntKind.i64.wrap ((n:Int)+1):=⟨_,rfl⟩
 have hN1:1≤N∧N≤1001:=by rw[hN,hw];omega
 have hx:=uT l 0 N hN1.1
 have hxl:=EH (l:=l) (i:=0) (n:=N) (Nat.zero_le _)
 refine d6 k34.has ?_
 conv=>whnf
 rw[←hN]
 (conv=>whnf);refine bH.of (gE l 0 N (Nat.zero_le _) hl (by omega) [gO l 0] 0 rfl) ?_
 conv=>whnf
 refine⟨fun m ρ H1=>∃(k:Int) (i:Nat) (L:List cW),m=k.toNat∧0≤k∧k≤1001∧i≤l.length∧L.length+k≤1001∧H1=[gO l i,.arr 2 (eC L)]∧Sv 36 [(0,.list false 3 (cC cs)),(1,.ptr 0 1 0 0),(7,.sl 1 L.length 0 L.length),(8,.int .i64 k)] ρ,(nx l 0 N).1.toNat,[(7,2)],fun i ρ H1=>i=0∧∃(i:Nat) (L:List cW),L.length≤1001∧H1=[gO l i,.arr 2 (eC L)]∧Sv 36 [(1,.ptr 0 1 0 0),(7,.sl 1 L.length 0 L.length)] ρ,?_,?_,?_⟩
 ·exact⟨_,_,[],rfl,hx.1,by omega,hxl,by simp;omega,rfl,Sv.intro rfl ⟨rfl,rfl,rfl,rfl,trivial⟩⟩
 ·rintro m ρ H1 ⟨k,i,L,rfl,hk0,hk1,hi,hLk,rfl,d,rfl⟩
  have hi2:=V9 l cs i [] hi
  have hi3:=EH l (wr l cs i []).2 3 hi2
  repeat'((conv=>whnf);first|refine bH.of (Q3 cs hc hcl l i hi hl _ 0 rfl) ?_|refine bH.of (gE l (wr l cs i []).2 3 hi2 hl (by decide) _ 0 rfl) ?_|refine b4 (eL (aR L).symm) ?_|refine And.intro (⟨by simp[aQ];omega,by simp[aQ];omega,rfl,(aR L).symm⟩) ?_|refine And.intro (by exact rfl) ?_|refine And.intro (by decide) ?_|refine aI ?_|refine oA ?_|refine oM fun x hx hm=>?_|((first|apply aK|apply aL|apply aM|apply aF|apply aE)<;>intro h<;>(try simp at h)<;>(try(exfalso;omega))))
  any_goals((conv=>whnf);first|(refine⟨(k-1).toNat,by omega,Gp.ent (id:=2) (row:=(wr l cs i []).1) (L:=L) rfl rfl rfl (by decide) (by simp[T7]) rfl ?_ fun ρ1 h=>⟨k-1,_,_,rfl,by omega,by omega,hi3,by simp;omega,rfl,h⟩⟩;exact⟨.closed _ rfl,aU rfl,(i1 rfl (by simp)).1,n8 (aW _ (by omega) (by omega)),trivial⟩)|(refine Gp.cutN (H:=[gO l i,.arr 2 (eC L)]) rfl ⟨rfl,trivial⟩ ⟨rfl,bV (gP _),trivial⟩ rfl rfl ?_ fun ρ1 h=>⟨rfl,i,L,by omega,rfl,h⟩;exact⟨rfl,rfl,trivial⟩)|fail)
 ·rintro i ρ1 H1 ⟨rfl,i,L,hL,rfl,dd,rfl⟩
  conv=>whnf
  refine Gp.keepL (live:=[(7,.list false 2 (eC L))]) (H1:=[gO l i]) [0] (by simp) (bY rfl rfl rfl) ⟨⟨_,rfl,.same _ _ rfl⟩,trivial⟩ rfl ⟨mG (by simp) rfl (aR L).symm (aR L).symm (gP L),trivial⟩ fun ρ1 h=>?_
  obtain⟨dd,rfl⟩:=h
  repeat'((conv=>whnf);first|((first|apply aC.use|apply aC.draw);exact aC.of (xT false L (by omega));rintro r rfl)|refine aI ?_|refine oA ?_|refine oM fun x hx hm=>?_|((first|apply aK|apply aL|apply aM|apply aF|apply aE)<;>intro h<;>(try simp at h)<;>(try(exfalso;omega))))
  any_goals((conv=>whnf);first|exact⟨(P3 L).1,i,[],rfl,(EG L).1,rfl⟩|fail)
theorem AR(cs:List c8)(hc:cs≠[])(hcl:cs.length≤1000)(l:List Int)(hl:l.length≤1000000)(n:Nat)(hn:n≤1000):
  ∃(rows:List cW) (i:Nat),gI rows=0∧∀(H:List aB) (id:Nat),H[id]?=some (gO l 0)→a7 pr 34 [.list false 3 (cC cs),.ptr id 1 0 0,.int .i64 n] H (fun r H'=>r=.list false 2 (eC rows)∧H'=H.set id (gO l i)):=by
 obtain⟨v,H1,⟨rows,i,G,rfl,hb,rfl⟩,h⟩:=OB cs hc hcl l hl n hn
 refine⟨rows,i,hb,fun H id ho=>?_⟩
 have hg:=a7.gpI h [0] (by simp) (bY rfl rfl rfl) (H2:=[gO l i]) ⟨⟨_,rfl,.same _ _ rfl⟩,trivial⟩ (R':=.list false 2 (eC rows)) (.closed _ rfl)
 exact hg.fr ho rfl rfl (.cl rfl (.pt (.cl rfl trivial))) (.closed _ rfl)
end Go.AW
namespace Go.AW
variable [dK]
attribute [local irreducible] a7
theorem JF(l:List Int)(rest:List (List a6)):(bC l++rest).length=l.length+rest.length:=by rw[List.length_append,aD]
set_option maxRecDepth 20000 in
theorem HZ(l:List Int)(m:Nat)(rest:List (List a6))(hm:m≤l.length)(ep:Nat)(hep:ep=l.length+rest.length)(hl:l.length≤90000000):
  a7 pr 63 [.sl 0 ep 0 m] [.arr 1 (bC l++rest)] (fun r H'=>(r=.nil∧m=0∧H'=[.arr 1 (bC l++rest)])∨(r=.sl 1 m 0 m∧H'=[.arr 1 (bC l++rest),.arr 1 (bC (l.take m))])):=by
 subst hep
 have ht:List.take m (List.drop 0 (bC l++rest))=bC (l.take m):=by
  rw[List.drop_zero,List.take_append_of_le_length (by rw[aD];exact hm),nI]
 have htl:(l.take m).length=m:=by rw[List.length_take];omega
 refine aA k63.has ?_
 (conv=>whnf);refine b4 (by rw[JF];exact Nat.beq_refl _) ?_
 refine And.intro (fun h=>?_) ?_
 ·conv=>whnf
  exact .inl ⟨rfl,h,rfl⟩
 ·(conv=>whnf);refine b4 (by rw[JF];exact Nat.beq_refl _) ?_
  conv=>whnf
  (conv=>whnf);refine And.intro (⟨fG (by simp;omega),bK (by simp;omega),.inr rfl⟩) ?_
  conv=>whnf
  rw[ht]
  have el:(List.replicate 0 [a6.int IntKind.u8 0]++bC (List.take m l)).length=m:=by
   show(bC (List.take m l)).length=m
   rw[aD,htl]
  exact .inr ⟨eQ el el,rfl⟩
theorem C8(zs:List Int)(q:Nat):bG (bC zs++bC (List.replicate q 0))=true:=by rw[←c9];exact dQ _
theorem OH(zs:List Int)(m q:Nat)(hm:m≤zs.length)(ep:Nat)(hep:ep=zs.length+q)(hl:zs.length≤90000000):
  a7 pr 63 [.sl 0 ep 0 m] [.arr 1 (bC zs++bC (List.replicate q 0))] (fun r H'=>r=.list false 1 (bC (zs.take m))∧H'=[.arr 1 (bC zs++bC (List.replicate q 0))]):=by
 have htl:(bC (zs.take m)).length=m:=by rw[aD,List.length_take];omega
 refine a7.weakR (Q:=fun r H'=>(r=.list false 1 (bC (zs.take m))∨(r=.nil∧m=0))∧H'=[.arr 1 (bC zs++bC (List.replicate q 0))]) ((HZ zs m (bC (List.replicate q 0)) hm ep (by rw[hep,aD,List.length_replicate]) hl).gp ?_) ?_
 ·rintro r H1 (⟨rfl,h1,rfl⟩|⟨rfl,rfl⟩)
  ·refine Gp.res (r':=.nil) (H1:=[.arr 1 (bC zs++bC (List.replicate q 0))]) [0] (by simp) (bY rfl rfl rfl) ⟨⟨_,rfl,.same _ _ (C8 _ _)⟩,trivial⟩ (.closed _ rfl) ?_
   exact⟨_,rfl,.inr ⟨rfl,h1⟩,rfl⟩
  ·refine Gp.res (r':=.list false 1 (bC (zs.take m))) (H1:=[.arr 1 (bC zs++bC (List.replicate q 0))]) [0] (by simp) (bY rfl rfl rfl) ⟨⟨_,rfl,.same _ _ (C8 _ _)⟩,trivial⟩ (mG (by simp) rfl htl.symm htl.symm (dQ _)) ?_
   exact⟨_,rfl,.inl rfl,rfl⟩
 ·rintro r H' ⟨rfl|⟨rfl,h0⟩,rfl⟩
  ·exact⟨_,.refl _,rfl,rfl⟩
  ·refine⟨_,.nil false 1,?_,rfl⟩
   subst h0;rfl
section
variable {H:List aB}{s:Nat}
theorem OG(l:List Int)(hl:l.length≤90000000)(H:List aB)(id n:Nat)(hn:n=l.length)(ho:H[id]?=some (bO l)):
  a7 pr 63 [.sl id n 0 n] H (fun r H'=>r=.list false 1 (bC l)∧H'=H):=by
 subst hn
 have h:=OH l l.length 0 (Nat.le_refl _) l.length rfl hl
 have e0:bC l++bC (List.replicate 0 0)=bC l:=by simp[bC]
 rw[e0,List.take_length]at h
 have:=h.fr (args:=[.sl id l.length 0 l.length]) ho (by simp[aB.clean,dQ]) (by simp[aB.clean,dQ]) (.sl trivial) (.closed _ rfl)
 refine this.mono fun r H' hq=>⟨hq.1,?_⟩
 rw[hq.2]
 exact MM ho
end
attribute [local irreducible] bH oL Gp
theorem Q1{b:List Int}(hb:fI b)(hl:b.length≤1000000):∃(y:r6) (e:Int),zX fY b=.tuple [.agg (dR y),.int .i64 e]∧y.Fit∧y.keys.length≤1000000∧(∀k∈y.keys,k.2.length≤1000000)∧y=rH y:=by
 unfold zX
 by_cases h:sN fY b=true
 ·rw[if_pos h]
  obtain⟨h1,x,h2,h3⟩:=(sO rfl rfl b).1 h
  have hr:=(AF h2 (fl:=fY) rfl rfl).1
  rw[h3]at hr
  have hk:=I6 (I7 h2).2.2.1
  have hc:rH (rH x)=rH x:=by simp[rH,List.map_map,Function.comp_def]
  refine⟨_,_,rfl,CD fY hb hl,?_,?_,?_⟩
  ·rw[hr];show(x.keys.map _).length≤_;rw[List.length_map];omega
  ·rw[hr]
   intro k hk2
   obtain⟨k0,h4,rfl⟩:=List.mem_map.1 (show k∈x.keys.map (fun k=>(false,k.2))from hk2)
   have:=(hk.2 k0 h4).1
   show k0.2.length≤_;omega
  ·rw[hr,hc]
 ·rw[if_neg h]
  exact⟨SG,11,rfl,⟨by decide,by decide,by decide,fun e he=>by simp[SG]at he⟩,by decide,(fun k hk=>by simp[SG]at hk),rfl⟩
def ZC:Option (List (Bool×List ByteArray))→List (Bool×List ByteArray)
 |none=>[]
 |some l=>l.map fun k=>(false,k.2)
theorem X9(k:Option (List (Bool×List ByteArray))):gG (X8 k) (.list false 1 (zM (ZC k))):=by
 cases k with
 |none=>exact .nil _ _
 |some l =>
  show gG (.list false 1 (zM l)) (.list false 1 (zM (l.map fun k=>(false,k.2))))
  refine N4 (by simp[zM]) fun i e f he hf=>?_
  rw[zM,List.getElem?_map]at he hf
  rw[List.getElem?_map]at hf
  obtain⟨k,hk,rfl⟩:=Option.map_eq_some_iff.1 he
  rw[hk]at hf;cases hf
  exact⟨rfl,fun c hc=>by simp at hc;subst hc;rfl,.cons (.lst rfl (aO _)) .nil⟩
def JN(r:jL)(rows:List cW):r6:=⟨r.name,false,r.cols,false,ZC r.kx,false,rows⟩
theorem O0(r:jL)(rows:List cW):gG (.agg [.str r.name,.list r.ec 3 (cC r.cols),X8 r.kx,.list false 2 (eC rows)]) (.agg (dR (JN r rows))) :=
 .aggs (.cons (.refl _) (.cons (.lst rfl (cG _)) (.cons (X9 _) (.cons (.refl _) .nil))))
theorem JO{r:jL}{rows:List cW}(hr:nF r)(hb:gI rows=0):(JN r rows).Fit:=by
 obtain⟨h1,h2,_⟩:=TK hb
 refine⟨Nat.le_trans hr.1 (by decide),Nat.le_trans hr.2 (by decide),by show rows.length≤_;omega,fun e he=>?_⟩
 have:=(h2 e he).1
 omega
theorem EO(x:r6)(hx:x.Fit)(hp:mE x=.tuple [.list false 1 (bC (cH x)),.int .i64 0])(H:List aB):
  a7 pr 27 [.agg (dR x)] H (fun r H'=>r=.tuple [.sl H.length (bC (cH x)).length 0 (bC (cH x)).length,.int .i64 0]∧H'=H++[.arr 1 (bC (cH x))]):=by
 have hg:a7 pr 27 [.agg (dR x)] [] (fun r H'=>r=.tuple [.sl 0 (bC (cH x)).length 0 (bC (cH x)).length,.int .i64 0]∧H'=[.arr 1 (bC (cH x))]):=by
  refine(EP x hx).gp ?_
  rintro r H1 (⟨_,e,h⟩|⟨id,rfl,ho,_⟩)
  ·rw[hp]at h;cases h
  ·exact Gp.res (r':=.tuple [.sl 0 (bC (cH x)).length 0 (bC (cH x)).length,.int .i64 0]) (H1:=[.arr 1 (bC (cH x))]) [id] (by simp) (fun k m hk=>by simp at hk) ⟨⟨_,ho,.same _ _ (dQ _)⟩,trivial⟩ (dP (kI (k:=0) rfl rfl (by rw[aD]) (by rw[aD])) (.closed _ rfl)) ⟨_,rfl,rfl,rfl⟩
 have hm:nD [] H.length 0=H.length:=by rw[mZ (by simp)];simp
 have h2:jB (nD [] H.length) (.tuple [.sl 0 (bC (cH x)).length 0 (bC (cH x)).length,.int .i64 0]) (.tuple [.sl H.length (bC (cH x)).length 0 (bC (cH x)).length,.int .i64 0]):=by
  refine .tuple _ _ rfl fun i v r h1 h2=>?_
  rcases i with _|_|i
  ·cases h1;cases h2;exact pF hm rfl rfl
  ·cases h1;cases h2;exact .closed _ rfl
  ·simp at h1
 refine hg.frL (H:=H) (H2:=H++[.arr 1 (bC (cH x))]) [] List.nodup_nil rfl trivial (xX rfl) h2 (by simp) ?_ (AB fun i x hx=>by rw[Nat.zero_add,List.getElem?_append_left (nU hx)];exact hx)
 ·exact⟨⟨_,by rw[hm,List.getElem?_append_right (Nat.le_refl _)];simp,.same (dQ _)⟩,trivial⟩
theorem NC{l:List Int}(h:fI l)(i:Nat){v:Int}(hv:0≤v∧v≤255):fI (l.set i v):=fun x hx=>by
 rcases List.mem_or_eq_of_mem_set hx with hx|rfl
 ·exact h x hx
 ·exact hv
theorem O8(n:Int):0≤IntKind.u8.wrap n∧IntKind.u8.wrap n≤255:=by
 have:IntKind.u8.wrap n=n % 256:=rfl
 omega
set_option maxRecDepth 20000 in
set_option maxHeartbeats 8000000 in
theorem LZ(hkn:aC pr 8 [] (fun r=>r=.bool true))(ed:Bool)(ds ls:List Int)(which at1 y1:Int)
  (hdef:ds.length≤80→WP pr 33 [.list ed 1 (iC ds)]):∃v H1,v=.bool true∧a7 pr 7 [.list ed 1 (iC ds),.list false 1 (iC ls),.int .i64 which,.int .i64 at1,.int .u8 y1] [] (fun r H'=>r=v∧H'=H1):=by
 refine d6 k7.has ?_
 repeat'((conv=>whnf);first|((first|apply aC.use|apply aC.draw);exact hkn;rintro r rfl)|refine aI ?_|refine oA ?_|refine oM fun x hx hm=>?_|((first|apply aK|apply aL|apply aM|apply aF|apply aE)<;>intro h<;>(try simp at h)<;>(try(exfalso;omega))))
 any_goals((conv=>whnf);done)
 have hls:ls.length≤1000000:=by omega
 have hU:∀l:List Int,fI l→l.length≤1000000→∃(y:r6) (ye:Int),aC pr 28 [.list false 1 (bC l)] (fun r=>r=.tuple [.agg (dR y),.int .i64 ye])∧aC pr 29 [.list false 1 (bC l)] (fun r=>r=.tuple [.agg (dR y),.int .i64 ye])∧aC pr 31 [.agg (dR y),.agg (dR y)] (fun r=>r=.bool true):=fun l hb hl=>by
  obtain⟨y,ye,hu,hyf,hyk,hyks,hyc⟩:=Q1 hb hl
  refine⟨y,ye,?_,?_,GJ y hyf hyk hyks hyc⟩
  ·rw[←hu];exact aC.of (HT l hb hl)
  ·rw[←hu];exact aC.of (GD l hb hl)
 obtain⟨ss,ms,N,C,ns,cs,hok,hdf⟩:=hdef (by omega)
 rcases hdf with⟨rfl,hd⟩|hd
 ·(conv=>whnf);refine bH.of (hd _) ?_
  (conv=>whnf);refine cJ.useN 8 [0] (tD (ms:=[]) hok) RO (by simp) rfl ⟨⟨_,rfl,.same rfl⟩,trivial⟩ ⟨vR rfl rfl hok.pn hok.pc,trivial⟩ (fun r hr=>?_)
  obtain⟨L,e,rfl,hL,hLs,hz⟩:=hr
  rcases Decidable.em (L=[])with rfl|hLn
  ·repeat'((conv=>whnf);first|((first|apply aC.use|apply aC.draw);exact hkn;rintro r rfl)|refine aI ?_|refine oA ?_|refine oM fun x hx hm=>?_|((first|apply aK|apply aL|apply aM|apply aF|apply aE)<;>intro h<;>(try simp at h)<;>(try(exfalso;omega))))
   try any_goals((conv=>whnf);done)
  ·have hLp:1≤L.length:=List.length_pos_iff.2 hLn
   have hml:=aZ bR L
   have hi0:0≤which % ((mC bR L).length:Nat)∧which % ((mC bR L).length:Nat)<((mC bR L).length:Nat):=⟨Int.emod_nonneg _ (by omega),Int.emod_lt_of_pos _ (by omega)⟩
   obtain⟨r0,hr0⟩:∃r,L[(which % ((mC bR L).length:Nat)).toNat]?=some r:=⟨_,List.getElem?_eq_getElem (by omega)⟩
   have hrm:(mC bR L)[(which % ((mC bR L).length:Nat)).toNat]?=some (bR r0):=oY hr0
   obtain⟨hrf,hrz⟩:=hLs r0 (List.mem_of_getElem? hr0)
   obtain⟨rows,ti,hbag,hT⟩:=AR r0.cols (by intro h;have:=hrz.1;rw[h]at this;simp at this) (by have:=hrz.2.1;omega) ls hls 8 (by decide)
   have hXf:=JO hrf hbag
   have hwk:=O0 r0 rows
   rcases nQ (JN r0 rows)with⟨p1,p2,p3⟩|⟨n,p1,p2,_⟩
   rotate_left
   ·have hQ2:aC pr 27 [.agg [.str r0.name,.list r0.ec 3 (cC r0.cols),X8 r0.kx,.list false 2 (eC rows)]] (fun r=>r=.tuple [.nil,.int .i64 n]):=by rw[←p2];exact(aC.of (uU _ hXf)).args (.cons hwk .nil)
    repeat'(first|refine aT (hrm) ?_|((conv=>whnf);first|((first|apply aC.use|apply aC.draw);exact aC.of (gU which ((mC bR L).length:Nat) (by omega) (by omega));rintro r rfl)|refine And.intro hi0 ?_|refine And.intro hi0.1 ?_|refine bH.of ((hT _ 2 rfl).weakD (.cons (.lst rfl (cG _)) (.cons (.refl _) (.cons (.refl _) .nil)))) ?_|((first|apply aC.use|apply aC.draw);exact hQ2;rintro r rfl)|((first|apply aC.use|apply aC.draw);exact hkn;rintro r rfl)|refine b4 ((bS _)) ?_|refine aI ?_|refine oA ?_|refine oM fun x hx hm=>?_|((first|apply aK|apply aL|apply aM|apply aF|apply aE)<;>intro h<;>(try simp at h)<;>(try(exfalso;omega)))))
    try any_goals((conv=>whnf);done)
   ·have hpn:=aD (cH (JN r0 rows))
    have hQ:=EO _ hXf p3
    obtain⟨pl,hpl⟩:∃pl,pl=cH (JN r0 rows):=⟨_,rfl⟩
    rw[←hpl]at hQ hpn p2
    have hpB:fI pl:=by rw[hpl];exact oS _
    have hp0:1≤pl.length:=by rw[hpl];simp[cH,eU]
    have hj:0≤at1 % ((bC pl).length:Nat)∧at1 % ((bC pl).length:Nat)<((bC pl).length:Nat):=⟨Int.emod_nonneg _ (by omega),Int.emod_lt_of_pos _ (by omega)⟩
    repeat'(first|refine aT (hrm) ?_|((conv=>whnf);first|((first|apply aC.use|apply aC.draw);exact hkn;rintro r rfl)|((first|apply aC.use|apply aC.draw);exact aC.of (gU which ((mC bR L).length:Nat) (by omega) (by omega));rintro r rfl)|((first|apply aC.use|apply aC.draw);exact aC.of (gU at1 ((bC pl).length:Nat) (by omega) (by omega));rintro r rfl)|refine And.intro hi0 ?_|refine And.intro hi0.1 ?_|refine And.intro hj ?_|refine And.intro hj.1 ?_|refine bH.of ((hT _ 2 rfl).weakD (.cons (.lst rfl (cG _)) (.cons (.refl _) (.cons (.refl _) .nil)))) ?_|refine bH.of ((hQ _).weakD (.cons hwk .nil)) ?_|refine b4 ((bS _)) ?_|refine And.intro (by exact rfl) ?_|refine b4 (Nat.beq_refl _) ?_|refine aI ?_|refine oA ?_|refine oM fun x hx hm=>?_|((first|apply aK|apply aL|apply aM|apply aF|apply aE)<;>intro h<;>(try simp at h)<;>(try(exfalso;omega)))))
    try any_goals((conv=>whnf);done)
    obtain⟨W,hW⟩:∃W:Int,W=IntKind.u8.wrap ((BitVec.ofInt IntKind.u8.bits x ^^^ BitVec.ofInt IntKind.u8.bits y1).toNat:Int):=⟨_,rfl⟩
    obtain⟨q,hq⟩:∃q,q=pl.set (0+(at1 % ((bC pl).length:Nat)).toNat) W:=⟨_,rfl⟩
    have hset:qW (bC pl) (0+(at1 % ((bC pl).length:Nat)).toNat) [.int .u8 (IntKind.u8.wrap ((BitVec.ofInt IntKind.u8.bits x ^^^ BitVec.ofInt IntKind.u8.bits y1).toNat:Int))]=bC q:=by rw[←hW,CV,hq]
    have hqB:fI q:=by rw[hq];exact NC hpB _ (hW▸O8 _)
    have hql:(bC q).length=(bC pl).length:=by rw[aD,aD,hq,List.length_set]
    have hqn:=aD q
    refine Gp.none (n:=109) (live:=[(3,.int .i64 at1),(14,.list false 1 (bC q))]) rfl ⟨.closed _ rfl,qH (congrArg (fun e=>some (aB.arr 1 e)) hset) hql.symm hql.symm (dQ _),trivial⟩ ?_
    rintro ρ1 ⟨d,rfl⟩
    have hj2:∀z:Int,0≤z % ((bC q).length:Nat)∧z % ((bC q).length:Nat)≤((bC q).length:Nat):=fun z=>⟨Int.emod_nonneg _ (by omega),by have:=Int.emod_lt_of_pos z (b:=((bC q).length:Nat)) (by omega);omega⟩
    repeat'((conv=>whnf);first|((first|apply aC.use|apply aC.draw);exact aC.of (gU _ ((bC q).length:Nat) (by omega) (by omega));rintro r rfl)|refine And.intro (hj2 _) ?_|refine And.intro (hj2 _).1 ?_|refine And.intro (hj2 _).2 ?_|refine And.intro ⟨(hj2 _).1,(hj2 _).2⟩ ?_|refine aI ?_|refine oA ?_|refine oM fun x hx hm=>?_|((first|apply aK|apply aL|apply aM|apply aF|apply aE)<;>intro h<;>(try simp at h)<;>(try(exfalso;omega))))
    refine⟨fun m ρ H1=>∃(k:Nat) (L2:List (List Int)),k+m=2∧L2.length=2∧(∀l∈L2,fI l∧l.length≤1000000)∧H1=[]∧Sv 109 [(82,.list true 1 (L2.map fun l=>[.list false 1 (bC l)])),(83,.int .i64 2),(84,.int .i64 k)] ρ,2,[],fun i ρ H1=>i=0∧H1=[]∧Sv 109 [] ρ,?_,?_,?_⟩
    ·conv=>whnf
     refine⟨0,[q,q.take ?n0],by omega,rfl,?hB0,rfl,Sv.intro rfl ⟨?h20,rfl,rfl,trivial⟩⟩
     case h20 =>
      conv=>lhs;whnf
      rw[List.drop_zero,nI]
      rfl
     case hB0 =>
      intro l hl
      simp at hl
      rcases hl with rfl|rfl
      ·exact⟨hqB,by omega⟩
      ·exact⟨fun y hy=>hqB y (List.mem_of_mem_take hy),by rw[List.length_take];omega⟩
    ·rintro m ρ H1 ⟨k,L2,hk,h2,hB,rfl,d2,rfl⟩
     repeat'((conv=>whnf);first|((first|apply aC.use|apply aC.draw);exact hkn;rintro r rfl)|refine aI ?_|refine oA ?_|refine oM fun x hx hm=>?_|((first|apply aK|apply aL|apply aM|apply aF|apply aE)<;>intro h<;>(try simp at h)<;>(try(exfalso;omega))))
     try any_goals((conv=>whnf);done)
     rotate_left
     ·any_goals((conv=>whnf);first|(refine Gp.cut (H:=[]) rfl trivial rfl rfl ?_ fun ρ1 h=>⟨rfl,rfl,h⟩;exact trivial)|fail)
     obtain⟨y,ye,g1,g2,g3⟩:=hU x (hB x hm).1 (hB x hm).2
     repeat'((conv=>whnf);first|((first|apply aC.use|apply aC.draw);exact g1;rintro r rfl)|((first|apply aC.use|apply aC.draw);exact g2;rintro r rfl)|((first|apply aC.use|apply aC.draw);exact g3;rintro r rfl)|refine aI ?_|refine oA ?_|refine oM fun x hx hm=>?_|((first|apply aK|apply aL|apply aM|apply aF|apply aE)<;>intro h<;>(try simp at h)<;>(try(exfalso;omega))))
     try any_goals((conv=>whnf);done)
     any_goals((conv=>whnf);first|(refine⟨m-1,by omega,Gp.cut (H:=[]) rfl trivial rfl rfl ?_ fun ρ1 h=>⟨k+1,L2,by omega,h2,hB,rfl,h⟩⟩;exact⟨rfl,rfl,aN (dX (by omega)),trivial⟩)|fail)
    ·rintro i ρ1 H1 ⟨rfl,rfl,dd,rfl⟩
     repeat'((conv=>whnf);first|((first|apply aC.use|apply aC.draw);exact hkn;rintro r rfl)|refine aI ?_|refine oA ?_|refine oM fun x hx hm=>?_|((first|apply aK|apply aL|apply aM|apply aF|apply aE)<;>intro h<;>(try simp at h)<;>(try(exfalso;omega))))
     try any_goals((conv=>whnf);done)
 ·(conv=>whnf);refine bH.of (hd _) ?_
  (conv=>whnf);refine cJ.use [0] (tD hok) (by simp) rfl ⟨⟨_,rfl,.same (aV eE _)⟩,trivial⟩ ⟨vR rfl rfl hok.pn hok.pc,trivial⟩ (fun r hr=>?_)
  obtain⟨L,e,rfl,hL,hLs,hz⟩:=hr
  rcases Decidable.em (L=[])with rfl|hLn
  ·repeat'((conv=>whnf);first|((first|apply aC.use|apply aC.draw);exact hkn;rintro r rfl)|refine aI ?_|refine oA ?_|refine oM fun x hx hm=>?_|((first|apply aK|apply aL|apply aM|apply aF|apply aE)<;>intro h<;>(try simp at h)<;>(try(exfalso;omega))))
   try any_goals((conv=>whnf);done)
  ·have hLp:1≤L.length:=List.length_pos_iff.2 hLn
   have hml:=aZ bR L
   have hi0:0≤which % ((mC bR L).length:Nat)∧which % ((mC bR L).length:Nat)<((mC bR L).length:Nat):=⟨Int.emod_nonneg _ (by omega),Int.emod_lt_of_pos _ (by omega)⟩
   obtain⟨r0,hr0⟩:∃r,L[(which % ((mC bR L).length:Nat)).toNat]?=some r:=⟨_,List.getElem?_eq_getElem (by omega)⟩
   have hrm:(mC bR L)[(which % ((mC bR L).length:Nat)).toNat]?=some (bR r0):=oY hr0
   obtain⟨hrf,hrz⟩:=hLs r0 (List.mem_of_getElem? hr0)
   obtain⟨rows,ti,hbag,hT⟩:=AR r0.cols (by intro h;have:=hrz.1;rw[h]at this;simp at this) (by have:=hrz.2.1;omega) ls hls 8 (by decide)
   have hXf:=JO hrf hbag
   have hwk:=O0 r0 rows
   rcases nQ (JN r0 rows)with⟨p1,p2,p3⟩|⟨n,p1,p2,_⟩
   rotate_left
   ·have hQ2:aC pr 27 [.agg [.str r0.name,.list r0.ec 3 (cC r0.cols),X8 r0.kx,.list false 2 (eC rows)]] (fun r=>r=.tuple [.nil,.int .i64 n]):=by rw[←p2];exact(aC.of (uU _ hXf)).args (.cons hwk .nil)
    repeat'(first|refine aT (hrm) ?_|((conv=>whnf);first|((first|apply aC.use|apply aC.draw);exact aC.of (gU which ((mC bR L).length:Nat) (by omega) (by omega));rintro r rfl)|refine And.intro hi0 ?_|refine And.intro hi0.1 ?_|refine bH.of ((hT _ 2 rfl).weakD (.cons (.lst rfl (cG _)) (.cons (.refl _) (.cons (.refl _) .nil)))) ?_|((first|apply aC.use|apply aC.draw);exact hQ2;rintro r rfl)|((first|apply aC.use|apply aC.draw);exact hkn;rintro r rfl)|refine b4 ((bS _)) ?_|refine aI ?_|refine oA ?_|refine oM fun x hx hm=>?_|((first|apply aK|apply aL|apply aM|apply aF|apply aE)<;>intro h<;>(try simp at h)<;>(try(exfalso;omega)))))
    try any_goals((conv=>whnf);done)
   ·have hpn:=aD (cH (JN r0 rows))
    have hQ:=EO _ hXf p3
    obtain⟨pl,hpl⟩:∃pl,pl=cH (JN r0 rows):=⟨_,rfl⟩
    rw[←hpl]at hQ hpn p2
    have hpB:fI pl:=by rw[hpl];exact oS _
    have hp0:1≤pl.length:=by rw[hpl];simp[cH,eU]
    have hj:0≤at1 % ((bC pl).length:Nat)∧at1 % ((bC pl).length:Nat)<((bC pl).length:Nat):=⟨Int.emod_nonneg _ (by omega),Int.emod_lt_of_pos _ (by omega)⟩
    repeat'(first|refine aT (hrm) ?_|((conv=>whnf);first|((first|apply aC.use|apply aC.draw);exact hkn;rintro r rfl)|((first|apply aC.use|apply aC.draw);exact aC.of (gU which ((mC bR L).length:Nat) (by omega) (by omega));rintro r rfl)|((first|apply aC.use|apply aC.draw);exact aC.of (gU at1 ((bC pl).length:Nat) (by omega) (by omega));rintro r rfl)|refine And.intro hi0 ?_|refine And.intro hi0.1 ?_|refine And.intro hj ?_|refine And.intro hj.1 ?_|refine bH.of ((hT _ 2 rfl).weakD (.cons (.lst rfl (cG _)) (.cons (.refl _) (.cons (.refl _) .nil)))) ?_|refine bH.of ((hQ _).weakD (.cons hwk .nil)) ?_|refine b4 ((bS _)) ?_|refine And.intro (by exact rfl) ?_|refine b4 (Nat.beq_refl _) ?_|refine aI ?_|refine oA ?_|refine oM fun x hx hm=>?_|((first|apply aK|apply aL|apply aM|apply aF|apply aE)<;>intro h<;>(try simp at h)<;>(try(exfalso;omega)))))
    try any_goals((conv=>whnf);done)
    obtain⟨W,hW⟩:∃W:Int,W=IntKind.u8.wrap ((BitVec.ofInt IntKind.u8.bits x ^^^ BitVec.ofInt IntKind.u8.bits y1).toNat:Int):=⟨_,rfl⟩
    obtain⟨q,hq⟩:∃q,q=pl.set (0+(at1 % ((bC pl).length:Nat)).toNat) W:=⟨_,rfl⟩
    have hset:qW (bC pl) (0+(at1 % ((bC pl).length:Nat)).toNat) [.int .u8 (IntKind.u8.wrap ((BitVec.ofInt IntKind.u8.bits x ^^^ BitVec.ofInt IntKind.u8.bits y1).toNat:Int))]=bC q:=by rw[←hW,CV,hq]
    have hqB:fI q:=by rw[hq];exact NC hpB _ (hW▸O8 _)
    have hql:(bC q).length=(bC pl).length:=by rw[aD,aD,hq,List.length_set]
    have hqn:=aD q
    refine Gp.none (n:=109) (live:=[(3,.int .i64 at1),(14,.list false 1 (bC q))]) rfl ⟨.closed _ rfl,qH (congrArg (fun e=>some (aB.arr 1 e)) hset) hql.symm hql.symm (dQ _),trivial⟩ ?_
    rintro ρ1 ⟨d,rfl⟩
    have hj2:∀z:Int,0≤z % ((bC q).length:Nat)∧z % ((bC q).length:Nat)≤((bC q).length:Nat):=fun z=>⟨Int.emod_nonneg _ (by omega),by have:=Int.emod_lt_of_pos z (b:=((bC q).length:Nat)) (by omega);omega⟩
    repeat'((conv=>whnf);first|((first|apply aC.use|apply aC.draw);exact aC.of (gU _ ((bC q).length:Nat) (by omega) (by omega));rintro r rfl)|refine And.intro (hj2 _) ?_|refine And.intro (hj2 _).1 ?_|refine And.intro (hj2 _).2 ?_|refine And.intro ⟨(hj2 _).1,(hj2 _).2⟩ ?_|refine aI ?_|refine oA ?_|refine oM fun x hx hm=>?_|((first|apply aK|apply aL|apply aM|apply aF|apply aE)<;>intro h<;>(try simp at h)<;>(try(exfalso;omega))))
    refine⟨fun m ρ H1=>∃(k:Nat) (L2:List (List Int)),k+m=2∧L2.length=2∧(∀l∈L2,fI l∧l.length≤1000000)∧H1=[]∧Sv 109 [(82,.list true 1 (L2.map fun l=>[.list false 1 (bC l)])),(83,.int .i64 2),(84,.int .i64 k)] ρ,2,[],fun i ρ H1=>i=0∧H1=[]∧Sv 109 [] ρ,?_,?_,?_⟩
    ·conv=>whnf
     refine⟨0,[q,q.take ?n1],by omega,rfl,?hB1,rfl,Sv.intro rfl ⟨?h21,rfl,rfl,trivial⟩⟩
     case h21 =>
      conv=>lhs;whnf
      rw[List.drop_zero,nI]
      rfl
     case hB1 =>
      intro l hl
      simp at hl
      rcases hl with rfl|rfl
      ·exact⟨hqB,by omega⟩
      ·exact⟨fun y hy=>hqB y (List.mem_of_mem_take hy),by rw[List.length_take];omega⟩
    ·rintro m ρ H1 ⟨k,L2,hk,h2,hB,rfl,d2,rfl⟩
     repeat'((conv=>whnf);first|((first|apply aC.use|apply aC.draw);exact hkn;rintro r rfl)|refine aI ?_|refine oA ?_|refine oM fun x hx hm=>?_|((first|apply aK|apply aL|apply aM|apply aF|apply aE)<;>intro h<;>(try simp at h)<;>(try(exfalso;omega))))
     try any_goals((conv=>whnf);done)
     rotate_left
     ·any_goals((conv=>whnf);first|(refine Gp.cut (H:=[]) rfl trivial rfl rfl ?_ fun ρ1 h=>⟨rfl,rfl,h⟩;exact trivial)|fail)
     obtain⟨y,ye,g1,g2,g3⟩:=hU x (hB x hm).1 (hB x hm).2
     repeat'((conv=>whnf);first|((first|apply aC.use|apply aC.draw);exact g1;rintro r rfl)|((first|apply aC.use|apply aC.draw);exact g2;rintro r rfl)|((first|apply aC.use|apply aC.draw);exact g3;rintro r rfl)|refine aI ?_|refine oA ?_|refine oM fun x hx hm=>?_|((first|apply aK|apply aL|apply aM|apply aF|apply aE)<;>intro h<;>(try simp at h)<;>(try(exfalso;omega))))
     try any_goals((conv=>whnf);done)
     any_goals((conv=>whnf);first|(refine⟨m-1,by omega,Gp.cut (H:=[]) rfl trivial rfl rfl ?_ fun ρ1 h=>⟨k+1,L2,by omega,h2,hB,rfl,h⟩⟩;exact⟨rfl,rfl,aN (dX (by omega)),trivial⟩)|fail)
    ·rintro i ρ1 H1 ⟨rfl,rfl,dd,rfl⟩
     repeat'((conv=>whnf);first|((first|apply aC.use|apply aC.draw);exact hkn;rintro r rfl)|refine aI ?_|refine oA ?_|refine oM fun x hx hm=>?_|((first|apply aK|apply aL|apply aM|apply aF|apply aE)<;>intro h<;>(try simp at h)<;>(try(exfalso;omega))))
     try any_goals((conv=>whnf);done)
end Go.AW
namespace Go.AW
open Go.Proofs Go.Shelf Go.RowKit Go.Maps Go.Sort
variable [dK]
variable {P:Program}
theorem G6{a:a6}{vs:Array Value}(hl:[a].length=vs.size):∃v,vs = #[v]:=by
 obtain⟨m⟩:=vs
 match m,hl with
 |[v],_=>exact⟨v,rfl⟩
def Q7(C:Nat→Nat)(w W':World)(x:Nat):Nat:=if x<w.heap.size then C x else match W'.heap[x]? with
 |some (.cells cs _ _)=>cs.size
 |_=>0
theorem VA{C:Nat→Nat}{w W':World}(hw:w.heap.size≤W'.heap.size)(b:Nat)(hC:∀b,0<C b→b<w.heap.size)(h:0<Q7 C w W' b):b<W'.heap.size:=by
 unfold Q7 at h
 by_cases hb:b<w.heap.size
 ·omega
 ·rw[if_neg hb]at h
  by_cases hb2:b<W'.heap.size
  ·exact hb2
  ·rw[Array.getElem?_eq_none (by omega)]at h;simp at h
theorem SY(hup:¬dK.up){C:Nat→Nat}{τ:Nat→Option Go.AW.Loc}{H:List aB}{w W':World}(hw:WF C τ H w)(hB:Below w.heap.size w W'):St w (cX τ H w) (Q7 C w W') τ H W'∧cU C τ H w (Q7 C w W') τ H W':=by
 have s:cU C τ H w (Q7 C w W') τ H W':=by
  refine⟨fun b=>?_,fun b i hi=>?_,fun id o h=>⟨o,h,o.after_refl _⟩,hB.size,fun b hb=>by rw[Q7,if_pos hb]⟩
  ·by_cases hb:b<w.heap.size
   ·rw[Q7,if_pos hb];exact Nat.le_refl _
   ·have:C b=0:=by
     rcases Nat.eq_zero_or_pos (C b)with h|h
     ·exact h
     ·exact absurd (hw.lt b h) hb
    omega
  ·exact hB.cell (p:=⟨b,i,none⟩) (hw.lt b (by omega))
 refine⟨⟨⟨hw.ok,hw.virt,fun id o l h1 h2=>(hw.objs id o l h1 h2).mono s (hB.block _ (hw.locLt (List.getElem?_eq_some_iff.1 h1).1 h2)),fun id l h1 h2=>?_,hw.inj,fun b hb=>VA hB.size b hw.lt hb⟩,⟨hB.os,hB.tape,hB.output,hB.size,fun b hb=>hB.block b hb.1,fun u=>absurd u hup⟩,fun b ho hp=>hp.2 ho,fun b hb=>hb.1⟩,s⟩
 rw[Q7,if_pos (hw.locLt h1 h2)]
 exact hw.comm id l h1 h2
theorem I0{C:Nat→Nat}{τ:Nat→Option Go.AW.Loc}{H:List aB}{w:World}(hw:WF C τ H w){box:Nat}{m:a6}{v:Value}(hb:H[box]?=some (.arr 1 [[m]]))(hr:bW C w τ H (.ptr box 1 0 0) v):
  ∃B u,v=.pointer (some ⟨B,0,none⟩)∧w.cell? ⟨B,0,none⟩=some u∧B<w.heap.size∧bW C w τ H m u:=by
 cases hr with
 |rd h=>cases h
 |ptr _ _ _ _ a esz es ho hep h =>
  rw[hb]at ho
  cases ho
  obtain⟨l,ht,rfl⟩:=h rfl
  obtain⟨_,cells,elem,fz,h1,_,_,h4⟩:=hw.objs box _ l hb ht
  obtain⟨u,hu,hru⟩:=h4 0 0 [m] m rfl rfl
  refine⟨l.b,u,rfl,?_,hw.locLt (List.getElem?_eq_some_iff.1 hb).1 ht,hru⟩
  simp only[World.cell?,h1]
  exact hu
theorem JU{C:Nat→Nat}{w W':World}{e:TypeId}{v:Value}{ks:List ByteArray}(h:W'.ownsRow w.heap.size e 1 v ks.length (ks.map fun k=>Value.string k)):
  Rd (Q7 C w W') W' (.list false 1 (ks.map fun k=>[a6.str k])) v:=by
 rcases h.2 with⟨rfl,hn⟩|⟨g,cp,cur,rfl,hg,hgb,hncap,_,hcs,htake⟩
 ·have:ks=[]:=List.eq_nil_of_length_eq_zero hn
  subst this
  exact .list0 _ _ _ _ (by simp)
 ·have hC:Q7 C w W' g=cur.size:=by unfold Q7;rw[if_neg (by omega),hgb]
  have hcell:∀i,i<ks.length→W'.cell? ⟨g,0+i*1+0,none⟩=some (.string (ks.getD i ⟨#[]⟩)):=fun i hi=>by
   simp only[World.cell?,hgb]
   have h1:=congrArg (fun l=>l[i]?) htake
   simp only[List.getElem?_take,Nat.mul_one,if_pos hi,List.getElem?_map,List.getElem?_eq_getElem hi,Option.map_some]at h1
   rw[show 0+i*1+0=i by omega,←Array.getElem?_toList,h1,List.getD_eq_getElem?_getD,List.getElem?_eq_getElem hi]
   rfl
  have:=Rd.list (C:=Q7 C w W') (w:=W') false 1 (ks.map fun k=>[a6.str k]) g 0 cp (fun i _=>.string (ks.getD i ⟨#[]⟩)) (by simp) (by rw[List.length_map];exact hncap) (fun e he=>by
   obtain⟨x,_,rfl⟩:=List.mem_map.1 he
   rfl) (by rw[List.length_map,hC,hcs];omega) (fun i j hi hj=>by
   obtain rfl:j=0:=by omega
   rw[List.length_map]at hi
   exact hcell i hi) (fun i j e d he hd=>by
   rw[List.getElem?_map]at he
   obtain⟨x,_,rfl⟩:=Option.map_eq_some_iff.1 he
   rcases j with _|j
   ·cases hd;rfl
   ·simp at hd) (fun i j e d he hd=>by
   rw[List.getElem?_map]at he
   obtain⟨x,hx,rfl⟩:=Option.map_eq_some_iff.1 he
   rcases j with _|j
   ·cases hd
    rw[List.getD_eq_getElem?_getD,hx]
    exact .str _
   ·simp at hd)
  rwa [List.length_map]at this
theorem M0{ks:List ByteArray}(h:ks.Pairwise fun a b=>YM a b=true):(ks.map fun k=>k.data.toList).mergeSort (fun x y=>decide (x≤y))=ks.map fun k=>k.data.toList:=by
 refine List.mergeSort_of_pairwise (List.pairwise_map.2 (h.imp fun{a b} hab=>?_))
 unfold YM at hab
 rw[bytesLess_eq]at hab
 exact decide_eq_true (List.le_of_lt (of_decide_eq_true hab))
def YH:Value→List UInt8
 |.string s=>s.data.toList
 |_=>[]
def OE(_:Value):Option (DataW Unit×List MemPlace):=some (.nil,[])
section
variable {ρk ρs ρm:Go.Shelf.Ren}
theorem K5(hup:¬dK.up)(Lk:SlLaysZ.n10 P ρk)(Ls:SlLaysZ.n6 P ρs)(Lm:SlLaysM.n6 P ρm)(h9:ρs.f 9=ρm.f 6)
  (e9:∀args w,(callFunc (ρs.f 9) args).run P w=.ok (.enter (ρs.f 9) args) w) (e10:∀args w,(callFunc (ρk.f 10) args).run P w=.ok (.enter (ρk.f 10) args) w)
  (e6:∀args w,(callFunc (ρs.f 6) args).run P w=.ok (.enter (ρs.f 6) args) w):oO P (ρs.f 6) (ρk.f 10):=by
 have hs:∀m,AnyZ.SortsIn P ρs Fence.wide m:=fun m=>by
  unfold AnyZ.SortsIn
  rw[h9]
  exact⟨fun blk off cap ss W hH hblk hsz=>callsIn_wide.2 (AnyM.slices_Sort_string Lm blk off cap ss W hH hblk hsz),fun p cap W=>callsIn_wide.2 (AnyM.slices_Sort_string_none Lm p cap W)⟩
 have hfn:∀{C:Nat→Nat}{w:World}{τ:Nat→Option Go.AW.Loc}{H:List aB}{p:a6}{v:Value},bW C w τ H (.fn (ρk.f 10) [p]) v→∃u,v=.func (.func (ρk.f 10)) #[] #[u]∧bW C w τ H p u:=fun{C w τ H p v} h=>by
  cases h with
  |rd h=>cases h
  |fn _ _ vs hl h =>
   obtain⟨u,rfl⟩:=G6 hl
   exact⟨u,rfl,h 0 _ _ rfl rfl⟩
 constructor
 ·intro H box id kvs ks hbox hid hks hsrt hn hsz C τ w vs hw hl hr
  obtain⟨v,rfl⟩:=G6 hl
  obtain⟨u,rfl,hu⟩:=hfn (hr 0 _ v rfl rfl)
  obtain⟨B,mv,rfl,hc,hB,hmv⟩:=I0 hw hbox hu
  obtain⟨l,ht,rfl⟩:=q0 hmv
  obtain⟨kvs0,es,clock,hp,hb,hsize,hel,hnd,hbn,hlt⟩:=hw.objs id _ l hid ht
  have hkeys:es.toList.map (·.key)=kvs0.map fun kv=>kv.1.lit:=by
   apply List.ext_getElem?
   intro i
   rw[List.getElem?_map,List.getElem?_map]
   by_cases hi:i<es.size
   ·have h1:es[i]?=some es[i]:=Array.getElem?_eq_getElem hi
    have h2:kvs0[i]?=some (kvs0[i]'(by omega)):=List.getElem?_eq_getElem (by omega)
    rw[Array.getElem?_toList,h1,h2]
    simp only[Option.map_some]
    rw[(hel i _ _ h1 h2).1]
   ·rw[Array.getElem?_toList,Array.getElem?_eq_none (by omega),List.getElem?_eq_none (by omega)];rfl
  have hpk:(es.toList.map (·.key)).Perm (ks.map Value.string):=by
   rw[hkeys]
   have h1:=(hp.map (fun kv:a6×a6=>kv.1)).trans hks
   have h2:=h1.map a6.lit
   rw[List.map_map,List.map_map]at h2
   exact h2
  have hreads:∀x∈es.toList,∃k∈ks,x.key=.string k:=fun x hx=>by
   have:=hpk.mem_iff.1 (List.mem_map.2 ⟨x,hx,rfl⟩)
   obtain⟨k,hk,e⟩:=List.mem_map.1 this
   exact⟨k,hk,e.symm⟩
  have hrd:∀x∈es.toList,Go.WideElems.rd P (ρk.t 26) OE x=some (.string (YH x.key),.nil):=fun x hx=>by
   obtain⟨k,hk,e⟩:=hreads x hx
   unfold Go.WideElems.rd OE
   rw[e,Go.WideMaps.keyOf_string_mk Lk.t26 (Nat.le_trans (hsz k hk) (by decide))]
   rfl
  have hmap:es.toList.map (Go.WideElems.rg P (ρk.t 26) OE)=es.toList.map fun x=>((.string (YH x.key):Lit),(.nil:DataW Unit)):=List.map_congr_left fun x hx=>by
   unfold Go.WideElems.rg
   rw[hrd x hx];rfl
  have hsz2:es.size=ks.length:=by
   have:=hpk.length_eq
   rw[List.length_map,List.length_map,Array.length_toList]at this
   exact this
  have hkn:(es.toList.map (·.key)).Nodup:=by rw[hkeys];exact hnd
  obtain⟨D0,hD0⟩:∃D0:DataW Unit,D0=.map ((es.toList.map (Go.WideElems.rg P (ρk.t 26) OE)).foldr DataW.insert []):=⟨_,rfl⟩
  have hown:w.ownsMap P (ρk.t 26) OE l.b es.size D0:=⟨es,clock,hb,⟨by rw[hsz2];exact Nat.le_trans hn (by decide),⟨hlt,hbn,hkn⟩,fun x hx=>⟨_,hrd x hx⟩⟩,Nat.le_refl _,hD0⟩
  have hsp:=Go.WideShapes.sorted_perm (es.toList.map (Go.WideElems.rg (H:=Unit) P (ρk.t 26) OE))
  have hperm:(strKeys D0).Perm (ks.map fun k=>k.data.toList):=by
   rw[hD0]
   refine(hsp.map _).trans ?_
   rw[hmap,List.map_map]
   have h2:=hpk.map YH
   rw[List.map_map,List.map_map]at h2
   exact h2
  have hms:Maps.size D0=ks.length:=by
   rw[hD0,Maps.size_eq,hsp.length_eq,List.length_map,Array.length_toList,hsz2]
  have hseq:=AnyZ.keys_gives Lk Fence.wide 2 trivial rfl (by omega) B l.b es.size D0 w hB hc hown
  have cS:=AnyZ.sorted_in Ls Fence.wide 5 trivial trivial trivial trivial rfl (by omega) (hs _) e9 (ρk.f 10) #[.pointer (some ⟨B,0,none⟩)] trivial e10 _ (Maps.size D0) (by rw[hms];exact Nat.le_trans hn (by decide)) (by rw[hms];omega) w hseq
  unfold eS
  rw[e6]
  refine Calls.mono (callsIn_wide.1 cS) ?_
  rintro e w' ⟨v,ss,rfl,hS,hrow,hnil,hbel⟩
  have hss:ss.mergeSort (fun x y=>decide (x≤y))=ks.map fun k=>k.data.toList:=(mergeSort_of_perm (hS.trans hperm)).trans (M0 hsrt)
  have hsl:ss.length=ks.length:=by rw[(hS.trans hperm).length_eq,List.length_map]
  rw[hss,hsl,List.map_map]at hrow
  have henc:(ks.map ((encStr) ∘ fun k=>k.data.toList))=ks.map Value.string:=List.map_congr_left fun k _=>rfl
  obtain⟨h1,h2⟩:=SY hup hw hbel
  exact⟨_,_,_,_,_,rfl,⟨rfl,rfl⟩,.rd (JU (by rw[←henc];exact hrow)),h1,h2⟩
 ·intro H box hbox C τ w vs hw hl hr
  obtain⟨v,rfl⟩:=G6 hl
  obtain⟨u,rfl,hu⟩:=hfn (hr 0 _ v rfl rfl)
  obtain⟨B,mv,rfl,hc,hB,hmv⟩:=I0 hw hbox hu
  obtain rfl:=p7 hmv
  have hseq:SeqGives Fence.wide 2 P (ρk.f 10) #[.pointer (some ⟨B,0,none⟩)] encStr (fun ss:List (List UInt8)=>ss=[]) 0 w:=AnyZ.keys_gives_nil Lk Fence.wide _ trivial rfl B w hB hc
  have cS:=AnyZ.sorted_in Ls Fence.wide 5 trivial trivial trivial trivial rfl (by omega) (hs _) e9 (ρk.f 10) #[.pointer (some ⟨B,0,none⟩)] trivial e10 _ 0 (Nat.zero_le _) (by omega) w hseq
  unfold eS
  rw[e6]
  refine Calls.mono (callsIn_wide.1 cS) ?_
  rintro e w' ⟨v,ss,rfl,rfl,hrow,hnil,hbel⟩
  obtain⟨h1,h2⟩:=SY hup hw hbel
  exact⟨_,_,_,_,_,rfl,⟨rfl,rfl⟩,.rd (JU (ks:=[]) (by simpa using hrow)),h1,h2⟩
end
end Go.AW
