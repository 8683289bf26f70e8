/-
  An abstract machine over the model, the code of functions on it, and their contracts: what the claim needs.
  No condition: definitions, plain laws, contracts over any program that has this code.
-/
import Derived.Test.YtbjodpkinpnebaaGreatY0
set_option linter.all false
namespace Go.AW
variable [dK]
section
variable {E:tT}{P:Program}{C:Nat→Nat}{τ:Nat→Option Loc}{ρ:List a6}{H:List aB}{a:Act}{w:World}{K:a6→List aB→Prop}
theorem setT_getElem? : ∀(l:List a6) (n:Nat) (v:a6) (i:Nat),(jP l n v)[i]?=if i=n∧n<l.length then some v else l[i]?
 |[],n,v,i=>by simp[jP]
 |x::xs,0,v,i=>by cases i<;>simp[jP]
 |x::xs,n+1,v,i=>by
  cases i with
  |zero=>simp[jP]
  |succ i=>simp[jP,setT_getElem? xs n v i]
theorem i3:∀(vs:List a6) (l:List a6) (i:Nat),(fT l i vs).length=l.length
 |[],_,_=>rfl
 |v::vs,l,i=>by rw[fT,i3 vs,nP]
theorem putCells_getElem? : ∀(vs:List a6) (l:List a6) (i:Nat),i+vs.length≤l.length→∀k,(fT l i vs)[k]?=if i≤k∧k<i+vs.length then vs[k-i]? else l[k]?
 |[],l,i,_,k=>by
  rw[if_neg (by simp only[List.length_nil];omega)];rfl
 |v::vs,l,i,h,k=>by
  simp only[List.length_cons]at h
  rw[fT,putCells_getElem? vs (jP l i v) (i+1) (by rw[nP];omega) k]
  simp only[List.length_cons]
  by_cases h1:i+1≤k∧k<i+1+vs.length
  ·rw[if_pos h1,if_pos (by omega)]
   obtain⟨m,hm⟩:∃m,k-i=m+1:=⟨k-i-1,by omega⟩
   rw[hm,show k-(i+1)=m from by omega];rfl
  ·rw[if_neg h1,setT_getElem?]
   by_cases h2:k=i
   ·subst h2
    rw[if_pos ⟨rfl,by omega⟩,if_pos (by omega)];simp
   ·rw[if_neg (fun e=>h2 e.1),if_neg (by omega)]
theorem gT{i j s n:Nat}(hi:i<n)(hj:j<s):i*s+j<n*s:=by
 have h1:(i+1)*s≤n*s:=Nat.mul_le_mul_right _ hi
 rw[Nat.add_mul]at h1;omega
theorem JW{i j i' j' s:Nat}(hj:j<s)(hj':j'<s)(h:i*s+j=i'*s+j'):i=i'∧j=j':=by
 have h1:(i*s+j) / s=i:=by
  rw[Nat.mul_comm,Nat.mul_add_div (by omega),Nat.div_eq_of_lt hj];rfl
 have h2:(i'*s+j') / s=i':=by
  rw[Nat.mul_comm,Nat.mul_add_div (by omega),Nat.div_eq_of_lt hj'];rfl
 rw[h]at h1
 have e:i=i':=h1.symm.trans h2
 subst e
 exact⟨rfl,by omega⟩
theorem PV{o:Oper}{t:TypeId}{x y:Operand}{x' y':bA}{sz:Nat}(ho:o.op=.store t x y)(hx:aJ x=some x')(hy:aJ y=some y')(hsz:dF P t=some sz)
  (hs:SA E C τ ρ H a w) (h:d7 P (.store sz x' y') ρ H K):bJ P ((execOp a.eval o).run P w) (gZ E ρ a K):=by
 simp only[d7,bD]at h
 have hrx:=hs.ev hx
 have hry:=hs.ev hy
 split at h
 case h_2=>exact h.elim
 rename_i id ep idx fld hv
 rw[hv]at hrx
 split at h
 case h_2=>exact h.elim
 rename_i cs hcs
 simp only[cM,b6]at h
 obtain⟨ob,hob,h⟩:=h
 split at h
 case h_2=>exact h.elim
 rename_i esz es
 simp only[iW,aG,Bool.and_eq_true,decide_eq_true_eq,fO,wG]at h
 obtain⟨hep,e,he,⟨⟨hcl,hfl⟩,hp⟩,hk⟩:=h
 have hk:=gS hk
 obtain⟨hl2,hcr⟩:=hry.cells hcs
 obtain⟨l,hl1,hu⟩:=hrx.ptr_inv hob hep
 obtain⟨hroom,cells,elem,fz,h1,h2,h3,h4⟩:=hs.st.wf.objs id _ l hob hl1
 have hok:=hs.st.wf.ok id _ hob
 have hee:=(hok e (List.mem_of_getElem? he)).1
 have hidx:=(List.getElem?_eq_some_iff.1 he).1
 have hbound:idx*esz+e.length≤cells.size:=by
  rw[h2,hee]
  have:=Nat.mul_le_mul_right esz (show idx+1≤l.cap by omega)
  rw[Nat.add_mul]at this
  omega
 obtain⟨w',cur',q1,q2,q3,q4,qd,q5,q6,q7,q8,q9⟩:=fM (P:=P) l.b (idx*esz+fld) elem fz (a.eval y).cells.toList 0 cells w h1 (by simp;omega) h3 (CF hl2 hcr hp)
 have run:(execOp a.eval o).run P w=.ok .skip w':=by
  have hne:¬((a.eval y).cells.size≠sz):=by omega
  simp only[execOp,ho,hu,Instr.storeAt,Instr.sureAddr,storeVar,Sem.run_bind,Sem.run_pure,Result.andThen_ok,eP hsz,if_neg hne,q1]
 rw[run]
 have hput:fT e fld cs=fT e fld cs:=rfl
 have hok':(aB.arr esz (es.set idx (fT e fld cs))).ok:=by
  intro e' he'
  obtain⟨i,hi,rfl⟩:=List.getElem_of_mem he'
  rw[List.length_set]at hi
  by_cases hii:idx=i
  ·subst hii
   rw[List.getElem_set_self]
   refine⟨by rw[i3,hee],fun d hd=>?_⟩
   obtain⟨k,hk1,rfl⟩:=List.getElem_of_mem hd
   have hk2:=List.getElem?_eq_getElem hk1
   rw[putCells_getElem? cs e fld (by omega)]at hk2
   split at hk2
   ·exact List.all_eq_true.1 hp _ (List.mem_of_getElem? hk2)
   ·exact(hok e (List.mem_of_getElem? he)).2 _ (List.mem_of_getElem? hk2)
  ·rw[List.getElem_set_ne hii]
   exact hok _ (List.getElem_mem _)
 obtain⟨st,s⟩:=hs.st.set_obj (w':=w') (o':=.arr esz (es.set idx (fT e fld cs))) hob hl1 q6 q5 q2 q3 q4 qd ⟨rfl,by simp,fun _=>rfl⟩ hok' fun C' τ' H' s=>by
  refine⟨by rw[List.length_set];exact hroom,cur',elem,fz,q7,by rw[q8];exact h2,by rw[q8];exact h3,fun i j e' d hi hd=>?_⟩
  by_cases hii:idx=i
  ·subst hii
   rw[List.getElem?_set_self hidx]at hi
   cases hi
   have hj:=(List.getElem?_eq_some_iff.1 hd).1
   rw[i3]at hj
   rw[putCells_getElem? cs e fld (by omega)]at hd
   rw[q9]
   by_cases hj2:fld≤j∧j<fld+cs.length
   ·rw[if_pos hj2]at hd
    rw[if_pos (by simp;omega)]
    have hlt:j-fld<(a.eval y).cells.size:=by omega
    refine⟨(a.eval y).cells[j-fld],?_,(hcr (j-fld) d _ hd (Array.getElem?_eq_getElem hlt)).mono s⟩
    rw[show idx*esz+j-(idx*esz+fld+0)=j-fld from by omega,Array.getElem?_toList,Array.getElem?_eq_getElem hlt]
   ·rw[if_neg hj2]at hd
    rw[if_neg (by simp;omega)]
    obtain⟨v,hv1,hv2⟩:=h4 idx j e d he hd
    exact⟨v,hv1,hv2.mono s⟩
  ·rw[List.getElem?_set_ne hii]at hi
   obtain⟨v,hv1,hv2⟩:=h4 i j e' d hi hd
   refine⟨v,?_,hv2.mono s⟩
   rw[q9,if_neg]
   ·exact hv1
   ·intro hc
    have hj:=(List.getElem?_eq_some_iff.1 hd).1
    have he2:=(hok e' (List.mem_of_getElem? hi)).1
    simp only[Nat.add_zero,Array.length_toList]at hc
    have:=JW (i:=i) (j:=j) (i':=idx) (j':=i*esz+j-idx*esz) (s:=esz) (by omega) (by omega) (by omega)
    exact hii this.1.symm
 exact dO hs hk (.tuple _ _ rfl fun i c v hc=>by simp at hc) st s
theorem D8(z:Array Value)(n:Nat):(Builtin.zeroCells z n).size=n*z.size:=by simp[Builtin.zeroCells]
theorem sB{t tx ty el:TypeId}{i:TypeInfo}{z:Value}{sz bytes:Nat}(ht:P.underlying t=some (.slice el))(htx:(∃e',P.underlying tx=some (.slice e'))∨P.underlying tx=some .string)
  (hi:P.info? el=some i) (hz:i.zero=some z) (hsi:i.size=sz) (hbi:i.bytes=bytes) {base:Option Addr}{sLen sCap:Nat}{y:Value}{es es':List (List a6)}{olds news:Array Value}
  (hso:rB P C w τ H sz (.slice base sLen sCap) es olds) (hsn:rB P C w τ H sz y es' news) (hn:sLen=es.length) (hg:sCap<sLen+es'.length) (hb1:(sLen+es'.length)*bytes≤aQ) (hb2:sLen+es'.length≤aQ) :
  ∃c,sLen+es'.length≤c∧(Builtin.append_ #[t,tx] ty #[.slice base sLen sCap,y]).run P w =
   .ok (.slice (some ⟨w.heap.size,0,none⟩) (sLen+es'.length) c) (w.drew.alloc (.cells (olds++news++Builtin.zeroCells z.cells (c-(sLen+es'.length))) el)):=by
 refine⟨(Question.appendCap (sLen+es'.length) sCap el).cut (w.tape w.drawn (.appendCap (sLen+es'.length) sCap el)),by simp[Question.cut],?_⟩
 rw[xZ]at hb1 hb2
 have hn1:¬(sLen+es'.length≤sCap):=by omega
 have h63':¬(((sLen+es'.length:Nat):Int)>IntKind.i64.max):=by
  have e:IntKind.i64.max=9223372036854775807:=by decide
  rw[e];omega
 have h48:=growslice_fits (old:=sCap) (need:=sLen+es'.length) (bytes:=bytes) (by omega) (by omega)
 have h48':¬(Builtin.nextslicecap (sLen+es'.length) sCap*bytes>2 ^ 48):=by
  have e:(2:Nat) ^ 48=281474976710656:=by decide
  rw[e];omega
 have fo:∀w':World,w'.heap=w.heap→(Builtin.firstCells sz sLen (.slice base sLen sCap)).run P w'=.ok olds w':=by
  intro w' hw';rw[hn];have:=hso.cells w' hw';rwa [hn]at this
 have hq:∀q:Question,q=Question.appendCap (sLen+es'.length) sCap el→q.forced=false:=by rintro q rfl;rfl
 have h63'':¬(((sLen+es'.length:Nat):Int)>IntKind.i64.max∧(False∨bytes=0)):=fun hh=>h63' hh.1
 rcases htx with⟨e',hu⟩|hu
 all_goals
  unfold Builtin.append_
  simp only[List.getElem?_toArray,List.getElem?_cons_zero,List.getElem?_cons_succ,Sem.run_bind,bE ht,bE hu,Result.andThen_ok,eP (P:=P) (t:=el) (n:=sz) (by simp[dF,hi,hsi]),
   Sem.run_pure,Bool.false_eq_true,if_false,hsn.len,if_neg hn1,gQ hi,hbi,if_neg h63'',if_neg h48',run_choose_drew,hq _ rfl,run_askRoom,fo w.drew rfl,hsn.cells w.drew rfl,Bool.not_false,if_true,zeroValue,hz,
   newRow,run_newObj_alloc,World.size_drew]
theorem eO{t tx ty el:TypeId}{sz:Nat}(ht:P.underlying t=some (.slice el))(htx:(∃e',P.underlying tx=some (.slice e'))∨P.underlying tx=some .string)
  (hsz:dF P el=some sz) {base:Option Addr}{sLen sCap:Nat}{y:Value}{es':List (List a6)}{news:Array Value}
  (hsn:rB P C w τ H sz y es' news) (hg:sLen+es'.length≤sCap) {w':World}(hst:∀ad,base=some ad→(storeCells (ad.add (sLen*sz)) news.toList).run P w=.ok () w') (hnone:base=none→w'=w) :
  (Builtin.append_ #[t,tx] ty #[.slice base sLen sCap,y]).run P w=.ok (.slice base (sLen+es'.length) sCap) w':=by
 rcases htx with⟨e',hu⟩|hu
 all_goals
  unfold Builtin.append_
  simp only[List.getElem?_toArray,List.getElem?_cons_zero,List.getElem?_cons_succ,Sem.run_bind,bE ht,bE hu,Result.andThen_ok,eP hsz,
   Sem.run_pure,Bool.false_eq_true,if_false,hsn.len,if_pos hg,hsn.cells w rfl,Bool.not_false,if_true]
  cases base with
  |none=>simp only[Sem.run_pure];rw[hnone rfl]
  |some ad=>simp only[Sem.run_bind,hst ad rfl,Result.andThen_ok,Sem.run_pure]
theorem yV{sz:Nat}{x y:Value}{es es':List (List a6)}{olds news zs:Array Value}(h1:rB P C w τ H sz x es olds)(h2:rB P C w τ H sz y es' news):
  ∀(i j:Nat) (e:List a6) (d:a6),(es++es')[i]?=some e→e[j]?=some d→∃v,(olds++news++zs)[i*sz+j]?=some v∧bW C w τ H d v:=by
 intro i j e d he hd
 have s1:=h1.size
 have s2:=h2.size
 by_cases hi:i<es.length
 ·rw[List.getElem?_append_left hi]at he
  have hj:=(List.getElem?_eq_some_iff.1 hd).1
  have:=(h1.esz e (List.mem_of_getElem? he)).1
  have hlt:=gT (s:=sz) (j:=j) hi (by omega)
  obtain⟨v,hv,hr⟩:=h1.rel i j e d he hd
  refine⟨v,?_,hr⟩
  rw[Array.append_assoc,Array.getElem?_append_left (by omega)]
  exact hv
 ·rw[List.getElem?_append_right (by omega)]at he
  have hj:=(List.getElem?_eq_some_iff.1 hd).1
  have hi2:=(List.getElem?_eq_some_iff.1 he).1
  have:=(h2.esz e (List.mem_of_getElem? he)).1
  have hlt:=gT (s:=sz) (j:=j) hi2 (by omega)
  obtain⟨v,hv,hr⟩:=h2.rel _ j e d he hd
  refine⟨v,?_,hr⟩
  have e1:i*sz+j=olds.size+((i-es.length)*sz+j):=by
   rw[s1,←Nat.add_assoc,←Nat.add_mul]
   congr 2
   omega
  rw[Array.append_assoc,e1,Array.getElem?_append_right (by omega),Nat.add_sub_cancel_left,Array.getElem?_append_left (by omega)]
  exact hv
theorem xL{sz:Nat}{x y:Value}{es es':List (List a6)}{olds news:Array Value}(h1:rB P C w τ H sz x es olds)(h2:rB P C w τ H sz y es' news):(aB.arr sz (es++es')).ok:=by
 intro e he
 rcases List.mem_append.1 he with he|he
 ·exact h1.esz e he
 ·exact h2.esz e he
theorem CZ{o:Oper}{t tx el:TypeId}{x y:Operand}{x' y':bA}{sz bytes:Nat}{zero:List a6}(ho:o.op=.call { callee:=.builtin .append,args:=#[x,y],argTypes:=#[t,tx] })(hx:aJ x=some x')(hy:aJ y=some y')
  (he:kB? P t=some el) (htx:(∃e',P.underlying tx=some (.slice e'))∨P.underlying tx=some .string) (hsz:dF P el=some sz) (hby:nZ P el=some bytes) (hz:jF P el=some zero)
  (hs:SA E C τ ρ H a w) (h:d7 P (.append sz bytes zero x' y') ρ H K):bJ P ((execOp a.eval o).run P w) (gZ E ρ a K):=by
 simp only[d7,bD]at h
 have hrx:=hs.ev hx
 have hry:=hs.ev hy
 have ht:=oT he
 obtain⟨es',news,h,hsn⟩:=rJ (P:=P) hs.st.wf hry h
 simp only[aG,Bool.and_eq_true,decide_eq_true_eq]at h
 obtain⟨⟨hzl,hzc⟩,h⟩:=h
 obtain⟨i,z,hi,hz1,hzs,hzi,hzr⟩:=pI (C:=C) (w:=w) (τ:=τ) (H:=H) hz
 have hbi:i.bytes=bytes:=by
  unfold nZ at hby;rw[hi]at hby;simpa using hby
 have hsi:i.size=sz:=by
  unfold dF at hsz;rw[hi]at hsz;simpa using hsz
 have run:∀v u w',a.eval x=v→(Builtin.append_ #[t,tx] o.type #[v,a.eval y]).run P w=.ok u w'→(execOp a.eval o).run P w=.ok (.value u) w':=by
  rintro v u w' rfl hr
  simp only[execOp,ho,resolve,invoke,builtin,List.map_toArray,List.map_cons,List.map_nil,Sem.run_bind,Sem.run_pure,Result.andThen_ok,hr]
 have sizes:∀{xv:Value}{es:List (List a6)}{olds:Array Value}(c:Nat),rB P C w τ H sz xv es olds→es.length+es'.length≤c →
   (olds++news++Builtin.zeroCells z.cells (c-(es.length+es'.length))).size=c*sz:=by
  intro xv es olds c h1 hc
  rw[Array.size_append,Array.size_append,h1.size,hsn.size,D8,show z.cells.size=sz from by omega,←Nat.add_mul,←Nat.add_mul]
  congr 1;omega
 
 have fresh:∀(es:List (List a6)) (base:Option Addr) (cap:Nat) (olds:Array Value),a.eval x=.slice base es.length cap→rB P C w τ H sz (.slice base es.length cap) es olds→cap<es.length+es'.length →
   (es.length+es'.length)*bytes≤aQ→es.length+es'.length≤aQ→K (.sl H.length (es++es').length 0 (es++es').length) (H++[.arr sz (es++es')])→bJ P ((execOp a.eval o).run P w) (gZ E ρ a K):=by
  intro es base cap olds hev hso hg hb1 hb2 hk
  obtain⟨c,hc,hrun⟩:=sB (ty:=o.type) ht htx hi hz1 hsi hbi hso hsn rfl hg hb1 hb2
  rw[run _ _ _ hev hrun]
  have hl:(es++es').length=es.length+es'.length:=List.length_append
  exact tC (w1:=w.drew) (cap:=c) hs rfl rfl rfl rfl (Nat.le_succ _) (sizes c hso hc) (by omega) (.inl rfl) (xL hso hsn) (yV hso hsn) hk (.inr (.inl ⟨rfl,by rw[hl]⟩))
 split at h
 case h_5=>exact h.elim
 case h_4 id ep off len cap hv =>
  rw[hv]at hrx
  simp only[cM,b6]at h
  obtain⟨ob,hob,h⟩:=h
  split at h
  case h_2=>exact h.elim
  rename_i s es
  simp only[aG,Nat.beq_eq,fO]at h
  obtain⟨rfl,hep,h⟩:=h
  rcases h with h|h
  case inr =>
   obtain⟨⟨rfl,hne,hb1,hb2⟩,hk⟩:=h
   simp only[dG,Nat.zero_add]at hk
   obtain⟨ad,e1,hl1,hl2,l,hl,hla⟩:=hrx.slc_inv hob hep
   obtain⟨hroom,_⟩:=hs.st.wf.objs id _ l hob hl
   obtain⟨olds,hso⟩:∃olds,rB P C w τ H s (.slice ad len len) ((es.drop off).take len) olds:=by
    rcases hla with hc|rfl
    ·subst hc
     simp only[List.take_zero]
     exact⟨_,pH⟩
    ·have hrs:bW C w τ H (.sl id ep off len) (.slice (some ⟨l.b,off*s,none⟩) len (l.cap-off)):=.sl id ep off len _ _ s es hob (by omega) fun _=>⟨hl1,by omega,.inr ⟨l,hl,by omega,.inr rfl⟩⟩
     obtain⟨olds,hso⟩:=N0 (P:=P) hs.st.wf hrs hob hep
     exact⟨olds,hso.len,hso.size,hso.cells,hso.rel,hso.one,hso.esz⟩
   have hlen:((es.drop off).take len).length=len:=by rw[List.length_take,List.length_drop];omega
   have hpos:0<es'.length:=List.length_pos_iff.2 hne
   rw[←hlen]at e1 hb1 hb2
   have hso2:rB P C w τ H s (.slice ad ((es.drop off).take len).length ((es.drop off).take len).length) ((es.drop off).take len) olds:=by rw[hlen];exact hso
   exact fresh ((es.drop off).take len) ad _ olds e1 hso2 (by omega) hb1 hb2 hk
  obtain⟨⟨rfl,rfl,hfit⟩,hk⟩:=h
  obtain⟨ad,e1,hl1,hl2,l,hl,hla⟩:=hrx.slc_inv hob hep
  rw[e1]at hrx
  have hidx:=(List.getElem?_eq_some_iff.1 hob).1
  have hok:=hs.st.wf.ok id _ hob
  by_cases hn:es'=[]
  ·subst hn
   have hst:∀ad',ad=some ad'→(storeCells (ad'.add (0*s)) news.toList).run P w=.ok () w:=by
    intro ad' _
    have:news = #[]:=by
     have:=hsn.size
     simp at this
     exact this
    rw[this];rfl
   have hrun:=eO (ty:=o.type) (base:=ad) (sLen:=0) (sCap:=cap) (w':=w) ht htx hsz hsn (by simpa using hl2) hst (fun _=>rfl)
   rw[run _ _ _ e1 hrun]
   have hset:H.set id (.arr s ([]++es.drop ([]:List (List a6)).length))=H:=by
    apply List.ext_getElem?
    intro j
    by_cases hj:j=id
    ·subst hj;rw[List.getElem?_set_self hidx,hob];rfl
    ·rw[List.getElem?_set_ne (Ne.symm hj)]
   rw[hset]at hk
   exact aS hs hk hrx
  have hpos:0<es'.length:=List.length_pos_iff.2 hn
  have hll:(es'++es.drop es'.length).length=es.length:=by rw[List.length_append,List.length_drop];omega
  rcases hla with hc|rfl
  ·omega
  ·obtain⟨hroom,cells,elem,fz,h1,h2,h3,h4⟩:=hs.st.wf.objs id _ l hob hl
   have hns:=hsn.size
   have hbound:es'.length*s≤cells.size:=by
    rw[h2]
    exact Nat.mul_le_mul_right _ (by omega)
   obtain⟨w',cur',q1,q2,q3,q4,qd,q5,q6,q7,q8,q9⟩:=fM (P:=P) l.b 0 elem fz news.toList 0 cells w h1 (by simp;omega) h3 hsn.one
   have hrun:=eO (ty:=o.type) (base:=some ⟨l.b,0*s,none⟩) (sLen:=0) (sCap:=cap) (w':=w') ht htx hsz hsn (by omega) (fun ad' e=>by
    cases e
    rw[gH,Nat.zero_mul,Nat.zero_add]
    exact q1) (fun e=>by cases e)
   rw[run _ _ _ e1 hrun]
   have hok':(aB.arr s (es'++es.drop es'.length)).ok:=by
    intro e he
    rcases List.mem_append.1 he with he|he
    ·exact hsn.esz e he
    ·exact hok e (List.mem_of_mem_drop he)
   obtain⟨st,s1⟩:=hs.st.set_obj (w':=w') (o':=.arr s (es'++es.drop es'.length)) hob hl q6 q5 q2 q3 q4 qd ⟨rfl,by omega,fun _=>rfl⟩ hok' fun C' τ' H' s1=>by
    refine⟨by omega,cur',elem,fz,q7,by rw[q8];exact h2,by rw[q8];exact h3,fun i j e d hi hd=>?_⟩
    have hj:=(List.getElem?_eq_some_iff.1 hd).1
    by_cases hi2:i<es'.length
    ·rw[List.getElem?_append_left hi2]at hi
     have hee:=(hsn.esz e (List.mem_of_getElem? hi)).1
     have hlt:=gT (s:=s) (j:=j) hi2 (by omega)
     obtain⟨v,hv1,hv2⟩:=hsn.rel i j e d hi hd
     refine⟨v,?_,hv2.mono s1⟩
     rw[q9,if_pos (by simp only[Array.length_toList];omega),Nat.add_zero,Nat.sub_zero,Array.getElem?_toList]
     exact hv1
    ·rw[List.getElem?_append_right (by omega),List.getElem?_drop]at hi
     have e2:es'.length+(i-es'.length)=i:=by omega
     rw[e2]at hi
     obtain⟨v,hv1,hv2⟩:=h4 i j e d hi hd
     refine⟨v,?_,hv2.mono s1⟩
     have hge:es'.length*s≤i*s:=Nat.mul_le_mul_right _ (by omega)
     rw[q9,if_neg (by simp only[Array.length_toList];omega)]
     exact hv1
   have e0:0+es'.length=es'.length:=Nat.zero_add _
   rw[e0]
   exact dO hs hk (.slc _ _ _ _ _ _ s (es'++es.drop es'.length) (by rw[List.getElem?_set_self hidx]) (by omega) fun _=>⟨by omega,hfit,l,hl,.inr rfl⟩) st s1
 case h_1 hv =>
  rw[hv]at hrx
  simp only[dG,Nat.zero_add]at h
  obtain⟨⟨hb1,hb2⟩,hk⟩:=h
  by_cases hn:es'=[]
  ·subst hn
   have hrun:=eO (ty:=o.type) (base:=none) (sLen:=0) (sCap:=0) (w':=w) ht htx hsz hsn (Nat.le_refl _) (fun ad e=>by cases e) (fun _=>rfl)
   rw[run _ _ _ hrx.nil_inv hrun]
   obtain⟨st,s⟩:=hs.st.virt sz
   exact dO hs hk (.sl _ _ _ _ _ _ sz [] (by simp) (Nat.le_refl _) fun _=>⟨Nat.le_refl _,Nat.le_refl _,.inl ⟨bZ _ _ _,rfl⟩⟩) st s
  ·have hpos:0<es'.length:=List.length_pos_iff.2 hn
   refine fresh [] none 0 #[] hrx.nil_inv pH (by simpa using hpos) (by simpa using hb1) (by simpa using hb2) (by simpa using hk)
 case h_2 s es hv =>
  rw[hv]at hrx
  simp only[Nat.beq_eq,dG,Nat.zero_add]at h
  obtain⟨rfl,h⟩:=h
  have hrx0:=hrx
  obtain⟨ad,cap,e1,hcap,hex,_⟩:=hrx.list_inv
  have hc:=hex rfl
  subst hc
  rw[e1]at hrx
  obtain⟨olds,hso⟩:=KI (P:=P) hrx
  by_cases hspec:es'=[]∧es≠[]
  ·obtain⟨rfl,hne⟩:=hspec
   cases es with
   |nil=>exact absurd rfl hne
   |cons e0 es0 =>
    have hst:∀ad',ad=some ad'→(storeCells (ad'.add ((e0::es0).length*s)) news.toList).run P w=.ok () w:=by
     intro ad' _
     have:news = #[]:=by
      have:=hsn.size
      simp at this
      exact this
     rw[this];rfl
    have hrun:=eO (ty:=o.type) (base:=ad) (sLen:=(e0::es0).length) (sCap:=(e0::es0).length) (w':=w) ht htx hsz hsn (by simp) hst (fun _=>rfl)
    rw[run _ _ _ e1 hrun]
    exact aS hs h (by rw[e1]at hrx0;exact hrx0)
  replace h:(((es.length+es'.length)*bytes≤aQ∧es.length+es'.length≤aQ∧(es'≠[]∨es=[]))∧K (.sl H.length (es++es').length 0 (es++es').length) (H++[.arr s (es++es')])):=by
   cases es with
   |nil=>exact h
   |cons e0 es0=>cases es' with
    |nil=>exact absurd ⟨rfl,by simp⟩ hspec
    |cons f0 fs0=>exact h
  obtain⟨⟨hb1,hb2,hne⟩,hk⟩:=h
  by_cases hn:es'=[]
  ·subst hn
   have hes:es=[]:=by
    rcases hne with h0|h0
    ·exact absurd rfl h0
    ·exact h0
   subst hes
   have hst:∀ad',ad=some ad'→(storeCells (ad'.add ([].length (α:=List a6)*s)) news.toList).run P w=.ok () w:=by
    intro ad' _
    have:news = #[]:=by
     have:=hsn.size
     simp at this
     exact this
    rw[this];rfl
   have hrun:=eO (ty:=o.type) (base:=ad) (sLen:=0) (sCap:=0) (w':=w) ht htx hsz hsn (Nat.le_refl _) hst (fun _=>rfl)
   rw[run _ _ _ e1 hrun]
   obtain⟨st,st2⟩:=hs.st.virt s
   exact dO hs hk (.sl _ _ _ _ _ _ s [] (by simp) (Nat.le_refl _) fun _=>⟨Nat.le_refl _,Nat.le_refl _,.inl ⟨bZ _ _ _,rfl⟩⟩) st st2
  ·have hpos:0<es'.length:=List.length_pos_iff.2 hn
   exact fresh es ad es.length olds e1 hso (by omega) hb1 hb2 hk
 case h_3 id ep off len hv =>
  rw[hv]at hrx
  simp only[cM,b6]at h
  obtain⟨ob,hob,h⟩:=h
  split at h
  case h_2=>exact h.elim
  rename_i s es
  simp only[Nat.beq_eq,fO]at h
  obtain⟨rfl,hep,⟨hb1,hb2,rfl,hlen⟩,hk⟩:=h
  obtain⟨ad,cap,e1,hl1,hl2,hl3⟩:=hrx.sl_inv hob hep
  rw[e1]at hrx
  obtain⟨olds,hso⟩:=N0 (P:=P) hs.st.wf hrx hob hep
  have hpart:(es.drop 0).take len=es:=by rw[List.drop_zero];exact List.take_of_length_le (by omega)
  rw[hpart]at hso
  subst hlen
  have hidx:=(List.getElem?_eq_some_iff.1 hob).1
  have hok:=hs.st.wf.ok id _ hob
  have hll:(es++es').length=es.length+es'.length:=List.length_append
  by_cases hn:es'=[]
  ·subst hn
   have hst:∀ad',ad=some ad'→(storeCells (ad'.add (es.length*s)) news.toList).run P w=.ok () w:=by
    intro ad' _
    have:news = #[]:=by
     have:=hsn.size
     simp at this
     exact this
    rw[this];rfl
   have hrun:=eO (ty:=o.type) (base:=ad) (sLen:=es.length) (sCap:=cap) (w':=w) ht htx hsz hsn (by simpa using hl2) hst (fun _=>rfl)
   rw[run _ _ _ e1 hrun]
   have hset:H.set id (.arr s (es++[]))=H:=by
    rw[List.append_nil]
    apply List.ext_getElem?
    intro j
    by_cases hj:j=id
    ·subst hj;rw[List.getElem?_set_self hidx,hob]
    ·rw[List.getElem?_set_ne (Ne.symm hj)]
   rw[hset]at hk
   simp only[List.append_nil]at hk
   refine aS hs hk ?_
   rw[hep]at hrx
   exact hrx
  ·have hpos:0<es'.length:=List.length_pos_iff.2 hn
   have hok':=xL hso hsn
   by_cases hfit:es.length+es'.length≤cap
   ·rcases hl3 with⟨_,hc⟩|⟨l,hl,hlc,hla⟩
    ·omega
    ·rcases hla with hc|rfl
     ·omega
     ·obtain⟨hroom,cells,elem,fz,h1,h2,h3,h4⟩:=hs.st.wf.objs id _ l hob hl
      have hns:=hsn.size
      have hbound:es.length*s+es'.length*s≤cells.size:=by
       rw[h2,←Nat.add_mul]
       exact Nat.mul_le_mul_right _ (by omega)
      obtain⟨w',cur',q1,q2,q3,q4,qd,q5,q6,q7,q8,q9⟩:=fM (P:=P) l.b (es.length*s) elem fz news.toList 0 cells w h1 (by simp;omega) h3 hsn.one
      have hrun:=eO (ty:=o.type) (base:=some ⟨l.b,0*s,none⟩) (sLen:=es.length) (sCap:=cap) (w':=w') ht htx hsz hsn hfit (fun ad' e=>by
       cases e
       rw[gH,Nat.zero_mul,Nat.zero_add]
       exact q1) (fun e=>by cases e)
      rw[run _ _ _ e1 hrun]
      obtain⟨st,s1⟩:=hs.st.set_obj (w':=w') (o':=.arr s (es++es')) hob hl q6 q5 q2 q3 q4 qd ⟨rfl,by omega,fun _=>rfl⟩ hok' fun C' τ' H' s1=>by
       refine⟨by omega,cur',elem,fz,q7,by rw[q8];exact h2,by rw[q8];exact h3,fun i j e d hi hd=>?_⟩
       have hj:=(List.getElem?_eq_some_iff.1 hd).1
       by_cases hi2:i<es.length
       ·rw[List.getElem?_append_left hi2]at hi
        have hee:=(hok e (List.mem_of_getElem? hi)).1
        have hlt:=gT (s:=s) (j:=j) hi2 (by omega)
        obtain⟨v,hv1,hv2⟩:=h4 i j e d hi hd
        refine⟨v,?_,hv2.mono s1⟩
        rw[q9,if_neg (by omega)]
        exact hv1
       ·rw[List.getElem?_append_right (by omega)]at hi
        have hi3:=(List.getElem?_eq_some_iff.1 hi).1
        have hee:=(hsn.esz e (List.mem_of_getElem? hi)).1
        have hlt:=gT (s:=s) (j:=j) hi3 (by omega)
        obtain⟨v,hv1,hv2⟩:=hsn.rel _ j e d hi hd
        have e2:i*s+j=es.length*s+((i-es.length)*s+j):=by
         rw[←Nat.add_assoc,←Nat.add_mul]
         congr 2;omega
        refine⟨v,?_,hv2.mono s1⟩
        rw[q9,if_pos (by rw[e2];simp only[Array.length_toList];omega),e2,Nat.add_zero,Nat.add_sub_cancel_left,Array.getElem?_toList]
        exact hv1
      rw[←hll]
      exact dO hs hk (.sl _ _ _ _ _ _ s (es++es') (by rw[List.getElem?_set_self hidx]) (Nat.le_refl _) fun _=>⟨by omega,by omega,.inr ⟨l,hl,hlc,.inr rfl⟩⟩) st s1
   ·obtain⟨c,hc,hrun⟩:=sB (ty:=o.type) ht htx hi hz1 hsi hbi hso hsn rfl (by omega) hb1 hb2
    rw[run _ _ _ e1 hrun]
    obtain⟨st1,s1⟩:=hs.st.same (w':=w.drew) rfl rfl rfl rfl
    obtain⟨st2,s2⟩:=st1.move_obj hob (.cells (olds++news++Builtin.zeroCells z.cells (c-(es.length+es'.length))) el) c (o':=.arr s (es++es')) ⟨rfl,by omega,fun e=>by omega⟩ (xL hso hsn)
     fun C' τ' H' w' s hh=>⟨(by show(es++es').length≤c;omega),_,_,_,hh,sizes c hso hc,.inl rfl,fun i j e d he hd=>by
      obtain⟨v,hv,hr⟩:=yV hso hsn i j e d he hd
      exact⟨v,hv,(hr.mono s1).mono s⟩⟩
    rw[World.size_drew]at st2 s2
    refine dO hs hk ?_ st2 (s1.trans s2)
    rw[hll]
    exact .sl _ _ _ _ _ _ s (es++es') (by rw[List.getElem?_set_self hidx]) (by omega) fun _=>⟨by omega,by omega,.inr ⟨_,bZ _ _ _,by simp,.inr (by simp)⟩⟩
theorem FM{sz:Nat}{x:a6}{k:List (List a6)→Prop}(h:gL H sz x k):∃es,k es∧∀k':List (List a6)→Prop,k' es→gL H sz x k':=by
 unfold gL at h⊢
 split at h
 ·exact⟨_,h,fun _ hk=>hk⟩
 ·simp only[aG]at h⊢;exact⟨_,h.2,fun _ hk=>⟨h.1,hk⟩⟩
 ·simp only[cM,b6]at h⊢
  obtain⟨o,ho,h⟩:=h
  split at h
  ·simp only[aG]at h;exact⟨_,h.2.2,fun _ hk=>⟨_,ho,by simp only[aG];exact⟨h.1,h.2.1,hk⟩⟩⟩
  ·exact h.elim
 ·simp only[aG]at h⊢;exact⟨_,h.2,fun _ hk=>⟨h.1,hk⟩⟩
 ·exact h.elim
theorem K6{o:Oper}{t tx el:TypeId}{x y:Operand}{x' y':bA}{sz bytes:Nat}{zero:List a6}(ho:o.op=.call { callee:=.builtin .append,args:=#[x,y],argTypes:=#[t,tx] })(hx:aJ x=some x')(hy:aJ y=some y')
  (he:kB? P t=some el) (htx:(∃e',P.underlying tx=some (.slice e'))∨P.underlying tx=some .string) (hsz:dF P el=some sz) (hby:nZ P el=some bytes) (hz:jF P el=some zero)
  (hs:SA E C τ ρ H a w) (h:d7 P (.appendI sz bytes zero x' y') ρ H K):bJ P ((execOp a.eval o).run P w) (gZ E ρ a K):=by
 simp only[d7,bD]at h
 have hrx:=hs.ev hx
 have hry:=hs.ev hy
 have ht:=oT he
 obtain⟨es1,h,hdet⟩:=FM h
 obtain⟨es',news,rfl,hsn⟩:=rJ (P:=P) hs.st.wf hry (hdet (fun new=>new=es1) rfl)
 simp only[aG,Bool.and_eq_true,decide_eq_true_eq]at h
 obtain⟨hz0,h⟩:=h
 have back:L5 H sz bytes zero (ev ρ x') es' K→bJ P ((execOp a.eval o).run P w) (gZ E ρ a K):=by
  intro hh
  refine CZ ho hx hy he htx hsz hby hz hs ?_
  have e:d7 P (.append sz bytes zero x' y') ρ H K=gL H sz (ev ρ y') fun new=>chkA (decide (zero.length=sz)&&zero.all a6.isCell) (L5 H sz bytes zero (ev ρ x') new K):=by
   show fL ρ x' _=_
   rw[bD]
   show fL ρ y' _=_
   rw[bD]
   rfl
  rw[e]
  refine hdet _ ?_
  simp only[aG,Bool.and_eq_true,decide_eq_true_eq]
  exact⟨hz0,hh⟩
 cases hv:ev ρ x' with
 |sl id ep off len =>
  rw[hv]at h hrx
  simp only[cM,b6]at h
  obtain⟨ob,hob,h⟩:=h
  split at h
  case h_2=>exact h.elim
  rename_i s es
  simp only[aG,Nat.beq_eq,eN]at h
  obtain⟨rfl,hep,h⟩:=h
  by_cases hfit:(Nat.ble (off+len+es'.length) es.length&&Nat.blt 0 es'.length)=true
  ·rw[hfit]at h
   simp only[fO]at h
   simp only[Bool.and_eq_true,Nat.ble_eq]at hfit
   obtain⟨hfit,hpos⟩:=hfit
   have hpos:0<es'.length:=by have:=hpos;simp[Nat.blt]at this;omega
   obtain⟨ad,cap,e1,hl1,hl2,hl3⟩:=hrx.sl_inv hob hep
   rcases hl3 with⟨hnone,hc⟩|⟨l,hl,hlc,hla⟩
   ·obtain⟨esz,hv0⟩:=hs.st.wf.virt id _ hob hnone
    cases hv0
    simp only[List.length_nil]at hfit
    omega
   obtain⟨hroom,cells,elem,fz,h1,h2,h3,h4⟩:=hs.st.wf.objs id _ l hob hl
   have hidx:=(List.getElem?_eq_some_iff.1 hob).1
   have hok:=hs.st.wf.ok id _ hob
   have hns:=hsn.size
   rcases hla with hc|rfl
   ·omega
   have hbound:(off+len+es'.length)*s≤cells.size:=by
    rw[h2]
    exact Nat.mul_le_mul_right _ (by omega)
   have hmul:(off+len)*s+es'.length*s=(off+len+es'.length)*s:=(Nat.add_mul _ _ _).symm
   obtain⟨w',cur',q1,q2,q3,q4,qd,q5,q6,q7,q8,q9⟩:=fM (P:=P) l.b ((off+len)*s) elem fz news.toList 0 cells w h1 (by simp;omega) h3 hsn.one
   have hrun:=eO (ty:=o.type) (base:=some ⟨l.b,off*s,none⟩) (sLen:=len) (sCap:=cap) (w':=w') ht htx hsz hsn (by omega) (fun ad' e=>by
    cases e
    rw[gH,←Nat.add_mul]
    exact q1) (fun e=>by cases e)
   have run:(execOp a.eval o).run P w=.ok (.value (.slice (some ⟨l.b,off*s,none⟩) (len+es'.length) cap)) w':=by
    have:(Builtin.append_ #[t,tx] o.type #[a.eval x,a.eval y]).run P w=.ok (.slice (some ⟨l.b,off*s,none⟩) (len+es'.length) cap) w':=by rw[e1];exact hrun
    simp only[execOp,ho,resolve,invoke,builtin,List.map_toArray,List.map_cons,List.map_nil,Sem.run_bind,Sem.run_pure,Result.andThen_ok,this]
   rw[run]
   have hto:(es.take (off+len)).length=off+len:=by rw[List.length_take];omega
   have hll:(es.take (off+len)++es'++es.drop (off+len+es'.length)).length=es.length:=by
    rw[List.length_append,List.length_append,List.length_drop,hto];omega
   have get:∀i,(es.take (off+len)++es'++es.drop (off+len+es'.length))[i]?=if i<off+len then es[i]? else if i<off+len+es'.length then es'[i-(off+len)]? else es[i]?:=by
    intro i
    by_cases hi:i<off+len
    ·rw[if_pos hi,List.append_assoc,List.getElem?_append_left (by omega),List.getElem?_take_of_lt hi]
    ·rw[if_neg hi,List.append_assoc,List.getElem?_append_right (by omega),hto]
     by_cases hi2:i<off+len+es'.length
     ·rw[if_pos hi2,List.getElem?_append_left (by omega)]
     ·rw[if_neg hi2,List.getElem?_append_right (by omega),List.getElem?_drop]
      congr 1;omega
   have hok':(aB.arr s (es.take (off+len)++es'++es.drop (off+len+es'.length))).ok:=by
    intro e he
    rcases List.mem_append.1 he with he|he
    ·rcases List.mem_append.1 he with he|he
     ·exact hok e (List.mem_of_mem_take he)
     ·exact hsn.esz e he
    ·exact hok e (List.mem_of_mem_drop he)
   obtain⟨st,s1⟩:=hs.st.set_obj (w':=w') (o':=.arr s (es.take (off+len)++es'++es.drop (off+len+es'.length))) hob hl q6 q5 q2 q3 q4 qd ⟨rfl,by omega,fun _=>rfl⟩ hok' fun C' τ' H' s1=>by
    refine⟨by omega,cur',elem,fz,q7,by rw[q8];exact h2,by rw[q8];exact h3,fun i j e d hi hd=>?_⟩
    have hj:=(List.getElem?_eq_some_iff.1 hd).1
    rw[get]at hi
    split at hi
    ·rename_i hi1
     have hee:=(hok e (List.mem_of_getElem? hi)).1
     have hlt:=gT (s:=s) (j:=j) hi1 (by omega)
     obtain⟨v,hv1,hv2⟩:=h4 i j e d hi hd
     refine⟨v,?_,hv2.mono s1⟩
     rw[q9,if_neg (by simp only[Array.length_toList];omega)]
     exact hv1
    ·rename_i hi1
     split at hi
     ·rename_i hi2
      have hee:=(hsn.esz e (List.mem_of_getElem? hi)).1
      have hlt:=gT (s:=s) (j:=j) (i:=i-(off+len)) (n:=es'.length) (by omega) (by omega)
      have hge:i*s=(off+len)*s+(i-(off+len))*s:=by rw[←Nat.add_mul];congr 1;omega
      obtain⟨v,hv1,hv2⟩:=hsn.rel (i-(off+len)) j e d hi hd
      refine⟨v,?_,hv2.mono s1⟩
      rw[q9,if_pos (by simp only[Array.length_toList];omega),Nat.add_zero,show i*s+j-(off+len)*s=(i-(off+len))*s+j from by omega,Array.getElem?_toList]
      exact hv1
     ·rename_i hi2
      obtain⟨v,hv1,hv2⟩:=h4 i j e d hi hd
      refine⟨v,?_,hv2.mono s1⟩
      have hge:(off+len+es'.length)*s≤i*s:=Nat.mul_le_mul_right _ (by omega)
      rw[q9,if_neg (by simp only[Array.length_toList];omega)]
      exact hv1
   exact dO hs h (.sl _ _ _ _ _ _ s (es.take (off+len)++es'++es.drop (off+len+es'.length)) (by rw[List.getElem?_set_self hidx]) (by omega) fun _=>⟨by omega,by omega,.inr ⟨l,hl,hlc,.inr rfl⟩⟩) st s1
  ·rw[Bool.eq_false_iff.2 hfit]at h
   exact back (by rw[hv];exact h)
 |_=>exact back (by rw[hv]at h⊢;exact h)
end
section
variable {E:tT}{P:Program}{C:Nat→Nat}{τ:Nat→Option Loc}{ρ:List a6}{H:List aB}{a:Act}{w:World}{K:a6→List aB→Prop}
theorem xA(cs:List Value):∀(off k:Nat) (base:Array Value),off+k+cs.length≤base.size →
  ∀m,((cs.zipIdx k).foldl (fun(b:Array Value) (p:Value×Nat)=>b.setIfInBounds (off+p.2) p.1) base)[m]?=if off+k≤m∧m<off+k+cs.length then cs[m-(off+k)]? else base[m]?:=by
 induction cs with
 |nil=>intro off k base _ m;rw[if_neg (by simp only[List.length_nil];omega)];rfl
 |cons c cs ih =>
  intro off k base h m
  simp only[List.length_cons]at h
  rw[List.zipIdx_cons,List.foldl_cons,ih off (k+1) _ (by simp;omega)]
  simp only[List.length_cons]
  by_cases h1:off+(k+1)≤m∧m<off+(k+1)+cs.length
  ·rw[if_pos h1,if_pos (by omega)]
   obtain⟨n,hn⟩:∃n,m-(off+k)=n+1:=⟨m-(off+k)-1,by omega⟩
   rw[hn,show m-(off+(k+1))=n from by omega];rfl
  ·rw[if_neg h1]
   by_cases h2:m=off+k
   ·subst h2
    rw[if_pos (by omega),Array.getElem?_setIfInBounds_self_of_lt (by omega)];simp
   ·rw[Array.getElem?_setIfInBounds_ne (by omega),if_neg (by omega)]
theorem uM(cs:List Value):∀(off k:Nat) (base:Array Value),((cs.zipIdx k).foldl (fun(b:Array Value) (p:Value×Nat)=>b.setIfInBounds (off+p.2) p.1) base).size=base.size:=by
 induction cs with
 |nil=>intro off k base;rfl
 |cons c cs ih=>intro off k base;rw[List.zipIdx_cons,List.foldl_cons,ih];simp
theorem wZ(cells base:Array Value)(off:Nat):cells.zipIdx.foldl (fun cs (c,j)=>cs.setIfInBounds (off+j) c) base =
  (cells.toList.zipIdx 0).foldl (fun(b:Array Value) (p:Value×Nat)=>b.setIfInBounds (off+p.2) p.1) base:=by
 rw[←Array.foldl_toList,Array.toList_zipIdx]
theorem CR:∀(fs:List Field) (l:List (Nat×Nat)),qF P fs=some l→(fs.mapM fun f=>(do pure (f.offset,←sizeOf f.type):Sem (Nat×Nat))).run P w=.ok l w
 |[],l,h=>by simp only[qF,Option.some.injEq]at h;subst h;simp
 |f::r,l,h=>by
  unfold qF at h
  split at h
  ·rename_i n l' h1 h2
   cases h
   have ih:=CR r l' h2
   simp only[List.mapM_cons,Sem.run_bind,eP h1,Result.andThen_ok,Sem.run_pure,ih]
  ·cases h
theorem CA:∀(fs:List Field) (l:List (Nat×Nat)) (i:Nat) (f:Field),qF P fs=some l→fs[i]?=some f→∃n,dF P f.type=some n∧l[i]?=some (f.offset,n)
 |[],l,i,f,h,hf=>by simp at hf
 |g::r,l,i,f,h,hf=>by
  unfold qF at h
  split at h
  ·rename_i n l' h1 h2
   cases h
   cases i with
   |zero=>simp at hf;subst hf;exact⟨n,h1,rfl⟩
   |succ i=>simp at hf;obtain⟨m,h3,h4⟩:=CA r l' i f h2 hf;exact⟨m,h3,by simpa using h4⟩
  ·cases h
theorem NI(hs:SA E C τ ρ H a w){fs:Array Field}{l:List (Nat×Nat)}(hp:qF P fs.toList=some l):∀(ps:List (Nat×Operand)) (qs:List (Nat×Nat×bA)) (cs:List a6) (cells:Array Value) (Kf:List a6→Prop),
  mR P fs ps=some qs→cs.length=cells.size→(∀(i:Nat) (c:a6) (v:Value),cs[i]?=some c→cells[i]?=some v→bW C w τ H c v)→vW ρ qs cs Kf →
  ∃cs' cells',Instr.fill (l[·]?) cells (ps.map fun p=>(p.1,a.eval p.2))=some cells'∧cs'.length=cells'.size∧(∀(i:Nat) (c:a6) (v:Value),cs'[i]?=some c→cells'[i]?=some v→bW C w τ H c v)∧Kf cs'
 |[],qs,cs,cells,Kf,hc,hl,hr,h=>by
  simp only[mR,Option.some.injEq]at hc;subst hc
  exact⟨cs,cells,rfl,hl,hr,h⟩
 |(i,x)::ps,qs,cs,cells,Kf,hc,hl,hr,h=>by
  simp only[mR,Option.bind_eq_bind,Option.bind_eq_some_iff,Option.pure_def,Option.some.injEq]at hc
  obtain⟨f,hf,s,hsz,y,hy,qs',hq,rfl⟩:=hc
  simp only[pR,bD]at h
  have hrx:=hs.ev hy
  split at h
  case h_2=>exact h.elim
  rename_i u hu
  simp only[aG,Bool.and_eq_true,decide_eq_true_eq]at h
  obtain⟨⟨hus,hfit⟩,h⟩:=h
  obtain⟨c1,c2⟩:=hrx.cells hu
  obtain⟨n,hn,hli⟩:=CA fs.toList l i f hp (by simpa using hf)
  rw[hsz]at hn;cases hn
  have hfold:=wZ (a.eval x).cells cells f.offset
  obtain⟨cs',cells',e1,e2,e3,e4⟩:=NI hs hp ps qs' (fT cs f.offset u) ((a.eval x).cells.zipIdx.foldl (fun cs (c,j)=>cs.setIfInBounds (f.offset+j) c) cells) Kf hq (by rw[i3,hfold,uM];exact hl) (fun m c v hm hv=>by
   rw[putCells_getElem? u cs f.offset (by omega)]at hm
   rw[hfold,xA _ _ _ _ (by simp;omega)]at hv
   simp only[Array.length_toList,Nat.add_zero]at hv
   by_cases hin:f.offset≤m∧m<f.offset+u.length
   ·rw[if_pos hin]at hm
    rw[if_pos (by omega)]at hv
    rw[Array.getElem?_toList]at hv
    exact c2 _ c v hm hv
   ·rw[if_neg hin]at hm
    rw[if_neg (by omega)]at hv
    exact hr m c v hm hv) h
  refine⟨cs',cells',?_,e2,e3,e4⟩
  have hcond:(decide ((a.eval x).cells.size≠s)||decide (f.offset+(a.eval x).cells.size>cells.size))=false:=by
   simp only[Bool.or_eq_false_iff,decide_eq_false_iff_not];omega
  simp only[List.map_cons,Instr.fill,hli,hcond,Bool.false_eq_true,if_false,e1]
theorem PO{o:Oper}{t:TypeId}{parts:Array (Nat×Operand)}{fs:Array Field}{zero:List a6}{qs:List (Nat×Nat×bA)}(ho:o.op=.build t parts)(hu:P.underlying t=some (.struct fs))(hz:jF P t=some zero)
  (hpl:(qF P fs.toList).isSome=true) (hq:mR P fs parts.toList=some qs) (hs:SA E C τ ρ H a w) (h:d7 P (.build zero qs) ρ H K):bJ P ((execOp a.eval o).run P w) (gZ E ρ a K):=by
 simp only[d7]at h
 obtain⟨i,z,hi,hz1,hzs,hzi,hzr⟩:=pI (C:=C) (w:=w) (τ:=τ) (H:=H) hz
 obtain⟨l,hl⟩:=Option.isSome_iff_exists.1 hpl
 obtain⟨cs',cells',e1,e2,e3,hk⟩:=NI hs hl parts.toList qs zero z.cells _ hq hzs hzr h
 have hk:=gS hk
 have hpr:=CR (P:=P) (w:=w) fs.toList l hl
 have hmap:(fs.mapM fun f=>(do pure (f.offset,←sizeOf f.type):Sem (Nat×Nat))).run P w=.ok l.toArray w:=by
  rw[Array.mapM_eq_mapM_toList,Sem.run_map,hpr];rfl
 have hfill:Instr.fill (l.toArray[·]?) z.cells ((parts.map fun(i,x)=>(i,a.eval x)).toList)=some cells':=by
  rw[Array.toList_map]
  have:(fun i:Nat=>l.toArray[i]?)=(fun i:Nat=>l[i]?):=by funext i;simp
  rw[this]
  exact e1
 have run:(execOp a.eval o).run P w=.ok (.value (.agg cells')) w:=by
  simp only[execOp,ho,Instr.build,Sem.run_bind,zeroValue,gQ hi,Result.andThen_ok,hz1,Sem.run_pure,bE hu,hmap,hfill]
 rw[run]
 exact aS hs hk (.agg _ _ e2 e3)
theorem IK(hs:SA E C τ ρ H a w){sz:Nat}:∀(ps:List (Nat×Operand)) (qs:List (Nat×bA)) (es:List (List a6)) (cells:Array Value) (Kf:List (List a6)→Prop),
  pQ ps=some qs→cells.size=es.length*sz→(∀e∈es,e.length=sz)→(∀(i j:Nat) (e:List a6) (d:a6),es[i]?=some e→e[j]?=some d→∃v,cells[i*sz+j]?=some v∧bW C w τ H d v)→oD ρ sz qs es Kf →
  ∃es' cells',Instr.fill (fun i=>some (i*sz,sz)) cells (ps.map fun p=>(p.1,a.eval p.2))=some cells'∧es'.length=es.length∧cells'.size=es'.length*sz∧(∀e∈es',e.length=sz) ∧
   (∀(i j:Nat) (e:List a6) (d:a6),es'[i]?=some e→e[j]?=some d→∃v,cells'[i*sz+j]?=some v∧bW C w τ H d v)∧Kf es'
 |[],qs,es,cells,Kf,hc,hl,he,hr,h=>by
  simp only[pQ,Option.some.injEq]at hc;subst hc
  exact⟨es,cells,rfl,rfl,hl,he,hr,h⟩
 |(n,x)::ps,qs,es,cells,Kf,hc,hl,he,hr,h=>by
  simp only[pQ,Option.bind_eq_bind,Option.bind_eq_some_iff,Option.pure_def,Option.some.injEq]at hc
  obtain⟨y,hy,qs',hq,rfl⟩:=hc
  simp only[rP,bD]at h
  have hrx:=hs.ev hy
  split at h
  case h_2=>exact h.elim
  rename_i u hu
  simp only[aG,Bool.and_eq_true,decide_eq_true_eq,wF]at h
  obtain⟨⟨hus,hfit⟩,h⟩:=h
  have h:=gS h
  obtain⟨c1,c2⟩:=hrx.cells hu
  have hfold:=wZ (a.eval x).cells cells (n*sz)
  have hbound:n*sz+(a.eval x).cells.size≤cells.size:=by
   rw[hl,←c1,hus]
   have:=Nat.mul_le_mul_right sz (show n+1≤es.length by omega)
   rw[Nat.add_mul]at this;omega
  obtain⟨es',cells',e1,e2,e3,e4,e5,e6⟩:=IK hs ps qs' (es.set n u) ((a.eval x).cells.zipIdx.foldl (fun cs (c,j)=>cs.setIfInBounds (n*sz+j) c) cells) Kf hq
   (by rw[hfold,uM,List.length_set];exact hl) (fun e hm=>by
    rcases List.mem_or_eq_of_mem_set hm with hm|rfl
    ·exact he e hm
    ·exact hus) (fun i j e d hi hd=>by
    rw[hfold,xA _ _ _ _ (by simp;omega)]
    simp only[Array.length_toList,Nat.add_zero]
    have hj:=(List.getElem?_eq_some_iff.1 hd).1
    by_cases hin:n=i
    ·subst hin
     rw[List.getElem?_set_self hfit]at hi
     cases hi
     rw[if_pos (by omega),Nat.add_sub_cancel_left,Array.getElem?_toList,Array.getElem?_eq_getElem (by omega)]
     exact⟨_,rfl,c2 j d _ hd (Array.getElem?_eq_getElem (by omega))⟩
    ·rw[List.getElem?_set_ne hin]at hi
     obtain⟨v,hv,hrv⟩:=hr i j e d hi hd
     refine⟨v,?_,hrv⟩
     rw[if_neg]
     ·exact hv
     ·intro hc
      have:=he e (List.mem_of_getElem? hi)
      have:=JW (i:=i) (j:=j) (i':=n) (j':=i*sz+j-n*sz) (s:=sz) (by omega) (by omega) (by omega)
      exact hin this.1.symm) h
  refine⟨es',cells',?_,by rw[e2,List.length_set],e3,e4,e5,e6⟩
  have hcond:(decide ((a.eval x).cells.size≠sz)||decide (n*sz+(a.eval x).cells.size>cells.size))=false:=by
   simp only[Bool.or_eq_false_iff,decide_eq_false_iff_not];omega
  simp only[List.map_cons,Instr.fill,hcond,Bool.false_eq_true,if_false,e1]
theorem S3(hs:SA E C τ ρ H a w){cells:Array Value}{elem:TypeId}{sz:Nat}{es:List (List a6)}(hsz:cells.size=es.length*sz)(hl:∀e∈es,e.length=sz)
  (hp:es.all (fun e=>e.all a6.isCell)=true) (hpure:∀(i j:Nat) (e:List a6) (d:a6),es[i]?=some e→e[j]?=some d→∃v,cells[i*sz+j]?=some v∧Rd C w d v) (hk:K (.list true sz es) H) :
  gZ E ρ a K (.slice (some ⟨w.heap.size,0,none⟩) es.length es.length) (w.alloc (.cells cells elem)):=by
 obtain⟨st,s⟩:=hs.st.alloc_comm (.cells cells elem) (es.length*sz)
 refine dO hs hk ?_ st s
 by_cases hne:es=[]
 ·subst hne;exact .rd (.list0 _ _ _ _ fun _=>rfl)
 have hheap:=hZ w (.cells cells elem)
 refine .rd (.list _ _ _ _ _ _ (fun i j=>(cells[i*sz+j]?).getD undef) (fun _=>rfl) (Nat.le_refl _) hl (by rw[bZ];omega) (fun i j hi hj=>?_) (fun i j e d he hd=>?_) (fun i j e d he hd=>?_))
 ·have:=gT (s:=sz) (j:=j) hi hj
  simp only[World.cell?,hheap,Option.isSome_none,Bool.false_eq_true,if_false,Nat.zero_add]
  rw[Array.getElem?_eq_getElem (by omega)];rfl
 ·have:=List.all_eq_true.1 hp e (List.mem_of_getElem? he)
  exact List.all_eq_true.1 this d (List.mem_of_getElem? hd)
 ·obtain⟨v,hv,hr⟩:=hpure i j e d he hd
  rw[hv]
  exact hr.mono s.le s.cell
theorem sG{o:Oper}{t el:TypeId}{len sz:Nat}{parts:Array (Nat×Operand)}{zero:List a6}{qs:List (Nat×bA)}(ho:o.op=.buildSlice t len parts)(he:kB? P t=some el)(hsz:dF P el=some sz)(hz:jF P el=some zero)
  (hq:pQ parts.toList=some qs) (hs:SA E C τ ρ H a w) (h:d7 P (.buildSlice sz len zero qs) ρ H K∨d7 P (.buildSliceO sz len zero qs) ρ H K):bJ P ((execOp a.eval o).run P w) (gZ E ρ a K):=by
 obtain⟨i,z,hi,hz1,hzs,hzi,hzr⟩:=pI (C:=C) (w:=w) (τ:=τ) (H:=H) hz
 have hsi:i.size=sz:=by
  unfold dF at hsz;rw[hi]at hsz;simpa using hsz
 have main:∀Kf:List (List a6)→Prop,oD ρ sz qs (List.replicate len zero) Kf→(∀es,Kf es→zero.length=sz∧len*sz≤2 ^ 24)→∃es cells,(execOp a.eval o).run P w=.ok (.value (.slice (some ⟨w.heap.size,0,none⟩) es.length es.length)) (w.alloc (.cells cells el)) ∧
   cells.size=es.length*sz∧(∀e∈es,e.length=sz)∧(∀(i j:Nat) (e:List a6) (d:a6),es[i]?=some e→e[j]?=some d→∃v,cells[i*sz+j]?=some v∧bW C w τ H d v)∧Kf es:=by
  intro Kf hf hzl
  have hzsz:zero.length=sz:=by omega
  obtain⟨es,cells,e1,e2,e3,e4,e5,hk⟩:=IK hs (sz:=sz) parts.toList qs (List.replicate len zero) ((Array.range (len*sz)).map (z.cells[· % z.cells.size]!)) Kf hq (by simp) (fun e hm=>by rw[(List.mem_replicate.1 hm).2];exact hzsz) (fun i j e d hi hd=>by
    have:=yA hzs hzr len len (Nat.le_refl _) i j e d hi hd
    rw[show z.cells.size=sz from by omega]at this ⊢
    exact this) hf
  rw[List.length_replicate]at e2
  have hlim:=(hzl es hk).2
  refine⟨es,cells,?_,e3,e4,e5,hk⟩
  have hfill:Instr.fill (fun i=>some (i*sz,sz)) ((Array.range (len*sz)).map (z.cells[· % z.cells.size]!)) ((parts.map fun(i,x)=>(i,a.eval x)).toList)=some cells:=by
   rw[Array.toList_map];exact e1
  have hgt:¬(len*sz>2 ^ 24):=by omega
  simp only[execOp,ho,Instr.buildSlice,Sem.run_bind,bE (oT he),Result.andThen_ok,eP hsz,if_neg hgt]
  by_cases hq0:len*sz=0
  ·rw[hq0]at hfill
   have hr0:Array.range 0 = #[]:=rfl
   rw[hr0,Array.map_empty]at hfill
   simp only[hq0,if_true,Sem.run_pure,Result.andThen_ok,hr0,Array.map_empty,hfill,Sem.run_bind,newRow,run_newObj_alloc,e2]
  ·simp only[hq0,if_false,Sem.run_bind,zeroValue,gQ hi,Result.andThen_ok,hz1,Sem.run_pure,hfill,newRow,run_newObj_alloc,e2]
 rcases h with h|h
 ·simp only[d7]at h
  obtain⟨es,cells,e1,e2,e3,e4,hk⟩:=main _ h (fun es hk=>by simp only[aG,Bool.and_eq_true,decide_eq_true_eq]at hk;exact hk.1.1)
  simp only[aG,Bool.and_eq_true]at hk
  obtain⟨⟨_,hp⟩,hk⟩:=hk
  have hpc:∀e∈es,∀d∈e,d.isPure=true:=fun e he d hd=>List.all_eq_true.1 (List.all_eq_true.1 hp e he) d hd
  rw[e1]
  refine S3 hs e2 e3 (List.all_eq_true.2 fun e he=>List.all_eq_true.2 fun d hd=>a6.isCell_of_isPure (hpc e he d hd)) (fun i j e d hi hd=>?_) hk
  obtain⟨v,hv,hr⟩:=e4 i j e d hi hd
  exact⟨v,hv,hr.pure (hpc e (List.mem_of_getElem? hi) d (List.mem_of_getElem? hd))⟩
 ·simp only[d7]at h
  obtain⟨es,cells,e1,e2,e3,e4,hk⟩:=main _ h (fun es hk=>by simp only[aG,Bool.and_eq_true,decide_eq_true_eq]at hk;exact hk.1.1)
  simp only[aG,Bool.and_eq_true,dG,Nat.zero_add]at hk
  obtain⟨⟨_,hp⟩,hk⟩:=hk
  rw[e1]
  refine tC (cap:=es.length) hs rfl rfl rfl rfl (Nat.le_refl _) e2 (Nat.le_refl _) (.inl rfl) (fun e he=>⟨e3 e he,fun d hd=>List.all_eq_true.1 (List.all_eq_true.1 hp e he) d hd⟩) e4 hk (.inr (.inl ⟨rfl,rfl⟩))
theorem LQ(w:World)(c:Array Value)(e:TypeId):(w.alloc (.cells c e)).freeze ⟨w.heap.size,c.size,none⟩ 1=w.alloc (.cells c e (c.size,c.size+1)):=by
 simp only[World.freeze,Nat.one_ne_zero,if_false,World.alloc]
 congr 1
 apply Array.ext'
 apply List.ext_getElem?
 intro i
 simp only[Array.getElem?_toList,Array.getElem?_modify,Array.getElem?_push]
 by_cases h:w.heap.size=i
 ·subst h;simp
 ·have h':¬i=w.heap.size:=fun e=>h e.symm
  simp only[if_neg h,if_neg h']
theorem MR{o:Oper}{s d el:TypeId}{x:Operand}{x':bA}(ho:o.op=.convert s d x)(hx:aJ x=some x')(h1:P.underlying s=some .string)(h2:P.underlying d=some (.slice el))
  (hb:P.underlying el=some (.int .u8)) (hs:SA E C τ ρ H a w) (h:d7 P (.convSB x') ρ H K):bJ P ((execOp a.eval o).run P w) (gZ E ρ a K):=by
 simp only[d7,bD]at h
 have hr:=hs.ev hx
 split at h
 case h_2=>exact h.elim
 rename_i t hv
 rw[hv]at hr
 simp only[dG,Nat.zero_add]at h
 obtain⟨_,hk⟩:=h
 generalize hc:(Question.appendCap t.size 0 el).cut (w.tape w.drawn (.appendCap t.size 0 el))=c
 have hle:t.size≤c:=by rw[←hc];simp[Question.cut]
 generalize hcells:((t.data.map fun b=>Value.int .u8 b.toNat)++Array.replicate (c-t.size) (Value.int .u8 0):Array Value)=cells
 have hsize:cells.size=c:=by rw[←hcells];simp;omega
 have run:(execOp a.eval o).run P w=.ok (.value (.slice (some ⟨w.heap.size,0,none⟩) t.size c)) (w.drew.alloc (.cells cells el (cells.size,cells.size+1))):=by
  have hconv:(Conv.stringToBytes el t).run P w=.ok (.slice (some ⟨w.heap.size,0,none⟩) t.size c) (w.drew.alloc (.cells cells el (cells.size,cells.size+1))):=by
   have hq:(Question.appendCap t.size 0 el).forced=false:=rfl
   have hsh:(w.drew.alloc (.cells cells el)).shape? w.drew.heap.size=some (el,cells.size):=by
    have:=hZ w.drew (.cells cells el)
    simp only[World.shape?,this]
   unfold Conv.stringToBytes
   simp only[Sem.run_bind,run_choose_drew,hq,Bool.false_eq_true,if_false,Result.andThen_ok,hc,hcells,newRow,run_newObj_alloc,Sem.run_pure,markStringish,run_shape]
   rw[show w.drew.heap.size=w.heap.size from rfl]at hsh
   simp only[World.size_drew,hsh,run_freeze,Result.andThen_ok]
   have:=LQ w.drew cells el
   rw[show w.drew.heap.size=w.heap.size from rfl]at this
   rw[this]
  simp only[execOp,ho,hr.str_inv,convert,Sem.run_bind,bE h1,bE h2,Result.andThen_ok,bE hb,hconv,Sem.run_pure]
 rw[run]
 have hbl:(bU t.data.toList).length=t.size:=by simp[bU]
 refine tC (w1:=w.drew) (cap:=c) (esz:=1) (es:=bU t.data.toList) hs rfl rfl rfl rfl (Nat.le_succ _) (by omega) (by omega) (.inr (Nat.le_refl _)) (fun e he=>?_) (fun i j e d he hd=>?_) (v:=.sl H.length t.size 0 t.size) ?_ (.inr (.inl ⟨by rw[hbl],by rw[hbl]⟩))
 ·simp only[bU,List.mem_map]at he
  obtain⟨b,_,rfl⟩:=he
  exact⟨rfl,fun d hd=>by simp at hd;subst hd;rfl⟩
 ·obtain⟨v,hv,hrel⟩:=(O7 (P:=P) (C:=C) (w:=w) (τ:=τ) (H:=H) (s:=t)).rel i j e d he hd
  refine⟨v,?_,hrel⟩
  rw[←hcells,Array.getElem?_append_left (Array.getElem?_eq_some_iff.1 hv).1]
  exact hv
 ·have:t.data.toList.length=t.size:=by simp
  rw[this]at hk
  exact hk
theorem SU{o:Oper}{s el:TypeId}{x:Operand}{x':bA}(ho:o.op=.convert s s x)(hx:aJ x=some x')(h1:P.underlying s=some (.slice el))(hb:P.underlying el=some (.int .u8))
  (hs:SA E C τ ρ H a w) (h:d7 P (.mark x') ρ H K):bJ P ((execOp a.eval o).run P w) (gZ E ρ a K):=by
 simp only[d7,bD]at h
 have hr:=hs.ev hx
 split at h
 case h_2=>exact h.elim
 rename_i id ep off len hv
 rw[hv]at hr
 simp only[cM,b6]at h
 obtain⟨ob,hob,h⟩:=h
 split at h
 case h_2=>exact h.elim
 rename_i esz es
 simp only[aG,Bool.and_eq_true,Nat.beq_eq,decide_eq_true_eq]at h
 obtain⟨⟨hep,hpos⟩,hk⟩:=h
 obtain⟨ad,cap,e1,hl1,hl2,hl3⟩:=hr.sl_inv hob hep
 rcases hl3 with⟨_,hc⟩|⟨l,hl,hlc,hla⟩
 ·omega
 ·rcases hla with hc|rfl
  ·omega
  ·obtain⟨hroom,cells,elem,fz,g1,g2,g3,g4⟩:=hs.st.wf.objs id _ l hob hl
   have hsh:w.shape? l.b=some (elem,cells.size):=by simp[World.shape?,g1]
   have run:(execOp a.eval o).run P w=.ok (.value (a.eval x)) (w.freeze ⟨l.b,cells.size,none⟩ 1):=by
    simp only[execOp,ho,e1,convert,Sem.run_bind,bE h1,Result.andThen_ok,beq_self_eq_true,bE hb,markStringish,run_shape,hsh,run_freeze,Sem.run_pure]
   rw[run]
   generalize hw':w.freeze ⟨l.b,cells.size,none⟩ 1=w'
   have hfz:∃fz':Nat×Nat,w'.heap[l.b]?=some (.cells cells elem fz')∧(fz'.1=fz'.2∨cells.size≤fz'.1):=by
    rw[←hw']
    simp only[World.freeze,Nat.one_ne_zero,if_false,Array.getElem?_modify,if_true,g1,Option.map_some]
    obtain⟨lo,hi⟩:=fz
    simp only[]at g3 ⊢
    by_cases hlh:lo=hi
    ·subst hlh
     exact⟨(cells.size,cells.size+1),by simp,.inr (Nat.le_refl _)⟩
    ·refine⟨(min lo cells.size,max hi (cells.size+1)),?_,.inr ?_⟩
     ·have:(lo==hi)=false:=by simpa using hlh
      simp[this]
     ·simp only[];omega
   obtain⟨fz',q1,q2⟩:=hfz
   have hoth:∀b,b≠l.b→w'.heap[b]?=w.heap[b]?:=by
    intro b hb'
    rw[←hw']
    simp only[World.freeze,Nat.one_ne_zero,if_false,Array.getElem?_modify]
    rw[if_neg (fun e=>hb' e.symm)]
   have hsz:w'.heap.size=w.heap.size:=by rw[←hw'];simp[World.freeze]
   have f1:w'.os=w.os:=by rw[←hw'];simp[World.freeze]
   have f2:w'.tape=w.tape:=by rw[←hw'];simp[World.freeze]
   have f3:w'.output=w.output:=by rw[←hw'];simp[World.freeze]
   obtain⟨st,s1⟩:=hs.st.set_obj (w':=w') (o':=.arr esz es) hob hl hoth hsz f1 f2 f3 (by rw[←hw'];simp[World.freeze]) (aB.after_refl _ _) (hs.st.wf.ok id _ hob) fun C' τ' H' s1=>by
    refine⟨hroom,cells,elem,fz',q1,g2,q2,fun i j e d hi hd=>?_⟩
    obtain⟨v,hv1,hv2⟩:=g4 i j e d hi hd
    exact⟨v,hv1,hv2.mono s1⟩
   have hidx:=(List.getElem?_eq_some_iff.1 hob).1
   have hset:H.set id (.arr esz es)=H:=by
    apply List.ext_getElem?
    intro j
    by_cases hj:j=id
    ·subst hj;rw[List.getElem?_set_self hidx,hob]
    ·rw[List.getElem?_set_ne (Ne.symm hj)]
   rw[hset]at st s1
   exact dO hs hk (hr.mono s1) st s1
end
section
variable {E:tT}{P:Program}{C:Nat→Nat}{τ:Nat→Option Loc}{ρ:List a6}{H:List aB}{a:Act}{w:World}{K:a6→List aB→Prop}
theorem oQ(a b:ByteArray):(a==b)=(a.data.toList==b.data.toList):=by
 rw[beq_toListBytes,Lib.toList_data,Lib.toList_data]
theorem sY{c c':a6}{b:Bool}(h:cF 0 c c'=some b):∃x y,c=.bool x∧c'=.bool y∧b=(x==y):=by
 cases c<;>cases c'<;>simp[cF]at h
 exact⟨_,_,rfl,rfl,h.symm⟩
theorem sZ{c c':a6}{b:Bool}(h:cF 1 c c'=some b):∃k x y,c=.int k x∧c'=.int k y∧b=(x==y):=by
 cases c<;>cases c'<;>simp[cF]at h
 obtain⟨rfl,h⟩:=h
 exact⟨_,_,_,rfl,rfl,h.symm⟩
theorem t6{c c':a6}{b:Bool}(h:cF 2 c c'=some b):∃x y,c=.str x∧c'=.str y∧b=(x.data.toList==y.data.toList):=by
 cases c<;>cases c'<;>simp only[cF,Option.some.injEq]at h<;>try(cases h;done)
 exact⟨_,_,rfl,rfl,h.symm⟩
theorem K0{f:Field}{n:Nat}{c c':a6}{v v':Value}{b:Bool}{xs ys:Array Value}(d:Nat)
  (hk:(P.underlying f.type=some .bool∧n=0)∨((∃k,P.underlying f.type=some (.int k))∧n=1)∨(P.underlying f.type=some .string∧n=2))
  (hx:xs[f.offset]?=some v) (hy:ys[f.offset]?=some v') (hc:bW C w τ H c v) (hc':bW C w τ H c' v') (he:cF n c c'=some b) :
  (part f.type xs f.offset).run P w=.ok v w∧(part f.type ys f.offset).run P w=.ok v' w∧(Op.equalIn (d+1) f.type v v').run P w=.ok b w:=by
 have part1:∀{zs:Array Value}{u:Value},zs[f.offset]?=some u→sI P f.type=some false→(part f.type zs f.offset).run P w=.ok u w:=by
  intro zs u hz ht
  simp only[part,Sem.run_bind,pC ht,Result.andThen_ok,Bool.false_eq_true,if_false,hz,Sem.run_pure]
 rcases hk with⟨hu,rfl⟩|⟨⟨k,hu⟩,rfl⟩|⟨hu,rfl⟩
 all_goals
  have ht:sI P f.type=some false:=by simp[sI,hu]
  refine⟨part1 hx ht,part1 hy ht,?_⟩
  rw[Op.equalIn]
 ·obtain⟨x,y,rfl,rfl,rfl⟩:=sY he
  cases hc.bool_inv;cases hc'.bool_inv
  simp only[Sem.run_bind,bE hu,Result.andThen_ok,Sem.run_pure]
 ·obtain⟨k',x,y,rfl,rfl,rfl⟩:=sZ he
  cases hc.int_inv;cases hc'.int_inv
  simp only[Sem.run_bind,bE hu,Result.andThen_ok,if_true,Sem.run_pure]
 ·obtain⟨x,y,rfl,rfl,rfl⟩:=t6 he
  cases hc.str_inv;cases hc'.str_inv
  simp only[Sem.run_bind,bE hu,Result.andThen_ok,Sem.run_pure,oQ]
def FR(d:Nat)(xs ys:Array Value)(fs:List Field):Sem (Option Bool×Unit) :=
 forIn fs (none,()) fun f _ =>
  if f.name ≠ "_" then do
   let u ←part f.type xs f.offset
   let v ←part f.type ys f.offset
   let b ←Op.equalIn d f.type u v
   if(!b)=true then pure (ForInStep.done (some false,()))else pure (ForInStep.yield (none,()))
  else pure (ForInStep.yield (none,()))
theorem CQ(d:Nat){xs ys:Array Value}{cs ds:List a6}(hl:cs.length=xs.size)(hl':ds.length=ys.size)(hr:∀(i:Nat) (c:a6) (v:Value),cs[i]?=some c→xs[i]?=some v→bW C w τ H c v)
  (hr':∀(i:Nat) (c:a6) (v:Value),ds[i]?=some c→ys[i]?=some v→bW C w τ H c v):∀(fs:List Field) (i:Nat) (ks:List Nat) (Kb:Bool→Prop),iK P fs i=some ks→kE ks (cs.drop i) (ds.drop i) Kb →
  ∃b,Kb b∧(FR (d+1) xs ys fs).run P w=.ok (if b then(none,())else(some false,())) w
 |[],i,ks,Kb,hk,h=>by
  simp only[iK,Option.some.injEq]at hk;subst hk
  unfold kE at h
  split at h
  ·exact⟨true,h,rfl⟩
  ·rename_i e _ _;cases e
  ·exact h.elim
 |f::fs,i,ks,Kb,hk,h=>by
  unfold iK at hk
  split at hk
  case isFalse=>cases hk
  rename_i hf
  obtain⟨hoff,hname⟩:=hf
  have main:∀(n:Nat) (l:List Nat),ks=n::l→iK P fs (i+1)=some l→((P.underlying f.type=some .bool∧n=0)∨((∃k,P.underlying f.type=some (.int k))∧n=1)∨(P.underlying f.type=some .string∧n=2)) →
    ∃b,Kb b∧(FR (d+1) xs ys (f::fs)).run P w=.ok (if b then(none,())else(some false,())) w:=by
   rintro n l rfl hl2 hkind
   unfold kE at h
   split at h
   ·rename_i e _ _;cases e
   ·rename_i n' ns x xs' y ys' e1 e2 e3
    cases e1
    have hx:cs[i]?=some x:=by
     have:=congrArg (·[0]?) e2
     simpa using this
    have hy:ds[i]?=some y:=by
     have:=congrArg (·[0]?) e3
     simpa using this
    have hx':cs.drop (i+1)=xs':=by rw[←List.drop_drop,e2];rfl
    have hy':ds.drop (i+1)=ys':=by rw[←List.drop_drop,e3];rfl
    have hxi:=(List.getElem?_eq_some_iff.1 hx).1
    have hyi:=(List.getElem?_eq_some_iff.1 hy).1
    have hxv:xs[f.offset]?=some xs[i]:=by rw[hoff];exact Array.getElem?_eq_getElem (by omega)
    have hyv:ys[f.offset]?=some ys[i]:=by rw[hoff];exact Array.getElem?_eq_getElem (by omega)
    split at h
    ·rename_i b hb
     obtain⟨p1,p2,p3⟩:=K0 d hkind hxv hyv (hr i x _ hx (by have:=hxv;rwa [hoff]at this)) (hr' i y _ hy (by have:=hyv;rwa [hoff]at this)) hb
     rw[←hx',←hy']at h
     obtain⟨c,hc,hrun⟩:=CQ d hl hl' hr hr' fs (i+1) l _ hl2 h
     refine⟨b&&c,hc,?_⟩
     unfold FR at hrun ⊢
     rw[List.forIn_cons]
     cases b with
     |false =>
      simp only[ne_eq,hname,not_false_eq_true,if_true,Sem.run_bind,p1,p2,p3,Result.andThen_ok,Bool.not_false,Sem.run_pure,Bool.false_and,Bool.false_eq_true,if_false]
     |true =>
      simp only[ne_eq,hname,not_false_eq_true,if_true,Sem.run_bind,p1,p2,p3,Result.andThen_ok,Bool.not_true,Bool.false_eq_true,if_false,Sem.run_pure,Bool.true_and]
      exact hrun
    ·exact h.elim
   ·exact h.elim
  split at hk
  ·rename_i l hu hl2;cases hk;exact main 0 l rfl hl2 (.inl ⟨hu,rfl⟩)
  ·rename_i k l hu hl2;cases hk;exact main 1 l rfl hl2 (.inr (.inl ⟨⟨_,hu⟩,rfl⟩))
  ·rename_i l hu hl2;cases hk;exact main 2 l rfl hl2 (.inr (.inr ⟨hu,rfl⟩))
  ·cases hk
theorem UJ{o:Oper}{op:BinOp}{t u:TypeId}{x y:Operand}{x' y':bA}{fs:Array Field}{ks:List Nat}(ho:o.op=.binOp op t x y u)(hx:aJ x=some x')(hy:aJ y=some y')
  (hd:P.underlying t=some (.struct fs)) (hop:op=.eql∨op=.neq) (hst:P.stoodInHeld t=false) (hgu:P.eqGuardType P.depth t=false) (hks:iK P fs.toList 0=some ks) (hs:SA E C τ ρ H a w)
  (h:d7 P (.eqs (decide (op=.neq)) ks x' y') ρ H K):bJ P ((execOp a.eval o).run P w) (gZ E ρ a K):=by
 simp only[d7,bD]at h
 have hrx:=hs.ev hx
 have hry:=hs.ev hy
 split at h
 case h_2=>exact h.elim
 rename_i cs ds e1 e2
 rw[e1]at hrx
 rw[e2]at hry
 obtain⟨xs,f1,f2,f3⟩:=hrx.agg_inv
 obtain⟨ys,g1,g2,g3⟩:=hry.agg_inv
 obtain⟨b,hk,hrun⟩:=CQ (P:=P) 9998 f2 g2 f3 g3 fs.toList 0 ks _ hks (by rw[←nM];simpa using h)
 have heq:(Op.equal t (.agg xs) (.agg ys)).run P w=.ok b w:=by
  show(Op.equalIn (9999+1) t (.agg xs) (.agg ys)).run P w=_
  rw[Op.equalIn]
  simp only[Sem.run_bind,bE hd,Result.andThen_ok,run_program,hst,Bool.false_eq_true,if_false]
  unfold FR at hrun
  rw[←Array.forIn_toList,hrun]
  cases b<;>rfl
 have hguard:(eqGuard op t x y (.agg xs) (.agg ys)).run P w=.ok () w:=by
  rcases hop with rfl|rfl<;>simp[eqGuard,hgu]
 rcases hop with rfl|rfl
 ·have hbin:(binOp .eql t (.agg xs) (.agg ys)).run P w=.ok (.bool b) w:=by simp[binOp,heq]
  simp only[execOp,ho,f1,g1,Sem.run_bind,hguard,Result.andThen_ok,hbin,Sem.run_pure,bJ]
  exact aS hs hk (.rd (.bool _))
 ·have hbin:(binOp .neq t (.agg xs) (.agg ys)).run P w=.ok (.bool !b) w:=by simp[binOp,heq]
  simp only[execOp,ho,f1,g1,Sem.run_bind,hguard,Result.andThen_ok,hbin,Sem.run_pure,bJ]
  exact aS hs hk (.rd (.bool _))
theorem PT{o:Oper}{t:TypeId}{x:Operand}{x':bA}(ho:o.op=.range t x)(hx:aJ x=some x')(hu:P.underlying t=some .string)(hs:SA E C τ ρ H a w)
  (h:d7 P (.range x') ρ H K):bJ P ((execOp a.eval o).run P w) (gZ E ρ a K):=by
 simp only[d7,bD]at h
 have hr:=hs.ev hx
 split at h
 case h_2=>exact h.elim
 rename_i s hv
 rw[hv]at hr
 simp only[dG,Nat.zero_add]at h
 have run:(execOp a.eval o).run P w=.ok (.value (.pointer (some ⟨w.heap.size,0,none⟩))) (w.alloc (.stringIter s 0)):=by
  simp only[execOp,ho,hr.str_inv,Instr.range,Sem.run_bind,bE hu,Result.andThen_ok,Sem.run_pure,run_newObj_alloc]
 rw[run]
 obtain⟨st,s1⟩:=hs.st.alloc_obj (.stringIter s 0) (.iter s 0) 0 trivial fun C' τ' H' w' _ hh=>hh
 exact dO hs h (.it H.length s 0 _ (by simp) (bZ _ _ _)) st s1
theorem SV{o:Oper}{x:Operand}{x':bA}(ho:o.op=.next x true)(hx:aJ x=some x')(hs:SA E C τ ρ H a w)
  (h:d7 P (.next x') ρ H K):bJ P ((execOp a.eval o).run P w) (gZ E ρ a K):=by
 simp only[d7,bD]at h
 have hr:=hs.ev hx
 split at h
 case h_2=>exact h.elim
 rename_i id hv
 rw[hv]at hr
 simp only[cM,b6]at h
 obtain⟨ob,hob,h⟩:=h
 split at h
 case h_2=>exact h.elim
 rename_i s pos
 rw[eN]at h
 obtain⟨l,hl,hu⟩:∃l,τ id=some l∧a.eval x=.pointer (some ⟨l.b,0,none⟩):=by
  generalize a.eval x=z at hr
  cases hr with
  |rd hr=>cases hr
  |it _ s' p' l ho' ht=>exact⟨l,ht,rfl⟩
  |mt _ _ _ _ l ho' ht=>exact⟨l,ht,rfl⟩
 have hat:=hs.st.wf.objs id _ l hob hl
 have hget:(getObj l.b).run P w=.ok (.stringIter s pos) w:=by
  have hh:w.heap[l.b]?=some (.stringIter s pos):=hat
  simp only[getObj,Sem.run,hh]
 split at h
 ·rename_i hc
  have hlt:pos<s.size:=by simpa using hc
  simp only[fO]at h
  generalize hw':({ w with heap:=w.heap.setIfInBounds l.b (.stringIter s (pos+(Utf8.decode s pos).2)) }:World)=w'
  have run:(execOp a.eval o).run P w=.ok (.value (.tuple #[.bool true,goInt pos,.int .i32 (Utf8.decode s pos).1])) w':=by
   have hh:w.heap[l.b]?=some (.stringIter s pos):=hat
   have hset:(setObj l.b (.stringIter s (pos+(Utf8.decode s pos).2))).run P w=.ok () w':=by
    simp only[setObj,Sem.run,hh,hw']
   simp only[execOp,ho,hu,Instr.next,Sem.run_bind,hget,Result.andThen_ok,if_pos hlt,hset,Sem.run_pure]
  rw[run]
  have hb:=cQ (w:=w) hat
  obtain⟨st,s1⟩:=hs.st.set_obj (w':=w') (o':=.iter s (pos+(Utf8.decode s pos).2)) hob hl (fun b hne=>by
   rw[←hw'];simp only[];rw[Array.getElem?_setIfInBounds_ne (fun e=>hne e.symm)]) (by rw[←hw'];simp) (by rw[←hw']) (by rw[←hw']) (by rw[←hw']) (by rw[←hw']) rfl trivial fun C' τ' H' _=>by
    show w'.heap[l.b]?=_
    rw[←hw']
    simp only[]
    rw[Array.getElem?_setIfInBounds_self_of_lt hb]
  refine dO hs h (.tuple _ _ rfl fun i c v hc hv=>?_) st s1
  match i,hc,hv with
  |0,hc,hv=>simp at hc hv;subst hc hv;exact .rd (.bool _)
  |1,hc,hv=>simp at hc hv;subst hc hv;exact .rd (.int _ _)
  |2,hc,hv=>simp at hc hv;subst hc hv;exact .rd (.int _ _)
  |i+3,hc,hv=>simp at hc
 ·rename_i hc
  have hlt:¬pos<s.size:=by simpa using hc
  have run:(execOp a.eval o).run P w=.ok (.value (.tuple #[.bool false])) w:=by
   simp only[execOp,ho,hu,Instr.next,Sem.run_bind,hget,Result.andThen_ok,if_neg hlt,Sem.run_pure]
  rw[run]
  refine aS hs h (.tuple _ _ rfl fun i c v hc hv=>?_)
  match i,hc,hv with
  |0,hc,hv=>simp at hc hv;subst hc hv;exact .rd (.bool _)
  |i+1,hc,hv=>simp at hc
end
section
variable {P:Program}{E:tT}{C:Nat→Nat}{τ:Nat→Option Loc}{ρ:List a6}{H:List aB}{a:Act}{w:World}{K:a6→List aB→Prop}
theorem t8{k:a6}{v:Value}(h:bW C w τ H k v)(hk:k.isLit=true):v=k.lit:=by
 cases h with
 |rd h=>cases h<;>first|rfl|(simp[a6.isLit]at hk)
 |_=>simp[a6.isLit]at hk
theorem fP{n:Nat}{a b:a6}(h:(cF n a b).isSome=true):a.isLit=true:=by
 unfold cF at h
 split at h<;>first|rfl|(simp at h)
theorem BR{k:TypeId}{n:Nat}(h:zL P k=some n):(n=0∧P.underlying k=some .bool)∨(n=1∧∃kk,P.underlying k=some (.int kk))∨(n=2∧P.underlying k=some .string):=by
 unfold zL at h
 split at h<;>simp at h
 ·rename_i hu;exact .inl ⟨h.symm,hu⟩
 ·rename_i kk hu;exact .inr (.inl ⟨h.symm,kk,hu⟩)
 ·rename_i hu;exact .inr (.inr ⟨h.symm,hu⟩)
theorem CT{d:TypeDesc}{n:Nat}(hd:(n=0∧d=.bool)∨(n=1∧∃kk,d=.int kk)∨(n=2∧d=.string)){x y:a6}{b:Bool}(h:cF n x y=some b):
  Instr.sameNow d x.lit y.lit=some b:=by
 rcases hd with⟨rfl,rfl⟩|⟨rfl,kk,rfl⟩|⟨rfl,rfl⟩
 ·obtain⟨p,q,rfl,rfl,rfl⟩:=sY h;rfl
 ·obtain⟨k,p,q,rfl,rfl,rfl⟩:=sZ h;simp[Instr.sameNow,a6.lit]
 ·obtain⟨p,q,rfl,rfl,rfl⟩:=t6 h;simp only[Instr.sameNow,a6.lit,oQ]
theorem fQ{n:Nat}{x y:a6}(h:cF n x y=some true):x.lit=y.lit:=by
 match n with
 |0=>obtain⟨p,q,rfl,rfl,hb⟩:=sY h;simp at hb;subst hb;rfl
 |1=>obtain⟨k,p,q,rfl,rfl,hb⟩:=sZ h;simp at hb;subst hb;rfl
 |2 =>
  obtain⟨p,q,rfl,rfl,hb⟩:=t6 h
  rw[←oQ]at hb
  have:p=q:=by
   obtain⟨⟨p⟩⟩:=p
   obtain⟨⟨q⟩⟩:=q
   rw[oQ]at hb
   simpa using hb.symm
  subst this;rfl
 |n+3=>unfold cF at h;simp at h
theorem FzS{d:TypeDesc}{n:Nat}(hd:(n=0∧d=.bool)∨(n=1∧∃kk,d=.int kk)∨(n=2∧d=.string)){k:a6}:
  ∀(es:List MapEntry) (kvs:List (a6×a6)) (i:Nat),es.length=kvs.length→(∀(j:Nat) (e:MapEntry) (kv:a6×a6),es[j]?=some e→kvs[j]?=some kv→e.key=kv.1.lit) →
   (kvs.all fun kv=>(cF n k kv.1).isSome)=true →
   (j4 n k kvs=none∧Instr.findNow d k.lit es i=some none∧∀v,qA n k v kvs=kvs++[(k,v)]) ∨
   ∃j e kv,es[j]?=some e∧kvs[j]?=some kv∧j4 n k kvs=some kv.2∧Instr.findNow d k.lit es i=some (some (i+j,e.val))∧cF n k kv.1=some true∧∀v,qA n k v kvs=kvs.set j (kv.1,v)
 |[],[],i,_,_,_=>.inl ⟨rfl,rfl,fun _=>rfl⟩
 |[],_::_,_,h,_,_=>by simp at h
 |_::_,[],_,h,_,_=>by simp at h
 |e::es,kv::kvs,i,hl,hk,hs=>by
  simp only[List.all_cons,Bool.and_eq_true]at hs
  obtain⟨b,hb⟩:=Option.isSome_iff_exists.1 hs.1
  have hkey:=hk 0 e kv rfl rfl
  have hsn:=CT hd hb
  cases b with
  |true =>
   refine .inr ⟨0,e,kv,rfl,rfl,?_,?_,hb,fun v=>?_⟩
   ·simp only[j4,hb]
   ·simp only[Instr.findNow,hkey,hsn,Nat.add_zero]
   ·simp only[qA,hb,List.set_cons_zero]
  |false =>
   rcases FzS hd es kvs (i+1) (by simpa using hl) (fun j x y hx hy=>hk (j+1) x y hx hy) hs.2 with⟨h1,h2,h3⟩|⟨j,x,y,h1,h2,h3,h4,h5,h6⟩
   ·refine .inl ⟨?_,?_,fun v=>?_⟩
    ·simp only[j4,hb,h1]
    ·simp only[Instr.findNow,hkey,hsn,h2]
    ·simp only[qA,hb,h3,List.cons_append]
   ·refine .inr ⟨j+1,x,y,h1,h2,?_,?_,h5,fun v=>?_⟩
    ·simp only[j4,hb,h3]
    ·simp only[Instr.findNow,hkey,hsn,h4];rw[show i+1+j=i+(j+1)from by omega]
    ·simp only[qA,hb,h6,List.set_cons_succ]
theorem EC{n:Nat}{x y:a6}(h:cF n x y=some false):x.lit≠y.lit:=by
 match n with
 |0=>obtain⟨p,q,rfl,rfl,hb⟩:=sY h;intro e;simp[a6.lit]at e;simp[e]at hb
 |1=>obtain⟨k,p,q,rfl,rfl,hb⟩:=sZ h;intro e;simp[a6.lit]at e;simp[e]at hb
 |2=>obtain⟨p,q,rfl,rfl,hb⟩:=t6 h;intro e;simp[a6.lit]at e;simp[e]at hb
 |n+3=>unfold cF at h;simp at h
theorem uQ{n:Nat}{k:a6}{a b:List (a6×a6)}(h:a.Perm b):lP n k a=lP n k b:=by
 unfold lP
 congr 1
 rw[Bool.eq_iff_iff,List.all_eq_true,List.all_eq_true]
 exact⟨fun g x hx=>g x (h.mem_iff.2 hx),fun g x hx=>g x (h.mem_iff.1 hx)⟩
theorem xH{n:Nat}{k:a6}:∀{l:List (a6×a6)},(l.map fun kv=>kv.1.lit).Nodup→∀{v:a6},j4 n k l=some v↔∃kv∈l,cF n k kv.1=some true∧kv.2=v
 |[],_,v=>by simp[j4]
 |kv::l,hn,v=>by
  rw[List.map_cons,List.nodup_cons]at hn
  by_cases h:cF n k kv.1=some true
  ·simp only[j4,h,Option.some.injEq]
   constructor
   ·rintro rfl;exact⟨kv,List.mem_cons_self ..,h,rfl⟩
   ·rintro⟨x,hx,h1,rfl⟩
    rcases List.mem_cons.1 hx with rfl|hx
    ·rfl
    ·exact absurd (List.mem_map.2 ⟨x,hx,by rw[←fQ h,fQ h1]⟩) hn.1
  ·have e:j4 n k (kv::l)=j4 n k l:=by
    rw[j4]
    split
    ·rename_i h2;exact absurd h2 h
    ·rfl
   rw[e,xH hn.2]
   constructor
   ·rintro⟨x,hx,h1,h2⟩;exact⟨x,List.mem_cons_of_mem _ hx,h1,h2⟩
   ·rintro⟨x,hx,h1,h2⟩
    rcases List.mem_cons.1 hx with rfl|hx
    ·exact absurd h1 h
    ·exact⟨x,hx,h1,h2⟩
theorem M3{n:Nat}{k:a6}{a b:List (a6×a6)}(h:a.Perm b)(hn:(a.map fun kv=>kv.1.lit).Nodup):j4 n k a=j4 n k b:=by
 have hnb:(b.map fun kv=>kv.1.lit).Nodup:=(h.map _).nodup_iff.1 hn
 apply Option.ext
 intro v
 rw[xH hn,xH hnb]
 exact⟨fun⟨x,hx,h1,h2⟩=>⟨x,h.mem_iff.1 hx,h1,h2⟩,fun⟨x,hx,h1,h2⟩=>⟨x,h.mem_iff.2 hx,h1,h2⟩⟩
def mD(n:Nat)(k:a6)(l:List (a6×a6)):List (a6×a6):=l.filter fun kv=>!(cF n k kv.1==some true)
theorem BX{n:Nat}{k:a6}{l:List (a6×a6)}(h:∀kv∈l,cF n k kv.1≠some true):mD n k l=l :=
 List.filter_eq_self.2 fun kv hkv=>by simpa using h kv hkv
theorem qB{n:Nat}{k v:a6}:∀{l:List (a6×a6)},(l.map fun kv=>kv.1.lit).Nodup→∃k',(k'=k∨∃kv∈l,kv.1=k'∧cF n k k'=some true)∧(qA n k v l).Perm ((k',v)::mD n k l)∧((∃kv∈l,cF n k kv.1=some true)→∃kv∈l,kv.1=k'∧cF n k k'=some true)
 |[],_=>⟨k,.inl rfl,.refl _,fun⟨kv,h,_⟩=>by cases h⟩
 |kv::l,hn=>by
  rw[List.map_cons,List.nodup_cons]at hn
  by_cases h:cF n k kv.1=some true
  ·refine⟨kv.1,.inr ⟨kv,List.mem_cons_self ..,rfl,h⟩,?_,fun _=>⟨kv,List.mem_cons_self ..,rfl,h⟩⟩
   have e:mD n k (kv::l)=l:=by
    have:mD n k (kv::l)=mD n k l:=by unfold mD;rw[List.filter_cons,if_neg (by simp[h])]
    rw[this]
    refine BX fun x hx h1=>hn.1 (List.mem_map.2 ⟨x,hx,by rw[←fQ h,fQ h1]⟩)
   rw[e]
   have e2:qA n k v (kv::l)=(kv.1,v)::l:=by simp only[qA,h]
   rw[e2]
  ·obtain⟨k',h1,h2,h3⟩:=qB (n:=n) (k:=k) (v:=v) hn.2
   have e:qA n k v (kv::l)=kv::qA n k v l:=by
    rw[qA]
    split
    ·rename_i h2;exact absurd h2 h
    ·rfl
   have e2:mD n k (kv::l)=kv::mD n k l:=by unfold mD;rw[List.filter_cons,if_pos (by simpa using h)]
   refine⟨k',?_,?_,?_⟩
   ·rcases h1 with h1|⟨x,hx,g⟩
    ·exact .inl h1
    ·exact .inr ⟨x,List.mem_cons_of_mem _ hx,g⟩
   ·rw[e,e2]
    exact(List.Perm.cons _ h2).trans (.swap _ _ _)
   ·rintro⟨x,hx,g⟩
    rcases List.mem_cons.1 hx with rfl|hx
    ·exact absurd g h
    ·obtain⟨y,hy,g2⟩:=h3 ⟨x,hx,g⟩
     exact⟨y,List.mem_cons_of_mem _ hy,g2⟩
theorem M4{n:Nat}{k v:a6}{l:List (a6×a6)}(hn:(l.map fun kv=>kv.1.lit).Nodup)(hok:(l.all fun kv=>(cF n k kv.1).isSome)=true):((qA n k v l).map fun kv=>kv.1.lit).Nodup:=by
 obtain⟨k',h1,h2,h3⟩:=qB (n:=n) (k:=k) (v:=v) hn
 rw[(h2.map _).nodup_iff,List.map_cons,List.nodup_cons]
 have hlit:k'.lit=k.lit:=by
  rcases h1 with rfl|⟨_,_,_,h⟩
  ·rfl
  ·exact(fQ h).symm
 refine⟨fun hm=>?_,hn.sublist ((List.filter_sublist ..).map _)⟩
 obtain⟨x,hx,hxe⟩:=List.mem_map.1 hm
 obtain⟨hx1,hx2⟩:=List.mem_filter.1 hx
 obtain⟨b,hb⟩:=Option.isSome_iff_exists.1 (List.all_eq_true.1 hok x hx1)
 cases b with
 |true=>rw[hb]at hx2;simp at hx2
 |false=>exact EC hb (by rw[hxe,hlit])
theorem P0{n:Nat}{k v:a6}{a b:List (a6×a6)}(h:a.Perm b)(hn:(a.map fun kv=>kv.1.lit).Nodup)(hok:(a.all fun kv=>(cF n k kv.1).isSome)=true):(qA n k v a).Perm (qA n k v b):=by
 have hnb:(b.map fun kv=>kv.1.lit).Nodup:=(h.map _).nodup_iff.1 hn
 obtain⟨k1,g1,g2,g3⟩:=qB (n:=n) (k:=k) (v:=v) hn
 obtain⟨k2,f1,f2,f3⟩:=qB (n:=n) (k:=k) (v:=v) hnb
 have e:k1=k2:=by
  by_cases hex:∃kv∈a,cF n k kv.1=some true
  ·obtain⟨x,hx,rfl,hx2⟩:=g3 hex
   obtain⟨y,hy,rfl,hy2⟩:=f3 (hex.elim fun z hz=>⟨z,h.mem_iff.1 hz.1,hz.2⟩)
   have hy:=h.mem_iff.2 hy
   by_cases hxy:x=y
   ·rw[hxy]
   ·obtain⟨i,hi⟩:=List.getElem?_of_mem hx
    obtain⟨j,hj⟩:=List.getElem?_of_mem hy
    have hil:=(List.getElem?_eq_some_iff.1 hi).1
    have hjl:=(List.getElem?_eq_some_iff.1 hj).1
    have hlit:x.1.lit=y.1.lit:=by rw[←fQ hx2,fQ hy2]
    have:=List.pairwise_iff_getElem.1 hn
    rcases Nat.lt_trichotomy i j with q|q|q
    ·have:=this i j (by simpa using hil) (by simpa using hjl) q
     simp only[List.getElem_map,(List.getElem?_eq_some_iff.1 hi).2,(List.getElem?_eq_some_iff.1 hj).2]at this
     exact absurd hlit this
    ·subst q;rw[hi]at hj;exact absurd (Option.some.inj hj) hxy
    ·have:=this j i (by simpa using hjl) (by simpa using hil) q
     simp only[List.getElem_map,(List.getElem?_eq_some_iff.1 hi).2,(List.getElem?_eq_some_iff.1 hj).2]at this
     exact absurd hlit.symm this
  ·have n1:k1=k:=by
    rcases g1 with g1|⟨x,hx,rfl,hx2⟩
    ·exact g1
    ·exact absurd ⟨x,hx,hx2⟩ hex
   have n2:k2=k:=by
    rcases f1 with f1|⟨x,hx,rfl,hx2⟩
    ·exact f1
    ·exact absurd ⟨x,h.mem_iff.2 hx,hx2⟩ hex
   rw[n1,n2]
 rw[e]at g2
 exact g2.trans ((List.Perm.cons _ (h.filter _)).trans f2.symm)
theorem iY{t:TypeId}{n:Nat}(h:zL P t=some n){k:a6}(hk:(cF n k k).isSome=true)(b:Bool):(Instr.checkKey b 10000 t k.lit).run P w=.ok () w:=by
 show(Instr.checkKey b (9999+1) t k.lit).run P w=_
 obtain⟨c,hc⟩:=Option.isSome_iff_exists.1 hk
 rcases BR h with⟨rfl,hu⟩|⟨rfl,kk,hu⟩|⟨rfl,hu⟩
 ·obtain⟨p,q,rfl,_,_⟩:=sY hc;rw[Instr.checkKey,Sem.run_bind,bE hu,Result.andThen_ok];rfl
 ·obtain⟨k,p,q,rfl,_,_⟩:=sZ hc;rw[Instr.checkKey,Sem.run_bind,bE hu,Result.andThen_ok];rfl
 ·obtain⟨p,q,rfl,_,_⟩:=t6 hc;rw[Instr.checkKey,Sem.run_bind,bE hu,Result.andThen_ok];rfl
theorem fW{t:TypeId}{d:TypeDesc}(h:P.underlying t=some d){v:Value}{es:List MapEntry}{r:Option (Nat×Value)}(hf:Instr.findNow d v es 0=some r):
  (Instr.findKey t v es).run P w=.ok r w:=by
 simp[Instr.findKey,bE h,hf]
theorem qM{t:TypeId}{n:Nat}(h:zL P t=some n):∃d,P.underlying t=some d∧((n=0∧d=.bool)∨(n=1∧∃kk,d=.int kk)∨(n=2∧d=.string)):=by
 rcases BR h with⟨rfl,hu⟩|⟨rfl,kk,hu⟩|⟨rfl,hu⟩
 ·exact⟨_,hu,.inl ⟨rfl,rfl⟩⟩
 ·exact⟨_,hu,.inr (.inl ⟨rfl,kk,rfl⟩)⟩
 ·exact⟨_,hu,.inr (.inr ⟨rfl,rfl⟩)⟩
theorem PR{o:Oper}{t:TypeId}(ho:o.op=.makeMap t none)(hs:SA E C τ ρ H a w)(h:d7 P .mkMap ρ H K):bJ P ((execOp a.eval o).run P w) (gZ E ρ a K):=by
 simp only[d7,dG,Nat.zero_add]at h
 have run:(execOp a.eval o).run P w=.ok (.value (.map (some w.heap.size))) (w.alloc (.map #[] 0)):=by
  simp only[execOp,ho,Option.map_none,Instr.makeMap,Sem.run_bind,Result.andThen_ok,Sem.run_pure,run_newObj_alloc]
 rw[run]
 obtain⟨st,s1⟩:=hs.st.alloc_obj (.map #[] 0) (.map []) 0 trivial fun C' τ' H' w' _ hh=>⟨[],#[],0,.nil,hh,rfl,fun i e kv he=>by simp at he,by simp,by simp,by simp⟩
 exact dO hs h (.mp H.length (.map []) _ (by simp) rfl (bZ _ _ _)) st s1
theorem q0{id:Nat}{u:Value}(hr:bW C w τ H (.mp id) u):∃l,τ id=some l∧u=.map (some l.b):=by
 cases hr with
 |rd hr=>cases hr
 |mp _ o' l ho' hm ht=>exact⟨l,ht,rfl⟩
theorem p7{u:Value}(hr:bW C w τ H .nilm u):u=.map none:=by
 cases hr with
 |rd hr=>cases hr;rfl
theorem gM{b clock:Nat}{es:Array MapEntry}(h:w.heap[b]?=some (.map es clock)):(getObj b).run P w=.ok (.map es clock) w:=by
 simp only[getObj,Sem.run,h]
theorem MW{o:Oper}{t k el:TypeId}{x i:Operand}{x' i':bA}{n:Nat}{zero:a6}{ok:Bool}(ho:o.op=.lookup t x i ok)(hu:P.underlying t=some (.map k el))(hn:zL P k=some n)
  (hz:F6 P el=some zero) (hx:aJ x=some x') (hi:aJ i=some i') (hs:SA E C τ ρ H a w)
  (h:d7 P (.lookupM n zero ok x' i') ρ H K):bJ P ((execOp a.eval o).run P w) (gZ E ρ a K):=by
 simp only[d7,bD]at h
 have hr:=hs.ev hx
 have hri:=hs.ev hi
 obtain⟨d,hd,hdn⟩:=qM hn
 obtain⟨iz,hiz,hzz⟩:∃iz,P.info? el=some iz∧iz.zero.map kH=some zero:=by
  unfold F6 at hz
  split at hz
  ·rename_i iz hiz;exact⟨iz,hiz,hz⟩
  ·cases hz
 obtain⟨z,hz1,rfl⟩:=Option.map_eq_some_iff.1 hzz
 have hzv:(zeroValue el).run P w=.ok z w:=by simp[zeroValue,gQ hiz,hz1]
 have none':(execOp a.eval o).run P w=.ok (.value (if ok then .tuple #[z,.bool false]else z)) w →
   (ok=true→K (.tuple [kH z,.bool false]) H)→(ok=false→K (kH z) H)→bJ P ((execOp a.eval o).run P w) (gZ E ρ a K):=by
  intro run h1 h2
  rw[run]
  cases ok with
  |true =>
   refine aS hs (h1 rfl) (.tuple _ _ rfl fun i c v hc hv=>?_)
   match i,hc,hv with
   |0,hc,hv=>simp at hc hv;subst hc hv;exact lV _
   |1,hc,hv=>simp at hc hv;subst hc hv;exact .rd (.bool _)
   |i+2,hc,hv=>simp at hc
  |false=>exact aS hs (h2 rfl) (lV _)
 have key:∀(id:Nat) (kvs:List (a6×a6)) (l:Loc) (es:Array MapEntry) (clock:Nat),a.eval x=.map (some l.b)→w.heap[l.b]?=some (.map es clock)→es.size=kvs.length →
   (∀(i:Nat) (e:MapEntry) (kv:a6×a6),es[i]?=some e→kvs[i]?=some kv→e.key=kv.1.lit∧bW C w τ H kv.2 e.val)→lP n (ev ρ i') kvs=true →
   (ok=true→P6 (j4 n (ev ρ i') kvs) (K (.tuple [kH z,.bool false]) H) fun e=>K (.tuple [e,.bool true]) H) →
   (ok=false→P6 (j4 n (ev ρ i') kvs) (K (kH z) H) fun e=>K e H)→bJ P ((execOp a.eval o).run P w) (gZ E ρ a K):=by
  intro id kvs l es clock hux hheap hsz hes hok hT hF
  simp only[lP,Bool.and_eq_true]at hok
  have hlit:=t8 hri (fP hok.1)
  have hck:=iY (P:=P) (w:=w) hn hok.1
  rcases FzS hdn es.toList kvs 0 (by simpa using hsz) (fun j e kv he hkv=>(hes j e kv (by simpa using he) hkv).1) hok.2 with⟨h1,h2,_⟩|⟨j,e,kv,h1,h2,h3,h4,h5,_⟩
  ·rw[h1]at hT hF
   refine none' ?_ hT hF
   simp only[execOp,ho,hux,hlit,Instr.lookup,Sem.run_bind,bE hu,Result.andThen_ok,gM hheap,hck,fW hd h2,hzv,Sem.run_pure]
  ·have run:(execOp a.eval o).run P w=.ok (.value (if ok then .tuple #[e.val,.bool true]else e.val)) w:=by
    simp only[execOp,ho,hux,hlit,Instr.lookup,Sem.run_bind,bE hu,Result.andThen_ok,gM hheap,hck,fW hd h4,Sem.run_pure]
   rw[run]
   rw[h3]at hT hF
   have hrel:=(hes j e kv (by simpa using h1) h2).2
   cases ok with
   |true =>
    refine aS hs (hT rfl) (.tuple _ _ rfl fun i c v hc hv=>?_)
    match i,hc,hv with
    |0,hc,hv=>simp at hc hv;subst hc hv;exact hrel
    |1,hc,hv=>simp at hc hv;subst hc hv;exact .rd (.bool _)
    |i+2,hc,hv=>simp at hc
   |false=>exact aS hs (hF rfl) hrel
 split at h
 case h_3=>exact h.elim
 case h_1 hv =>
  rw[hv]at hr
  rw[aG]at h
  obtain⟨hok,h⟩:=h
  simp only[lP,Bool.and_eq_true]at hok
  have hlit:=t8 hri (fP hok.1)
  have hck:=iY (P:=P) (w:=w) hn hok.1
  have hux:=p7 hr
  have h2:Instr.findNow d (ev ρ i').lit (#[]:Array MapEntry).toList 0=some none:=rfl
  refine none' ?_ (fun e=>by subst e;exact h) (fun e=>by subst e;exact h)
  simp only[execOp,ho,hux,hlit,Instr.lookup,Sem.run_bind,bE hu,Result.andThen_ok,Sem.run_pure,hck,fW hd h2,hzv]
 case h_2 id hv =>
  rw[hv]at hr
  simp only[cM,b6]at h
  obtain⟨ob,hob,h⟩:=h
  obtain⟨l,hl,hux⟩:=q0 hr
  split at h
  case h_3=>exact h.elim
  case h_1 kvs =>
   obtain⟨kvs0,es,clock,hp,hheap,hsz,hes,hnd,_⟩:=hs.st.wf.objs id _ l hob hl
   rw[aG]at h
   rw[←uQ hp,←M3 hp hnd]at h
   exact key id kvs0 l es clock hux hheap hsz hes h.1 (fun e=>by subst e;exact h.2) (fun e=>by subst e;exact h.2)
  case h_2 kvs bs ck =>
   obtain⟨es,hheap,hsz,hes,_⟩:=hs.st.wf.objs id _ l hob hl
   rw[aG]at h
   exact key id kvs l es ck hux hheap hsz hes h.1 (fun e=>by subst e;exact h.2) (fun e=>by subst e;exact h.2)
theorem wD{n:Nat}{k:a6}(h:(cF n k k).isSome=true):Instr.sameBits 10000 k.lit k.lit=true:=by
 obtain⟨c,hc⟩:=Option.isSome_iff_exists.1 h
 match n with
 |0=>obtain⟨p,q,rfl,_,_⟩:=sY hc;simp[a6.lit,Instr.sameBits]
 |1=>obtain⟨k,p,q,rfl,_,_⟩:=sZ hc;simp[a6.lit,Instr.sameBits]
 |2=>obtain⟨p,q,rfl,_,_⟩:=t6 hc;simp[a6.lit,Instr.sameBits,oQ]
 |n+3=>unfold cF at hc;simp at hc
theorem List.map_modify_born{f:MapEntry→MapEntry}(hf:∀x,(f x).born=x.born):∀(l:List MapEntry) (j:Nat),(l.modify j f).map MapEntry.born=l.map MapEntry.born
 |[],_=>by simp
 |x::l,0=>by simp[hf]
 |x::l,j+1=>by simp[List.map_modify_born hf l j]
theorem rG{es:Array MapEntry}{j:Nat}{f:MapEntry→MapEntry}(hf:∀x,(f x).born=x.born):(es.modify j f).toList.map MapEntry.born=es.toList.map MapEntry.born:=by
 rw[Array.toList_modify,List.map_modify_born hf]
theorem D1{o:Oper}{t k el:TypeId}{x i y:Operand}{x' i' y':bA}{n:Nat}(ho:o.op=.mapUpdate t x i y∨o.op=.insert t x i y)(hu:P.underlying t=some (.map k el))(hn:zL P k=some n)
  (hx:aJ x=some x') (hi:aJ i=some i') (hy:aJ y=some y') (hs:SA E C τ ρ H a w)
  (h:d7 P (.mapSet n x' i' y') ρ H K):bJ P ((execOp a.eval o).run P w) (gZ E ρ a K):=by
 simp only[d7,bD]at h
 have hr:=hs.ev hx
 have hri:=hs.ev hi
 have hry:=hs.ev hy
 split at h
 case h_2=>exact h.elim
 rename_i id hv
 rw[hv]at hr
 simp only[cM,b6]at h
 obtain⟨ob,hob,h⟩:=h
 split at h
 case h_2=>exact h.elim
 rename_i kvs
 obtain⟨l,hl,hux⟩:=q0 hr
 obtain⟨kvs0,es,clock,hp,hheap,hsz,hes,hnk,hnd,hlt⟩:=hs.st.wf.objs id _ l hob hl
 rw[aG]at h
 obtain⟨hok,h⟩:=h
 rw[←uQ hp]at hok
 simp only[lP,Bool.and_eq_true]at hok
 have hlit:=t8 hri (fP hok.1)
 obtain⟨d,hd,hdn⟩:=qM hn
 have hck:=iY (P:=P) (w:=w) hn hok.1
 simp only[fO]at h
 have hb:=cQ hheap
 have fin:∀(es':Array MapEntry) (clock':Nat) (kvs':List (a6×a6)),qA n (ev ρ i') (ev ρ y') kvs0=kvs'→es'.size=kvs'.length →
   (∀(C':Nat→Nat) (τ':Nat→Option Loc) (H':List aB) (w':World),cU C τ H w C' τ' H' w'→∀(j:Nat) (e:MapEntry) (kv:a6×a6),es'[j]?=some e→kvs'[j]?=some kv→e.key=kv.1.lit∧bW C' w' τ' H' kv.2 e.val) →
   (es'.toList.map MapEntry.born).Nodup→(∀e∈es'.toList,e.born<clock') →
   (execOp a.eval o).run P w=.ok .skip ({ w with heap:=w.heap.setIfInBounds l.b (.map es' clock') }:World) →
   bJ P ((execOp a.eval o).run P w) (gZ E ρ a K):=by
  intro es' clock' kvs' hkv hsz' hes' hnd' hlt' run
  rw[run]
  have hp':kvs'.Perm (qA n (ev ρ i') (ev ρ y') kvs):=by rw[←hkv];exact P0 hp hnk hok.2
  have hnk':(kvs'.map fun kv=>kv.1.lit).Nodup:=by rw[←hkv];exact M4 hnk hok.2
  generalize hw':({ w with heap:=w.heap.setIfInBounds l.b (.map es' clock') }:World)=w'
  obtain⟨st,s1⟩:=hs.st.set_obj (w':=w') (o':=.map (qA n (ev ρ i') (ev ρ y') kvs)) hob hl (fun b hne=>by
   rw[←hw'];simp only[];rw[Array.getElem?_setIfInBounds_ne (fun e=>hne e.symm)]) (by rw[←hw'];simp) (by rw[←hw']) (by rw[←hw']) (by rw[←hw']) (by rw[←hw']) rfl trivial fun C' τ' H' s=>by
    refine⟨kvs',es',clock',hp',?_,hsz',hes' _ _ _ _ s,hnk',hnd',hlt'⟩
    rw[←hw']
    simp only[]
    rw[Array.getElem?_setIfInBounds_self_of_lt hb]
  exact dO hs h (.tuple _ _ rfl fun i c v h=>by simp at h) st s1
 have hset:∀(ob:Obj),(setObj l.b ob).run P w=.ok () ({ w with heap:=w.heap.setIfInBounds l.b ob }:World):=fun ob=>by
  simp only[setObj,Sem.run,hheap]
 rcases FzS hdn es.toList kvs0 0 (by simpa using hsz) (fun j e kv he hkv=>(hes j e kv (by simpa using he) hkv).1) hok.2 with⟨h1,h2,h3⟩|⟨j,e,kv,h1,h2,h3,h4,h5,h6⟩
 ·refine fin (es.push { key:=a.eval i,val:=a.eval y,born:=clock }) (clock+1) _ (h3 _) (by simp[hsz]) (fun C' τ' H' w' s j e kv he hkv=>?_) ?_ ?_ ?_
  ·rw[Array.getElem?_push]at he
   by_cases hj:j=es.size
   ·subst hj
    rw[if_pos rfl]at he
    rw[List.getElem?_append_right (by omega),hsz]at hkv
    simp at he hkv
    subst he hkv
    exact⟨hlit,hry.mono s⟩
   ·rw[if_neg hj]at he
    have:=(Array.getElem?_eq_some_iff.1 he).1
    rw[List.getElem?_append_left (by omega)]at hkv
    exact⟨(hes j e kv he hkv).1,(hes j e kv he hkv).2.mono s⟩
  ·simp only[Array.toList_push,List.map_append,List.map_cons,List.map_nil]
   rw[List.nodup_append]
   refine⟨hnd,by simp,fun x hx y hy=>?_⟩
   obtain⟨e,he,rfl⟩:=List.mem_map.1 hx
   have:=hlt e he
   simp at hy;omega
  ·intro e he
   simp only[Array.toList_push,List.mem_append,List.mem_singleton]at he
   rcases he with he|rfl
   ·have:=hlt e he;omega
   ·simp
  ·rcases ho with ho|ho <;>
   simp only[execOp,ho,hux,hlit,Instr.mapUpdate,Sem.run_bind,bE hu,Result.andThen_ok,gM hheap,hck,fW hd h2,hset,Sem.run_pure]
 ·have hj:es[j]?=some e:=by simpa using h1
  have hkey:e.key=(ev ρ i').lit:=by rw[(hes j e kv hj h2).1,fQ h5]
  have hjl:=(Array.getElem?_eq_some_iff.1 hj).1
  refine fin (es.modify j fun x=>{ x with key:=a.eval i,val:=a.eval y }) clock _ (h6 _) (by simp[hsz]) (fun C' τ' H' w' s m x kv' he hkv=>?_) ?_ ?_ ?_
  ·rw[Array.getElem?_modify]at he
   rw[List.getElem?_set]at hkv
   by_cases hm:j=m
   ·subst hm
    rw[if_pos rfl,hj]at he
    rw[if_pos rfl,if_pos (by omega)]at hkv
    simp at he hkv
    subst he hkv
    exact⟨by simp only[];rw[hlit,fQ h5],hry.mono s⟩
   ·rw[if_neg hm]at he hkv
    exact⟨(hes m x kv' he hkv).1,(hes m x kv' he hkv).2.mono s⟩
  ·rw[rG (f:=fun x=>{ x with key:=a.eval i,val:=a.eval y }) fun x=>rfl];exact hnd
  ·intro y1 hy1
   have hm:y1.born∈(es.modify j fun x=>{ x with key:=a.eval i,val:=a.eval y }).toList.map MapEntry.born:=List.mem_map.2 ⟨y1,hy1,rfl⟩
   rw[rG (f:=fun x=>{ x with key:=a.eval i,val:=a.eval y }) fun x=>rfl]at hm
   obtain⟨z,hz,e⟩:=List.mem_map.1 hm
   rw[←e];exact hlt z hz
  ·have hks:(Instr.keyThatStays (((es[j]?).map (·.key)).getD (ev ρ i').lit) (ev ρ i').lit).run P w=.ok (ev ρ i').lit w:=by
    rw[hj]
    simp only[Option.map_some,Option.getD_some,hkey]
    unfold Instr.keyThatStays
    rw[wD hok.1]
    rfl
   rcases ho with ho|ho <;>
   simp only[execOp,ho,hux,hlit,Instr.mapUpdate,Sem.run_bind,bE hu,Result.andThen_ok,gM hheap,hck,fW hd h4,hks,hset,Sem.run_pure,Nat.zero_add]
theorem Rd.recap{x:Bool}{sz:Nat}{es:List (List a6)}{ad:Option Addr}{cap:Nat}(h:bW C w τ H (.list x sz es) (.slice ad es.length cap)):bW C w τ H (.list true sz es) (.slice ad es.length es.length):=by
 cases h with
 |rd h =>
  cases h with
  |list0=>exact .rd (.list0 _ _ _ _ fun _=>rfl)
  |list _ _ _ b off cap vs hx hcap hsz hC hcell hp hrd=>exact .rd (.list _ _ _ b off _ vs (fun _=>rfl) (Nat.le_refl _) hsz hC hcell hp hrd)
theorem MZ{o:Oper}{t el:TypeId}{x h m:Operand}{x' h' m':bA}{n:Nat}(ho:o.op=.slice t x none (some h) (some m))(hx:aJ x=some x')(hh:aJ h=some h')(hm:aJ m=some m')
  (hu:P.underlying t=some (.slice el)) (hsz:dF P el=some n) (hs:SA E C τ ρ H a w) (hop:d7 P (.slice3 n x' h' m') ρ H K):bJ P ((execOp a.eval o).run P w) (gZ E ρ a K):=by
 simp only[d7,bD]at hop
 have hr:=hs.ev hx
 have hrh:=hs.ev hh
 have hrm:=hs.ev hm
 have bnd:∀(k:IntKind) (n:Int) (m:Nat) (code:BoundsCode),0≤n→n≤m→(Instr.sliceBound (.int k n) m code).run P w=.ok n.toNat w:=by
  intro k n m code h0 h1
  simp[Instr.sliceBound,asIntOf,h0,h1]
 split at hop
 case h_2=>exact hop.elim
 rename_i ki i kj j ei ej
 rw[ei]at hrh
 rw[ej]at hrm
 have run:∀ad len cap,a.eval x=.slice ad len cap→i=j→0≤i→i≤cap →
   (execOp a.eval o).run P w=.ok (.value (.slice (if i.toNat=0 then ad else ad.map (·.add (0*n))) (i.toNat-0) (i.toNat-0))) w:=by
  intro ad len cap e hij h0 hc
  subst hij
  have hb:(Instr.sliceBounds true len cap none (some (a.eval h)) (some (a.eval m))).run P w=.ok (0,i.toNat,i.toNat) w:=by
   simp only[Instr.sliceBounds,hrh.int_inv,hrm.int_inv,Sem.run_bind,Sem.run_pure,Result.andThen_ok,bnd kj i cap _ h0 hc,bnd ki i i.toNat _ h0 (by omega)]
  simp only[execOp,ho,e,Option.map_none,Option.map_some,Instr.sliceAt,Instr.slice,Sem.run_bind,bE hu,Result.andThen_ok,hb,eP hsz,Sem.run_pure]
 split at hop
 case h_4=>exact hop.elim
 case h_3 id ep off len hv =>
  rw[hv]at hr
  simp only[cM,b6]at hop
  obtain⟨ob,hob,hop⟩:=hop
  split at hop
  case h_2=>exact hop.elim
  rename_i s es
  simp only[aG,Nat.beq_eq,eN]at hop
  obtain⟨rfl,hep,⟨hij,h0,hle⟩,hk⟩:=hop
  obtain⟨ad,cap,e,hl1,hl2,hl3⟩:=hr.sl_inv hob hep
  rw[run _ _ _ e hij h0 (by omega)]
  simp only[Nat.sub_zero]
  by_cases hz:0<i
  ·rw[decide_eq_true hz]at hk
   have hz2:¬i.toNat=0:=by omega
   rw[if_neg hz2]
   rcases hl3 with⟨_,hc⟩|⟨l,hl,hlc,hla⟩
   ·omega
   ·rcases hla with hc|rfl
    ·omega
    ·refine aS hs hk (.slc id ep off i.toNat i.toNat _ s es hob (by omega) fun _=>⟨by omega,Nat.le_refl _,l,hl,.inr ?_⟩)
     simp[Addr.add]
  ·rw[decide_eq_false hz]at hk
   have hz2:i.toNat=0:=by omega
   rw[if_pos hz2,hz2]
   exact aS hs hk (.rd (.list0 _ _ _ _ fun _=>rfl))
 case h_1 hv =>
  rw[hv]at hr
  obtain⟨⟨rfl,rfl⟩,hk⟩:=hop
  rw[run _ _ _ hr.nil_inv rfl (Int.le_refl _) (by simp)]
  exact aS hs hk (.rd .nil)
 case h_2 ex s es hv =>
  rw[hv]at hr
  simp only[aG,Nat.beq_eq]at hop
  obtain⟨rfl,⟨hij,h0,hle⟩,hk⟩:=hop
  obtain⟨ad,cap,e,hcap,_⟩:=hr.list_inv
  rw[e]at hr
  rw[run _ _ _ e hij h0 (by omega)]
  have h1:=Rd.subslice hr (Nat.zero_le i.toNat) (by omega) false (fun e=>by cases e)
  simp only[List.drop_zero,Nat.sub_zero]at h1 ⊢
  have hl:(es.take i.toNat).length=i.toNat:=by simp;omega
  refine aS hs hk ?_
  by_cases hz:i.toNat=0
  ·rw[if_pos hz,hz]
   exact .rd (.list0 _ _ _ _ fun _=>rfl)
  ·have hc0:¬cap=0:=by omega
   rw[if_neg hz]
   rw[if_neg hc0]at h1
   have h2:=Rd.recap (cap:=cap) (by rw[hl];exact h1)
   rw[hl]at h2
   exact h2
theorem K7{o:Oper}{t e:TypeId}{x i:Operand}{x' i':bA}{n s:Nat}(ho:o.op=.indexAddr t x i)(hx:aJ x=some x')(hi:aJ i=some i')(hu:P.underlying t=some (.array n e))
  (hsz:dF P e=some s) (hs:SA E C τ ρ H a w) (h:d7 P (.arrAddr s n x' i') ρ H K):bJ P ((execOp a.eval o).run P w) (gZ E ρ a K):=by
 simp only[d7,bD]at h
 have hr:=hs.ev hx
 have hri:=hs.ev hi
 split at h
 case h_2=>exact h.elim
 rename_i k m hm
 rw[hm]at hri
 have em:=hri.int_inv
 have run:∀ad:Addr,a.eval x=.pointer (some ad)→0≤m→m<n→(execOp a.eval o).run P w=.ok (.value (.pointer (some (ad.add (m.toNat*s))))) w:=by
  intro ad e1 h0 h1
  simp only[execOp,ho,e1,em,Instr.indexAt,Instr.sureAddr,asIntOf,Sem.run_bind,bE hu,Result.andThen_ok,Sem.run_pure,if_pos (And.intro h0 h1),eP hsz]
 split at h
 case h_3=>exact h.elim
 case h_1 id ep idx fld hv =>
  rw[hv]at hr
  obtain⟨⟨h0,h1⟩,hk⟩:=h
  generalize hz:a.eval x=z at hr
  cases hr with
  |rd hr=>cases hr
  |ptr _ _ _ _ ad esz es g1 g2 g3 =>
   rw[run _ hz h0 h1]
   refine aS hs hk (.ptr _ _ _ _ _ _ _ g1 g2 fun hep=>?_)
   obtain⟨l,h4,rfl⟩:=g3 hep
   exact⟨l,h4,by rw[gH,Nat.add_assoc]⟩
 case h_2 e fld hv =>
  rw[hv]at hr
  obtain⟨⟨h0,h1⟩,hk⟩:=h
  generalize hz:a.eval x=z at hr
  cases hr with
  |rd hr =>
   cases hr with
   |cptr _ _ b off vs hC hcell hp hrd =>
    rw[run _ hz h0 h1]
    refine aS hs hk (.rd ?_)
    rw[gH,Nat.add_assoc]
    exact .cptr _ _ b off vs hC hcell hp hrd
theorem II(hs:SA E C τ ρ H a w){s:Nat}:∀(ps:List (Nat×Operand)) (qs:List (Nat×Nat×bA)) (cs:List a6) (cells:Array Value) (Kf:List a6→Prop),
  sV s ps=some qs→cs.length=cells.size→(∀(i:Nat) (c:a6) (v:Value),cs[i]?=some c→cells[i]?=some v→bW C w τ H c v)→vW ρ qs cs Kf →
  ∃cs' cells',Instr.fill (fun i=>some (i*s,s)) cells (ps.map fun p=>(p.1,a.eval p.2))=some cells'∧cs'.length=cells'.size∧(∀(i:Nat) (c:a6) (v:Value),cs'[i]?=some c→cells'[i]?=some v→bW C w τ H c v)∧Kf cs'
 |[],qs,cs,cells,Kf,hc,hl,hr,h=>by
  simp only[sV,Option.some.injEq]at hc;subst hc
  exact⟨cs,cells,rfl,hl,hr,h⟩
 |(i,x)::ps,qs,cs,cells,Kf,hc,hl,hr,h=>by
  simp only[sV,Option.bind_eq_bind,Option.bind_eq_some_iff,Option.pure_def,Option.some.injEq]at hc
  obtain⟨y,hy,qs',hq,rfl⟩:=hc
  simp only[pR,bD]at h
  have hrx:=hs.ev hy
  split at h
  case h_2=>exact h.elim
  rename_i u hu
  simp only[aG,Bool.and_eq_true,decide_eq_true_eq]at h
  obtain⟨⟨hus,hfit⟩,h⟩:=h
  obtain⟨c1,c2⟩:=hrx.cells hu
  have hfold:=wZ (a.eval x).cells cells (i*s)
  obtain⟨cs',cells',e1,e2,e3,e4⟩:=II hs ps qs' (fT cs (i*s) u) ((a.eval x).cells.zipIdx.foldl (fun cs (c,j)=>cs.setIfInBounds (i*s+j) c) cells) Kf hq (by rw[i3,hfold,uM];exact hl) (fun m c v hm hv=>by
   rw[putCells_getElem? u cs (i*s) (by omega)]at hm
   rw[hfold,xA _ _ _ _ (by simp;omega)]at hv
   simp only[Array.length_toList,Nat.add_zero]at hv
   by_cases hin:i*s≤m∧m<i*s+u.length
   ·rw[if_pos hin]at hm
    rw[if_pos (by omega)]at hv
    rw[Array.getElem?_toList]at hv
    exact c2 _ c v hm hv
   ·rw[if_neg hin]at hm
    rw[if_neg (by omega)]at hv
    exact hr m c v hm hv) h
  refine⟨cs',cells',?_,e2,e3,e4⟩
  have hcond:(decide ((a.eval x).cells.size≠s)||decide (i*s+(a.eval x).cells.size>cells.size))=false:=by
   simp only[Bool.or_eq_false_iff,decide_eq_false_iff_not];omega
  simp only[List.map_cons,Instr.fill,hcond,Bool.false_eq_true,if_false,e1]
theorem MP{o:Oper}{t e:TypeId}{n s:Nat}{parts:Array (Nat×Operand)}{zero:List a6}{qs:List (Nat×Nat×bA)}(ho:o.op=.build t parts)(hu:P.underlying t=some (.array n e))(hz:jF P t=some zero)
  (hsz:dF P e=some s) (hq:sV s parts.toList=some qs) (hs:SA E C τ ρ H a w) (h:d7 P (.build zero qs) ρ H K):bJ P ((execOp a.eval o).run P w) (gZ E ρ a K):=by
 simp only[d7]at h
 obtain⟨i,z,hi,hz1,hzs,hzi,hzr⟩:=pI (C:=C) (w:=w) (τ:=τ) (H:=H) hz
 obtain⟨cs',cells',e1,e2,e3,hk⟩:=II hs parts.toList qs zero z.cells _ hq hzs hzr h
 have hk:=gS hk
 have hfill:Instr.fill (fun i=>some (i*s,s)) z.cells ((parts.map fun(i,x)=>(i,a.eval x)).toList)=some cells':=by
  rw[Array.toList_map]
  exact e1
 have run:(execOp a.eval o).run P w=.ok (.value (.agg cells')) w:=by
  simp only[execOp,ho,Instr.build,Sem.run_bind,zeroValue,gQ hi,Result.andThen_ok,hz1,Sem.run_pure,bE hu,eP hsz,hfill]
 rw[run]
 exact aS hs hk (.agg _ _ e2 e3)
end
section
variable {P:Program}{E:tT}{C:Nat→Nat}{τ:Nat→Option Loc}{ρ:List a6}{H:List aB}{a:Act}{w:World}{K:a6→List aB→Prop}
theorem WF.map(hw:WF C τ H w){id:Nat}{kvs:List (a6×a6)}{l:Loc}(ho:H[id]?=some (.map kvs)∨∃bs ck,H[id]?=some (.bmap kvs bs ck))(hl:τ id=some l):
  ∃es clock,w.heap[l.b]?=some (.map es clock)∧es.size=kvs.length:=by
 rcases ho with ho|⟨bs,ck,ho⟩
 ·obtain⟨kvs0,es,clock,hp,h1,h2,_⟩:=hw.objs id _ l ho hl
  exact⟨es,clock,h1,by rw[h2,hp.length_eq]⟩
 ·obtain⟨es,h1,h2,_⟩:=hw.objs id _ l ho hl
  exact⟨es,ck,h1,h2⟩
theorem SR{o:Oper}{t k el:TypeId}{x:Operand}{x':bA}(hop:o.op=.call { callee:=.builtin .len,args:=#[x],argTypes:=#[t] })(hx:aJ x=some x')
  (hu:P.underlying t=some (.map k el)) (hs:SA E C τ ρ H a w) (h:d7 P (.lenM x') ρ H K):bJ P ((execOp a.eval o).run P w) (gZ E ρ a K):=by
 simp only[d7,bD]at h
 have hr:=hs.ev hx
 split at h
 case h_3=>exact h.elim
 case h_1 hv =>
  rw[hv]at hr
  have:(execOp a.eval o).run P w=.ok (.value (.int .i64 0)) w:=by
   simp[execOp,hop,resolve,invoke,builtin,Builtin.len_,p7 hr,bE hu,goInt]
  rw[this]
  exact aS hs h (.rd (.int _ _))
 case h_2 id hv =>
  rw[hv]at hr
  simp only[cM,b6]at h
  obtain⟨ob,hob,h⟩:=h
  obtain⟨l,hl,hux⟩:=q0 hr
  have fin:∀(kvs:List (a6×a6)),(H[id]?=some (.map kvs)∨∃bs ck,H[id]?=some (.bmap kvs bs ck))→K (.int .i64 kvs.length) H→bJ P ((execOp a.eval o).run P w) (gZ E ρ a K):=by
   intro kvs ho hk
   obtain⟨es,clock,h1,h2⟩:=hs.st.wf.map ho hl
   have:(execOp a.eval o).run P w=.ok (.value (.int .i64 kvs.length)) w:=by
    simp[execOp,hop,resolve,invoke,builtin,Builtin.len_,hux,bE hu,goInt,gM h1,h2]
   rw[this]
   exact aS hs hk (.rd (.int _ _))
  split at h
  case h_3=>exact h.elim
  case h_1 kvs=>exact fin kvs (.inl hob) h
  case h_2 kvs bs ck=>exact fin kvs (.inr ⟨bs,ck,hob⟩) h
theorem MJ{op:BinOp}{t k el:TypeId}{p:Option Nat}(hd:P.underlying t=some (.map k el))(hop:op=.eql∨op=.neq):
  (binOp op t (.map p) (.map none)).run P w=.ok (.bool (if decide (op=.neq)then !p.isNone else p.isNone)) w:=by
 have:(Op.equal t (.map p) (.map none)).run P w=.ok p.isNone w:=by
  show(Op.equalIn (9999+1) t (.map p) (.map none)).run P w=_
  rw[Op.equalIn]
  cases p<;>simp only[Sem.run_bind,bE hd,Result.andThen_ok,Sem.run_pure,Option.isNone_none,Option.isNone_some]
 rcases hop with rfl|rfl<;>simp[binOp,this]
theorem MU{o:Oper}{op:BinOp}{t u k el:TypeId}{x y:Operand}{x':bA}(ho:o.op=.binOp op t x y u)(hx:aJ x=some x')(hy:A3 y=true)(hd:P.underlying t=some (.map k el))(hop:op=.eql∨op=.neq)
  (hs:SA E C τ ρ H a w) (h:d7 P (.isNilM (decide (op=.neq)) x') ρ H K):bJ P ((execOp a.eval o).run P w) (gZ E ρ a K):=by
 simp only[d7,bD]at h
 have hr:=hs.ev hx
 have hyn:y=.const (.map none):=by
  unfold A3 at hy
  split at hy
  ·rfl
  ·cases hy
 subst hyn
 have run:∀p,a.eval x=.map p→(execOp a.eval o).run P w=.ok (.value (.bool (if decide (op=.neq)then !p.isNone else p.isNone))) w:=by
  intro p e
  have e0:a.eval (.const (.map none))=.map none:=rfl
  simp only[execOp,ho,e,e0,Sem.run_bind,jU (v:=.map _) rfl (by simp),Result.andThen_ok,MJ hd hop,Sem.run_pure]
 split at h
 case h_3=>exact h.elim
 case h_1 hv =>
  rw[hv]at hr
  rw[run _ (p7 hr)]
  rcases hop with rfl|rfl<;>exact aS hs h (.rd (.bool _))
 case h_2 id hv =>
  rw[hv]at hr
  obtain⟨l,hl,hux⟩:=q0 hr
  rw[run _ hux]
  rcases hop with rfl|rfl<;>exact aS hs h (.rd (.bool _))
theorem MK{op:BinOp}{t e:TypeId}{p:Option Addr}(hd:P.underlying t=some (.pointer e))(hop:op=.eql∨op=.neq):
  (binOp op t (.pointer p) (.pointer none)).run P w=.ok (.bool (if decide (op=.neq)then !p.isNone else p.isNone)) w:=by
 have:(Op.equal t (.pointer p) (.pointer none)).run P w=.ok p.isNone w:=by
  show(Op.equalIn (9999+1) t (.pointer p) (.pointer none)).run P w=_
  rw[Op.equalIn]
  cases p<;>simp only[Sem.run_bind,bE hd,Result.andThen_ok,Sem.run_pure,Option.isNone_none,Option.isNone_some]
 rcases hop with rfl|rfl<;>simp[binOp,this]
theorem MV{o:Oper}{op:BinOp}{t u e:TypeId}{x y:Operand}{x':bA}(ho:o.op=.binOp op t x y u)(hx:aJ x=some x')(hy:A4 y=true)(hd:P.underlying t=some (.pointer e))(hop:op=.eql∨op=.neq)
  (hs:SA E C τ ρ H a w) (h:d7 P (.isNilP (decide (op=.neq)) x') ρ H K):bJ P ((execOp a.eval o).run P w) (gZ E ρ a K):=by
 simp only[d7,bD]at h
 have hr:=hs.ev hx
 have hyn:y=.const (.pointer none):=by
  unfold A4 at hy
  split at hy
  ·rfl
  ·cases hy
 subst hyn
 have run:∀p,a.eval x=.pointer p→(execOp a.eval o).run P w=.ok (.value (.bool (if decide (op=.neq)then !p.isNone else p.isNone))) w:=by
  intro p e
  have e0:a.eval (.const (.pointer none))=.pointer none:=rfl
  simp only[execOp,ho,e,e0,Sem.run_bind,jU (v:=.pointer _) rfl (by simp),Result.andThen_ok,MK hd hop,Sem.run_pure]
 split at h
 case h_4=>exact h.elim
 case h_1 hv =>
  rw[hv]at hr
  have hux:a.eval x=.pointer none:=by
   generalize a.eval x=z at hr
   cases hr with
   |rd hr=>cases hr;rfl
  rw[run _ hux]
  rcases hop with rfl|rfl<;>exact aS hs h (.rd (.bool _))
 case h_2 hv =>
  rw[hv]at hr
  obtain⟨ad,hux⟩:∃ad,a.eval x=.pointer (some ad):=by
   generalize a.eval x=z at hr
   cases hr with
   |rd hr=>cases hr
   |ptr=>exact⟨_,rfl⟩
  rw[run _ hux]
  rcases hop with rfl|rfl<;>exact aS hs h (.rd (.bool _))
 case h_3 hv =>
  rw[hv]at hr
  obtain⟨ad,hux⟩:∃ad,a.eval x=.pointer (some ad):=by
   generalize a.eval x=z at hr
   cases hr with
   |rd hr=>cases hr;exact⟨_,rfl⟩
  rw[run _ hux]
  rcases hop with rfl|rfl<;>exact aS hs h (.rd (.bool _))
theorem BC{d:TypeDesc}{n:Nat}(hd:(n=0∧d=.bool)∨(n=1∧∃kk,d=.int kk)∨(n=2∧d=.string)){k:a6}:
  ∀(es:List MapEntry) (kvs:List (a6×a6)) (i:Nat),es.length=kvs.length→(∀(j:Nat) (e:MapEntry) (kv:a6×a6),es[j]?=some e→kvs[j]?=some kv→e.key=kv.1.lit) →
   (kvs.all fun kv=>(cF n k kv.1).isSome)=true →
   (DI n k kvs=none∧pX n k kvs=kvs∧Instr.findNow d k.lit es i=some none) ∨
   ∃j e kv,es[j]?=some e∧kvs[j]?=some kv∧DI n k kvs=some j∧pX n k kvs=kvs.eraseIdx j∧Instr.findNow d k.lit es i=some (some (i+j,e.val))∧cF n k kv.1=some true
 |[],[],i,_,_,_=>.inl ⟨rfl,rfl,rfl⟩
 |[],_::_,_,h,_,_=>by simp at h
 |_::_,[],_,h,_,_=>by simp at h
 |e::es,kv::kvs,i,hl,hk,hs=>by
  simp only[List.all_cons,Bool.and_eq_true]at hs
  obtain⟨b,hb⟩:=Option.isSome_iff_exists.1 hs.1
  have hkey:=hk 0 e kv rfl rfl
  have hsn:=CT hd hb
  cases b with
  |true =>
   refine .inr ⟨0,e,kv,rfl,rfl,?_,?_,?_,hb⟩
   ·simp only[DI,hb]
   ·simp only[pX,hb,List.eraseIdx_zero,List.tail_cons]
   ·simp only[Instr.findNow,hkey,hsn,Nat.add_zero]
  |false =>
   rcases BC hd es kvs (i+1) (by simpa using hl) (fun j x y hx hy=>hk (j+1) x y hx hy) hs.2 with⟨h1,h2,h3⟩|⟨j,x,y,h1,h2,h3,h4,h5,h6⟩
   ·refine .inl ⟨?_,?_,?_⟩
    ·simp only[DI,hb,h1,Option.map_none]
    ·simp only[pX,hb,h2]
    ·simp only[Instr.findNow,hkey,hsn,h3]
   ·refine .inr ⟨j+1,x,y,h1,h2,?_,?_,?_,h6⟩
    ·simp only[DI,hb,h3,Option.map_some]
    ·simp only[pX,hb,h4,List.eraseIdx_cons_succ]
    ·simp only[Instr.findNow,hkey,hsn,h5];rw[show i+1+j=i+(j+1)from by omega]
theorem A6{n:Nat}{k:a6}:∀{l:List (a6×a6)},(l.map fun kv=>kv.1.lit).Nodup→pX n k l=mD n k l
 |[],_=>rfl
 |kv::l,hn=>by
  rw[List.map_cons,List.nodup_cons]at hn
  by_cases h:cF n k kv.1=some true
  ·have e:mD n k (kv::l)=mD n k l:=by unfold mD;rw[List.filter_cons,if_neg (by simp[h])]
   rw[e,BX fun x hx h1=>hn.1 (List.mem_map.2 ⟨x,hx,by rw[←fQ h,fQ h1]⟩)]
   simp only[pX,h]
  ·have e:pX n k (kv::l)=kv::pX n k l:=by
    rw[pX]
    split
    ·rename_i h2;exact absurd h2 h
    ·rfl
   have e2:mD n k (kv::l)=kv::mD n k l:=by unfold mD;rw[List.filter_cons,if_pos (by simpa using h)]
   rw[e,e2,A6 hn.2]
theorem OZ{n:Nat}{k:a6}{a b:List (a6×a6)}(h:a.Perm b)(hn:(a.map fun kv=>kv.1.lit).Nodup):(pX n k a).Perm (pX n k b):=by
 rw[A6 hn,A6 ((h.map _).nodup_iff.1 hn)]
 exact h.filter _
theorem M2{n:Nat}{k:a6}{a:List (a6×a6)}(hn:(a.map fun kv=>kv.1.lit).Nodup):((pX n k a).map fun kv=>kv.1.lit).Nodup:=by
 rw[A6 hn]
 exact hn.sublist ((List.filter_sublist ..).map _)
theorem List.map_eraseIdx_born:∀(l:List MapEntry) (j:Nat),(l.eraseIdx j).map MapEntry.born=(l.map MapEntry.born).eraseIdx j
 |[],_=>by simp
 |_::_,0=>by simp
 |x::l,j+1=>by simp[List.map_eraseIdx_born l j]
theorem lW{b:Nat}{ob:Obj}(hb:b<w.heap.size):(ChangeMaps.setBlock w b ob).heap[b]?=some ob:=by
 simp only[ChangeMaps.setBlock]
 rw[Array.getElem?_setIfInBounds_self_of_lt hb]
theorem St.setb{w0:World}{Pr:Nat→Prop}(hs:St w0 Pr C τ H w){id:Nat}{o o':aB}{l:Loc}{ob:Obj}(hob:H[id]?=some o)(hl:τ id=some l)(haft:o.after o' (some l) (some l))(hok:o'.ok)
  (hat:∀(C':Nat→Nat) (τ':Nat→Option Loc) (H':List aB),cU C τ H w C' τ' H' (ChangeMaps.setBlock w l.b ob)→nH C' (ChangeMaps.setBlock w l.b ob) τ' H' l o') :
  St w0 Pr C τ (H.set id o') (ChangeMaps.setBlock w l.b ob)∧cU C τ H w C τ (H.set id o') (ChangeMaps.setBlock w l.b ob) :=
 hs.set_obj hob hl (fun b hne=>by simp only[ChangeMaps.setBlock];rw[Array.getElem?_setIfInBounds_ne (fun e=>hne e.symm)]) (by simp[ChangeMaps.setBlock]) rfl rfl rfl rfl haft hok hat
theorem St.see{w0:World}{Pr:Nat→Prop}(hs:St w0 Pr C τ H w){id:Nat}{o o':aB}{l:Loc}(hob:H[id]?=some o)(hl:τ id=some l)(haft:o.after o' (some l) (some l))(hok:o'.ok)
  (hat:∀(C':Nat→Nat) (τ':Nat→Option Loc) (H':List aB),cU C τ H w C' τ' H' w→nH C' w τ' H' l o') :
  St w0 Pr C τ (H.set id o') w∧cU C τ H w C τ (H.set id o') w :=
 hs.set_obj hob hl (fun _ _=>rfl) rfl rfl rfl rfl rfl haft hok hat
theorem St.reveal{w0:World}{Pr:Nat→Prop}(hs:St w0 Pr C τ H w){id:Nat}{kvs:List (a6×a6)}{l:Loc}(hob:H[id]?=some (.map kvs))(hl:τ id=some l):
  ∃(kvs0:List (a6×a6)) (bs:List Nat) (ck:Nat) (es:Array MapEntry),kvs0.Perm kvs∧bs.length=kvs0.length∧bs.Nodup∧(∀b∈bs,b<ck)∧w.heap[l.b]?=some (.map es ck) ∧
   St w0 Pr C τ (H.set id (.bmap kvs0 bs ck)) w∧cU C τ H w C τ (H.set id (.bmap kvs0 bs ck)) w:=by
 obtain⟨kvs0,es,ck,hp,h1,h2,h3,hn,h4,h5⟩:=hs.wf.objs id _ l hob hl
 obtain⟨st,s1⟩:=hs.see (o':=.bmap kvs0 (es.toList.map MapEntry.born) ck) hob hl rfl trivial fun C' τ' H' s =>
  ⟨es,h1,h2,fun i e kv he hkv=>⟨(h3 i e kv he hkv).1,(h3 i e kv he hkv).2.mono s⟩,hn,rfl,h4,fun b hb=>by
   obtain⟨e,he,rfl⟩:=List.mem_map.1 hb
   exact h5 e he⟩
 exact⟨kvs0,es.toList.map MapEntry.born,ck,es,hp,by simp[h2],h4,fun b hb=>by
  obtain⟨e,he,rfl⟩:=List.mem_map.1 hb
  exact h5 e he,h1,st,s1⟩
theorem K9{o:Oper}{t k el:TypeId}{tys:List TypeId}{x i:Operand}{x' i':bA}{n:Nat}(hop:o.op=.call { callee:=.builtin .delete,args:=#[x,i],argTypes:=⟨t::tys⟩ })(hu:P.underlying t=some (.map k el))(hn:zL P k=some n)
  (hx:aJ x=some x') (hi:aJ i=some i') (hs:SA E C τ ρ H a w) (h:d7 P (.deleteM n x' i') ρ H K):bJ P ((execOp a.eval o).run P w) (gZ E ρ a K):=by
 simp only[d7,bD]at h
 have hr:=hs.ev hx
 have hri:=hs.ev hi
 obtain⟨d,hd,hdn⟩:=qM hn
 split at h
 case h_3=>exact h.elim
 case h_1 hv =>
  rw[hv]at hr
  rw[aG]at h
  obtain⟨hok,h⟩:=h
  simp only[lP,Bool.and_eq_true]at hok
  have hlit:=t8 hri (fP hok.1)
  have hck:=iY (P:=P) (w:=w) hn hok.1
  have hux:=p7 hr
  have:(execOp a.eval o).run P w=.ok (.value (.tuple #[])) w:=by
   simp[execOp,hop,resolve,invoke,builtin,Builtin.delete_,hux,hlit,bE hu,hck]
  rw[this]
  exact aS hs h (.tuple _ _ rfl fun i c v h=>by simp at h)
 case h_2 id hv =>
  rw[hv]at hr
  simp only[cM,b6]at h
  obtain⟨ob,hob,h⟩:=h
  obtain⟨l,hl,hux⟩:=q0 hr
  split at h
  case h_2=>exact h.elim
  rename_i kvs
  rw[aG]at h
  obtain⟨hok,h⟩:=h
  obtain⟨kvs0,es,clock,hp,hheap,hsz,hes,hnk,hnd,hlt⟩:=hs.st.wf.objs id _ l hob hl
  rw[←uQ hp]at hok
  simp only[lP,Bool.and_eq_true]at hok
  simp only[fO]at h
  have hlit:=t8 hri (fP hok.1)
  have hck:=iY (P:=P) (w:=w) hn hok.1
  have hb:=cQ hheap
  have hset:∀(ob:Obj),(setObj l.b ob).run P w=.ok () (ChangeMaps.setBlock w l.b ob):=fun ob=>by
   simp only[setObj,Sem.run,hheap];rfl
  have fin:∀(es':Array MapEntry),es'.size=(pX n (ev ρ i') kvs0).length →
    (∀(j:Nat) (e:MapEntry) (kv:a6×a6),es'[j]?=some e→(pX n (ev ρ i') kvs0)[j]?=some kv→e.key=kv.1.lit∧bW C w τ H kv.2 e.val) →
    (es'.toList.map MapEntry.born).Nodup→(∀e∈es'.toList,e.born<clock) →
    (execOp a.eval o).run P w=.ok (.value (.tuple #[])) (ChangeMaps.setBlock w l.b (.map es' clock))→bJ P ((execOp a.eval o).run P w) (gZ E ρ a K):=by
   intro es' h1 h2 h3 h4 run
   rw[run]
   obtain⟨st,s1⟩:=hs.st.setb (ob:=.map es' clock) (o':=.map (pX n (ev ρ i') kvs)) hob hl rfl trivial fun C' τ' H' s =>
    ⟨pX n (ev ρ i') kvs0,es',clock,OZ hp hnk,lW hb,h1,fun i e kv he hkv=>⟨(h2 i e kv he hkv).1,(h2 i e kv he hkv).2.mono s⟩,M2 hnk,h3,h4⟩
   exact dO hs h (.tuple _ _ rfl fun i c v h=>by simp at h) st s1
  rcases BC hdn es.toList kvs0 0 (by simpa using hsz) (fun j e kv he hkv=>(hes j e kv (by simpa using he) hkv).1) hok.2 with⟨h1,h2,h3⟩|⟨j,e,kv,h1,h2,h3,h4,h5,h6⟩
  ·refine fin es (by rw[h2,hsz]) (by rw[h2];exact hes) hnd hlt ?_
   simp[execOp,hop,resolve,invoke,builtin,Builtin.delete_,hux,hlit,bE hu,hck,gM hheap,fW hd h3,hset]
  ·have hj:es[j]?=some e:=by simpa using h1
   have hjl:=(Array.getElem?_eq_some_iff.1 hj).1
   have htl:(es.eraseIdxIfInBounds j).toList=es.toList.eraseIdx j:=by
    rw[Array.eraseIdxIfInBounds,dif_pos hjl,Array.toList_eraseIdx]
   refine fin (es.eraseIdxIfInBounds j) ?_ ?_ ?_ ?_ ?_
   ·rw[←Array.length_toList,htl,h4,List.length_eraseIdx,List.length_eraseIdx,Array.length_toList,hsz]
   ·rw[h4]
    intro m x kv' he hkv
    rw[←Array.getElem?_toList,htl,List.getElem?_eraseIdx]at he
    rw[List.getElem?_eraseIdx]at hkv
    split at he
    ·rename_i hm;rw[if_pos hm]at hkv;exact hes m x kv' (by simpa using he) hkv
    ·rename_i hm;rw[if_neg hm]at hkv;exact hes (m+1) x kv' (by simpa using he) hkv
   ·rw[htl,List.map_eraseIdx_born]
    exact hnd.sublist (List.eraseIdx_sublist ..)
   ·intro y hy
    rw[htl]at hy
    exact hlt y ((List.eraseIdx_sublist ..).subset hy)
   ·simp[execOp,hop,resolve,invoke,builtin,Builtin.delete_,hux,hlit,bE hu,hck,gM hheap,fW hd h5,hset]
theorem MY{o:Oper}{t k el:TypeId}{x:Operand}{x':bA}(ho:o.op=.range t x)(hu:P.underlying t=some (.map k el))(hx:aJ x=some x')(hs:SA E C τ ρ H a w)
  (h:d7 P (.rangeM x') ρ H K):bJ P ((execOp a.eval o).run P w) (gZ E ρ a K):=by
 simp only[d7,bD]at h
 have hr:=hs.ev hx
 have JY:∀(b:Nat) (es:Array MapEntry) (ck:Nat),a.eval x=.map (some b)→w.heap[b]?=some (.map es ck)→(execOp a.eval o).run P w=.ok (.value (.pointer (some ⟨w.heap.size,0,none⟩))) (w.alloc (.mapIter (some b) ck #[] ck)):=by
  intro b es ck e hh
  simp only[execOp,ho,e,Instr.range,Sem.run_bind,bE hu,Result.andThen_ok,gM hh,Sem.run_pure,run_newObj_alloc]
 have go:∀{m:Nat}{kvs:List (a6×a6)}{bs:List Nat}{ck:Nat}{es:Array MapEntry}{l:Loc}{H1:List aB},H1[m]?=some (.bmap kvs bs ck)→τ m=some l→a.eval x=.map (some l.b)→w.heap[l.b]?=some (.map es ck) →
   St E.w0 E.Pr C τ H1 w→cU C τ H w C τ H1 w→K (.it H1.length) (H1++[.mit (some m) ck []])→bJ P ((execOp a.eval o).run P w) (gZ E ρ a K):=by
  intro m kvs bs ck es l H1 g1 g2 g3 g4 st1 s1 hk
  rw[JY _ _ _ g3 g4]
  obtain⟨st,s2⟩:=st1.alloc_obj (.mapIter (some l.b) ck #[] ck) (.mit (some m) ck []) 0 trivial fun C' τ' H' w' s hh=>by
   obtain⟨o',ho',ha⟩:=s.obj m _ g1
   obtain⟨h1,h2⟩:=aB.after_mp rfl ha
   exact⟨o',l,ho',h1,h2.trans g2,hh⟩
  exact dO hs hk (.mt H1.length (some m) ck [] _ (by simp) (bZ _ _ _)) st (s1.trans s2)
 split at h
 case h_3=>exact h.elim
 case h_1 hv =>
  rw[hv]at hr
  simp only[dG,Nat.zero_add]at h
  have run:(execOp a.eval o).run P w=.ok (.value (.pointer (some ⟨w.heap.size,0,none⟩))) (w.alloc (.mapIter none 0 #[] 0)):=by
   simp only[execOp,ho,p7 hr,Instr.range,Sem.run_bind,bE hu,Result.andThen_ok,Sem.run_pure,run_newObj_alloc]
  rw[run]
  obtain⟨st,s1⟩:=hs.st.alloc_obj (.mapIter none 0 #[] 0) (.mit none 0 []) 0 trivial fun C' τ' H' w' _ hh=>hh
  exact dO hs h (.mt H.length none 0 [] _ (by simp) (bZ _ _ _)) st s1
 case h_2 m hv =>
  rw[hv]at hr
  simp only[cM,b6]at h
  obtain⟨ob,hob,h⟩:=h
  obtain⟨l,hl,hux⟩:=q0 hr
  split at h
  case h_3=>exact h.elim
  case h_1 kvs =>
   obtain⟨kvs0,bs,ck,es,hp,h1,h2,h3,h4,st,s1⟩:=hs.st.reveal hob hl
   have h:=h kvs0 bs ck hp h1 h2 h3
   simp only[fO,dG,Nat.zero_add]at h
   have hm:=(List.getElem?_eq_some_iff.1 hob).1
   exact go (List.getElem?_set_self hm) hl hux h4 st s1 h
  case h_2 kvs bs ck =>
   simp only[dG,Nat.zero_add]at h
   obtain⟨es,h4,_⟩:=hs.st.wf.objs m _ l hob hl
   exact go hob hl hux h4 hs.st .refl h
theorem O1{k:a6}(h:k.isLit=true):bW C w τ H k k.lit:=by
 cases k<;>simp only[a6.isLit,Bool.false_eq_true]at h
 ·exact .rd (.bool _)
 ·exact .rd (.int _ _)
 ·exact .rd (.str _)
theorem LX{id:Nat}{u:Value}{mid:Option Nat}{ck:Nat}{seen:List Nat}(hr:bW C w τ H (.it id) u)(ho:H[id]?=some (.mit mid ck seen)):∃l,τ id=some l∧u=.pointer (some ⟨l.b,0,none⟩):=by
 cases hr with
 |rd hr=>cases hr
 |it _ s p l ho' ht=>rw[ho]at ho';cases ho'
 |mt _ _ _ _ l ho' ht=>exact⟨l,ht,rfl⟩
theorem PS{o:Oper}{x:Operand}{x':bA}(ho:o.op=.next x false)(hx:aJ x=some x')(hs:SA E C τ ρ H a w)
  (h:d7 P (.nextM x') ρ H K):bJ P ((execOp a.eval o).run P w) (gZ E ρ a K):=by
 simp only[d7,bD]at h
 have hr:=hs.ev hx
 split at h
 case h_2=>exact h.elim
 rename_i id hv
 rw[hv]at hr
 simp only[cM,b6]at h
 obtain⟨ob,hob,h⟩:=h
 split at h
 case h_3=>exact h.elim
 case h_1 ck seen =>
  obtain⟨l,hl,hux⟩:=LX hr hob
  have hat:w.heap[l.b]?=some (.mapIter none 0 #[] 0):=hs.st.wf.objs id _ l hob hl
  have hget:(getObj l.b).run P w=.ok (.mapIter none 0 #[] 0) w:=by simp only[getObj,Sem.run,hat]
  have run:(execOp a.eval o).run P w=.ok (.value (.tuple #[.bool false])) w:=by
   simp only[execOp,ho,hux,Instr.next,Sem.run_bind,hget,Result.andThen_ok,Sem.run_pure]
  rw[run]
  refine aS hs h (.tuple _ _ rfl fun i c v hc hv=>?_)
  match i,hc,hv with
  |0,hc,hv=>simp at hc hv;subst hc hv;exact .rd (.bool _)
  |i+1,hc,hv=>simp at hc
 case h_2 m ck seen =>
  obtain⟨om,hom,h⟩:=h
  split at h
  case h_2=>exact h.elim
  rename_i kvs bs c2
  rw[aG,Nat.beq_eq]at h
  obtain⟨rfl,hstep,hover⟩:=h
  obtain⟨l,hl,hux⟩:=LX hr hob
  obtain⟨om',lm,g1,g2,g3,g4⟩:=hs.st.wf.objs id _ l hob hl
  obtain⟨es,e1,e2,e3,_,e4,e5,e6⟩:=hs.st.wf.objs m _ lm hom g3
  have hborn:∀(i:Nat) (e:MapEntry),es[i]?=some e→bs[i]?=some e.born:=fun i e he=>by
   rw[←e4,List.getElem?_map,Array.getElem?_toList,he];rfl
  have hold:∀y∈es.toList,y.born<c2:=fun y hy=>e6 _ (by rw[←e4];exact List.mem_map.2 ⟨y,hy,rfl⟩)
  rcases run_next_at (P:=P) w o.type l.b lm.b c2 c2 seen.toArray es c2 g4 e1 hold (Nat.le_refl _)with⟨h0,run⟩|⟨e,he,w1,hw1,run⟩
  ·have run:(execOp a.eval o).run P w=.ok (.value (.tuple #[.bool false])) w:=by
    simp only[execOp,ho,hux,Sem.run_bind,run,Result.andThen_ok,Sem.run_pure]
   rw[run]
   refine aS hs (hover fun b hb=>?_) (.tuple _ _ rfl fun i c v hc hv=>?_)
   ·rw[←e4]at hb
    obtain⟨y,hy,rfl⟩:=List.mem_map.1 hb
    apply Classical.byContradiction
    intro hn
    have:y∈leftOf es seen.toArray:=by
     unfold leftOf
     rw[Array.mem_filter]
     exact⟨by simpa using hy,by simpa using hn⟩
    have hpos:0<(leftOf es seen.toArray).size:=by
     obtain⟨i,hi,_⟩:=Array.mem_iff_getElem.1 this
     omega
    omega
   ·match i,hc,hv with
    |0,hc,hv=>simp at hc hv;subst hc hv;exact .rd (.bool _)
    |i+1,hc,hv=>simp at hc
  ·have hmem:e∈es.toList∧e.born∉seen:=by
    unfold leftOf at he
    rw[Array.mem_toList_iff,Array.mem_filter]at he
    exact⟨by simpa using he.1,by simpa using he.2⟩
   obtain⟨i,hi⟩:=List.getElem?_of_mem hmem.1
   have hi:es[i]?=some e:=by simpa using hi
   have hil:=(Array.getElem?_eq_some_iff.1 hi).1
   have hkv:kvs[i]?=some kvs[i]:=List.getElem?_eq_getElem (by omega)
   have hk:=hstep i _ _ hkv (hborn i e hi) hmem.2
   simp only[fO,aG]at hk
   have run:(execOp a.eval o).run P w=.ok (.value (.tuple #[.bool true,e.key,e.val])) (ChangeMaps.setBlock w1 l.b (.mapIter (some lm.b) c2 (seen.toArray.push e.born) c2)):=by
    simp only[execOp,ho,hux,Sem.run_bind,run,Result.andThen_ok,Sem.run_pure]
   rw[run]
   obtain⟨st0,s0⟩:St E.w0 E.Pr C τ H w1∧cU C τ H w C τ H w1:=by
    rcases hw1 with rfl|rfl
    ·exact⟨hs.st,.refl⟩
    ·exact hs.st.same rfl rfl rfl rfl (Nat.le_succ _)
   have hh1:w1.heap=w.heap:=by rcases hw1 with rfl|rfl<;>rfl
   have hb:l.b<w1.heap.size:=by rw[hh1];exact cQ g4
   obtain⟨st,s1⟩:=st0.setb (ob:=.mapIter (some lm.b) c2 (seen.toArray.push e.born) c2) (o':=.mit (some m) c2 (seen++[e.born])) hob hl ⟨rfl,rfl⟩ trivial fun C' τ' H' s=>by
    obtain⟨o',ho',ha⟩:=s.obj m _ hom
    obtain⟨q1,q2⟩:=aB.after_mp rfl ha
    refine⟨o',lm,ho',q1,q2.trans g3,?_⟩
    rw[lW hb]
    simp
   have hrel:=e3 i e _ hi hkv
   refine dO hs hk.2 (.tuple _ _ rfl fun j c v hc hv=>?_) st (s0.trans s1)
   match j,hc,hv with
   |0,hc,hv=>simp at hc hv;subst hc hv;exact .rd (.bool _)
   |1,hc,hv=>simp at hc hv;subst hc hv;rw[hrel.1];exact O1 hk.1
   |2,hc,hv=>simp at hc hv;subst hc hv;exact(hrel.2.mono s0).mono s1
   |j+3,hc,hv=>simp at hc
theorem MT{o:Oper}{x:Operand}{x':bA}(ho:o.op=.entry x)(hx:aJ x=some x')(hs:SA E C τ ρ H a w)
  (h:d7 P (.entryM x') ρ H K):bJ P ((execOp a.eval o).run P w) (gZ E ρ a K):=by
 simp only[d7,bD]at h
 have hr:=hs.ev hx
 split at h
 case h_2=>exact h.elim
 rename_i id hv
 rw[hv]at hr
 simp only[cM,b6]at h
 obtain⟨ob,hob,h⟩:=h
 split at h
 case h_2=>exact h.elim
 rename_i m ck seen
 obtain⟨om,hom,h⟩:=h
 split at h
 case h_2=>exact h.elim
 rename_i kvs bs c2
 simp only[aG,Nat.beq_eq]at h
 obtain⟨rfl,i,kv,b,h1,h2,h3,h4,hk⟩:=h
 obtain⟨l,hl,hux⟩:=LX hr hob
 obtain⟨om',lm,g1,g2,g3,g4⟩:=hs.st.wf.objs id _ l hob hl
 obtain⟨es,e1,e2,e3,_,e4,e5,e6⟩:=hs.st.wf.objs m _ lm hom g3
 have hil:i<es.size:=by have:=(List.getElem?_eq_some_iff.1 h3).1;omega
 have hi:es[i]?=some es[i]:=Array.getElem?_eq_getElem hil
 have hb:es[i].born=b:=by
  rw[←e4,List.getElem?_map,Array.getElem?_toList,hi]at h2
  simpa using h2
 have hseen:seen.toArray=(seen.dropLast.toArray).push es[i].born:=by
  obtain⟨ys,rfl⟩:=List.getLast?_eq_some_iff.1 h1
  rw[hb,List.push_toArray,List.dropLast_concat]
 rw[hseen]at g4
 have run:(execOp a.eval o).run P w=.ok (.value (.tuple #[es[i].key,es[i].val])) w:=by
  have r0:=run_entry_at (P:=P) w l.b lm.b c2 seen.dropLast.toArray es c2 es[i] g4 e1 (by simp) (by rw[show(es.toList.map fun x=>x.born)=bs from e4];exact e5)
  simp only[execOp,ho,hux,Sem.run_bind,r0,Result.andThen_ok,Sem.run_pure]
 rw[run]
 have hrel:=e3 i _ kv hi h3
 refine aS hs hk (.tuple _ _ rfl fun j c v hc hv=>?_)
 match j,hc,hv with
 |0,hc,hv=>simp at hc hv;subst hc hv;rw[hrel.1];exact O1 h4
 |1,hc,hv=>simp at hc hv;subst hc hv;exact hrel.2
 |j+2,hc,hv=>simp at hc
theorem tZ{b:Nat}:∀(es:List MapEntry) (i:Nat) (e:MapEntry),(es.map MapEntry.born).Nodup→es[i]?=some e→e.born=b→es.findIdx? (fun e=>(e.born:Int)==(b:Int))=some i
 |[],i,e,_,h,_=>by simp at h
 |x::es,0,e,hn,h,hb=>by
  cases h
  simp[List.findIdx?_cons,hb]
 |x::es,i+1,e,hn,h,hb=>by
  rw[List.map_cons,List.nodup_cons]at hn
  have h:es[i]?=some e:=by simpa using h
  have hne:x.born≠b:=fun hx=>hn.1 (by rw[hx,←hb];exact List.mem_map.2 ⟨e,List.mem_of_getElem? h,rfl⟩)
  rw[List.findIdx?_cons,if_neg (by simp;omega),tZ es i e hn.2 h hb]
  rfl
theorem EE{n:Nat}{k:a6}:∀{l:List (a6×a6)},DI n k l=none→∀kv∈l,cF n k kv.1≠some true
 |[],_,kv,h=>by cases h
 |x::l,hm,kv,h=>by
  rw[DI]at hm
  split at hm
  ·cases hm
  ·rename_i hne
   rcases List.mem_cons.1 h with rfl|h
   ·exact fun e=>hne e
   ·exact EE (Option.map_eq_none_iff.1 hm) kv h
theorem RG{l:List (a6×a6)}{i:Nat}{kv:a6×a6}{v:a6}(h:l[i]?=some kv):(l.set i (kv.1,v)).map (fun kv=>kv.1.lit)=l.map fun kv=>kv.1.lit:=by
 rw[List.map_set]
 apply List.ext_getElem?
 intro j
 rw[List.getElem?_set]
 by_cases e:i=j
 ·subst e
  have hi:=(List.getElem?_eq_some_iff.1 h).1
  rw[if_pos rfl,if_pos (by simpa using hi),List.getElem?_map,h];rfl
 ·rw[if_neg e]
theorem MX{o:Oper}{t k el:TypeId}{x i:Operand}{x' i':bA}{n:Nat}{zero:a6}(ho:o.op=.mapEntry t x i)(hu:P.underlying t=some (.map k el))(hn:zL P k=some n)
  (hz:F6 P el=some zero) (hx:aJ x=some x') (hi:aJ i=some i') (hs:SA E C τ ρ H a w)
  (h:d7 P (.mapEnt n zero x' i') ρ H K):bJ P ((execOp a.eval o).run P w) (gZ E ρ a K):=by
 simp only[d7,bD]at h
 have hr:=hs.ev hx
 have hri:=hs.ev hi
 split at h
 case h_2=>exact h.elim
 rename_i id hv
 rw[hv]at hr
 simp only[cM,b6]at h
 obtain⟨ob,hob,h⟩:=h
 split at h
 case h_2=>exact h.elim
 rename_i kvs bs ck
 rw[aG]at h
 obtain⟨hok,h⟩:=h
 simp only[lP,Bool.and_eq_true]at hok
 have hlit:=t8 hri (fP hok.1)
 obtain⟨d,hd,hdn⟩:=qM hn
 obtain⟨iz,hiz,hzz⟩:∃iz,P.info? el=some iz∧iz.zero.map kH=some zero:=by
  unfold F6 at hz
  split at hz
  ·rename_i iz hiz;exact⟨iz,hiz,hz⟩
  ·cases hz
 obtain⟨z,hz1,rfl⟩:=Option.map_eq_some_iff.1 hzz
 have hzv:(zeroValue el).run P w=.ok z w:=by simp[zeroValue,gQ hiz,hz1]
 have hck:=iY (P:=P) (w:=w) hn hok.1
 obtain⟨l,hl,hux⟩:=q0 hr
 obtain⟨es,hheap,hsz,hes,hnk,e4,e5,e6⟩:=hs.st.wf.objs id _ l hob hl
 have hb:=cQ hheap
 have hset:∀(ob:Obj),(setObj l.b ob).run P w=.ok () (ChangeMaps.setBlock w l.b ob):=fun ob=>by
  simp only[setObj,Sem.run,hheap];rfl
 rcases BC hdn es.toList kvs 0 (by simpa using hsz) (fun j e kv he hkv=>(hes j e kv (by simpa using he) hkv).1) hok.2 with⟨h1,h2,h3⟩|⟨j,e,kv,h1,h2,h3,h4,h5,h6⟩
 ·rw[h1]at h
  simp only[JA,fO]at h
  have run:(execOp a.eval o).run P w=.ok (.value (.tuple #[z,goInt ck])) (ChangeMaps.setBlock w l.b (.map (es.push { key:=a.eval i,val:=z,born:=ck }) (ck+1))):=by
   simp only[execOp,ho,hux,hlit,Instr.mapEntry,Sem.run_bind,bE hu,Result.andThen_ok,gM hheap,hck,fW hd h3,hzv,hset,Sem.run_pure]
  rw[run]
  obtain⟨st,s1⟩:=hs.st.setb (ob:=.map (es.push { key:=a.eval i,val:=z,born:=ck }) (ck+1)) (o':=.bmap (kvs++[(ev ρ i',kH z)]) (bs++[ck]) (ck+1)) hob hl rfl trivial fun C' τ' H' s=>by
   refine⟨_,lW hb,by simp[hsz],fun j e kv he hkv=>?_,?_,by simp[e4],?_,fun b hb=>?_⟩
   ·rw[Array.getElem?_push]at he
    by_cases hj:j=es.size
    ·subst hj
     rw[if_pos rfl]at he
     rw[List.getElem?_append_right (by omega),hsz]at hkv
     simp at he hkv
     subst he hkv
     exact⟨hlit,lV _⟩
    ·rw[if_neg hj]at he
     have:=(Array.getElem?_eq_some_iff.1 he).1
     rw[List.getElem?_append_left (by omega)]at hkv
     exact⟨(hes j e kv he hkv).1,(hes j e kv he hkv).2.mono s⟩
   ·rw[List.map_append,List.map_cons,List.map_nil,List.nodup_append]
    refine⟨hnk,by simp,fun x hx y hy=>?_⟩
    obtain⟨kv,hkv,rfl⟩:=List.mem_map.1 hx
    simp only[List.mem_singleton]at hy
    subst hy
    obtain⟨c,hc⟩:=Option.isSome_iff_exists.1 (List.all_eq_true.1 hok.2 kv hkv)
    cases c with
    |false=>exact fun e=>EC hc e.symm
    |true=>exact absurd hc (EE h1 kv hkv)
   ·rw[List.nodup_append]
    exact⟨e5,by simp,fun x hx y hy=>by have:=e6 x hx;simp at hy;omega⟩
   ·simp only[List.mem_append,List.mem_singleton]at hb
    rcases hb with hb|rfl
    ·have:=e6 b hb;omega
    ·omega
  refine dO hs h (.tuple _ _ rfl fun j c v hc hv=>?_) st s1
  match j,hc,hv with
  |0,hc,hv=>simp at hc hv;subst hc hv;exact lV _
  |1,hc,hv=>simp at hc hv;subst hc hv;exact .rd (.int _ _)
  |j+2,hc,hv=>simp at hc
 ·have hj:es[j]?=some e:=by simpa using h1
  have hjl:=(Array.getElem?_eq_some_iff.1 hj).1
  have hkey:e.key=(ev ρ i').lit:=by rw[(hes j e kv hj h2).1,fQ h6]
  rw[h3]at h
  simp only[JA,b6]at h
  obtain⟨kv',hkv',b,hbs,hk⟩:=h
  rw[h2]at hkv';cases hkv'
  have hbe:b=e.born:=by
   rw[←e4,List.getElem?_map,Array.getElem?_toList,hj]at hbs
   simpa using hbs.symm
  subst hbe
  have hks:(Instr.keyThatStays (((es[j]?).map (·.key)).getD (ev ρ i').lit) (ev ρ i').lit).run P w=.ok (ev ρ i').lit w:=by
   rw[hj]
   simp only[Option.map_some,Option.getD_some,hkey]
   unfold Instr.keyThatStays
   rw[wD hok.1]
   rfl
  have hmod:(es.modify j fun e=>{ e with key:=(ev ρ i').lit })=es:=by
   apply Array.ext_getElem?
   intro m
   rw[Array.getElem?_modify]
   by_cases hm:j=m
   ·subst hm
    rw[if_pos rfl,hj]
    simp only[Option.map_some]
    rw[←hkey]
   ·rw[if_neg hm]
  have run:(execOp a.eval o).run P w=.ok (.value (.tuple #[e.val,goInt e.born])) (ChangeMaps.setBlock w l.b (.map es ck)):=by
   have hbj:((es[j]?).map (fun x=>(x.born:Int))).getD 0=e.born:=by rw[hj];rfl
   simp only[execOp,ho,hux,hlit,Instr.mapEntry,Sem.run_bind,bE hu,Result.andThen_ok,gM hheap,hck,fW hd h5,Nat.zero_add,hks,hmod,hset,Sem.run_pure,hbj]
  rw[run]
  have hself:H.set id (.bmap kvs bs ck)=H:=by
   apply List.ext_getElem?
   intro m
   rw[List.getElem?_set]
   by_cases hm:id=m
   ·subst hm;rw[if_pos rfl,if_pos (List.getElem?_eq_some_iff.1 hob).1,hob]
   ·rw[if_neg hm]
  obtain⟨st,s1⟩:=hs.st.setb (ob:=.map es ck) (o':=.bmap kvs bs ck) hob hl rfl trivial fun C' τ' H' s =>
   ⟨es,lW hb,hsz,fun i e kv he hkv=>⟨(hes i e kv he hkv).1,(hes i e kv he hkv).2.mono s⟩,hnk,e4,e5,e6⟩
  rw[hself]at st s1
  refine dO hs hk (.tuple _ _ rfl fun m c v hc hv=>?_) st s1
  match m,hc,hv with
  |0,hc,hv=>simp at hc hv;subst hc hv;exact(hes j e kv hj h2).2.mono s1
  |1,hc,hv=>simp at hc hv;subst hc hv;exact .rd (.int _ _)
  |m+2,hc,hv=>simp at hc
theorem zU{o:Oper}{t:TypeId}{x s y:Operand}{x' s' y':bA}(ho:o.op=.entryStore t x s y)
  (hx:aJ x=some x') (hi:aJ s=some s') (hy:aJ y=some y') (hs:SA E C τ ρ H a w)
  (h:d7 P (.entryStoreM x' s' y') ρ H K):bJ P ((execOp a.eval o).run P w) (gZ E ρ a K):=by
 simp only[d7,bD]at h
 have hr:=hs.ev hx
 have hri:=hs.ev hi
 have hry:=hs.ev hy
 split at h
 case h_2=>exact h.elim
 rename_i id sv hv hsv
 rw[hv]at hr
 rw[hsv]at hri
 simp only[cM,b6]at h
 obtain⟨ob,hob,h⟩:=h
 split at h
 case h_2=>exact h.elim
 rename_i kvs bs ck
 obtain⟨i,kv,b,h1,h2,h3,h⟩:=h
 simp only[fO]at h
 obtain⟨l,hl,hux⟩:=q0 hr
 obtain⟨es,hheap,hsz,hes,hnk,e4,e5,e6⟩:=hs.st.wf.objs id _ l hob hl
 have hb:=cQ hheap
 have hset:∀(ob:Obj),(setObj l.b ob).run P w=.ok () (ChangeMaps.setBlock w l.b ob):=fun ob=>by
  simp only[setObj,Sem.run,hheap];rfl
 have hil:i<es.size:=by have:=(List.getElem?_eq_some_iff.1 h3).1;omega
 have hi2:es[i]?=some es[i]:=Array.getElem?_eq_getElem hil
 have hbe:es[i].born=b:=by
  rw[←e4,List.getElem?_map,Array.getElem?_toList,hi2]at h1
  simpa using h1
 have hfind:es.findIdx? (fun e=>(e.born:Int)==sv)=some i:=by
  rw[←h2,show es=es.toList.toArray from rfl,List.findIdx?_toArray]
  exact tZ es.toList i es[i] (by rw[e4];exact e5) (by rw[Array.getElem?_toList];exact hi2) hbe
 have run:(execOp a.eval o).run P w=.ok .skip (ChangeMaps.setBlock w l.b (.map (es.modify i fun e=>{ e with val:=a.eval y }) ck)):=by
  simp only[execOp,ho,hux,hri.int_inv,Instr.entryStore,Sem.run_bind,Result.andThen_ok,gM hheap,asInt,asIntOf,Sem.run_pure,hfind,hset,Sem.run_map]
 rw[run]
 obtain⟨st,s1⟩:=hs.st.setb (ob:=.map (es.modify i fun e=>{ e with val:=a.eval y }) ck) (o':=.bmap (kvs.set i (kv.1,ev ρ y')) bs ck) hob hl rfl trivial fun C' τ' H' s=>by
  refine⟨_,lW hb,by simp[hsz],fun m x kv' he hkv=>?_,by rw[RG h3];exact hnk,by rw[rG (f:=fun e=>{ e with val:=a.eval y }) fun x=>rfl];exact e4,e5,e6⟩
  rw[Array.getElem?_modify]at he
  rw[List.getElem?_set]at hkv
  by_cases hm:i=m
  ·subst hm
   rw[if_pos rfl,hi2]at he
   rw[if_pos rfl,if_pos (by omega)]at hkv
   simp at he hkv
   subst he hkv
   exact⟨(hes i _ kv hi2 h3).1,hry.mono s⟩
  ·rw[if_neg hm]at he hkv
   exact⟨(hes m x kv' he hkv).1,(hes m x kv' he hkv).2.mono s⟩
 exact dO hs h (.tuple _ _ rfl fun i c v h=>by simp at h) st s1
end
section
variable {E:tT}{P:Program}{C:Nat→Nat}{τ:Nat→Option Loc}{ρ:List a6}{H:List aB}{a:Act}{w:World}{K:a6→List aB→Prop}
theorem qT{f:FuncId}{args:List a6}{vs:Array Value}(hs:SA E C τ ρ H a w)(hl:args.length=vs.size)
  (hr:∀(i:Nat) (c:a6) (v:Value),args[i]?=some c→vs[i]?=some v→bW C w τ H c v) (h:a7 P f args H K) :
  bJ P ((callFunc f vs).run P w) (gZ E ρ a K):=by
 have h:=h C τ w vs hs.st.wf hl hr
 have fin:∀{e:Ending}{w':World},(∃v r C' τ' H',e=.returned v∧K r H'∧bW C' w' τ' H' r v∧St w (cX τ H w) C' τ' H' w'∧cU C τ H w C' τ' H' w')→∃v,e=.returned v∧gZ E ρ a K v w':=by
  rintro e w' ⟨v,r,C',τ',H',he,hk,hrel,hst,hstep⟩
  exact⟨v,he,r,C',τ',H',hk,hrel,hs.go (hs.st.after hst) hstep⟩
 unfold eS at h
 unfold bJ
 split at h
 ·rename_i g asv w' e
  rw[e]
  exact h.mono fun e w'' hh=>fin hh
 ·rename_i v w' e
  rw[e]
  obtain⟨v',he,hout⟩:=fin h
  cases he
  exact hout
 ·exact h.elim
theorem K8{o:Oper}{f:FuncId}{args:Array Operand}{tys:Array TypeId}{ys:List bA}(ho:o.op=.call { callee:=.value (.func f),args:=args,argTypes:=tys })(hc:jC args.toList=some ys)
  (hs:SA E C τ ρ H a w) (h:d7 P (.call f ys) ρ H K):bJ P ((execOp a.eval o).run P w) (gZ E ρ a K):=by
 simp only[d7,dA]at h
 have hr:=vV hs _ _ hc
 have run:(execOp a.eval o).run P w=(callFunc f (args.map a.eval)).run P w:=by
  simp[execOp,ho,resolve,Deferred.ofValue,invoke,Act.eval]
 rw[run]
 exact qT hs (by simpa using hr.1) (fun i c v h1 h2=>hr.2 i c v h1 (by rw[←h2];simp)) h
theorem EX{o:Oper}{t:Nat}{args:Array Operand}{tys:Array TypeId}{ys:List bA}(ho:o.op=.call { callee:=.value (.tmp t),args:=args,argTypes:=tys })(hc:jC args.toList=some ys)
  (hs:SA E C τ ρ H a w) (h:d7 P (.callv (.t t) ys) ρ H K):bJ P ((execOp a.eval o).run P w) (gZ E ρ a K):=by
 simp only[d7,dA,bD]at h
 have hr:=vV hs _ _ hc
 have hrf:=hs.ev (x:=.tmp t) (y:=.t t) rfl
 split at h
 case h_2=>exact h.elim
 rename_i f caps hv
 rw[hv]at hrf
 obtain⟨vs,e,hl,hrel⟩:∃vs,a.eval (.tmp t)=.func (.func f) #[] vs∧caps.length=vs.size∧∀(i:Nat) (c:a6) (v:Value),caps[i]?=some c→vs[i]?=some v→bW C w τ H c v:=by
  generalize a.eval (.tmp t)=z at hrf
  cases hrf with
  |rd hrf=>cases hrf;exact⟨#[],rfl,rfl,fun i c v h=>by simp at h⟩
  |fn f cs vs hl h=>exact⟨vs,rfl,hl,h⟩
 have run:(execOp a.eval o).run P w=(callFunc f (args.map a.eval++vs)).run P w:=by
  simp[execOp,ho,resolve,Deferred.ofValue,invoke,e]
 rw[run]
 refine qT hs (by have:=hr.1;simp at this ⊢;omega) (fun i c v h1 h2=>?_) h
 by_cases hi:i<ys.length
 ·rw[List.getElem?_append_left (by simpa using hi)]at h1
  have hsz:args.size=ys.length:=by have:=hr.1;simp at this;omega
  rw[Array.getElem?_append_left (by simpa using(by omega:i<args.size))]at h2
  exact hr.2 i c v h1 (by rw[←h2];simp)
 ·have hsz:args.size=ys.length:=by have:=hr.1;simp at this;omega
  rw[List.getElem?_append_right (by simpa using hi)]at h1
  rw[Array.getElem?_append_right (by simp;omega)]at h2
  simp only[List.length_map,Array.size_map]at h1 h2
  exact hrel _ c v h1 (by rw[←h2,hsz])
theorem C6{o:Oper}{oj:Bool}{ao:oK}(hc:cP P oj o.op=some ao)(hs:SA E C τ ρ H a w)(h:d7 P ao ρ H K):bJ P ((execOp a.eval o).run P w) (gZ E ρ a K):=by
 cases ho:o.op with
 |move x=>rw[ho]at hc;simp only[cP,Option.bind_eq_bind,Option.bind_eq_some_iff,Option.pure_def,Option.some.injEq]at hc;obtain⟨x',hx,rfl⟩:=hc;exact KC (.inl ho) hx hs h
 |assign x=>rw[ho]at hc;simp only[cP,Option.bind_eq_bind,Option.bind_eq_some_iff,Option.pure_def,Option.some.injEq]at hc;obtain⟨x',hx,rfl⟩:=hc;exact KC (.inr ho) hx hs h
 |pick c x y =>
  rw[ho]at hc;simp only[cP,Option.bind_eq_bind,Option.bind_eq_some_iff,Option.pure_def,Option.some.injEq]at hc
  obtain⟨c',hc',x',hx,y',hy,rfl⟩:=hc;exact SW ho hc' hx hy hs h
 |alloc e=>rw[ho]at hc;simp only[cP,Option.bind_eq_bind,Option.bind_eq_some_iff,Option.pure_def,Option.some.injEq]at hc;obtain⟨z,hz,rfl⟩:=hc;exact PN ho hz hs h
 |box e x=>rw[ho]at hc;simp only[cP,Option.bind_eq_bind,Option.bind_eq_some_iff,Option.pure_def,Option.some.injEq]at hc;obtain⟨x',hx,rfl⟩:=hc;exact UG ho hx hs h
 |build t parts =>
  rw[ho]at hc;simp only[cP]at hc
  split at hc
  ·rename_i fs hu
   split at hc
   ·rename_i hp
    simp only[Option.bind_eq_bind,Option.bind_eq_some_iff,Option.pure_def,Option.some.injEq]at hc
    obtain⟨z,hz,qs,hq,rfl⟩:=hc
    exact PO ho hu hz hp hq hs h
   ·cases hc
  ·rename_i n e hu
   simp only[Option.bind_eq_bind,Option.bind_eq_some_iff,Option.pure_def,Option.some.injEq]at hc
   obtain⟨z,hz,s,hsz,qs,hq,rfl⟩:=hc
   exact MP ho hu hz hsz hq hs h
  ·cases hc
 |buildSlice t len parts =>
  rw[ho]at hc;simp only[cP]at hc
  cases oj<;>simp only[Bool.false_eq_true,if_false,if_true,Option.bind_eq_bind,Option.bind_eq_some_iff,Option.pure_def,Option.some.injEq]at hc<;>obtain⟨e,he,s,hsz,z,hz,r,hr,rfl⟩:=hc
  ·exact sG ho he hsz hz hr hs (.inl h)
  ·exact sG ho he hsz hz hr hs (.inr h)
 |load t x =>
  rw[ho]at hc;simp only[cP,Option.bind_eq_bind,Option.bind_eq_some_iff,Option.pure_def,Option.some.injEq]at hc
  obtain⟨ag,ht,s,hsz,x',hx,rfl⟩:=hc;exact ST ho hx ht hsz hs h
 |store t x y =>
  rw[ho]at hc;simp only[cP,Option.bind_eq_bind,Option.bind_eq_some_iff,Option.pure_def,Option.some.injEq]at hc
  obtain⟨s,hsz,x',hx,y',hy,rfl⟩:=hc;exact PV ho hx hy hsz hs h
 |nilCheck x=>rw[ho]at hc;simp only[cP,Option.bind_eq_bind,Option.bind_eq_some_iff,Option.pure_def,Option.some.injEq]at hc;obtain⟨x',hx,rfl⟩:=hc;exact UL ho hx hs h
 |binOp op t x y u =>
  rw[ho]at hc;simp only[cP,Option.bind_eq_bind,Option.bind_eq_some_iff]at hc
  obtain⟨x',hx,y',hy,hc⟩:=hc
  have eqcase:op=.eql∨op=.neq→(match P.underlying t with
   |some (.slice _)=>if FY y then pure (.isNil (decide (op=.neq)) x')else none
   |some (.map _ _)=>if A3 y then pure (.isNilM (decide (op=.neq)) x')else none
   |some (.pointer _)=>if A4 y then pure (.isNilP (decide (op=.neq)) x')else none
   |some .bool=>pure (.eqb (decide (op=.neq)) x' y')
   |some (.int _)|some .string=>pure (.bin op x' y')
   |some (.struct fs)=>if P.stoodInHeld t||P.eqGuardType P.depth t then none else do pure (.eqs (decide (op=.neq)) (←iK P fs.toList 0) x' y')
   |_=>none:Option oK)=some ao→bJ P ((execOp a.eval o).run P w) (gZ E ρ a K):=by
   intro hop hc
   split at hc
   ·rename_i hu
    split at hc
    ·rename_i hy';simp only[Option.pure_def,Option.some.injEq]at hc;subst hc;exact PQ ho hx hy' hu hop hs h
    ·cases hc
   ·rename_i hu
    split at hc
    ·rename_i hy';simp only[Option.pure_def,Option.some.injEq]at hc;subst hc;exact MU ho hx hy' hu hop hs h
    ·cases hc
   ·rename_i hu
    split at hc
    ·rename_i hy';simp only[Option.pure_def,Option.some.injEq]at hc;subst hc;exact MV ho hx hy' hu hop hs h
    ·cases hc
   ·rename_i hu;simp only[Option.pure_def,Option.some.injEq]at hc;subst hc;exact UI ho hx hy hu hop hs h
   ·simp only[Option.pure_def,Option.some.injEq]at hc;subst hc;exact GM ho hx hy hs h
   ·simp only[Option.pure_def,Option.some.injEq]at hc;subst hc;exact GM ho hx hy hs h
   ·rename_i fs hu
    split at hc
    ·cases hc
    ·rename_i hg
     simp only[Option.bind_eq_bind,Option.bind_eq_some_iff,Option.pure_def,Option.some.injEq]at hc
     obtain⟨ks,hks,rfl⟩:=hc
     simp only[Bool.or_eq_true,not_or,Bool.not_eq_true]at hg
     exact UJ ho hx hy hu hop hg.1 hg.2 hks hs h
   ·cases hc
  split at hc
  ·exact eqcase (.inl rfl) hc
  ·exact eqcase (.inr rfl) hc
  ·simp only[Option.pure_def,Option.some.injEq]at hc;subst hc;exact GM ho hx hy hs h
 |unOp op t x=>rw[ho]at hc;simp only[cP,Option.bind_eq_bind,Option.bind_eq_some_iff,Option.pure_def,Option.some.injEq]at hc;obtain⟨x',hx,rfl⟩:=hc;exact WH ho hx hs h
 |convert s d x =>
  rw[ho]at hc;simp only[cP,Option.bind_eq_bind,Option.bind_eq_some_iff]at hc
  obtain⟨x',hx,hc⟩:=hc
  have byte:∀e,vX P e=true→P.underlying e=some (.int .u8):=by
   intro e he
   unfold vX at he
   split at he
   ·assumption
   ·cases he
  split at hc
  ·rename_i h1 h2;simp only[Option.pure_def,Option.some.injEq]at hc;subst hc;exact SQ ho hx h1 h2 hs h
  ·rename_i h1 h2;simp only[Option.pure_def,Option.some.injEq]at hc;subst hc;exact MS ho hx h1 h2 hs h
  ·rename_i h1 h2
   split at hc
   ·rename_i hb;simp only[Option.pure_def,Option.some.injEq]at hc;subst hc;exact MQ ho hx h1 h2 (byte _ hb) hs h
   ·cases hc
  ·rename_i h1 h2
   split at hc
   ·rename_i hb;simp only[Option.pure_def,Option.some.injEq]at hc;subst hc;exact MR ho hx h1 h2 (byte _ hb) hs h
   ·cases hc
  ·rename_i e1 e2 h1 h2
   split at hc
   ·rename_i hb
    simp only[Bool.and_eq_true,decide_eq_true_eq]at hb
    obtain⟨rfl,hb⟩:=hb
    rw[h1]at h2;cases h2
    simp only[Option.pure_def,Option.some.injEq]at hc;subst hc;exact SU ho hx h1 (byte _ hb) hs h
   ·cases hc
  ·cases hc
 |makeFunc fn first caps =>
  rw[ho]at hc;cases fn<;>simp only[cP]at hc<;>try(cases hc;done)
  split at hc
  ·rename_i hf
   simp only[Option.bind_eq_bind,Option.bind_eq_some_iff,Option.pure_def,Option.some.injEq]at hc
   obtain⟨ys,hy,rfl⟩:=hc;exact GO ho hf hy hs h
  ·cases hc
 |makeSlice t l c =>
  rw[ho]at hc;simp only[cP,Option.bind_eq_bind,Option.bind_eq_some_iff,Option.pure_def,Option.some.injEq]at hc
  obtain⟨e,he,hc⟩:=hc
  cases oj
  ·simp only[Bool.false_eq_true,if_false,Option.bind_eq_bind,Option.bind_eq_some_iff,Option.pure_def,Option.some.injEq]at hc
   obtain⟨s,hsz,b,hb,z,hz,l',hl,c',hc',rfl⟩:=hc;exact KB ho hl hc' he hsz hb hz hs h
  ·simp only[if_true,Option.bind_eq_bind,Option.bind_eq_some_iff,Option.pure_def,Option.some.injEq]at hc
   obtain⟨s,hsz,b,hb,z,hz,l',hl,c',hc',rfl⟩:=hc;exact GP ho hl hc' he hsz hb hz hs h
 |slice t x lo hi mx =>
  rw[ho]at hc;simp only[cP]at hc
  unfold E2 at hc
  split at hc
  ·split at hc
   ·rename_i hu
    simp only[Option.bind_eq_bind,Option.bind_eq_some_iff,Option.pure_def,Option.some.injEq]at hc
    obtain⟨x',hx,lo',hlo,hi',hhi,rfl⟩:=hc
    exact GQ ho hx hlo hhi hu hs h
   ·rename_i e hu
    simp only[Option.bind_eq_bind,Option.bind_eq_some_iff,Option.pure_def,Option.some.injEq]at hc
    obtain⟨n,hn,x',hx,lo',hlo,hi',hhi,rfl⟩:=hc
    exact PU ho hx hlo hhi hu hn hs h
   ·cases hc
  ·split at hc
   ·rename_i m _ _ _ hh e hu
    split at hc
    ·rename_i hz
     have zero:∀q:Operand,A5 q=true→q=.const (.int .i64 0):=by
      intro q hq
      unfold A5 at hq
      split at hq
      ·rfl
      ·cases hq
     simp only[Bool.and_eq_true]at hz
     cases zero _ hz.1
     cases zero _ hz.2
     simp only[Option.bind_eq_bind,Option.bind_eq_some_iff,Option.pure_def,Option.some.injEq]at hc
     obtain⟨n,hn,x',hx,rfl⟩:=hc
     exact KE ho hx hu hn hs h
    ·simp only[Option.bind_eq_bind,Option.bind_eq_some_iff,Option.pure_def,Option.some.injEq]at hc
     obtain⟨n,hn,x',hx,h',hh',m',hm',rfl⟩:=hc
     exact MZ ho hx hh' hm' hu hn hs h
   ·cases hc
 |fieldAddr s x f =>
  rw[ho]at hc;simp only[cP]at hc
  split at hc
  ·rename_i fs hu
   simp only[Option.bind_eq_bind,Option.bind_eq_some_iff]at hc
   obtain⟨fd,hf,n,hn,hc⟩:=hc
   split at hc
   ·cases hc
   ·rename_i hne
    simp only[Option.bind_eq_some_iff,Option.pure_def,Option.some.injEq]at hc
    obtain⟨x',hx,rfl⟩:=hc
    exact DP ho hx hu hf hn hne hs h
  ·cases hc
 |field s x f =>
  rw[ho]at hc;simp only[cP]at hc
  split at hc
  ·rename_i fs hu
   simp only[Option.bind_eq_bind,Option.bind_eq_some_iff,Option.pure_def,Option.some.injEq]at hc
   obtain⟨fd,hf,ag,ht,n,hn,x',hx,rfl⟩:=hc
   exact PP ho hx hu hf hn ht hs h
  ·cases hc
 |indexAddr t x i =>
  rw[ho]at hc;simp only[cP]at hc
  split at hc
  ·rename_i n e hu
   simp only[Option.bind_eq_bind,Option.bind_eq_some_iff,Option.pure_def,Option.some.injEq]at hc
   obtain⟨s,hsz,x',hx,i',hi,rfl⟩:=hc;exact K7 ho hx hi hu hsz hs h
  ·simp only[Option.bind_eq_bind,Option.bind_eq_some_iff,Option.pure_def,Option.some.injEq]at hc
   obtain⟨e,he,s,hsz,x',hx,i',hi,rfl⟩:=hc;exact DQ ho hx hi he hsz hs h
 |index t x i =>
  rw[ho]at hc;simp only[cP]at hc
  split at hc
  ·rename_i hu
   simp only[Option.bind_eq_bind,Option.bind_eq_some_iff,Option.pure_def,Option.some.injEq]at hc
   obtain⟨x',hx,i',hi,rfl⟩:=hc
   exact GN ho hx hi hu hs h
  ·cases hc
 |extract x i=>rw[ho]at hc;simp only[cP,Option.bind_eq_bind,Option.bind_eq_some_iff,Option.pure_def,Option.some.injEq]at hc;obtain⟨x',hx,rfl⟩:=hc;exact KA ho hx hs h
 |range t x =>
  rw[ho]at hc;simp only[cP]at hc
  split at hc
  ·rename_i hu
   simp only[Option.bind_eq_bind,Option.bind_eq_some_iff,Option.pure_def,Option.some.injEq]at hc
   obtain⟨x',hx,rfl⟩:=hc
   exact PT ho hx hu hs h
  ·rename_i hu
   simp only[Option.bind_eq_bind,Option.bind_eq_some_iff,Option.pure_def,Option.some.injEq]at hc
   obtain⟨x',hx,rfl⟩:=hc
   exact MY ho hu hx hs h
  ·cases hc
 |next x b =>
  rw[ho]at hc
  cases b<;>simp only[cP,Option.bind_eq_bind,Option.bind_eq_some_iff,Option.pure_def,Option.some.injEq]at hc
  ·obtain⟨x',hx,rfl⟩:=hc;exact PS ho hx hs h
  ·obtain⟨x',hx,rfl⟩:=hc;exact SV ho hx hs h
 |entry x=>rw[ho]at hc;simp only[cP,Option.bind_eq_bind,Option.bind_eq_some_iff,Option.pure_def,Option.some.injEq]at hc;obtain⟨x',hx,rfl⟩:=hc;exact MT ho hx hs h
 |mapEntry t x i =>
  rw[ho]at hc;simp only[cP]at hc
  split at hc
  ·rename_i k e hu
   simp only[Option.bind_eq_bind,Option.bind_eq_some_iff,Option.pure_def,Option.some.injEq]at hc
   obtain⟨n,hn,z,hz,x',hx,i',hi,rfl⟩:=hc
   exact MX ho hu hn hz hx hi hs h
  ·cases hc
 |entryStore t x s y =>
  rw[ho]at hc;simp only[cP,Option.bind_eq_bind,Option.bind_eq_some_iff,Option.pure_def,Option.some.injEq]at hc
  obtain⟨x',hx,s',hs',y',hy,rfl⟩:=hc
  exact zU ho hx hs' hy hs h
 |makeMap t r =>
  rw[ho]at hc
  cases r<;>simp only[cP,Option.some.injEq]at hc
  ·subst hc;exact PR ho hs h
  ·cases hc
 |lookup t x i ok =>
  rw[ho]at hc;simp only[cP]at hc
  split at hc
  ·rename_i k e hu
   simp only[Option.bind_eq_bind,Option.bind_eq_some_iff,Option.pure_def,Option.some.injEq]at hc
   obtain⟨n,hn,z,hz,x',hx,i',hi,rfl⟩:=hc
   exact MW ho hu hn hz hx hi hs h
  ·cases hc
 |mapUpdate t x i y =>
  rw[ho]at hc;simp only[cP]at hc
  split at hc
  ·rename_i k e hu
   simp only[Option.bind_eq_bind,Option.bind_eq_some_iff,Option.pure_def,Option.some.injEq]at hc
   obtain⟨n,hn,x',hx,i',hi,y',hy,rfl⟩:=hc
   exact D1 (.inl ho) hu hn hx hi hy hs h
  ·cases hc
 |insert t x i y =>
  rw[ho]at hc;simp only[cP]at hc
  split at hc
  ·rename_i k e hu
   simp only[Option.bind_eq_bind,Option.bind_eq_some_iff,Option.pure_def,Option.some.injEq]at hc
   obtain⟨n,hn,x',hx,i',hi,y',hy,rfl⟩:=hc
   exact D1 (.inr ho) hu hn hx hi hy hs h
  ·cases hc
 |call c =>
  rw[ho]at hc;simp only[cP]at hc
  obtain⟨callee,⟨args⟩,⟨tys⟩⟩:=c
  unfold IC at hc
  split at hc
  ·rename_i f he
   simp only[]at he;subst he
   simp only[Option.bind_eq_bind,Option.bind_eq_some_iff,Option.pure_def]at hc
   obtain⟨ys,hy,hc⟩:=hc
   cases oj<;>simp only[Bool.false_eq_true,if_false,if_true,Option.some.injEq]at hc<;>subst hc
   ·exact K8 ho hy hs h
   ·exact K8 ho hy hs (show d7 P (.call f ys) ρ H K from h)
  ·rename_i t he
   simp only[]at he;subst he
   simp only[Option.bind_eq_bind,Option.bind_eq_some_iff,Option.pure_def]at hc
   obtain⟨ys,hy,hc⟩:=hc
   cases oj<;>simp only[Bool.false_eq_true,if_false,if_true,Option.some.injEq]at hc<;>subst hc
   ·exact EX ho hy hs h
   ·exact EX ho hy hs (show d7 P (.callv (.t t) ys) ρ H K from h)
  ·rename_i he
   simp only[]at he hc;subst he
   unfold NG at hc
   split at hc
   ·split at hc
    ·rename_i hu
     simp only[Option.bind_eq_bind,Option.bind_eq_some_iff,Option.pure_def,Option.some.injEq]at hc
     obtain⟨x',hx,rfl⟩:=hc
     exact SS ho hx hu hs h
    ·rename_i hu
     simp only[Option.bind_eq_bind,Option.bind_eq_some_iff,Option.pure_def,Option.some.injEq]at hc
     obtain⟨x',hx,rfl⟩:=hc
     exact UK ho hx hu hs h
    ·rename_i hu
     simp only[Option.bind_eq_bind,Option.bind_eq_some_iff,Option.pure_def,Option.some.injEq]at hc
     obtain⟨x',hx,rfl⟩:=hc
     exact SR ho hx hu hs h
    ·cases hc
   ·cases hc
  ·rename_i he
   simp only[]at he hc;subst he
   unfold B2 at hc
   split at hc
   ·split at hc
    ·rename_i x y t u hsrc
     simp only[Option.bind_eq_bind,Option.bind_eq_some_iff,Option.pure_def,Option.some.injEq]at hc
     obtain⟨e,he,n,hn,b,hb,z,hz,x',hx,y',hy,hc⟩:=hc
     have hsr:(∃e',P.underlying u=some (.slice e'))∨P.underlying u=some .string:=by
      unfold O6 at hsrc
      split at hsrc
      ·rename_i e' hu;exact .inl ⟨_,hu⟩
      ·rename_i hu;exact .inr hu
      ·cases hsrc
     split at hc
     ·simp only[Option.some.injEq]at hc
      subst hc
      exact K6 ho hx hy he hsr hn hb hz hs h
     ·simp only[Option.some.injEq]at hc
      subst hc
      exact CZ ho hx hy he hsr hn hb hz hs h
    ·cases hc
   ·cases hc
  ·rename_i he
   simp only[]at he hc;subst he
   unfold R3 at hc
   split at hc
   ·simp only[Option.bind_eq_bind,Option.bind_eq_some_iff,Option.pure_def,Option.some.injEq]at hc
    obtain⟨x',hx,y',hy,rfl⟩:=hc
    exact WE ho hx hy hs h
   ·cases hc
  ·rename_i he
   simp only[]at he hc;subst he
   unfold R4 at hc
   split at hc
   ·simp only[Option.bind_eq_bind,Option.bind_eq_some_iff,Option.pure_def,Option.some.injEq]at hc
    obtain⟨x',hx,y',hy,rfl⟩:=hc
    exact WG ho hx hy hs h
   ·cases hc
  ·rename_i he
   simp only[]at he hc;subst he
   unfold NE at hc
   split at hc
   ·split at hc
    ·rename_i hu
     simp only[Option.bind_eq_bind,Option.bind_eq_some_iff,Option.pure_def,Option.some.injEq]at hc
     obtain⟨x',hx,rfl⟩:=hc
     exact UH ho hx hu hs h
    ·cases hc
   ·cases hc
  ·rename_i he
   simp only[]at he hc;subst he
   unfold NF at hc
   split at hc
   ·split at hc
    ·rename_i hu
     simp only[Option.bind_eq_bind,Option.bind_eq_some_iff,Option.pure_def,Option.some.injEq]at hc
     obtain⟨n,hn,x',hx,y',hy,rfl⟩:=hc
     exact K9 ho hu hn hx hy hs h
    ·cases hc
   ·cases hc
  ·cases hc
 |_=>rw[ho]at hc;simp only[cP]at hc;cases hc
end
section
variable {P:Program}{C C':Nat→Nat}{τ τ':Nat→Option Loc}{H H':List aB}{w w':World}
theorem bW.closed{d:a6}{v:Value}(h:bW C w τ H d v)(hd:d.closed=true)(hle:∀b,C b≤C' b)(hc:∀b i,i<C b→w'.cell? ⟨b,i,none⟩=w.cell? ⟨b,i,none⟩):bW C' w' τ' H' d v:=by
 cases d with
 |agg cs =>
  obtain⟨vs,rfl,hl,hr⟩:=h.agg_inv
  refine .agg _ _ hl fun i c v h1 h2=>.rd (((hr i c v h1 h2).pure ?_).mono hle hc)
  exact List.all_eq_true.1 hd c (List.mem_of_getElem? h1)
 |undef=>cases hd
 |tuple _=>cases hd
 |_=>exact .rd ((h.pure hd).mono hle hc)
theorem gX{es:List (List a6)}(h:bG es=true){i j:Nat}{e:List a6}{d:a6}(he:es[i]?=some e)(hd:e[j]?=some d):d.isPure=true :=
 List.all_eq_true.1 (List.all_eq_true.1 h e (List.mem_of_getElem? he)) d (List.mem_of_getElem? hd)
open Classical in
noncomputable def iJ(C:Nat→Nat)(τ:Nat→Option Loc)(H:List aB)(ids:List Nat)(b:Nat):Nat :=
 if h:∃id esz es l,id∉ids∧H[id]?=some (aB.arr esz es)∧τ id=some l∧l.b=b then
  (match H[h.choose]? with
  |some (.arr esz es)=>es.length*esz
  |_=>0)
 else C b
theorem x7(hw:WF C τ H w){ids:List Nat}{id esz:Nat}{es:List (List a6)}{l:Loc}(h1:id∉ids)(h2:H[id]?=some (.arr esz es))(h4:τ id=some l):
  iJ C τ H ids l.b=es.length*esz:=by
 have hex:∃id esz es l',id∉ids∧H[id]?=some (aB.arr esz es)∧τ id=some l'∧l'.b=l.b:=⟨id,esz,es,l,h1,h2,h4,rfl⟩
 unfold iJ
 rw[dif_pos hex]
 obtain⟨esz',es',l',_,g2,g4,g5⟩:=hex.choose_spec
 have hi:=(List.getElem?_eq_some_iff.1 h2).1
 have hi':=(List.getElem?_eq_some_iff.1 g2).1
 have e:=hw.inj _ _ _ _ hi' hi g4 h4 g5
 rw[e,h2]
theorem fR{ids:List Nat}{b:Nat}(h:∀id l,id<H.length→id∉ids→τ id=some l→l.b≠b):iJ C τ H ids b=C b:=by
 unfold iJ
 rw[dif_neg]
 rintro⟨id,esz,es,l,h1,h2,h4,h5⟩
 exact h id l (List.getElem?_eq_some_iff.1 h2).1 h1 h4 h5
theorem i6(hw:WF C τ H w){ids:List Nat}(b:Nat):C b≤iJ C τ H ids b:=by
 by_cases h:∃id l,id<H.length∧τ id=some l∧l.b=b
 ·obtain⟨id,l,h1,h2,rfl⟩:=h
  rw[hw.comm id l h1 h2];exact Nat.zero_le _
 ·rw[fR fun id l h1 _ h2 h3=>h ⟨id,l,h1,h2,h3⟩];exact Nat.le_refl _
theorem GB{n:Nat}{ids:List Nat}{τ1 τ2:Nat→Option Loc}{H1 H2:List aB}(hw:WF C τ1 H1 w)(hkeep:∀k id,ids[k]?=some id→(∀esz es,H1[id]?=some (.arr esz es)→∃es2,H2[n+k]?=some (.arr esz es2)∧es2.length=es.length)∧τ2 (n+k)=τ1 id){v r:a6}(hp:dV H1 n ids v r):
  ∀{u:Value},bW C w τ1 H1 v u→bW (iJ C τ1 H1 ids) w τ2 H2 r u:=by
 induction hp with
 |closed v h=>intro u hr;exact hr.closed h (i6 hw) (fun _ _ _=>rfl)
 |frz id ep off len esz es ho hep hp hid =>
  intro u hr
  obtain⟨ad,cap,rfl,h1,h2,h3⟩:=hr.sl_inv ho hep
  have hlen:((es.drop off).take len).length=len:=by simp;omega
  by_cases hz:len=0
  ·subst hz
   rw[List.take_zero]
   exact .rd (.list0 _ _ _ _ fun e=>by cases e)
  ·rcases h3 with⟨_,hc⟩|⟨l,hl,hl2,hl3⟩
   ·omega
   ·rcases hl3 with hc|rfl
    ·omega
    ·have hcm:=x7 hw (ids:=ids) hid ho hl
     have hok:=hw.ok id _ ho
     have get:∀i,((es.drop off).take len)[i]?=if i<len then es[off+i]? else none:=by
      intro i
      by_cases hi:i<len
      ·rw[if_pos hi,List.getElem?_take_of_lt hi,List.getElem?_drop]
      ·rw[if_neg hi,List.getElem?_eq_none (by simp;omega)]
     have cellv:∀i j,i<len→j<esz→∃v,w.cell? ⟨l.b,off*esz+i*esz+j,none⟩=some v∧∀e d,es[off+i]?=some e→e[j]?=some d→bW C w τ1 H1 d v:=by
      intro i j hi hj
      have he:es[off+i]?=some es[off+i]:=List.getElem?_eq_getElem (by omega)
      have hel:=(hok _ (List.mem_of_getElem? he)).1
      have hd:=List.getElem?_eq_getElem (show j<es[off+i].length by omega)
      obtain⟨_,v,hv,hrv⟩:=hw.reads ho hl he j _ hd
      refine⟨v,?_,fun e d he' hd'=>?_⟩
      ·rw[←Nat.add_mul];exact hv
      ·rw[he]at he';cases he'
       rw[hd]at hd';cases hd';exact hrv
     have key:=Rd.list (C:=iJ C τ1 H1 ids) (w:=w) false esz ((es.drop off).take len) l.b (off*esz) cap
      (fun i j=>(w.cell? ⟨l.b,off*esz+i*esz+j,none⟩).getD undef) (fun e=>by cases e) (by omega) (fun e he=>(hok e (List.mem_of_mem_drop (List.mem_of_mem_take he))).1)
      (by rw[hcm,hlen,←Nat.add_mul];exact Nat.mul_le_mul_right _ h1)
      (fun i j hi hj=>by
       rw[hlen]at hi
       obtain⟨v,hv,_⟩:=cellv i j hi hj
       rw[hv];rfl)
      (fun i j e d he hd=>by
       rw[get]at he
       split at he
       ·exact(hok e (List.mem_of_getElem? he)).2 d (List.mem_of_getElem? hd)
       ·cases he)
      (fun i j e d he hd=>by
       rw[get]at he
       split at he
       ·rename_i hi
        have hel:=(hok e (List.mem_of_getElem? he)).1
        have hj:=(List.getElem?_eq_some_iff.1 hd).1
        obtain⟨v,hv,hrv⟩:=cellv i j hi (by omega)
        rw[hv]
        exact((hrv e d he hd).pure (gX hp he hd)).mono (i6 hw) (fun _ _ _=>rfl)
       ·cases he)
     rw[hlen]at key
     exact .rd key
 |frzN id ep off len esz es es1 ho hep hid hl0 hl2 hp1 h ih =>
  intro u hr
  obtain⟨ad,cap,rfl,h1,h2,h3⟩:=hr.sl_inv ho hep
  have hlen:((es1.drop off).take len).length=len:=by simp;omega
  by_cases hz:len=0
  ·subst hz
   rw[List.take_zero]
   exact .rd (.list0 _ _ _ _ fun e=>by cases e)
  ·rcases h3 with⟨_,hc⟩|⟨l,hl,hl2',hl3⟩
   ·omega
   ·rcases hl3 with hc|rfl
    ·omega
    ·have hcm:=x7 hw (ids:=ids) hid ho hl
     have hok:=hw.ok id _ ho
     have both:∀(i:Nat) (e1:List a6),es1[i]?=some e1→∃e:List a6,es[i]?=some e∧e.length=esz∧e1.length=esz:=by
      intro i e1 he1
      have hi:=(List.getElem?_eq_some_iff.1 he1).1
      have he:es[i]?=some es[i]:=List.getElem?_eq_getElem (by omega)
      have g:=(hok _ (List.mem_of_getElem? he)).1
      exact⟨_,he,g,(hl2 i _ _ he he1).trans g⟩
     have get:∀i,((es1.drop off).take len)[i]?=if i<len then es1[off+i]? else none:=by
      intro i
      by_cases hi:i<len
      ·rw[if_pos hi,List.getElem?_take_of_lt hi,List.getElem?_drop]
      ·rw[if_neg hi,List.getElem?_eq_none (by simp;omega)]
     have cellv:∀i j,i<len→j<esz→∃v,w.cell? ⟨l.b,off*esz+i*esz+j,none⟩=some v∧∀e d,es[off+i]?=some e→e[j]?=some d→bW C w τ1 H1 d v:=by
      intro i j hi hj
      have he:es[off+i]?=some es[off+i]:=List.getElem?_eq_getElem (by omega)
      have hel:=(hok _ (List.mem_of_getElem? he)).1
      have hd:=List.getElem?_eq_getElem (show j<es[off+i].length by omega)
      obtain⟨_,v,hv,hrv⟩:=hw.reads ho hl he j _ hd
      refine⟨v,?_,fun e d he' hd'=>?_⟩
      ·rw[←Nat.add_mul];exact hv
      ·rw[he]at he';cases he'
       rw[hd]at hd';cases hd';exact hrv
     have key:=Rd.list (C:=iJ C τ1 H1 ids) (w:=w) false esz ((es1.drop off).take len) l.b (off*esz) cap
      (fun i j=>(w.cell? ⟨l.b,off*esz+i*esz+j,none⟩).getD undef) (fun e=>by cases e) (by omega)
      (fun e he=>by
       obtain⟨i,hi⟩:=List.getElem?_of_mem (List.mem_of_mem_drop (List.mem_of_mem_take he))
       obtain⟨_,_,_,g⟩:=both i e hi
       exact g)
      (by rw[hcm,hlen,←Nat.add_mul];exact Nat.mul_le_mul_right _ h1)
      (fun i j hi hj=>by
       rw[hlen]at hi
       obtain⟨v,hv,_⟩:=cellv i j hi hj
       rw[hv];rfl)
      (fun i j e d he hd=>by
       rw[get]at he
       split at he
       ·exact a6.isCell_of_isPure (hp1 _ j e d he hd)
       ·cases he)
      (fun i j e d he hd=>by
       rw[get]at he
       split at he
       ·rename_i hi
        obtain⟨e0,he0,hl0',hl1'⟩:=both _ e he
        have hj:=(List.getElem?_eq_some_iff.1 hd).1
        obtain⟨v,hv,hrv⟩:=cellv i j hi (by omega)
        rw[hv]
        have hd0:e0[j]?=some e0[j]:=List.getElem?_eq_getElem (by omega)
        exact(ih _ j _ _ _ _ he0 he hd0 hd (hrv _ _ he0 hd0)).pure (hp1 _ j e d he hd)
       ·cases he)
     rw[hlen]at key
     exact .rd key
 |keep id ep off len k hk =>
  intro u hr
  obtain⟨e1,e2⟩:=hkeep k id hk
  cases hr with
  |rd hr=>cases hr
  |sl _ _ _ _ a cap esz es ho hep h =>
   obtain⟨es1,g1,g2⟩:=e1 esz es ho
   refine .sl _ _ _ _ a cap esz es1 g1 (by omega) fun e=>?_
   rw[e2,g2];exact h (by omega)
 |dead v=>intro u _;exact .undef _
 |frzP id ep idx fld esz es e ho hep he hp hid =>
  intro u hr
  obtain⟨l,hl,rfl⟩:=hr.ptr_inv ho hep
  have hcm:=x7 hw (ids:=ids) hid ho hl
  have hok:=hw.ok id _ ho
  have hel:=(hok _ (List.mem_of_getElem? he)).1
  have hidx:=(List.getElem?_eq_some_iff.1 he).1
  refine .rd (Rd.cptr e fld l.b (idx*esz) (fun j=>(w.cell? ⟨l.b,idx*esz+j,none⟩).getD undef) ?_ (fun j hj=>?_) (fun j d hd=>(hok e (List.mem_of_getElem? he)).2 d (List.mem_of_getElem? hd)) (fun j d hd=>?_))
  ·rw[hcm,hel]
   have:=Nat.mul_le_mul_right esz (show idx+1≤es.length from hidx)
   rw[Nat.add_mul]at this;omega
  ·obtain⟨_,v,hv,hrv⟩:=hw.reads ho hl he j _ (List.getElem?_eq_getElem hj)
   rw[hv];rfl
  ·obtain⟨_,v,hv,hrv⟩:=hw.reads ho hl he j d hd
   rw[hv]
   exact(hrv.pure (gX hp he hd)).mono (i6 hw) (fun _ _ _=>rfl)
 |fnc f vs rs hl h ih =>
  intro u hr
  cases hr with
  |rd hr =>
   cases hr
   cases rs with
   |nil=>exact .rd (.fn f)
   |cons r rs=>simp at hl
  |fn _ _ us hl2 hr2 =>
   refine .fn _ _ _ (by omega) fun i c v hc hv=>?_
   have hi:=(List.getElem?_eq_some_iff.1 hc).1
   have hvi:vs[i]?=some vs[i]:=List.getElem?_eq_getElem (by omega)
   exact ih i _ c hvi hc (hr2 i _ v hvi hv)
 |NR id ep off len cap k hk =>
  intro u hr
  obtain⟨e1,e2⟩:=hkeep k id hk
  cases hr with
  |rd hr=>cases hr
  |slc _ _ _ _ _ a esz es ho hep h =>
   obtain⟨es1,g1,g2⟩:=e1 esz es ho
   refine .slc _ _ _ _ _ a esz es1 g1 (by omega) fun e=>?_
   rw[e2,g2];exact h (by omega)
 |keepP id ep idx fld k hk =>
  intro u hr
  obtain⟨e1,e2⟩:=hkeep k id hk
  cases hr with
  |rd hr=>cases hr
  |ptr _ _ _ _ a esz es ho hep h =>
   obtain⟨es1,g1,g2⟩:=e1 esz es ho
   refine .ptr _ _ _ _ a esz es1 g1 (by omega) fun e=>?_
   rw[e2];exact h (by omega)
 |tuple vs rs hl h ih =>
  intro u hr
  obtain⟨us,rfl,hl2,hr2⟩:=hr.tuple_inv
  refine .tuple _ _ (by omega) fun i c v hc hv=>?_
  have hi:=(List.getElem?_eq_some_iff.1 hc).1
  have hvi:vs[i]?=some vs[i]:=List.getElem?_eq_getElem (by omega)
  exact ih i _ c hvi hc (hr2 i _ v hvi hv)
 |agg vs rs hl h ih =>
  intro u hr
  cases hr with
  |rd hr=>cases hr
  |agg _ us hl2 hr2 =>
   refine .agg _ _ (by omega) fun i c v hc hv=>?_
   have hi:=(List.getElem?_eq_some_iff.1 hc).1
   have hvi:vs[i]?=some vs[i]:=List.getElem?_eq_getElem (by omega)
   exact ih i _ c hvi hc (hr2 i _ v hvi hv)
theorem NL{ids:List Nat}:∀{is:List Nat}{r:List aB},TT H ids is r→is.length=r.length∧∀(k id:Nat),is[k]?=some id→∃o o1,H[id]?=some o∧r[k]?=some o1∧zY H ids o o1
 |[],[],_=>⟨rfl,fun k id h=>by simp at h⟩
 |x::is,o1::r,h=>by
  obtain⟨⟨o,h1,h2⟩,h3⟩:=h
  obtain⟨g1,g2⟩:=NL h3
  refine⟨by simp[g1],fun k id hk=>?_⟩
  cases k with
  |zero=>simp at hk;subst hk;exact⟨o,o1,h1,rfl,h2⟩
  |succ k=>exact g2 k id (by simpa using hk)
 |[],_::_,h=>h.elim
 |_::_,[],h=>h.elim
theorem NM{ids:List Nat}:∀{ρ ρ1:List a6},Y2 H ids ρ ρ1→ρ1.length=ρ.length∧∀t,dV H 0 ids (cO ρ t) (cO ρ1 t)
 |[],[],_=>⟨rfl,fun t=>by simp only[cO];exact .dead _⟩
 |v::vs,r::rs,h=>by
  obtain⟨g1,g2⟩:=NM h.2
  refine⟨by simp[g1],fun t=>?_⟩
  cases t with
  |zero=>exact h.1
  |succ t=>exact g2 t
 |[],_::_,h=>h.elim
 |_::_,[],h=>h.elim
theorem SA.regroup{E:tT}{ρ:List a6}{a:Act}(hs:SA E C τ ρ H a w){I:List a6→List aB→Prop}(hg:Gp (E.H0.map aB.olen) ρ H I):∃ρ1 H1 C1 τ1,I ρ1 H1∧SA E C1 τ1 ρ1 H1 a w:=by
 rcases hg with h|⟨ids,ρ1,H1,hnd,hB,hO,hS,hI⟩
 ·exact⟨ρ,H,C,τ,h,hs⟩
 have hpr:=E.hpr
 have hst:=hs.st
 have hw:=hst.wf
 obtain⟨hlen,hobj⟩:=NL hO
 obtain⟨hρ,hslot⟩:=NM hS
 let τ1:Nat→Option Loc:=fun i=>match ids[i]? with
  |some id=>τ id
  |none=>none
 have hτ:∀k id,ids[k]?=some id→τ1 k=τ id:=fun k id hk=>by simp only[τ1,hk]
 have hidlt:∀k id,ids[k]?=some id→id<H.length:=fun k id hk=>by
  obtain⟨o,_,h1,_⟩:=hobj k id hk
  exact(List.getElem?_eq_some_iff.1 h1).1
 have hid:∀i,i<H1.length→∃id,ids[i]?=some id:=fun i hi=>⟨ids[i],List.getElem?_eq_getElem (by omega)⟩
 have hkeep:∀k id,ids[k]?=some id→(∀esz es,H[id]?=some (.arr esz es)→∃es2,H1[0+k]?=some (.arr esz es2)∧es2.length=es.length)∧τ1 (0+k)=τ id:=fun k id hk=>by
  rw[Nat.zero_add]
  refine⟨fun esz es he=>?_,hτ k id hk⟩
  obtain⟨o,o1,h1,h2,h3⟩:=hobj k id hk
  rw[he]at h1;cases h1
  cases h3 with
  |same _ _ _=>exact⟨es,h2,rfl⟩
  |map _ _ es1 hl _ _=>exact⟨es1,h2,hl⟩
 have rel:∀{v r:a6}{u:Value},dV H 0 ids v r→bW C w τ H v u→bW (iJ C τ H ids) w τ1 H1 r u:=fun hp hr=>GB hw hkeep hp hr
 refine⟨ρ1,H1,iJ C τ H ids,τ1,hI,⟨⟨⟨?_,?_,?_,?_,?_,?_⟩,hst.fr,?_,hst.plt⟩,⟨?_,fun b i hi=>hs.step.cell b i hi,?_,hs.step.grow,?_⟩,fun t=>rel (hslot t) (hs.tmps t),hρ.trans hs.size,hs.defers⟩⟩
 ·intro i o1 ho
  obtain⟨id,hk⟩:=hid i (List.getElem?_eq_some_iff.1 ho).1
  obtain⟨o,o1',h1,h2,h3⟩:=hobj i id hk
  rw[ho]at h2;cases h2
  have hok:=hw.ok id o h1
  cases h3 with
  |same _ _ _=>exact hok
  |iter _ _=>exact hok
  |mp _ _=>exact hok
  |mpc _ _=>exact hok
  |map esz es es1 hl hl2 hp =>
   intro e1 he1
   obtain⟨n,hn⟩:=List.getElem?_of_mem he1
   have hnl:=(List.getElem?_eq_some_iff.1 hn).1
   have he:es[n]?=some es[n]:=List.getElem?_eq_getElem (by omega)
   obtain⟨g1,g2⟩:=hok _ (List.mem_of_getElem? he)
   refine⟨(hl2 n _ _ he hn).trans g1,fun d1 hd1=>?_⟩
   obtain⟨j,hj⟩:=List.getElem?_of_mem hd1
   have hjl:=(List.getElem?_eq_some_iff.1 hj).1
   have:=hl2 n _ _ he hn
   exact(hp n j _ _ _ d1 he hn (List.getElem?_eq_getElem (by omega)) hj).2
 ·intro i o1 ho ht
  obtain⟨id,hk⟩:=hid i (List.getElem?_eq_some_iff.1 ho).1
  obtain⟨o,o1',h1,h2,h3⟩:=hobj i id hk
  rw[ho]at h2;cases h2
  rw[hτ i id hk]at ht
  obtain⟨esz,rfl⟩:=hw.virt id o h1 ht
  cases h3 with
  |same _ _ _=>exact⟨esz,rfl⟩
  |map _ _ es1 hl _ _ =>
   have:es1=[]:=List.length_eq_zero_iff.1 hl
   subst this;exact⟨esz,rfl⟩
 ·intro i o1 l ho ht
  obtain⟨id,hk⟩:=hid i (List.getElem?_eq_some_iff.1 ho).1
  obtain⟨o,o1',h1,h2,h3⟩:=hobj i id hk
  rw[ho]at h2;cases h2
  rw[hτ i id hk]at ht
  have hat:=hw.objs id o l h1 ht
  cases h3 with
  |iter _ _=>exact hat
  |mp kvs hp =>
   obtain⟨kvs0,es,clock,pp,a1,a2,a3,a4⟩:=hat
   exact⟨kvs0,es,clock,pp,a1,a2,fun i e kv he hkv=>⟨(a3 i e kv he hkv).1,.rd (((a3 i e kv he hkv).2.pure (List.all_eq_true.1 hp kv (pp.mem_iff.1 (List.mem_of_getElem? hkv)))).mono (i6 hw) (fun _ _ _=>rfl))⟩,a4⟩
  |mpc kvs hp =>
   obtain⟨kvs0,es,clock,pp,a1,a2,a3,a4⟩:=hat
   exact⟨kvs0,es,clock,pp,a1,a2,fun i e kv he hkv=>⟨(a3 i e kv he hkv).1,(a3 i e kv he hkv).2.closed (List.all_eq_true.1 hp kv (pp.mem_iff.1 (List.mem_of_getElem? hkv))) (i6 hw) (fun _ _ _=>rfl)⟩,a4⟩
  |same esz es hp =>
   obtain⟨a1,cells,elem,fz,a2,a3,a4,a5⟩:=hat
   refine⟨a1,cells,elem,fz,a2,a3,a4,fun i j e d hi hd=>?_⟩
   obtain⟨x,hx1,hx2⟩:=a5 i j e d hi hd
   exact⟨x,hx1,.rd ((hx2.pure (gX hp hi hd)).mono (i6 hw) (fun _ _ _=>rfl))⟩
  |map esz es es1 hl hl2 hp =>
   obtain⟨a1,cells,elem,fz,a2,a3,a4,a5⟩:=hat
   refine⟨by omega,cells,elem,fz,a2,a3,a4,fun i j e1 d1 hi hd=>?_⟩
   have hil:=(List.getElem?_eq_some_iff.1 hi).1
   have hjl:=(List.getElem?_eq_some_iff.1 hd).1
   have he:es[i]?=some es[i]:=List.getElem?_eq_getElem (by omega)
   have hl3:=hl2 i _ _ he hi
   have hd0:es[i][j]?=some es[i][j]:=List.getElem?_eq_getElem (by omega)
   obtain⟨x,hx1,hx2⟩:=a5 i j _ _ he hd0
   exact⟨x,hx1,rel (hp i j _ _ _ d1 he hi hd0 hd).1 hx2⟩
 ·intro i l hi ht
  obtain⟨id,hk⟩:=hid i hi
  rw[hτ i id hk]at ht
  have hlt:=hidlt i id hk
  rw[fR fun id' l' h1 h2 h3 h4=>h2 (by
   have:=hw.inj id' id l' l h1 hlt h3 ht h4
   subst this;exact List.mem_of_getElem? hk)]
  exact hw.comm id l hlt ht
 ·intro i j li lj hi hj hti htj hb
  obtain⟨id,hk⟩:=hid i hi
  obtain⟨id',hk'⟩:=hid j hj
  rw[hτ i id hk]at hti;rw[hτ j id' hk']at htj
  have e:=hw.inj id id' li lj (hidlt i id hk) (hidlt j id' hk') hti htj hb
  subst e
  have hki:=(List.getElem?_eq_some_iff.1 hk)
  have hki':=(List.getElem?_eq_some_iff.1 hk')
  have hne:=List.pairwise_iff_getElem.1 hnd
  rcases Nat.lt_trichotomy i j with h3|h3|h3
  ·exact absurd (hki.2.trans hki'.2.symm) (hne i j hki.1 hki'.1 h3)
  ·exact h3
  ·exact absurd (hki'.2.trans hki.2.symm) (hne j i hki'.1 hki.1 h3)
 ·intro b hb
  by_cases h1:∃id l,id<H.length∧τ id=some l∧l.b=b
  ·obtain⟨id,l,h1,h2,rfl⟩:=h1
   exact hw.locLt h1 h2
  ·rw[fR fun id l g1 _ g2 g3=>h1 ⟨id,l,g1,g2,g3⟩]at hb
   exact hw.lt b hb
 ·rintro b ⟨i,l,hi,ht,rfl⟩
  obtain⟨id,hk⟩:=hid i hi
  rw[hτ i id hk]at ht
  exact hst.own _ ⟨id,l,hidlt i id hk,ht,rfl⟩
 ·exact fun b=>Nat.le_trans (hs.step.le b) (i6 hw b)
 ·intro k o0 ho
  obtain⟨hk,o,hok,_⟩:=hB k o0.olen (by rw[List.getElem?_map,ho];rfl)
  obtain⟨o',ho',haft⟩:=hs.step.obj k o0 ho
  rw[hok]at ho';cases ho'
  obtain⟨o2,o1,h1,h2,h3⟩:=hobj k k hk
  rw[hok]at h1;cases h1
  refine⟨o1,h2,aB.after_trans haft ?_⟩
  rw[hτ k k hk]
  cases h3 with
  |same _ _ _=>exact aB.after_refl _ _
  |iter _ _=>exact aB.after_refl _ _
  |mp _ _=>exact aB.after_refl _ _
  |mpc _ _=>exact aB.after_refl _ _
  |map _ _ es1 hl _ _=>exact⟨rfl,by omega,fun _=>rfl⟩
 ·intro b hb
  rw[fR fun id l h1 hn h2 h3=>?_]
  ·exact hs.step.old b hb
  ·obtain⟨k,l0,g1,g2,g3⟩:=hpr b hb (hst.own b ⟨id,l,h1,h2,h3⟩)
   have ho:E.H0[k]?=some E.H0[k]:=List.getElem?_eq_getElem g1
   obtain⟨hk,o,hok,hlen'⟩:=hB k (E.H0[k]).olen (by rw[List.getElem?_map,ho];rfl)
   obtain⟨o',ho',haft⟩:=hs.step.obj k _ ho
   rw[hok]at ho';cases ho'
   have ht:τ k=E.τ0 k:=by
    revert haft hlen'
    cases E.H0[k]<;>cases o<;>intro hlen' haft
    all_goals first
     |exact haft.2.2 hlen'.symm
     |exact haft.elim
     |exact haft
     |exact haft.2
   have:=hw.inj id k l l0 h1 (List.getElem?_eq_some_iff.1 hok).1 h2 (by rw[ht];exact g2) (by rw[h3,g3])
   subst this
   exact hn (List.mem_of_getElem? hk)
theorem K4:∀(l:List a6) (n:Nat) (v:a6),(jP l n v).length=l.length
 |[],_,_=>rfl
 |_::_,0,_=>rfl
 |_::xs,n+1,v=>by simp[jP,K4 xs n v]
theorem SA.nv{E:tT}:∀(vs:List (Nat×Nat)) {C:Nat→Nat}{τ:Nat→Option Loc}{ρ:List a6}{H:List aB}{a:Act}{w:World}{k:List a6→List aB→Prop},SA E C τ ρ H a w→TB vs ρ H k→∃τ1 ρ1 H1,k ρ1 H1∧SA E C τ1 ρ1 H1 a w
 |[],C,τ,ρ,H,a,w,k,hs,h=>⟨τ,ρ,H,h,hs⟩
 |(s,sz)::vs,C,τ,ρ,H,a,w,k,hs,h=>by
  rw[J8]at h
  simp only[jI]at h
  split at h
  case h_2=>exact h.elim
  rename_i hv
  simp only[dG,mP,Nat.zero_add]at h
  obtain⟨st,s1⟩:=hs.st.virt sz
  have hs1:=hs.go st s1
  have hn:a.tmps.getD s undef=.slice none 0 0:=by
   have:=hs.tmps s
   rw[hv]at this
   generalize a.tmps.getD s undef=z at this
   cases this with
   |rd h=>cases h;rfl
  have hs2:SA E C (lB τ H.length none) (jP ρ s (.sl H.length 0 0 0)) (H++[.arr sz []]) a w:=by
   refine⟨hs1.st,hs1.step,fun t=>?_,by rw[K4,hs1.size],hs1.defers⟩
   rw[l6]
   split
   ·rename_i ht
    rw[ht.1,hn]
    exact .sl _ _ _ _ _ _ sz [] (by simp) (Nat.le_refl _) fun _=>⟨Nat.le_refl _,Nat.le_refl _,.inl ⟨bZ _ _ _,rfl⟩⟩
   ·exact hs1.tmps t
  exact SA.nv vs hs2 h
end
end Go.AW
