/-
  An abstract machine over the model, the code of functions on it, and their contracts: what the claim needs.
  No condition: definitions, plain laws, contracts over any program that has this code.
-/
import Derived.Test.YtbjodpkinpnebaaGreatZ5
set_option linter.all false
namespace Go.AW
variable [Draws]
attribute [local irreducible] ACalls
def rdData (r : RdS) (rm : Bool) : List Int × RdS:=if rm then ([],r) else (tkL (nbV 4 r) (tkS 4 r),tkS (nbV 4 r) (tkS 4 r))
def rdRm (r : RdS) : Bool:=nbV 1 r != 0
def rdEnd (r : RdS) (nm : ByteArray) (d : List Int) : RdS:=if !qualB nm || decide (65536 < d.length) then ⟨r.rest,true⟩ else r
def rdStep (r : RdS) (cs : List (ByteArray × Chg)) : RdS × List (ByteArray × Chg) :=
 (rdEnd (rdData (txS (tkS 1 r)) (rdRm r)).2 (txV (tkS 1 r)) (rdData (txS (tkS 1 r)) (rdRm r)).1,kIns (txV (tkS 1 r)) ⟨rdRm r,(rdData (txS (tkS 1 r)) (rdRm r)).1⟩ cs)
def rdLoop : Nat → RdS → List (ByteArray × Chg) → RdS × List (ByteArray × Chg)
 | 0,r,cs=>(r,cs)
 | n + 1,r,cs=>if r.bad then (r,cs) else rdLoop n (rdStep r cs).1 (rdStep r cs).2
theorem rdData_byt {r : RdS} (rm : Bool) (h : Byt r.rest) : Byt (rdData r rm).2.rest:=by
 unfold rdData
 cases rm
 ·exact tkS_byt (tkS_byt h)
 ·exact h
theorem rdStep_byt {r : RdS} (cs : List (ByteArray × Chg)) (h : Byt r.rest) : Byt (rdStep r cs).1.rest:=by
 unfold rdStep rdEnd
 have:=rdData_byt (rdRm r) (txS_byt (tkS_byt (n:=1) h))
 split
 ·exact this
 ·exact this
theorem rdLoop_srt : ∀ (n : Nat) (r : RdS) {cs : List (ByteArray × Chg)},KSrt cs → KSrt (rdLoop n r cs).2
 | 0,_,_,h=>h
 | n + 1,r,cs,h=>by
  unfold rdLoop
  split
  ·exact h
  ·exact rdLoop_srt n _ (h.ins _ _)
def comF (σ : Sto) (env : ByteArray) (d : List (ByteArray × List Int)) : Sto:=mvS (vvS (vbS σ env d) env (σ.vers env + 1)) env
def rcomC (r : RdS) : RdS × List (ByteArray × Chg):=rdLoop (nbV 2 (txS r)).toNat (tkS 2 (txS r)) []
def rcommitR (σ : Sto) (r : RdS) : Option (List Int × Sto) :=
 if (rcomC r).1.bad || decide (256 < (afterL (σ.blobs (txV r)) (rcomC r).2).length) || !nameB (txV r) || decide ((rcomC r).2.length = 0) then none
 else some (payI (txV r) (rcomC r).2,comF σ (txV r) (afterL (σ.blobs (txV r)) (rcomC r).2))
theorem tkS_ok {n : Int} {q : RdS} (h : (tkS n q).bad = false) : q.bad = false ∧ (tkS n q).rest.length + n.toNat = q.rest.length ∧ (tkL n q).length = n.toNat:=by
 unfold tkS at h ⊢
 unfold tkL
 cases ht : tkB n q with
 | false=>rw [ht,if_neg (by decide)] at h;cases h
 | true =>
  rw [if_pos rfl,if_pos rfl]
  unfold tkB at ht
  simp at ht
  refine ⟨ht.1,?_,?_⟩
  ·simp;omega
  ·simp;omega
theorem txS_ok {q : RdS} (h : (txS q).bad = false) : q.bad = false ∧ (txS q).rest.length + (txV q).size + 1 = q.rest.length:=by
 have h1:=tkS_ok (show (tkS (nbV 1 q) (tkS 1 q)).bad = false from h)
 have h2:=tkS_ok h1.1
 have h6 : (txV q).size = (tkL (nbV 1 q) (tkS 1 q)).length:=by rw [txV,strOf_size]
 have h7 : (txS q).rest = (tkS (nbV 1 q) (tkS 1 q)).rest:=rfl
 refine ⟨h2.1,?_⟩
 rw [h7,h6]
 have:=h1.2
 have:=h2.2
 omega
theorem flat_filter (p : ByteArray × Chg → Bool) : ∀ c : List (ByteArray × Chg),((c.filter p).flatMap entI).length ≤ (c.flatMap entI).length
 | []=>Nat.le_refl _
 | x :: c=>by
  have:=flat_filter p c
  rw [List.filter_cons,List.flatMap_cons,List.length_append]
  split
  ·rw [List.flatMap_cons,List.length_append];omega
  ·omega
theorem flat_ins (k : ByteArray) (a : Chg) (c : List (ByteArray × Chg)) : ((kIns k a c).flatMap entI).length ≤ (entI (k,a)).length + (c.flatMap entI).length:=by
 have h1:=((kIns_perm k a c).flatMap_right entI).length_eq
 rw [h1,List.flatMap_cons,List.length_append]
 have:=flat_filter (fun p=>!kEq k p.1) c
 have h2 : kDel k c = c.filter fun p=>!kEq k p.1:=rfl
 rw [h2];omega
theorem rdStep_len {q : RdS} {cs : List (ByteArray × Chg)} (h : (rdStep q cs).1.bad = false) : q.bad = false ∧ ((rdStep q cs).2.flatMap entI).length + (rdStep q cs).1.rest.length ≤ (cs.flatMap entI).length + q.rest.length:=by
 have e1 : (rdStep q cs).1 = rdEnd (rdData (txS (tkS 1 q)) (rdRm q)).2 (txV (tkS 1 q)) (rdData (txS (tkS 1 q)) (rdRm q)).1:=rfl
 have e2 : (rdStep q cs).2 = kIns (txV (tkS 1 q)) ⟨rdRm q,(rdData (txS (tkS 1 q)) (rdRm q)).1⟩ cs:=rfl
 rw [e1] at h ⊢
 rw [e2]
 have h3:=flat_ins (txV (tkS 1 q)) ⟨rdRm q,(rdData (txS (tkS 1 q)) (rdRm q)).1⟩ cs
 have e3 : rdEnd (rdData (txS (tkS 1 q)) (rdRm q)).2 (txV (tkS 1 q)) (rdData (txS (tkS 1 q)) (rdRm q)).1 = (rdData (txS (tkS 1 q)) (rdRm q)).2:=by
  unfold rdEnd at h ⊢
  split
  ·rename_i hc;rw [if_pos hc] at h;cases h
  ·rfl
 rw [e3] at h ⊢
 cases hrm : rdRm q with
 | true =>
  rw [hrm] at h h3
  have e4 : rdData (txS (tkS 1 q)) true = ([],txS (tkS 1 q)):=by unfold rdData;rw [if_pos rfl]
  rw [e4] at h h3 ⊢
  have h4:=txS_ok h
  have h5:=tkS_ok h4.1
  refine ⟨h5.1,?_⟩
  have e5 : (entI (txV (tkS 1 q),⟨true,[]⟩)).length = (txV (tkS 1 q)).size + 2:=by simp [entI,txI,bytesI_length]
  have:=h5.2.1
  have:=h4.2
  show ((kIns (txV (tkS 1 q)) ⟨true,[]⟩ cs).flatMap entI).length + (txS (tkS 1 q)).rest.length ≤ _
  have h3 : ((kIns (txV (tkS 1 q)) ⟨true,[]⟩ cs).flatMap entI).length ≤ (entI (txV (tkS 1 q),⟨true,[]⟩)).length + (cs.flatMap entI).length:=h3
  have : (1 : Int).toNat = 1:=rfl
  omega
 | false =>
  rw [hrm] at h h3
  have e4 : rdData (txS (tkS 1 q)) false = (tkL (nbV 4 (txS (tkS 1 q))) (tkS 4 (txS (tkS 1 q))),tkS (nbV 4 (txS (tkS 1 q))) (tkS 4 (txS (tkS 1 q)))):=by unfold rdData;rw [if_neg (by decide)]
  rw [e4] at h h3 ⊢
  have h7:=tkS_ok (show (tkS (nbV 4 (txS (tkS 1 q))) (tkS 4 (txS (tkS 1 q)))).bad = false from h)
  have h6:=tkS_ok h7.1
  have h4:=txS_ok h6.1
  have h5:=tkS_ok h4.1
  refine ⟨h5.1,?_⟩
  generalize hdt : tkL (nbV 4 (txS (tkS 1 q))) (tkS 4 (txS (tkS 1 q))) = data at h3 h7 ⊢
  have e5 : (entI (txV (tkS 1 q),⟨false,data⟩)).length = (txV (tkS 1 q)).size + 6 + data.length:=by simp [entI,txI,bytesI_length,beN_length];omega
  have:=h5.2.1
  have:=h4.2
  have:=h6.2.1
  have:=h7.2
  show ((kIns (txV (tkS 1 q)) ⟨false,data⟩ cs).flatMap entI).length + (tkS (nbV 4 (txS (tkS 1 q))) (tkS 4 (txS (tkS 1 q)))).rest.length ≤ _
  have h3 : ((kIns (txV (tkS 1 q)) ⟨false,data⟩ cs).flatMap entI).length ≤ (entI (txV (tkS 1 q),⟨false,data⟩)).length + (cs.flatMap entI).length:=h3
  have : (1 : Int).toNat = 1:=rfl
  have : (4 : Int).toNat = 4:=rfl
  omega
theorem rdLoop_len : ∀ (n : Nat) {q : RdS} {cs : List (ByteArray × Chg)},(rdLoop n q cs).1.bad = false → q.bad = false ∧ ((rdLoop n q cs).2.flatMap entI).length + (rdLoop n q cs).1.rest.length ≤ (cs.flatMap entI).length + q.rest.length
 | 0,q,cs,h=>⟨h,Nat.le_refl _⟩
 | n + 1,q,cs,h=>by
  unfold rdLoop at h ⊢
  split
  ·rename_i hb;rw [if_pos hb] at h;exact ⟨h,Nat.le_refl _⟩
  ·rename_i hb;rw [if_neg hb] at h
   have h1:=rdLoop_len n h
   have h2:=rdStep_len h1.1
   exact ⟨h2.1,by have:=h1.2;have:=h2.2;omega⟩
theorem rcomC_len (r : RdS) (h : (rcomC r).1.bad = false) : (payI (txV r) (rcomC r).2).length ≤ r.rest.length + 1:=by
 have h1:=rdLoop_len _ h
 have h2:=tkS_ok h1.1
 have h3:=txS_ok h2.1
 have e : (payI (txV r) (rcomC r).2).length = 1 + (1 + (txV r).size) + 2 + ((rcomC r).2.flatMap entI).length:=by
  unfold payI txI;simp [beN_length,bytesI_length];omega
 have:=h1.2
 have:=h2.2.1
 have:=h3.2
 have : (2 : Int).toNat = 2:=rfl
 have h4 : ((rcomC r).2.flatMap entI).length + (rcomC r).1.rest.length ≤ 0 + (tkS 2 (txS r)).rest.length:=h1.2
 omega
section
variable {H : List AObj} {s : Nat} {σ : Sto} {ro : Nat → Option Role} {z : SP}
theorem setH {H X : List AObj} {i : Nat} {o o' : AObj} (hi : i < H.length) : (H.set i o ++ X).set i o' = H.set i o' ++ X:=by
 rw [List.set_append_left _ _ (by rw [List.length_set];exact hi),List.set_set]
theorem getH {H X : List AObj} {i : Nat} {o : AObj} (hi : i < H.length) : (H.set i o ++ X)[i]? = some o:=by
 rw [List.getElem?_append_left (by rw [List.length_set];exact hi),List.getElem?_set_self hi]
theorem snocA {A X : List AObj} {o : AObj} {n : Nat} {k : Nat → List AObj → Prop} (h : k (n + (A ++ X).length) (A ++ (X ++ [o]))) : snocK (A ++ X) o n k:=by rw [snocK_eq,List.append_assoc];exact h
theorem getSn (A X : List AObj) (o : AObj) : (A ++ (X ++ [o]))[0 + (A ++ X).length]? = some o:=by rw [← List.append_assoc];exact at_snoc _ _
theorem setSn (A X : List AObj) (o o' : AObj) : (A ++ (X ++ [o])).set (0 + (A ++ X).length) o' = A ++ (X ++ [o']):=by rw [← List.append_assoc,set_snoc,List.append_assoc]
theorem getSn2 (A X : List AObj) (o : AObj) {n : Nat} (hn : n = 0 + (A ++ X).length) : (A ++ (X ++ [o]))[n]? = some o:=by rw [hn];exact getSn _ _ _
theorem setSn2 (A X : List AObj) (o o' : AObj) {n : Nat} (hn : n = 0 + (A ++ X).length) : (A ++ (X ++ [o])).set n o' = A ++ (X ++ [o']):=by rw [hn];exact setSn _ _ _ _
set_option maxRecDepth 20000 in
theorem readCommit_spec {P : Program} (F : F_z0w P) (hCl : MClone P F.z0t.z0d.id)
  (hS : SKeys P F.z10.slices_Sorted_string.id F.z10.z0f.maps_Keys_mapstringstorechange_string_storechange_1.id)
  (h : RepP H s σ ro z) {i : Nat} {r : RdS} (hi : H[i]? = some (rdO r)) (hr : ro i = none) (hb : Byt r.rest) (hv : ∀ e,-4000000 ≤ σ.vers e ∧ σ.vers e ≤ 4000000) (hd : ∀ e,KSrt (σ.blobs e)) (hl : r.rest.length ≤ 80000) :
  ACalls P F.id [.ptr s 1 0 0,.ptr i 1 0 0] H (fun v H'=>∃ o,Again (H.set i o) s ro (rcommitR σ r) v H'):=by
 have hil:=(List.getElem?_eq_some_iff.1 hi).1
 have hb1:=txS_byt hb
 have hn:=nbV_bound (n:=2) (s:=txS r) (by omega) (by omega) hb1
 refine acalls_of_body F.has ?_
 (conv=>whnf);refine ACalls.mono (rtext_spec (asB_text F.z16) r hb H i hi) ?_
 rintro v H1 ⟨rfl,rfl⟩
 (conv=>whnf);refine snocK_to ?_
 (conv=>whnf);refine ACalls.mono (rnumber_spec (asB_number F.z14) 2 (by omega) (by omega) (txS r) hb1 _ i (at_old (set_at hi))) ?_
 rintro v H1 ⟨rfl,rfl⟩
 conv=>whnf
 rw [setH hil]
 have hlen : 0 + (H.set i (rdO (txS r))).length = H.length:=by simp
 rw [hlen]
 refine ⟨fun m ρ H1=>∃ (q : RdS) (cs : List (ByteArray × Chg)) (kvs : List (AVal × AVal)) (G : List AObj),m ≤ 4294967296 ∧ rdLoop m q cs = rcomC r ∧ q.rest.length ≤ r.rest.length ∧ Byt q.rest ∧ PM RC kvs cs ∧ KSrt cs ∧ H1 = H.set i (rdO q) ++ .map kvs :: G ∧
  Sv 90 [(0,.ptr s 1 0 0),(1,.ptr i 1 0 0),(5,.str (txV r)),(6,.mp H.length),(7,.int .i64 m)] ρ,(nbV 2 (txS r)).toNat,[],?_,?_⟩
 ·exact ⟨_,_,[],[],by omega,rfl,Nat.le_trans (tkS_len _ _) (txS_len _),tkS_byt hb1,PM.nil,KSrt.nil,rfl,Sv.intro rfl ⟨rfl,rfl,rfl,rfl,intEq (by omega),trivial⟩⟩
 rintro m ρ H1 ⟨q,cs,kvs,G,hmm,hfin,hql,hbq,pc,sc,rfl,d,rfl⟩
 have hrd : ∀ X (q : RdS),(H.set i (rdO q) ++ X)[i]? = some (rdO q):=fun X q=>getH hil
 have hnum : ∀ (n : Int),0 ≤ n → n ≤ 4 → ∀ (q : RdS),Byt q.rest → ∀ X,ACalls P F.z14.id [.ptr i 1 0 0,.int .i64 n] (H.set i (rdO q) ++ X) (fun r H'=>r = .int .i64 (nbV n q) ∧ H' = H.set i (rdO (tkS n q)) ++ X):=fun n h0 h4 q hq X=>by
  have:=rnumber_spec (asB_number F.z14) n h0 h4 q hq (H.set i (rdO q) ++ X) i (hrd X q)
  rw [setH hil] at this;exact this
 have htak : ∀ (n : Int),0 ≤ n → ∀ (q : RdS) X,ACalls P F.z15.id [.ptr i 1 0 0,.int .i64 n] (H.set i (rdO q) ++ X) (fun r H'=>r = .list false 1 (bC (tkL n q)) ∧ H' = H.set i (rdO (tkS n q)) ++ X):=fun n h0 q X=>by
  have:=take_spec (asB_take F.z15) n h0 q (H.set i (rdO q) ++ X) i (hrd X q)
  rw [setH hil] at this;exact this
 have htxt : ∀ (q : RdS),Byt q.rest → ∀ X,ACalls P F.z16.id [.ptr i 1 0 0] (H.set i (rdO q) ++ X) (fun r H'=>r = .str (txV q) ∧ H' = H.set i (rdO (txS q)) ++ X):=fun q hq X=>by
  have:=rtext_spec (asB_text F.z16) q hq (H.set i (rdO q) ++ X) i (hrd X q)
  rw [setH hil] at this;exact this
 have hix : ∀ q,0 + (H.set i (rdO q) ++ AObj.map kvs :: G).length = H.length + (G.length + 1):=fun q=>by simp
 have hob : ∀ q o,(H.set i (rdO q) ++ (AObj.map kvs :: G ++ [o]))[H.length + (G.length + 1)]? = some o:=fun q o=>getSn2 _ _ _ (by simp)
 have hso : ∀ q o o',(H.set i (rdO q) ++ (AObj.map kvs :: G ++ [o])).set (H.length + (G.length + 1)) o' = H.set i (rdO q) ++ (AObj.map kvs :: G ++ [o']):=fun q o o'=>setSn2 _ _ _ _ (by simp)
 have hmp : ∀ q X,(H.set i (rdO q) ++ (AObj.map kvs :: X))[H.length]? = some (.map kvs):=fun q X=>by
  rw [List.getElem?_append_right (by simp)];simp
 have hsm : ∀ q kvs' X,(H.set i (rdO q) ++ (AObj.map kvs :: X)).set H.length (.map kvs') = H.set i (rdO q) ++ (AObj.map kvs' :: X):=fun q kvs' X=>by
  rw [List.set_append_right _ _ (by simp)];simp
 (conv=>whnf);refine recA (fun hm=>?_) (fun hm=>?_)
 ·simp at hm
  obtain ⟨m,rfl⟩ : ∃ j,m = j + 1:=⟨m - 1,by omega⟩
  have hwm : IntKind.i64.wrap (((m + 1 : Nat) : Int) - 1) = (m : Int):=by rw [wrapI _ (by omega) (by omega)];omega
  (conv=>whnf);refine recO (hrd _ q) ?_
  unfold rdLoop at hfin
  cases hqb : q.bad with
  | true =>
   rw [hqb,if_pos rfl] at hfin
   (conv=>whnf);refine recF (by rw [hqb];rfl) ?_
   have hR : ∀ X,RepP (H.set i (rdO q) ++ X) s σ ro z:=fun X=>(h.other hr (rdO q)).app
   have hlq : (H.set i (rdO q)).length = H.length:=by simp
   have hP : ∀ X,Post (H.set i (rdO q)) (H.set i (rdO q) ++ X) ro ro:=fun X=>Post.app _ _ _
   have hmp : (H.set i (rdO q) ++ (AObj.map kvs :: G))[H.length]? = some (.map kvs):=by rw [List.getElem?_append_right (by simp)];simp
   (conv=>whnf);refine ACalls.mono (after_spec F.z0t hCl (hR _) (txV r) (hd _) hmp pc sc) ?_
   rintro v H1 ⟨rfl,rfl⟩
   have hnone : (q.bad || decide (256 < (afterL (σ.blobs (txV r)) cs).length) || !nameB (txV r) || decide (cs.length = 0)) = true → rcommitR σ r = none:=fun hc=>by
    unfold rcommitR;rw [← hfin];exact if_pos hc
   have hsome : (q.bad || decide (256 < (afterL (σ.blobs (txV r)) cs).length) || !nameB (txV r) || decide (cs.length = 0)) = false → rcommitR σ r = some (payI (txV r) cs,comF σ (txV r) (afterL (σ.blobs (txV r)) cs)):=fun hc=>by
    unfold rcommitR;rw [← hfin];exact if_neg (by rw [hc];decide)
   have hpb : q.bad = false → (payI (txV r) cs).length ≤ 90000:=fun hq0=>by
    have:=rcomC_len r (by rw [← hfin];exact hq0)
    rw [← hfin] at this
    have this : (payI (txV r) cs).length ≤ r.rest.length + 1:=this
    omega
   generalize hdd : afterL (σ.blobs (txV r)) cs = dd at hnone hsome ⊢
   have hrd2 : (H.set i (rdO q) ++ AObj.map kvs :: G ++ [AObj.map (canK rdF dd)])[i]? = some (rdO q):=at_old (getH hil)
   have hmp2 : (H.set i (rdO q) ++ AObj.map kvs :: G ++ [AObj.map (canK rdF dd)])[H.length]? = some (.map kvs):=at_old hmp
   have bail : ∃ o,Again (H.set i o) s ro none .nil (H.set i (rdO q) ++ AObj.map kvs :: G ++ [AObj.map (canK rdF dd)]):=⟨rdO q,rfl,by simp,fun j hj=>by rw [List.append_assoc,get_app hj]⟩
   have hkl:=pc.len
   unfold afterV
   by_cases h7 : dd.length ≤ 256
   ·rw [if_pos h7]
    (conv=>whnf);refine recO (hrd2) ?_
    cases hb0 : q.bad with
    | true =>
     (conv=>whnf);refine recT (hb0) ?_
     conv=>whnf
     rw [hnone (by rw [hb0];rfl)]
     exact bail
    | false =>
    cases h8 : nameB (txV r) with
    | false =>
     (conv=>whnf);refine recF (hb0) ?_
     (conv=>whnf);refine ACalls.use (schema_IsName_spec F.z0g (txV r) _) ?_
     (conv=>whnf);refine recT (by rw [h8];rfl) ?_
     conv=>whnf
     rw [hnone (by rw [h8];simp)]
     exact bail
    | true =>
    by_cases h9 : cs.length = 0
    ·(conv=>whnf);refine recF (hb0) ?_
     (conv=>whnf);refine ACalls.use (schema_IsName_spec F.z0g (txV r) _) ?_
     (conv=>whnf);refine recF (by rw [h8];rfl) ?_
     (conv=>whnf);refine recO (hmp2) ?_
     (conv=>whnf);refine recT (by simp [hkl,h9]) ?_
     conv=>whnf
     rw [hnone (by rw [decide_eq_true h9];simp)]
     exact bail
    rw [hsome (by rw [hb0,h8,decide_eq_false h9,decide_eq_false (by omega)];rfl)]
    (conv=>whnf);refine recF (hb0) ?_
    (conv=>whnf);refine ACalls.use (schema_IsName_spec F.z0g (txV r) _) ?_
    (conv=>whnf);refine recF (by rw [h8];rfl) ?_
    (conv=>whnf);refine recO (hmp2) ?_
    (conv=>whnf);refine recF (by simp [hkl,h9]) ?_
    have hfr : ro (H.set i (rdO q) ++ AObj.map kvs :: G).length = none:=h.fresh (by simp)
    have h2 : RepP (H.set i (rdO q) ++ AObj.map kvs :: G ++ [AObj.map (canK rdF dd)]) s σ (updR ro (H.set i (rdO q) ++ AObj.map kvs :: G).length .blob) z:=(hR (AObj.map kvs :: G)).app.adopt hfr (by simp)
    have hrb : RB (H.set i (rdO q) ++ AObj.map kvs :: G ++ [AObj.map (canK rdF dd)]) (updR ro (H.set i (rdO q) ++ AObj.map kvs :: G).length .blob) (txV r) (.mp (H.set i (rdO q) ++ AObj.map kvs :: G).length) dd :=
     .inr ⟨_,canK rdF dd,rfl,updR_same _ _ _,List.getElem?_concat_length ..,PM.can (f:=rdF) _⟩
    obtain ⟨g1,g2⟩:=h2.com (txV r) hrb (σ.vers (txV r) + 1)
    (conv=>whnf);refine ACalls.mono (commit_spec F.z0v h2 (txV r) hrb (hv _)) ?_
    rintro v H1 ⟨rfl,rfl⟩
    (conv=>whnf);refine ACalls.use (pay_spec F.z10 hS (txV r) pc sc (hpb hb0) (at_ne (at_ne (at_ne hmp2 (fun e=>by have:=h.lt _ h.nb;omega)) (fun e=>by have:=h.lt _ h.nv;omega)) (fun e=>by have:=h.lt _ h.nt;omega))) ?_
    conv=>whnf
    exact ⟨rdO q,.inl rfl,_,_,g1,(((hP _).trans (Post.app _ _ _)).adopt (by simp)).trans g2⟩
   ·rw [if_neg h7]
    (conv=>whnf);refine recO (hrd2) ?_
    cases hb0 : q.bad with
    | true =>
     (conv=>whnf);refine recT (hb0) ?_
     conv=>whnf
     rw [hnone (by rw [hb0];rfl)]
     exact bail
    | false =>
     (conv=>whnf);refine recF (hb0) ?_
     conv=>whnf
     rw [hnone (by rw [decide_eq_true (show 256 < dd.length by omega)];simp)]
     exact bail
  | false =>
   rw [hqb,if_neg (by decide)] at hfin
   have hb2:=tkS_byt (n:=1) hbq
   have hb3:=txS_byt hb2
   have hl3 : (txS (tkS 1 q)).rest.length ≤ r.rest.length:=Nat.le_trans (txS_len _) (Nat.le_trans (tkS_len _ _) hql)
   (conv=>whnf);refine recT (by rw [hqb];rfl) ?_
   (conv=>whnf);refine ACalls.mono (hnum 1 (by omega) (by omega) q hbq _) ?_
   rintro v H1 ⟨rfl,rfl⟩
   (conv=>whnf);refine snocA ?_
   rw [hix]
   (conv=>whnf);refine recO (hob _ _) ?_
   (conv=>whnf);refine setO_at (hso _ _ _) ?_
   (conv=>whnf);refine ACalls.mono (htxt (tkS 1 q) hb2 _) ?_
   rintro v H1 ⟨rfl,rfl⟩
   (conv=>whnf);refine recO (hob _ _) ?_
   have hsz:=txV_size hb2
   have hst : rdStep q cs = (rdEnd (rdData (txS (tkS 1 q)) (rdRm q)).2 (txV (tkS 1 q)) (rdData (txS (tkS 1 q)) (rdRm q)).1,kIns (txV (tkS 1 q)) ⟨rdRm q,(rdData (txS (tkS 1 q)) (rdRm q)).1⟩ cs):=rfl
   have hrm0 : (nbV 1 q != 0) = rdRm q:=rfl
   rw [hrm0]
   cases hrm : rdRm q with
   | true =>
    rw [hrm] at hst
    have hd0 : rdData (txS (tkS 1 q)) true = ([],txS (tkS 1 q)):=by unfold rdData;rw [if_pos rfl]
    rw [hd0] at hst
    rw [hst] at hfin
    (conv=>whnf);refine ACalls.use (schema_IsQualified_spec F.z0h (txV (tkS 1 q)) (by omega) _) ?_
    cases hq : qualB (txV (tkS 1 q)) with
    | true =>
     have he : rdEnd (txS (tkS 1 q)) (txV (tkS 1 q)) [] = txS (tkS 1 q):=by unfold rdEnd;rw [hq];rfl
     simp only [he] at hfin
     (conv=>whnf);refine recO (hob _ _) ?_
     (conv=>whnf);refine recO (hob _ _) ?_
     (conv=>whnf);refine recO (hmp _ _) ?_
     (conv=>whnf);refine recT (pc.ok _) ?_
     (conv=>whnf)
     refine setO_at (hsm _ _ _) ?_
     (conv=>whnf)
     refine ⟨m,by omega,Gp.keep rfl ?_ fun ρ1 h=>⟨_,_,_,_,by omega,hfin,hl3,hb3,pc.put sc rfl,sc.ins _ _,rfl,h⟩⟩
     exact ⟨rfl,rfl,rfl,rfl,intEq hwm,trivial⟩
    | false =>
     have he : rdEnd (txS (tkS 1 q)) (txV (tkS 1 q)) [] = ⟨(txS (tkS 1 q)).rest,true⟩:=by unfold rdEnd;rw [hq];rfl
     simp only [he] at hfin
     (conv=>whnf);refine recO (hrd _ _) ?_
     (conv=>whnf);refine setO_at (show _ = H.set i (rdO ⟨(txS (tkS 1 q)).rest,true⟩) ++ _ from setH hil) ?_
     (conv=>whnf);refine recO (hob _ _) ?_
     (conv=>whnf);refine recO (hmp _ _) ?_
     (conv=>whnf);refine recT (pc.ok _) ?_
     (conv=>whnf)
     refine setO_at (hsm _ _ _) ?_
     (conv=>whnf)
     refine ⟨m,by omega,Gp.keep rfl ?_ fun ρ1 h=>⟨_,_,_,_,by omega,hfin,hl3,hb3,pc.put sc rfl,sc.ins _ _,rfl,h⟩⟩
     exact ⟨rfl,rfl,rfl,rfl,intEq hwm,trivial⟩
   | false =>
    rw [hrm] at hst
    have hd0 : rdData (txS (tkS 1 q)) false = (tkL (nbV 4 (txS (tkS 1 q))) (tkS 4 (txS (tkS 1 q))),tkS (nbV 4 (txS (tkS 1 q))) (tkS 4 (txS (tkS 1 q)))):=by unfold rdData;rw [if_neg (by decide)]
    rw [hd0] at hst
    rw [hst] at hfin
    have hb4:=tkS_byt (n:=4) hb3
    have hn4:=nbV_bound (n:=4) (s:=txS (tkS 1 q)) (by omega) (by omega) hb3
    have hb5:=tkS_byt (n:=nbV 4 (txS (tkS 1 q))) hb4
    (conv=>whnf);refine ACalls.mono (hnum 4 (by omega) (by omega) (txS (tkS 1 q)) hb3 _) ?_
    rintro v H1 ⟨rfl,rfl⟩
    (conv=>whnf);refine ACalls.mono (htak (nbV 4 (txS (tkS 1 q))) hn4.1 (tkS 4 (txS (tkS 1 q))) _) ?_
    rintro v H1 ⟨rfl,rfl⟩
    have hdl : (tkL (nbV 4 (txS (tkS 1 q))) (tkS 4 (txS (tkS 1 q)))).length ≤ 80000:=Nat.le_trans (tkL_len2 _ _) (Nat.le_trans (tkS_len _ _) (Nat.le_trans hl3 hl))
    have hl5 : (tkS (nbV 4 (txS (tkS 1 q))) (tkS 4 (txS (tkS 1 q)))).rest.length ≤ r.rest.length:=Nat.le_trans (tkS_len _ _) (Nat.le_trans (tkS_len _ _) hl3)
    generalize hdata : tkL (nbV 4 (txS (tkS 1 q))) (tkS 4 (txS (tkS 1 q))) = data at hfin hdl ⊢
    generalize hqq : tkS (nbV 4 (txS (tkS 1 q))) (tkS 4 (txS (tkS 1 q))) = qq at hfin hb5 hl5 ⊢
    (conv=>whnf);refine ACalls.use (bClone_spec F.z06 false data (by omega) _) ?_
    (conv=>whnf);refine recO (hob _ _) ?_
    (conv=>whnf);refine setO_at (hso _ _ _) ?_
    (conv=>whnf);refine ACalls.use (schema_IsQualified_spec F.z0h (txV (tkS 1 q)) (by omega) _) ?_
    cases hq : qualB (txV (tkS 1 q)) with
    | true =>
     (conv=>whnf);refine recO (hob _ _) ?_
     by_cases hbig : 65536 < data.length
     ·have he : rdEnd qq (txV (tkS 1 q)) data = ⟨qq.rest,true⟩:=by unfold rdEnd;rw [hq,decide_eq_true hbig];rfl
      simp only [he] at hfin
      (conv=>whnf);refine recT (by rw [bC_length];simp;omega) ?_
      (conv=>whnf);refine recO (hrd _ _) ?_
      (conv=>whnf);refine setO_at (show _ = H.set i (rdO ⟨qq.rest,true⟩) ++ _ from setH hil) ?_
      (conv=>whnf);refine recO (hob _ _) ?_
      (conv=>whnf);refine recO (hmp _ _) ?_
      (conv=>whnf);refine recT (pc.ok _) ?_
      (conv=>whnf)
      refine setO_at (hsm _ _ _) ?_
      (conv=>whnf)
      refine ⟨m,by omega,Gp.keep rfl ?_ fun ρ1 h=>⟨_,_,_,_,by omega,hfin,hl5,hb5,pc.put sc rfl,sc.ins _ _,rfl,h⟩⟩
      exact ⟨rfl,rfl,rfl,rfl,intEq hwm,trivial⟩
     ·have he : rdEnd qq (txV (tkS 1 q)) data = qq:=by unfold rdEnd;rw [hq,decide_eq_false hbig];rfl
      simp only [he] at hfin
      (conv=>whnf);refine recF (by rw [bC_length];simp;omega) ?_
      (conv=>whnf);refine recO (hob _ _) ?_
      (conv=>whnf);refine recO (hmp _ _) ?_
      (conv=>whnf);refine recT (pc.ok _) ?_
      (conv=>whnf)
      refine setO_at (hsm _ _ _) ?_
      (conv=>whnf)
      refine ⟨m,by omega,Gp.keep rfl ?_ fun ρ1 h=>⟨_,_,_,_,by omega,hfin,hl5,hb5,pc.put sc rfl,sc.ins _ _,rfl,h⟩⟩
      exact ⟨rfl,rfl,rfl,rfl,intEq hwm,trivial⟩
    | false =>
     have he : rdEnd qq (txV (tkS 1 q)) data = ⟨qq.rest,true⟩:=by unfold rdEnd;rw [hq];rfl
     simp only [he] at hfin
     (conv=>whnf);refine recO (hrd _ _) ?_
     (conv=>whnf);refine setO_at (show _ = H.set i (rdO ⟨qq.rest,true⟩) ++ _ from setH hil) ?_
     (conv=>whnf);refine recO (hob _ _) ?_
     (conv=>whnf);refine recO (hmp _ _) ?_
     (conv=>whnf);refine recT (pc.ok _) ?_
     (conv=>whnf)
     refine setO_at (hsm _ _ _) ?_
     (conv=>whnf)
     refine ⟨m,by omega,Gp.keep rfl ?_ fun ρ1 h=>⟨_,_,_,_,by omega,hfin,hl5,hb5,pc.put sc rfl,sc.ins _ _,rfl,h⟩⟩
     exact ⟨rfl,rfl,rfl,rfl,intEq hwm,trivial⟩
 ·simp at hm
  subst hm
  unfold rdLoop at hfin
  have hR : ∀ X,RepP (H.set i (rdO q) ++ X) s σ ro z:=fun X=>(h.other hr (rdO q)).app
  have hlq : (H.set i (rdO q)).length = H.length:=by simp
  have hP : ∀ X,Post (H.set i (rdO q)) (H.set i (rdO q) ++ X) ro ro:=fun X=>Post.app _ _ _
  have hmp : (H.set i (rdO q) ++ (AObj.map kvs :: G))[H.length]? = some (.map kvs):=by rw [List.getElem?_append_right (by simp)];simp
  (conv=>whnf);refine ACalls.mono (after_spec F.z0t hCl (hR _) (txV r) (hd _) hmp pc sc) ?_
  rintro v H1 ⟨rfl,rfl⟩
  have hnone : (q.bad || decide (256 < (afterL (σ.blobs (txV r)) cs).length) || !nameB (txV r) || decide (cs.length = 0)) = true → rcommitR σ r = none:=fun hc=>by
   unfold rcommitR;rw [← hfin];exact if_pos hc
  have hsome : (q.bad || decide (256 < (afterL (σ.blobs (txV r)) cs).length) || !nameB (txV r) || decide (cs.length = 0)) = false → rcommitR σ r = some (payI (txV r) cs,comF σ (txV r) (afterL (σ.blobs (txV r)) cs)):=fun hc=>by
   unfold rcommitR;rw [← hfin];exact if_neg (by rw [hc];decide)
  have hpb : q.bad = false → (payI (txV r) cs).length ≤ 90000:=fun hq0=>by
   have:=rcomC_len r (by rw [← hfin];exact hq0)
   rw [← hfin] at this
   have this : (payI (txV r) cs).length ≤ r.rest.length + 1:=this
   omega
  generalize hdd : afterL (σ.blobs (txV r)) cs = dd at hnone hsome ⊢
  have hrd2 : (H.set i (rdO q) ++ AObj.map kvs :: G ++ [AObj.map (canK rdF dd)])[i]? = some (rdO q):=at_old (getH hil)
  have hmp2 : (H.set i (rdO q) ++ AObj.map kvs :: G ++ [AObj.map (canK rdF dd)])[H.length]? = some (.map kvs):=at_old hmp
  have bail : ∃ o,Again (H.set i o) s ro none .nil (H.set i (rdO q) ++ AObj.map kvs :: G ++ [AObj.map (canK rdF dd)]):=⟨rdO q,rfl,by simp,fun j hj=>by rw [List.append_assoc,get_app hj]⟩
  have hkl:=pc.len
  unfold afterV
  by_cases h7 : dd.length ≤ 256
  ·rw [if_pos h7]
   (conv=>whnf);refine recO (hrd2) ?_
   cases hb0 : q.bad with
   | true =>
    (conv=>whnf);refine recT (hb0) ?_
    conv=>whnf
    rw [hnone (by rw [hb0];rfl)]
    exact bail
   | false =>
   cases h8 : nameB (txV r) with
   | false =>
    (conv=>whnf);refine recF (hb0) ?_
    (conv=>whnf);refine ACalls.use (schema_IsName_spec F.z0g (txV r) _) ?_
    (conv=>whnf);refine recT (by rw [h8];rfl) ?_
    conv=>whnf
    rw [hnone (by rw [h8];simp)]
    exact bail
   | true =>
   by_cases h9 : cs.length = 0
   ·(conv=>whnf);refine recF (hb0) ?_
    (conv=>whnf);refine ACalls.use (schema_IsName_spec F.z0g (txV r) _) ?_
    (conv=>whnf);refine recF (by rw [h8];rfl) ?_
    (conv=>whnf);refine recO (hmp2) ?_
    (conv=>whnf);refine recT (by simp [hkl,h9]) ?_
    conv=>whnf
    rw [hnone (by rw [decide_eq_true h9];simp)]
    exact bail
   rw [hsome (by rw [hb0,h8,decide_eq_false h9,decide_eq_false (by omega)];rfl)]
   (conv=>whnf);refine recF (hb0) ?_
   (conv=>whnf);refine ACalls.use (schema_IsName_spec F.z0g (txV r) _) ?_
   (conv=>whnf);refine recF (by rw [h8];rfl) ?_
   (conv=>whnf);refine recO (hmp2) ?_
   (conv=>whnf);refine recF (by simp [hkl,h9]) ?_
   have hfr : ro (H.set i (rdO q) ++ AObj.map kvs :: G).length = none:=h.fresh (by simp)
   have h2 : RepP (H.set i (rdO q) ++ AObj.map kvs :: G ++ [AObj.map (canK rdF dd)]) s σ (updR ro (H.set i (rdO q) ++ AObj.map kvs :: G).length .blob) z:=(hR (AObj.map kvs :: G)).app.adopt hfr (by simp)
   have hrb : RB (H.set i (rdO q) ++ AObj.map kvs :: G ++ [AObj.map (canK rdF dd)]) (updR ro (H.set i (rdO q) ++ AObj.map kvs :: G).length .blob) (txV r) (.mp (H.set i (rdO q) ++ AObj.map kvs :: G).length) dd :=
    .inr ⟨_,canK rdF dd,rfl,updR_same _ _ _,List.getElem?_concat_length ..,PM.can (f:=rdF) _⟩
   obtain ⟨g1,g2⟩:=h2.com (txV r) hrb (σ.vers (txV r) + 1)
   (conv=>whnf);refine ACalls.mono (commit_spec F.z0v h2 (txV r) hrb (hv _)) ?_
   rintro v H1 ⟨rfl,rfl⟩
   (conv=>whnf);refine ACalls.use (pay_spec F.z10 hS (txV r) pc sc (hpb hb0) (at_ne (at_ne (at_ne hmp2 (fun e=>by have:=h.lt _ h.nb;omega)) (fun e=>by have:=h.lt _ h.nv;omega)) (fun e=>by have:=h.lt _ h.nt;omega))) ?_
   conv=>whnf
   exact ⟨rdO q,.inl rfl,_,_,g1,(((hP _).trans (Post.app _ _ _)).adopt (by simp)).trans g2⟩
  ·rw [if_neg h7]
   (conv=>whnf);refine recO (hrd2) ?_
   cases hb0 : q.bad with
   | true =>
    (conv=>whnf);refine recT (hb0) ?_
    conv=>whnf
    rw [hnone (by rw [hb0];rfl)]
    exact bail
   | false =>
    (conv=>whnf);refine recF (hb0) ?_
    conv=>whnf
    rw [hnone (by rw [decide_eq_true (show 256 < dd.length by omega)];simp)]
    exact bail
end
theorem byt_cons {x : Int} {b : List Int} (h1 : 0 ≤ x ∧ x ≤ 255) (h2 : Byt b) : Byt (x :: b):=fun y hy=>by
 rcases List.mem_cons.1 hy with rfl | hy
 ·exact h1
 ·exact h2 y hy
theorem txI_byt (s : ByteArray) : Byt (txI s):=by
 refine byt_cons ?_ fun x hx=>?_
 ·rw [u8_eq];omega
 ·obtain ⟨b,_,rfl⟩:=List.mem_map.1 hx
  have:=b.toNat_lt
  constructor <;> omega
theorem entI_byt {p : ByteArray × Chg} (h : Byt p.2.data) : Byt (entI p):=by
 unfold entI
 refine byt_cons ?_ (byt_app (txI_byt _) ?_)
 ·cases p.2.rm <;> decide
 ·cases p.2.rm
  ·exact byt_app (beN_byt _ _) h
  ·exact byt_nil
theorem flat_byt {c : List (ByteArray × Chg)} (h : ∀ p ∈ c,Byt p.2.data) : Byt (c.flatMap entI):=fun x hx=>by
 obtain ⟨p,hp,hx⟩:=List.mem_flatMap.1 hx
 exact entI_byt (h p hp) x hx
theorem payI_byt (env : ByteArray) {c : List (ByteArray × Chg)} (h : ∀ p ∈ c,Byt p.2.data) : Byt (payI env c) :=
 byt_app (byt_app (byt_cons (by decide) (txI_byt _)) (beN_byt _ _)) (flat_byt h)
theorem spayI_byt (a b : ByteArray) : Byt (spayI a b):=byt_app (byt_cons (by decide) (txI_byt _)) (txI_byt _)
theorem rdLoop_dat : ∀ (n : Nat) {q : RdS} {cs : List (ByteArray × Chg)},Byt q.rest → (∀ p ∈ cs,Byt p.2.data) → ∀ p ∈ (rdLoop n q cs).2,Byt p.2.data
 | 0,_,_,_,h=>h
 | n + 1,q,cs,hb,h=>by
  unfold rdLoop
  split
  ·exact h
  ·refine rdLoop_dat n (rdStep_byt cs hb) fun p hp=>?_
   have hp : p ∈ kIns (txV (tkS 1 q)) ⟨rdRm q,(rdData (txS (tkS 1 q)) (rdRm q)).1⟩ cs:=hp
   rcases List.mem_cons.1 ((kIns_perm _ _ _).mem_iff.1 hp) with rfl | hp
   ·show Byt (rdData (txS (tkS 1 q)) (rdRm q)).1
    unfold rdData
    split
    ·exact byt_nil
    ·exact tkL_byt (tkS_byt (txS_byt (tkS_byt hb)))
   ·exact h p (List.mem_filter.1 hp).1
theorem rcommitR_byt {σ σ' : Sto} {r : RdS} {pay : List Int} (hb : Byt r.rest) (h : rcommitR σ r = some (pay,σ')) : Byt pay ∧ pay ≠ []:=by
 unfold rcommitR at h
 split at h
 ·cases h
 ·cases h
  exact ⟨payI_byt _ (rdLoop_dat _ (tkS_byt (txS_byt hb)) fun p hp=>by cases hp),by simp [payI]⟩
theorem rswapR_byt {σ σ' : Sto} {r : RdS} {pay : List Int} (h : rswapR σ r = some (pay,σ')) : Byt pay ∧ pay ≠ []:=by
 unfold rswapR at h
 split at h
 ·cases h
 ·cases h
  exact ⟨spayI_byt _ _,by simp [spayI]⟩
def entryR (σ : Sto) (p : List Int) : Option (List Int × Sto) :=
 if nbV 1 ⟨p,false⟩ = 1 then rcommitR σ (tkS 1 ⟨p,false⟩) else if nbV 1 ⟨p,false⟩ = 2 then rswapR σ (tkS 1 ⟨p,false⟩) else none
def applyR (σ : Sto) (p : List Int) : Option Sto:=match entryR σ p with
 | some (pay,σ')=>if pay == p then some σ' else none
 | none=>none
theorem entryR_byt {σ σ' : Sto} {p pay : List Int} (hb : Byt p) (h : entryR σ p = some (pay,σ')) : Byt pay ∧ pay ≠ []:=by
 unfold entryR at h
 split at h
 ·exact rcommitR_byt (tkS_byt (s:=⟨p,false⟩) hb) h
 ·split at h
  ·exact rswapR_byt h
  ·cases h
def ApplyQ (H : List AObj) (s : Nat) (ro : Nat → Option Role) (o : Option Sto) (v : AVal) (H' : List AObj) : Prop:=match o with
 | none=>v = .bool false ∧ ∃ ro',Post H H' ro ro'
 | some σ'=>v = .bool true ∧ ∃ ro' z',RepP H' s σ' ro' z' ∧ Post H H' ro ro'
section
variable {H : List AObj} {s : Nat} {σ : Sto} {ro : Nat → Option Role} {z : SP}
theorem equal_own {P : Program} (F : F_z07 P) (a b : List Int) (ha : Byt a) (hb : Byt b) {id : Nat} (ho : H[id]? = some (bO a)) :
  ACalls P F.id [bsl id a,.list false 1 (bC b)] H (fun r H'=>r = .bool (a == b) ∧ H' = H):=by
 refine ACalls.bor rfl ((bytesEqual_spec F false false a b ha hb []).mono fun r H' h=>h.1) (.cons ?_ (.cons (.same _ rfl) .nil))
 have:=Lent.sl id a.length 0 a.length 1 (bC a) ho (bC_length a).symm (pureEs_bC a)
 rw [List.drop_zero,← bC_length a,List.take_length,bC_length] at this
 exact this
set_option maxRecDepth 20000 in
theorem apply_spec {P : Program} (F : F_z0u P) (hCl : MClone P F.z0w.z0t.z0d.id)
  (hS : SKeys P F.z0w.z10.slices_Sorted_string.id F.z0w.z10.z0f.maps_Keys_mapstringstorechange_string_storechange_1.id)
  (h : RepP H s σ ro z) (p : List Int) (hb : Byt p) (hl : p.length ≤ 80000) (hv : ∀ e,-4000000 ≤ σ.vers e ∧ σ.vers e ≤ 4000000) (hd : ∀ e,KSrt (σ.blobs e)) :
  ACalls P F.id [.ptr s 1 0 0,.list false 1 (bC p)] H (fun v H'=>ApplyQ H s ro (applyR σ p) v H'):=by
 have hn:=nbV_bound (n:=1) (s:=⟨p,false⟩) (by omega) (by omega) hb
 refine acalls_of_body F.has ?_
 (conv=>whnf);refine snocK_to ?_
 (conv=>whnf);refine ACalls.mono (rnumber_spec (asB_number F.z14) 1 (by omega) (by omega) ⟨p,false⟩ hb (H ++ [rdO ⟨p,false⟩]) (0 + H.length) (at_snoc _ _)) ?_
 rintro v H1 ⟨rfl,rfl⟩
 rw [set_snoc]
 have h1 : RepP (H ++ [rdO (tkS 1 ⟨p,false⟩)]) s σ ro z:=h.app
 have hfr : ro (0 + H.length) = none:=h.fresh (by omega)
 have hb1 : Byt (tkS 1 (⟨p,false⟩ : RdS)).rest:=tkS_byt (s:=⟨p,false⟩) hb
 have hl1 : (tkS 1 (⟨p,false⟩ : RdS)).rest.length ≤ 80000:=Nat.le_trans (tkS_len 1 ⟨p,false⟩) hl
 have hP : ∀ o,Post H ((H ++ [rdO (tkS 1 ⟨p,false⟩)]).set (0 + H.length) o) ro ro:=fun o=>by rw [set_snoc];exact Post.app _ _ _
 unfold applyR
 by_cases k1 : nbV 1 ⟨p,false⟩ = 1
 ·have he : entryR σ p = rcommitR σ (tkS 1 ⟨p,false⟩):=by unfold entryR;rw [if_pos k1]
  rw [he,k1]
  (conv=>whnf);refine ACalls.mono (readCommit_spec F.z0w hCl hS h1 (at_snoc _ _) hfr hb1 hv hd hl1) ?_
  rintro v H1 ⟨o,ha⟩
  cases hR : (rcommitR σ (tkS 1 ⟨p,false⟩)) with
  | none =>
   rw [hR] at ha
   obtain ⟨rfl,hle,hsm⟩:=ha
   conv=>whnf
   exact ⟨rfl,_,(hP o).trans ⟨hle,fun j hj hr=>⟨hr,hsm j hj⟩⟩⟩
  | some ps =>
   obtain ⟨pay,σ'⟩:=ps
   rw [hR] at ha
   obtain ⟨hv,ro',z',g1,g2⟩:=ha
   obtain ⟨hpb,hpn⟩:=entryR_byt hb (he.trans hR)
   have hpl : pay.length ≠ 0:=fun e=>hpn (List.eq_nil_of_length_eq_zero e)
   have hq : ApplyQ H s ro (if (pay == p) = true then some σ' else none) (.bool (pay == p)) H1:=by
    cases pay == p with
    | true=>exact ⟨rfl,_,_,g1,(hP o).trans g2⟩
    | false=>exact ⟨rfl,_,(hP o).trans g2⟩
   rcases hv with rfl | ⟨id,rfl,hid⟩
   ·(conv=>whnf)
    refine And.intro (fun e=>absurd (congrArg List.length e) (by rw [bC_length];exact hpl)) ?_
    (conv=>whnf);refine ACalls.use (bytesEqual_spec F.z07 false false pay p hpb hb _) ?_
    conv=>whnf
    exact hq
   ·(conv=>whnf);refine recO (hid) ?_
    (conv=>whnf);refine recT (by rw [bC_length];exact Nat.beq_refl _) ?_
    (conv=>whnf)
    refine And.intro (fun e=>absurd e hpl) ?_
    (conv=>whnf);refine ACalls.use (equal_own F.z07 pay p hpb hb hid) ?_
    conv=>whnf
    exact hq
 by_cases k2 : nbV 1 ⟨p,false⟩ = 2
 ·have he : entryR σ p = rswapR σ (tkS 1 ⟨p,false⟩):=by unfold entryR;rw [if_neg k1,if_pos k2]
  rw [he,k2]
  (conv=>whnf);refine ACalls.mono (readSwap_spec F.z0x h1 (at_snoc _ _) hfr hb1 hv) ?_
  rintro v H1 ⟨o,ha⟩
  cases hR : (rswapR σ (tkS 1 ⟨p,false⟩)) with
  | none =>
   rw [hR] at ha
   obtain ⟨rfl,hle,hsm⟩:=ha
   conv=>whnf
   exact ⟨rfl,_,(hP o).trans ⟨hle,fun j hj hr=>⟨hr,hsm j hj⟩⟩⟩
  | some ps =>
   obtain ⟨pay,σ'⟩:=ps
   rw [hR] at ha
   obtain ⟨hv,ro',z',g1,g2⟩:=ha
   obtain ⟨hpb,hpn⟩:=entryR_byt hb (he.trans hR)
   have hpl : pay.length ≠ 0:=fun e=>hpn (List.eq_nil_of_length_eq_zero e)
   have hq : ApplyQ H s ro (if (pay == p) = true then some σ' else none) (.bool (pay == p)) H1:=by
    cases pay == p with
    | true=>exact ⟨rfl,_,_,g1,(hP o).trans g2⟩
    | false=>exact ⟨rfl,_,(hP o).trans g2⟩
   rcases hv with rfl | ⟨id,rfl,hid⟩
   ·(conv=>whnf)
    refine And.intro (fun e=>absurd (congrArg List.length e) (by rw [bC_length];exact hpl)) ?_
    (conv=>whnf);refine ACalls.use (bytesEqual_spec F.z07 false false pay p hpb hb _) ?_
    conv=>whnf
    exact hq
   ·(conv=>whnf);refine recO (hid) ?_
    (conv=>whnf);refine recT (by rw [bC_length];exact Nat.beq_refl _) ?_
    (conv=>whnf)
    refine And.intro (fun e=>absurd e hpl) ?_
    (conv=>whnf);refine ACalls.use (equal_own F.z07 pay p hpb hb hid) ?_
    conv=>whnf
    exact hq
 ·have he : entryR σ p = none:=by unfold entryR;rw [if_neg k1,if_neg k2]
  rw [he]
  (conv=>whnf);refine recF (by simp [k1]) ?_
  (conv=>whnf);refine recF (by simp [k2]) ?_
  conv=>whnf
  exact ⟨rfl,_,Post.app _ _ _⟩
end
def openL : Sto → List (List Int) → Option Sto
 | σ,[]=>some σ
 | σ,p :: ps=>match applyR σ p with
  | none=>none
  | some σ'=>openL σ' ps
theorem openL_cons (σ : Sto) (p : List Int) (ps : List (List Int)) : openL σ (p :: ps) = match applyR σ p with
  | none=>none
  | some σ'=>openL σ' ps:=rfl
def Sto.new (l : List Int) : Sto:=⟨fun _=>[],fun _=>[],fun _=>0,l⟩
structure Sto.Rp (σ : Sto) (k : Nat) : Prop where
 vs : ∀ e,0 ≤ σ.vers e ∧ σ.vers e ≤ k
 sb : ∀ e,KSrt (σ.blobs e)
theorem Sto.Rp.new (l : List Int) : (Sto.new l).Rp 0:=⟨fun _=>⟨Int.le_refl _,Int.le_refl _⟩,fun _=>KSrt.nil⟩
theorem updS_all {β : Type} {f : ByteArray → β} {Q : β → Prop} (h : ∀ e,Q (f e)) {k : ByteArray} {v : β} (hv : Q v) (e : ByteArray) : Q (updS f k v e):=by
 unfold updS
 split
 ·exact hv
 ·exact h e
theorem Sto.Rp.apply {σ σ' : Sto} {k : Nat} {p : List Int} (h : σ.Rp k) (ha : applyR σ p = some σ') : σ'.Rp (k + 1):=by
 have hv : ∀ e,0 ≤ σ.vers e ∧ σ.vers e ≤ ((k + 1 : Nat) : Int):=fun e=>⟨(h.vs e).1,by have:=(h.vs e).2;omega⟩
 have hv1 : ∀ e,0 ≤ σ.vers e + 1 ∧ σ.vers e + 1 ≤ ((k + 1 : Nat) : Int):=fun e=>⟨by have:=(h.vs e).1;omega,by have:=(h.vs e).2;omega⟩
 unfold applyR at ha
 split at ha
 ·rename_i pay σ1 he
  split at ha
  ·cases ha
   unfold entryR at he
   split at he
   ·unfold rcommitR at he
    split at he
    ·cases he
    ·cases he
     exact ⟨updS_all (Q:=fun x : Int=>0 ≤ x ∧ x ≤ ((k + 1 : Nat) : Int)) hv (hv1 _),updS_all h.sb (afterL_srt _ (h.sb _))⟩
   ·split at he
    ·unfold rswapR at he
     split at he
     ·cases he
     ·cases he
      exact ⟨updS_all (Q:=fun x : Int=>0 ≤ x ∧ x ≤ ((k + 1 : Nat) : Int)) (updS_all (Q:=fun x : Int=>0 ≤ x ∧ x ≤ ((k + 1 : Nat) : Int)) hv (hv1 _)) (hv1 _),updS_all (updS_all h.sb (h.sb _)) (h.sb _)⟩
    ·cases he
  ·cases ha
 ·cases ha
def OpenQ (H : List AObj) (o : Option Sto) (r : AVal) (H' : List AObj) : Prop:=match o with
 | none=>r = .tuple [.nilp,.int .i64 11] ∧ ∃ ro,Post H H' (fun _=>none) ro
 | some σ=>∃ s ro z,r = .tuple [.ptr s 1 0 0,.int .i64 0] ∧ RepP H' s σ ro z ∧ Post H H' (fun _=>none) ro
section
variable {H : List AObj}
theorem RepP.empty (H : List AObj) (l : List Int) : RepP (H ++ [.map [],.map [],.map [],.arr 4 [[.mp H.length,.mp (H.length + 1),.mp (H.length + 2),.list false 1 (bC l)]]]) (H.length + 3) (Sto.new l)
  (fun i=>if i = H.length then some .b else if i = H.length + 1 then some .t else if i = H.length + 2 then some .v else if i = H.length + 3 then some .s else none)
  ⟨H.length,H.length + 1,H.length + 2,[],[],[],[],[],[]⟩:=by
 refine ⟨by simp [Sto.new],by simp,by simp,by simp,by simp,by simp,by simp,by simp,PM.nil,PM.nil,PM.nil,KSrt.nil,KSrt.nil,KSrt.nil,fun _=>rfl,fun _=>rfl,fun _=>rfl,fun i hi=>?_⟩
 simp only [List.length_append,List.length_cons,List.length_nil]
 by_cases h1 : i = H.length
 ·omega
 by_cases h2 : i = H.length + 1
 ·omega
 by_cases h3 : i = H.length + 2
 ·omega
 by_cases h4 : i = H.length + 3
 ·omega
 ·rw [if_neg h1,if_neg h2,if_neg h3,if_neg h4] at hi;exact absurd rfl hi
set_option maxRecDepth 20000 in
theorem open_raw {P : Program} (F : F_z0i P) (hCl : MClone P F.z0u.z0w.z0t.z0d.id)
  (hS : SKeys P F.z0u.z0w.z10.slices_Sorted_string.id F.z0u.z0w.z10.z0f.maps_Keys_mapstringstorechange_string_storechange_1.id)
  (v : AVal) (l : List Int) (e : Bool) (ps : List (List Int)) (n : Int) (hRep : ∀ X,ACalls P F.z09.id [v] (H ++ X) (fun r H'=>r = .list false 1 (bC l) ∧ H' = H ++ X))
  (hRd : ∀ X,ACalls P F.journal_Read.id [v] (H ++ X) (fun r H'=>r = .tuple [.list e 1 (pL ps),.int .i64 n] ∧ H' = H ++ X))
  (hps : ps.length ≤ 1000000) (hpb : ∀ p ∈ ps,Byt p ∧ p.length ≤ 80000) :
  ACalls P F.id [v] H (OpenQ H (openL (Sto.new l) ps)):=by
 refine acalls_of_body F.has ?_
 have l0 : 0 + H.length = H.length:=by simp
 have l1 : 0 + (H ++ [AObj.map []]).length = H.length + 1:=by simp
 have l2 : 0 + (H ++ [AObj.map []] ++ [AObj.map []]).length = H.length + 2:=by simp
 have e3 : H ++ [AObj.map []] ++ [AObj.map []] ++ [AObj.map []] = H ++ [.map [],.map [],.map []]:=by simp
 have l4 : 0 + (H ++ [AObj.map [],.map [],.map []]).length = H.length + 3:=by simp
 have e4 : ∀ o,H ++ [AObj.map [],.map [],.map []] ++ [o] = H ++ [.map [],.map [],.map [],o]:=by simp
 (conv=>whnf);refine snocK_to ?_
 (conv=>whnf);refine snocK_to ?_
 (conv=>whnf);refine snocK_to ?_
 rw [l0,l1,l2,e3]
 (conv=>whnf);refine ACalls.use (hRep _) ?_
 (conv=>whnf);refine snocK_to ?_
 rw [l4,e4]
 (conv=>whnf);refine ACalls.use (hRd _) ?_
 have hR0:=RepP.empty H l
 have hP0 : Post H (H ++ [AObj.map [],AObj.map [],AObj.map [],AObj.arr 4 [[AVal.mp H.length,AVal.mp (H.length + 1),AVal.mp (H.length + 2),AVal.list false 1 (bC l)]]]) (fun _=>none)
   (fun i=>if i = H.length then some Role.b else if i = H.length + 1 then some .t else if i = H.length + 2 then some .v else if i = H.length + 3 then some .s else none) :=
  ⟨by simp,fun i hi _=>⟨by dsimp only;rw [if_neg (by omega),if_neg (by omega),if_neg (by omega),if_neg (by omega)],get_app hi⟩⟩
 conv=>whnf
 refine ⟨fun m ρ H1=>∃ (k : Nat) (σ : Sto) (ro : Nat → Option Role) (z : SP),k + m = ps.length ∧ openL σ (ps.drop k) = openL (Sto.new l) ps ∧ σ.Rp k ∧ RepP H1 (H.length + 3) σ ro z ∧ Post H H1 (fun _=>none) ro ∧
  Sv 33 [(4,.ptr (H.length + 3) 1 0 0),(21,.list e 1 (pL ps)),(22,.int .i64 ps.length),(23,.int .i64 k)] ρ,ps.length,[],?_,?_⟩
 ·exact ⟨0,_,_,_,by omega,rfl,Sto.Rp.new l,hR0,hP0,Sv.intro rfl ⟨rfl,rfl,intEq (by rw [pL_length]),rfl,trivial⟩⟩
 rintro m ρ H1 ⟨k,σ,ro,z,hk,hop,hrp,hR,hP,d,rfl⟩
 (conv=>whnf);refine recA (fun hlt=>?_) (fun hlt=>?_)
 ·simp at hlt
  obtain ⟨p,hx,hdr,hmem⟩:=get_drop hlt
  rw [hdr] at hop
  obtain ⟨hpb1,hpl⟩:=hpb p hmem
  (conv=>whnf);refine And.intro (by omega) ?_
  (conv=>whnf);refine recO (pL_get hx) ?_
  (conv=>whnf);refine ACalls.mono (apply_spec F.z0u hCl hS hR p hpb1 hpl (fun e=>by have:=hrp.vs e;omega) hrp.sb) ?_
  intro v1 H2 hq
  rw [openL_cons] at hop
  cases ha : applyR σ p with
  | none =>
   rw [ha] at hq hop
   obtain ⟨rfl,ro',hP2⟩:=hq
   have hop : none = openL (Sto.new l) ps:=hop
   rw [← hop]
   conv=>whnf
   exact ⟨rfl,_,hP.trans hP2⟩
  | some σ' =>
   rw [ha] at hq hop
   obtain ⟨rfl,ro',z',hR2,hP2⟩:=hq
   conv=>whnf
   refine ⟨m - 1,by omega,Gp.keep rfl ?_ fun ρ1 h=>⟨k + 1,σ',ro',z',by omega,hop,hrp.apply ha,hR2,hP.trans hP2,h⟩⟩
   exact ⟨rfl,rfl,rfl,intEq (wrapI ((k : Int) + 1) (by omega) (by omega)),trivial⟩
 ·simp at hlt
  rw [List.drop_eq_nil_of_le hlt] at hop
  have hop : some σ = openL (Sto.new l) ps:=hop
  rw [← hop]
  conv=>whnf
  exact ⟨_,_,_,rfl,hR,hP⟩
theorem open_spec {P : Program} (F : F_z0i P) (hCl : MClone P F.z0u.z0w.z0t.z0d.id)
  (hS : SKeys P F.z0u.z0w.z10.slices_Sorted_string.id F.z0u.z0w.z10.z0f.maps_Keys_mapstringstorechange_string_storechange_1.id)
  (v : AVal) (l : List Int) (e : Bool) (ps : List (List Int)) (n : Int) (hRep : ∀ X,ACalls P F.z09.id [v] (H ++ X) (fun r H'=>r = .list false 1 (bC l) ∧ H' = H ++ X))
  (hRd : ∀ X,ACalls P F.journal_Read.id [v] (H ++ X) (fun r H'=>r = .tuple [.list e 1 (pL ps),.int .i64 n] ∧ H' = H ++ X))
  (hps : ps.length ≤ 1000000) (hpb : ∀ p ∈ ps,Byt p ∧ p.length ≤ 80000) :
  ACalls P F.id [v] H (fun r H'=>match openL (Sto.new l) ps with
   | none=>r = .tuple [.nilp,.int .i64 11] ∧ H' = H
   | some σ=>σ.Rp ps.length ∧ ∃ s ro z,r = .tuple [.ptr s 1 0 0,.int .i64 0] ∧ RepP H' s σ ro z ∧ Post H H' (fun _=>none) ro):=by
 have h0:=open_raw F hCl hS v l e ps n hRep hRd hps hpb
 have hrp : ∀ (ps : List (List Int)) (σ0 σ : Sto) (k : Nat),σ0.Rp k → openL σ0 ps = some σ → σ.Rp (k + ps.length):=by
  intro ps
  induction ps with
  | nil=>intro σ0 σ k h1 h2;cases h2;exact h1
  | cons p ps ih =>
   intro σ0 σ k h1 h2
   rw [openL_cons] at h2
   split at h2
   ·cases h2
   ·rename_i σ' ha
    have:=ih σ' σ (k + 1) (h1.apply ha) h2
    rw [show k + (p :: ps).length = k + 1 + ps.length by rw [List.length_cons];omega]
    exact this
 cases ho : openL (Sto.new l) ps with
 | none =>
  rw [ho] at h0
  refine ACalls.cutC (.tuple _ fun c hc=>by simp at hc;rcases hc with rfl | rfl <;> exact .closed _ rfl) (h0.mono ?_)
  rintro r H1 ⟨rfl,ro,hP⟩
  refine ⟨rfl,H1.drop H.length,?_⟩
  conv=>lhs;rw [← List.take_append_drop H.length H1]
  congr 1
  apply List.ext_getElem?
  intro i
  by_cases hi : i < H.length
  ·rw [List.getElem?_take_of_lt hi];exact (hP.2 i hi rfl).2
  ·rw [List.getElem?_eq_none (by rw [List.length_take];omega),List.getElem?_eq_none (by omega)]
 | some σ =>
  rw [ho] at h0
  refine h0.mono fun r H1 hq=>⟨?_,hq⟩
  have:=hrp ps _ σ 0 (Sto.Rp.new l) ho
  rwa [Nat.zero_add] at this
end
def RDr (H : List AObj) (ro : Nat → Option Role) (_ : ByteArray) (x : AVal) (d : List Int) : Prop:=(x = .nil ∧ d = []) ∨ ∃ id,x = bsl id d ∧ ro id = some .blob ∧ H[id]? = some (bO d)
def chE (q : AVal × ByteArray × Chg) : List AVal:=[.str q.2.1,.bool q.2.2.rm,q.1]
def EL (H : List AObj) (ro : Nat → Option Role) (l : List (AVal × ByteArray × Chg)) : Prop:=∀ q ∈ l,RDr H ro q.2.1 q.1 q.2.2.data ∧ (q.2.2.rm = false → q.1 ≠ .nil)
def RTr (H : List AObj) (ro : Nat → Option Role) (e : ByteArray) (x : AVal) (c : List (ByteArray × Chg)) : Prop :=
 ∃ id l,x = .sl id l.length 0 l.length ∧ ro id = some (.stg e) ∧ H[id]? = some (.arr 3 (l.map chE)) ∧ l.map (·.2) = c ∧ EL H ro l
def RBr (H : List AObj) (ro : Nat → Option Role) (_ : ByteArray) (x : AVal) (d : List (ByteArray × List Int)) : Prop :=
 (x = .nilm ∧ d = []) ∨ ∃ id kvs,x = .mp id ∧ ro id = some .blob ∧ H[id]? = some (.map kvs) ∧ PM (RDr H ro) kvs d
def RL (x : AVal) (l : List Int) : Prop:=(x = .nil ∧ l = []) ∨ x = .list false 1 (bC l)
structure RepR (H : List AObj) (s : Nat) (σ : Sto) (ro : Nat → Option Role) (z : SP) (lv : AVal) : Prop where
 hs : H[s]? = some (.arr 4 [[.mp z.b,.mp z.t,.mp z.v,lv]])
 hb : H[z.b]? = some (.map z.B)
 ht : H[z.t]? = some (.map z.T)
 hv : H[z.v]? = some (.map z.V)
 rs : ro s = some .s
 rb : ro z.b = some .b
 rt : ro z.t = some .t
 rv : ro z.v = some .v
 pB : PM (RBr H ro) z.B z.cB
 pT : PM (RTr H ro) z.T z.cT
 pV : PM RV z.V z.cV
 sB : KSrt z.cB
 sT : KSrt z.cT
 sV : KSrt z.cV
 eB : ∀ e,σ.blobs e = (kLk e z.cB).getD []
 eT : ∀ e,σ.staged e = (kLk e z.cT).getD []
 eV : ∀ e,σ.vers e = (kLk e z.cV).getD 0
 lt : ∀ i,ro i ≠ none → i < H.length
 lg : RL lv σ.log
section
variable {H H' : List AObj} {s : Nat} {σ : Sto} {ro ro' : Nat → Option Role} {z : SP} {lv : AVal}
theorem RDr.mono (hk : ∀ i,ro i = some .blob → ro' i = some .blob ∧ H'[i]? = H[i]?) {e : ByteArray} {x : AVal} {d : List Int} (h : RDr H ro e x d) : RDr H' ro' e x d:=by
 rcases h with h | ⟨id,h1,h2,h3⟩
 ·exact .inl h
 ·obtain ⟨g1,g2⟩:=hk id h2
  exact .inr ⟨id,h1,g1,g2.trans h3⟩
theorem EL.mono (hk : ∀ i,ro i = some .blob → ro' i = some .blob ∧ H'[i]? = H[i]?) {l : List (AVal × ByteArray × Chg)} (h : EL H ro l) : EL H' ro' l:=fun q hq=>⟨(h q hq).1.mono hk,(h q hq).2⟩
theorem RBr.mono (hk : ∀ i,ro i = some .blob → ro' i = some .blob ∧ H'[i]? = H[i]?) {e : ByteArray} {x : AVal} {d : List (ByteArray × List Int)} (h : RBr H ro e x d) : RBr H' ro' e x d:=by
 rcases h with h | ⟨id,kvs,h1,h2,h3,h4⟩
 ·exact .inl h
 ·obtain ⟨g1,g2⟩:=hk id h2
  exact .inr ⟨id,kvs,h1,g1,g2.trans h3,h4.mono fun k x a _ hR=>hR.mono hk⟩
theorem RTr.mono {e : ByteArray} (hb : ∀ i,ro i = some .blob → ro' i = some .blob ∧ H'[i]? = H[i]?) (hk : ∀ i,ro i = some (.stg e) → ro' i = some (.stg e) ∧ H'[i]? = H[i]?) {x : AVal} {c : List (ByteArray × Chg)} (h : RTr H ro e x c) : RTr H' ro' e x c:=by
 obtain ⟨id,l,h1,h2,h3,h4,h5⟩:=h
 obtain ⟨g1,g2⟩:=hk id h2
 exact ⟨id,l,h1,g1,g2.trans h3,h4,h5.mono hb⟩
theorem RepR.frame (h : RepR H s σ ro z lv) (hk : ∀ i,ro i ≠ none → H'[i]? = H[i]?) (hl : H.length ≤ H'.length) : RepR H' s σ ro z lv:=by
 have g : ∀ {i : Nat} {r : Role} {o : AObj},ro i = some r → H[i]? = some o → H'[i]? = some o:=fun h1 h2=>(hk _ (by rw [h1];simp)).trans h2
 have m : ∀ {r : Role} i,ro i = some r → ro i = some r ∧ H'[i]? = H[i]?:=fun i hi=>⟨hi,hk i (by rw [hi];simp)⟩
 exact ⟨g h.rs h.hs,g h.rb h.hb,g h.rt h.ht,g h.rv h.hv,h.rs,h.rb,h.rt,h.rv,h.pB.mono fun k x a _ hR=>hR.mono m,h.pT.mono fun k x a _ hR=>hR.mono m m,h.pV,h.sB,h.sT,h.sV,h.eB,h.eT,h.eV,fun i hi=>Nat.lt_of_lt_of_le (h.lt i hi) hl,h.lg⟩
theorem RepR.app {X : List AObj} (h : RepR H s σ ro z lv) : RepR (H ++ X) s σ ro z lv :=
 h.frame (fun i hi=>List.getElem?_append_left (h.lt i hi)) (by simp)
theorem RepR.fresh (h : RepR H s σ ro z lv) {i : Nat} (hi : H.length ≤ i) : ro i = none:=by
 cases hr : ro i with
 | none=>rfl
 | some r=>have:=h.lt i (by rw [hr];simp);omega
theorem RepR.other (h : RepR H s σ ro z lv) {i : Nat} (hi : ro i = none) (o : AObj) : RepR (H.set i o) s σ ro z lv :=
 h.frame (fun j hj=>get_ne' (fun e=>by subst e;exact hj hi)) (by simp)
theorem RepR.ns (h : RepR H s σ ro z lv) : ro s ≠ none:=by rw [h.rs];simp
theorem RepR.nb (h : RepR H s σ ro z lv) : ro z.b ≠ none:=by rw [h.rb];simp
theorem RepR.nt (h : RepR H s σ ro z lv) : ro z.t ≠ none:=by rw [h.rt];simp
theorem RepR.nv (h : RepR H s σ ro z lv) : ro z.v ≠ none:=by rw [h.rv];simp
theorem RepR.adopt (h : RepR H s σ ro z lv) {i : Nat} (hi : ro i = none) (hl : i < H.length) (r : Role) : RepR H s σ (updR ro i r) z lv:=by
 have hr : ∀ {j : Nat} {r' : Role},ro j = some r' → updR ro i r j = some r':=fun {j r'} h5=>by
  rw [updR_other];exact h5
  rintro rfl;rw [hi] at h5;cases h5
 refine ⟨h.hs,h.hb,h.ht,h.hv,hr h.rs,hr h.rb,hr h.rt,hr h.rv,h.pB.mono fun k x a _ hR=>hR.mono fun i hi=>⟨hr hi,rfl⟩,h.pT.mono fun k x a _ hR=>hR.mono (fun i hi=>⟨hr hi,rfl⟩) fun i hi=>⟨hr hi,rfl⟩,h.pV,h.sB,h.sT,h.sV,h.eB,h.eT,h.eV,fun j hj=>?_,h.lg⟩
 by_cases he : j = i
 ·subst he;exact hl
 ·rw [updR_other _ _ he] at hj;exact h.lt j hj
theorem RepR.del (h : RepR H s σ ro z lv) (env : ByteArray) : RepR (H.set z.t (.map (mdel 2 (.str env) z.T))) s (mvS σ env) ro (z.del env) lv:=by
 have g : ∀ {i : Nat} {r : Role},ro i = some r → r ≠ .t → (H.set z.t (.map (mdel 2 (.str env) z.T)))[i]? = H[i]?:=fun {i r} h5 h6=>get_ne' (ro_ne h.rt h5 (Ne.symm h6))
 refine ⟨(g h.rs (by simp)).trans h.hs,(g h.rb (by simp)).trans h.hb,set_at h.ht,(g h.rv (by simp)).trans h.hv,h.rs,h.rb,h.rt,h.rv,h.pB.mono fun k x a _ hR=>hR.mono fun i hi=>⟨hi,g hi (by simp)⟩,?_,h.pV,h.sB,h.sT.del _,h.sV,h.eB,?_,h.eV,fun i hi=>by rw [List.length_set];exact h.lt i hi,h.lg⟩
 ·exact (h.pT.del h.sT env).mono fun k x a _ hR=>hR.mono (fun i hi=>⟨hi,g hi (by simp)⟩) fun i hi=>⟨hi,g hi (by simp)⟩
 ·refine getD_upd (g:=fun o=>o.getD []) h.eT ?_ fun e he=>?_
  ·show (kLk env (kDel env z.cT)).getD [] = []
   rw [kDel_lk h.sT,kEq_refl,if_pos rfl];rfl
  ·show kLk e (kDel env z.cT) = _
   rw [kDel_lk h.sT,kEq_false he];rfl
theorem RepR.blb (h : RepR H s σ ro z lv) {env : ByteArray} {x : AVal} {d : List (ByteArray × List Int)} (hx : RBr H ro env x d) : RepR (H.set z.b (.map (mput 2 (.str env) x z.B))) s (vbS σ env d) ro (z.blb env x d) lv:=by
 have g : ∀ {i : Nat} {r : Role},ro i = some r → r ≠ .b → (H.set z.b (.map (mput 2 (.str env) x z.B)))[i]? = H[i]?:=fun {i r} h5 h6=>get_ne' (ro_ne h.rb h5 (Ne.symm h6))
 refine ⟨(g h.rs (by simp)).trans h.hs,set_at h.hb,(g h.rt (by simp)).trans h.ht,(g h.rv (by simp)).trans h.hv,h.rs,h.rb,h.rt,h.rv,?_,h.pT.mono fun k x a _ hR=>hR.mono (fun i hi=>⟨hi,g hi (by simp)⟩) fun i hi=>⟨hi,g hi (by simp)⟩,h.pV,h.sB.ins _ _,h.sT,h.sV,?_,h.eT,h.eV,fun i hi=>by rw [List.length_set];exact h.lt i hi,h.lg⟩
 ·exact (h.pB.put h.sB hx).mono fun k x a _ hR=>hR.mono fun i hi=>⟨hi,g hi (by simp)⟩
 ·refine getD_upd (g:=fun o=>o.getD []) h.eB ?_ fun e he=>?_
  ·show (kLk env (kIns env d z.cB)).getD [] = d
   rw [kIns_lk h.sB,kEq_refl,if_pos rfl];rfl
  ·show kLk e (kIns env d z.cB) = _
   rw [kIns_lk h.sB,kEq_false he];rfl
theorem RepR.ver (h : RepR H s σ ro z lv) (env : ByteArray) (n : Int) : RepR (H.set z.v (.map (mput 2 (.str env) (.int .i64 n) z.V))) s (vvS σ env n) ro (z.ver env n) lv:=by
 have g : ∀ {i : Nat} {r : Role},ro i = some r → r ≠ .v → (H.set z.v (.map (mput 2 (.str env) (.int .i64 n) z.V)))[i]? = H[i]?:=fun {i r} h5 h6=>get_ne' (ro_ne h.rv h5 (Ne.symm h6))
 refine ⟨(g h.rs (by simp)).trans h.hs,(g h.rb (by simp)).trans h.hb,(g h.rt (by simp)).trans h.ht,set_at h.hv,h.rs,h.rb,h.rt,h.rv,h.pB.mono fun k x a _ hR=>hR.mono fun i hi=>⟨hi,g hi (by simp)⟩,h.pT.mono fun k x a _ hR=>hR.mono (fun i hi=>⟨hi,g hi (by simp)⟩) fun i hi=>⟨hi,g hi (by simp)⟩,h.pV.put h.sV rfl,h.sB,h.sT,h.sV.ins _ _,h.eB,h.eT,?_,fun i hi=>by rw [List.length_set];exact h.lt i hi,h.lg⟩
 refine getD_upd (g:=fun o=>o.getD 0) h.eV ?_ fun e he=>?_
 ·show (kLk env (kIns env n z.cV)).getD 0 = n
  rw [kIns_lk h.sV,kEq_refl,if_pos rfl];rfl
 ·show kLk e (kIns env n z.cV) = _
  rw [kIns_lk h.sV,kEq_false he];rfl
theorem RepR.lgs (h : RepR H s σ ro z lv) (l : List Int) : RepR (H.set s (.arr 4 [[.mp z.b,.mp z.t,.mp z.v,.list false 1 (bC l)]])) s (lgS σ l) ro z (.list false 1 (bC l)):=by
 have g : ∀ {i : Nat} {r : Role},ro i = some r → r ≠ .s → (H.set s (.arr 4 [[.mp z.b,.mp z.t,.mp z.v,.list false 1 (bC l)]]))[i]? = H[i]?:=fun {i r} h5 h6=>get_ne' (ro_ne h.rs h5 (Ne.symm h6))
 exact ⟨set_at h.hs,(g h.rb (by simp)).trans h.hb,(g h.rt (by simp)).trans h.ht,(g h.rv (by simp)).trans h.hv,h.rs,h.rb,h.rt,h.rv,h.pB.mono fun k x a _ hR=>hR.mono fun i hi=>⟨hi,g hi (by simp)⟩,h.pT.mono fun k x a _ hR=>hR.mono (fun i hi=>⟨hi,g hi (by simp)⟩) fun i hi=>⟨hi,g hi (by simp)⟩,h.pV,h.sB,h.sT,h.sV,h.eB,h.eT,h.eV,fun i hi=>by rw [List.length_set];exact h.lt i hi,.inr rfl⟩
theorem RepR.stg (h : RepR H s σ ro z lv) {env : ByteArray} {x : AVal} {c : List (ByteArray × Chg)} (hx : RTr H ro env x c) : RepR (H.set z.t (.map (mput 2 (.str env) x z.T))) s { σ with staged:=updS σ.staged env c } ro { z with T:=mput 2 (.str env) x z.T,cT:=kIns env c z.cT } lv:=by
 have g : ∀ {i : Nat} {r : Role},ro i = some r → r ≠ .t → (H.set z.t (.map (mput 2 (.str env) x z.T)))[i]? = H[i]?:=fun {i r} h5 h6=>get_ne' (ro_ne h.rt h5 (Ne.symm h6))
 refine ⟨(g h.rs (by simp)).trans h.hs,(g h.rb (by simp)).trans h.hb,set_at h.ht,(g h.rv (by simp)).trans h.hv,h.rs,h.rb,h.rt,h.rv,h.pB.mono fun k x a _ hR=>hR.mono fun i hi=>⟨hi,g hi (by simp)⟩,?_,h.pV,h.sB,h.sT.ins _ _,h.sV,h.eB,?_,h.eV,fun i hi=>by rw [List.length_set];exact h.lt i hi,h.lg⟩
 ·exact (h.pT.put h.sT hx).mono fun k x a _ hR=>hR.mono (fun i hi=>⟨hi,g hi (by simp)⟩) fun i hi=>⟨hi,g hi (by simp)⟩
 ·refine getD_upd (g:=fun o=>o.getD []) h.eT ?_ fun e he=>?_
  ·show (kLk env (kIns env c z.cT)).getD [] = c
   rw [kIns_lk h.sT,kEq_refl,if_pos rfl];rfl
  ·show kLk e (kIns env c z.cT) = _
   rw [kIns_lk h.sT,kEq_false he];rfl
end
def posK {α : Type} (k : ByteArray) (l : List (ByteArray × α)) : Nat:=(l.filter fun p=>ltB p.1 k).length
theorem kDel_split {α : Type} (k : ByteArray) : ∀ {c : List (ByteArray × α)},KSrt c → kDel k c = c.filter (fun p=>ltB p.1 k) ++ c.filter fun p=>ltB k p.1
 | [],_=>rfl
 | p :: c,h=>by
  have h2 : KSrt c:=(List.pairwise_cons.1 h).2
  have hlt:=(List.pairwise_cons.1 h).1
  have ih:=kDel_split k h2
  unfold kDel at ih ⊢
  rcases ltB_tri p.1 k with h1 | h1 | h1
  ·simp only [List.filter_cons,h1,ltB_asym h1,kEq_false (ltB_ne h1).symm,Bool.not_false,if_true,Bool.false_eq_true,if_false,List.cons_append]
   rw [ih]
  ·simp only [List.filter_cons,h1,ltB_irr,kEq_refl,Bool.not_true,Bool.false_eq_true,if_false]
   exact ih
  ·simp only [List.filter_cons,h1,ltB_asym h1,kEq_false (ltB_ne h1),Bool.not_false,if_true,Bool.false_eq_true,if_false]
   rw [ih]
   have e : c.filter (fun p=>ltB p.1 k) = []:=by
    rw [List.filter_eq_nil_iff]
    intro q hq hc
    have:=ltB_trans h1 (hlt q hq)
    rw [ltB_asym this] at hc;cases hc
   rw [e];rfl
theorem kIns_take {α : Type} {k : ByteArray} {a : α} {c : List (ByteArray × α)} (h : KSrt c) {j : Nat} (hj : j = posK k c) : kIns k a c = (kDel k c).take j ++ (k,a) :: (kDel k c).drop j:=by
 rw [kDel_split k h,hj,posK,List.take_left,List.drop_left];rfl
theorem kEq_comm (a b : ByteArray) : kEq a b = kEq b a:=by
 unfold kEq
 rw [Bool.eq_iff_iff,beq_iff_eq,beq_iff_eq]
 exact ⟨Eq.symm,Eq.symm⟩
def kpt (name : ByteArray) (l : List (AVal × ByteArray × Chg)) : List (AVal × ByteArray × Chg):=l.filter fun q=>!kEq q.2.1 name
def one3 (l : List (AVal × ByteArray × Chg)) : List AObj:=l.map fun q=>.arr 3 [chE q]
theorem kpt_map (name : ByteArray) (l : List (AVal × ByteArray × Chg)) : (kpt name l).map (·.2) = kDel name (l.map (·.2)):=by
 unfold kpt kDel
 rw [List.filter_map]
 congr 1
 apply List.filter_congr
 intro q _
 show _ = !kEq name q.2.1
 rw [kEq_comm]
theorem take_succ_get {α : Type} {l : List α} {k : Nat} {x : α} (h : l[k]? = some x) : l.take (k + 1) = l.take k ++ [x]:=by rw [List.take_succ,h];rfl
theorem kpt_app (name : ByteArray) (a : List (AVal × ByteArray × Chg)) (q : AVal × ByteArray × Chg) : kpt name (a ++ [q]) = kpt name a ++ if kEq q.2.1 name then [] else [q]:=by
 unfold kpt
 rw [List.filter_append,List.filter_cons]
 cases kEq q.2.1 name <;> rfl
def rputX (H : List AObj) (L : List (AVal × ByteArray × Chg)) (q : AVal × ByteArray × Chg) : List AObj:=H ++ AObj.arr 3 [chE q] :: .arr 3 (L.map chE) :: one3 L
def rputL (L : List (AVal × ByteArray × Chg)) (j : Nat) (q : AVal × ByteArray × Chg) : List (AVal × ByteArray × Chg):=L.take j ++ q :: L.drop j
def rputH (H : List AObj) (z : SP) (env : ByteArray) (L : List (AVal × ByteArray × Chg)) (j : Nat) (q : AVal × ByteArray × Chg) : List AObj :=
 (rputX H L q ++ [AObj.arr 3 (chE q :: (L.drop j).map chE),.arr 3 ((rputL L j q).map chE)]).set z.t (.map (mput 2 (.str env) (.sl (H.length + L.length + 3) (rputL L j q).length 0 (rputL L j q).length) z.T))
theorem rputX_app (H : List AObj) (L : List (AVal × ByteArray × Chg)) (q0 q : AVal × ByteArray × Chg) : (rputX H L q0 ++ [AObj.arr 3 [chE q]]).set (H.length + 1) (.arr 3 (L.map chE ++ [chE q])) = rputX H (L ++ [q]) q0:=by
 unfold rputX one3
 rw [List.append_assoc,List.cons_append,List.cons_append,setB]
 simp
theorem posK_of {name : ByteArray} {l L : List (AVal × ByteArray × Chg)} (hs : KSrt (l.map (·.2))) (hL : L = kpt name l) {j : Nat} (hj : j ≤ L.length) (hb : ∀ i q,j ≤ i → L[i]? = some q → ltB name q.2.1 = true)
  (ha : ∀ q,0 < j → L[j - 1]? = some q → ltB name q.2.1 = false) : j = posK name (l.map (·.2)):=by
 have hm : L.map (·.2) = (l.map (·.2)).filter (fun p=>ltB p.1 name) ++ (l.map (·.2)).filter fun p=>ltB name p.1:=by
  rw [hL,kpt_map,kDel_split name hs]
 have hlen : L.length = (L.map (·.2)).length:=by simp
 have hat : ∀ (i : Nat) (q : AVal × ByteArray × Chg),L[i]? = some q → (L.map (·.2))[i]? = some q.2:=fun i q h=>by rw [List.getElem?_map,h];rfl
 unfold posK
 generalize hA : (l.map (·.2)).filter (fun p=>ltB p.1 name) = A at hm ⊢
 generalize hB : ((l.map (·.2)).filter fun p=>ltB name p.1) = B at hm
 rcases Nat.lt_trichotomy j A.length with h | h | h
 ·exfalso
  have h1 : j < L.length:=by rw [hlen,hm,List.length_append];omega
  have h2:=hb j L[j] (Nat.le_refl _) (List.getElem?_eq_getElem h1)
  have h3:=hat j _ (List.getElem?_eq_getElem h1)
  rw [hm,List.getElem?_append_left h] at h3
  have h4:=List.mem_of_getElem? h3
  rw [← hA] at h4
  have h5:=(List.mem_filter.1 h4).2
  rw [ltB_asym h5] at h2;cases h2
 ·exact h
 ·exfalso
  have h1 : j - 1 < L.length:=by omega
  have h2:=ha L[j - 1] (by omega) (List.getElem?_eq_getElem h1)
  have h3:=hat (j - 1) _ (List.getElem?_eq_getElem h1)
  rw [hm,List.getElem?_append_right (by omega)] at h3
  have h4:=List.mem_of_getElem? h3
  rw [← hB] at h4
  have h5:=(List.mem_filter.1 h4).2
  rw [h5] at h2;cases h2
theorem set_snocE {X : List AObj} {o : AObj} {es e' : List (List AVal)} (h : es = e') : (X ++ [o]).set (0 + X.length) (AObj.arr 3 es) = X ++ [.arr 3 e']:=by rw [h,set_snoc]
theorem rput_fin (H : List AObj) (z : SP) (env : ByteArray) (L : List (AVal × ByteArray × Chg)) (j : Nat) (q : AVal × ByteArray × Chg) {E : List (List AVal)} {n : Nat} (hE : E = (rputL L j q).map chE) (hn : n = H.length + L.length + 3) :
  (rputX H L q ++ [AObj.arr 3 (chE q :: (L.drop j).map chE)] ++ [AObj.arr 3 E]).set z.t (.map (mput 2 (.str env) (.sl n E.length 0 E.length) z.T)) = rputH H z env L j q:=by
 subst hE hn
 unfold rputH
 rw [List.append_assoc,List.length_map];rfl
section
variable {H : List AObj} {s : Nat} {σ : Sto} {ro : Nat → Option Role} {z : SP} {lv : AVal}
set_option maxRecDepth 20000 in
theorem rput_raw {P : Program} (F : F_z1y P) (h : RepR H s σ ro z lv) (env name : ByteArray) (c : Chg) (x : AVal) (hcx : x = .nil ∨ ∃ id d,x = bsl id d) (l : List (AVal × ByteArray × Chg))
  (hl : (mfind 2 (.str env) z.T = none ∧ l = []) ∨ ∃ id,mfind 2 (.str env) z.T = some (.sl id l.length 0 l.length) ∧ H[id]? = some (.arr 3 (l.map chE))) (hs : KSrt (l.map (·.2))) (hlen : l.length ≤ 1000000) (hlx : ∀ q ∈ l,q.1.isCell = true) :
  ACalls P F.id [.ptr s 1 0 0,.str env,.agg [.str name,.bool c.rm,x]] H (fun r H'=>r = .tuple [] ∧ H' = rputH H z env (kpt name l) (posK name (l.map (·.2))) (x,name,c)):=by
 have hxc : x.isCell = true:=by rcases hcx with rfl | ⟨_,_,rfl⟩ <;> rfl
 refine acalls_of_body F.has ?_
 (conv=>whnf);refine recT (by rcases hcx with rfl | ⟨_,_,rfl⟩ <;> rfl) ?_
 (conv=>whnf);refine snocK_to ?_
 conv=>whnf
 refine ⟨fun m ρ H1=>∃ k : Nat,k + m = l.length ∧ H1 = rputX H (kpt name (l.take k)) (x,name,c) ∧
  Sv 78 [(0,.ptr s 1 0 0),(1,.str env),(5,.ptr H.length 1 0 0),(6,.sl (H.length + 1) (kpt name (l.take k)).length 0 (kpt name (l.take k)).length),(7,.int .i64 k)] ρ,l.length,[(6,3)],?_,?_⟩
 ·(conv=>whnf);refine snocK_to ?_
  conv=>whnf
  refine ⟨0,by omega,by simp [rputX,kpt,one3,chE],Sv.intro rfl ⟨rfl,rfl,?_,?_,rfl,trivial⟩⟩
  ·show AVal.ptr _ _ _ _ = _
   simp
  ·show AVal.sl _ _ _ _ = _
   simp [kpt]
 rintro m ρ H1 ⟨k,hk,rfl,d,rfl⟩
 have hK : ∀ {i : Nat} {o : AObj} {L : List (AVal × ByteArray × Chg)},H[i]? = some o → (rputX H L (x,name,c))[i]? = some o:=fun h=>at_old h
 have hA : ∀ {L : List (AVal × ByteArray × Chg)},(rputX H L (x,name,c))[H.length]? = some (.arr 3 [chE (x,name,c)]):=getA
 have hB : ∀ {L : List (AVal × ByteArray × Chg)},(rputX H L (x,name,c))[H.length + 1]? = some (.arr 3 (L.map chE)):=getB
 have hLl : (kpt name (l.take k)).length ≤ 1000000:=Nat.le_trans (List.length_filter_le _ _) (by rw [List.length_take];omega)
 generalize hL : kpt name (l.take k) = L at hLl ⊢
 (conv=>whnf);refine recO (hK h.hs) ?_
 (conv=>whnf);refine recO (hK h.ht) ?_
 (conv=>whnf);refine recT (h.pT.ok env) ?_
 rcases hl with ⟨e1,rfl⟩ | ⟨id,e1,hid⟩
 ·(conv=>whnf);refine recN e1 ?_
  have hk0 : k = 0:=by { simp at hk;omega }
  subst hk0
  have hL2 : L = kpt name []:=by rw [← hL];rfl
  (conv=>whnf);refine recO (hB) ?_
  (conv=>whnf);refine recT (by simp) ?_
  conv=>whnf
  have hkl : L.length ≤ 1000000:=by rw [hL2];exact Nat.le_trans (List.length_filter_le _ _) hlen
  refine ⟨fun m ρ H1=>m ≤ L.length ∧ (∀ i q,m ≤ i → L[i]? = some q → ltB name q.2.1 = true) ∧ H1 = rputX H L (x,name,c) ∧
   Sv 78 [(0,.ptr s 1 0 0),(1,.str env),(5,.ptr H.length 1 0 0),(6,.sl (H.length + 1) L.length 0 L.length),(8,.int .i64 m)] ρ,L.length,[],?_,?_⟩
  ·exact ⟨Nat.le_refl _,fun i q h1 h2=>absurd (List.getElem?_eq_some_iff.1 h2).1 (by omega),rfl,Sv.intro rfl ⟨rfl,rfl,rfl,rfl,rfl,trivial⟩⟩
  rintro j ρ H1 ⟨hj,hbeh,rfl,d2,rfl⟩
  (conv=>whnf);refine recA (fun hpos=>?_) (fun hpos=>?_)
  ·simp at hpos
   obtain ⟨j,rfl⟩ : ∃ i,j = i + 1:=⟨j - 1,by omega⟩
   obtain ⟨⟨xq,nq,cq⟩,hq,_,hqm⟩:=get_drop (show j < L.length by omega)
   have hw1 : IntKind.i64.wrap (((j + 1 : Nat) : Int) - 1) = (j : Int):=by rw [wrapI _ (by omega) (by omega)];omega
   have hqe : (L.map chE)[0 + (j : Int).toNat]? = some (chE (xq,nq,cq)):=by rw [Nat.zero_add,Int.toNat_natCast,List.getElem?_map,hq];rfl
   (conv=>whnf);refine recO (hA) ?_
   conv=>whnf
   rw [hw1]
   (conv=>whnf);refine recO (hB) ?_
   (conv=>whnf);refine recT (by simp) ?_
   (conv=>whnf);refine And.intro (by omega) ?_
   (conv=>whnf);refine recO (hB) ?_
   (conv=>whnf);refine recT (by simp) ?_
   (conv=>whnf);refine recO (hqe) ?_
   cases hlt2 : ltB name nq with
   | true =>
    (conv=>whnf);refine recT (hlt2) ?_
    conv=>whnf
    rw [hw1]
    refine ⟨j,by omega,Gp.keep rfl ?_ fun ρ1 h=>⟨by omega,fun i q h1 h2=>?_,rfl,h⟩⟩
    ·exact ⟨rfl,rfl,rfl,rfl,rfl,trivial⟩
    ·rcases Nat.lt_or_ge j i with h3 | h3
     ·exact hbeh i q h3 h2
     ·obtain rfl : i = j:=by omega
      rw [hq] at h2;cases h2;exact hlt2
   | false =>
    (conv=>whnf);refine recF (hlt2) ?_
    have hpk : j + 1 = posK name (([] : List (AVal × ByteArray × Chg)).map (·.2)):=posK_of hs hL2 hj hbeh fun q h1 h2=>by
     rw [Nat.add_sub_cancel,hq] at h2;cases h2;exact hlt2
    (conv=>whnf);refine recO (hK h.hs) ?_
    (conv=>whnf);refine recO (hB) ?_
    (conv=>whnf);refine recT (by simp) ?_
    (conv=>whnf);refine And.intro (by omega) ?_
    (conv=>whnf);refine recT (by simp <;> omega) ?_
    (conv=>whnf);refine recO (hA) ?_
    (conv=>whnf);refine recT (by simp [chE,hxc];exact ⟨rfl,rfl⟩) ?_
    (conv=>whnf);refine snocK_to ?_
    (conv=>whnf);refine recO (at_old hB) ?_
    (conv=>whnf);refine recT (by simp) ?_
    (conv=>whnf);refine And.intro (by omega) ?_
    (conv=>whnf);refine recO (at_old hB) ?_
    (conv=>whnf);refine recT (by simp) ?_
    (conv=>whnf);refine recO (at_snoc _ _) ?_
    have hdr : [chE (x,name,c)] ++ List.take (L.length - ((j + 1 : Nat) : Int).toNat) (List.drop (0 + ((j + 1 : Nat) : Int).toNat) (L.map chE)) = chE (x,name,c) :: (L.drop (j + 1)).map chE:=by
     rw [Nat.zero_add,Int.toNat_natCast,List.take_of_length_le (by simp),← List.map_drop];rfl
    (conv=>whnf);refine And.intro (⟨by simp [roomB];omega,by simp [roomB];omega,rfl,rfl⟩) ?_
    refine setO_at (set_snocE hdr) ?_
    (conv=>whnf);refine recO (at_snoc _ _) ?_
    (conv=>whnf);refine recT (by simp <;> omega) ?_
    (conv=>whnf);refine recO (at_old hB) ?_
    (conv=>whnf);refine recT (by simp) ?_
    (conv=>whnf);refine Or.inr (And.intro ⟨rfl,by simp,by simp [roomB];omega,by simp [roomB];omega⟩ ?_)
    (conv=>whnf);refine snocK_to ?_
    (conv=>whnf);refine recO (at_old (at_old (hK h.ht))) ?_
    (conv=>whnf);refine recT (h.pT.ok env) ?_
    (conv=>whnf)
    refine setO_at rfl ?_
    conv=>whnf
    refine And.intro ?_ ?_
    ·(conv=>whnf);refine recO (hB) ?_
     (conv=>whnf);refine recT (by simp) ?_
     (conv=>whnf);refine And.intro (by omega) ?_
     conv=>whnf
    conv=>whnf
    refine And.intro ?_ ?_
    ·first
     | ((conv=>whnf);refine recO (hB) ?_)
     | ((conv=>whnf);refine recO (at_old hB) ?_)
     | ((conv=>whnf);refine recO (at_old (at_old hB)) ?_)
     (conv=>whnf);refine recT (by simp) ?_
     (conv=>whnf);refine And.intro (by omega) ?_
     (conv=>whnf);refine recT (by simp <;> omega) ?_
     conv=>whnf
    conv=>whnf
    refine And.intro ?_ ?_
    ·first
     | ((conv=>whnf);refine recO (hB) ?_)
     | ((conv=>whnf);refine recO (at_old hB) ?_)
     | ((conv=>whnf);refine recO (at_old (at_old hB)) ?_)
     (conv=>whnf);refine recT (by simp) ?_
     (conv=>whnf);refine And.intro (by omega) ?_
     (conv=>whnf);refine recT (by simp <;> omega) ?_
     conv=>whnf
    conv=>whnf
    refine And.intro ?_ ?_
    ·first
     | ((conv=>whnf);refine recO (hK h.hs) ?_)
     | ((conv=>whnf);refine recO (at_old (hK h.hs)) ?_)
     | ((conv=>whnf);refine recO (at_old (at_old (hK h.hs))) ?_)
     conv=>whnf
    conv=>whnf
    refine And.intro ?_ ?_
    ·first
     | ((conv=>whnf);refine recO (hK h.hs) ?_)
     | ((conv=>whnf);refine recO (at_old (hK h.hs)) ?_)
     | ((conv=>whnf);refine recO (at_old (at_old (hK h.hs))) ?_)
     conv=>whnf
    conv=>whnf
    refine And.intro ?_ ?_
    ·first
     | ((conv=>whnf);refine recO (hK h.hs) ?_)
     | ((conv=>whnf);refine recO (at_old (hK h.hs)) ?_)
     | ((conv=>whnf);refine recO (at_old (at_old (hK h.hs))) ?_)
     conv=>whnf
    conv=>whnf
    refine ⟨rfl,?_⟩
    rw [← hL2,← hpk]
    refine rput_fin H z env L (j + 1) (x,name,c) ?_ (by simp [rputX,one3];omega)
    have e1 : ∀ (a : AVal × ByteArray × Chg) (l : List (AVal × ByteArray × Chg)) (n : Nat),n = l.length + 1 → List.take n (List.drop 0 (chE a :: l.map chE)) = chE a :: l.map chE:=fun a l n hn=>by
     rw [List.drop_zero,List.take_of_length_le (by simp [hn])]
    rw [e1,List.drop_zero,Int.toNat_natCast,← List.map_take]
    ·simp [rputL]
    ·simp <;> omega
  ·simp at hpos
   obtain rfl : j = 0:=by omega
   have hpk : 0 = posK name (([] : List (AVal × ByteArray × Chg)).map (·.2)):=posK_of hs hL2 hj hbeh fun q h1 h2=>absurd h1 (by omega)
   conv=>whnf
   (conv=>whnf);refine recO (hK h.hs) ?_
   (conv=>whnf);refine recO (hB) ?_
   (conv=>whnf);refine recT (by simp) ?_
   (conv=>whnf);refine And.intro (by omega) ?_
   conv=>whnf
   (conv=>whnf);refine recO (hA) ?_
   (conv=>whnf);refine recT (by simp [chE,hxc];exact ⟨rfl,rfl⟩) ?_
   (conv=>whnf);refine snocK_to ?_
   (conv=>whnf);refine recO (at_old hB) ?_
   (conv=>whnf);refine recT (by simp) ?_
   (conv=>whnf);refine And.intro (by omega) ?_
   (conv=>whnf);refine recO (at_old hB) ?_
   (conv=>whnf);refine recT (by simp) ?_
   (conv=>whnf);refine recO (at_snoc _ _) ?_
   have hdr : [chE (x,name,c)] ++ List.take (L.length - ((0 : Nat) : Int).toNat) (List.drop (0 + ((0 : Nat) : Int).toNat) (L.map chE)) = chE (x,name,c) :: (L.drop 0).map chE:=by
    rw [Nat.zero_add,Int.toNat_natCast,List.take_of_length_le (by simp),← List.map_drop];rfl
   (conv=>whnf);refine And.intro (⟨by simp [roomB];omega,by simp [roomB];omega,rfl,rfl⟩) ?_
   refine setO_at (set_snocE hdr) ?_
   (conv=>whnf);refine recO (at_snoc _ _) ?_
   (conv=>whnf);refine recT (by simp <;> omega) ?_
   (conv=>whnf);refine And.intro (⟨by simp [roomB];omega,by simp [roomB];omega,.inr rfl⟩) ?_
   (conv=>whnf);refine snocK_to ?_
   (conv=>whnf);refine recO (at_old (at_old (hK h.ht))) ?_
   (conv=>whnf);refine recT (h.pT.ok env) ?_
   (conv=>whnf)
   refine setO_at rfl ?_
   conv=>whnf
   refine And.intro ?_ ?_
   ·(conv=>whnf);refine recO (hB) ?_
    (conv=>whnf);refine recT (by simp) ?_
    (conv=>whnf);refine And.intro (by omega) ?_
    conv=>whnf
   conv=>whnf
   refine And.intro ?_ ?_
   ·first
    | ((conv=>whnf);refine recO (hB) ?_)
    | ((conv=>whnf);refine recO (at_old hB) ?_)
    | ((conv=>whnf);refine recO (at_old (at_old hB)) ?_)
    (conv=>whnf);refine recT (by simp) ?_
    (conv=>whnf);refine And.intro (by omega) ?_
    conv=>whnf
   conv=>whnf
   refine And.intro ?_ ?_
   ·first
    | ((conv=>whnf);refine recO (hB) ?_)
    | ((conv=>whnf);refine recO (at_old hB) ?_)
    | ((conv=>whnf);refine recO (at_old (at_old hB)) ?_)
    (conv=>whnf);refine recT (by simp) ?_
    (conv=>whnf);refine And.intro (by omega) ?_
    conv=>whnf
   conv=>whnf
   refine And.intro ?_ ?_
   ·first
    | ((conv=>whnf);refine recO (hK h.hs) ?_)
    | ((conv=>whnf);refine recO (at_old (hK h.hs)) ?_)
    | ((conv=>whnf);refine recO (at_old (at_old (hK h.hs))) ?_)
    conv=>whnf
   conv=>whnf
   refine And.intro ?_ ?_
   ·first
    | ((conv=>whnf);refine recO (hK h.hs) ?_)
    | ((conv=>whnf);refine recO (at_old (hK h.hs)) ?_)
    | ((conv=>whnf);refine recO (at_old (at_old (hK h.hs))) ?_)
    conv=>whnf
   conv=>whnf
   refine And.intro ?_ ?_
   ·first
    | ((conv=>whnf);refine recO (hK h.hs) ?_)
    | ((conv=>whnf);refine recO (at_old (hK h.hs)) ?_)
    | ((conv=>whnf);refine recO (at_old (at_old (hK h.hs))) ?_)
    conv=>whnf
   conv=>whnf
   refine ⟨rfl,?_⟩
   rw [← hL2,← hpk]
   refine rput_fin H z env L 0 (x,name,c) ?_ (by simp [rputX,one3];omega)
   have e1 : ∀ (a : AVal × ByteArray × Chg) (l : List (AVal × ByteArray × Chg)) (n : Nat),n = l.length + 1 → List.take n (List.drop 0 (chE a :: l.map chE)) = chE a :: l.map chE:=fun a l n hn=>by
    rw [List.drop_zero,List.take_of_length_le (by simp [hn])]
   rw [e1]
   ·simp [rputL]
   ·simp <;> omega
 ·(conv=>whnf);refine recO (e1) ?_
  (conv=>whnf);refine recO (hK hid) ?_
  (conv=>whnf);refine recT (by simp) ?_
  (conv=>whnf);refine recA (fun hlt=>?_) (fun hlt=>?_)
  ·simp at hlt
   obtain ⟨⟨xq,nq,cq⟩,hq,hqd,hqm⟩:=get_drop hlt
   have hqe : (l.map chE)[0 + (k : Int).toNat]? = some (chE (xq,nq,cq)):=by rw [Nat.zero_add,Int.toNat_natCast,List.getElem?_map,hq];rfl
   (conv=>whnf);refine recO (hK h.hs) ?_
   (conv=>whnf);refine recO (hK h.ht) ?_
   (conv=>whnf);refine recT (h.pT.ok env) ?_
   (conv=>whnf);refine recO (e1) ?_
   (conv=>whnf);refine recO (hK hid) ?_
   (conv=>whnf);refine recT (by simp) ?_
   (conv=>whnf);refine And.intro (by omega) ?_
   (conv=>whnf);refine recO (hK hid) ?_
   (conv=>whnf);refine recT (by simp) ?_
   (conv=>whnf);refine recO (hqe) ?_
   (conv=>whnf);refine recO (hA) ?_
   cases heq : kEq nq name with
   | true =>
    (conv=>whnf);refine recF (by show (!(kEq nq name)) = false;rw [heq];rfl) ?_
    conv=>whnf
    have hLn : kpt name (l.take (k + 1)) = L:=by rw [take_succ_get hq,kpt_app,hL,heq];simp
    refine ⟨m - 1,by omega,Gp.keep rfl ?_ fun ρ1 h=>⟨k + 1,by omega,by rw [hLn],h⟩⟩
    rw [hLn]
    exact ⟨rfl,rfl,rfl,rfl,intEq (wrapI ((k : Int) + 1) (by omega) (by omega)),trivial⟩
   | false =>
    (conv=>whnf);refine recT (by show (!(kEq nq name)) = true;rw [heq];rfl) ?_
    (conv=>whnf);refine recO (hK h.hs) ?_
    (conv=>whnf);refine recO (hK h.ht) ?_
    (conv=>whnf);refine recT (h.pT.ok env) ?_
    (conv=>whnf);refine recO (e1) ?_
    (conv=>whnf);refine recO (hK hid) ?_
    (conv=>whnf);refine recT (by simp) ?_
    (conv=>whnf);refine And.intro (by omega) ?_
    (conv=>whnf);refine recO (hK hid) ?_
    (conv=>whnf);refine recT (by simp) ?_
    (conv=>whnf);refine recO (hqe) ?_
    (conv=>whnf);refine recT (by have:=hlx _ hqm;simp [chE,this];exact ⟨rfl,rfl⟩) ?_
    (conv=>whnf);refine snocK_to ?_
    (conv=>whnf);refine recO (at_snoc _ _) ?_
    (conv=>whnf);refine recO (at_old hB) ?_
    (conv=>whnf);refine recT (by simp) ?_
    (conv=>whnf);refine And.intro (⟨by simp [roomB];omega,by simp [roomB];omega,rfl,by simp⟩) ?_
    refine setO_at (rputX_app H L (x,name,c) (xq,nq,cq)) ?_
    conv=>whnf
    have hLn : kpt name (l.take (k + 1)) = L ++ [(xq,nq,cq)]:=by rw [take_succ_get hq,kpt_app,hL,heq];rfl
    refine ⟨m - 1,by omega,Gp.keep rfl ?_ fun ρ1 h=>⟨k + 1,by omega,by rw [hLn],h⟩⟩
    rw [hLn]
    refine ⟨rfl,rfl,rfl,?_,intEq (wrapI ((k : Int) + 1) (by omega) (by omega)),trivial⟩
    show AVal.sl _ _ _ _ = _
    simp
  ·simp at hlt
   have hL2 : L = kpt name l:=by rw [← hL,List.take_of_length_le hlt]
   (conv=>whnf);refine recO (hB) ?_
   (conv=>whnf);refine recT (by simp) ?_
   conv=>whnf
   have hkl : L.length ≤ 1000000:=by rw [hL2];exact Nat.le_trans (List.length_filter_le _ _) hlen
   refine ⟨fun m ρ H1=>m ≤ L.length ∧ (∀ i q,m ≤ i → L[i]? = some q → ltB name q.2.1 = true) ∧ H1 = rputX H L (x,name,c) ∧
    Sv 78 [(0,.ptr s 1 0 0),(1,.str env),(5,.ptr H.length 1 0 0),(6,.sl (H.length + 1) L.length 0 L.length),(8,.int .i64 m)] ρ,L.length,[],?_,?_⟩
   ·exact ⟨Nat.le_refl _,fun i q h1 h2=>absurd (List.getElem?_eq_some_iff.1 h2).1 (by omega),rfl,Sv.intro rfl ⟨rfl,rfl,rfl,rfl,rfl,trivial⟩⟩
   rintro j ρ H1 ⟨hj,hbeh,rfl,d2,rfl⟩
   (conv=>whnf);refine recA (fun hpos=>?_) (fun hpos=>?_)
   ·simp at hpos
    obtain ⟨j,rfl⟩ : ∃ i,j = i + 1:=⟨j - 1,by omega⟩
    obtain ⟨⟨xq,nq,cq⟩,hq,_,hqm⟩:=get_drop (show j < L.length by omega)
    have hw1 : IntKind.i64.wrap (((j + 1 : Nat) : Int) - 1) = (j : Int):=by rw [wrapI _ (by omega) (by omega)];omega
    have hqe : (L.map chE)[0 + (j : Int).toNat]? = some (chE (xq,nq,cq)):=by rw [Nat.zero_add,Int.toNat_natCast,List.getElem?_map,hq];rfl
    (conv=>whnf);refine recO (hA) ?_
    conv=>whnf
    rw [hw1]
    (conv=>whnf);refine recO (hB) ?_
    (conv=>whnf);refine recT (by simp) ?_
    (conv=>whnf);refine And.intro (by omega) ?_
    (conv=>whnf);refine recO (hB) ?_
    (conv=>whnf);refine recT (by simp) ?_
    (conv=>whnf);refine recO (hqe) ?_
    cases hlt2 : ltB name nq with
    | true =>
     (conv=>whnf);refine recT (hlt2) ?_
     conv=>whnf
     rw [hw1]
     refine ⟨j,by omega,Gp.keep rfl ?_ fun ρ1 h=>⟨by omega,fun i q h1 h2=>?_,rfl,h⟩⟩
     ·exact ⟨rfl,rfl,rfl,rfl,rfl,trivial⟩
     ·rcases Nat.lt_or_ge j i with h3 | h3
      ·exact hbeh i q h3 h2
      ·obtain rfl : i = j:=by omega
       rw [hq] at h2;cases h2;exact hlt2
    | false =>
     (conv=>whnf);refine recF (hlt2) ?_
     have hpk : j + 1 = posK name (l.map (·.2)):=posK_of hs hL2 hj hbeh fun q h1 h2=>by
      rw [Nat.add_sub_cancel,hq] at h2;cases h2;exact hlt2
     (conv=>whnf);refine recO (hK h.hs) ?_
     (conv=>whnf);refine recO (hB) ?_
     (conv=>whnf);refine recT (by simp) ?_
     (conv=>whnf);refine And.intro (by omega) ?_
     (conv=>whnf);refine recT (by simp <;> omega) ?_
     (conv=>whnf);refine recO (hA) ?_
     (conv=>whnf);refine recT (by simp [chE,hxc];exact ⟨rfl,rfl⟩) ?_
     (conv=>whnf);refine snocK_to ?_
     (conv=>whnf);refine recO (at_old hB) ?_
     (conv=>whnf);refine recT (by simp) ?_
     (conv=>whnf);refine And.intro (by omega) ?_
     (conv=>whnf);refine recO (at_old hB) ?_
     (conv=>whnf);refine recT (by simp) ?_
     (conv=>whnf);refine recO (at_snoc _ _) ?_
     have hdr : [chE (x,name,c)] ++ List.take (L.length - ((j + 1 : Nat) : Int).toNat) (List.drop (0 + ((j + 1 : Nat) : Int).toNat) (L.map chE)) = chE (x,name,c) :: (L.drop (j + 1)).map chE:=by
      rw [Nat.zero_add,Int.toNat_natCast,List.take_of_length_le (by simp),← List.map_drop];rfl
     (conv=>whnf);refine And.intro (⟨by simp [roomB];omega,by simp [roomB];omega,rfl,rfl⟩) ?_
     refine setO_at (set_snocE hdr) ?_
     (conv=>whnf);refine recO (at_snoc _ _) ?_
     (conv=>whnf);refine recT (by simp <;> omega) ?_
     (conv=>whnf);refine recO (at_old hB) ?_
     (conv=>whnf);refine recT (by simp) ?_
     (conv=>whnf);refine Or.inr (And.intro ⟨rfl,by simp,by simp [roomB];omega,by simp [roomB];omega⟩ ?_)
     (conv=>whnf);refine snocK_to ?_
     (conv=>whnf);refine recO (at_old (at_old (hK h.ht))) ?_
     (conv=>whnf);refine recT (h.pT.ok env) ?_
     (conv=>whnf)
     refine setO_at rfl ?_
     conv=>whnf
     refine And.intro ?_ ?_
     ·(conv=>whnf);refine recO (hB) ?_
      (conv=>whnf);refine recT (by simp) ?_
      (conv=>whnf);refine And.intro (by omega) ?_
      conv=>whnf
     conv=>whnf
     refine And.intro ?_ ?_
     ·first
      | ((conv=>whnf);refine recO (hB) ?_)
      | ((conv=>whnf);refine recO (at_old hB) ?_)
      | ((conv=>whnf);refine recO (at_old (at_old hB)) ?_)
      (conv=>whnf);refine recT (by simp) ?_
      (conv=>whnf);refine And.intro (by omega) ?_
      (conv=>whnf);refine recT (by simp <;> omega) ?_
      conv=>whnf
     conv=>whnf
     refine And.intro ?_ ?_
     ·first
      | ((conv=>whnf);refine recO (hB) ?_)
      | ((conv=>whnf);refine recO (at_old hB) ?_)
      | ((conv=>whnf);refine recO (at_old (at_old hB)) ?_)
      (conv=>whnf);refine recT (by simp) ?_
      (conv=>whnf);refine And.intro (by omega) ?_
      (conv=>whnf);refine recT (by simp <;> omega) ?_
      conv=>whnf
     conv=>whnf
     refine And.intro ?_ ?_
     ·first
      | ((conv=>whnf);refine recO (hK h.hs) ?_)
      | ((conv=>whnf);refine recO (at_old (hK h.hs)) ?_)
      | ((conv=>whnf);refine recO (at_old (at_old (hK h.hs))) ?_)
      conv=>whnf
     conv=>whnf
     refine And.intro ?_ ?_
     ·first
      | ((conv=>whnf);refine recO (hK h.hs) ?_)
      | ((conv=>whnf);refine recO (at_old (hK h.hs)) ?_)
      | ((conv=>whnf);refine recO (at_old (at_old (hK h.hs))) ?_)
      conv=>whnf
     conv=>whnf
     refine And.intro ?_ ?_
     ·first
      | ((conv=>whnf);refine recO (hK h.hs) ?_)
      | ((conv=>whnf);refine recO (at_old (hK h.hs)) ?_)
      | ((conv=>whnf);refine recO (at_old (at_old (hK h.hs))) ?_)
      conv=>whnf
     conv=>whnf
     refine ⟨rfl,?_⟩
     rw [← hL2,← hpk]
     refine rput_fin H z env L (j + 1) (x,name,c) ?_ (by simp [rputX,one3];omega)
     have e1 : ∀ (a : AVal × ByteArray × Chg) (l : List (AVal × ByteArray × Chg)) (n : Nat),n = l.length + 1 → List.take n (List.drop 0 (chE a :: l.map chE)) = chE a :: l.map chE:=fun a l n hn=>by
      rw [List.drop_zero,List.take_of_length_le (by simp [hn])]
     rw [e1,List.drop_zero,Int.toNat_natCast,← List.map_take]
     ·simp [rputL]
     ·simp <;> omega
   ·simp at hpos
    obtain rfl : j = 0:=by omega
    have hpk : 0 = posK name (l.map (·.2)):=posK_of hs hL2 hj hbeh fun q h1 h2=>absurd h1 (by omega)
    conv=>whnf
    (conv=>whnf);refine recO (hK h.hs) ?_
    (conv=>whnf);refine recO (hB) ?_
    (conv=>whnf);refine recT (by simp) ?_
    (conv=>whnf);refine And.intro (by omega) ?_
    conv=>whnf
    (conv=>whnf);refine recO (hA) ?_
    (conv=>whnf);refine recT (by simp [chE,hxc];exact ⟨rfl,rfl⟩) ?_
    (conv=>whnf);refine snocK_to ?_
    (conv=>whnf);refine recO (at_old hB) ?_
    (conv=>whnf);refine recT (by simp) ?_
    (conv=>whnf);refine And.intro (by omega) ?_
    (conv=>whnf);refine recO (at_old hB) ?_
    (conv=>whnf);refine recT (by simp) ?_
    (conv=>whnf);refine recO (at_snoc _ _) ?_
    have hdr : [chE (x,name,c)] ++ List.take (L.length - ((0 : Nat) : Int).toNat) (List.drop (0 + ((0 : Nat) : Int).toNat) (L.map chE)) = chE (x,name,c) :: (L.drop 0).map chE:=by
     rw [Nat.zero_add,Int.toNat_natCast,List.take_of_length_le (by simp),← List.map_drop];rfl
    (conv=>whnf);refine And.intro (⟨by simp [roomB];omega,by simp [roomB];omega,rfl,rfl⟩) ?_
    refine setO_at (set_snocE hdr) ?_
    (conv=>whnf);refine recO (at_snoc _ _) ?_
    (conv=>whnf);refine recT (by simp <;> omega) ?_
    (conv=>whnf);refine And.intro (⟨by simp [roomB];omega,by simp [roomB];omega,.inr rfl⟩) ?_
    (conv=>whnf);refine snocK_to ?_
    (conv=>whnf);refine recO (at_old (at_old (hK h.ht))) ?_
    (conv=>whnf);refine recT (h.pT.ok env) ?_
    (conv=>whnf)
    refine setO_at rfl ?_
    conv=>whnf
    refine And.intro ?_ ?_
    ·(conv=>whnf);refine recO (hB) ?_
     (conv=>whnf);refine recT (by simp) ?_
     (conv=>whnf);refine And.intro (by omega) ?_
     conv=>whnf
    conv=>whnf
    refine And.intro ?_ ?_
    ·first
     | ((conv=>whnf);refine recO (hB) ?_)
     | ((conv=>whnf);refine recO (at_old hB) ?_)
     | ((conv=>whnf);refine recO (at_old (at_old hB)) ?_)
     (conv=>whnf);refine recT (by simp) ?_
     (conv=>whnf);refine And.intro (by omega) ?_
     conv=>whnf
    conv=>whnf
    refine And.intro ?_ ?_
    ·first
     | ((conv=>whnf);refine recO (hB) ?_)
     | ((conv=>whnf);refine recO (at_old hB) ?_)
     | ((conv=>whnf);refine recO (at_old (at_old hB)) ?_)
     (conv=>whnf);refine recT (by simp) ?_
     (conv=>whnf);refine And.intro (by omega) ?_
     conv=>whnf
    conv=>whnf
    refine And.intro ?_ ?_
    ·first
     | ((conv=>whnf);refine recO (hK h.hs) ?_)
     | ((conv=>whnf);refine recO (at_old (hK h.hs)) ?_)
     | ((conv=>whnf);refine recO (at_old (at_old (hK h.hs))) ?_)
     conv=>whnf
    conv=>whnf
    refine And.intro ?_ ?_
    ·first
     | ((conv=>whnf);refine recO (hK h.hs) ?_)
     | ((conv=>whnf);refine recO (at_old (hK h.hs)) ?_)
     | ((conv=>whnf);refine recO (at_old (at_old (hK h.hs))) ?_)
     conv=>whnf
    conv=>whnf
    refine And.intro ?_ ?_
    ·first
     | ((conv=>whnf);refine recO (hK h.hs) ?_)
     | ((conv=>whnf);refine recO (at_old (hK h.hs)) ?_)
     | ((conv=>whnf);refine recO (at_old (at_old (hK h.hs))) ?_)
     conv=>whnf
    conv=>whnf
    refine ⟨rfl,?_⟩
    rw [← hL2,← hpk]
    refine rput_fin H z env L 0 (x,name,c) ?_ (by simp [rputX,one3];omega)
    have e1 : ∀ (a : AVal × ByteArray × Chg) (l : List (AVal × ByteArray × Chg)) (n : Nat),n = l.length + 1 → List.take n (List.drop 0 (chE a :: l.map chE)) = chE a :: l.map chE:=fun a l n hn=>by
     rw [List.drop_zero,List.take_of_length_le (by simp [hn])]
    rw [e1]
    ·simp [rputL]
    ·simp <;> omega
theorem rput_spec {P : Program} (F : F_z1y P) (h : RepR H s σ ro z lv) (env name : ByteArray) (c : Chg) (x : AVal) (hx : RDr H ro name x c.data) (hxn : c.rm = false → x ≠ .nil) (hss : KSrt (σ.staged env)) (hlen : (σ.staged env).length ≤ 1000000) :
  Det P F.id [.ptr s 1 0 0,.str env,.agg [.str name,.bool c.rm,x]] H (fun r H'=>r = .tuple [] ∧ ∃ ro' z',RepR H' s (stageS env name c σ) ro' z' lv ∧ Post H H' ro ro'):=by
 have hcx : x = .nil ∨ ∃ id d,x = bsl id d:=by
  rcases hx with ⟨h1,_⟩ | ⟨id,h1,_⟩
  ·exact .inl h1
  ·exact .inr ⟨_,_,h1⟩
 have he:=h.eT env
 obtain ⟨l,hl,hc,hel⟩ : ∃ l : List (AVal × ByteArray × Chg),((mfind 2 (.str env) z.T = none ∧ l = []) ∨ ∃ id,mfind 2 (.str env) z.T = some (.sl id l.length 0 l.length) ∧ H[id]? = some (.arr 3 (l.map chE))) ∧ l.map (·.2) = σ.staged env ∧ EL H ro l:=by
  rcases h.pT.find h.sT env with ⟨e1,e2⟩ | ⟨y,c0,e1,e2,id,l,rfl,h3,h4,rfl,h5⟩
  ·exact ⟨[],.inl ⟨e1,rfl⟩,by rw [he,e2];rfl,fun q hq=>by cases hq⟩
  ·exact ⟨l,.inr ⟨id,e1,h4⟩,by rw [he,e2];rfl,h5⟩
 have hs : KSrt (l.map (·.2)):=by rw [hc];exact hss
 refine ⟨_,_,rput_raw F h env name c x hcx l hl hs (by rw [← List.length_map (f:=(·.2)),hc];exact hlen) fun q hq=>?_,rfl,?_⟩
 ·rcases (hel q hq).1 with ⟨h1,_⟩ | ⟨_,h1,_⟩ <;> rw [h1] <;> rfl
 have hj : posK name (l.map (·.2)) ≤ (kpt name l).length:=by
  have : (kpt name l).length = ((kpt name l).map (·.2)).length:=by simp
  rw [this,kpt_map,kDel_split name hs,posK,List.length_append];omega
 generalize hJ : posK name (l.map (·.2)) = j at hj ⊢
 have hk : rputX H (kpt name l) (x,name,c) ++ [AObj.arr 3 (chE (x,name,c) :: ((kpt name l).drop j).map chE),.arr 3 ((rputL (kpt name l) j (x,name,c)).map chE)] =
   H ++ (.arr 3 [chE (x,name,c)] :: .arr 3 ((kpt name l).map chE) :: one3 (kpt name l) ++ [.arr 3 (chE (x,name,c) :: ((kpt name l).drop j).map chE),.arr 3 ((rputL (kpt name l) j (x,name,c)).map chE)]):=by
  unfold rputX;rw [List.append_assoc]
 unfold rputH
 have hlo : (one3 (kpt name l)).length = (kpt name l).length:=by simp [one3]
 have hat : (rputX H (kpt name l) (x,name,c) ++ [AObj.arr 3 (chE (x,name,c) :: ((kpt name l).drop j).map chE),.arr 3 ((rputL (kpt name l) j (x,name,c)).map chE)])[H.length + (kpt name l).length + 3]? = some (.arr 3 ((rputL (kpt name l) j (x,name,c)).map chE)):=by
  have hxl : (rputX H (kpt name l) (x,name,c)).length = H.length + (kpt name l).length + 2:=by simp [rputX,hlo];omega
  rw [List.getElem?_append_right (by omega),hxl,show H.length + (kpt name l).length + 3 - (H.length + (kpt name l).length + 2) = 1 by omega];rfl
 rw [hk] at hat ⊢
 generalize hX : (.arr 3 [chE (x,name,c)] :: .arr 3 ((kpt name l).map chE) :: one3 (kpt name l) ++ [.arr 3 (chE (x,name,c) :: ((kpt name l).drop j).map chE),.arr 3 ((rputL (kpt name l) j (x,name,c)).map chE)] : List AObj) = X at hat ⊢
 have hro : ro (H.length + (kpt name l).length + 3) = none:=h.fresh (by omega)
 have h2:=(h.app (X:=X)).adopt hro (List.getElem?_eq_some_iff.1 hat).1 (.stg env)
 have hm : ∀ i,ro i = some .blob → updR ro (H.length + (kpt name l).length + 3) (.stg env) i = some .blob ∧ (H ++ X)[i]? = H[i]?:=fun i hi=>by
  refine ⟨?_,get_app (h.lt i (by rw [hi];simp))⟩
  rw [updR_other];exact hi
  rintro rfl;rw [hro] at hi;cases hi
 have hT : RTr (H ++ X) (updR ro (H.length + (kpt name l).length + 3) (.stg env)) env (.sl (H.length + (kpt name l).length + 3) (rputL (kpt name l) j (x,name,c)).length 0 (rputL (kpt name l) j (x,name,c)).length) (kIns name c (σ.staged env)):=by
  refine ⟨_,_,rfl,updR_same _ _ _,hat,?_,fun q hq=>?_⟩
  ·rw [← hc,kIns_take hs hJ.symm,← kpt_map]
   simp [rputL,List.map_take,List.map_drop]
  ·unfold rputL at hq
   rcases List.mem_append.1 hq with hq | hq
   ·exact ⟨(hel q (List.mem_filter.1 (List.mem_of_mem_take hq)).1).1.mono hm,(hel q (List.mem_filter.1 (List.mem_of_mem_take hq)).1).2⟩
   ·rcases List.mem_cons.1 hq with rfl | hq
    ·exact ⟨hx.mono hm,hxn⟩
    ·exact ⟨(hel q (List.mem_filter.1 (List.mem_of_mem_drop hq)).1).1.mono hm,(hel q (List.mem_filter.1 (List.mem_of_mem_drop hq)).1).2⟩
 exact ⟨_,_,h2.stg hT,((Post.app H X ro).adopt (by omega)).set _ (.inl h.nt)⟩
end
def ActsR (P : Program) (f : FuncId) (args : List AVal) (H : List AObj) (s : Nat) (ro : Nat → Option Role) (R : AVal) (σ' : Sto) : Prop :=
 Det P f args H (fun r H'=>r = R ∧ ∃ ro' z' lv',RepR H' s σ' ro' z' lv' ∧ Post H H' ro ro')
section
variable {H : List AObj} {s : Nat} {σ : Sto} {ro : Nat → Option Role} {z : SP} {lv : AVal}
theorem rDiscard_spec {P : Program} (F : F_z1p P) (h : RepR H s σ ro z lv) (env : ByteArray) :
  ActsR P F.id [.ptr s 1 0 0,.str env] H s ro (.tuple []) (mvS σ env):=by
 have hv : Vw H s z lv z.T z.V:=⟨h.hs,h.ht,h.hv,ro_ne h.rv h.rs (by simp),ro_ne h.rv h.rt (by simp),ro_ne h.rt h.rs (by simp)⟩
 exact ⟨_,_,discard_raw ⟨F.id,F.has⟩ hv env (h.pT.ok env),rfl,_,_,_,h.del env,(Post.refl H ro).set _ (.inl h.nt)⟩
set_option maxRecDepth 20000 in
theorem rRemove_spec {P : Program} (F : F_z1t P) (h : RepR H s σ ro z lv) (env name : ByteArray) (hn : name.size ≤ 1000000) (hss : KSrt (σ.staged env)) (hsl : (σ.staged env).length ≤ 1000000) :
  ActsR P F.id [.ptr s 1 0 0,.str env,.str name] H s ro (.int .i64 (removeR env name σ).1) (removeR env name σ).2:=by
 unfold removeR
 cases h1 : nameB env with
 | false =>
  refine ⟨.int .i64 4,H,?_,rfl,_,_,_,h,Post.refl _ _⟩
  refine acalls_of_body F.has ?_
  (conv=>whnf);refine ACalls.use (ref5_IsName_spec F.z25 env _) ?_
  (conv=>whnf);refine recT (by rw [h1];rfl) ?_
  conv=>whnf
  exact ⟨rfl,rfl⟩
 | true =>
 cases h2 : qualB name with
 | false =>
  refine ⟨.int .i64 4,H,?_,rfl,_,_,_,h,Post.refl _ _⟩
  refine acalls_of_body F.has ?_
  (conv=>whnf);refine ACalls.use (ref5_IsName_spec F.z25 env _) ?_
  (conv=>whnf);refine recF (by rw [h1];rfl) ?_
  (conv=>whnf);refine ACalls.use (ref5_IsQualified_spec F.z26 name hn _) ?_
  (conv=>whnf);refine recT (by rw [h2];rfl) ?_
  conv=>whnf
  exact ⟨rfl,rfl⟩
 | true =>
  rw [if_pos (by rfl)]
  obtain ⟨_,H1,hc,rfl,ro',z',hr,hp2⟩:=rput_spec F.z1y h env name ⟨true,[]⟩ .nil (.inl ⟨rfl,rfl⟩) (fun h=>by cases h) hss hsl
  refine ⟨.int .i64 0,H1,?_,rfl,_,_,_,hr,hp2⟩
  refine acalls_of_body F.has ?_
  (conv=>whnf);refine ACalls.use (ref5_IsName_spec F.z25 env _) ?_
  (conv=>whnf);refine recF (by rw [h1];rfl) ?_
  (conv=>whnf);refine ACalls.use (ref5_IsQualified_spec F.z26 name hn _) ?_
  (conv=>whnf);refine recF (by rw [h2];rfl) ?_
  (conv=>whnf);refine ACalls.mono (hc) ?_
  rintro r H2 ⟨rfl,rfl⟩
  conv=>whnf
  exact ⟨rfl,rfl⟩
set_option maxRecDepth 20000 in
theorem rStage_spec {P : Program} (F : F_z1u P) (h : RepR H s σ ro z lv) (env name : ByteArray) (e : Bool) (data : List Int) (hn : name.size ≤ 1000000) (hd : data.length ≤ 10000000) (hss : KSrt (σ.staged env)) (hsl : (σ.staged env).length ≤ 1000000) :
  ActsR P F.id [.ptr s 1 0 0,.str env,.agg [.str name,.list e 1 (bC data)]] H s ro (.int .i64 (stageR env name data σ).1) (stageR env name data σ).2:=by
 have h':=h.app (X:=[.arr 2 [[.str name,.list e 1 (bC data)]]])
 have hp:=Post.app H [.arr 2 [[.str name,.list e 1 (bC data)]]] ro
 unfold stageR
 cases h1 : nameB env with
 | false =>
  refine ⟨.int .i64 4,H ++ [.arr 2 [[.str name,.list e 1 (bC data)]]],?_,rfl,_,_,_,h',hp⟩
  refine acalls_of_body F.has ?_
  (conv=>whnf);refine snocK_to ?_
  (conv=>whnf);refine ACalls.use (ref5_IsName_spec F.z25 env _) ?_
  (conv=>whnf);refine recT (by rw [h1];rfl) ?_
  conv=>whnf
  exact ⟨rfl,rfl⟩
 | true =>
 cases h2 : qualB name with
 | false =>
  refine ⟨.int .i64 4,H ++ [.arr 2 [[.str name,.list e 1 (bC data)]]],?_,rfl,_,_,_,h',hp⟩
  refine acalls_of_body F.has ?_
  (conv=>whnf);refine snocK_to ?_
  (conv=>whnf);refine ACalls.use (ref5_IsName_spec F.z25 env _) ?_
  (conv=>whnf);refine recF (by rw [h1];rfl) ?_
  (conv=>whnf);refine recO (at_snoc H _) ?_
  (conv=>whnf);refine ACalls.use (ref5_IsQualified_spec F.z26 name hn _) ?_
  (conv=>whnf);refine recT (by rw [h2];rfl) ?_
  conv=>whnf
  exact ⟨rfl,rfl⟩
 | true =>
 by_cases h3 : data.length ≤ 65536
 ·rw [if_pos (by rfl),if_pos h3]
  have hro : ro (H.length + 1) = none:=h.fresh (by omega)
  have h4 : RepR (H ++ [AObj.arr 2 [[.str name,.list e 1 (bC data)]],bO data]) s σ (updR ro (H.length + 1) .blob) z lv:=(h.app (X:=[AObj.arr 2 [[.str name,.list e 1 (bC data)]],bO data])).adopt hro (by simp) .blob
  obtain ⟨_,H1,hc,rfl,ro',z',hr,hp2⟩:=rput_spec F.z1y h4 env name ⟨false,data⟩ (bsl (H.length + 1) data) (.inr ⟨_,rfl,updR_same _ _ _,by simp⟩) (fun _ h=>by cases h) hss hsl
  refine ⟨.int .i64 0,H1,?_,rfl,_,_,_,hr,((Post.app H [AObj.arr 2 [[.str name,.list e 1 (bC data)]],bO data] ro).adopt (by omega)).trans hp2⟩
  refine acalls_of_body F.has ?_
  (conv=>whnf);refine snocK_to ?_
  (conv=>whnf);refine ACalls.use (ref5_IsName_spec F.z25 env _) ?_
  (conv=>whnf);refine recF (by rw [h1];rfl) ?_
  (conv=>whnf);refine recO (at_snoc H _) ?_
  (conv=>whnf);refine ACalls.use (ref5_IsQualified_spec F.z26 name hn _) ?_
  (conv=>whnf);refine recF (by rw [h2];rfl) ?_
  (conv=>whnf);refine recO (at_snoc H _) ?_
  (conv=>whnf);refine recF (by rw [bC_length];simp;omega) ?_
  (conv=>whnf);refine recO (at_snoc H _) ?_
  (conv=>whnf);refine recO (at_snoc H _) ?_
  have e1 : H ++ [AObj.arr 2 [[.str name,.list e 1 (bC data)]]] ++ [AObj.arr 1 (bC data)] = H ++ [AObj.arr 2 [[.str name,.list e 1 (bC data)]],bO data]:=by simp [bO]
  have e2 : AVal.sl (0 + (H ++ [AObj.arr 2 [[.str name,.list e 1 (bC data)]]]).length) (bC data).length 0 (bC data).length = bsl (H.length + 1) data:=by simp [bsl,bC_length]
  (conv=>whnf);refine And.intro (⟨by rw [bC_length];simp [roomB];omega,by rw [bC_length];simp [roomB];omega⟩) ?_
  refine snocK_to (H:=H ++ [AObj.arr 2 [[.str name,.list e 1 (bC data)]]]) ?_
  rw [e1,e2]
  (conv=>whnf);refine ⟨_,_,hc,?_⟩
  conv=>whnf
  refine And.intro ?_ ?_
  ·(conv=>whnf);refine recO (show (H ++ [AObj.arr 2 [[.str name,.list e 1 (bC data)]],bO data])[0 + H.length]? = some (.arr 2 [[.str name,.list e 1 (bC data)]]) by simp) ?_
   conv=>whnf
  conv=>whnf
  exact ⟨rfl,rfl⟩
 ·rw [if_pos (by rfl),if_neg h3]
  refine ⟨.int .i64 2,H ++ [.arr 2 [[.str name,.list e 1 (bC data)]]],?_,rfl,_,_,_,h',hp⟩
  refine acalls_of_body F.has ?_
  (conv=>whnf);refine snocK_to ?_
  (conv=>whnf);refine ACalls.use (ref5_IsName_spec F.z25 env _) ?_
  (conv=>whnf);refine recF (by rw [h1];rfl) ?_
  (conv=>whnf);refine recO (at_snoc H _) ?_
  (conv=>whnf);refine ACalls.use (ref5_IsQualified_spec F.z26 name hn _) ?_
  (conv=>whnf);refine recF (by rw [h2];rfl) ?_
  (conv=>whnf);refine recO (at_snoc H _) ?_
  (conv=>whnf);refine recT (by rw [bC_length];simp;omega) ?_
  conv=>whnf
  exact ⟨rfl,rfl⟩
end
theorem app_own {P : Program} {f : FuncId} (zs p : List Int) (h0 : ACalls P f [.list false 1 (bC zs),.list false 1 (bC p)] [] (fun r H'=>(jFull zs p = true ∧ r = .tuple [.nil,.int .i64 2] ∧ H' = []) ∨ (jFull zs p = false ∧ r = .tuple [bsl 0 (zs ++ jEnt p),.int .i64 0] ∧ H' = [bO (zs ++ jEnt p)])))
  {H : List AObj} {id : Nat} (ho : H[id]? = some (bO p)) :
  ACalls P f [.list false 1 (bC zs),bsl id p] H (fun r H'=>r = jApp zs p ∧ H' = H):=by
 have hlent : ∀ (i : Nat) (a b : AVal),[AVal.list false 1 (bC zs),bsl 0 p][i]? = some a → [AVal.list false 1 (bC zs),.list false 1 (bC p)][i]? = some b → Pub [bO p] 0 [] a b:=fun i a b ha hb=>by
  rcases i with _ | _ | i
  ·cases ha;cases hb;exact .closed _ rfl
  ·cases ha;cases hb
   exact pubFI (by simp) rfl (by rw [bC_length]) (by rw [bC_length]) (pureEs_bC _)
  ·simp at ha
 have h1 : ACalls P f [.list false 1 (bC zs),bsl 0 p] [bO p] (fun r H'=>r = jApp zs p ∧ H' = [bO p]):=by
  unfold jApp
  cases hf : jFull zs p with
  | true =>
   rw [if_pos rfl]
   have h2:=(h0.mono (Q':=fun r H'=>r = .tuple [.nil,.int .i64 2] ∧ H' = []) fun r H' h=>by
    rcases h with ⟨_,h1,h2⟩ | ⟨h3,_⟩
    ·exact ⟨h1,h2⟩
    ·rw [hf] at h3;cases h3).borG (args:=[.list false 1 (bC zs),bsl 0 p]) (H:=[bO p]) rfl hlent (.tuple _ _ rfl fun i v r hv hr=>by rw [hv] at hr;cases hr;rcases i with _ | _ | i <;> simp at hv <;> subst hv <;> exact .sc _ rfl) (fun o ho=>by simp at ho)
   simpa using h2
  | false =>
   rw [if_neg (by simp)]
   have h2:=(h0.mono (Q':=fun r H'=>r = .tuple [bsl 0 (zs ++ jEnt p),.int .i64 0] ∧ H' = [bO (zs ++ jEnt p)]) fun r H' h=>by
    rcases h with ⟨h3,_⟩ | ⟨_,h1,h2⟩
    ·rw [hf] at h3;cases h3
    ·exact ⟨h1,h2⟩).borG (args:=[.list false 1 (bC zs),bsl 0 p]) (H:=[bO p]) (R':=.tuple [bsl 1 (zs ++ jEnt p),.int .i64 0]) rfl hlent (.tuple _ _ rfl fun i v r hv hr=>by
     rcases i with _ | _ | i
     ·cases hv;cases hr;exact .sl 0 _ _ _
     ·cases hv;cases hr;exact .sc _ rfl
     ·simp at hv) (fun o ho=>by simp at ho;subst ho;exact bO_lits _)
   refine h2.gpI [0] (by simp) (keepB_one rfl rfl rfl) ⟨⟨_,rfl,.same _ _ (pureEs_bC _)⟩,trivial⟩ ?_
   refine .tuple _ _ rfl fun i v r hv hr=>?_
   rcases i with _ | _ | i
   ·cases hv;cases hr
    exact pubFI (by simp) rfl (bC_length _).symm (bC_length _).symm (pureEs_bC _)
   ·cases hv;cases hr;exact .closed _ rfl
   ·simp at hv
 refine h1.frL [id] (by simp) rfl ⟨⟨_,ho,.same (pureEs_bC _)⟩,trivial⟩ ⟨.closed _ rfl,.sl 0 _ _ _,trivial⟩ ?_ (by simp) ⟨⟨_,ho,.same (pureEs_bC _)⟩,trivial⟩ (othH_self [id] [] H)
 unfold jApp
 split
 ·exact .tuple _ _ rfl fun i v r hv hr=>by rw [hv] at hr;cases hr;rcases i with _ | _ | i <;> simp at hv <;> subst hv <;> exact .closed _ rfl
 ·exact .tuple _ _ rfl fun i v r hv hr=>by rw [hv] at hr;cases hr;rcases i with _ | _ | i <;> simp at hv <;> subst hv <;> exact .closed _ rfl
set_option maxRecDepth 20000 in
theorem rApp_raw {P : Program} (F : F_z1i P) (zs p : List Int) (hz : zs.length ≤ 10000000) (hp : p.length ≤ 10000000) (hb : Byt p) :
  ACalls P F.id [.list false 1 (bC zs),.list false 1 (bC p)] [] (fun r H'=>(jFull zs p = true ∧ r = .tuple [.nil,.int .i64 2] ∧ H' = []) ∨ (jFull zs p = false ∧ r = .tuple [bsl 0 (zs ++ jEnt p),.int .i64 0] ∧ H' = [bO (zs ++ jEnt p)])):=by
 have w1 : IntKind.i64.wrap (((bC zs).length : Int) + 8) = (zs.length : Int) + 8:=by rw [bC_length];exact wrapI _ (by omega) (by omega)
 have w2 : IntKind.i64.wrap ((zs.length : Int) + 8 + ((bC p).length : Int)) = (zs.length : Int) + 8 + p.length:=by rw [bC_length];exact wrapI _ (by omega) (by omega)
 refine acalls_of_body F.has ?_
 (conv=>whnf);refine recA (fun h1=>?_) (fun h1=>?_)
 ·have hf : jFull zs p = true:=by rw [bC_length] at h1;simp at h1;simp [jFull];omega
  conv=>whnf
  exact .inl ⟨hf,rfl,rfl⟩
 have h1' : ¬ 65536 < p.length:=by rw [bC_length] at h1;simp at h1;omega
 conv=>whnf
 rw [w1,w2]
 (conv=>whnf);refine recA (fun h2=>?_) (fun h2=>?_)
 ·have hf : jFull zs p = true:=by simp at h2;simp [jFull];omega
  conv=>whnf
  exact .inl ⟨hf,rfl,rfl⟩
 have hf : jFull zs p = false:=by simp at h2;simp [jFull];omega
 (conv=>whnf);refine And.intro (⟨roomB_le1 (by simp [bC_length];omega),roomB_le (by simp [bC_length];omega)⟩) ?_
 (conv=>whnf);refine ACalls.use (ref35_Entry_spec F.z1j false p hp hb _) ?_
 (conv=>whnf);refine recT (Nat.beq_refl _) ?_
 (conv=>whnf);refine And.intro (⟨roomB_le1 (by simp [bC_length,jEnt_length];omega),roomB_le (by simp [bC_length,jEnt_length];omega),rfl,rfl⟩) ?_
 conv=>whnf
 have e5 : bC zs ++ bC (jEnt p) = bC (zs ++ jEnt p):=(bC_append _ _).symm
 refine .inr ⟨hf,?_,by rw [← show AObj.arr 1 (bC (zs ++ jEnt p)) = bO (zs ++ jEnt p) from rfl,← e5]⟩
 show AVal.tuple [.sl 0 (bC zs ++ bC (jEnt p)).length 0 (bC zs ++ bC (jEnt p)).length,.int .i64 0] = _
 rw [e5,bC_length];rfl
theorem rApp_own {P : Program} (F : F_z1i P) {lv : AVal} (zs p : List Int) (hl : RL lv zs) (hz : zs.length ≤ 10000000) (hp : p.length ≤ 10000000) (hb : Byt p) {H : List AObj} {id : Nat} (ho : H[id]? = some (bO p)) :
  ACalls P F.id [lv,bsl id p] H (fun r H'=>r = jApp zs p ∧ H' = H):=by
 have h:=app_own zs p (rApp_raw F zs p hz hp hb) ho
 rcases hl with ⟨rfl,rfl⟩ | rfl
 ·exact h.weakD (args:=[.nil,bsl id p]) (.cons (.nil _ _) (.cons (.refl _) .nil))
 ·exact h
set_option maxRecDepth 20000 in
theorem rtext_pure {P : Program} (F : F_z24 P) (s : ByteArray) (hs : s.size ≤ 100000) (H : List AObj) :
  ACalls P F.id [.str s] H (fun r H'=>r = .list false 1 (bC (txI s)) ∧ H' = H):=by
 have hbl:=bytesI_length s
 refine ACalls.pure rfl (acalls_of_body F.has ?_)
 (conv=>whnf);refine And.intro (⟨roomB_le1 (by rw [byteCells_eq];simp [bC_length];omega),roomB_le (by rw [byteCells_eq];simp [bC_length];omega),rfl,rfl⟩) ?_
 conv=>whnf
 have e5 : [[AVal.int .u8 (u8 s.size)]] ++ byteCells s.data.toList = bC (txI s):=by rw [byteCells_eq];rfl
 have hl4 : ([[AVal.int .u8 (u8 s.size)]] ++ byteCells s.data.toList).length = (bC (txI s)).length:=by rw [e5]
 refine pubF (es:=bC (txI s)) ?_ hl4 hl4 (pureEs_bC _)
 rw [← e5];rfl
set_option maxRecDepth 20000 in
theorem rflag_spec {P : Program} (F : F_z20 P) (t : Bool) (H : List AObj) :
  ACalls P F.id [.bool t] H (fun r H'=>r = .int .u8 (bif t then 1 else 0) ∧ H' = H):=by
 cases t <;> refine ACalls.pure rfl (acalls_of_body F.has ?_) <;> (conv=>whnf) <;> exact .closed _ rfl
def outS (a : List (AVal × AVal)) (q : AVal × ByteArray × Chg) : List (AVal × AVal):=bif q.2.2.rm then mdel 2 (.str q.2.1) a else mput 2 (.str q.2.1) q.1 a
def outF (kvs : List (AVal × AVal)) (l : List (AVal × ByteArray × Chg)) : List (AVal × AVal):=l.foldl outS kvs
theorem outF_snoc (kvs : List (AVal × AVal)) (l : List (AVal × ByteArray × Chg)) (q : AVal × ByteArray × Chg) : outF kvs (l ++ [q]) = outS (outF kvs l) q:=by
 unfold outF;rw [List.foldl_append];rfl
section
variable {R : ByteArray → AVal → List Int → Prop}
theorem outS_pm {a : List (AVal × AVal)} {d : List (ByteArray × List Int)} (h : PM R a d) (hs : KSrt d) {q : AVal × ByteArray × Chg} (hq : q.2.2.rm = false → R q.2.1 q.1 q.2.2.data) : PM R (outS a q) (applyC d q.2):=by
 unfold outS applyC
 cases hr : q.2.2.rm
 ·exact h.put hs (hq hr)
 ·exact h.del hs _
theorem outF_pm : ∀ (l : List (AVal × ByteArray × Chg)) {a : List (AVal × AVal)} {d : List (ByteArray × List Int)},PM R a d → KSrt d → (∀ q ∈ l,q.2.2.rm = false → R q.2.1 q.1 q.2.2.data) → PM R (outF a l) (afterL d (l.map (·.2)))
 | [],_,_,h,_,_=>h
 | q :: l,a,d,h,hs,hq=>outF_pm l (outS_pm h hs (hq q (List.mem_cons_self ..))) (applyC_srt hs _) fun q' h'=>hq q' (List.mem_cons_of_mem _ h')
theorem outS_perm {a b : List (AVal × AVal)} {d : List (ByteArray × List Int)} (hp : a.Perm b) (h : PM R b d) (hs : KSrt d) (q : AVal × ByteArray × Chg) : (outS a q).Perm (outS b q):=by
 have h1:=(h.permL hp)
 unfold outS
 cases q.2.2.rm
 ·exact mput_perm hp (h1.lits hs) (h1.cells _)
 ·exact mdel_perm hp (h1.lits hs)
end
theorem mput_new {α : Type} {pre : List (ByteArray × AVal × α)} {p : ByteArray × AVal × α} (hn : p.1 ∉ pre.map (·.1)) : mput 2 (.str p.1) p.2.1 (pre.map fun p=>(AVal.str p.1,p.2.1)) = (pre ++ [p]).map fun p=>(AVal.str p.1,p.2.1):=by
 have : mfind 2 (.str p.1) (pre.map fun p=>(AVal.str p.1,p.2.1)) = none:=by
  rw [mfind_map,Option.map_eq_none_iff,List.find?_eq_none]
  intro q hq hk
  exact hn (List.mem_map.2 ⟨q,hq,(kEq_iff.1 hk).symm⟩)
 rw [(midxN this).2,List.map_append];rfl
theorem Rng.nodup {α : Type} {l : List (ByteArray × AVal × α)} {bs seen : List Nat} {pre : List (ByteArray × AVal × α)} (h : Rng l bs seen pre) (hn : (l.map (·.1)).Nodup) : (pre.map (·.1)).Nodup:=by
 obtain ⟨_,_,rest,hp⟩:=h.le
 have:=(hp.map (·.1)).nodup_iff.2 hn
 rw [List.map_append] at this
 exact (List.nodup_append.1 this).1
theorem get3 {K : List AObj} {a b c : AObj} {G : List AObj} : (K ++ a :: b :: c :: G)[K.length + 2]? = some c:=by
 rw [List.getElem?_append_right (by omega)];simp
theorem set3 {K : List AObj} {a b c c' : AObj} {G : List AObj} : (K ++ a :: b :: c :: G).set (K.length + 2) c' = K ++ a :: b :: c' :: G:=by
 rw [List.set_append_right _ _ (by omega)];simp
theorem set_snocB {X : List AObj} {o : AObj} {es : List (List AVal)} {l : List Int} (h : es = bC l) : (X ++ [o]).set (0 + X.length) (AObj.arr 1 es) = X ++ [bO l]:=by rw [h,set_snoc];rfl
theorem set3B {K : List AObj} {a b c : AObj} {es : List (List AVal)} {l : List Int} (h : es = bC l) : (K ++ [a,b,c]).set (K.length + 2) (AObj.arr 1 es) = K ++ [a,b,bO l]:=by rw [h,set3];rfl
def KF (H : List AObj) (ro : Nat → Option Role) (K : List AObj) : Prop:=K = H ∨ ∃ idb kvs kvs0 bs ck,H[idb]? = some (.map kvs) ∧ ro idb = some .blob ∧ kvs0.Perm kvs ∧ K = H.set idb (.bmap kvs0 bs ck)
theorem KF.len {H K : List AObj} {ro : Nat → Option Role} (h : KF H ro K) : K.length = H.length:=by
 rcases h with rfl | ⟨_,_,_,_,_,_,_,_,rfl⟩
 ·rfl
 ·simp
theorem KF.keep {H K : List AObj} {ro : Nat → Option Role} (h : KF H ro K) {i : Nat} {r : Role} {o : AObj} (h1 : ro i = some r) (h2 : r ≠ .blob) (h3 : H[i]? = some o) : K[i]? = some o:=by
 rcases h with rfl | ⟨_,_,_,_,_,_,g2,_,rfl⟩
 ·exact h3
 ·exact at_ne h3 (ro_ne g2 h1 (Ne.symm h2))
theorem KF.arr {H K : List AObj} {ro : Nat → Option Role} (h : KF H ro K) {i n : Nat} {es : List (List AVal)} (h3 : H[i]? = some (.arr n es)) : K[i]? = some (.arr n es):=by
 rcases h with rfl | ⟨_,_,_,_,_,g1,_,_,rfl⟩
 ·exact h3
 ·exact at_ne h3 (fun e=>by subst e;rw [g1] at h3;cases h3)
def RCom (H : List AObj) (s : Nat) (σ : Sto) (ro : Nat → Option Role) (z : SP) (env : ByteArray) (kvs : List (AVal × AVal)) (l : List (AVal × ByteArray × Chg)) (r : AVal) (H' : List AObj) : Prop:=∃ K,KF H ro K ∧
 ((256 < (afterL (σ.blobs env) (l.map (·.2))).length ∧ r = .int .i64 2 ∧ ∃ X,H' = K ++ X) ∨
 ((afterL (σ.blobs env) (l.map (·.2))).length ≤ 256 ∧ jFull σ.log (payI env (l.map (·.2))) = true ∧ r = .int .i64 2 ∧ ∃ X,H' = K ++ X) ∨
 ((afterL (σ.blobs env) (l.map (·.2))).length ≤ 256 ∧ jFull σ.log (payI env (l.map (·.2))) = false ∧ r = .int .i64 0 ∧ ∃ out m p kvs1 bs1 ck1,out.Perm (outF kvs l) ∧ kvs1.Perm (mput 2 (.str env) (.mp H.length) z.B) ∧
  H' = ((((K ++ [.map out,m,bO p]).set s (.arr 4 [[.mp z.b,.mp z.t,.mp z.v,.list false 1 (bC (σ.log ++ jEnt (payI env (l.map (·.2)))))]])).set z.b (.bmap kvs1 bs1 ck1)).set z.v (.map (mput 2 (.str env) (.int .i64 (σ.vers env + 1)) z.V))).set z.t (.map (mdel 2 (.str env) z.T))))
section
variable {H : List AObj} {s : Nat} {σ : Sto} {ro : Nat → Option Role} {z : SP} {lv : AVal}
set_option maxRecDepth 20000 in
theorem rcommit_raw {P : Program} (F : F_z1o P) (h : RepR H s σ ro z lv) (env : ByteArray) (hf : σ.Fit) (hn : nameB env = true) {id : Nat} {l : List (AVal × ByteArray × Chg)}
  (e1 : mfind 2 (.str env) z.T = some (.sl id l.length 0 l.length)) (h4 : H[id]? = some (.arr 3 (l.map chE))) (h5 : EL H ro l) (hc : l.map (·.2) = σ.staged env) (hne : l.length ≠ 0) (hby : ∀ q ∈ l,Byt q.2.2.data)
  (kvs : List (AVal × AVal)) (g3 : PM (RDr H ro) kvs (σ.blobs env)) (hcase : (mfind 2 (.str env) z.B = none ∧ kvs = []) ∨ (mfind 2 (.str env) z.B = some .nilm ∧ kvs = []) ∨ ∃ idb,mfind 2 (.str env) z.B = some (.mp idb) ∧ H[idb]? = some (.map kvs) ∧ ro idb = some .blob) :
  ACalls P F.id [.ptr s 1 0 0,.str env] H (RCom H s σ ro z env kvs l):=by
 refine acalls_of_body F.has ?_
 (conv=>whnf);refine ACalls.use (ref5_IsName_spec F.z25 env _) ?_
 (conv=>whnf);refine recF (by rw [hn];rfl) ?_
 (conv=>whnf);refine recO (h.hs) ?_
 (conv=>whnf);refine recO (h.ht) ?_
 (conv=>whnf);refine recT (h.pT.ok env) ?_
 (conv=>whnf);refine recO (e1) ?_
 (conv=>whnf);refine recO (h4) ?_
 (conv=>whnf);refine recT (by simp) ?_
 (conv=>whnf);refine recF (by simp [hne]) ?_
 (conv=>whnf);refine snocK_to ?_
 (conv=>whnf);refine recO (at_old h.hs) ?_
 (conv=>whnf);refine recO (at_old h.hb) ?_
 (conv=>whnf);refine recT (h.pB.ok env) ?_
 rcases hcase with ⟨g1,hk0⟩ | ⟨g1,hk0⟩ | ⟨idb,g1,g2,hrb⟩
 ·(conv=>whnf);refine recN g1 ?_
  conv=>whnf
  refine snocK_to ?_
  rw [show H ++ [AObj.map []] ++ [AObj.mit none 0 []] = H ++ [.map [],.mit none 0 []] by simp]
  conv=>whnf
  refine ⟨fun m ρ H1=>H1 = H ++ [.map [],.mit none 0 []] ∧
   Sv 146 [(0,.ptr s 1 0 0),(1,.str env),(5,.sl id l.length 0 l.length),(6,.mp H.length),(32,.it (H.length + 1))] ρ,0,[],?_,?_⟩
  ·refine ⟨rfl,Sv.intro rfl ⟨rfl,rfl,rfl,?_,?_,trivial⟩⟩
   ·show AVal.mp _ = _
    simp
   ·show AVal.it _ = _
    simp
  rintro m ρ H1 ⟨rfl,d,rfl⟩
  (conv=>whnf);refine recO (getB) ?_
  conv=>whnf
  have hkf : KF H ro H:=.inl rfl
  obtain ⟨out,hou⟩ : ∃ out : List (AVal × AVal),out = []:=⟨_,rfl⟩
  have hout : out.Perm kvs:=by rw [hou,hk0]
  generalize AObj.mit none 0 [] = mt
  rw [show H ++ [AObj.map [],mt] = H ++ [AObj.map out,mt] by rw [hou]]
  have hl0:=hkf.len
  have hkt : ∀ {i : Nat} {r : Role} {o : AObj} X,ro i = some r → r ≠ .blob → H[i]? = some o → (H ++ X)[i]? = some o:=fun X h1 h2 h3=>at_old (hkf.keep h1 h2 h3)
  have hka : ∀ {i n : Nat} {es : List (List AVal)} X,H[i]? = some (.arr n es) → (H ++ X)[i]? = some (.arr n es):=fun X h3=>at_old (hkf.arr h3)
  have hesz : env.size ≤ 100000:=by have:=nameB_len hn;omega
  (conv=>whnf);refine snocK_to ?_
  (conv=>whnf);refine ACalls.use (rtext_pure F.z24 env hesz _) ?_
  (conv=>whnf);refine recO (at_snoc _ _) ?_
  have ht1 : (txI env).length = env.size + 1:=by simp [txI,bytesI_length]
  have hll : l.length ≤ 90000:=by
   have h1:=hf.pl env hn
   rw [← hc] at h1
   have h2 : l.length ≤ ((l.map (·.2)).flatMap entI).length:=by
    clear h1 hc h4 e1 hne hby h5
    induction l with
    | nil=>exact Nat.le_refl _
    | cons q l ih=>rw [List.map_cons,List.flatMap_cons,List.length_append,List.length_cons,entI,List.length_cons];omega
   unfold payI at h1
   rw [List.length_append] at h1
   omega
  (conv=>whnf);refine And.intro (⟨by simp [roomB,bC_length];omega,by simp [roomB,bC_length];omega,rfl,rfl⟩) ?_
  refine setO_at (set_snocB (l:=[1] ++ txI env) (bC_append [1] (txI env)).symm) ?_
  (conv=>whnf);refine recO (at_old (hka _ h4)) ?_
  (conv=>whnf);refine recT (by simp) ?_
  (conv=>whnf);refine ACalls.use (ref24_number_spec ⟨F.z1k.id,F.z1k.has⟩ l.length 2 (by omega) (by omega) (by omega) _) ?_
  (conv=>whnf);refine recO (at_snoc _ _) ?_
  (conv=>whnf);refine recT (by simp [bC_length]) ?_
  (conv=>whnf);refine And.intro (⟨by simp [roomB,bC_length,beN_length];omega,by simp [roomB,bC_length,beN_length];omega,rfl,by simp [bC_length]⟩) ?_
  refine setO_at (set_snocB (l:=[1] ++ txI env ++ beN 2 l.length) (bC_append ([1] ++ txI env) (beN 2 l.length)).symm) ?_
  conv=>whnf
  refine ⟨fun m ρ H1=>∃ (k : Nat) (out' : List (AVal × AVal)) (pay : List Int),k + m = l.length ∧ pay ++ ((l.drop k).map (·.2)).flatMap entI = payI env (l.map (·.2)) ∧ out'.Perm (outF kvs (l.take k)) ∧ H1 = H ++ [.map out',mt,bO pay] ∧
   Sv 146 [(0,.ptr s 1 0 0),(1,.str env),(5,.sl id l.length 0 l.length),(6,.mp H.length),(9,bsl (H.length + 2) pay),(10,.int .i64 k)] ρ,l.length,[],?_,?_⟩
  ·refine ⟨0,out,[1] ++ txI env ++ beN 2 l.length,by omega,by rw [payI,List.length_map];rfl,hout,by simp,Sv.intro rfl ⟨rfl,rfl,rfl,rfl,?_,rfl,trivial⟩⟩
   show AVal.sl _ _ _ _ = _
   rw [← bC_append,bC_length]
   simp [bsl]
  rintro m ρ H1 ⟨k,out',pay,hk,hpay,hperm,rfl,d2,rfl⟩
  have hpl0:=congrArg List.length hpay
  rw [List.length_append] at hpl0
  have hpl1 : (payI env (l.map (·.2))).length ≤ 90000:=by rw [hc];exact hf.pl env hn
  (conv=>whnf);refine recO (hka _ h4) ?_
  (conv=>whnf);refine recT (by simp) ?_
  (conv=>whnf);refine recA (fun hlt=>?_) (fun hlt=>?_)
  ·simp at hlt
   obtain ⟨⟨xq,nm,⟨rm,data⟩⟩,hq,hqd,hqm⟩:=get_drop hlt
   have hqe : (l.map chE)[0 + (k : Int).toNat]? = some (chE (xq,nm,⟨rm,data⟩)):=by rw [Nat.zero_add,Int.toNat_natCast,List.getElem?_map,hq];rfl
   rw [hqd,List.map_cons,List.flatMap_cons] at hpay
   (conv=>whnf);refine recO (hka _ h4) ?_
   (conv=>whnf);refine recT (by simp) ?_
   (conv=>whnf);refine And.intro (by omega) ?_
   (conv=>whnf);refine recO (hka _ h4) ?_
   (conv=>whnf);refine recT (by simp) ?_
   (conv=>whnf);refine recO (hqe) ?_
   (conv=>whnf);refine ⟨_,rflag_spec F.z20 rm _,?_⟩
   have hl4 : nm.size + 2 ≤ (entI (nm,⟨rm,data⟩)).length:=by rw [entI,List.length_cons];cases rm <;> simp [txI,bytesI_length] <;> omega
   replace hpay : pay ++ (entI (nm,⟨rm,data⟩) ++ ((l.drop (k + 1)).map (·.2)).flatMap entI) = payI env (l.map (·.2)):=hpay
   have hpl2 : pay.length + (entI (nm,⟨rm,data⟩)).length ≤ 90000:=by
    have:=congrArg List.length hpay
    rw [List.length_append,List.length_append] at this
    omega
   have ht2 : (txI nm).length = nm.size + 1:=by simp [txI,bytesI_length]
   (conv=>whnf);refine recO (get3) ?_
   (conv=>whnf);refine recT (by rw [bC_length];exact Nat.beq_refl _) ?_
   (conv=>whnf);refine And.intro (⟨by simp [roomB];omega,by simp [roomB];omega,rfl,(bC_length pay).symm⟩) ?_
   refine setO_at (set3B (l:=pay ++ [bif rm then 1 else 0]) (bC_append pay [bif rm then 1 else 0]).symm) ?_
   (conv=>whnf);refine recO (hka _ h4) ?_
   (conv=>whnf);refine recT (by simp) ?_
   (conv=>whnf);refine And.intro (by omega) ?_
   (conv=>whnf);refine recO (hka _ h4) ?_
   (conv=>whnf);refine recT (by simp) ?_
   (conv=>whnf);refine recO (hqe) ?_
   (conv=>whnf);refine ⟨_,rtext_pure F.z24 nm (by omega) _,?_⟩
   (conv=>whnf);refine recO (get3) ?_
   (conv=>whnf);refine recT (by simp [bC_length]) ?_
   (conv=>whnf);refine And.intro (⟨by simp [roomB,bC_length];omega,by simp [roomB,bC_length];omega,rfl,by simp [bC_length]⟩) ?_
   refine setO_at (set3B (l:=pay ++ [bif rm then 1 else 0] ++ txI nm) (bC_append (pay ++ [bif rm then 1 else 0]) (txI nm)).symm) ?_
   conv=>whnf
   refine And.intro ?_ ?_
   ·(conv=>whnf);refine recO (hka _ h4) ?_
    (conv=>whnf);refine recT (by simp) ?_
    (conv=>whnf);refine recO (hqe) ?_
    conv=>whnf
   conv=>whnf
   refine And.intro ?_ ?_
   ·(conv=>whnf);refine recO (hka _ h4) ?_
    (conv=>whnf);refine recT (by simp) ?_
    (conv=>whnf);refine And.intro (by omega) ?_
    conv=>whnf
   have hwk : IntKind.i64.wrap ((k : Int) + 1) = ((k + 1 : Nat) : Int):=by rw [wrapI _ (by omega) (by omega)];omega
   have htk : l.take (k + 1) = l.take k ++ [(xq,nm,⟨rm,data⟩)]:=take_succ_get hq
   (conv=>whnf);refine recO (hka _ h4) ?_
   (conv=>whnf);refine recT (by simp) ?_
   (conv=>whnf);refine And.intro (by omega) ?_
   (conv=>whnf);refine recO (hka _ h4) ?_
   (conv=>whnf);refine recT (by simp) ?_
   (conv=>whnf);refine recO (hqe) ?_
   have hpm:=outF_pm (l.take k) g3 (hf.sb env) fun q hq _=>(h5 q (List.mem_of_mem_take hq)).1
   have hps:=afterL_srt ((l.take k).map (·.2)) (hf.sb env)
   have hko : keyOk 2 (.str nm) out' = true:=by rw [keyOk_perm hperm];exact hpm.ok nm
   have hpe : ∀ x,bC (pay ++ [x]) ++ bC (txI nm) = bC (pay ++ [x] ++ txI nm):=fun x=>(bC_append _ _).symm
   cases rm with
   | true =>
    (conv=>whnf);refine recO (hka _ h4) ?_
    (conv=>whnf);refine recT (by simp) ?_
    (conv=>whnf);refine And.intro (by omega) ?_
    (conv=>whnf);refine recO (hka _ h4) ?_
    (conv=>whnf);refine recT (by simp) ?_
    (conv=>whnf);refine recO (hqe) ?_
    (conv=>whnf);refine recO (getA) ?_
    (conv=>whnf);refine recT (hko) ?_
    (conv=>whnf)
    refine setO_at setA ?_
    (conv=>whnf)
    rw [hwk]
    refine ⟨m - 1,by omega,Gp.keep rfl ?_ fun ρ1 h=>⟨k + 1,_,pay ++ [1] ++ txI nm,by omega,by rw [← hpay,entI];simp,?_,rfl,h⟩⟩
    ·refine ⟨rfl,rfl,rfl,rfl,?_,rfl,trivial⟩
     show AVal.sl _ _ _ _ = _
     rw [show (bif true then (1 : Int) else 0) = 1 from rfl,hpe,bC_length];rfl
    ·rw [htk,outF_snoc]
     exact outS_perm hperm hpm hps (xq,nm,⟨true,data⟩)
   | false =>
    have hdl : data.length + nm.size + 6 ≤ 90000:=by simp [entI,ht2,beN_length] at hpl2;omega
    rcases (h5 _ hqm).1 with ⟨hx1,hx2⟩ | ⟨did,hx1,hx2,hx3⟩
    ·exact absurd hx1 ((h5 _ hqm).2 rfl)
    ·have hx1 : xq = bsl did data:=hx1
     subst hx1
     have hdd : ∀ X,(H ++ X)[did]? = some (.arr 1 (bC data)):=fun X=>hka X hx3
     (conv=>whnf);refine recO (hka _ h4) ?_
     (conv=>whnf);refine recT (by simp) ?_
     (conv=>whnf);refine And.intro (by omega) ?_
     (conv=>whnf);refine recO (hka _ h4) ?_
     (conv=>whnf);refine recT (by simp) ?_
     (conv=>whnf);refine recO (hqe) ?_
     (conv=>whnf);refine recO (hka _ h4) ?_
     (conv=>whnf);refine recT (by simp) ?_
     (conv=>whnf);refine And.intro (by omega) ?_
     (conv=>whnf);refine recO (hka _ h4) ?_
     (conv=>whnf);refine recT (by simp) ?_
     (conv=>whnf);refine recO (hqe) ?_
     (conv=>whnf);refine recO (getA) ?_
     (conv=>whnf);refine recT (hko) ?_
     (conv=>whnf)
     refine setO_at setA ?_
     (conv=>whnf);refine recO (hka _ h4) ?_
     (conv=>whnf);refine recT (by simp) ?_
     (conv=>whnf);refine And.intro (by omega) ?_
     (conv=>whnf);refine recO (hka _ h4) ?_
     (conv=>whnf);refine recT (by simp) ?_
     (conv=>whnf);refine recO (hqe) ?_
     (conv=>whnf);refine recO (hdd _) ?_
     (conv=>whnf);refine recT (by rw [bC_length];exact Nat.beq_refl _) ?_
     (conv=>whnf);refine ⟨_,ref24_number_spec ⟨F.z1k.id,F.z1k.has⟩ data.length 4 (by omega) (by omega) (by omega) _,?_⟩
     (conv=>whnf);refine recO (get3) ?_
     (conv=>whnf);refine recT (by simp [bC_length] <;> omega) ?_
     (conv=>whnf);refine And.intro (⟨by simp [roomB,bC_length,beN_length];omega,by simp [roomB,bC_length,beN_length];omega,rfl,by simp [bC_length];omega⟩) ?_
     refine setO_at (set3B (l:=pay ++ [0] ++ txI nm ++ beN 4 data.length) (bC_append (pay ++ [0] ++ txI nm) (beN 4 data.length)).symm) ?_
     (conv=>whnf);refine recO (hka _ h4) ?_
     (conv=>whnf);refine recT (by simp) ?_
     (conv=>whnf);refine And.intro (by omega) ?_
     (conv=>whnf);refine recO (hka _ h4) ?_
     (conv=>whnf);refine recT (by simp) ?_
     (conv=>whnf);refine recO (hqe) ?_
     (conv=>whnf);refine recO (hdd _) ?_
     (conv=>whnf);refine recT (by rw [bC_length];exact Nat.beq_refl _) ?_
     (conv=>whnf);refine recO (get3) ?_
     (conv=>whnf);refine recT (by simp [bC_length] <;> omega) ?_
     have hdt : List.take data.length (List.drop 0 (bC data)) = bC data:=by rw [List.drop_zero,← bC_length data,List.take_length]
     (conv=>whnf);refine And.intro (⟨by simp [roomB,bC_length,beN_length];omega,by simp [roomB,bC_length,beN_length];omega,rfl,by simp [bC_length,beN_length];omega⟩) ?_
     refine setO_at (set3B (l:=pay ++ [0] ++ txI nm ++ beN 4 data.length ++ data) (by rw [hdt];exact (bC_append _ _).symm)) ?_
     conv=>whnf
     refine And.intro ?_ ?_
     ·(conv=>whnf);refine recO (hka _ h4) ?_
      (conv=>whnf);refine recT (by simp) ?_
      (conv=>whnf);refine recO (hqe) ?_
      conv=>whnf
     conv=>whnf
     refine And.intro ?_ ?_
     ·(conv=>whnf);refine recO (hka _ h4) ?_
      (conv=>whnf);refine recT (by simp) ?_
      (conv=>whnf);refine And.intro (by omega) ?_
      conv=>whnf
     conv=>whnf
     rw [hwk]
     refine ⟨m - 1,by omega,Gp.keep rfl ?_ fun ρ1 h=>⟨k + 1,_,pay ++ [0] ++ txI nm ++ beN 4 data.length ++ data,by omega,by rw [← hpay,entI];simp,?_,rfl,h⟩⟩
     ·refine ⟨rfl,rfl,rfl,rfl,?_,rfl,trivial⟩
      show AVal.sl _ _ _ _ = _
      rw [hdt,← bC_append,bC_length];rfl
     ·rw [htk,outF_snoc]
      exact outS_perm hperm hpm hps (bsl did data,nm,⟨false,data⟩)
  ·simp at hlt
   have hkl : k = l.length:=by omega
   subst hkl
   rw [List.drop_of_length_le (Nat.le_refl _)] at hpay
   rw [List.take_length] at hperm
   replace hpay : pay = payI env (l.map (·.2)):=by rw [← hpay];simp
   have hpm:=outF_pm l g3 (hf.sb env) fun q hq _=>(h5 q hq).1
   have hol : out'.length = (afterL (σ.blobs env) (l.map (·.2))).length:=by rw [hperm.length_eq,hpm.len]
   (conv=>whnf);refine recO (getA) ?_
   (conv=>whnf);refine recA (fun hbig=>?_) (fun hbig=>?_)
   ·simp at hbig
    conv=>whnf
    exact ⟨H,hkf,.inl ⟨by rw [← hol];omega,rfl,_,rfl⟩⟩
   simp at hbig
   have hby2 : ∀ p ∈ l.map (·.2),Byt p.2.data:=fun p hp=>(List.mem_map.1 hp).elim fun q h=>h.2 ▸ hby q h.1
   have hpb : Byt pay:=by rw [hpay];exact payI_byt _ hby2
   have hap:=rApp_own F.z1i σ.log pay h.lg (by have:=hf.lg;omega) (by rw [hpay];omega) hpb (H:=H ++ [.map out',mt,bO pay]) (id:=H.length + 2) get3
   (conv=>whnf);refine recO (hkt _ h.rs (by simp) h.hs) ?_
   unfold jApp at hap
   have hbig2 : (afterL (σ.blobs env) (l.map (·.2))).length ≤ 256:=by rw [← hol];omega
   cases hfl : jFull σ.log pay with
   | true =>
    rw [hfl,if_pos rfl] at hap
    (conv=>whnf);refine ACalls.use (hap) ?_
    conv=>whnf
    exact ⟨H,hkf,.inr (.inl ⟨hbig2,by rw [← hpay];exact hfl,rfl,_,rfl⟩)⟩
   | false =>
    rw [hfl,if_neg (by decide)] at hap
    have nbs : z.b ≠ s:=ro_ne h.rb h.rs (by simp)
    have nbv : z.b ≠ z.v:=ro_ne h.rb h.rv (by simp)
    have nbt : z.b ≠ z.t:=ro_ne h.rb h.rt (by simp)
    have nvs : z.v ≠ s:=ro_ne h.rv h.rs (by simp)
    have nvt : z.v ≠ z.t:=ro_ne h.rv h.rt (by simp)
    have nts : z.t ≠ s:=ro_ne h.rt h.rs (by simp)
    (conv=>whnf);refine ACalls.use (hap) ?_
    conv=>whnf
    refine .rev z.b z.B (hkt _ h.rb (by simp) h.hb) fun kvs1 bs1 ck1 hp1 hl1 hn1 hck1=>?_
    have pc1:=h.pB.permL hp1
    have hq1 : (mput 2 (.str env) (.mp H.length) kvs1).Perm (mput 2 (.str env) (.mp H.length) z.B):=by rw [hl0];exact mput_perm hp1 (pc1.lits h.sB) (pc1.cells env)
    (conv=>whnf);refine recO (at_ne (hkt _ h.rs (by simp) h.hs) nbs) ?_
    (conv=>whnf);refine recO (at_ne (hkt _ h.rs (by simp) h.hs) nbs) ?_
    (conv=>whnf)
    refine setO_at rfl ?_
    have hzb : ∀ o o',(((H ++ [AObj.map out',mt,bO pay]).set z.b o).set s o')[z.b]? = some o:=fun o o'=>at_ne (set_at (hkt _ h.rb (by simp) h.hb)) (Ne.symm nbs)
    have hcm : ∀ o o' o'',(((H ++ [AObj.map out',mt,bO pay]).set z.b o).set s o').set z.b o'' = ((H ++ [AObj.map out',mt,bO pay]).set s o').set z.b o'':=fun o o' o''=>by rw [List.set_comm _ _ nbs,List.set_set]
    (conv=>whnf);refine recO (hzb _ _) ?_
    (conv=>whnf);refine recT (pc1.ok env) ?_
    have hsb : ∀ o o',(((H ++ [AObj.map out',mt,bO pay]).set s o').set z.b o)[z.b]? = some o:=fun o o'=>set_at (at_ne (hkt _ h.rb (by simp) h.hb) (Ne.symm nbs))
    have vw0 : ∀ o,Vw (((H ++ [AObj.map out',mt,bO pay]).set s (.arr 4 [[.mp z.b,.mp z.t,.mp z.v,.list false 1 (bC (σ.log ++ jEnt pay))]])).set z.b o) s z (.list false 1 (bC (σ.log ++ jEnt pay))) z.T z.V:=fun o =>
     ⟨at_ne (set_at (hkt _ h.rs (by simp) h.hs)) nbs,at_ne (at_ne (hkt _ h.rt (by simp) h.ht) (Ne.symm nts)) nbt,at_ne (at_ne (hkt _ h.rv (by simp) h.hv) (Ne.symm nvs)) nbv,nvs,nvt,nts⟩
    have w : IntKind.i64.wrap (σ.vers env + 1) = σ.vers env + 1:=wrapI _ (by have:=hf.vs env;omega) (by have:=hf.vs env;omega)
    have fin : ∀ n : Int,n = σ.vers env → AObj.map (mput 2 (.str env) (.int .i64 (IntKind.i64.wrap (n + 1))) z.V) = .map (mput 2 (.str env) (.int .i64 (σ.vers env + 1)) z.V):=fun n hn=>by rw [hn,w]
    have hsn : ∀ (kvs : List (AVal × AVal)) (kv y : AVal × AVal),(kvs ++ [kv]).set kvs.length y = kvs ++ [y]:=fun kvs kv y=>by rw [List.set_append_right _ _ (Nat.le_refl _)];simp
    have hfl2 : jFull σ.log (payI env (l.map (·.2))) = false:=by rw [← hpay];exact hfl
    rw [hpay] at hcm hsb hzb vw0 ⊢
    cases ev1 : mfind 2 (.str env) kvs1 with
    | none =>
     obtain ⟨i1,i2⟩:=midxN ev1
     (conv=>whnf);refine recN i1 ?_
     (conv=>whnf)
     refine setO_at (hcm _ _ _) ?_
     (conv=>whnf);refine recO (hsb _ _) ?_
     refine ⟨kvs1.length,(.str env,.nilm),ck1,by rw [← hl1];simp,rfl,by simp,?_⟩
     refine setO_at ((List.set_set ..).trans (congrArg (fun x=>List.set _ z.b (AObj.bmap x _ _)) ((hsn ..).trans (i2 _).symm))) ?_
     (conv=>whnf);refine recO ((vw0 _).hs) ?_
     (conv=>whnf);refine recO ((vw0 _).hv) ?_
     (conv=>whnf);refine recT (h.pV.ok env) ?_
     rcases h.pV.find h.sV env with ⟨w1,w2⟩ | ⟨y,n,w1,w2,rfl⟩
     ·(conv=>whnf);refine recN w1 ?_
      (conv=>whnf);refine recO ((vw0 _).hv) ?_
      (conv=>whnf);refine recT (h.pV.ok env) ?_
      (conv=>whnf)
      refine setO_at (congrArg _ (fin 0 (by have:=h.eV env;rw [w2] at this;exact this.symm))) ?_
      (conv=>whnf);refine ACalls.mono (discard_raw ⟨F.z1p.id,F.z1p.has⟩ ((vw0 _).setV _) env (h.pT.ok env)) ?_
      rintro r H1 ⟨rfl,rfl⟩
      conv=>whnf
      exact ⟨H,hkf,.inr (.inr ⟨hbig2,hfl2,rfl,out',mt,_,_,_,_,hperm,hq1,rfl⟩)⟩
     ·(conv=>whnf);refine recO (w1) ?_
      (conv=>whnf);refine recO ((vw0 _).hv) ?_
      (conv=>whnf);refine recT (h.pV.ok env) ?_
      (conv=>whnf)
      refine setO_at (congrArg _ (fin n (by have:=h.eV env;rw [w2] at this;exact this.symm))) ?_
      (conv=>whnf);refine ACalls.mono (discard_raw ⟨F.z1p.id,F.z1p.has⟩ ((vw0 _).setV _) env (h.pT.ok env)) ?_
      rintro r H1 ⟨rfl,rfl⟩
      conv=>whnf
      exact ⟨H,hkf,.inr (.inr ⟨hbig2,hfl2,rfl,out',mt,_,_,_,_,hperm,hq1,rfl⟩)⟩
    | some xv =>
     obtain ⟨i',kv',i1,i2,i3,i4⟩:=midxS ev1
     obtain ⟨q',hq'⟩ : ∃ q',bs1[i']? = some q':=⟨_,List.getElem?_eq_getElem (by rw [hl1];exact (List.getElem?_eq_some_iff.1 i2).1)⟩
     (conv=>whnf);refine recO (i1) ?_
     (conv=>whnf);refine recO (i2) ?_
     (conv=>whnf);refine recO (hq') ?_
     (conv=>whnf);refine recO (hzb _ _) ?_
     refine ⟨_,_,_,hq',rfl,i2,?_⟩
     refine setO_at ((hcm _ _ _).trans (congrArg (fun x=>List.set _ z.b (AObj.bmap x _ _)) (i4 _).symm)) ?_
     (conv=>whnf);refine recO ((vw0 _).hs) ?_
     (conv=>whnf);refine recO ((vw0 _).hv) ?_
     (conv=>whnf);refine recT (h.pV.ok env) ?_
     rcases h.pV.find h.sV env with ⟨w1,w2⟩ | ⟨y,n,w1,w2,rfl⟩
     ·(conv=>whnf);refine recN w1 ?_
      (conv=>whnf);refine recO ((vw0 _).hv) ?_
      (conv=>whnf);refine recT (h.pV.ok env) ?_
      (conv=>whnf)
      refine setO_at (congrArg _ (fin 0 (by have:=h.eV env;rw [w2] at this;exact this.symm))) ?_
      (conv=>whnf);refine ACalls.mono (discard_raw ⟨F.z1p.id,F.z1p.has⟩ ((vw0 _).setV _) env (h.pT.ok env)) ?_
      rintro r H1 ⟨rfl,rfl⟩
      conv=>whnf
      exact ⟨H,hkf,.inr (.inr ⟨hbig2,hfl2,rfl,out',mt,_,_,_,_,hperm,hq1,rfl⟩)⟩
     ·(conv=>whnf);refine recO (w1) ?_
      (conv=>whnf);refine recO ((vw0 _).hv) ?_
      (conv=>whnf);refine recT (h.pV.ok env) ?_
      (conv=>whnf)
      refine setO_at (congrArg _ (fin n (by have:=h.eV env;rw [w2] at this;exact this.symm))) ?_
      (conv=>whnf);refine ACalls.mono (discard_raw ⟨F.z1p.id,F.z1p.has⟩ ((vw0 _).setV _) env (h.pT.ok env)) ?_
      rintro r H1 ⟨rfl,rfl⟩
      conv=>whnf
      exact ⟨H,hkf,.inr (.inr ⟨hbig2,hfl2,rfl,out',mt,_,_,_,_,hperm,hq1,rfl⟩)⟩
 ·(conv=>whnf);refine recO (g1) ?_
  conv=>whnf
  refine snocK_to ?_
  rw [show H ++ [AObj.map []] ++ [AObj.mit none 0 []] = H ++ [.map [],.mit none 0 []] by simp]
  conv=>whnf
  refine ⟨fun m ρ H1=>H1 = H ++ [.map [],.mit none 0 []] ∧
   Sv 146 [(0,.ptr s 1 0 0),(1,.str env),(5,.sl id l.length 0 l.length),(6,.mp H.length),(32,.it (H.length + 1))] ρ,0,[],?_,?_⟩
  ·refine ⟨rfl,Sv.intro rfl ⟨rfl,rfl,rfl,?_,?_,trivial⟩⟩
   ·show AVal.mp _ = _
    simp
   ·show AVal.it _ = _
    simp
  rintro m ρ H1 ⟨rfl,d,rfl⟩
  (conv=>whnf);refine recO (getB) ?_
  conv=>whnf
  have hkf : KF H ro H:=.inl rfl
  obtain ⟨out,hou⟩ : ∃ out : List (AVal × AVal),out = []:=⟨_,rfl⟩
  have hout : out.Perm kvs:=by rw [hou,hk0]
  generalize AObj.mit none 0 [] = mt
  rw [show H ++ [AObj.map [],mt] = H ++ [AObj.map out,mt] by rw [hou]]
  have hl0:=hkf.len
  have hkt : ∀ {i : Nat} {r : Role} {o : AObj} X,ro i = some r → r ≠ .blob → H[i]? = some o → (H ++ X)[i]? = some o:=fun X h1 h2 h3=>at_old (hkf.keep h1 h2 h3)
  have hka : ∀ {i n : Nat} {es : List (List AVal)} X,H[i]? = some (.arr n es) → (H ++ X)[i]? = some (.arr n es):=fun X h3=>at_old (hkf.arr h3)
  have hesz : env.size ≤ 100000:=by have:=nameB_len hn;omega
  (conv=>whnf);refine snocK_to ?_
  (conv=>whnf);refine ACalls.use (rtext_pure F.z24 env hesz _) ?_
  (conv=>whnf);refine recO (at_snoc _ _) ?_
  have ht1 : (txI env).length = env.size + 1:=by simp [txI,bytesI_length]
  have hll : l.length ≤ 90000:=by
   have h1:=hf.pl env hn
   rw [← hc] at h1
   have h2 : l.length ≤ ((l.map (·.2)).flatMap entI).length:=by
    clear h1 hc h4 e1 hne hby h5
    induction l with
    | nil=>exact Nat.le_refl _
    | cons q l ih=>rw [List.map_cons,List.flatMap_cons,List.length_append,List.length_cons,entI,List.length_cons];omega
   unfold payI at h1
   rw [List.length_append] at h1
   omega
  (conv=>whnf);refine And.intro (⟨by simp [roomB,bC_length];omega,by simp [roomB,bC_length];omega,rfl,rfl⟩) ?_
  refine setO_at (set_snocB (l:=[1] ++ txI env) (bC_append [1] (txI env)).symm) ?_
  (conv=>whnf);refine recO (at_old (hka _ h4)) ?_
  (conv=>whnf);refine recT (by simp) ?_
  (conv=>whnf);refine ACalls.use (ref24_number_spec ⟨F.z1k.id,F.z1k.has⟩ l.length 2 (by omega) (by omega) (by omega) _) ?_
  (conv=>whnf);refine recO (at_snoc _ _) ?_
  (conv=>whnf);refine recT (by simp [bC_length]) ?_
  (conv=>whnf);refine And.intro (⟨by simp [roomB,bC_length,beN_length];omega,by simp [roomB,bC_length,beN_length];omega,rfl,by simp [bC_length]⟩) ?_
  refine setO_at (set_snocB (l:=[1] ++ txI env ++ beN 2 l.length) (bC_append ([1] ++ txI env) (beN 2 l.length)).symm) ?_
  conv=>whnf
  refine ⟨fun m ρ H1=>∃ (k : Nat) (out' : List (AVal × AVal)) (pay : List Int),k + m = l.length ∧ pay ++ ((l.drop k).map (·.2)).flatMap entI = payI env (l.map (·.2)) ∧ out'.Perm (outF kvs (l.take k)) ∧ H1 = H ++ [.map out',mt,bO pay] ∧
   Sv 146 [(0,.ptr s 1 0 0),(1,.str env),(5,.sl id l.length 0 l.length),(6,.mp H.length),(9,bsl (H.length + 2) pay),(10,.int .i64 k)] ρ,l.length,[],?_,?_⟩
  ·refine ⟨0,out,[1] ++ txI env ++ beN 2 l.length,by omega,by rw [payI,List.length_map];rfl,hout,by simp,Sv.intro rfl ⟨rfl,rfl,rfl,rfl,?_,rfl,trivial⟩⟩
   show AVal.sl _ _ _ _ = _
   rw [← bC_append,bC_length]
   simp [bsl]
  rintro m ρ H1 ⟨k,out',pay,hk,hpay,hperm,rfl,d2,rfl⟩
  have hpl0:=congrArg List.length hpay
  rw [List.length_append] at hpl0
  have hpl1 : (payI env (l.map (·.2))).length ≤ 90000:=by rw [hc];exact hf.pl env hn
  (conv=>whnf);refine recO (hka _ h4) ?_
  (conv=>whnf);refine recT (by simp) ?_
  (conv=>whnf);refine recA (fun hlt=>?_) (fun hlt=>?_)
  ·simp at hlt
   obtain ⟨⟨xq,nm,⟨rm,data⟩⟩,hq,hqd,hqm⟩:=get_drop hlt
   have hqe : (l.map chE)[0 + (k : Int).toNat]? = some (chE (xq,nm,⟨rm,data⟩)):=by rw [Nat.zero_add,Int.toNat_natCast,List.getElem?_map,hq];rfl
   rw [hqd,List.map_cons,List.flatMap_cons] at hpay
   (conv=>whnf);refine recO (hka _ h4) ?_
   (conv=>whnf);refine recT (by simp) ?_
   (conv=>whnf);refine And.intro (by omega) ?_
   (conv=>whnf);refine recO (hka _ h4) ?_
   (conv=>whnf);refine recT (by simp) ?_
   (conv=>whnf);refine recO (hqe) ?_
   (conv=>whnf);refine ⟨_,rflag_spec F.z20 rm _,?_⟩
   have hl4 : nm.size + 2 ≤ (entI (nm,⟨rm,data⟩)).length:=by rw [entI,List.length_cons];cases rm <;> simp [txI,bytesI_length] <;> omega
   replace hpay : pay ++ (entI (nm,⟨rm,data⟩) ++ ((l.drop (k + 1)).map (·.2)).flatMap entI) = payI env (l.map (·.2)):=hpay
   have hpl2 : pay.length + (entI (nm,⟨rm,data⟩)).length ≤ 90000:=by
    have:=congrArg List.length hpay
    rw [List.length_append,List.length_append] at this
    omega
   have ht2 : (txI nm).length = nm.size + 1:=by simp [txI,bytesI_length]
   (conv=>whnf);refine recO (get3) ?_
   (conv=>whnf);refine recT (by rw [bC_length];exact Nat.beq_refl _) ?_
   (conv=>whnf);refine And.intro (⟨by simp [roomB];omega,by simp [roomB];omega,rfl,(bC_length pay).symm⟩) ?_
   refine setO_at (set3B (l:=pay ++ [bif rm then 1 else 0]) (bC_append pay [bif rm then 1 else 0]).symm) ?_
   (conv=>whnf);refine recO (hka _ h4) ?_
   (conv=>whnf);refine recT (by simp) ?_
   (conv=>whnf);refine And.intro (by omega) ?_
   (conv=>whnf);refine recO (hka _ h4) ?_
   (conv=>whnf);refine recT (by simp) ?_
   (conv=>whnf);refine recO (hqe) ?_
   (conv=>whnf);refine ⟨_,rtext_pure F.z24 nm (by omega) _,?_⟩
   (conv=>whnf);refine recO (get3) ?_
   (conv=>whnf);refine recT (by simp [bC_length]) ?_
   (conv=>whnf);refine And.intro (⟨by simp [roomB,bC_length];omega,by simp [roomB,bC_length];omega,rfl,by simp [bC_length]⟩) ?_
   refine setO_at (set3B (l:=pay ++ [bif rm then 1 else 0] ++ txI nm) (bC_append (pay ++ [bif rm then 1 else 0]) (txI nm)).symm) ?_
   conv=>whnf
   refine And.intro ?_ ?_
   ·(conv=>whnf);refine recO (hka _ h4) ?_
    (conv=>whnf);refine recT (by simp) ?_
    (conv=>whnf);refine recO (hqe) ?_
    conv=>whnf
   conv=>whnf
   refine And.intro ?_ ?_
   ·(conv=>whnf);refine recO (hka _ h4) ?_
    (conv=>whnf);refine recT (by simp) ?_
    (conv=>whnf);refine And.intro (by omega) ?_
    conv=>whnf
   have hwk : IntKind.i64.wrap ((k : Int) + 1) = ((k + 1 : Nat) : Int):=by rw [wrapI _ (by omega) (by omega)];omega
   have htk : l.take (k + 1) = l.take k ++ [(xq,nm,⟨rm,data⟩)]:=take_succ_get hq
   (conv=>whnf);refine recO (hka _ h4) ?_
   (conv=>whnf);refine recT (by simp) ?_
   (conv=>whnf);refine And.intro (by omega) ?_
   (conv=>whnf);refine recO (hka _ h4) ?_
   (conv=>whnf);refine recT (by simp) ?_
   (conv=>whnf);refine recO (hqe) ?_
   have hpm:=outF_pm (l.take k) g3 (hf.sb env) fun q hq _=>(h5 q (List.mem_of_mem_take hq)).1
   have hps:=afterL_srt ((l.take k).map (·.2)) (hf.sb env)
   have hko : keyOk 2 (.str nm) out' = true:=by rw [keyOk_perm hperm];exact hpm.ok nm
   have hpe : ∀ x,bC (pay ++ [x]) ++ bC (txI nm) = bC (pay ++ [x] ++ txI nm):=fun x=>(bC_append _ _).symm
   cases rm with
   | true =>
    (conv=>whnf);refine recO (hka _ h4) ?_
    (conv=>whnf);refine recT (by simp) ?_
    (conv=>whnf);refine And.intro (by omega) ?_
    (conv=>whnf);refine recO (hka _ h4) ?_
    (conv=>whnf);refine recT (by simp) ?_
    (conv=>whnf);refine recO (hqe) ?_
    (conv=>whnf);refine recO (getA) ?_
    (conv=>whnf);refine recT (hko) ?_
    (conv=>whnf)
    refine setO_at setA ?_
    (conv=>whnf)
    rw [hwk]
    refine ⟨m - 1,by omega,Gp.keep rfl ?_ fun ρ1 h=>⟨k + 1,_,pay ++ [1] ++ txI nm,by omega,by rw [← hpay,entI];simp,?_,rfl,h⟩⟩
    ·refine ⟨rfl,rfl,rfl,rfl,?_,rfl,trivial⟩
     show AVal.sl _ _ _ _ = _
     rw [show (bif true then (1 : Int) else 0) = 1 from rfl,hpe,bC_length];rfl
    ·rw [htk,outF_snoc]
     exact outS_perm hperm hpm hps (xq,nm,⟨true,data⟩)
   | false =>
    have hdl : data.length + nm.size + 6 ≤ 90000:=by simp [entI,ht2,beN_length] at hpl2;omega
    rcases (h5 _ hqm).1 with ⟨hx1,hx2⟩ | ⟨did,hx1,hx2,hx3⟩
    ·exact absurd hx1 ((h5 _ hqm).2 rfl)
    ·have hx1 : xq = bsl did data:=hx1
     subst hx1
     have hdd : ∀ X,(H ++ X)[did]? = some (.arr 1 (bC data)):=fun X=>hka X hx3
     (conv=>whnf);refine recO (hka _ h4) ?_
     (conv=>whnf);refine recT (by simp) ?_
     (conv=>whnf);refine And.intro (by omega) ?_
     (conv=>whnf);refine recO (hka _ h4) ?_
     (conv=>whnf);refine recT (by simp) ?_
     (conv=>whnf);refine recO (hqe) ?_
     (conv=>whnf);refine recO (hka _ h4) ?_
     (conv=>whnf);refine recT (by simp) ?_
     (conv=>whnf);refine And.intro (by omega) ?_
     (conv=>whnf);refine recO (hka _ h4) ?_
     (conv=>whnf);refine recT (by simp) ?_
     (conv=>whnf);refine recO (hqe) ?_
     (conv=>whnf);refine recO (getA) ?_
     (conv=>whnf);refine recT (hko) ?_
     (conv=>whnf)
     refine setO_at setA ?_
     (conv=>whnf);refine recO (hka _ h4) ?_
     (conv=>whnf);refine recT (by simp) ?_
     (conv=>whnf);refine And.intro (by omega) ?_
     (conv=>whnf);refine recO (hka _ h4) ?_
     (conv=>whnf);refine recT (by simp) ?_
     (conv=>whnf);refine recO (hqe) ?_
     (conv=>whnf);refine recO (hdd _) ?_
     (conv=>whnf);refine recT (by rw [bC_length];exact Nat.beq_refl _) ?_
     (conv=>whnf);refine ⟨_,ref24_number_spec ⟨F.z1k.id,F.z1k.has⟩ data.length 4 (by omega) (by omega) (by omega) _,?_⟩
     (conv=>whnf);refine recO (get3) ?_
     (conv=>whnf);refine recT (by simp [bC_length] <;> omega) ?_
     (conv=>whnf);refine And.intro (⟨by simp [roomB,bC_length,beN_length];omega,by simp [roomB,bC_length,beN_length];omega,rfl,by simp [bC_length];omega⟩) ?_
     refine setO_at (set3B (l:=pay ++ [0] ++ txI nm ++ beN 4 data.length) (bC_append (pay ++ [0] ++ txI nm) (beN 4 data.length)).symm) ?_
     (conv=>whnf);refine recO (hka _ h4) ?_
     (conv=>whnf);refine recT (by simp) ?_
     (conv=>whnf);refine And.intro (by omega) ?_
     (conv=>whnf);refine recO (hka _ h4) ?_
     (conv=>whnf);refine recT (by simp) ?_
     (conv=>whnf);refine recO (hqe) ?_
     (conv=>whnf);refine recO (hdd _) ?_
     (conv=>whnf);refine recT (by rw [bC_length];exact Nat.beq_refl _) ?_
     (conv=>whnf);refine recO (get3) ?_
     (conv=>whnf);refine recT (by simp [bC_length] <;> omega) ?_
     have hdt : List.take data.length (List.drop 0 (bC data)) = bC data:=by rw [List.drop_zero,← bC_length data,List.take_length]
     (conv=>whnf);refine And.intro (⟨by simp [roomB,bC_length,beN_length];omega,by simp [roomB,bC_length,beN_length];omega,rfl,by simp [bC_length,beN_length];omega⟩) ?_
     refine setO_at (set3B (l:=pay ++ [0] ++ txI nm ++ beN 4 data.length ++ data) (by rw [hdt];exact (bC_append _ _).symm)) ?_
     conv=>whnf
     refine And.intro ?_ ?_
     ·(conv=>whnf);refine recO (hka _ h4) ?_
      (conv=>whnf);refine recT (by simp) ?_
      (conv=>whnf);refine recO (hqe) ?_
      conv=>whnf
     conv=>whnf
     refine And.intro ?_ ?_
     ·(conv=>whnf);refine recO (hka _ h4) ?_
      (conv=>whnf);refine recT (by simp) ?_
      (conv=>whnf);refine And.intro (by omega) ?_
      conv=>whnf
     conv=>whnf
     rw [hwk]
     refine ⟨m - 1,by omega,Gp.keep rfl ?_ fun ρ1 h=>⟨k + 1,_,pay ++ [0] ++ txI nm ++ beN 4 data.length ++ data,by omega,by rw [← hpay,entI];simp,?_,rfl,h⟩⟩
     ·refine ⟨rfl,rfl,rfl,rfl,?_,rfl,trivial⟩
      show AVal.sl _ _ _ _ = _
      rw [hdt,← bC_append,bC_length];rfl
     ·rw [htk,outF_snoc]
      exact outS_perm hperm hpm hps (bsl did data,nm,⟨false,data⟩)
  ·simp at hlt
   have hkl : k = l.length:=by omega
   subst hkl
   rw [List.drop_of_length_le (Nat.le_refl _)] at hpay
   rw [List.take_length] at hperm
   replace hpay : pay = payI env (l.map (·.2)):=by rw [← hpay];simp
   have hpm:=outF_pm l g3 (hf.sb env) fun q hq _=>(h5 q hq).1
   have hol : out'.length = (afterL (σ.blobs env) (l.map (·.2))).length:=by rw [hperm.length_eq,hpm.len]
   (conv=>whnf);refine recO (getA) ?_
   (conv=>whnf);refine recA (fun hbig=>?_) (fun hbig=>?_)
   ·simp at hbig
    conv=>whnf
    exact ⟨H,hkf,.inl ⟨by rw [← hol];omega,rfl,_,rfl⟩⟩
   simp at hbig
   have hby2 : ∀ p ∈ l.map (·.2),Byt p.2.data:=fun p hp=>(List.mem_map.1 hp).elim fun q h=>h.2 ▸ hby q h.1
   have hpb : Byt pay:=by rw [hpay];exact payI_byt _ hby2
   have hap:=rApp_own F.z1i σ.log pay h.lg (by have:=hf.lg;omega) (by rw [hpay];omega) hpb (H:=H ++ [.map out',mt,bO pay]) (id:=H.length + 2) get3
   (conv=>whnf);refine recO (hkt _ h.rs (by simp) h.hs) ?_
   unfold jApp at hap
   have hbig2 : (afterL (σ.blobs env) (l.map (·.2))).length ≤ 256:=by rw [← hol];omega
   cases hfl : jFull σ.log pay with
   | true =>
    rw [hfl,if_pos rfl] at hap
    (conv=>whnf);refine ACalls.use (hap) ?_
    conv=>whnf
    exact ⟨H,hkf,.inr (.inl ⟨hbig2,by rw [← hpay];exact hfl,rfl,_,rfl⟩)⟩
   | false =>
    rw [hfl,if_neg (by decide)] at hap
    have nbs : z.b ≠ s:=ro_ne h.rb h.rs (by simp)
    have nbv : z.b ≠ z.v:=ro_ne h.rb h.rv (by simp)
    have nbt : z.b ≠ z.t:=ro_ne h.rb h.rt (by simp)
    have nvs : z.v ≠ s:=ro_ne h.rv h.rs (by simp)
    have nvt : z.v ≠ z.t:=ro_ne h.rv h.rt (by simp)
    have nts : z.t ≠ s:=ro_ne h.rt h.rs (by simp)
    (conv=>whnf);refine ACalls.use (hap) ?_
    conv=>whnf
    refine .rev z.b z.B (hkt _ h.rb (by simp) h.hb) fun kvs1 bs1 ck1 hp1 hl1 hn1 hck1=>?_
    have pc1:=h.pB.permL hp1
    have hq1 : (mput 2 (.str env) (.mp H.length) kvs1).Perm (mput 2 (.str env) (.mp H.length) z.B):=by rw [hl0];exact mput_perm hp1 (pc1.lits h.sB) (pc1.cells env)
    (conv=>whnf);refine recO (at_ne (hkt _ h.rs (by simp) h.hs) nbs) ?_
    (conv=>whnf);refine recO (at_ne (hkt _ h.rs (by simp) h.hs) nbs) ?_
    (conv=>whnf)
    refine setO_at rfl ?_
    have hzb : ∀ o o',(((H ++ [AObj.map out',mt,bO pay]).set z.b o).set s o')[z.b]? = some o:=fun o o'=>at_ne (set_at (hkt _ h.rb (by simp) h.hb)) (Ne.symm nbs)
    have hcm : ∀ o o' o'',(((H ++ [AObj.map out',mt,bO pay]).set z.b o).set s o').set z.b o'' = ((H ++ [AObj.map out',mt,bO pay]).set s o').set z.b o'':=fun o o' o''=>by rw [List.set_comm _ _ nbs,List.set_set]
    (conv=>whnf);refine recO (hzb _ _) ?_
    (conv=>whnf);refine recT (pc1.ok env) ?_
    have hsb : ∀ o o',(((H ++ [AObj.map out',mt,bO pay]).set s o').set z.b o)[z.b]? = some o:=fun o o'=>set_at (at_ne (hkt _ h.rb (by simp) h.hb) (Ne.symm nbs))
    have vw0 : ∀ o,Vw (((H ++ [AObj.map out',mt,bO pay]).set s (.arr 4 [[.mp z.b,.mp z.t,.mp z.v,.list false 1 (bC (σ.log ++ jEnt pay))]])).set z.b o) s z (.list false 1 (bC (σ.log ++ jEnt pay))) z.T z.V:=fun o =>
     ⟨at_ne (set_at (hkt _ h.rs (by simp) h.hs)) nbs,at_ne (at_ne (hkt _ h.rt (by simp) h.ht) (Ne.symm nts)) nbt,at_ne (at_ne (hkt _ h.rv (by simp) h.hv) (Ne.symm nvs)) nbv,nvs,nvt,nts⟩
    have w : IntKind.i64.wrap (σ.vers env + 1) = σ.vers env + 1:=wrapI _ (by have:=hf.vs env;omega) (by have:=hf.vs env;omega)
    have fin : ∀ n : Int,n = σ.vers env → AObj.map (mput 2 (.str env) (.int .i64 (IntKind.i64.wrap (n + 1))) z.V) = .map (mput 2 (.str env) (.int .i64 (σ.vers env + 1)) z.V):=fun n hn=>by rw [hn,w]
    have hsn : ∀ (kvs : List (AVal × AVal)) (kv y : AVal × AVal),(kvs ++ [kv]).set kvs.length y = kvs ++ [y]:=fun kvs kv y=>by rw [List.set_append_right _ _ (Nat.le_refl _)];simp
    have hfl2 : jFull σ.log (payI env (l.map (·.2))) = false:=by rw [← hpay];exact hfl
    rw [hpay] at hcm hsb hzb vw0 ⊢
    cases ev1 : mfind 2 (.str env) kvs1 with
    | none =>
     obtain ⟨i1,i2⟩:=midxN ev1
     (conv=>whnf);refine recN i1 ?_
     (conv=>whnf)
     refine setO_at (hcm _ _ _) ?_
     (conv=>whnf);refine recO (hsb _ _) ?_
     refine ⟨kvs1.length,(.str env,.nilm),ck1,by rw [← hl1];simp,rfl,by simp,?_⟩
     refine setO_at ((List.set_set ..).trans (congrArg (fun x=>List.set _ z.b (AObj.bmap x _ _)) ((hsn ..).trans (i2 _).symm))) ?_
     (conv=>whnf);refine recO ((vw0 _).hs) ?_
     (conv=>whnf);refine recO ((vw0 _).hv) ?_
     (conv=>whnf);refine recT (h.pV.ok env) ?_
     rcases h.pV.find h.sV env with ⟨w1,w2⟩ | ⟨y,n,w1,w2,rfl⟩
     ·(conv=>whnf);refine recN w1 ?_
      (conv=>whnf);refine recO ((vw0 _).hv) ?_
      (conv=>whnf);refine recT (h.pV.ok env) ?_
      (conv=>whnf)
      refine setO_at (congrArg _ (fin 0 (by have:=h.eV env;rw [w2] at this;exact this.symm))) ?_
      (conv=>whnf);refine ACalls.mono (discard_raw ⟨F.z1p.id,F.z1p.has⟩ ((vw0 _).setV _) env (h.pT.ok env)) ?_
      rintro r H1 ⟨rfl,rfl⟩
      conv=>whnf
      exact ⟨H,hkf,.inr (.inr ⟨hbig2,hfl2,rfl,out',mt,_,_,_,_,hperm,hq1,rfl⟩)⟩
     ·(conv=>whnf);refine recO (w1) ?_
      (conv=>whnf);refine recO ((vw0 _).hv) ?_
      (conv=>whnf);refine recT (h.pV.ok env) ?_
      (conv=>whnf)
      refine setO_at (congrArg _ (fin n (by have:=h.eV env;rw [w2] at this;exact this.symm))) ?_
      (conv=>whnf);refine ACalls.mono (discard_raw ⟨F.z1p.id,F.z1p.has⟩ ((vw0 _).setV _) env (h.pT.ok env)) ?_
      rintro r H1 ⟨rfl,rfl⟩
      conv=>whnf
      exact ⟨H,hkf,.inr (.inr ⟨hbig2,hfl2,rfl,out',mt,_,_,_,_,hperm,hq1,rfl⟩)⟩
    | some xv =>
     obtain ⟨i',kv',i1,i2,i3,i4⟩:=midxS ev1
     obtain ⟨q',hq'⟩ : ∃ q',bs1[i']? = some q':=⟨_,List.getElem?_eq_getElem (by rw [hl1];exact (List.getElem?_eq_some_iff.1 i2).1)⟩
     (conv=>whnf);refine recO (i1) ?_
     (conv=>whnf);refine recO (i2) ?_
     (conv=>whnf);refine recO (hq') ?_
     (conv=>whnf);refine recO (hzb _ _) ?_
     refine ⟨_,_,_,hq',rfl,i2,?_⟩
     refine setO_at ((hcm _ _ _).trans (congrArg (fun x=>List.set _ z.b (AObj.bmap x _ _)) (i4 _).symm)) ?_
     (conv=>whnf);refine recO ((vw0 _).hs) ?_
     (conv=>whnf);refine recO ((vw0 _).hv) ?_
     (conv=>whnf);refine recT (h.pV.ok env) ?_
     rcases h.pV.find h.sV env with ⟨w1,w2⟩ | ⟨y,n,w1,w2,rfl⟩
     ·(conv=>whnf);refine recN w1 ?_
      (conv=>whnf);refine recO ((vw0 _).hv) ?_
      (conv=>whnf);refine recT (h.pV.ok env) ?_
      (conv=>whnf)
      refine setO_at (congrArg _ (fin 0 (by have:=h.eV env;rw [w2] at this;exact this.symm))) ?_
      (conv=>whnf);refine ACalls.mono (discard_raw ⟨F.z1p.id,F.z1p.has⟩ ((vw0 _).setV _) env (h.pT.ok env)) ?_
      rintro r H1 ⟨rfl,rfl⟩
      conv=>whnf
      exact ⟨H,hkf,.inr (.inr ⟨hbig2,hfl2,rfl,out',mt,_,_,_,_,hperm,hq1,rfl⟩)⟩
     ·(conv=>whnf);refine recO (w1) ?_
      (conv=>whnf);refine recO ((vw0 _).hv) ?_
      (conv=>whnf);refine recT (h.pV.ok env) ?_
      (conv=>whnf)
      refine setO_at (congrArg _ (fin n (by have:=h.eV env;rw [w2] at this;exact this.symm))) ?_
      (conv=>whnf);refine ACalls.mono (discard_raw ⟨F.z1p.id,F.z1p.has⟩ ((vw0 _).setV _) env (h.pT.ok env)) ?_
      rintro r H1 ⟨rfl,rfl⟩
      conv=>whnf
      exact ⟨H,hkf,.inr (.inr ⟨hbig2,hfl2,rfl,out',mt,_,_,_,_,hperm,hq1,rfl⟩)⟩
 ·have hidb:=(List.getElem?_eq_some_iff.1 g2).1
  (conv=>whnf);refine recO (g1) ?_
  (conv=>whnf);refine recO (at_old g2) ?_
  conv=>whnf
  intro kvs0 bs ck hp0 hl hnd hck
  refine setO_at rfl ?_
  refine snocK_to ?_
  rw [heap0 hidb]
  have hl0 : (H.set idb (.bmap kvs0 bs ck)).length = H.length:=List.length_set ..
  have hbm : ∀ X,(H.set idb (.bmap kvs0 bs ck) ++ X)[idb]? = some (.bmap kvs0 bs ck):=fun X=>at_old (set_at g2)
  obtain ⟨L,rfl,hlp,hlr⟩:=g3.perm hp0
  have hLn : (L.map (·.1)).Nodup:=PM.keysL hlp (hf.sb env)
  generalize hK : H.set idb (.bmap (L.map fun p=>(AVal.str p.1,p.2.1)) bs ck) = K at hl0 hbm
  have hlen : bs.length = L.length:=by rw [hl,List.length_map]
  conv=>whnf
  refine ⟨fun m ρ H1=>∃ (pre : List (ByteArray × AVal × List Int)) (seen : List Nat),m + pre.length = L.length ∧ Rng L bs seen pre ∧ H1 = K ++ [.map (pre.map fun p=>(AVal.str p.1,p.2.1)),.mit (some idb) ck seen] ∧
   Sv 146 [(0,.ptr s 1 0 0),(1,.str env),(5,.sl id l.length 0 l.length),(6,.mp K.length),(32,.it (K.length + 1))] ρ,L.length,[],?_,?_⟩
  ·refine ⟨[],[],by simp,Rng.start,rfl,Sv.intro rfl ⟨rfl,rfl,rfl,?_,?_,trivial⟩⟩
   ·show AVal.mp _ = _
    simp [hl0]
   ·show AVal.it _ = _
    simp [hl0]
  rintro m ρ H1 ⟨pre,seen,hm,hr1,rfl,d,rfl⟩
  (conv=>whnf);refine recO (getB) ?_
  (conv=>whnf);refine recO (hbm _) ?_
  (conv=>whnf);refine recT (Nat.beq_refl _) ?_
  refine And.intro (fun i kv b hx hb1 hnb=>?_) (fun hov=>?_)
  ·have hx0:=hx
   rw [List.getElem?_map] at hx
   obtain ⟨p,hp,rfl⟩:=Option.map_eq_some_iff.1 hx
   have hlt:=hr1.lt hp hb1 hnb
   have hr2:=hr1.step hp hb1 hnb
   have hnew : p.1 ∉ pre.map (·.1):=by
    have:=hr2.nodup hLn
    rw [List.map_append,List.nodup_append] at this
    exact fun hmem=>this.2.2 _ hmem _ (by simp) rfl
   (conv=>whnf)
   refine setO_at setB ?_
   (conv=>whnf);refine recO (getB) ?_
   (conv=>whnf);refine recO (hbm _) ?_
   (conv=>whnf);refine recT (Nat.beq_refl _) ?_
   (conv=>whnf)
   refine ⟨i,_,b,by simp,hb1,hx0,?_⟩
   (conv=>whnf);refine recO (getA) ?_
   (conv=>whnf);refine recT (by simp [keyOk,eqCell]) ?_
   (conv=>whnf)
   refine setO_at setA ?_
   (conv=>whnf)
   refine ⟨m - 1,by omega,Gp.keep rfl ?_ fun ρ1 h=>⟨pre ++ [p],seen ++ [b],by simp;omega,hr2,by rw [mput_new hnew],h⟩⟩
   exact ⟨rfl,rfl,rfl,rfl,rfl,trivial⟩
  ·have hpl:=hr1.over hlen hnd hov
   have hout : (pre.map fun p=>(AVal.str p.1,p.2.1)).Perm kvs:=(hpl.map _).trans hp0
   have hkf : KF H ro K:=.inr ⟨idb,kvs,_,bs,ck,g2,hrb,hp0,hK.symm⟩
   generalize (pre.map fun p=>(AVal.str p.1,p.2.1)) = out at hout ⊢
   generalize AObj.mit (some idb) ck seen = mt
   have hl0:=hkf.len
   have hkt : ∀ {i : Nat} {r : Role} {o : AObj} X,ro i = some r → r ≠ .blob → H[i]? = some o → (K ++ X)[i]? = some o:=fun X h1 h2 h3=>at_old (hkf.keep h1 h2 h3)
   have hka : ∀ {i n : Nat} {es : List (List AVal)} X,H[i]? = some (.arr n es) → (K ++ X)[i]? = some (.arr n es):=fun X h3=>at_old (hkf.arr h3)
   have hesz : env.size ≤ 100000:=by have:=nameB_len hn;omega
   (conv=>whnf);refine snocK_to ?_
   (conv=>whnf);refine ACalls.use (rtext_pure F.z24 env hesz _) ?_
   (conv=>whnf);refine recO (at_snoc _ _) ?_
   have ht1 : (txI env).length = env.size + 1:=by simp [txI,bytesI_length]
   have hll : l.length ≤ 90000:=by
    have h1:=hf.pl env hn
    rw [← hc] at h1
    have h2 : l.length ≤ ((l.map (·.2)).flatMap entI).length:=by
     clear h1 hc h4 e1 hne hby h5
     induction l with
     | nil=>exact Nat.le_refl _
     | cons q l ih=>rw [List.map_cons,List.flatMap_cons,List.length_append,List.length_cons,entI,List.length_cons];omega
    unfold payI at h1
    rw [List.length_append] at h1
    omega
   (conv=>whnf);refine And.intro (⟨by simp [roomB,bC_length];omega,by simp [roomB,bC_length];omega,rfl,rfl⟩) ?_
   refine setO_at (set_snocB (l:=[1] ++ txI env) (bC_append [1] (txI env)).symm) ?_
   (conv=>whnf);refine recO (at_old (hka _ h4)) ?_
   (conv=>whnf);refine recT (by simp) ?_
   (conv=>whnf);refine ACalls.use (ref24_number_spec ⟨F.z1k.id,F.z1k.has⟩ l.length 2 (by omega) (by omega) (by omega) _) ?_
   (conv=>whnf);refine recO (at_snoc _ _) ?_
   (conv=>whnf);refine recT (by simp [bC_length]) ?_
   (conv=>whnf);refine And.intro (⟨by simp [roomB,bC_length,beN_length];omega,by simp [roomB,bC_length,beN_length];omega,rfl,by simp [bC_length]⟩) ?_
   refine setO_at (set_snocB (l:=[1] ++ txI env ++ beN 2 l.length) (bC_append ([1] ++ txI env) (beN 2 l.length)).symm) ?_
   conv=>whnf
   refine ⟨fun m ρ H1=>∃ (k : Nat) (out' : List (AVal × AVal)) (pay : List Int),k + m = l.length ∧ pay ++ ((l.drop k).map (·.2)).flatMap entI = payI env (l.map (·.2)) ∧ out'.Perm (outF kvs (l.take k)) ∧ H1 = K ++ [.map out',mt,bO pay] ∧
    Sv 146 [(0,.ptr s 1 0 0),(1,.str env),(5,.sl id l.length 0 l.length),(6,.mp K.length),(9,bsl (K.length + 2) pay),(10,.int .i64 k)] ρ,l.length,[],?_,?_⟩
   ·refine ⟨0,out,[1] ++ txI env ++ beN 2 l.length,by omega,by rw [payI,List.length_map];rfl,hout,by simp,Sv.intro rfl ⟨rfl,rfl,rfl,rfl,?_,rfl,trivial⟩⟩
    show AVal.sl _ _ _ _ = _
    rw [← bC_append,bC_length]
    simp [bsl]
   rintro m ρ H1 ⟨k,out',pay,hk,hpay,hperm,rfl,d2,rfl⟩
   have hpl0:=congrArg List.length hpay
   rw [List.length_append] at hpl0
   have hpl1 : (payI env (l.map (·.2))).length ≤ 90000:=by rw [hc];exact hf.pl env hn
   (conv=>whnf);refine recO (hka _ h4) ?_
   (conv=>whnf);refine recT (by simp) ?_
   (conv=>whnf);refine recA (fun hlt=>?_) (fun hlt=>?_)
   ·simp at hlt
    obtain ⟨⟨xq,nm,⟨rm,data⟩⟩,hq,hqd,hqm⟩:=get_drop hlt
    have hqe : (l.map chE)[0 + (k : Int).toNat]? = some (chE (xq,nm,⟨rm,data⟩)):=by rw [Nat.zero_add,Int.toNat_natCast,List.getElem?_map,hq];rfl
    rw [hqd,List.map_cons,List.flatMap_cons] at hpay
    (conv=>whnf);refine recO (hka _ h4) ?_
    (conv=>whnf);refine recT (by simp) ?_
    (conv=>whnf);refine And.intro (by omega) ?_
    (conv=>whnf);refine recO (hka _ h4) ?_
    (conv=>whnf);refine recT (by simp) ?_
    (conv=>whnf);refine recO (hqe) ?_
    (conv=>whnf);refine ⟨_,rflag_spec F.z20 rm _,?_⟩
    have hl4 : nm.size + 2 ≤ (entI (nm,⟨rm,data⟩)).length:=by rw [entI,List.length_cons];cases rm <;> simp [txI,bytesI_length] <;> omega
    replace hpay : pay ++ (entI (nm,⟨rm,data⟩) ++ ((l.drop (k + 1)).map (·.2)).flatMap entI) = payI env (l.map (·.2)):=hpay
    have hpl2 : pay.length + (entI (nm,⟨rm,data⟩)).length ≤ 90000:=by
     have:=congrArg List.length hpay
     rw [List.length_append,List.length_append] at this
     omega
    have ht2 : (txI nm).length = nm.size + 1:=by simp [txI,bytesI_length]
    (conv=>whnf);refine recO (get3) ?_
    (conv=>whnf);refine recT (by rw [bC_length];exact Nat.beq_refl _) ?_
    (conv=>whnf);refine And.intro (⟨by simp [roomB];omega,by simp [roomB];omega,rfl,(bC_length pay).symm⟩) ?_
    refine setO_at (set3B (l:=pay ++ [bif rm then 1 else 0]) (bC_append pay [bif rm then 1 else 0]).symm) ?_
    (conv=>whnf);refine recO (hka _ h4) ?_
    (conv=>whnf);refine recT (by simp) ?_
    (conv=>whnf);refine And.intro (by omega) ?_
    (conv=>whnf);refine recO (hka _ h4) ?_
    (conv=>whnf);refine recT (by simp) ?_
    (conv=>whnf);refine recO (hqe) ?_
    (conv=>whnf);refine ⟨_,rtext_pure F.z24 nm (by omega) _,?_⟩
    (conv=>whnf);refine recO (get3) ?_
    (conv=>whnf);refine recT (by simp [bC_length]) ?_
    (conv=>whnf);refine And.intro (⟨by simp [roomB,bC_length];omega,by simp [roomB,bC_length];omega,rfl,by simp [bC_length]⟩) ?_
    refine setO_at (set3B (l:=pay ++ [bif rm then 1 else 0] ++ txI nm) (bC_append (pay ++ [bif rm then 1 else 0]) (txI nm)).symm) ?_
    conv=>whnf
    refine And.intro ?_ ?_
    ·(conv=>whnf);refine recO (hka _ h4) ?_
     (conv=>whnf);refine recT (by simp) ?_
     (conv=>whnf);refine recO (hqe) ?_
     conv=>whnf
    conv=>whnf
    refine And.intro ?_ ?_
    ·(conv=>whnf);refine recO (hka _ h4) ?_
     (conv=>whnf);refine recT (by simp) ?_
     (conv=>whnf);refine And.intro (by omega) ?_
     conv=>whnf
    have hwk : IntKind.i64.wrap ((k : Int) + 1) = ((k + 1 : Nat) : Int):=by rw [wrapI _ (by omega) (by omega)];omega
    have htk : l.take (k + 1) = l.take k ++ [(xq,nm,⟨rm,data⟩)]:=take_succ_get hq
    (conv=>whnf);refine recO (hka _ h4) ?_
    (conv=>whnf);refine recT (by simp) ?_
    (conv=>whnf);refine And.intro (by omega) ?_
    (conv=>whnf);refine recO (hka _ h4) ?_
    (conv=>whnf);refine recT (by simp) ?_
    (conv=>whnf);refine recO (hqe) ?_
    have hpm:=outF_pm (l.take k) g3 (hf.sb env) fun q hq _=>(h5 q (List.mem_of_mem_take hq)).1
    have hps:=afterL_srt ((l.take k).map (·.2)) (hf.sb env)
    have hko : keyOk 2 (.str nm) out' = true:=by rw [keyOk_perm hperm];exact hpm.ok nm
    have hpe : ∀ x,bC (pay ++ [x]) ++ bC (txI nm) = bC (pay ++ [x] ++ txI nm):=fun x=>(bC_append _ _).symm
    cases rm with
    | true =>
     (conv=>whnf);refine recO (hka _ h4) ?_
     (conv=>whnf);refine recT (by simp) ?_
     (conv=>whnf);refine And.intro (by omega) ?_
     (conv=>whnf);refine recO (hka _ h4) ?_
     (conv=>whnf);refine recT (by simp) ?_
     (conv=>whnf);refine recO (hqe) ?_
     (conv=>whnf);refine recO (getA) ?_
     (conv=>whnf);refine recT (hko) ?_
     (conv=>whnf)
     refine setO_at setA ?_
     (conv=>whnf)
     rw [hwk]
     refine ⟨m - 1,by omega,Gp.keep rfl ?_ fun ρ1 h=>⟨k + 1,_,pay ++ [1] ++ txI nm,by omega,by rw [← hpay,entI];simp,?_,rfl,h⟩⟩
     ·refine ⟨rfl,rfl,rfl,rfl,?_,rfl,trivial⟩
      show AVal.sl _ _ _ _ = _
      rw [show (bif true then (1 : Int) else 0) = 1 from rfl,hpe,bC_length];rfl
     ·rw [htk,outF_snoc]
      exact outS_perm hperm hpm hps (xq,nm,⟨true,data⟩)
    | false =>
     have hdl : data.length + nm.size + 6 ≤ 90000:=by simp [entI,ht2,beN_length] at hpl2;omega
     rcases (h5 _ hqm).1 with ⟨hx1,hx2⟩ | ⟨did,hx1,hx2,hx3⟩
     ·exact absurd hx1 ((h5 _ hqm).2 rfl)
     ·have hx1 : xq = bsl did data:=hx1
      subst hx1
      have hdd : ∀ X,(K ++ X)[did]? = some (.arr 1 (bC data)):=fun X=>hka X hx3
      (conv=>whnf);refine recO (hka _ h4) ?_
      (conv=>whnf);refine recT (by simp) ?_
      (conv=>whnf);refine And.intro (by omega) ?_
      (conv=>whnf);refine recO (hka _ h4) ?_
      (conv=>whnf);refine recT (by simp) ?_
      (conv=>whnf);refine recO (hqe) ?_
      (conv=>whnf);refine recO (hka _ h4) ?_
      (conv=>whnf);refine recT (by simp) ?_
      (conv=>whnf);refine And.intro (by omega) ?_
      (conv=>whnf);refine recO (hka _ h4) ?_
      (conv=>whnf);refine recT (by simp) ?_
      (conv=>whnf);refine recO (hqe) ?_
      (conv=>whnf);refine recO (getA) ?_
      (conv=>whnf);refine recT (hko) ?_
      (conv=>whnf)
      refine setO_at setA ?_
      (conv=>whnf);refine recO (hka _ h4) ?_
      (conv=>whnf);refine recT (by simp) ?_
      (conv=>whnf);refine And.intro (by omega) ?_
      (conv=>whnf);refine recO (hka _ h4) ?_
      (conv=>whnf);refine recT (by simp) ?_
      (conv=>whnf);refine recO (hqe) ?_
      (conv=>whnf);refine recO (hdd _) ?_
      (conv=>whnf);refine recT (by rw [bC_length];exact Nat.beq_refl _) ?_
      (conv=>whnf);refine ⟨_,ref24_number_spec ⟨F.z1k.id,F.z1k.has⟩ data.length 4 (by omega) (by omega) (by omega) _,?_⟩
      (conv=>whnf);refine recO (get3) ?_
      (conv=>whnf);refine recT (by simp [bC_length] <;> omega) ?_
      (conv=>whnf);refine And.intro (⟨by simp [roomB,bC_length,beN_length];omega,by simp [roomB,bC_length,beN_length];omega,rfl,by simp [bC_length];omega⟩) ?_
      refine setO_at (set3B (l:=pay ++ [0] ++ txI nm ++ beN 4 data.length) (bC_append (pay ++ [0] ++ txI nm) (beN 4 data.length)).symm) ?_
      (conv=>whnf);refine recO (hka _ h4) ?_
      (conv=>whnf);refine recT (by simp) ?_
      (conv=>whnf);refine And.intro (by omega) ?_
      (conv=>whnf);refine recO (hka _ h4) ?_
      (conv=>whnf);refine recT (by simp) ?_
      (conv=>whnf);refine recO (hqe) ?_
      (conv=>whnf);refine recO (hdd _) ?_
      (conv=>whnf);refine recT (by rw [bC_length];exact Nat.beq_refl _) ?_
      (conv=>whnf);refine recO (get3) ?_
      (conv=>whnf);refine recT (by simp [bC_length] <;> omega) ?_
      have hdt : List.take data.length (List.drop 0 (bC data)) = bC data:=by rw [List.drop_zero,← bC_length data,List.take_length]
      (conv=>whnf);refine And.intro (⟨by simp [roomB,bC_length,beN_length];omega,by simp [roomB,bC_length,beN_length];omega,rfl,by simp [bC_length,beN_length];omega⟩) ?_
      refine setO_at (set3B (l:=pay ++ [0] ++ txI nm ++ beN 4 data.length ++ data) (by rw [hdt];exact (bC_append _ _).symm)) ?_
      conv=>whnf
      refine And.intro ?_ ?_
      ·(conv=>whnf);refine recO (hka _ h4) ?_
       (conv=>whnf);refine recT (by simp) ?_
       (conv=>whnf);refine recO (hqe) ?_
       conv=>whnf
      conv=>whnf
      refine And.intro ?_ ?_
      ·(conv=>whnf);refine recO (hka _ h4) ?_
       (conv=>whnf);refine recT (by simp) ?_
       (conv=>whnf);refine And.intro (by omega) ?_
       conv=>whnf
      conv=>whnf
      rw [hwk]
      refine ⟨m - 1,by omega,Gp.keep rfl ?_ fun ρ1 h=>⟨k + 1,_,pay ++ [0] ++ txI nm ++ beN 4 data.length ++ data,by omega,by rw [← hpay,entI];simp,?_,rfl,h⟩⟩
      ·refine ⟨rfl,rfl,rfl,rfl,?_,rfl,trivial⟩
       show AVal.sl _ _ _ _ = _
       rw [hdt,← bC_append,bC_length];rfl
      ·rw [htk,outF_snoc]
       exact outS_perm hperm hpm hps (bsl did data,nm,⟨false,data⟩)
   ·simp at hlt
    have hkl : k = l.length:=by omega
    subst hkl
    rw [List.drop_of_length_le (Nat.le_refl _)] at hpay
    rw [List.take_length] at hperm
    replace hpay : pay = payI env (l.map (·.2)):=by rw [← hpay];simp
    have hpm:=outF_pm l g3 (hf.sb env) fun q hq _=>(h5 q hq).1
    have hol : out'.length = (afterL (σ.blobs env) (l.map (·.2))).length:=by rw [hperm.length_eq,hpm.len]
    (conv=>whnf);refine recO (getA) ?_
    (conv=>whnf);refine recA (fun hbig=>?_) (fun hbig=>?_)
    ·simp at hbig
     conv=>whnf
     exact ⟨K,hkf,.inl ⟨by rw [← hol];omega,rfl,_,rfl⟩⟩
    simp at hbig
    have hby2 : ∀ p ∈ l.map (·.2),Byt p.2.data:=fun p hp=>(List.mem_map.1 hp).elim fun q h=>h.2 ▸ hby q h.1
    have hpb : Byt pay:=by rw [hpay];exact payI_byt _ hby2
    have hap:=rApp_own F.z1i σ.log pay h.lg (by have:=hf.lg;omega) (by rw [hpay];omega) hpb (H:=K ++ [.map out',mt,bO pay]) (id:=K.length + 2) get3
    (conv=>whnf);refine recO (hkt _ h.rs (by simp) h.hs) ?_
    unfold jApp at hap
    have hbig2 : (afterL (σ.blobs env) (l.map (·.2))).length ≤ 256:=by rw [← hol];omega
    cases hfl : jFull σ.log pay with
    | true =>
     rw [hfl,if_pos rfl] at hap
     (conv=>whnf);refine ACalls.use (hap) ?_
     conv=>whnf
     exact ⟨K,hkf,.inr (.inl ⟨hbig2,by rw [← hpay];exact hfl,rfl,_,rfl⟩)⟩
    | false =>
     rw [hfl,if_neg (by decide)] at hap
     have nbs : z.b ≠ s:=ro_ne h.rb h.rs (by simp)
     have nbv : z.b ≠ z.v:=ro_ne h.rb h.rv (by simp)
     have nbt : z.b ≠ z.t:=ro_ne h.rb h.rt (by simp)
     have nvs : z.v ≠ s:=ro_ne h.rv h.rs (by simp)
     have nvt : z.v ≠ z.t:=ro_ne h.rv h.rt (by simp)
     have nts : z.t ≠ s:=ro_ne h.rt h.rs (by simp)
     (conv=>whnf);refine ACalls.use (hap) ?_
     conv=>whnf
     refine .rev z.b z.B (hkt _ h.rb (by simp) h.hb) fun kvs1 bs1 ck1 hp1 hl1 hn1 hck1=>?_
     have pc1:=h.pB.permL hp1
     have hq1 : (mput 2 (.str env) (.mp K.length) kvs1).Perm (mput 2 (.str env) (.mp H.length) z.B):=by rw [hl0];exact mput_perm hp1 (pc1.lits h.sB) (pc1.cells env)
     (conv=>whnf);refine recO (at_ne (hkt _ h.rs (by simp) h.hs) nbs) ?_
     (conv=>whnf);refine recO (at_ne (hkt _ h.rs (by simp) h.hs) nbs) ?_
     (conv=>whnf)
     refine setO_at rfl ?_
     have hzb : ∀ o o',(((K ++ [AObj.map out',mt,bO pay]).set z.b o).set s o')[z.b]? = some o:=fun o o'=>at_ne (set_at (hkt _ h.rb (by simp) h.hb)) (Ne.symm nbs)
     have hcm : ∀ o o' o'',(((K ++ [AObj.map out',mt,bO pay]).set z.b o).set s o').set z.b o'' = ((K ++ [AObj.map out',mt,bO pay]).set s o').set z.b o'':=fun o o' o''=>by rw [List.set_comm _ _ nbs,List.set_set]
     (conv=>whnf);refine recO (hzb _ _) ?_
     (conv=>whnf);refine recT (pc1.ok env) ?_
     have hsb : ∀ o o',(((K ++ [AObj.map out',mt,bO pay]).set s o').set z.b o)[z.b]? = some o:=fun o o'=>set_at (at_ne (hkt _ h.rb (by simp) h.hb) (Ne.symm nbs))
     have vw0 : ∀ o,Vw (((K ++ [AObj.map out',mt,bO pay]).set s (.arr 4 [[.mp z.b,.mp z.t,.mp z.v,.list false 1 (bC (σ.log ++ jEnt pay))]])).set z.b o) s z (.list false 1 (bC (σ.log ++ jEnt pay))) z.T z.V:=fun o =>
      ⟨at_ne (set_at (hkt _ h.rs (by simp) h.hs)) nbs,at_ne (at_ne (hkt _ h.rt (by simp) h.ht) (Ne.symm nts)) nbt,at_ne (at_ne (hkt _ h.rv (by simp) h.hv) (Ne.symm nvs)) nbv,nvs,nvt,nts⟩
     have w : IntKind.i64.wrap (σ.vers env + 1) = σ.vers env + 1:=wrapI _ (by have:=hf.vs env;omega) (by have:=hf.vs env;omega)
     have fin : ∀ n : Int,n = σ.vers env → AObj.map (mput 2 (.str env) (.int .i64 (IntKind.i64.wrap (n + 1))) z.V) = .map (mput 2 (.str env) (.int .i64 (σ.vers env + 1)) z.V):=fun n hn=>by rw [hn,w]
     have hsn : ∀ (kvs : List (AVal × AVal)) (kv y : AVal × AVal),(kvs ++ [kv]).set kvs.length y = kvs ++ [y]:=fun kvs kv y=>by rw [List.set_append_right _ _ (Nat.le_refl _)];simp
     have hfl2 : jFull σ.log (payI env (l.map (·.2))) = false:=by rw [← hpay];exact hfl
     rw [hpay] at hcm hsb hzb vw0 ⊢
     cases ev1 : mfind 2 (.str env) kvs1 with
     | none =>
      obtain ⟨i1,i2⟩:=midxN ev1
      (conv=>whnf);refine recN i1 ?_
      (conv=>whnf)
      refine setO_at (hcm _ _ _) ?_
      (conv=>whnf);refine recO (hsb _ _) ?_
      refine ⟨kvs1.length,(.str env,.nilm),ck1,by rw [← hl1];simp,rfl,by simp,?_⟩
      refine setO_at ((List.set_set ..).trans (congrArg (fun x=>List.set _ z.b (AObj.bmap x _ _)) ((hsn ..).trans (i2 _).symm))) ?_
      (conv=>whnf);refine recO ((vw0 _).hs) ?_
      (conv=>whnf);refine recO ((vw0 _).hv) ?_
      (conv=>whnf);refine recT (h.pV.ok env) ?_
      rcases h.pV.find h.sV env with ⟨w1,w2⟩ | ⟨y,n,w1,w2,rfl⟩
      ·(conv=>whnf);refine recN w1 ?_
       (conv=>whnf);refine recO ((vw0 _).hv) ?_
       (conv=>whnf);refine recT (h.pV.ok env) ?_
       (conv=>whnf)
       refine setO_at (congrArg _ (fin 0 (by have:=h.eV env;rw [w2] at this;exact this.symm))) ?_
       (conv=>whnf);refine ACalls.mono (discard_raw ⟨F.z1p.id,F.z1p.has⟩ ((vw0 _).setV _) env (h.pT.ok env)) ?_
       rintro r H1 ⟨rfl,rfl⟩
       conv=>whnf
       exact ⟨K,hkf,.inr (.inr ⟨hbig2,hfl2,rfl,out',mt,_,_,_,_,hperm,hq1,rfl⟩)⟩
      ·(conv=>whnf);refine recO (w1) ?_
       (conv=>whnf);refine recO ((vw0 _).hv) ?_
       (conv=>whnf);refine recT (h.pV.ok env) ?_
       (conv=>whnf)
       refine setO_at (congrArg _ (fin n (by have:=h.eV env;rw [w2] at this;exact this.symm))) ?_
       (conv=>whnf);refine ACalls.mono (discard_raw ⟨F.z1p.id,F.z1p.has⟩ ((vw0 _).setV _) env (h.pT.ok env)) ?_
       rintro r H1 ⟨rfl,rfl⟩
       conv=>whnf
       exact ⟨K,hkf,.inr (.inr ⟨hbig2,hfl2,rfl,out',mt,_,_,_,_,hperm,hq1,rfl⟩)⟩
     | some xv =>
      obtain ⟨i',kv',i1,i2,i3,i4⟩:=midxS ev1
      obtain ⟨q',hq'⟩ : ∃ q',bs1[i']? = some q':=⟨_,List.getElem?_eq_getElem (by rw [hl1];exact (List.getElem?_eq_some_iff.1 i2).1)⟩
      (conv=>whnf);refine recO (i1) ?_
      (conv=>whnf);refine recO (i2) ?_
      (conv=>whnf);refine recO (hq') ?_
      (conv=>whnf);refine recO (hzb _ _) ?_
      refine ⟨_,_,_,hq',rfl,i2,?_⟩
      refine setO_at ((hcm _ _ _).trans (congrArg (fun x=>List.set _ z.b (AObj.bmap x _ _)) (i4 _).symm)) ?_
      (conv=>whnf);refine recO ((vw0 _).hs) ?_
      (conv=>whnf);refine recO ((vw0 _).hv) ?_
      (conv=>whnf);refine recT (h.pV.ok env) ?_
      rcases h.pV.find h.sV env with ⟨w1,w2⟩ | ⟨y,n,w1,w2,rfl⟩
      ·(conv=>whnf);refine recN w1 ?_
       (conv=>whnf);refine recO ((vw0 _).hv) ?_
       (conv=>whnf);refine recT (h.pV.ok env) ?_
       (conv=>whnf)
       refine setO_at (congrArg _ (fin 0 (by have:=h.eV env;rw [w2] at this;exact this.symm))) ?_
       (conv=>whnf);refine ACalls.mono (discard_raw ⟨F.z1p.id,F.z1p.has⟩ ((vw0 _).setV _) env (h.pT.ok env)) ?_
       rintro r H1 ⟨rfl,rfl⟩
       conv=>whnf
       exact ⟨K,hkf,.inr (.inr ⟨hbig2,hfl2,rfl,out',mt,_,_,_,_,hperm,hq1,rfl⟩)⟩
      ·(conv=>whnf);refine recO (w1) ?_
       (conv=>whnf);refine recO ((vw0 _).hv) ?_
       (conv=>whnf);refine recT (h.pV.ok env) ?_
       (conv=>whnf)
       refine setO_at (congrArg _ (fin n (by have:=h.eV env;rw [w2] at this;exact this.symm))) ?_
       (conv=>whnf);refine ACalls.mono (discard_raw ⟨F.z1p.id,F.z1p.has⟩ ((vw0 _).setV _) env (h.pT.ok env)) ?_
       rintro r H1 ⟨rfl,rfl⟩
       conv=>whnf
       exact ⟨K,hkf,.inr (.inr ⟨hbig2,hfl2,rfl,out',mt,_,_,_,_,hperm,hq1,rfl⟩)⟩
end
theorem KF.forg {H K : List AObj} {ro : Nat → Option Role} (h : KF H ro K) (X : List AObj) : ForgH (K ++ X) (H ++ X):=by
 rcases h with rfl | ⟨idb,kvs,kvs0,bs,ck,g1,g2,hp,rfl⟩
 ·exact ForgH.refl _
 ·have hl:=(List.getElem?_eq_some_iff.1 g1).1
  have:=ForgH.one (H:=H.set idb (.bmap kvs0 bs ck) ++ X) (id:=idb) (at_old (set_at g1)) (Forg.mp kvs0 kvs bs ck hp)
  rw [List.set_append_left _ _ (by rw [List.length_set];exact hl),List.set_set,set_id g1] at this
  exact this
theorem ForgH.appe {A B X Y : List AObj} (h : ForgH A B) (k : ForgH X Y) : ForgH (A ++ X) (B ++ Y):=by
 refine ⟨by simp [h.1,k.1],fun i o o2 h1 h2=>?_⟩
 by_cases hi : i < A.length
 ·rw [List.getElem?_append_left hi] at h1
  rw [List.getElem?_append_left (by rw [h.1];exact hi)] at h2
  exact h.2 i o o2 h1 h2
 ·rw [List.getElem?_append_right (by omega)] at h1
  rw [List.getElem?_append_right (by rw [h.1];omega),h.1] at h2
  exact k.2 _ o o2 h1 h2
theorem ForgH.set2 {A B : List AObj} (h : ForgH A B) (i : Nat) {o1 o2 : AObj} (hf : Forg o1 o2) : ForgH (A.set i o1) (B.set i o2):=by
 refine ⟨by simp [h.1],fun j a b h1 h2=>?_⟩
 by_cases e : i = j
 ·subst e
  have hl : i < A.length:=by have:=(List.getElem?_eq_some_iff.1 h1).1;simpa using this
  rw [List.getElem?_set_self hl] at h1
  rw [List.getElem?_set_self (by rw [h.1];exact hl)] at h2
  cases h1;cases h2;exact hf
 ·rw [get_ne' e] at h1 h2
  exact h.2 j a b h1 h2
section
variable {H : List AObj} {s : Nat} {σ : Sto} {ro : Nat → Option Role} {z : SP} {lv : AVal}
theorem RepR.belB (h : RepR H s σ ro z lv) : (AObj.map z.B).Bel H.length:=fun kv hkv=>by
 obtain ⟨i,hi⟩:=List.getElem?_of_mem hkv
 obtain ⟨k,x,a,rfl,_,hR⟩:=h.pB.get hi
 rcases hR with ⟨rfl,_⟩ | ⟨id,kvs,rfl,h1,_⟩
 ·exact .closed _ rfl
 ·exact .mp _ (h.lt _ (by rw [h1];simp))
theorem RepR.belT (h : RepR H s σ ro z lv) : (AObj.map z.T).Bel H.length:=fun kv hkv=>by
 obtain ⟨i,hi⟩:=List.getElem?_of_mem hkv
 obtain ⟨k,x,a,rfl,_,id,l,rfl,h1,_⟩:=h.pT.get hi
 exact .sl _ _ _ _ (h.lt _ (by rw [h1];simp))
theorem RepR.belV (h : RepR H s σ ro z lv) : (AObj.map z.V).Bel H.length:=fun kv hkv=>by
 obtain ⟨i,hi⟩:=List.getElem?_of_mem hkv
 obtain ⟨k,x,a,rfl,_,rfl⟩:=h.pV.get hi
 exact .closed _ rfl
theorem RepR.belS (h : RepR H s σ ro z lv) : (AObj.arr 4 [[.mp z.b,.mp z.t,.mp z.v,lv]]).Bel H.length:=fun e he d hd=>by
 simp at he;subst he
 simp at hd
 rcases hd with rfl | rfl | rfl | rfl
 ·exact .mp _ (h.lt _ h.nb)
 ·exact .mp _ (h.lt _ h.nt)
 ·exact .mp _ (h.lt _ h.nv)
 ·rcases h.lg with ⟨rfl,_⟩ | rfl <;> exact .closed _ rfl
theorem PM.bel {kvs : List (AVal × AVal)} {d : List (ByteArray × List Int)} (h : PM (RDr H ro) kvs d) (hlt : ∀ i,ro i ≠ none → i < H.length) {n : Nat} (hn : H.length ≤ n) : (AObj.map kvs).Bel n:=fun kv hkv=>by
 obtain ⟨i,hi⟩:=List.getElem?_of_mem hkv
 obtain ⟨k,x,a,rfl,_,hR⟩:=h.get hi
 rcases hR with ⟨rfl,_⟩ | ⟨id,rfl,h1,_⟩
 ·exact .closed _ rfl
 ·exact .sl _ _ _ _ (Nat.lt_of_lt_of_le (hlt _ (by rw [h1];simp)) hn)
def rcomH (H : List AObj) (s : Nat) (z : SP) (env : ByteArray) (out : List (AVal × AVal)) (lg : List Int) (n : Int) : List AObj :=
 ((((H ++ [AObj.map out]).set s (.arr 4 [[.mp z.b,.mp z.t,.mp z.v,.list false 1 (bC lg)]])).set z.b (.map (mput 2 (.str env) (.mp H.length) z.B))).set z.v (.map (mput 2 (.str env) (.int .i64 n) z.V))).set z.t (.map (mdel 2 (.str env) z.T))
theorem RepR.rcom (h : RepR H s σ ro z lv) (env : ByteArray) {out : List (AVal × AVal)} {d : List (ByteArray × List Int)} (hp : PM (RDr H ro) out d) (lg : List Int) (n : Int) :
  ∃ z',RepR (rcomH H s z env out lg n) s (mvS (vvS (vbS (lgS σ lg) env d) env n) env) (updR ro H.length .blob) z' (.list false 1 (bC lg)) ∧ z'.b = z.b ∧ z'.t = z.t ∧ z'.v = z.v ∧ z'.B = mput 2 (.str env) (.mp H.length) z.B ∧ z'.T = mdel 2 (.str env) z.T ∧ z'.V = mput 2 (.str env) (.int .i64 n) z.V:=by
 have hro : ro H.length = none:=h.fresh (Nat.le_refl _)
 have h1:=((h.app (X:=[.map out])).adopt hro (by simp) .blob).lgs lg
 have hm : ∀ i,ro i = some .blob → updR ro H.length .blob i = some .blob ∧ ((H ++ [AObj.map out]).set s (.arr 4 [[.mp z.b,.mp z.t,.mp z.v,.list false 1 (bC lg)]]))[i]? = H[i]?:=fun i hi=>by
  have hil:=h.lt i (by rw [hi];simp)
  refine ⟨?_,?_⟩
  ·rw [updR_other _ _ (by omega)];exact hi
  ·rw [get_ne' (ro_ne h.rs hi (by simp)),get_app hil]
 have hx : RBr ((H ++ [AObj.map out]).set s (.arr 4 [[.mp z.b,.mp z.t,.mp z.v,.list false 1 (bC lg)]])) (updR ro H.length .blob) env (.mp H.length) d :=
  .inr ⟨H.length,out,rfl,updR_same _ _ _,by rw [get_ne' (fun e=>by have:=h.lt _ h.ns;omega)];simp,hp.mono fun k x a _ hR=>hR.mono hm⟩
 exact ⟨((z.blb env (.mp H.length) d).ver env n).del env,((h1.blb hx).ver env n).del env,rfl,rfl,rfl,rfl,rfl,rfl⟩
theorem rcommit_fin {P : Program} {f : FuncId} {args : List AVal} (h : RepR H s σ ro z lv) (env : ByteArray) {kvs : List (AVal × AVal)} (g3 : PM (RDr H ro) kvs (σ.blobs env)) (hd : KSrt (σ.blobs env)) {l : List (AVal × ByteArray × Chg)} (h5 : EL H ro l) (hc : l.map (·.2) = σ.staged env)
  (hr : ACalls P f args H (RCom H s σ ro z env kvs l)) :
  Det P f args H (fun r H'=>((256 < (afterL (σ.blobs env) (σ.staged env)).length ∨ jFull σ.log (payI env (σ.staged env)) = true) ∧ r = .int .i64 2 ∧ H' = H) ∨
   ((afterL (σ.blobs env) (σ.staged env)).length ≤ 256 ∧ jFull σ.log (payI env (σ.staged env)) = false ∧ r = .int .i64 0 ∧ H' = rcomH H s z env (outF kvs l) (σ.log ++ jEnt (payI env (σ.staged env))) (σ.vers env + 1))):=by
 unfold RCom at hr
 rw [hc] at hr
 by_cases he : 256 < (afterL (σ.blobs env) (σ.staged env)).length ∨ jFull σ.log (payI env (σ.staged env)) = true
 ·refine ⟨.int .i64 2,H,?_,.inl ⟨he,rfl,rfl⟩⟩
  refine ACalls.cutC (.closed _ rfl) (hr.fg ?_)
  rintro r H1 ⟨K,hkf,⟨_,rfl,X,rfl⟩ | ⟨_,_,rfl,X,rfl⟩ | ⟨h1,h2,_⟩⟩
  ·exact ⟨_,hkf.forg X,rfl,X,rfl⟩
  ·exact ⟨_,hkf.forg X,rfl,X,rfl⟩
  ·exfalso
   rcases he with he | he
   ·omega
   ·rw [h2] at he;cases he
 ·have h7 : (afterL (σ.blobs env) (σ.staged env)).length ≤ 256:=by
   rcases Nat.lt_or_ge 256 (afterL (σ.blobs env) (σ.staged env)).length with h | h
   ·exact absurd (.inl h) he
   ·exact h
  have h8 : jFull σ.log (payI env (σ.staged env)) = false:=by
   cases h : jFull σ.log (payI env (σ.staged env))
   ·rfl
   ·exact absurd (.inr h) he
  refine ⟨.int .i64 0,_,?_,.inr ⟨h7,h8,rfl,rfl⟩⟩
  refine ACalls.cut (hr.fg ?_)
  rintro r H1 ⟨K,hkf,⟨h1,_⟩ | ⟨_,h2,_⟩ | ⟨_,_,rfl,out,m,p,kvs1,bs1,ck1,hp1,hp2,rfl⟩⟩
  ·omega
  ·rw [h8] at h2;cases h2
  have hpm:=outF_pm l g3 hd fun q hq _=>(h5 q hq).1
  rw [hc] at hpm
  obtain ⟨z',hR,eb,et,ev,eB,eT,eV⟩:=h.rcom env hpm (σ.log ++ jEnt (payI env (σ.staged env))) (σ.vers env + 1)
  have hKH : ForgH K H:=by have:=hkf.forg [];rwa [List.append_nil,List.append_nil] at this
  have h0 : ForgH (K ++ [AObj.map out,m,bO p]) (H ++ [AObj.map (outF kvs l),m,bO p]):=hKH.appe (ForgH.one (H:=[AObj.map out,m,bO p]) (id:=0) rfl (Forg.pm _ _ hp1))
  have e : ((((H ++ [AObj.map (outF kvs l),m,bO p]).set s (.arr 4 [[.mp z.b,.mp z.t,.mp z.v,.list false 1 (bC (σ.log ++ jEnt (payI env (σ.staged env))))]])).set z.b (.map (mput 2 (.str env) (.mp H.length) z.B))).set z.v (.map (mput 2 (.str env) (.int .i64 (σ.vers env + 1)) z.V))).set z.t (.map (mdel 2 (.str env) z.T)) =
    rcomH H s z env (outF kvs l) (σ.log ++ jEnt (payI env (σ.staged env))) (σ.vers env + 1) ++ [m,bO p]:=by
   have ls:=h.lt _ h.ns
   have lb:=h.lt _ h.nb
   have lt:=h.lt _ h.nt
   have lv:=h.lt _ h.nv
   rw [show H ++ [AObj.map (outF kvs l),m,bO p] = (H ++ [AObj.map (outF kvs l)]) ++ [m,bO p] by simp]
   unfold rcomH
   rw [List.set_append_left _ _ (by simp;omega),List.set_append_left _ _ (by simp;omega),List.set_append_left _ _ (by simp;omega),List.set_append_left _ _ (by simp;omega)]
  refine ⟨_,(((h0.set2 s (.refl _)).set2 z.b (.mp _ _ bs1 ck1 hp2)).set2 z.v (.refl _)).set2 z.t (.refl _),_,_,e,⟨rfl,rfl⟩,by simp [rcomH],.closed _ rfl,fun i o ho=>?_⟩
  have hat : ∀ {j : Nat} {o' : AObj},i = j → (rcomH H s z env (outF kvs l) (σ.log ++ jEnt (payI env (σ.staged env))) (σ.vers env + 1))[j]? = some o' → o = o':=fun hij h'=>by subst hij;rw [ho] at h';exact Option.some.inj h'
  by_cases i1 : i = s
  ·exact .inr (hat i1 hR.hs ▸ hR.belS)
  by_cases i2 : i = z.b
  ·exact .inr (hat (i2.trans eb.symm) hR.hb ▸ hR.belB)
  by_cases i3 : i = z.t
  ·exact .inr (hat (i3.trans et.symm) hR.ht ▸ hR.belT)
  by_cases i4 : i = z.v
  ·exact .inr (hat (i4.trans ev.symm) hR.hv ▸ hR.belV)
  unfold rcomH at ho
  rw [get_ne' (Ne.symm i3),get_ne' (Ne.symm i4),get_ne' (Ne.symm i2),get_ne' (Ne.symm i1)] at ho
  by_cases hi : i < H.length
  ·rw [get_app hi] at ho;exact .inl ho
  ·rw [List.getElem?_append_right (by omega)] at ho
   cases hj : i - H.length with
   | zero =>
    rw [hj] at ho;cases ho
    exact .inr (PM.bel hpm h.lt (by simp [rcomH]))
   | succ j=>rw [hj] at ho;simp at ho
set_option maxRecDepth 20000 in
theorem rCommit_spec {P : Program} (F : F_z1o P) (h : RepR H s σ ro z lv) (env : ByteArray) (hf : σ.Fit) (hby : ∀ e,∀ p ∈ σ.staged e,Byt p.2.data) :
  ActsR P F.id [.ptr s 1 0 0,.str env] H s ro (.int .i64 (commitR env σ).1) (commitR env σ).2:=by
 unfold commitR
 have he:=h.eT env
 cases h1 : nameB env with
 | false =>
  rw [if_pos rfl]
  refine ⟨.int .i64 4,H,?_,rfl,_,_,_,h,Post.refl _ _⟩
  refine acalls_of_body F.has ?_
  (conv=>whnf);refine ACalls.use (ref5_IsName_spec F.z25 env _) ?_
  (conv=>whnf);refine recT (by rw [h1];rfl) ?_
  conv=>whnf
  exact ⟨rfl,rfl⟩
 | true =>
 rw [if_neg (by simp)]
 rcases h.pT.find h.sT env with ⟨e1,e2⟩ | ⟨y,c0,e1,e2,id,l,rfl,h3,h4,rfl,h5⟩
 ·rw [e2] at he
  rw [if_pos (by rw [he];rfl)]
  refine ⟨.int .i64 13,H,?_,rfl,_,_,_,h,Post.refl _ _⟩
  refine acalls_of_body F.has ?_
  (conv=>whnf);refine ACalls.use (ref5_IsName_spec F.z25 env _) ?_
  (conv=>whnf);refine recF (by rw [h1];rfl) ?_
  (conv=>whnf);refine recO (h.hs) ?_
  (conv=>whnf);refine recO (h.ht) ?_
  (conv=>whnf);refine recT (h.pT.ok env) ?_
  (conv=>whnf);refine recN e1 ?_
  conv=>whnf
  exact ⟨rfl,rfl⟩
 rw [e2] at he
 have hc : l.map (·.2) = σ.staged env:=he.symm
 by_cases h6 : (σ.staged env).length = 0
 ·rw [if_pos h6]
  have hl0 : l.length = 0:=by rw [← List.length_map (f:=(·.2)),hc];exact h6
  refine ⟨.int .i64 13,H,?_,rfl,_,_,_,h,Post.refl _ _⟩
  refine acalls_of_body F.has ?_
  (conv=>whnf);refine ACalls.use (ref5_IsName_spec F.z25 env _) ?_
  (conv=>whnf);refine recF (by rw [h1];rfl) ?_
  (conv=>whnf);refine recO (h.hs) ?_
  (conv=>whnf);refine recO (h.ht) ?_
  (conv=>whnf);refine recT (h.pT.ok env) ?_
  (conv=>whnf);refine recO (e1) ?_
  (conv=>whnf);refine recO (h4) ?_
  (conv=>whnf);refine recT (by simp) ?_
  (conv=>whnf);refine recT (by simp [hl0]) ?_
  conv=>whnf
  exact ⟨rfl,rfl⟩
 rw [if_neg h6]
 have hl0 : l.length ≠ 0:=by rw [← List.length_map (f:=(·.2)),hc];exact h6
 have hbq : ∀ q ∈ l,Byt q.2.2.data:=fun q hq=>hby env q.2 (by rw [← hc];exact List.mem_map.2 ⟨q,hq,rfl⟩)
 obtain ⟨kvs,g3,hcase⟩ : ∃ kvs,PM (RDr H ro) kvs (σ.blobs env) ∧ ((mfind 2 (.str env) z.B = none ∧ kvs = []) ∨ (mfind 2 (.str env) z.B = some .nilm ∧ kvs = []) ∨ ∃ idb,mfind 2 (.str env) z.B = some (.mp idb) ∧ H[idb]? = some (.map kvs) ∧ ro idb = some .blob):=by
  rw [h.eB env]
  rcases h.pB.find h.sB env with ⟨f1,f2⟩ | ⟨y,d,f1,f2,⟨rfl,rfl⟩ | ⟨idb,kv,rfl,g1,g2,g3⟩⟩
  ·rw [f2];exact ⟨[],PM.nil,.inl ⟨f1,rfl⟩⟩
  ·rw [f2];exact ⟨[],PM.nil,.inr (.inl ⟨f1,rfl⟩)⟩
  ·rw [f2];exact ⟨kv,g3,.inr (.inr ⟨idb,f1,g2,g1⟩)⟩
 have hraw:=rcommit_raw F h env hf h1 e1 h4 h5 hc hl0 hbq kvs g3 hcase
 obtain ⟨r,H1,ha,hq⟩:=rcommit_fin h env g3 (hf.sb env) h5 hc hraw
 rcases hq with ⟨hx,rfl,rfl⟩ | ⟨h7,h8,rfl,rfl⟩
 ·by_cases h7 : 256 < (afterL (σ.blobs env) (σ.staged env)).length
  ·rw [if_pos h7]
   exact ⟨_,_,ha,rfl,_,_,_,h,Post.refl _ _⟩
  ·rw [if_neg h7,if_pos (hx.resolve_left h7)]
   exact ⟨_,_,ha,rfl,_,_,_,h,Post.refl _ _⟩
 ·rw [if_neg (by omega),if_neg (by rw [h8];decide)]
  have hpm:=outF_pm l g3 (hf.sb env) fun q hq _=>(h5 q hq).1
  rw [hc] at hpm
  obtain ⟨z',hR,_⟩:=h.rcom env hpm (σ.log ++ jEnt (payI env (σ.staged env))) (σ.vers env + 1)
  refine ⟨_,_,ha,rfl,_,_,_,hR,?_⟩
  exact (((((Post.app H _ ro).adopt (Nat.le_refl _)).set _ (.inl h.ns)).set _ (.inl h.nb)).set _ (.inl h.nv)).set _ (.inl h.nt)
end
end Go.AW
