/-
  An abstract machine over the model, the code of functions on it, and their contracts: what the claim needs.
  No condition: definitions, plain laws, contracts over any program that has this code.
-/
import Derived.Test.YtbjodpkinpnebaaGreatZ6
set_option linter.all false
namespace Go.AW
variable [Draws]
attribute [local irreducible] ACalls
def rswpH (H : List AObj) (z : SP) (σ : Sto) (a b : ByteArray) (o : AObj) : List AObj :=
 ((((H.set z.b o).set z.v (.map (mput 2 (.str a) (.int .i64 (σ.vers a + 1)) z.V))).set z.v (.map (mput 2 (.str b) (.int .i64 (σ.vers b + 1)) (mput 2 (.str a) (.int .i64 (σ.vers a + 1)) z.V)))).set z.t (.map (mdel 2 (.str a) z.T))).set z.t (.map (mdel 2 (.str b) (mdel 2 (.str a) z.T)))
section
variable {H0 : List AObj} {s : Nat} {σ : Sto} {ro : Nat → Option Role} {z : SP} {lv : AVal}
theorem RepR.xOfR {H : List AObj} (h : RepR H s σ ro z lv) {a : ByteArray} (k : ByteArray) : RBr H ro a (AW.xOf z k) (σ.blobs k):=by
 unfold AW.xOf
 rw [h.eB k]
 rcases h.pB.find h.sB k with ⟨e1,e2⟩ | ⟨y,d,e1,e2,hR⟩
 ·rw [e1,e2];exact .inl ⟨rfl,rfl⟩
 ·rw [e1,e2];exact hR
set_option maxRecDepth 20000 in
theorem rswap_raw {P : Program} (F : F_z1w P) (h0 : RepR H0 s σ ro z lv) {a b : ByteArray} (hf : σ.Fit) (n1 : nameB a = true) (n2 : nameB b = true) (hne : a ≠ b) (hfl : jFull σ.log (spayI a b) = false) :
  ACalls P F.id [.ptr s 1 0 0,.str a,.str b] H0 (fun r H'=>r = .int .i64 0 ∧ ∃ kvs bs ck,kvs.Perm (mput 2 (.str b) (AW.xOf z a) (mput 2 (.str a) (AW.xOf z b) z.B)) ∧
   H' = rswpH ((H0 ++ [bO (spayI a b)]).set s (.arr 4 [[.mp z.b,.mp z.t,.mp z.v,.list false 1 (bC (σ.log ++ jEnt (spayI a b)))]])) z σ a b (.bmap kvs bs ck)):=by
 have l1:=nameB_len n1
 have l2:=nameB_len n2
 have htx : ∀ t : ByteArray,(txI t).length = t.size + 1:=fun t=>by simp [txI,bytesI_length]
 have h' : ∀ o,RepR (H0 ++ [o]) s σ ro z lv:=fun o=>h0.app
 have hap:=rApp_own F.z1i σ.log (spayI a b) h0.lg (by have:=hf.lg;omega) (by simp [spayI,htx];omega) (spayI_byt a b) (at_snoc H0 (bO (spayI a b)))
 unfold jApp at hap
 rw [hfl,if_neg (by decide)] at hap
 refine acalls_of_body F.has ?_
 (conv=>whnf);refine ACalls.use (ref5_IsName_spec F.z25 a _) ?_
 (conv=>whnf);refine recF (by rw [n1];rfl) ?_
 (conv=>whnf);refine ACalls.use (ref5_IsName_spec F.z25 b _) ?_
 (conv=>whnf);refine recF (by rw [n2];rfl) ?_
 (conv=>whnf);refine recF (kEq_false hne) ?_
 (conv=>whnf);refine recO (h0.hs) ?_
 (conv=>whnf);refine snocK_to ?_
 (conv=>whnf);refine ⟨_,rtext_pure F.z24 a (by omega) _,?_⟩
 (conv=>whnf);refine recO (at_snoc _ _) ?_
 have ha1:=htx a
 have hb1:=htx b
 (conv=>whnf);refine And.intro (⟨by simp [roomB,bC_length];omega,by simp [roomB,bC_length];omega,rfl,rfl⟩) ?_
 refine setO_at (set_snocB (l:=[2] ++ txI a) (bC_append [2] (txI a)).symm) ?_
 (conv=>whnf);refine ⟨_,rtext_pure F.z24 b (by omega) _,?_⟩
 (conv=>whnf);refine recO (at_snoc _ _) ?_
 (conv=>whnf);refine recT (by simp [bC_length]) ?_
 (conv=>whnf);refine And.intro (⟨by simp [roomB,bC_length];omega,by simp [roomB,bC_length];omega,rfl,by simp [bC_length]⟩) ?_
 refine setO_at (set_snocB (l:=spayI a b) (bC_append ([2] ++ txI a) (txI b)).symm) ?_
 conv=>whnf
 have e6 : AVal.sl (0 + H0.length) (bC ([2] ++ txI a) ++ bC (txI b)).length 0 (bC ([2] ++ txI a) ++ bC (txI b)).length = bsl (0 + H0.length) (spayI a b):=by
  rw [← bC_append,bC_length];rfl
 rw [e6]
 (conv=>whnf);refine ⟨_,hap,?_⟩
 conv=>whnf
 refine And.intro ?_ ?_
 ·(conv=>whnf);refine ⟨_,rtext_pure F.z24 a (by omega) _,?_⟩
  conv=>whnf
 conv=>whnf
 refine And.intro ?_ ?_
 ·(conv=>whnf);refine recO ((h' _).hs) ?_
  conv=>whnf
 conv=>whnf
 refine And.intro ?_ ?_
 ·(conv=>whnf);refine recO ((h' _).hs) ?_
  conv=>whnf
 conv=>whnf
 refine And.intro ?_ ?_
 ·(conv=>whnf);refine recO ((h' _).hs) ?_
  conv=>whnf
 (conv=>whnf);refine recO ((h' _).hs) ?_
 (conv=>whnf)
 refine setO_at rfl ?_
 conv=>whnf
 generalize hH : (H0 ++ [bO (spayI a b)]).set s _ = H
 have h : RepR H s (lgS σ (σ.log ++ jEnt (spayI a b))) ro z (.list false 1 (bC (σ.log ++ jEnt (spayI a b)))):=by rw [← hH];exact (h' (bO (spayI a b))).lgs (σ.log ++ jEnt (spayI a b))
 refine .rev z.b z.B h.hb fun kvs0 bs ck hp0 hl hn hck=>?_
 have pc0:=h.pB.permL hp0
 have hln:=pc0.lits h.sB
 have hxa : AW.xOf z a = (mfind 2 (.str a) kvs0).getD .nilm:=by unfold AW.xOf;rw [mfind_perm hp0 hln]
 have hxb : AW.xOf z b = (mfind 2 (.str b) kvs0).getD .nilm:=by unfold AW.xOf;rw [mfind_perm hp0 hln]
 have hp1 : (mput 2 (.str b) (AW.xOf z a) (mput 2 (.str a) (AW.xOf z b) kvs0)).Perm (mput 2 (.str b) (AW.xOf z a) (mput 2 (.str a) (AW.xOf z b) z.B)) :=
  mput_perm (mput_perm hp0 hln (pc0.cells a)) ((pc0.put h.sB (h.xOfR (a:=a) b)).lits (h.sB.ins a (σ.blobs b))) ((pc0.put h.sB (h.xOfR (a:=a) b)).cells b)
 have hp2 : ∀ xa xb,AW.xOf z a = xa → AW.xOf z b = xb → (mput 2 (.str b) xa (mput 2 (.str a) xb kvs0)).Perm (mput 2 (.str b) (AW.xOf z a) (mput 2 (.str a) (AW.xOf z b) z.B)):=by rintro _ _ rfl rfl;exact hp1
 have fb : ∀ x,mfind 2 (.str b) (mput 2 (.str a) x kvs0) = mfind 2 (.str b) kvs0:=fun x=>pc0.find_put (Ne.symm hne) x
 have hKs : ∀ o,(H.set z.b o)[s]? = some (.arr 4 [[.mp z.b,.mp z.t,.mp z.v,(AVal.list false 1 (bC (σ.log ++ jEnt (spayI a b))))]]):=fun o=>at_ne h.hs (ro_ne h.rb h.rs (by simp))
 have hKb : ∀ o,(H.set z.b o)[z.b]? = some o:=fun o=>set_at h.hb
 have hsn : ∀ (kvs : List (AVal × AVal)) (kv y : AVal × AVal),(kvs ++ [kv]).set kvs.length y = kvs ++ [y]:=fun kvs kv y=>by rw [List.set_append_right _ _ (Nat.le_refl _)];simp
 have hl1 : ∀ x,(bs ++ [ck]).length = (kvs0 ++ [(AVal.str a,x)]).length:=fun x=>by simp [hl]
 have okb' : mfind 2 (.str a) kvs0 = none → ∀ x,keyOk 2 (.str b) (kvs0 ++ [(AVal.str a,x)]) = true:=fun e x=>by rw [← (midxN e).2];exact keyOk_put pc0 a b x
 have fb' : mfind 2 (.str a) kvs0 = none → ∀ x {y},mfind 2 (.str b) kvs0 = y → mfind 2 (.str b) (kvs0 ++ [(AVal.str a,x)]) = y:=fun e x y hy=>by rw [← (midxN e).2,fb];exact hy
 have okb : ∀ x,keyOk 2 (.str b) (mput 2 (.str a) x kvs0) = true:=fun x=>keyOk_put pc0 a b x
 have lenS : ∀ (l : List (AVal × AVal)) (i : Nat) (kv : AVal × AVal) (t : List Nat),t.length = l.length → l[i]? = some kv → ∃ q,t[i]? = some q:=fun l i kv t h1 h2=>⟨_,List.getElem?_eq_getElem (by rw [h1];exact (List.getElem?_eq_some_iff.1 h2).1)⟩
 have vw0 : ∀ o,Vw (H.set z.b o) s z (AVal.list false 1 (bC (σ.log ++ jEnt (spayI a b)))) z.T z.V:=fun o=>⟨hKs o,at_ne h.ht (ro_ne h.rb h.rt (by simp)),at_ne h.hv (ro_ne h.rb h.rv (by simp)),ro_ne h.rv h.rs (by simp),ro_ne h.rv h.rt (by simp),ro_ne h.rt h.rs (by simp)⟩
 cases ea : mfind 2 (.str a) kvs0 with
 | none =>
  rw [ea] at hxa
  obtain ⟨i1,i2⟩:=midxN ea
  cases eb : mfind 2 (.str b) kvs0 with
  | none =>
   rw [eb] at hxb
   obtain ⟨j1,j2⟩:=midxN ((fb .nilm).trans eb)
   have hb1 : ((bs ++ [ck]) ++ [ck + 1])[(mput 2 (.str a) .nilm kvs0).length]? = some (ck + 1):=by rw [i2,← hl1 .nilm];simp
   (conv=>whnf);refine recO (hKs _) ?_
   (conv=>whnf);refine recO (hKs _) ?_
   (conv=>whnf);refine recO (hKs _) ?_
   (conv=>whnf);refine recO (hKb _) ?_
   (conv=>whnf);refine recT (pc0.ok b) ?_
   (conv=>whnf);refine recN eb ?_
   (conv=>whnf);refine recO (hKs _) ?_
   (conv=>whnf);refine recO (hKb _) ?_
   (conv=>whnf);refine recT (pc0.ok a) ?_
   (conv=>whnf);refine recN ea ?_
   (conv=>whnf);refine recO (hKb _) ?_
   (conv=>whnf);refine recT ((pc0.ok a)) ?_
   (conv=>whnf);refine recN i1 ?_
   (conv=>whnf)
   refine setO_at (List.set_set ..) ?_
   (conv=>whnf);refine recO (hKb _) ?_
   refine ⟨List.length kvs0,(.str a,.nilm),ck,(by rw [← hl];simp),rfl,by simp,?_⟩
   refine setO_at ((List.set_set ..).trans (congrArg (fun l=>H.set z.b (AObj.bmap l _ _)) ((hsn ..).trans (i2 _).symm))) ?_
   (conv=>whnf);refine recO (hKb _) ?_
   (conv=>whnf);refine recT ((okb _)) ?_
   (conv=>whnf);refine recN j1 ?_
   (conv=>whnf)
   refine setO_at (List.set_set ..) ?_
   (conv=>whnf);refine recO (hKb _) ?_
   refine ⟨List.length (mput 2 (.str a) .nilm kvs0),(.str b,.nilm),(ck + 1),hb1,rfl,by simp,?_⟩
   refine setO_at ((List.set_set ..).trans (congrArg (fun l=>H.set z.b (AObj.bmap l _ _)) ((hsn ..).trans (j2 _).symm))) ?_
   conv=>whnf
   refine And.intro ?_ ?_
   ·(conv=>whnf);refine recO (hKb _) ?_
    (conv=>whnf);refine recT (okb' ea _) ?_
    (conv=>whnf);refine recN (fb' ea _ eb) ?_
    conv=>whnf
   conv=>whnf
   refine And.intro ?_ ?_
   ·(conv=>whnf);refine recO (hKs _) ?_
    conv=>whnf
   conv=>whnf
   generalize hX : H.set z.b (AObj.bmap _ _ _) = X
   have vw : Vw X s z (AVal.list false 1 (bC (σ.log ++ jEnt (spayI a b)))) z.T z.V:=by rw [← hX];exact vw0 _
   have pV1:=h.pV.put (x:=.int .i64 (σ.vers a + 1)) (k:=a) h.sV (a:=σ.vers a + 1) rfl
   have sV1:=h.sV.ins a (σ.vers a + 1)
   have eV1 : σ.vers b = (kLk b (kIns a (σ.vers a + 1) z.cV)).getD 0:=by rw [kIns_lk h.sV,kEq_false (Ne.symm hne),if_neg Bool.false_ne_true];exact h.eV b
   have pT1:=h.pT.del h.sT a
   have fin : ∀ (k : ByteArray) (n : Int) (hn : n = σ.vers k) (V : List (AVal × AVal)),AObj.map (mput 2 (.str k) (.int .i64 (IntKind.i64.wrap (n + 1))) V) = .map (mput 2 (.str k) (.int .i64 (σ.vers k + 1)) V):=fun k n hn V=>by rw [hn,wrapI _ (by have:=hf.vs k;omega) (by have:=hf.vs k;omega)]
   have finb:=fin b
   (conv=>whnf);refine recO (vw.hs) ?_
   (conv=>whnf);refine recO (vw.hv) ?_
   (conv=>whnf);refine recT (h.pV.ok a) ?_
   rcases h.pV.find h.sV a with ⟨u1,u2⟩ | ⟨y1,n1',u1,u2,rfl⟩
   ·(conv=>whnf);refine recN u1 ?_
    (conv=>whnf);refine recO (vw.hv) ?_
    (conv=>whnf);refine recT (h.pV.ok a) ?_
    (conv=>whnf)
    refine setO_at (congrArg _ (fin a 0 (by have:=h.eV a;rw [u2] at this;exact this.symm) _)) ?_
    (conv=>whnf);refine recO ((vw.setV _).hs) ?_
    (conv=>whnf);refine recO ((vw.setV _).hv) ?_
    (conv=>whnf);refine recT (PM.ok pV1 b) ?_
    rcases PM.find pV1 sV1 b with ⟨v1,v2⟩ | ⟨y2,n2,v1,v2,rfl⟩
    ·(conv=>whnf);refine recN v1 ?_
     (conv=>whnf);refine recO ((vw.setV _).hv) ?_
     (conv=>whnf);refine recT (PM.ok pV1 b) ?_
     (conv=>whnf)
     refine setO_at (congrArg _ (finb 0 (by have:=eV1;rw [v2] at this;exact this.symm) _)) ?_
     (conv=>whnf);refine ACalls.mono (discard_raw ⟨F.z1p.id,F.z1p.has⟩ ((vw.setV _).setV _) a (h.pT.ok a)) ?_
     rintro r H1 ⟨rfl,rfl⟩
     (conv=>whnf);refine ACalls.mono (discard_raw ⟨F.z1p.id,F.z1p.has⟩ (((vw.setV _).setV _).setT _) b (pT1.ok b)) ?_
     rintro r H1 ⟨rfl,rfl⟩
     conv=>whnf
     exact ⟨rfl,_,_,_,hp2 _ _ hxa hxb,by rw [← hX,← hH];rfl⟩
    ·(conv=>whnf);refine recO (v1) ?_
     (conv=>whnf);refine recO ((vw.setV _).hv) ?_
     (conv=>whnf);refine recT (PM.ok pV1 b) ?_
     (conv=>whnf)
     refine setO_at (congrArg _ (finb n2 (by have:=eV1;rw [v2] at this;exact this.symm) _)) ?_
     (conv=>whnf);refine ACalls.mono (discard_raw ⟨F.z1p.id,F.z1p.has⟩ ((vw.setV _).setV _) a (h.pT.ok a)) ?_
     rintro r H1 ⟨rfl,rfl⟩
     (conv=>whnf);refine ACalls.mono (discard_raw ⟨F.z1p.id,F.z1p.has⟩ (((vw.setV _).setV _).setT _) b (pT1.ok b)) ?_
     rintro r H1 ⟨rfl,rfl⟩
     conv=>whnf
     exact ⟨rfl,_,_,_,hp2 _ _ hxa hxb,by rw [← hX,← hH];rfl⟩
   ·(conv=>whnf);refine recO (u1) ?_
    (conv=>whnf);refine recO (vw.hv) ?_
    (conv=>whnf);refine recT (h.pV.ok a) ?_
    (conv=>whnf)
    refine setO_at (congrArg _ (fin a n1' (by have:=h.eV a;rw [u2] at this;exact this.symm) _)) ?_
    (conv=>whnf);refine recO ((vw.setV _).hs) ?_
    (conv=>whnf);refine recO ((vw.setV _).hv) ?_
    (conv=>whnf);refine recT (PM.ok pV1 b) ?_
    rcases PM.find pV1 sV1 b with ⟨v1,v2⟩ | ⟨y2,n2,v1,v2,rfl⟩
    ·(conv=>whnf);refine recN v1 ?_
     (conv=>whnf);refine recO ((vw.setV _).hv) ?_
     (conv=>whnf);refine recT (PM.ok pV1 b) ?_
     (conv=>whnf)
     refine setO_at (congrArg _ (finb 0 (by have:=eV1;rw [v2] at this;exact this.symm) _)) ?_
     (conv=>whnf);refine ACalls.mono (discard_raw ⟨F.z1p.id,F.z1p.has⟩ ((vw.setV _).setV _) a (h.pT.ok a)) ?_
     rintro r H1 ⟨rfl,rfl⟩
     (conv=>whnf);refine ACalls.mono (discard_raw ⟨F.z1p.id,F.z1p.has⟩ (((vw.setV _).setV _).setT _) b (pT1.ok b)) ?_
     rintro r H1 ⟨rfl,rfl⟩
     conv=>whnf
     exact ⟨rfl,_,_,_,hp2 _ _ hxa hxb,by rw [← hX,← hH];rfl⟩
    ·(conv=>whnf);refine recO (v1) ?_
     (conv=>whnf);refine recO ((vw.setV _).hv) ?_
     (conv=>whnf);refine recT (PM.ok pV1 b) ?_
     (conv=>whnf)
     refine setO_at (congrArg _ (finb n2 (by have:=eV1;rw [v2] at this;exact this.symm) _)) ?_
     (conv=>whnf);refine ACalls.mono (discard_raw ⟨F.z1p.id,F.z1p.has⟩ ((vw.setV _).setV _) a (h.pT.ok a)) ?_
     rintro r H1 ⟨rfl,rfl⟩
     (conv=>whnf);refine ACalls.mono (discard_raw ⟨F.z1p.id,F.z1p.has⟩ (((vw.setV _).setV _).setT _) b (pT1.ok b)) ?_
     rintro r H1 ⟨rfl,rfl⟩
     conv=>whnf
     exact ⟨rfl,_,_,_,hp2 _ _ hxa hxb,by rw [← hX,← hH];rfl⟩
  | some xb =>
   rw [eb] at hxb
   obtain ⟨i,kv,j1,j2,j3,j4⟩:=midxS ((fb xb).trans eb)
   obtain ⟨q,hq⟩:=lenS _ i kv (bs ++ [ck]) (by rw [i2];exact hl1 xb) j2
   (conv=>whnf);refine recO (hKs _) ?_
   (conv=>whnf);refine recO (hKs _) ?_
   (conv=>whnf);refine recO (hKs _) ?_
   (conv=>whnf);refine recO (hKb _) ?_
   (conv=>whnf);refine recT (pc0.ok b) ?_
   (conv=>whnf);refine recO eb ?_
   (conv=>whnf);refine recO (hKs _) ?_
   (conv=>whnf);refine recO (hKb _) ?_
   (conv=>whnf);refine recT (pc0.ok a) ?_
   (conv=>whnf);refine recN ea ?_
   (conv=>whnf);refine recO (hKb _) ?_
   (conv=>whnf);refine recT ((pc0.ok a)) ?_
   (conv=>whnf);refine recN i1 ?_
   (conv=>whnf)
   refine setO_at (List.set_set ..) ?_
   (conv=>whnf);refine recO (hKb _) ?_
   refine ⟨List.length kvs0,(.str a,.nilm),ck,(by rw [← hl];simp),rfl,by simp,?_⟩
   refine setO_at ((List.set_set ..).trans (congrArg (fun l=>H.set z.b (AObj.bmap l _ _)) ((hsn ..).trans (i2 _).symm))) ?_
   (conv=>whnf);refine recO (hKb _) ?_
   (conv=>whnf);refine recT ((okb _)) ?_
   (conv=>whnf);refine recO (j1) ?_
   (conv=>whnf);refine recO (j2) ?_
   (conv=>whnf);refine recO (hq) ?_
   (conv=>whnf);refine recO (hKb _) ?_
   refine ⟨_,_,_,hq,rfl,j2,?_⟩
   refine setO_at ((List.set_set ..).trans (congrArg (fun l=>H.set z.b (AObj.bmap l _ _)) (j4 _).symm)) ?_
   conv=>whnf
   refine And.intro ?_ ?_
   ·(conv=>whnf);refine recO (hKb _) ?_
    (conv=>whnf);refine recT (okb' ea _) ?_
    (conv=>whnf);refine recO (fb' ea _ eb) ?_
    conv=>whnf
   conv=>whnf
   refine And.intro ?_ ?_
   ·(conv=>whnf);refine recO (hKs _) ?_
    conv=>whnf
   conv=>whnf
   generalize hX : H.set z.b (AObj.bmap _ _ _) = X
   have vw : Vw X s z (AVal.list false 1 (bC (σ.log ++ jEnt (spayI a b)))) z.T z.V:=by rw [← hX];exact vw0 _
   have pV1:=h.pV.put (x:=.int .i64 (σ.vers a + 1)) (k:=a) h.sV (a:=σ.vers a + 1) rfl
   have sV1:=h.sV.ins a (σ.vers a + 1)
   have eV1 : σ.vers b = (kLk b (kIns a (σ.vers a + 1) z.cV)).getD 0:=by rw [kIns_lk h.sV,kEq_false (Ne.symm hne),if_neg Bool.false_ne_true];exact h.eV b
   have pT1:=h.pT.del h.sT a
   have fin : ∀ (k : ByteArray) (n : Int) (hn : n = σ.vers k) (V : List (AVal × AVal)),AObj.map (mput 2 (.str k) (.int .i64 (IntKind.i64.wrap (n + 1))) V) = .map (mput 2 (.str k) (.int .i64 (σ.vers k + 1)) V):=fun k n hn V=>by rw [hn,wrapI _ (by have:=hf.vs k;omega) (by have:=hf.vs k;omega)]
   have finb:=fin b
   (conv=>whnf);refine recO (vw.hs) ?_
   (conv=>whnf);refine recO (vw.hv) ?_
   (conv=>whnf);refine recT (h.pV.ok a) ?_
   rcases h.pV.find h.sV a with ⟨u1,u2⟩ | ⟨y1,n1',u1,u2,rfl⟩
   ·(conv=>whnf);refine recN u1 ?_
    (conv=>whnf);refine recO (vw.hv) ?_
    (conv=>whnf);refine recT (h.pV.ok a) ?_
    (conv=>whnf)
    refine setO_at (congrArg _ (fin a 0 (by have:=h.eV a;rw [u2] at this;exact this.symm) _)) ?_
    (conv=>whnf);refine recO ((vw.setV _).hs) ?_
    (conv=>whnf);refine recO ((vw.setV _).hv) ?_
    (conv=>whnf);refine recT (PM.ok pV1 b) ?_
    rcases PM.find pV1 sV1 b with ⟨v1,v2⟩ | ⟨y2,n2,v1,v2,rfl⟩
    ·(conv=>whnf);refine recN v1 ?_
     (conv=>whnf);refine recO ((vw.setV _).hv) ?_
     (conv=>whnf);refine recT (PM.ok pV1 b) ?_
     (conv=>whnf)
     refine setO_at (congrArg _ (finb 0 (by have:=eV1;rw [v2] at this;exact this.symm) _)) ?_
     (conv=>whnf);refine ACalls.mono (discard_raw ⟨F.z1p.id,F.z1p.has⟩ ((vw.setV _).setV _) a (h.pT.ok a)) ?_
     rintro r H1 ⟨rfl,rfl⟩
     (conv=>whnf);refine ACalls.mono (discard_raw ⟨F.z1p.id,F.z1p.has⟩ (((vw.setV _).setV _).setT _) b (pT1.ok b)) ?_
     rintro r H1 ⟨rfl,rfl⟩
     conv=>whnf
     exact ⟨rfl,_,_,_,hp2 _ _ hxa hxb,by rw [← hX,← hH];rfl⟩
    ·(conv=>whnf);refine recO (v1) ?_
     (conv=>whnf);refine recO ((vw.setV _).hv) ?_
     (conv=>whnf);refine recT (PM.ok pV1 b) ?_
     (conv=>whnf)
     refine setO_at (congrArg _ (finb n2 (by have:=eV1;rw [v2] at this;exact this.symm) _)) ?_
     (conv=>whnf);refine ACalls.mono (discard_raw ⟨F.z1p.id,F.z1p.has⟩ ((vw.setV _).setV _) a (h.pT.ok a)) ?_
     rintro r H1 ⟨rfl,rfl⟩
     (conv=>whnf);refine ACalls.mono (discard_raw ⟨F.z1p.id,F.z1p.has⟩ (((vw.setV _).setV _).setT _) b (pT1.ok b)) ?_
     rintro r H1 ⟨rfl,rfl⟩
     conv=>whnf
     exact ⟨rfl,_,_,_,hp2 _ _ hxa hxb,by rw [← hX,← hH];rfl⟩
   ·(conv=>whnf);refine recO (u1) ?_
    (conv=>whnf);refine recO (vw.hv) ?_
    (conv=>whnf);refine recT (h.pV.ok a) ?_
    (conv=>whnf)
    refine setO_at (congrArg _ (fin a n1' (by have:=h.eV a;rw [u2] at this;exact this.symm) _)) ?_
    (conv=>whnf);refine recO ((vw.setV _).hs) ?_
    (conv=>whnf);refine recO ((vw.setV _).hv) ?_
    (conv=>whnf);refine recT (PM.ok pV1 b) ?_
    rcases PM.find pV1 sV1 b with ⟨v1,v2⟩ | ⟨y2,n2,v1,v2,rfl⟩
    ·(conv=>whnf);refine recN v1 ?_
     (conv=>whnf);refine recO ((vw.setV _).hv) ?_
     (conv=>whnf);refine recT (PM.ok pV1 b) ?_
     (conv=>whnf)
     refine setO_at (congrArg _ (finb 0 (by have:=eV1;rw [v2] at this;exact this.symm) _)) ?_
     (conv=>whnf);refine ACalls.mono (discard_raw ⟨F.z1p.id,F.z1p.has⟩ ((vw.setV _).setV _) a (h.pT.ok a)) ?_
     rintro r H1 ⟨rfl,rfl⟩
     (conv=>whnf);refine ACalls.mono (discard_raw ⟨F.z1p.id,F.z1p.has⟩ (((vw.setV _).setV _).setT _) b (pT1.ok b)) ?_
     rintro r H1 ⟨rfl,rfl⟩
     conv=>whnf
     exact ⟨rfl,_,_,_,hp2 _ _ hxa hxb,by rw [← hX,← hH];rfl⟩
    ·(conv=>whnf);refine recO (v1) ?_
     (conv=>whnf);refine recO ((vw.setV _).hv) ?_
     (conv=>whnf);refine recT (PM.ok pV1 b) ?_
     (conv=>whnf)
     refine setO_at (congrArg _ (finb n2 (by have:=eV1;rw [v2] at this;exact this.symm) _)) ?_
     (conv=>whnf);refine ACalls.mono (discard_raw ⟨F.z1p.id,F.z1p.has⟩ ((vw.setV _).setV _) a (h.pT.ok a)) ?_
     rintro r H1 ⟨rfl,rfl⟩
     (conv=>whnf);refine ACalls.mono (discard_raw ⟨F.z1p.id,F.z1p.has⟩ (((vw.setV _).setV _).setT _) b (pT1.ok b)) ?_
     rintro r H1 ⟨rfl,rfl⟩
     conv=>whnf
     exact ⟨rfl,_,_,_,hp2 _ _ hxa hxb,by rw [← hX,← hH];rfl⟩
 | some xa =>
  rw [ea] at hxa
  obtain ⟨i,kv,i1,i2,i3,i4⟩:=midxS ea
  obtain ⟨q,hq⟩:=lenS _ i kv bs hl i2
  have hlm : ∀ y,bs.length = (mput 2 (.str a) y kvs0).length:=fun y=>by rw [i4,List.length_set];exact hl
  cases eb : mfind 2 (.str b) kvs0 with
  | none =>
   rw [eb] at hxb
   obtain ⟨j1,j2⟩:=midxN ((fb .nilm).trans eb)
   have hb1 : (bs ++ [ck])[(mput 2 (.str a) .nilm kvs0).length]? = some ck:=by rw [← hlm .nilm];simp
   (conv=>whnf);refine recO (hKs _) ?_
   (conv=>whnf);refine recO (hKs _) ?_
   (conv=>whnf);refine recO (hKs _) ?_
   (conv=>whnf);refine recO (hKb _) ?_
   (conv=>whnf);refine recT (pc0.ok b) ?_
   (conv=>whnf);refine recN eb ?_
   (conv=>whnf);refine recO (hKs _) ?_
   (conv=>whnf);refine recO (hKb _) ?_
   (conv=>whnf);refine recT (pc0.ok a) ?_
   (conv=>whnf);refine recO ea ?_
   (conv=>whnf);refine recO (hKb _) ?_
   (conv=>whnf);refine recT ((pc0.ok a)) ?_
   (conv=>whnf);refine recO (i1) ?_
   (conv=>whnf);refine recO (i2) ?_
   (conv=>whnf);refine recO (hq) ?_
   (conv=>whnf);refine recO (hKb _) ?_
   refine ⟨_,_,_,hq,rfl,i2,?_⟩
   refine setO_at ((List.set_set ..).trans (congrArg (fun l=>H.set z.b (AObj.bmap l _ _)) (i4 _).symm)) ?_
   (conv=>whnf);refine recO (hKb _) ?_
   (conv=>whnf);refine recT ((okb _)) ?_
   (conv=>whnf);refine recN j1 ?_
   (conv=>whnf)
   refine setO_at (List.set_set ..) ?_
   (conv=>whnf);refine recO (hKb _) ?_
   refine ⟨List.length (mput 2 (.str a) .nilm kvs0),(.str b,.nilm),ck,hb1,rfl,by simp,?_⟩
   refine setO_at ((List.set_set ..).trans (congrArg (fun l=>H.set z.b (AObj.bmap l _ _)) ((hsn ..).trans (j2 _).symm))) ?_
   conv=>whnf
   refine And.intro ?_ ?_
   ·(conv=>whnf);refine recO (hKb _) ?_
    (conv=>whnf);refine recT (pc0.ok b) ?_
    (conv=>whnf);refine recN eb ?_
    conv=>whnf
   conv=>whnf
   refine And.intro ?_ ?_
   ·(conv=>whnf);refine recO (hKs _) ?_
    conv=>whnf
   conv=>whnf
   generalize hX : H.set z.b (AObj.bmap _ _ _) = X
   have vw : Vw X s z (AVal.list false 1 (bC (σ.log ++ jEnt (spayI a b)))) z.T z.V:=by rw [← hX];exact vw0 _
   have pV1:=h.pV.put (x:=.int .i64 (σ.vers a + 1)) (k:=a) h.sV (a:=σ.vers a + 1) rfl
   have sV1:=h.sV.ins a (σ.vers a + 1)
   have eV1 : σ.vers b = (kLk b (kIns a (σ.vers a + 1) z.cV)).getD 0:=by rw [kIns_lk h.sV,kEq_false (Ne.symm hne),if_neg Bool.false_ne_true];exact h.eV b
   have pT1:=h.pT.del h.sT a
   have fin : ∀ (k : ByteArray) (n : Int) (hn : n = σ.vers k) (V : List (AVal × AVal)),AObj.map (mput 2 (.str k) (.int .i64 (IntKind.i64.wrap (n + 1))) V) = .map (mput 2 (.str k) (.int .i64 (σ.vers k + 1)) V):=fun k n hn V=>by rw [hn,wrapI _ (by have:=hf.vs k;omega) (by have:=hf.vs k;omega)]
   have finb:=fin b
   (conv=>whnf);refine recO (vw.hs) ?_
   (conv=>whnf);refine recO (vw.hv) ?_
   (conv=>whnf);refine recT (h.pV.ok a) ?_
   rcases h.pV.find h.sV a with ⟨u1,u2⟩ | ⟨y1,n1',u1,u2,rfl⟩
   ·(conv=>whnf);refine recN u1 ?_
    (conv=>whnf);refine recO (vw.hv) ?_
    (conv=>whnf);refine recT (h.pV.ok a) ?_
    (conv=>whnf)
    refine setO_at (congrArg _ (fin a 0 (by have:=h.eV a;rw [u2] at this;exact this.symm) _)) ?_
    (conv=>whnf);refine recO ((vw.setV _).hs) ?_
    (conv=>whnf);refine recO ((vw.setV _).hv) ?_
    (conv=>whnf);refine recT (PM.ok pV1 b) ?_
    rcases PM.find pV1 sV1 b with ⟨v1,v2⟩ | ⟨y2,n2,v1,v2,rfl⟩
    ·(conv=>whnf);refine recN v1 ?_
     (conv=>whnf);refine recO ((vw.setV _).hv) ?_
     (conv=>whnf);refine recT (PM.ok pV1 b) ?_
     (conv=>whnf)
     refine setO_at (congrArg _ (finb 0 (by have:=eV1;rw [v2] at this;exact this.symm) _)) ?_
     (conv=>whnf);refine ACalls.mono (discard_raw ⟨F.z1p.id,F.z1p.has⟩ ((vw.setV _).setV _) a (h.pT.ok a)) ?_
     rintro r H1 ⟨rfl,rfl⟩
     (conv=>whnf);refine ACalls.mono (discard_raw ⟨F.z1p.id,F.z1p.has⟩ (((vw.setV _).setV _).setT _) b (pT1.ok b)) ?_
     rintro r H1 ⟨rfl,rfl⟩
     conv=>whnf
     exact ⟨rfl,_,_,_,hp2 _ _ hxa hxb,by rw [← hX,← hH];rfl⟩
    ·(conv=>whnf);refine recO (v1) ?_
     (conv=>whnf);refine recO ((vw.setV _).hv) ?_
     (conv=>whnf);refine recT (PM.ok pV1 b) ?_
     (conv=>whnf)
     refine setO_at (congrArg _ (finb n2 (by have:=eV1;rw [v2] at this;exact this.symm) _)) ?_
     (conv=>whnf);refine ACalls.mono (discard_raw ⟨F.z1p.id,F.z1p.has⟩ ((vw.setV _).setV _) a (h.pT.ok a)) ?_
     rintro r H1 ⟨rfl,rfl⟩
     (conv=>whnf);refine ACalls.mono (discard_raw ⟨F.z1p.id,F.z1p.has⟩ (((vw.setV _).setV _).setT _) b (pT1.ok b)) ?_
     rintro r H1 ⟨rfl,rfl⟩
     conv=>whnf
     exact ⟨rfl,_,_,_,hp2 _ _ hxa hxb,by rw [← hX,← hH];rfl⟩
   ·(conv=>whnf);refine recO (u1) ?_
    (conv=>whnf);refine recO (vw.hv) ?_
    (conv=>whnf);refine recT (h.pV.ok a) ?_
    (conv=>whnf)
    refine setO_at (congrArg _ (fin a n1' (by have:=h.eV a;rw [u2] at this;exact this.symm) _)) ?_
    (conv=>whnf);refine recO ((vw.setV _).hs) ?_
    (conv=>whnf);refine recO ((vw.setV _).hv) ?_
    (conv=>whnf);refine recT (PM.ok pV1 b) ?_
    rcases PM.find pV1 sV1 b with ⟨v1,v2⟩ | ⟨y2,n2,v1,v2,rfl⟩
    ·(conv=>whnf);refine recN v1 ?_
     (conv=>whnf);refine recO ((vw.setV _).hv) ?_
     (conv=>whnf);refine recT (PM.ok pV1 b) ?_
     (conv=>whnf)
     refine setO_at (congrArg _ (finb 0 (by have:=eV1;rw [v2] at this;exact this.symm) _)) ?_
     (conv=>whnf);refine ACalls.mono (discard_raw ⟨F.z1p.id,F.z1p.has⟩ ((vw.setV _).setV _) a (h.pT.ok a)) ?_
     rintro r H1 ⟨rfl,rfl⟩
     (conv=>whnf);refine ACalls.mono (discard_raw ⟨F.z1p.id,F.z1p.has⟩ (((vw.setV _).setV _).setT _) b (pT1.ok b)) ?_
     rintro r H1 ⟨rfl,rfl⟩
     conv=>whnf
     exact ⟨rfl,_,_,_,hp2 _ _ hxa hxb,by rw [← hX,← hH];rfl⟩
    ·(conv=>whnf);refine recO (v1) ?_
     (conv=>whnf);refine recO ((vw.setV _).hv) ?_
     (conv=>whnf);refine recT (PM.ok pV1 b) ?_
     (conv=>whnf)
     refine setO_at (congrArg _ (finb n2 (by have:=eV1;rw [v2] at this;exact this.symm) _)) ?_
     (conv=>whnf);refine ACalls.mono (discard_raw ⟨F.z1p.id,F.z1p.has⟩ ((vw.setV _).setV _) a (h.pT.ok a)) ?_
     rintro r H1 ⟨rfl,rfl⟩
     (conv=>whnf);refine ACalls.mono (discard_raw ⟨F.z1p.id,F.z1p.has⟩ (((vw.setV _).setV _).setT _) b (pT1.ok b)) ?_
     rintro r H1 ⟨rfl,rfl⟩
     conv=>whnf
     exact ⟨rfl,_,_,_,hp2 _ _ hxa hxb,by rw [← hX,← hH];rfl⟩
  | some xb =>
   rw [eb] at hxb
   obtain ⟨i',kv',j1,j2,j3,j4⟩:=midxS ((fb xb).trans eb)
   obtain ⟨q',hq'⟩:=lenS _ i' kv' bs (hlm xb) j2
   (conv=>whnf);refine recO (hKs _) ?_
   (conv=>whnf);refine recO (hKs _) ?_
   (conv=>whnf);refine recO (hKs _) ?_
   (conv=>whnf);refine recO (hKb _) ?_
   (conv=>whnf);refine recT (pc0.ok b) ?_
   (conv=>whnf);refine recO eb ?_
   (conv=>whnf);refine recO (hKs _) ?_
   (conv=>whnf);refine recO (hKb _) ?_
   (conv=>whnf);refine recT (pc0.ok a) ?_
   (conv=>whnf);refine recO ea ?_
   (conv=>whnf);refine recO (hKb _) ?_
   (conv=>whnf);refine recT ((pc0.ok a)) ?_
   (conv=>whnf);refine recO (i1) ?_
   (conv=>whnf);refine recO (i2) ?_
   (conv=>whnf);refine recO (hq) ?_
   (conv=>whnf);refine recO (hKb _) ?_
   refine ⟨_,_,_,hq,rfl,i2,?_⟩
   refine setO_at ((List.set_set ..).trans (congrArg (fun l=>H.set z.b (AObj.bmap l _ _)) (i4 _).symm)) ?_
   (conv=>whnf);refine recO (hKb _) ?_
   (conv=>whnf);refine recT ((okb _)) ?_
   (conv=>whnf);refine recO (j1) ?_
   (conv=>whnf);refine recO (j2) ?_
   (conv=>whnf);refine recO (hq') ?_
   (conv=>whnf);refine recO (hKb _) ?_
   refine ⟨_,_,_,hq',rfl,j2,?_⟩
   refine setO_at ((List.set_set ..).trans (congrArg (fun l=>H.set z.b (AObj.bmap l _ _)) (j4 _).symm)) ?_
   conv=>whnf
   refine And.intro ?_ ?_
   ·(conv=>whnf);refine recO (hKb _) ?_
    (conv=>whnf);refine recT (pc0.ok b) ?_
    (conv=>whnf);refine recO eb ?_
    conv=>whnf
   conv=>whnf
   refine And.intro ?_ ?_
   ·(conv=>whnf);refine recO (hKs _) ?_
    conv=>whnf
   conv=>whnf
   generalize hX : H.set z.b (AObj.bmap _ _ _) = X
   have vw : Vw X s z (AVal.list false 1 (bC (σ.log ++ jEnt (spayI a b)))) z.T z.V:=by rw [← hX];exact vw0 _
   have pV1:=h.pV.put (x:=.int .i64 (σ.vers a + 1)) (k:=a) h.sV (a:=σ.vers a + 1) rfl
   have sV1:=h.sV.ins a (σ.vers a + 1)
   have eV1 : σ.vers b = (kLk b (kIns a (σ.vers a + 1) z.cV)).getD 0:=by rw [kIns_lk h.sV,kEq_false (Ne.symm hne),if_neg Bool.false_ne_true];exact h.eV b
   have pT1:=h.pT.del h.sT a
   have fin : ∀ (k : ByteArray) (n : Int) (hn : n = σ.vers k) (V : List (AVal × AVal)),AObj.map (mput 2 (.str k) (.int .i64 (IntKind.i64.wrap (n + 1))) V) = .map (mput 2 (.str k) (.int .i64 (σ.vers k + 1)) V):=fun k n hn V=>by rw [hn,wrapI _ (by have:=hf.vs k;omega) (by have:=hf.vs k;omega)]
   have finb:=fin b
   (conv=>whnf);refine recO (vw.hs) ?_
   (conv=>whnf);refine recO (vw.hv) ?_
   (conv=>whnf);refine recT (h.pV.ok a) ?_
   rcases h.pV.find h.sV a with ⟨u1,u2⟩ | ⟨y1,n1',u1,u2,rfl⟩
   ·(conv=>whnf);refine recN u1 ?_
    (conv=>whnf);refine recO (vw.hv) ?_
    (conv=>whnf);refine recT (h.pV.ok a) ?_
    (conv=>whnf)
    refine setO_at (congrArg _ (fin a 0 (by have:=h.eV a;rw [u2] at this;exact this.symm) _)) ?_
    (conv=>whnf);refine recO ((vw.setV _).hs) ?_
    (conv=>whnf);refine recO ((vw.setV _).hv) ?_
    (conv=>whnf);refine recT (PM.ok pV1 b) ?_
    rcases PM.find pV1 sV1 b with ⟨v1,v2⟩ | ⟨y2,n2,v1,v2,rfl⟩
    ·(conv=>whnf);refine recN v1 ?_
     (conv=>whnf);refine recO ((vw.setV _).hv) ?_
     (conv=>whnf);refine recT (PM.ok pV1 b) ?_
     (conv=>whnf)
     refine setO_at (congrArg _ (finb 0 (by have:=eV1;rw [v2] at this;exact this.symm) _)) ?_
     (conv=>whnf);refine ACalls.mono (discard_raw ⟨F.z1p.id,F.z1p.has⟩ ((vw.setV _).setV _) a (h.pT.ok a)) ?_
     rintro r H1 ⟨rfl,rfl⟩
     (conv=>whnf);refine ACalls.mono (discard_raw ⟨F.z1p.id,F.z1p.has⟩ (((vw.setV _).setV _).setT _) b (pT1.ok b)) ?_
     rintro r H1 ⟨rfl,rfl⟩
     conv=>whnf
     exact ⟨rfl,_,_,_,hp2 _ _ hxa hxb,by rw [← hX,← hH];rfl⟩
    ·(conv=>whnf);refine recO (v1) ?_
     (conv=>whnf);refine recO ((vw.setV _).hv) ?_
     (conv=>whnf);refine recT (PM.ok pV1 b) ?_
     (conv=>whnf)
     refine setO_at (congrArg _ (finb n2 (by have:=eV1;rw [v2] at this;exact this.symm) _)) ?_
     (conv=>whnf);refine ACalls.mono (discard_raw ⟨F.z1p.id,F.z1p.has⟩ ((vw.setV _).setV _) a (h.pT.ok a)) ?_
     rintro r H1 ⟨rfl,rfl⟩
     (conv=>whnf);refine ACalls.mono (discard_raw ⟨F.z1p.id,F.z1p.has⟩ (((vw.setV _).setV _).setT _) b (pT1.ok b)) ?_
     rintro r H1 ⟨rfl,rfl⟩
     conv=>whnf
     exact ⟨rfl,_,_,_,hp2 _ _ hxa hxb,by rw [← hX,← hH];rfl⟩
   ·(conv=>whnf);refine recO (u1) ?_
    (conv=>whnf);refine recO (vw.hv) ?_
    (conv=>whnf);refine recT (h.pV.ok a) ?_
    (conv=>whnf)
    refine setO_at (congrArg _ (fin a n1' (by have:=h.eV a;rw [u2] at this;exact this.symm) _)) ?_
    (conv=>whnf);refine recO ((vw.setV _).hs) ?_
    (conv=>whnf);refine recO ((vw.setV _).hv) ?_
    (conv=>whnf);refine recT (PM.ok pV1 b) ?_
    rcases PM.find pV1 sV1 b with ⟨v1,v2⟩ | ⟨y2,n2,v1,v2,rfl⟩
    ·(conv=>whnf);refine recN v1 ?_
     (conv=>whnf);refine recO ((vw.setV _).hv) ?_
     (conv=>whnf);refine recT (PM.ok pV1 b) ?_
     (conv=>whnf)
     refine setO_at (congrArg _ (finb 0 (by have:=eV1;rw [v2] at this;exact this.symm) _)) ?_
     (conv=>whnf);refine ACalls.mono (discard_raw ⟨F.z1p.id,F.z1p.has⟩ ((vw.setV _).setV _) a (h.pT.ok a)) ?_
     rintro r H1 ⟨rfl,rfl⟩
     (conv=>whnf);refine ACalls.mono (discard_raw ⟨F.z1p.id,F.z1p.has⟩ (((vw.setV _).setV _).setT _) b (pT1.ok b)) ?_
     rintro r H1 ⟨rfl,rfl⟩
     conv=>whnf
     exact ⟨rfl,_,_,_,hp2 _ _ hxa hxb,by rw [← hX,← hH];rfl⟩
    ·(conv=>whnf);refine recO (v1) ?_
     (conv=>whnf);refine recO ((vw.setV _).hv) ?_
     (conv=>whnf);refine recT (PM.ok pV1 b) ?_
     (conv=>whnf)
     refine setO_at (congrArg _ (finb n2 (by have:=eV1;rw [v2] at this;exact this.symm) _)) ?_
     (conv=>whnf);refine ACalls.mono (discard_raw ⟨F.z1p.id,F.z1p.has⟩ ((vw.setV _).setV _) a (h.pT.ok a)) ?_
     rintro r H1 ⟨rfl,rfl⟩
     (conv=>whnf);refine ACalls.mono (discard_raw ⟨F.z1p.id,F.z1p.has⟩ (((vw.setV _).setV _).setT _) b (pT1.ok b)) ?_
     rintro r H1 ⟨rfl,rfl⟩
     conv=>whnf
     exact ⟨rfl,_,_,_,hp2 _ _ hxa hxb,by rw [← hX,← hH];rfl⟩
theorem RepR.rswp {H : List AObj} (h : RepR H s σ ro z lv) {a b : ByteArray} (hne : a ≠ b) :
  ∃ z',RepR (rswpH H z σ a b (.map (mput 2 (.str b) (AW.xOf z a) (mput 2 (.str a) (AW.xOf z b) z.B)))) s (swpS σ a b) ro z' lv:=by
 have h1:=h.blb (env:=a) (h.xOfR b)
 have hx : RBr (H.set z.b (.map (mput 2 (.str a) (AW.xOf z b) z.B))) ro b (AW.xOf z a) (σ.blobs a):=(h.xOfR a).mono fun i hi=>⟨hi,get_ne' (ro_ne h.rb hi (by simp))⟩
 have h2:=h1.blb hx
 rw [show (H.set z.b (.map (mput 2 (.str a) (AW.xOf z b) z.B))).set (z.blb a (AW.xOf z b) (σ.blobs b)).b (.map (mput 2 (.str b) (AW.xOf z a) (z.blb a (AW.xOf z b) (σ.blobs b)).B)) = H.set z.b (.map (mput 2 (.str b) (AW.xOf z a) (mput 2 (.str a) (AW.xOf z b) z.B))) from List.set_set ..] at h2
 exact ⟨_,(((h2.ver a (σ.vers a + 1)).ver b (σ.vers b + 1)).del a).del b⟩
set_option maxRecDepth 20000 in
theorem rSwap_spec {P : Program} (F : F_z1w P) (h0 : RepR H0 s σ ro z lv) (a b : ByteArray) (hf : σ.Fit) :
  ActsR P F.id [.ptr s 1 0 0,.str a,.str b] H0 s ro (.int .i64 (swapR a b σ).1) (swapR a b σ).2:=by
 unfold swapR
 cases n1 : nameB a with
 | false =>
  rw [if_pos (by rfl)]
  refine ⟨.int .i64 4,H0,?_,rfl,_,_,_,h0,Post.refl _ _⟩
  refine acalls_of_body F.has ?_
  (conv=>whnf);refine ACalls.use (ref5_IsName_spec F.z25 a _) ?_
  (conv=>whnf);refine recT (by rw [n1];rfl) ?_
  conv=>whnf
  exact ⟨rfl,rfl⟩
 | true =>
 cases n2 : nameB b with
 | false =>
  rw [if_pos (by rfl)]
  refine ⟨.int .i64 4,H0,?_,rfl,_,_,_,h0,Post.refl _ _⟩
  refine acalls_of_body F.has ?_
  (conv=>whnf);refine ACalls.use (ref5_IsName_spec F.z25 a _) ?_
  (conv=>whnf);refine recF (by rw [n1];rfl) ?_
  (conv=>whnf);refine ACalls.use (ref5_IsName_spec F.z25 b _) ?_
  (conv=>whnf);refine recT (by rw [n2];rfl) ?_
  conv=>whnf
  exact ⟨rfl,rfl⟩
 | true =>
 rw [if_neg (by decide)]
 by_cases h3 : a = b
 ·rw [if_pos h3]
  refine ⟨.int .i64 6,H0,?_,rfl,_,_,_,h0,Post.refl _ _⟩
  refine acalls_of_body F.has ?_
  (conv=>whnf);refine ACalls.use (ref5_IsName_spec F.z25 a _) ?_
  (conv=>whnf);refine recF (by rw [n1];rfl) ?_
  (conv=>whnf);refine ACalls.use (ref5_IsName_spec F.z25 b _) ?_
  (conv=>whnf);refine recF (by rw [n2];rfl) ?_
  (conv=>whnf);refine recT (by subst h3;exact kEq_refl _) ?_
  conv=>whnf
  exact ⟨rfl,rfl⟩
 rw [if_neg h3]
 cases h8 : jFull σ.log (spayI a b) with
 | true =>
  rw [if_pos (by rfl)]
  have l1:=nameB_len n1
  have l2:=nameB_len n2
  have htx : ∀ t : ByteArray,(txI t).length = t.size + 1:=fun t=>by simp [txI,bytesI_length]
  have h' : ∀ o,RepR (H0 ++ [o]) s σ ro z lv:=fun o=>h0.app
  have hap:=rApp_own F.z1i σ.log (spayI a b) h0.lg (by have:=hf.lg;omega) (by simp [spayI,htx];omega) (spayI_byt a b) (at_snoc H0 (bO (spayI a b)))
  unfold jApp at hap
  rw [h8,if_pos (by rfl)] at hap
  refine ⟨.int .i64 2,_,?_,rfl,_,_,_,h' (bO (spayI a b)),Post.app _ _ _⟩
  refine acalls_of_body F.has ?_
  (conv=>whnf);refine ACalls.use (ref5_IsName_spec F.z25 a _) ?_
  (conv=>whnf);refine recF (by rw [n1];rfl) ?_
  (conv=>whnf);refine ACalls.use (ref5_IsName_spec F.z25 b _) ?_
  (conv=>whnf);refine recF (by rw [n2];rfl) ?_
  (conv=>whnf);refine recF (kEq_false h3) ?_
  (conv=>whnf);refine recO (h0.hs) ?_
  (conv=>whnf);refine snocK_to ?_
  (conv=>whnf);refine ⟨_,rtext_pure F.z24 a (by omega) _,?_⟩
  (conv=>whnf);refine recO (at_snoc _ _) ?_
  have ha1:=htx a
  have hb1:=htx b
  (conv=>whnf);refine And.intro (⟨by simp [roomB,bC_length];omega,by simp [roomB,bC_length];omega,rfl,rfl⟩) ?_
  refine setO_at (set_snocB (l:=[2] ++ txI a) (bC_append [2] (txI a)).symm) ?_
  (conv=>whnf);refine ⟨_,rtext_pure F.z24 b (by omega) _,?_⟩
  (conv=>whnf);refine recO (at_snoc _ _) ?_
  (conv=>whnf);refine recT (by simp [bC_length]) ?_
  (conv=>whnf);refine And.intro (⟨by simp [roomB,bC_length];omega,by simp [roomB,bC_length];omega,rfl,by simp [bC_length]⟩) ?_
  refine setO_at (set_snocB (l:=spayI a b) (bC_append ([2] ++ txI a) (txI b)).symm) ?_
  conv=>whnf
  have e6 : AVal.sl (0 + H0.length) (bC ([2] ++ txI a) ++ bC (txI b)).length 0 (bC ([2] ++ txI a) ++ bC (txI b)).length = bsl (0 + H0.length) (spayI a b):=by
   rw [← bC_append,bC_length];rfl
  rw [e6]
  (conv=>whnf);refine ⟨_,hap,?_⟩
  conv=>whnf
  refine And.intro ?_ ?_
  ·(conv=>whnf);refine ⟨_,rtext_pure F.z24 a (by omega) _,?_⟩
   conv=>whnf
  conv=>whnf
  refine And.intro ?_ ?_
  ·(conv=>whnf);refine recO ((h' _).hs) ?_
   conv=>whnf
  conv=>whnf
  refine And.intro ?_ ?_
  ·(conv=>whnf);refine recO ((h' _).hs) ?_
   conv=>whnf
  conv=>whnf
  refine And.intro ?_ ?_
  ·(conv=>whnf);refine recO ((h' _).hs) ?_
   conv=>whnf
  conv=>whnf
  exact ⟨rfl,rfl⟩
 | false =>
  rw [if_neg (by decide)]
  have h:=(h0.app (X:=[bO (spayI a b)])).lgs (σ.log ++ jEnt (spayI a b))
  obtain ⟨z',hR⟩:=h.rswp h3
  refine ⟨.int .i64 0,_,(rswap_raw F h0 hf n1 n2 h3 h8).fg ?_,rfl,_,_,_,hR,?_⟩
  ·rintro r H1 ⟨rfl,kvs,bs,ck,hp,rfl⟩
   refine ⟨_,?_,rfl,rfl⟩
   unfold rswpH
   exact ((((((ForgH.refl _).set2 z.b (.mp _ _ bs ck hp)).set2 z.v (.refl _)).set2 z.v (.refl _)).set2 z.t (.refl _)).set2 z.t (.refl _))
  ·exact (((((((Post.app H0 _ ro).set _ (.inl h0.ns)).set _ (.inl h0.nb)).set _ (.inl h0.nv)).set _ (.inl h0.nv)).set _ (.inl h0.nt)).set _ (.inl h0.nt))
end
section
variable {H : List AObj} {s : Nat} {σ : Sto} {ro : Nat → Option Role} {z : SP} {lv : AVal}
set_option maxRecDepth 20000 in
theorem rVersion_spec {P : Program} (F : F_z1x P) (h : RepR H s σ ro z lv) (env : ByteArray) :
  ACalls P F.id [.ptr s 1 0 0,.str env] H (fun r H'=>r = .int .i64 (σ.vers env) ∧ H' = H):=by
 have he:=h.eV env
 refine acalls_of_body F.has ?_
 (conv=>whnf);refine recO (h.hs) ?_
 (conv=>whnf);refine recO (h.hv) ?_
 (conv=>whnf);refine recT (h.pV.ok env) ?_
 rcases h.pV.find h.sV env with ⟨e1,e2⟩ | ⟨y,n,e1,e2,rfl⟩
 ·rw [e2] at he
  (conv=>whnf);refine recN e1 ?_
  conv=>whnf
  rw [he];exact ⟨rfl,rfl⟩
 ·rw [e2] at he
  (conv=>whnf);refine recO (e1) ?_
  conv=>whnf
  rw [he];exact ⟨rfl,rfl⟩
set_option maxRecDepth 20000 in
theorem rLog_spec {P : Program} (F : F_z1q P) (h : RepR H s σ ro z lv) (hl : σ.log.length ≤ 90000000) :
  ACalls P F.id [.ptr s 1 0 0] H (fun r H'=>r = bsl H.length σ.log ∧ H' = H ++ [bO σ.log]):=by
 have hg:=h.lg
 refine acalls_of_body F.has ?_
 (conv=>whnf);refine recO (h.hs) ?_
 rcases hg with ⟨rfl,h2⟩ | rfl
 ·(conv=>whnf);refine And.intro ⟨by simp [roomB],by simp [roomB]⟩ ?_
  (conv=>whnf);refine snocK_to ?_
  conv=>whnf
  rw [h2]
  exact ⟨by simp [bsl],rfl⟩
 ·(conv=>whnf);refine And.intro ⟨by rw [bC_length];simp [roomB];omega,by rw [bC_length];simp [roomB];omega⟩ ?_
  (conv=>whnf);refine snocK_to ?_
  conv=>whnf
  exact ⟨by simp [bsl,bC_length],rfl⟩
end
section
variable {H : List AObj} {s : Nat} {σ : Sto} {ro : Nat → Option Role} {z : SP} {lv : AVal}
set_option maxRecDepth 20000 in
theorem rRead_spec {P : Program} (F : F_z1s P) (h : RepR H s σ ro z lv) (hf : σ.Fit) (env name : ByteArray) (hd : ∀ d,kLk name (σ.blobs env) = some d → d.length ≤ 1000000) :
  ACalls P F.id [.ptr s 1 0 0,.str env,.str name] H (fun r H'=>r = .tuple [bsl H.length (readV σ env name).1,.bool (readV σ env name).2] ∧ H' = H ++ [bO (readV σ env name).1]):=by
 have he:=h.eB env
 unfold readV
 refine acalls_of_body F.has ?_
 (conv=>whnf);refine recO (h.hs) ?_
 (conv=>whnf);refine recO (h.hb) ?_
 (conv=>whnf);refine recT (h.pB.ok env) ?_
 rcases h.pB.find h.sB env with ⟨e1,e2⟩ | ⟨y,d,e1,e2,⟨rfl,rfl⟩ | ⟨id,kv,rfl,hr,hb,hp⟩⟩
 ·rw [e2] at he
  have hk : kLk name (σ.blobs env) = none:=by rw [he];rfl
  rw [hk]
  (conv=>whnf);refine recN e1 ?_
  (conv=>whnf);refine And.intro ⟨by simp [roomB],by simp [roomB]⟩ ?_
  (conv=>whnf);refine snocK_to ?_
  conv=>whnf
  exact ⟨by simp [bsl],rfl⟩
 ·rw [e2] at he
  have hk : kLk name (σ.blobs env) = none:=by rw [he];rfl
  rw [hk]
  (conv=>whnf);refine recO (e1) ?_
  (conv=>whnf);refine And.intro ⟨by simp [roomB],by simp [roomB]⟩ ?_
  (conv=>whnf);refine snocK_to ?_
  conv=>whnf
  exact ⟨by simp [bsl],rfl⟩
 ·rw [e2] at he
  have he' : σ.blobs env = d:=he
  rw [he'] at hd ⊢
  (conv=>whnf);refine recO (e1) ?_
  (conv=>whnf);refine recO (hb) ?_
  (conv=>whnf);refine recT (hp.ok name) ?_
  rcases hp.find (by rw [← he'];exact hf.sb env) name with ⟨g1,g2⟩ | ⟨y,dd,g1,g2,⟨rfl,rfl⟩ | ⟨did,rfl,hr2,hdd⟩⟩
  ·rw [g2]
   (conv=>whnf);refine recN g1 ?_
   (conv=>whnf);refine And.intro ⟨by simp [roomB],by simp [roomB]⟩ ?_
   (conv=>whnf);refine snocK_to ?_
   conv=>whnf
   exact ⟨by simp [bsl],rfl⟩
  ·rw [g2]
   (conv=>whnf);refine recO (g1) ?_
   (conv=>whnf);refine And.intro ⟨by simp [roomB],by simp [roomB]⟩ ?_
   (conv=>whnf);refine snocK_to ?_
   conv=>whnf
   exact ⟨by simp [bsl],rfl⟩
  ·rw [g2]
   have hdl:=hd dd g2
   (conv=>whnf);refine recO (g1) ?_
   (conv=>whnf);refine recO (hdd) ?_
   (conv=>whnf);refine recT (by rw [bC_length];exact Nat.beq_refl _) ?_
   have hdt : List.take dd.length (List.drop 0 (bC dd)) = bC dd:=by rw [List.drop_zero,← bC_length dd,List.take_length]
   (conv=>whnf);refine And.intro ⟨by rw [hdt,bC_length];simp [roomB];omega,by rw [hdt,bC_length];simp [roomB];omega⟩ ?_
   (conv=>whnf);refine snocK_to ?_
   conv=>whnf
   rw [hdt]
   exact ⟨by simp [bsl,bC_length],rfl⟩
end
section
variable {H : List AObj} {s : Nat} {σ : Sto} {ro : Nat → Option Role} {z : SP} {lv : AVal}
set_option maxRecDepth 20000 in
theorem rStaged_spec {P : Program} (F : F_z1v P) (h : RepR H s σ ro z lv) (env : ByteArray) (hlen : (σ.staged env).length ≤ 1000000) :
  ACalls P F.id [.ptr s 1 0 0,.str env] H (fun r H'=>r = .sl H.length (σ.staged env).length 0 (σ.staged env).length ∧ H' = H ++ [.arr 1 (keyC (σ.staged env))]):=by
 have he:=h.eT env
 refine acalls_of_body F.has ?_
 conv=>whnf
 refine ⟨fun m ρ H1=>∃ k : Nat,k + m = (σ.staged env).length ∧ H1 = H ++ [.arr 1 (keyC ((σ.staged env).take k))] ∧
  Sv 32 [(0,.ptr s 1 0 0),(1,.str env),(5,.sl H.length ((σ.staged env).take k).length 0 ((σ.staged env).take k).length),(6,.int .i64 k)] ρ,(σ.staged env).length,[(5,1)],?_,?_⟩
 ·(conv=>whnf);refine snocK_to ?_
  conv=>whnf
  refine ⟨0,by omega,by simp [keyC],Sv.intro rfl ⟨rfl,rfl,?_,rfl,trivial⟩⟩
  show AVal.sl _ _ _ _ = _
  simp
 rintro m ρ H1 ⟨k,hk,rfl,d,rfl⟩
 (conv=>whnf);refine recO (at_old h.hs) ?_
 (conv=>whnf);refine recO (at_old h.ht) ?_
 (conv=>whnf);refine recT (h.pT.ok env) ?_
 rcases h.pT.find h.sT env with ⟨e1,e2⟩ | ⟨y,c0,e1,e2,id,l,rfl,h3,h4,rfl,h5⟩
 ·rw [e2] at he
  have he : σ.staged env = []:=he
  rw [he] at hk ⊢
  have hk0 : k = 0:=by simp at hk;omega
  subst hk0
  (conv=>whnf);refine recN e1 ?_
  conv=>whnf
  exact ⟨rfl,rfl⟩
 ·rw [e2] at he
  have hc : l.map (·.2) = σ.staged env:=he.symm
  rw [← hc] at hk hlen ⊢
  have hll : l.length ≤ 1000000:=by simpa using hlen
  have hk2 : k + m = l.length:=by simpa using hk
  (conv=>whnf);refine recO (e1) ?_
  (conv=>whnf);refine recO (at_old h4) ?_
  (conv=>whnf);refine recT (by simp) ?_
  (conv=>whnf);refine recA (fun hlt=>?_) (fun hlt=>?_)
  ·simp at hlt
   obtain ⟨⟨xq,nm,cq⟩,hq,hqd,hqm⟩:=get_drop hlt
   have hqe : (l.map chE)[0 + (k : Int).toNat]? = some (chE (xq,nm,cq)):=by rw [Nat.zero_add,Int.toNat_natCast,List.getElem?_map,hq];rfl
   have htk : (l.map (·.2)).take (k + 1) = (l.map (·.2)).take k ++ [(nm,cq)]:=take_succ_get (by rw [List.getElem?_map,hq];rfl)
   (conv=>whnf);refine recO (at_old h.hs) ?_
   (conv=>whnf);refine recO (at_old h.ht) ?_
   (conv=>whnf);refine recT (h.pT.ok env) ?_
   (conv=>whnf);refine recO (e1) ?_
   (conv=>whnf);refine recO (at_old h4) ?_
   (conv=>whnf);refine recT (by simp) ?_
   (conv=>whnf);refine And.intro (by omega) ?_
   (conv=>whnf);refine recO (at_old h4) ?_
   (conv=>whnf);refine recT (by simp) ?_
   (conv=>whnf);refine recO (hqe) ?_
   (conv=>whnf);refine recO (getA) ?_
   (conv=>whnf);refine recT (by simp [keyC]) ?_
   (conv=>whnf);refine And.intro ⟨by simp [roomB,keyC];omega,by simp [roomB,keyC];omega,rfl,by simp [keyC]⟩ ?_
   have hkc : keyC ((l.map (·.2)).take k) ++ [[AVal.str nm]] = keyC ((l.map (·.2)).take (k + 1)):=by rw [htk];simp [keyC]
   refine setO_at (setA.trans (congrArg (fun e=>H ++ [AObj.arr 1 e]) hkc)) ?_
   conv=>whnf
   refine ⟨m - 1,by omega,Gp.keep rfl ?_ fun ρ1 h=>⟨k + 1,by rw [List.length_map];omega,rfl,h⟩⟩
   refine ⟨rfl,rfl,?_,intEq (wrapI ((k : Int) + 1) (by omega) (by omega)),trivial⟩
   show AVal.sl H.length (keyC ((l.map (·.2)).take k) ++ [[AVal.str nm]]).length 0 (keyC ((l.map (·.2)).take k) ++ [[AVal.str nm]]).length = _
   rw [hkc];simp [keyC]
  ·simp at hlt
   have htl : (l.map (·.2)).take k = l.map (·.2):=List.take_of_length_le (by simp;omega)
   rw [htl]
   conv=>whnf
   exact ⟨rfl,rfl⟩
end
theorem kIns_at {α : Type} {k : ByteArray} {a : α} {c : List (ByteArray × α)} (hs : KSrt c) (hn : ∀ p ∈ c,p.1 ≠ k) {j : Nat} (hj : j ≤ c.length) (hb : ∀ i p,j ≤ i → c[i]? = some p → ltB k p.1 = true)
  (ha : ∀ p,0 < j → c[j - 1]? = some p → ltB k p.1 = false) : kIns k a c = c.take j ++ (k,a) :: c.drop j:=by
 have h1 : ∀ p ∈ c.drop j,ltB k p.1 = true:=fun p hp=>by
  obtain ⟨i,hi⟩:=List.getElem?_of_mem hp
  rw [List.getElem?_drop] at hi
  exact hb _ p (Nat.le_add_right _ _) hi
 have h2 : ∀ p ∈ c.take j,ltB p.1 k = true:=fun p hp=>by
  obtain ⟨i,hi⟩:=List.getElem?_of_mem hp
  rw [List.getElem?_take] at hi
  split at hi
  ·rename_i hlt
   have hlt2 : ∀ q,c[j - 1]? = some q → ltB q.1 k = true:=fun q hq=>by
    have h3:=ha q (by omega) hq
    rcases ltB_tri q.1 k with h | h | h
    ·exact h
    ·exact absurd h (hn q (List.mem_of_getElem? hq))
    ·rw [h] at h3;cases h3
   by_cases he : i = j - 1
   ·subst he;exact hlt2 p hi
   ·have hl : j - 1 < c.length:=by omega
    have h4:=hlt2 c[j - 1] (List.getElem?_eq_getElem hl)
    obtain ⟨hil,hie⟩:=List.getElem?_eq_some_iff.1 hi
    have h5:=(List.pairwise_iff_getElem.1 hs) i (j - 1) hil hl (by omega)
    rw [hie] at h5
    exact ltB_trans h5 h4
  ·cases hi
 have e1 : c.filter (fun p=>ltB p.1 k) = c.take j:=by
  conv=>lhs;rw [← List.take_append_drop j c]
  rw [List.filter_append,List.filter_eq_self.2 h2,List.filter_eq_nil_iff.2 (fun p hp hc=>absurd (ltB_asym (h1 p hp)) (by rw [hc];decide)),List.append_nil]
 have e2 : c.filter (fun p=>ltB k p.1) = c.drop j:=by
  conv=>lhs;rw [← List.take_append_drop j c]
  rw [List.filter_append,List.filter_eq_self.2 h1,List.filter_eq_nil_iff.2 (fun p hp hc=>absurd (ltB_asym (h2 p hp)) (by rw [hc];decide)),List.nil_append]
 unfold kIns
 rw [e1,e2]
theorem set_snocK1 {X : List AObj} {o : AObj} {es e' : List (List AVal)} (h : es = e') : (X ++ [o]).set (0 + X.length) (AObj.arr 1 es) = X ++ [.arr 1 e']:=by rw [h,set_snoc]
theorem keyC_take {α : Type} (c : List (ByteArray × α)) (j : Nat) : (keyC c).take j = keyC (c.take j):=by simp [keyC,List.map_take]
theorem keyC_drop {α : Type} (c : List (ByteArray × α)) (j : Nat) : (keyC c).drop j = keyC (c.drop j):=by simp [keyC,List.map_drop]
theorem keyC_length {α : Type} (c : List (ByteArray × α)) : (keyC c).length = c.length:=by simp [keyC]
theorem getX {K X : List AObj} {a : AObj} {i : Nat} {o : AObj} (h : X[i]? = some o) : (K ++ a :: X)[K.length + 1 + i]? = some o:=by
 rw [List.getElem?_append_right (by omega),show K.length + 1 + i - K.length = i + 1 by omega,List.getElem?_cons_succ];exact h
theorem nam_E (c : List (ByteArray × List Int)) (nm : ByteArray) (d : List Int) {j : Nat} (hj : j ≤ c.length) :
  List.take (j : Int).toNat (List.drop 0 (keyC c)) ++ List.take ([AVal.str nm] :: [] ++ List.take (c.length - (j : Int).toNat) (List.drop (0 + (j : Int).toNat) (keyC c))).length (List.drop 0 ([AVal.str nm] :: keyC (c.drop j))) =
   keyC (c.take j ++ (nm,d) :: c.drop j):=by
 have e1 : List.take (c.length - j) (keyC (c.drop j)) = keyC (c.drop j):=List.take_of_length_le (by rw [keyC_length,List.length_drop];omega)
 rw [List.drop_zero,List.drop_zero,Int.toNat_natCast,keyC_take,Nat.zero_add,keyC_drop,e1]
 have e2 : List.take ([AVal.str nm] :: [] ++ keyC (c.drop j)).length ([AVal.str nm] :: keyC (c.drop j)) = [AVal.str nm] :: keyC (c.drop j):=List.take_of_length_le (by simp)
 rw [e2]
 simp [keyC]
theorem nam_slot {K X : List AObj} {mt o1 : AObj} {E : List (List AVal)} {c' : List (ByteArray × List Int)} (hE : E = keyC c') : AVal.sl (0 + (K ++ mt :: X ++ [o1]).length) E.length 0 E.length = .sl (K.length + 1 + (X.length + 1)) c'.length 0 c'.length:=by
 subst hE
 rw [keyC_length]
 congr 1
 simp;omega
theorem nam_heap {K X : List AObj} {mt o1 : AObj} {E : List (List AVal)} {c' : List (ByteArray × List Int)} (hE : E = keyC c') : K ++ mt :: X ++ [o1] ++ [.arr 1 E] = K ++ mt :: (X ++ [o1,.arr 1 (keyC c')]):=by
 subst hE;simp
def NamQ (H : List AObj) (ro : Nat → Option Role) (c : List (ByteArray × List Int)) (r : AVal) (H' : List AObj) : Prop :=
 ∃ K a X i,KF H ro K ∧ H' = K ++ a :: X ∧ r = .sl (K.length + 1 + i) c.length 0 c.length ∧ X[i]? = some (.arr 1 (keyC c))
section
variable {H : List AObj} {s : Nat} {σ : Sto} {ro : Nat → Option Role} {z : SP} {lv : AVal}
set_option maxRecDepth 20000 in
theorem rNames_raw {P : Program} (F : F_z1r P) (h : RepR H s σ ro z lv) (env : ByteArray) (hf : KSrt (σ.blobs env)) (hlen : (σ.blobs env).length ≤ 1000000)
  (kvs : List (AVal × AVal)) (g3 : PM (RDr H ro) kvs (σ.blobs env)) (hcase : (mfind 2 (.str env) z.B = none ∧ σ.blobs env = []) ∨ (mfind 2 (.str env) z.B = some .nilm ∧ σ.blobs env = []) ∨ ∃ idb,mfind 2 (.str env) z.B = some (.mp idb) ∧ H[idb]? = some (.map kvs) ∧ ro idb = some .blob) :
  ACalls P F.id [.ptr s 1 0 0,.str env] H (NamQ H ro (σ.blobs env)):=by
 refine acalls_of_body F.has ?_
 (conv=>whnf);refine recO (h.hs) ?_
 (conv=>whnf);refine recO (h.hb) ?_
 (conv=>whnf);refine recT (h.pB.ok env) ?_
 rcases hcase with ⟨g1,hk0⟩ | ⟨g1,hk0⟩ | ⟨idb,g1,g2,hrb⟩
 ·(conv=>whnf);refine recN g1 ?_
  conv=>whnf
  refine snocK_to ?_
  conv=>whnf
  refine ⟨fun m ρ H1=>H1 = H ++ [.mit none 0 [],.arr 1 []] ∧ Sv 46 [(5,.sl (H.length + 1) 0 0 0),(14,.it H.length)] ρ,0,[(5,1)],?_,?_⟩
  ·(conv=>whnf);refine snocK_to ?_
   conv=>whnf
   refine ⟨by simp,Sv.intro rfl ⟨?_,?_,trivial⟩⟩
   ·show AVal.sl _ _ _ _ = _
    simp
   ·show AVal.it _ = _
    simp
  rintro m ρ H1 ⟨rfl,d,rfl⟩
  (conv=>whnf);refine recO (getA) ?_
  conv=>whnf
  rw [hk0]
  exact ⟨H,_,_,0,.inl rfl,rfl,rfl,rfl⟩
 ·(conv=>whnf);refine recO (g1) ?_
  conv=>whnf
  refine snocK_to ?_
  conv=>whnf
  refine ⟨fun m ρ H1=>H1 = H ++ [.mit none 0 [],.arr 1 []] ∧ Sv 46 [(5,.sl (H.length + 1) 0 0 0),(14,.it H.length)] ρ,0,[(5,1)],?_,?_⟩
  ·(conv=>whnf);refine snocK_to ?_
   conv=>whnf
   refine ⟨by simp,Sv.intro rfl ⟨?_,?_,trivial⟩⟩
   ·show AVal.sl _ _ _ _ = _
    simp
   ·show AVal.it _ = _
    simp
  rintro m ρ H1 ⟨rfl,d,rfl⟩
  (conv=>whnf);refine recO (getA) ?_
  conv=>whnf
  rw [hk0]
  exact ⟨H,_,_,0,.inl rfl,rfl,rfl,rfl⟩
 ·have hidb:=(List.getElem?_eq_some_iff.1 g2).1
  (conv=>whnf);refine recO (g1) ?_
  (conv=>whnf);refine recO (g2) ?_
  conv=>whnf
  intro kvs0 bs ck hp0 hl hnd hck
  refine setO_at rfl ?_
  refine snocK_to ?_
  have hl0 : (H.set idb (.bmap kvs0 bs ck)).length = H.length:=List.length_set ..
  have hbm : ∀ X,(H.set idb (.bmap kvs0 bs ck) ++ X)[idb]? = some (.bmap kvs0 bs ck):=fun X=>at_old (set_at g2)
  obtain ⟨L,rfl,hlp,hlr⟩:=g3.perm hp0
  have hLn : (L.map (·.1)).Nodup:=PM.keysL hlp hf
  have hkf : KF H ro (H.set idb (.bmap (L.map fun p=>(AVal.str p.1,p.2.1)) bs ck)):=.inr ⟨idb,kvs,_,bs,ck,g2,hrb,hp0,rfl⟩
  generalize hK : H.set idb (.bmap (L.map fun p=>(AVal.str p.1,p.2.1)) bs ck) = K at hl0 hbm hkf ⊢
  have hlen2 : bs.length = L.length:=by rw [hl,List.length_map]
  conv=>whnf
  refine ⟨fun m ρ H1=>∃ (pre : List (ByteArray × AVal × List Int)) (seen : List Nat) (c : List (ByteArray × List Int)) (X : List AObj) (xi : Nat),m + pre.length = L.length ∧ Rng L bs seen pre ∧ KSrt c ∧ c.Perm (pre.map fun p=>(p.1,p.2.2)) ∧ X[xi]? = some (.arr 1 (keyC c)) ∧ H1 = K ++ .mit (some idb) ck seen :: X ∧
   Sv 46 [(5,.sl (K.length + 1 + xi) c.length 0 c.length),(14,.it K.length)] ρ,L.length,[(5,1)],?_,?_⟩
  ·(conv=>whnf);refine snocK_to ?_
   conv=>whnf
   refine ⟨[],[],[],[.arr 1 []],0,by simp,Rng.start,KSrt.nil,.nil,rfl,by simp,Sv.intro rfl ⟨?_,?_,trivial⟩⟩
   ·show AVal.sl _ _ _ _ = _
    simp
   ·show AVal.it _ = _
    simp
  rintro m ρ H1 ⟨pre,seen,c,X,xi,hm,hr1,hcs,hcp,hX0,rfl,d,rfl⟩
  (conv=>whnf);refine recO (getA) ?_
  (conv=>whnf);refine recO (hbm _) ?_
  (conv=>whnf);refine recT (Nat.beq_refl _) ?_
  refine And.intro (fun i kv b hx hb1 hnb=>?_) (fun hov=>?_)
  ·have hx0:=hx
   rw [List.getElem?_map] at hx
   obtain ⟨p,hp,rfl⟩:=Option.map_eq_some_iff.1 hx
   have hlt:=hr1.lt hp hb1 hnb
   have hr2:=hr1.step hp hb1 hnb
   have hnew : p.1 ∉ pre.map (·.1):=by
    have:=hr2.nodup hLn
    rw [List.map_append,List.nodup_append] at this
    exact fun hmem=>this.2.2 _ hmem _ (by simp) rfl
   have hcl : c.length = pre.length:=by rw [hcp.length_eq,List.length_map]
   have hLl : L.length ≤ 1000000:=by have:=hlp.length_eq;rw [List.length_map] at this;omega
   have hkn : ∀ q ∈ c,q.1 ≠ p.1:=fun q hq e=>hnew (by
    obtain ⟨y,hy,rfl⟩:=List.mem_map.1 (hcp.mem_iff.1 hq)
    exact List.mem_map.2 ⟨y,hy,e⟩)
   have hcp2 : (kIns p.1 p.2.2 c).Perm ((pre ++ [p]).map fun p=>(p.1,p.2.2)):=by
    refine (kIns_perm _ _ _).trans ?_
    have e : kDel p.1 c = c:=List.filter_eq_self.2 fun q hq=>by rw [kEq_false (Ne.symm (hkn q hq))];rfl
    rw [e,List.map_append]
    exact (List.Perm.cons _ hcp).trans (List.perm_append_comm (l₁:=[(p.1,p.2.2)]))
   have hcs2:=hcs.ins p.1 p.2.2
   (conv=>whnf)
   refine setO_at setA ?_
   (conv=>whnf);refine recO (getA) ?_
   (conv=>whnf);refine recO (hbm _) ?_
   (conv=>whnf);refine recT (Nat.beq_refl _) ?_
   (conv=>whnf)
   refine ⟨i,_,b,by simp,hb1,hx0,?_⟩
   have hX : ∀ {a : AObj},(K ++ a :: X)[K.length + 1 + xi]? = some (.arr 1 (keyC c)):=getX hX0
   (conv=>whnf);refine recO (hX) ?_
   (conv=>whnf);refine recT (by rw [keyC_length];exact Nat.beq_refl _) ?_
   generalize hmt : AObj.mit (some idb) ck (seen ++ [b]) = mt
   conv=>whnf
   refine ⟨fun m2 ρ H1=>m2 ≤ c.length ∧ (∀ i q,m2 ≤ i → c[i]? = some q → ltB p.1 q.1 = true) ∧ H1 = K ++ mt :: X ∧
    Sv 46 [(5,.sl (K.length + 1 + xi) c.length 0 c.length),(6,.str p.1),(7,.int .i64 m2),(14,.it K.length)] ρ,c.length,[],?_,?_⟩
   ·exact ⟨Nat.le_refl _,fun i q h1 h2=>absurd (List.getElem?_eq_some_iff.1 h2).1 (by omega),rfl,Sv.intro rfl ⟨rfl,rfl,rfl,rfl,trivial⟩⟩
   rintro j ρ H1 ⟨hj,hbeh,rfl,d2,rfl⟩
   (conv=>whnf);refine recA (fun hpos=>?_) (fun hpos=>?_)
   ·simp at hpos
    obtain ⟨j,rfl⟩ : ∃ i,j = i + 1:=⟨j - 1,by omega⟩
    obtain ⟨⟨nq,dq⟩,hq,_,hqm⟩:=get_drop (show j < c.length by omega)
    have hw1 : IntKind.i64.wrap (((j + 1 : Nat) : Int) - 1) = (j : Int):=by rw [wrapI _ (by omega) (by omega)];omega
    have hqe : (keyC c)[0 + (j : Int).toNat]? = some [.str nq]:=by rw [Nat.zero_add,Int.toNat_natCast];unfold keyC;rw [List.getElem?_map,hq];rfl
    conv=>whnf
    rw [hw1]
    (conv=>whnf);refine recO (hX) ?_
    (conv=>whnf);refine recT (by rw [keyC_length];exact Nat.beq_refl _) ?_
    (conv=>whnf);refine And.intro (by omega) ?_
    (conv=>whnf);refine recO (hX) ?_
    (conv=>whnf);refine recT (by rw [keyC_length];exact Nat.beq_refl _) ?_
    (conv=>whnf);refine recO (hqe) ?_
    cases hlt2 : ltB p.1 nq with
    | true =>
     (conv=>whnf);refine recT (hlt2) ?_
     conv=>whnf
     rw [hw1]
     refine ⟨j,by omega,Gp.keep rfl ?_ fun ρ1 h=>⟨by omega,fun i q h1 h2=>?_,rfl,h⟩⟩
     ·exact ⟨rfl,rfl,rfl,rfl,trivial⟩
     ·rcases Nat.lt_or_ge j i with h3 | h3
      ·exact hbeh i q h3 h2
      ·obtain rfl : i = j:=by omega
       rw [hq] at h2;cases h2;exact hlt2
    | false =>
     (conv=>whnf);refine recF (hlt2) ?_
     have hki : kIns p.1 p.2.2 c = c.take (j + 1) ++ (p.1,p.2.2) :: c.drop (j + 1):=kIns_at hcs hkn hj hbeh fun q _ h2=>by rw [Nat.add_sub_cancel,hq] at h2;cases h2;exact hlt2
     have hjl : (c.take (j + 1)).length = j + 1:=by rw [List.length_take];omega
     (conv=>whnf);refine recO (hX) ?_
     (conv=>whnf);refine recT (by rw [keyC_length];exact Nat.beq_refl _) ?_
     (conv=>whnf);refine And.intro (by omega) ?_
     (conv=>whnf);refine recT (by simp <;> omega) ?_
     (conv=>whnf);refine snocK_to ?_
     (conv=>whnf);refine recO (at_old hX) ?_
     (conv=>whnf);refine recT (by rw [keyC_length];exact Nat.beq_refl _) ?_
     (conv=>whnf);refine And.intro (by omega) ?_
     (conv=>whnf);refine recO (at_old hX) ?_
     (conv=>whnf);refine recT (by rw [keyC_length];exact Nat.beq_refl _) ?_
     (conv=>whnf);refine recO (at_snoc _ _) ?_
     have hdr : ∀ n : Nat,n ≤ c.length → [AVal.str p.1] :: [] ++ List.take (c.length - (n : Int).toNat) (List.drop (0 + (n : Int).toNat) (keyC c)) = [.str p.1] :: keyC (c.drop n):=fun n hn=>by
      rw [Nat.zero_add,Int.toNat_natCast,List.take_of_length_le (by rw [List.length_drop,keyC_length];omega),keyC_drop];rfl
     (conv=>whnf);refine And.intro (⟨by simp [roomB];omega,by simp [roomB];omega,rfl,rfl⟩) ?_
     refine setO_at (set_snocK1 (hdr _ (by omega))) ?_
     (conv=>whnf);refine recO (at_snoc _ _) ?_
     (conv=>whnf);refine recT (by simp [keyC_length] <;> omega) ?_
     (conv=>whnf);refine recO (at_old hX) ?_
     (conv=>whnf);refine recT (by rw [keyC_length];exact Nat.beq_refl _) ?_
     (conv=>whnf);refine Or.inr (And.intro ⟨rfl,by simp,by simp [roomB,keyC_length];omega,by simp [roomB,keyC_length];omega⟩ ?_)
     (conv=>whnf);refine snocK_to ?_
     conv=>whnf
     refine And.intro ?_ ?_
     ·first
       | ((conv=>whnf);refine recO (hX) ?_)
       | ((conv=>whnf);refine recO (at_old hX) ?_)
       | ((conv=>whnf);refine recO (at_old (at_old hX)) ?_)
      (conv=>whnf);refine recT (by rw [keyC_length];exact Nat.beq_refl _) ?_
      (conv=>whnf);refine And.intro (by omega) ?_
      conv=>whnf
     conv=>whnf
     refine And.intro ?_ ?_
     ·first
       | ((conv=>whnf);refine recO (hX) ?_)
       | ((conv=>whnf);refine recO (at_old hX) ?_)
       | ((conv=>whnf);refine recO (at_old (at_old hX)) ?_)
      (conv=>whnf);refine recT (by rw [keyC_length];exact Nat.beq_refl _) ?_
      (conv=>whnf);refine And.intro (by omega) ?_
      (conv=>whnf);refine recT (by simp <;> omega) ?_
      conv=>whnf
     conv=>whnf
     refine And.intro ?_ ?_
     ·first
       | ((conv=>whnf);refine recO (hX) ?_)
       | ((conv=>whnf);refine recO (at_old hX) ?_)
       | ((conv=>whnf);refine recO (at_old (at_old hX)) ?_)
      (conv=>whnf);refine recT (by rw [keyC_length];exact Nat.beq_refl _) ?_
      (conv=>whnf);refine And.intro (by omega) ?_
      (conv=>whnf);refine recT (by simp <;> omega) ?_
      conv=>whnf
     conv=>whnf
     refine ⟨m - 1,by omega,Gp.keep rfl ?_ fun ρ1 h=>⟨pre ++ [p],seen ++ [b],kIns p.1 p.2.2 c,X ++ [_,.arr 1 (keyC (kIns p.1 p.2.2 c))],X.length + 1,by simp;omega,hr2,hcs2,hcp2,by rw [List.getElem?_append_right (by omega)];simp,(nam_heap (c':=kIns p.1 p.2.2 c) (by rw [hki];exact nam_E _ _ _ (by omega))).trans (by rw [hmt]),h⟩⟩
     refine ⟨nam_slot (by rw [hki];exact nam_E _ _ _ (by omega)),rfl,trivial⟩
   ·simp at hpos
    obtain rfl : j = 0:=by omega
    have hki : kIns p.1 p.2.2 c = c.take 0 ++ (p.1,p.2.2) :: c.drop 0:=kIns_at hcs hkn hj hbeh fun q h1 h2=>absurd h1 (by omega)
    have hjl : (c.take 0).length = 0:=by simp
    conv=>whnf
    (conv=>whnf);refine recO (hX) ?_
    (conv=>whnf);refine recT (by rw [keyC_length];exact Nat.beq_refl _) ?_
    (conv=>whnf);refine And.intro (by omega) ?_
    conv=>whnf
    refine snocK_to ?_
    (conv=>whnf);refine recO (at_old hX) ?_
    (conv=>whnf);refine recT (by rw [keyC_length];exact Nat.beq_refl _) ?_
    (conv=>whnf);refine And.intro (by omega) ?_
    (conv=>whnf);refine recO (at_old hX) ?_
    (conv=>whnf);refine recT (by rw [keyC_length];exact Nat.beq_refl _) ?_
    (conv=>whnf);refine recO (at_snoc _ _) ?_
    have hdr : ∀ n : Nat,n ≤ c.length → [AVal.str p.1] :: [] ++ List.take (c.length - (n : Int).toNat) (List.drop (0 + (n : Int).toNat) (keyC c)) = [.str p.1] :: keyC (c.drop n):=fun n hn=>by
     rw [Nat.zero_add,Int.toNat_natCast,List.take_of_length_le (by rw [List.length_drop,keyC_length];omega),keyC_drop];rfl
    (conv=>whnf);refine And.intro (⟨by simp [roomB,keyC_length];omega,by simp [roomB,keyC_length];omega,rfl,rfl⟩) ?_
    refine setO_at (set_snocK1 (hdr _ (by omega))) ?_
    (conv=>whnf);refine recO (at_snoc _ _) ?_
    (conv=>whnf);refine recT (by simp [keyC_length] <;> omega) ?_
    (conv=>whnf);refine And.intro (⟨by simp [roomB,keyC_length];omega,by simp [roomB,keyC_length];omega,.inr rfl⟩) ?_
    (conv=>whnf);refine snocK_to ?_
    conv=>whnf
    refine And.intro ?_ ?_
    ·first
      | ((conv=>whnf);refine recO (hX) ?_)
      | ((conv=>whnf);refine recO (at_old hX) ?_)
      | ((conv=>whnf);refine recO (at_old (at_old hX)) ?_)
     (conv=>whnf);refine recT (by rw [keyC_length];exact Nat.beq_refl _) ?_
     (conv=>whnf);refine And.intro (by omega) ?_
     conv=>whnf
    conv=>whnf
    refine And.intro ?_ ?_
    ·first
      | ((conv=>whnf);refine recO (hX) ?_)
      | ((conv=>whnf);refine recO (at_old hX) ?_)
      | ((conv=>whnf);refine recO (at_old (at_old hX)) ?_)
     (conv=>whnf);refine recT (by rw [keyC_length];exact Nat.beq_refl _) ?_
     (conv=>whnf);refine And.intro (by omega) ?_
     conv=>whnf
    conv=>whnf
    refine And.intro ?_ ?_
    ·first
      | ((conv=>whnf);refine recO (hX) ?_)
      | ((conv=>whnf);refine recO (at_old hX) ?_)
      | ((conv=>whnf);refine recO (at_old (at_old hX)) ?_)
     (conv=>whnf);refine recT (by rw [keyC_length];exact Nat.beq_refl _) ?_
     (conv=>whnf);refine And.intro (by omega) ?_
     conv=>whnf
    conv=>whnf
    refine ⟨m - 1,by omega,Gp.keep rfl ?_ fun ρ1 h=>⟨pre ++ [p],seen ++ [b],kIns p.1 p.2.2 c,X ++ [_,.arr 1 (keyC (kIns p.1 p.2.2 c))],X.length + 1,by simp;omega,hr2,hcs2,hcp2,by rw [List.getElem?_append_right (by omega)];simp,(nam_heap (c':=kIns p.1 p.2.2 c) (by rw [hki];exact nam_E _ _ _ (by omega))).trans (by rw [hmt]),h⟩⟩
    refine ⟨nam_slot (by rw [hki];exact nam_E _ _ _ (by omega)),rfl,trivial⟩
  ·have hpl:=hr1.over hlen2 hnd hov
   have hce : c = σ.blobs env:=hcs.eq hf (hcp.trans ((hpl.map _).trans hlp))
   conv=>whnf
   subst hce
   exact ⟨K,_,X,xi,hkf,rfl,rfl,hX0⟩
end
def asB_rtake {P : Program} (F : F_z22 P) : F_z03 P:=⟨F.id,F.has⟩
set_option maxRecDepth 20000 in
theorem r36number_raw {P : Program} (F : F_z21 P) (n : Int) (hn : 0 ≤ n) (hn6 : n ≤ 4) (s : RdS) (hby : Byt s.rest) :
  ACalls P F.id [.ptr 0 1 0 0,.int .i64 n] [rdO s] (fun r H'=>r = .int .i64 (nbV n s) ∧ H' = [rdO (tkS n s)]):=by
 have hl:=tkL_len (s:=s) hn
 have hb:=tkL_byt (n:=n) hby
 refine acalls_of_body F.has ?_
 (conv=>whnf);refine ACalls.mono (take_raw (asB_rtake F.z22) n hn s) ?_
 rintro r H' ⟨rfl,rfl⟩
 conv=>whnf
 refine ⟨fun m ρ H=>∃ (k : Nat) (acc : Int),k + m = (tkL n s).length ∧ 0 ≤ acc ∧ acc < 256 ^ k ∧ ((tkL n s).drop k).foldl (fun n x=>n * 256 + x) acc = num (tkL n s) ∧ H = [rdO (tkS n s)] ∧
  Sv 23 [(5,.int .i64 acc),(10,.list false 1 (bC (tkL n s))),(11,.int .i64 (tkL n s).length),(12,.int .i64 k)] ρ,(tkL n s).length,[],?_,?_⟩
 ·exact ⟨0,0,by omega,by omega,by omega,rfl,rfl,Sv.intro rfl ⟨rfl,rfl,intEq (by rw [bC_length]),rfl,trivial⟩⟩
 rintro m ρ H ⟨k,acc,hk,h0,h1,hr,rfl,d,rfl⟩
 (conv=>whnf);refine recA (fun hlt=>?_) (fun hlt=>?_)
 ·simp at hlt
  obtain ⟨x,hx,hd,hmem⟩:=get_drop hlt
  have hxb:=hb x hmem
  (conv=>whnf);refine And.intro (by omega) ?_
  (conv=>whnf);refine recO (bC_at hx) ?_
  conv=>whnf
  have hp : (256 : Int) ^ k ≤ 256 ^ 4:=by
   have : (256 : Nat) ^ k ≤ 256 ^ 4:=Nat.pow_le_pow_right (by omega) (by omega)
   exact_mod_cast this
  have hp2 : (256 : Int) ^ (k + 1) = 256 ^ k * 256:=Int.pow_succ ..
  refine ⟨m - 1,by omega,Gp.keep rfl ?_ fun ρ1 h=>⟨k + 1,acc * 256 + x,by omega,by omega,by omega,?_,rfl,h⟩⟩
  ·refine ⟨intEq ?_,rfl,rfl,intEq (wrapI ((k : Int) + 1) (by omega) (by omega)),trivial⟩
   show IntKind.i64.wrap (IntKind.i64.wrap (acc * 256) + IntKind.i64.wrap x) = _
   rw [wrapI (acc * 256) (by omega) (by omega),wrapI x (by omega) (by omega),wrapI _ (by omega) (by omega)]
  ·rw [← hr,hd];rfl
 ·simp at hlt
  conv=>whnf
  rw [List.drop_eq_nil_of_le hlt] at hr
  exact ⟨intEq hr,rfl⟩
theorem r36number_spec {P : Program} (F : F_z21 P) (n : Int) (hn : 0 ≤ n) (hn6 : n ≤ 4) (s : RdS) (hby : Byt s.rest) (H : List AObj) (id : Nat) (ho : H[id]? = some (rdO s)) :
  ACalls P F.id [.ptr id 1 0 0,.int .i64 n] H (fun r H'=>r = .int .i64 (nbV n s) ∧ H' = H.set id (rdO (tkS n s))) :=
 (r36number_raw F n hn hn6 s hby).fr ho rfl rfl (.pt (.cl rfl trivial)) (.closed _ rfl)
set_option maxRecDepth 20000 in
theorem r36text_raw {P : Program} (F : F_z23 P) (s : RdS) (hby : Byt s.rest) :
  ACalls P F.id [.ptr 0 1 0 0] [rdO s] (fun r H'=>r = .str (txV s) ∧ H' = [rdO (txS s)]):=by
 refine acalls_of_body F.has ?_
 (conv=>whnf);refine ACalls.mono (r36number_raw F.z21 1 (by omega) (by omega) s hby) ?_
 rintro r H' ⟨rfl,rfl⟩
 (conv=>whnf);refine ACalls.mono (take_raw (asB_rtake F.z22) _ (nbV_bound (by omega) (by omega) hby).1 (tkS 1 s)) ?_
 rintro r H' ⟨rfl,rfl⟩
 (conv=>whnf);refine ⟨_,bytesOf_bC _,?_⟩
 conv=>whnf
 exact ⟨rfl,rfl⟩
theorem r36text_spec {P : Program} (F : F_z23 P) (s : RdS) (hby : Byt s.rest) (H : List AObj) (id : Nat) (ho : H[id]? = some (rdO s)) :
  ACalls P F.id [.ptr id 1 0 0] H (fun r H'=>r = .str (txV s) ∧ H' = H.set id (rdO (txS s))) :=
 (r36text_raw F s hby).fr ho rfl rfl (.pt trivial) (.closed _ rfl)
def rrStep (a : ByteArray) (r : RdS) (σ : Sto) : Int × RdS × Sto :=
 if nbV 1 r = 1 then ((removeR a (txV (tkS 1 r)) σ).1,txS (tkS 1 r),(removeR a (txV (tkS 1 r)) σ).2)
 else ((stageR a (txV (tkS 1 r)) (tkL (nbV 4 (txS (tkS 1 r))) (tkS 4 (txS (tkS 1 r)))) σ).1,tkS (nbV 4 (txS (tkS 1 r))) (tkS 4 (txS (tkS 1 r))),(stageR a (txV (tkS 1 r)) (tkL (nbV 4 (txS (tkS 1 r))) (tkS 4 (txS (tkS 1 r)))) σ).2)
def rrLoop (a : ByteArray) : Nat → RdS → Sto → Option (RdS × Sto)
 | 0,r,σ=>some (r,σ)
 | n + 1,r,σ=>if r.bad then some (r,σ) else if (rrStep a r σ).1 = 0 then rrLoop a n (rrStep a r σ).2.1 (rrStep a r σ).2.2 else none
theorem rrLoop_succ (a : ByteArray) (n : Nat) (r : RdS) (σ : Sto) : rrLoop a (n + 1) r σ = if r.bad then some (r,σ) else if (rrStep a r σ).1 = 0 then rrLoop a n (rrStep a r σ).2.1 (rrStep a r σ).2.2 else none:=rfl
def rpA (p : List Int) : ByteArray:=txV (tkS 1 ⟨p,false⟩)
def rpB (p : List Int) : RdS:=txS (tkS 1 ⟨p,false⟩)
def replayR (σ : Sto) (p : List Int) : Option Sto :=
 if nbV 1 ⟨p,false⟩ = 2 then (if (swapR (rpA p) (txV (rpB p)) σ).1 = 0 then some (swapR (rpA p) (txV (rpB p)) σ).2 else none)
 else match rrLoop (rpA p) (nbV 2 (rpB p)).toNat (tkS 2 (rpB p)) σ with
  | none=>none
  | some (r,σ')=>if nbV 1 ⟨p,false⟩ = 1 ∧ r.bad = false ∧ (commitR (rpA p) σ').1 = 0 then some (commitR (rpA p) σ').2 else none
structure RpI (σ0 : Sto) (a : ByteArray) (L : Nat) (r : RdS) (σ : Sto) : Prop where
 eb : σ.blobs = σ0.blobs
 ev : σ.vers = σ0.vers
 el : σ.log = σ0.log
 so : ∀ e,e ≠ a → σ.staged e = []
 sa : KSrt (σ.staged a)
 by' : ∀ p ∈ σ.staged a,Byt p.2.data
 rb : Byt r.rest
 sz : ((σ.staged a).flatMap entI).length + r.rest.length ≤ L + bif r.bad then 4 else 0
theorem flat_len (c : List (ByteArray × Chg)) : c.length ≤ (c.flatMap entI).length:=by
 induction c with
 | nil=>exact Nat.le_refl _
 | cons q l ih=>rw [List.flatMap_cons,List.length_append,List.length_cons,entI,List.length_cons];omega
theorem kIns_mem {α : Type} {k : ByteArray} {x : α} {c : List (ByteArray × α)} {p : ByteArray × α} (h : p ∈ kIns k x c) : p = (k,x) ∨ p ∈ c:=by
 rcases List.mem_cons.1 ((kIns_perm k x c).mem_iff.1 h) with h | h
 ·exact .inl h
 ·exact .inr (List.mem_filter.1 h).1
theorem ba_empty {s : ByteArray} (h0 : s.size = 0) : s = ⟨#[]⟩:=by
 obtain ⟨⟨l⟩⟩:=s
 have : l = []:=List.eq_nil_of_length_eq_zero h0
 rw [this]
theorem qualB_0 {s : ByteArray} (h : qualB s = true) : s.size ≠ 0:=by
 intro h0
 rw [ba_empty h0] at h
 exact absurd h (by decide)
theorem tkS_bad {n : Int} {q : RdS} (h : (tkS n q).bad = true) : tkL n q = []:=by
 unfold tkS at h
 unfold tkL
 cases ht : tkB n q with
 | false=>rfl
 | true=>rw [ht,if_pos rfl] at h;cases h
theorem RpI.staged {σ0 σ : Sto} {a : ByteArray} {L : Nat} {r r' : RdS} (h : RpI σ0 a L r σ) (nm : ByteArray) (c : Chg) (hc : Byt c.data) (hr : Byt r'.rest)
  (hs : (entI (nm,c)).length + r'.rest.length ≤ r.rest.length + bif r'.bad then 4 else 0) (hb : r.bad = false) : RpI σ0 a L r' (stageS a nm c σ):=by
 have hst : (stageS a nm c σ).staged a = kIns nm c (σ.staged a):=updS_same _ _ _
 refine ⟨h.eb,h.ev,h.el,fun e he=>?_,?_,fun p hp=>?_,hr,?_⟩
 ·show updS σ.staged a _ e = []
  rw [updS_other _ _ he];exact h.so e he
 ·rw [hst];exact h.sa.ins _ _
 ·rw [hst] at hp
  rcases kIns_mem hp with rfl | hp
  ·exact hc
  ·exact h.by' p hp
 ·rw [hst]
  have h1:=flat_ins nm c (σ.staged a)
  have h2:=h.sz
  rw [hb] at h2
  simp only [cond_false] at h2
  omega
theorem rrStep_inv {σ0 σ : Sto} {a : ByteArray} {L : Nat} {r : RdS} (h : RpI σ0 a L r σ) (hb : r.bad = false) (hz : (rrStep a r σ).1 = 0) : RpI σ0 a L (rrStep a r σ).2.1 (rrStep a r σ).2.2:=by
 have b1 : Byt (tkS 1 r).rest:=tkS_byt h.rb
 have b2 : Byt (txS (tkS 1 r)).rest:=txS_byt b1
 have b3 : Byt (tkS 4 (txS (tkS 1 r))).rest:=tkS_byt b2
 have hq : qualB (txV (tkS 1 r)) = true:=by
  unfold rrStep at hz
  split at hz
  ·unfold removeR at hz
   split at hz
   ·rename_i hh;simp at hh;exact hh.2
   ·cases hz
  ·unfold stageR at hz
   split at hz
   ·rename_i hh;simp at hh;exact hh.2
   ·cases hz
 have h0:=qualB_0 hq
 have hok : (txS (tkS 1 r)).bad = false:=by
  cases hbb : (txS (tkS 1 r)).bad with
  | false=>rfl
  | true =>
   exfalso
   apply h0
   rw [txV,strOf_size,tkS_bad (n:=nbV 1 (tkS 1 r)) (q:=tkS 1 (tkS 1 r)) hbb];rfl
 have h4:=txS_ok hok
 have h5:=tkS_ok h4.1
 have t1 : (1 : Int).toNat = 1:=rfl
 unfold rrStep at hz ⊢
 split
 ·rename_i hrm
  rw [if_pos hrm] at hz
  unfold removeR at hz ⊢
  split
  ·refine h.staged _ _ (fun x hx=>by cases hx) b2 ?_ hb
   have e5 : (entI (txV (tkS 1 r),⟨true,[]⟩)).length = (txV (tkS 1 r)).size + 2:=by simp [entI,txI,bytesI_length]
   show (entI (txV (tkS 1 r),⟨true,[]⟩)).length + (txS (tkS 1 r)).rest.length ≤ _
   rw [e5]
   omega
  ·rename_i hh
   rw [if_neg hh] at hz;cases hz
 ·rename_i hrm
  rw [if_neg hrm] at hz
  generalize hdt : tkL (nbV 4 (txS (tkS 1 r))) (tkS 4 (txS (tkS 1 r))) = data at hz ⊢
  have hdb : Byt data:=by rw [← hdt];exact tkL_byt b3
  unfold stageR at hz ⊢
  split
  ·rename_i hh
   rw [if_pos hh] at hz
   split
   ·refine h.staged _ _ hdb (tkS_byt b3) ?_ hb
    have e5 : (entI (txV (tkS 1 r),⟨false,data⟩)).length = (txV (tkS 1 r)).size + 6 + data.length:=by simp [entI,txI,bytesI_length,beN_length];omega
    show (entI (txV (tkS 1 r),⟨false,data⟩)).length + (tkS (nbV 4 (txS (tkS 1 r))) (tkS 4 (txS (tkS 1 r)))).rest.length ≤ r.rest.length + bif (tkS (nbV 4 (txS (tkS 1 r))) (tkS 4 (txS (tkS 1 r)))).bad then 4 else 0
    rw [e5]
    cases hb2 : (tkS (nbV 4 (txS (tkS 1 r))) (tkS 4 (txS (tkS 1 r)))).bad with
    | false =>
     have h7:=tkS_ok hb2
     have h6:=tkS_ok h7.1
     have : (4 : Int).toNat = 4:=rfl
     have:=h7.2.2
     rw [hdt] at this
     simp only [cond_false]
     omega
    | true =>
     simp only [cond_true]
     have hl1:=tkS_len 4 (txS (tkS 1 r))
     have hd0 : data.length = 0:=by rw [← hdt,tkS_bad hb2];rfl
     have hl2:=tkS_len (nbV 4 (txS (tkS 1 r))) (tkS 4 (txS (tkS 1 r)))
     omega
   ·rename_i h3
    rw [if_neg h3] at hz;cases hz
  ·rename_i hh
   rw [if_neg hh] at hz;cases hz
theorem RpI.fit {σ0 σ : Sto} {a : ByteArray} {L : Nat} {r : RdS} (h : RpI σ0 a L r σ) (hf : σ0.Fit) (hL : L ≤ 80000) : σ.Fit:=by
 refine ⟨by rw [h.eb];exact hf.sb,fun e=>?_,by rw [h.ev];exact hf.vs,fun e he=>?_,by rw [h.el];exact hf.lg⟩
 ·by_cases hea : e = a
  ·rw [hea];exact h.sa
  ·rw [h.so e hea];exact KSrt.nil
 ·have h1:=nameB_len he
  have h2 : (payI e (σ.staged e)).length = 4 + e.size + ((σ.staged e).flatMap entI).length:=by
   unfold payI txI;simp [beN_length,bytesI_length];omega
  rw [h2]
  by_cases hea : e = a
  ·have h3:=h.sz
   rw [hea]
   rw [hea] at h1
   cases hrb : r.bad <;> rw [hrb] at h3 <;> simp only [cond_false,cond_true] at h3 <;> omega
  ·rw [h.so e hea];simp;omega
theorem RpI.len {σ0 σ : Sto} {a : ByteArray} {L : Nat} {r : RdS} (h : RpI σ0 a L r σ) (hL : L ≤ 80000) : (σ.staged a).length ≤ 1000000:=by
 have h1:=flat_len (σ.staged a)
 have h2:=h.sz
 cases hb : r.bad <;> rw [hb] at h2 <;> simp only [cond_false,cond_true] at h2 <;> omega
theorem RpI.bytes {σ0 σ : Sto} {a : ByteArray} {L : Nat} {r : RdS} (h : RpI σ0 a L r σ) : ∀ e,∀ p ∈ σ.staged e,Byt p.2.data:=fun e p hp=>by
 by_cases hea : e = a
 ·subst hea;exact h.by' p hp
 ·rw [h.so e hea] at hp;cases hp
structure RLS where
 H : List AObj
 σ : Sto
 r : RdS
 e : Int
structure RLI (s i : Nat) (H0 : List AObj) (ro0 : Nat → Option Role) (σ0 : Sto) (a : ByteArray) (L : Nat) (st : RLS) : Prop where
 rep : ∃ ro z lv,RepR st.H s st.σ ro z lv ∧ ro i = none ∧ ∃ o,Post (H0.set i o) st.H ro0 ro
 rd : st.H[i]? = some (rdO st.r)
 inv : st.e = 0 → RpI σ0 a L st.r st.σ
theorem Post.upd {H : List AObj} {ro' : Nat → Option Role} {H0 : List AObj} {ro0 : Nat → Option Role} {i : Nat} {o : AObj} (h : Post (H0.set i o) H ro0 ro') (hi : i < H0.length) (o' : AObj) : Post (H0.set i o') (H.set i o') ro0 ro':=by
 have hl:=h.1
 rw [List.length_set] at hl
 refine ⟨by simp;exact hl,fun j hj hr=>?_⟩
 rw [List.length_set] at hj
 obtain ⟨h1,h2⟩:=h.2 j (by simp;exact hj) hr
 refine ⟨h1,?_⟩
 by_cases e : i = j
 ·subst e
  rw [List.getElem?_set_self (by omega),List.getElem?_set_self hi]
 ·rw [get_ne' e,get_ne' e]
  rw [get_ne' e] at h2
  exact h2
section
variable {P : Program} (F : F_z1z P) (s i : Nat) (H0 : List AObj) (ro0 : Nat → Option Role) (σ0 : Sto) (a : ByteArray) (L : Nat)
def RLStep (st st' : RLS) : Prop :=
 st'.σ = (rrStep a st.r st.σ).2.2 ∧ st'.r = (rrStep a st.r st.σ).2.1 ∧ st'.e = (rrStep a st.r st.σ).1 ∧ RLI s i H0 ro0 σ0 a L st' ∧
 (nbV 1 st.r = 1 → ACalls P F.z1t.id [.ptr s 1 0 0,.str a,.str (txV (tkS 1 st.r))] (st.H.set i (rdO st'.r)) (fun r H'=>r = .int .i64 st'.e ∧ H' = st'.H)) ∧
 (nbV 1 st.r ≠ 1 → ACalls P F.z1u.id [.ptr s 1 0 0,.str a,.agg [.str (txV (tkS 1 st.r)),.list false 1 (bC (tkL (nbV 4 (txS (tkS 1 st.r))) (tkS 4 (txS (tkS 1 st.r)))))]] (st.H.set i (rdO st'.r)) (fun r H'=>r = .int .i64 st'.e ∧ H' = st'.H))
variable {F s i H0 ro0 σ0 a L}
theorem RLStep.ex {st : RLS} (hI : RLI s i H0 ro0 σ0 a L st) (hi0 : i < H0.length) (he : st.e = 0) (hb : st.r.bad = false) (hL : L ≤ 80000) : ∃ st',RLStep F s i H0 ro0 σ0 a L st st':=by
 have hp:=hI.inv he
 obtain ⟨ro,z,lv,hR,hro,o,hP⟩:=hI.rep
 have hnm : (txV (tkS 1 st.r)).size ≤ 255:=txV_size (tkS_byt hp.rb)
 have hil:=(List.getElem?_eq_some_iff.1 hI.rd).1
 by_cases hrm : nbV 1 st.r = 1
 ·have h1:=hR.other hro (rdO (txS (tkS 1 st.r)))
  obtain ⟨_,H1,hc,rfl,ro',z',lv',hR',hP'⟩:=rRemove_spec F.z1t h1 a (txV (tkS 1 st.r)) (by omega) hp.sa (hp.len hL)
  have hst : rrStep a st.r st.σ = ((removeR a (txV (tkS 1 st.r)) st.σ).1,txS (tkS 1 st.r),(removeR a (txV (tkS 1 st.r)) st.σ).2):=by unfold rrStep;rw [if_pos hrm]
  obtain ⟨q1,q2⟩:=hP'.2 i (by simp;exact hil) hro
  refine ⟨⟨H1,(rrStep a st.r st.σ).2.2,(rrStep a st.r st.σ).2.1,(rrStep a st.r st.σ).1⟩,rfl,rfl,rfl,⟨⟨ro',z',lv',by rw [hst];exact hR',q1,_,(hP.upd hi0 _).trans hP'⟩,?_,fun h0=>rrStep_inv hp hb h0⟩,fun _=>?_,fun h=>absurd hrm h⟩
  ·show H1[i]? = some (rdO (rrStep a st.r st.σ).2.1)
   rw [q2,hst];exact set_at hI.rd
  ·show ACalls _ _ _ (st.H.set i (rdO (rrStep a st.r st.σ).2.1)) (fun r H'=>r = .int .i64 (rrStep a st.r st.σ).1 ∧ H' = H1)
   rw [hst];exact hc
 ·have h1:=hR.other hro (rdO (tkS (nbV 4 (txS (tkS 1 st.r))) (tkS 4 (txS (tkS 1 st.r)))))
  have hdl : (tkL (nbV 4 (txS (tkS 1 st.r))) (tkS 4 (txS (tkS 1 st.r)))).length ≤ 10000000:=by
   have h2:=tkL_len2 (nbV 4 (txS (tkS 1 st.r))) (tkS 4 (txS (tkS 1 st.r)))
   have h3:=tkS_len 4 (txS (tkS 1 st.r))
   have h4:=txS_len (tkS 1 st.r)
   have h5:=tkS_len 1 st.r
   have h6:=hp.sz
   rw [hb] at h6
   simp only [cond_false] at h6
   omega
  obtain ⟨_,H1,hc,rfl,ro',z',lv',hR',hP'⟩:=rStage_spec F.z1u h1 a (txV (tkS 1 st.r)) false (tkL (nbV 4 (txS (tkS 1 st.r))) (tkS 4 (txS (tkS 1 st.r)))) (by omega) hdl hp.sa (hp.len hL)
  have hst : rrStep a st.r st.σ = ((stageR a (txV (tkS 1 st.r)) (tkL (nbV 4 (txS (tkS 1 st.r))) (tkS 4 (txS (tkS 1 st.r)))) st.σ).1,tkS (nbV 4 (txS (tkS 1 st.r))) (tkS 4 (txS (tkS 1 st.r))),(stageR a (txV (tkS 1 st.r)) (tkL (nbV 4 (txS (tkS 1 st.r))) (tkS 4 (txS (tkS 1 st.r)))) st.σ).2):=by unfold rrStep;rw [if_neg hrm]
  obtain ⟨q1,q2⟩:=hP'.2 i (by simp;exact hil) hro
  refine ⟨⟨H1,(rrStep a st.r st.σ).2.2,(rrStep a st.r st.σ).2.1,(rrStep a st.r st.σ).1⟩,rfl,rfl,rfl,⟨⟨ro',z',lv',by rw [hst];exact hR',q1,_,(hP.upd hi0 _).trans hP'⟩,?_,fun h0=>rrStep_inv hp hb h0⟩,fun h=>absurd h hrm,fun _=>?_⟩
  ·show H1[i]? = some (rdO (rrStep a st.r st.σ).2.1)
   rw [q2,hst];exact set_at hI.rd
  ·show ACalls _ _ _ (st.H.set i (rdO (rrStep a st.r st.σ).2.1)) (fun r H'=>r = .int .i64 (rrStep a st.r st.σ).1 ∧ H' = H1)
   rw [hst];exact hc
variable (F s i H0 ro0 σ0 a L)
open Classical in
noncomputable def rlNx (st : RLS) : RLS:=if h : ∃ st',RLStep F s i H0 ro0 σ0 a L st st' then Classical.choose h else st
noncomputable def rlFin : Nat → RLS → RLS
 | 0,st=>st
 | n + 1,st=>if st.r.bad then st else if (rlNx F s i H0 ro0 σ0 a L st).e = 0 then rlFin n (rlNx F s i H0 ro0 σ0 a L st) else rlNx F s i H0 ro0 σ0 a L st
variable {F s i H0 ro0 σ0 a L}
theorem rlNx_step {st : RLS} (hI : RLI s i H0 ro0 σ0 a L st) (hi0 : i < H0.length) (he : st.e = 0) (hb : st.r.bad = false) (hL : L ≤ 80000) : RLStep F s i H0 ro0 σ0 a L st (rlNx F s i H0 ro0 σ0 a L st):=by
 have h:=RLStep.ex (F:=F) hI hi0 he hb hL
 unfold rlNx
 rw [dif_pos h]
 exact Classical.choose_spec h
theorem rlFin_spec (hi0 : i < H0.length) (hL : L ≤ 80000) : ∀ (n : Nat) {st : RLS},RLI s i H0 ro0 σ0 a L st → st.e = 0 → RLI s i H0 ro0 σ0 a L (rlFin F s i H0 ro0 σ0 a L n st) ∧
  match rrLoop a n st.r st.σ with
  | none=>(rlFin F s i H0 ro0 σ0 a L n st).e ≠ 0
  | some (r,σ)=>(rlFin F s i H0 ro0 σ0 a L n st).e = 0 ∧ (rlFin F s i H0 ro0 σ0 a L n st).r = r ∧ (rlFin F s i H0 ro0 σ0 a L n st).σ = σ
 | 0,st,hI,he=>⟨hI,he,rfl,rfl⟩
 | n + 1,st,hI,he=>by
  rw [rrLoop_succ]
  unfold rlFin
  cases hb : st.r.bad with
  | true=>rw [if_pos rfl,if_pos rfl];exact ⟨hI,he,rfl,rfl⟩
  | false =>
   simp only [Bool.false_eq_true,if_false]
   obtain ⟨h1,h2,h3,h4,_,_⟩:=rlNx_step (F:=F) hI hi0 he hb hL
   by_cases hz : (rlNx F s i H0 ro0 σ0 a L st).e = 0
   ·rw [if_pos hz,if_pos (by rw [← h3];exact hz),← h1,← h2]
    exact rlFin_spec hi0 hL n h4 hz
   ·rw [if_neg hz,if_neg (by rw [← h3];exact hz)]
    exact ⟨h4,hz⟩
def ReplayQ (H : List AObj) (s i : Nat) (ro : Nat → Option Role) (o : Option Sto) (v : AVal) (H' : List AObj) : Prop:=match o with
 | none=>v = .bool false ∧ ∃ ro' o',Post (H.set i o') H' ro ro'
 | some σ'=>v = .bool true ∧ ∃ ro' z' lv' o',RepR H' s σ' ro' z' lv' ∧ Post (H.set i o') H' ro ro'
variable {H : List AObj} {σ : Sto} {ro : Nat → Option Role} {z : SP} {lv : AVal} {p : List Int}
set_option maxRecDepth 20000 in
theorem replay_walk (hi : H[i]? = some (rdO ⟨p,false⟩)) (hb : Byt p) (hl : p.length ≤ 80000) (hk : nbV 1 ⟨p,false⟩ ≠ 2) (st0 : RLS) (hst : st0 = ⟨H.set i (rdO (tkS 2 (rpB p))),σ,tkS 2 (rpB p),0⟩)
  (hI0 : RLI s i H ro σ (rpA p) p.length st0) (stf : RLS) (hstf : stf = rlFin F s i H ro σ (rpA p) p.length (nbV 2 (rpB p)).toNat st0) (E : Int) (Hc : List AObj)
  (hC : nbV 1 ⟨p,false⟩ = 1 → stf.e = 0 → stf.r.bad = false → ACalls P F.z1o.id [.ptr s 1 0 0,.str (rpA p)] stf.H (fun r H'=>r = .int .i64 E ∧ H' = Hc)) :
  ACalls P F.id [.ptr s 1 0 0,.ptr i 1 0 0] H (fun v H'=>((stf.e = 0 ∧ nbV 1 ⟨p,false⟩ = 1 ∧ stf.r.bad = false) → v = .bool (E == 0) ∧ H' = Hc) ∧ (¬ (stf.e = 0 ∧ nbV 1 ⟨p,false⟩ = 1 ∧ stf.r.bad = false) → v = .bool false ∧ H' = stf.H)):=by
 have hil:=(List.getElem?_eq_some_iff.1 hi).1
 have b1 : Byt (tkS 1 ⟨p,false⟩).rest:=tkS_byt hb
 have b2 : Byt (rpB p).rest:=txS_byt b1
 have hn:=nbV_bound (n:=2) (s:=rpB p) (by omega) (by omega) b2
 refine acalls_of_body F.has ?_
 (conv=>whnf);refine ACalls.mono (r36number_spec F.z21 1 (by omega) (by omega) ⟨p,false⟩ hb H i hi) ?_
 rintro v H1 ⟨rfl,rfl⟩
 (conv=>whnf);refine ACalls.mono (r36text_spec F.z23 (tkS 1 ⟨p,false⟩) b1 _ i (set_at hi)) ?_
 rintro v H1 ⟨rfl,rfl⟩
 (conv=>whnf);refine recF (by simpa using hk) ?_
 (conv=>whnf);refine ACalls.mono (r36number_spec F.z21 2 (by omega) (by omega) (rpB p) b2 _ i (set_at (set_at hi))) ?_
 rintro v H1 ⟨rfl,rfl⟩
 conv=>whnf
 rw [List.set_set,List.set_set]
 refine ⟨fun m ρ H1=>∃ st,H1 = st.H ∧ RLI s i H ro σ (rpA p) p.length st ∧ st.e = 0 ∧ rlFin F s i H ro σ (rpA p) p.length m st = stf ∧ m ≤ 4294967296 ∧
  Sv 72 [(0,.ptr s 1 0 0),(1,.ptr i 1 0 0),(5,.int .i64 (nbV 1 ⟨p,false⟩)),(6,.str (rpA p)),(7,.int .i64 m)] ρ,(nbV 2 (rpB p)).toNat,[],?_,?_⟩
 ·exact ⟨st0,by rw [hst],hI0,by rw [hst],hstf.symm,by omega,Sv.intro rfl ⟨rfl,rfl,rfl,rfl,intEq (by omega),trivial⟩⟩
 rintro m ρ H1 ⟨st,rfl,hI,he,hfin,hmm,d,rfl⟩
 have hnm:=txV_size (s:=tkS 1 st.r) (tkS_byt (hI.inv he).rb)
 (conv=>whnf);refine recA (fun hm=>?_) (fun hm=>?_)
 ·simp at hm
  obtain ⟨m,rfl⟩ : ∃ j,m = j + 1:=⟨m - 1,by omega⟩
  have hwm : IntKind.i64.wrap (((m + 1 : Nat) : Int) - 1) = (m : Int):=by rw [wrapI _ (by omega) (by omega)];omega
  unfold rlFin at hfin
  (conv=>whnf);refine recO (hI.rd) ?_
  cases hqb : st.r.bad with
  | true =>
   rw [hqb,if_pos rfl] at hfin
   subst hfin
   (conv=>whnf);refine recF (by rw [hqb];rfl) ?_
   (conv=>whnf);refine recA (fun hk1=>?_) (fun hk1=>?_)
   ·simp at hk1
    (conv=>whnf);refine recO (hI.rd) ?_
    cases hbad : st.r.bad with
    | true =>
     (conv=>whnf);refine recF (by rw [hbad];rfl) ?_
     conv=>whnf
     exact ⟨fun h=>absurd h.2.2 (by decide),fun _=>⟨rfl,rfl⟩⟩
    | false =>
     (conv=>whnf);refine recT (by rw [hbad];rfl) ?_
     (conv=>whnf);refine ACalls.mono (hC hk1 he hbad) ?_
     rintro v H1 ⟨rfl,rfl⟩
     conv=>whnf
     exact ⟨fun _=>⟨rfl,rfl⟩,fun h=>absurd ⟨he,hk1,rfl⟩ h⟩
   ·simp at hk1
    conv=>whnf
    exact ⟨fun h=>absurd h.2.1 hk1,fun _=>⟨rfl,rfl⟩⟩
  | false =>
   rw [hqb] at hfin
   simp only [Bool.false_eq_true,if_false] at hfin
   obtain ⟨e1,e2,e3,hI2,hcR,hcS⟩:=rlNx_step (F:=F) hI hil he hqb hl
   generalize rlNx F s i H ro σ (rpA p) p.length st = st' at *
   have b3:=tkS_byt (n:=1) (hI.inv he).rb
   have b4:=txS_byt b3
   (conv=>whnf);refine recT (by rw [hqb];rfl) ?_
   (conv=>whnf);refine ACalls.mono (r36number_spec F.z21 1 (by omega) (by omega) st.r (hI.inv he).rb _ i hI.rd) ?_
   rintro v H1 ⟨rfl,rfl⟩
   (conv=>whnf);refine ACalls.mono (r36text_spec F.z23 (tkS 1 st.r) b3 _ i (set_at hI.rd)) ?_
   rintro v H1 ⟨rfl,rfl⟩
   by_cases hrm : nbV 1 st.r = 1
   ·have e4 : st'.r = txS (tkS 1 st.r):=by rw [e2];unfold rrStep;rw [if_pos hrm]
    have hc:=hcR hrm
    rw [e4] at hc
    (conv=>whnf);refine recT (by simpa using hrm) ?_
    conv=>whnf
    rw [List.set_set]
    refine ACalls.mono hc ?_
    rintro v H1 ⟨rfl,rfl⟩
    by_cases hz : st'.e = 0
    ·rw [if_pos hz] at hfin
     (conv=>whnf);refine recF (by simp [hz]) ?_
     conv=>whnf
     rw [hwm]
     refine ⟨m,by omega,Gp.keep rfl ?_ fun ρ1 h=>⟨st',rfl,hI2,hz,hfin,by omega,h⟩⟩
     exact ⟨rfl,rfl,rfl,rfl,rfl,trivial⟩
    ·rw [if_neg hz] at hfin
     subst hfin
     (conv=>whnf);refine recT (by simp [hz]) ?_
     conv=>whnf
     exact ⟨fun h=>absurd h.1 hz,fun _=>⟨rfl,rfl⟩⟩
   ·have e4 : st'.r = tkS (nbV 4 (txS (tkS 1 st.r))) (tkS 4 (txS (tkS 1 st.r))):=by rw [e2];unfold rrStep;rw [if_neg hrm]
    have hc:=hcS hrm
    rw [e4] at hc
    (conv=>whnf);refine recF (by simpa using hrm) ?_
    (conv=>whnf);refine ACalls.mono (r36number_spec F.z21 4 (by omega) (by omega) (txS (tkS 1 st.r)) b4 _ i (set_at (set_at hI.rd))) ?_
    rintro v H1 ⟨rfl,rfl⟩
    (conv=>whnf);refine ACalls.mono (take_spec (asB_rtake F.z22) _ (nbV_bound (by omega) (by omega) b4).1 (tkS 4 (txS (tkS 1 st.r))) _ i (set_at (set_at (set_at hI.rd)))) ?_
    rintro v H1 ⟨rfl,rfl⟩
    conv=>whnf
    rw [List.set_set,List.set_set,List.set_set]
    refine ACalls.mono hc ?_
    rintro v H1 ⟨rfl,rfl⟩
    by_cases hz : st'.e = 0
    ·rw [if_pos hz] at hfin
     (conv=>whnf);refine recF (by simp [hz]) ?_
     conv=>whnf
     rw [hwm]
     refine ⟨m,by omega,Gp.keep rfl ?_ fun ρ1 h=>⟨st',rfl,hI2,hz,hfin,by omega,h⟩⟩
     exact ⟨rfl,rfl,rfl,rfl,rfl,trivial⟩
    ·rw [if_neg hz] at hfin
     subst hfin
     (conv=>whnf);refine recT (by simp [hz]) ?_
     conv=>whnf
     exact ⟨fun h=>absurd h.1 hz,fun _=>⟨rfl,rfl⟩⟩
 ·simp at hm
  obtain rfl : m = 0:=by omega
  have hfin : st = stf:=hfin
  subst hfin
  (conv=>whnf);refine recA (fun hk1=>?_) (fun hk1=>?_)
  ·simp at hk1
   (conv=>whnf);refine recO (hI.rd) ?_
   cases hbad : st.r.bad with
   | true =>
    (conv=>whnf);refine recF (by rw [hbad];rfl) ?_
    conv=>whnf
    exact ⟨fun h=>absurd h.2.2 (by decide),fun _=>⟨rfl,rfl⟩⟩
   | false =>
    (conv=>whnf);refine recT (by rw [hbad];rfl) ?_
    (conv=>whnf);refine ACalls.mono (hC hk1 he hbad) ?_
    rintro v H1 ⟨rfl,rfl⟩
    conv=>whnf
    exact ⟨fun _=>⟨rfl,rfl⟩,fun h=>absurd ⟨he,hk1,rfl⟩ h⟩
  ·simp at hk1
   conv=>whnf
   exact ⟨fun h=>absurd h.2.1 hk1,fun _=>⟨rfl,rfl⟩⟩
set_option maxRecDepth 20000 in
theorem replay_spec {P : Program} (F : F_z1z P) (h : RepR H s σ ro z lv) (hi : H[i]? = some (rdO ⟨p,false⟩)) (hr : ro i = none) (hb : Byt p) (hl : p.length ≤ 80000) (hf : σ.Fit) (hst : ∀ e,σ.staged e = []) :
  Det P F.id [.ptr s 1 0 0,.ptr i 1 0 0] H (ReplayQ H s i ro (replayR σ p)):=by
 have hil:=(List.getElem?_eq_some_iff.1 hi).1
 have b1 : Byt (tkS 1 ⟨p,false⟩).rest:=tkS_byt hb
 have b2 : Byt (rpB p).rest:=txS_byt b1
 unfold replayR
 by_cases hk : nbV 1 ⟨p,false⟩ = 2
 ·rw [if_pos hk]
  obtain ⟨_,H1,hc,rfl,ro',z',lv',hR',hP'⟩:=rSwap_spec F.z1w (h.other hr (rdO (txS (rpB p)))) (rpA p) (txV (rpB p)) hf
  refine ⟨.bool ((swapR (rpA p) (txV (rpB p)) σ).1 == 0),H1,?_,?_⟩
  ·refine acalls_of_body F.has ?_
   (conv=>whnf);refine ACalls.mono (r36number_spec F.z21 1 (by omega) (by omega) ⟨p,false⟩ hb H i hi) ?_
   rintro v H1 ⟨rfl,rfl⟩
   (conv=>whnf);refine ACalls.mono (r36text_spec F.z23 (tkS 1 ⟨p,false⟩) b1 _ i (set_at hi)) ?_
   rintro v H1 ⟨rfl,rfl⟩
   (conv=>whnf);refine recT (by simpa using hk) ?_
   (conv=>whnf);refine ACalls.mono (r36text_spec F.z23 (rpB p) b2 _ i (set_at (set_at hi))) ?_
   rintro v H1 ⟨rfl,rfl⟩
   conv=>whnf
   rw [List.set_set,List.set_set]
   refine ACalls.mono hc ?_
   rintro v H1 ⟨rfl,rfl⟩
   conv=>whnf
   exact ⟨rfl,rfl⟩
  ·by_cases hz : (swapR (rpA p) (txV (rpB p)) σ).1 = 0
   ·rw [if_pos hz]
    exact ⟨by rw [hz];rfl,_,_,_,_,hR',hP'⟩
   ·rw [if_neg hz]
    refine ⟨?_,_,_,hP'⟩
    have : ((swapR (rpA p) (txV (rpB p)) σ).1 == 0) = false:=by simpa using hz
    rw [this]
 ·rw [if_neg hk]
  have hI0 : RLI s i H ro σ (rpA p) p.length ⟨H.set i (rdO (tkS 2 (rpB p))),σ,tkS 2 (rpB p),0⟩:=by
   refine ⟨⟨ro,z,lv,h.other hr _,hr,_,Post.refl _ _⟩,set_at hi,fun _=>⟨rfl,rfl,rfl,fun e _=>hst e,by rw [hst];exact KSrt.nil,(fun q hq=>by rw [hst] at hq;cases hq),tkS_byt b2,?_⟩⟩
   rw [hst]
   have h1:=tkS_len 2 (rpB p)
   have h2:=txS_len (tkS 1 ⟨p,false⟩)
   have h3:=tkS_len 1 (⟨p,false⟩ : RdS)
   have h4 : (rpB p).rest.length ≤ p.length:=Nat.le_trans h2 h3
   simp only [List.flatMap_nil,List.length_nil]
   omega
  obtain ⟨hIf,hm⟩:=rlFin_spec (F:=F) hil hl (nbV 2 (rpB p)).toNat hI0 rfl
  obtain ⟨stf,hstf⟩ : ∃ stf,stf = rlFin F s i H ro σ (rpA p) p.length (nbV 2 (rpB p)).toNat ⟨H.set i (rdO (tkS 2 (rpB p))),σ,tkS 2 (rpB p),0⟩:=⟨_,rfl⟩
  rw [← hstf] at hIf hm
  obtain ⟨rof,zf,lvf,hRf,hrof,of,hPf⟩:=hIf.rep
  have hm : match rrLoop (rpA p) (nbV 2 (rpB p)).toNat (tkS 2 (rpB p)) σ with
   | none=>stf.e ≠ 0
   | some (r,σ)=>stf.e = 0 ∧ stf.r = r ∧ stf.σ = σ:=hm
  by_cases hc : stf.e = 0 ∧ nbV 1 ⟨p,false⟩ = 1 ∧ stf.r.bad = false
  ·obtain ⟨he,hk1,hbad⟩:=hc
   have hp:=hIf.inv he
   obtain ⟨_,Hc,hcm,rfl,ro',z',lv',hR',hP'⟩:=rCommit_spec F.z1o hRf (rpA p) (hp.fit hf hl) hp.bytes
   refine ⟨_,Hc,(replay_walk hi hb hl hk _ rfl hI0 stf hstf _ Hc (fun _ _ _=>hcm)).mono fun v H' hq=>hq.1 ⟨he,hk1,hbad⟩,?_⟩
   cases hrr : rrLoop (rpA p) (nbV 2 (rpB p)).toNat (tkS 2 (rpB p)) σ with
   | none=>rw [hrr] at hm;exact absurd he hm
   | some q =>
    obtain ⟨r,σ'⟩:=q
    rw [hrr] at hm
    obtain ⟨_,hm1,hm2⟩:=hm
    subst hm1 hm2
    simp only []
    by_cases hz : (commitR (rpA p) stf.σ).1 = 0
    ·rw [if_pos ⟨hk1,hbad,hz⟩]
     exact ⟨by rw [hz];rfl,_,_,_,_,hR',hPf.trans hP'⟩
    ·rw [if_neg fun h=>hz h.2.2]
     refine ⟨?_,_,_,hPf.trans hP'⟩
     have : ((commitR (rpA p) stf.σ).1 == 0) = false:=by simpa using hz
     rw [this]
  ·refine ⟨.bool false,stf.H,(replay_walk hi hb hl hk _ rfl hI0 stf hstf 0 stf.H (fun h1 h2 h3=>absurd ⟨h2,h1,h3⟩ hc)).mono fun v H' hq=>hq.2 hc,?_⟩
   cases hrr : rrLoop (rpA p) (nbV 2 (rpB p)).toNat (tkS 2 (rpB p)) σ with
   | none=>exact ⟨rfl,_,_,hPf⟩
   | some q =>
    obtain ⟨r,σ'⟩:=q
    rw [hrr] at hm
    obtain ⟨hm0,hm1,hm2⟩:=hm
    subst hm1 hm2
    simp only []
    rw [if_neg fun h=>hc ⟨hm0,h.1,h.2.1⟩]
    exact ⟨rfl,_,_,hPf⟩
end
def okLog (σ σ' : Sto) (p : List Int) : Bool:=σ'.log.drop σ.log.length == jEnt p
def ropenL : Sto → List (List Int) → Option Sto
 | σ,[]=>some σ
 | σ,p :: ps=>match replayR σ p with
  | none=>none
  | some σ'=>bif okLog σ σ' p then ropenL σ' ps else none
theorem ropenL_cons (σ : Sto) (p : List Int) (ps : List (List Int)) : ropenL σ (p :: ps) = match replayR σ p with
  | none=>none
  | some σ'=>bif okLog σ σ' p then ropenL σ' ps else none:=rfl
structure Sto.RR (σ : Sto) (k : Nat) (lg : List Int) : Prop where
 vs : ∀ e,0 ≤ σ.vers e ∧ σ.vers e ≤ k
 sb : ∀ e,KSrt (σ.blobs e)
 st : ∀ e,σ.staged e = []
 lg' : σ.log = lg
theorem Sto.RR.new : (Sto.new []).RR 0 []:=⟨fun _=>⟨Int.le_refl _,Int.le_refl _⟩,fun _=>KSrt.nil,fun _=>rfl,rfl⟩
theorem Sto.RR.fit {σ : Sto} {k : Nat} {lg : List Int} (h : σ.RR k lg) (hk : k ≤ 1000000) (hl : lg.length ≤ 5000000) : σ.Fit:=by
 refine ⟨h.sb,fun e=>by rw [h.st e];exact KSrt.nil,fun e=>by have:=h.vs e;omega,fun e he=>?_,by rw [h.lg'];exact hl⟩
 have h1:=nameB_len he
 rw [h.st e]
 unfold payI txI
 simp [beN_length,bytesI_length];omega
theorem rrLoop_inv {σ0 : Sto} {a : ByteArray} {L : Nat} : ∀ (n : Nat) {r : RdS} {σ : Sto} {r' : RdS} {σ' : Sto},RpI σ0 a L r σ → rrLoop a n r σ = some (r',σ') → RpI σ0 a L r' σ'
 | 0,r,σ,r',σ',h,he=>by cases he;exact h
 | n + 1,r,σ,r',σ',h,he=>by
  rw [rrLoop_succ] at he
  split at he
  ·cases he;exact h
  ·rename_i hb
   split at he
   ·rename_i hz
    exact rrLoop_inv n (rrStep_inv h (by simpa using hb) hz) he
   ·cases he
theorem swapR_ok {a b : ByteArray} {σ : Sto} (h : (swapR a b σ).1 = 0) : nameB a = true ∧ nameB b = true ∧ a ≠ b ∧ jFull σ.log (spayI a b) = false ∧ (swapR a b σ).2 = swpS (lgS σ (σ.log ++ jEnt (spayI a b))) a b:=by
 unfold swapR at h ⊢
 split at h
 ·cases h
 ·rename_i h1
  split at h
  ·cases h
  ·rename_i h2
   split at h
   ·cases h
   ·rename_i h3
    rw [if_neg h1,if_neg h2,if_neg h3]
    simp at h1 h3
    exact ⟨h1.1,h1.2,h2,h3,rfl⟩
theorem commitR_ok {a : ByteArray} {σ : Sto} (h : (commitR a σ).1 = 0) : nameB a = true ∧ (σ.staged a).length ≠ 0 ∧ (afterL (σ.blobs a) (σ.staged a)).length ≤ 256 ∧ jFull σ.log (payI a (σ.staged a)) = false ∧
  (commitR a σ).2 = comS σ a (afterL (σ.blobs a) (σ.staged a)) (σ.log ++ jEnt (payI a (σ.staged a))):=by
 unfold commitR at h ⊢
 split at h
 ·cases h
 ·rename_i h1
  split at h
  ·cases h
  ·rename_i h2
   split at h
   ·cases h
   ·rename_i h3
    split at h
    ·cases h
    ·rename_i h4
     rw [if_neg h1,if_neg h2,if_neg h3,if_neg h4]
     simp at h1 h4
     exact ⟨h1,h2,by omega,h4,rfl⟩
theorem replayR_some {σ σ' : Sto} {p : List Int} (h : replayR σ p = some σ') :
  (nbV 1 ⟨p,false⟩ = 2 ∧ (swapR (rpA p) (txV (rpB p)) σ).1 = 0 ∧ σ' = (swapR (rpA p) (txV (rpB p)) σ).2) ∨
  ∃ r σ1,nbV 1 ⟨p,false⟩ = 1 ∧ rrLoop (rpA p) (nbV 2 (rpB p)).toNat (tkS 2 (rpB p)) σ = some (r,σ1) ∧ r.bad = false ∧ (commitR (rpA p) σ1).1 = 0 ∧ σ' = (commitR (rpA p) σ1).2:=by
 unfold replayR at h
 split at h
 ·rename_i hk
  split at h
  ·rename_i hz;cases h;exact .inl ⟨hk,hz,rfl⟩
  ·cases h
 ·split at h
  ·cases h
  ·rename_i r σ1 he
   split at h
   ·rename_i hc;cases h;exact .inr ⟨r,σ1,hc.1,he,hc.2.1,hc.2.2,rfl⟩
   ·cases h
theorem rpi0 {σ : Sto} {k : Nat} {lg : List Int} (h : σ.RR k lg) {p : List Int} (hb : Byt p) : RpI σ (rpA p) p.length (tkS 2 (rpB p)) σ:=by
 have b1 : Byt (tkS 1 ⟨p,false⟩).rest:=tkS_byt hb
 have b2 : Byt (rpB p).rest:=txS_byt b1
 refine ⟨rfl,rfl,rfl,fun e _=>h.st e,by rw [h.st];exact KSrt.nil,(fun q hq=>by rw [h.st] at hq;cases hq),tkS_byt b2,?_⟩
 rw [h.st]
 have h1:=tkS_len 2 (rpB p)
 have h2:=txS_len (tkS 1 ⟨p,false⟩)
 have h3:=tkS_len 1 (⟨p,false⟩ : RdS)
 have h4 : (rpB p).rest.length ≤ p.length:=Nat.le_trans h2 h3
 simp only [List.flatMap_nil,List.length_nil]
 omega
theorem replayR_keep {σ σ' : Sto} {k : Nat} {lg p : List Int} (h : σ.RR k lg) (hb : Byt p) (hr : replayR σ p = some σ') : (∃ pay,σ'.log = lg ++ jEnt pay ∧ Byt pay) ∧ (∀ lg',σ'.log = lg' → σ'.RR (k + 1) lg'):=by
 have hv : ∀ e,0 ≤ σ.vers e ∧ σ.vers e ≤ ((k + 1 : Nat) : Int):=fun e=>⟨(h.vs e).1,by have:=(h.vs e).2;omega⟩
 have hv1 : ∀ e,0 ≤ σ.vers e + 1 ∧ σ.vers e + 1 ≤ ((k + 1 : Nat) : Int):=fun e=>⟨by have:=(h.vs e).1;omega,by have:=(h.vs e).2;omega⟩
 rcases replayR_some hr with ⟨_,hz,rfl⟩ | ⟨r,σ1,_,hl,_,hz,rfl⟩
 ·obtain ⟨_,_,hne,_,he⟩:=swapR_ok hz
  rw [he]
  refine ⟨⟨_,by show σ.log ++ _ = _;rw [h.lg'],spayI_byt _ _⟩,fun lg' hlg=>⟨?_,?_,?_,hlg⟩⟩
  ·exact updS_all (Q:=fun x : Int=>0 ≤ x ∧ x ≤ ((k + 1 : Nat) : Int)) (updS_all (Q:=fun x : Int=>0 ≤ x ∧ x ≤ ((k + 1 : Nat) : Int)) hv (hv1 _)) (hv1 _)
  ·exact updS_all (updS_all h.sb (h.sb _)) (h.sb _)
  ·exact updS_all (Q:=fun x=>x = []) (updS_all (Q:=fun x=>x = []) h.st rfl) rfl
 ·have hi:=rrLoop_inv _ (rpi0 h hb) hl
  obtain ⟨_,_,_,_,he⟩:=commitR_ok hz
  rw [he]
  refine ⟨⟨_,by show σ1.log ++ _ = _;rw [hi.el,h.lg'],payI_byt _ hi.by'⟩,fun lg' hlg=>⟨?_,?_,?_,hlg⟩⟩
  ·exact updS_all (Q:=fun x : Int=>0 ≤ x ∧ x ≤ ((k + 1 : Nat) : Int)) (fun e=>by show 0 ≤ σ1.vers e ∧ σ1.vers e ≤ ((k + 1 : Nat) : Int);rw [hi.ev];exact hv e) (by show 0 ≤ σ1.vers _ + 1 ∧ _;rw [hi.ev];exact hv1 _)
  ·refine updS_all (f:=σ1.blobs) (by rw [hi.eb];exact h.sb) (afterL_srt _ (by rw [hi.eb];exact h.sb _))
  ·intro e
   show updS σ1.staged (rpA p) [] e = []
   by_cases hea : e = rpA p
   ·rw [hea];exact updS_same _ _ _
   ·rw [updS_other _ _ hea];exact hi.so e hea
theorem okLog_iff {σ σ' : Sto} {lg p pay : List Int} (h1 : σ.log = lg) (h2 : σ'.log = lg ++ jEnt pay) (h : okLog σ σ' p = true) : σ'.log = lg ++ jEnt p:=by
 unfold okLog at h
 rw [h1,h2,List.drop_left] at h
 rw [h2,eq_of_beq h]
theorem jLog_append (a b : List (List Int)) : jLog (a ++ b) = jLog a ++ jLog b:=by
 induction a with
 | nil=>rfl
 | cons x a ih=>rw [List.cons_append,jLog_cons,jLog_cons,ih,List.append_assoc]
def ROpenQ (H : List AObj) (o : Option Sto) (r : AVal) (H' : List AObj) : Prop:=match o with
 | none=>r = .tuple [.nilp,.int .i64 11] ∧ ∃ ro,Post H H' (fun _=>none) ro
 | some σ=>∃ s ro z lv,r = .tuple [.ptr s 1 0 0,.int .i64 0] ∧ RepR H' s σ ro z lv ∧ Post H H' (fun _=>none) ro
section
variable {H : List AObj}
def newRo (n : Nat) : Nat → Option Role:=fun i=>if i = n then some .b else if i = n + 1 then some .t else if i = n + 2 then some .v else if i = n + 3 then some .s else none
theorem RepR.empty (H : List AObj) : RepR (H ++ [.map [],.map [],.map [],.arr 4 [[.mp H.length,.mp (H.length + 1),.mp (H.length + 2),.nil]]]) (H.length + 3) (Sto.new []) (newRo H.length)
  ⟨H.length,H.length + 1,H.length + 2,[],[],[],[],[],[]⟩ .nil:=by
 refine ⟨by simp,by simp,by simp,by simp,by simp [newRo],by simp [newRo],by simp [newRo],by simp [newRo],PM.nil,PM.nil,PM.nil,KSrt.nil,KSrt.nil,KSrt.nil,fun _=>rfl,fun _=>rfl,fun _=>rfl,fun i hi=>?_,.inl ⟨rfl,rfl⟩⟩
 simp only [List.length_append,List.length_cons,List.length_nil]
 by_cases h1 : i = H.length
 ·omega
 by_cases h2 : i = H.length + 1
 ·omega
 by_cases h3 : i = H.length + 2
 ·omega
 by_cases h4 : i = H.length + 3
 ·omega
 ·unfold newRo at hi
  rw [if_neg h1,if_neg h2,if_neg h3,if_neg h4] at hi;exact absurd rfl hi
theorem newRo_post (H X : List AObj) : Post H (H ++ X) (fun _=>none) (newRo H.length) :=
 ⟨by simp,fun i hi _=>⟨by unfold newRo;rw [if_neg (by omega),if_neg (by omega),if_neg (by omega),if_neg (by omega)],get_app hi⟩⟩
def rnewX (n : Nat) : List AObj:=[.map [],.map [],.map [],.arr 4 [[.mp n,.mp (n + 1),.mp (n + 2),.nil]]]
set_option maxRecDepth 20000 in
theorem rNew_spec {P : Program} (F : F_z1m P) (H : List AObj) :
  ACalls P F.id [] H (fun r H'=>r = .ptr (H.length + 3) 1 0 0 ∧ H' = H ++ rnewX H.length):=by
 refine acalls_of_body F.has ?_
 have l0 : 0 + H.length = H.length:=by simp
 have l1 : 0 + (H ++ [AObj.map []]).length = H.length + 1:=by simp
 have l2 : 0 + (H ++ [AObj.map []] ++ [AObj.map []]).length = H.length + 2:=by simp
 have e3 : H ++ [AObj.map []] ++ [AObj.map []] ++ [AObj.map []] = H ++ [.map [],.map [],.map []]:=by simp
 (conv=>whnf);refine snocK_to ?_
 (conv=>whnf);refine snocK_to ?_
 (conv=>whnf);refine snocK_to ?_
 rw [l0,l1,l2,e3]
 (conv=>whnf);refine snocK_to ?_
 conv=>whnf
 exact ⟨by simp,by simp [rnewX]⟩
set_option maxRecDepth 20000 in
theorem rOpen_raw {P : Program} (F : F_z1n P) (v : AVal) (e : Bool) (ps : List (List Int)) (n : Int)
  (hRd : ∀ X,ACalls P F.z1l.id [v] (H ++ X) (fun r H'=>r = .tuple [.list e 1 (pL ps),.int .i64 n] ∧ H' = H ++ X))
  (hps : ps.length ≤ 1000000) (hpb : ∀ p ∈ ps,Byt p ∧ p.length ≤ 80000) (hpl : (jLog ps).length ≤ 4000000) :
  ACalls P F.id [v] H (ROpenQ H (ropenL (Sto.new []) ps)):=by
 refine acalls_of_body F.has ?_
 (conv=>whnf);refine ACalls.mono (rNew_spec F.z1m H) ?_
 rintro r H1 ⟨rfl,rfl⟩
 (conv=>whnf);refine ACalls.use (hRd _) ?_
 conv=>whnf
 refine ⟨fun m ρ H1=>∃ (k : Nat) (σ : Sto) (ro : Nat → Option Role) (z : SP) (lv : AVal),k + m = ps.length ∧ ropenL σ (ps.drop k) = ropenL (Sto.new []) ps ∧ σ.RR k (jLog (ps.take k)) ∧ RepR H1 (H.length + 3) σ ro z lv ∧ Post H H1 (fun _=>none) ro ∧
  Sv 48 [(4,.ptr (H.length + 3) 1 0 0),(16,.list e 1 (pL ps)),(17,.int .i64 ps.length),(18,.int .i64 k)] ρ,ps.length,[],?_,?_⟩
 ·exact ⟨0,_,_,_,_,by omega,rfl,Sto.RR.new,RepR.empty H,newRo_post _ _,Sv.intro rfl ⟨rfl,rfl,intEq (by rw [pL_length]),rfl,trivial⟩⟩
 rintro m ρ H1 ⟨k,σ,ro,z,lv,hk,hop,hrr,hR,hP,d,rfl⟩
 (conv=>whnf);refine recA (fun hlt=>?_) (fun hlt=>?_)
 ·simp at hlt
  obtain ⟨p,hx,hdr,hmem⟩:=get_drop hlt
  rw [hdr,ropenL_cons] at hop
  obtain ⟨hpb1,hpl1⟩:=hpb p hmem
  (conv=>whnf);refine And.intro (by omega) ?_
  (conv=>whnf);refine recO (pL_get hx) ?_
  have hlgl : σ.log.length ≤ 4000000:=by
   rw [hrr.lg']
   have : (jLog ps).length = (jLog (ps.take k)).length + (jLog (ps.drop k)).length:=by rw [← List.length_append,← jLog_append,List.take_append_drop]
   omega
  have hfit:=hrr.fit (by omega) (by rw [← hrr.lg'];omega)
  obtain ⟨v1,H2,hc,hq⟩:=replay_spec F.z1z (hR.app (X:=[rdO ⟨p,false⟩])) (i:=H1.length) (p:=p) (by simp) (hR.fresh (Nat.le_refl _)) hpb1 hpl1 hfit hrr.st
  have hbox : ∀ {ro' : Nat → Option Role} {o' : AObj},Post ((H1 ++ [rdO ⟨p,false⟩]).set H1.length o') H2 ro ro' → Post H H2 (fun _=>none) ro':=fun {ro' o'} h=>by
   have e : (H1 ++ [rdO ⟨p,false⟩]).set H1.length o' = H1 ++ [o']:=by simp
   rw [e] at h
   exact (hP.trans (Post.app H1 [o'] ro)).trans h
  have hix : 0 + H1.length = H1.length:=by simp
  (conv=>whnf);refine recO (hR.hs) ?_
  rcases hR.lg with ⟨rfl,hlog⟩ | rfl
  ·have h0' : (0 : Int) = σ.log.length:=by rw [hlog];rfl
   (conv=>whnf);refine snocK_to ?_
   rw [hix]
   (conv=>whnf);refine ⟨_,_,hc,?_⟩
   cases hrp : replayR σ p with
   | none =>
    rw [hrp] at hq hop
    obtain ⟨rfl,ro',o',hP2⟩:=hq
    have hop : none = ropenL (Sto.new []) ps:=hop
    rw [← hop]
    conv=>whnf
    exact ⟨rfl,_,hbox hP2⟩
   | some σ' =>
    rw [hrp] at hq hop
    obtain ⟨rfl,ro',z',lv',o',hR2,hP2⟩:=hq
    obtain ⟨⟨pay,hpay,hpby⟩,hkeep⟩:=replayR_keep hrr hpb1 hrp
    have hll:=congrArg List.length hpay
    rw [List.length_append,jEnt_length,← hrr.lg'] at hll
    (conv=>whnf);refine recO (hR2.hs) ?_
    rcases hR2.lg with ⟨_,h0⟩ | rfl
    ·rw [h0,List.length_nil] at hll
     omega
    have hsl : ∀ n : Int,n = σ.log.length → List.drop n.toNat (List.take (bC σ'.log).length (bC σ'.log)) = bC (σ'.log.drop σ.log.length):=fun n hn=>by
     rw [List.take_length,hn,Int.toNat_natCast,bC_drop]
    have hbd : Byt (σ'.log.drop σ.log.length):=by
     rw [hpay,← hrr.lg',List.drop_left];exact jEnt_byt hpby
    have hlb:=bC_length σ.log
    have hlb':=bC_length σ'.log
    (conv=>whnf);refine And.intro (⟨by omega,by rw [hlb'];omega⟩) ?_
    conv=>whnf
    refine ⟨_,(congrArg bytesOf (hsl _ h0')).trans (bytesOf_bC _),?_⟩
    (conv=>whnf);refine ⟨_,ref35_Entry_spec F.z1j false p (by omega) hpb1 _,?_⟩
    (conv=>whnf);refine ⟨_,bytesOf_bC _,?_⟩
    replace hop : (bif okLog σ σ' p then ropenL σ' (ps.drop (k + 1)) else none) = ropenL (Sto.new []) ps:=hop
    cases hok : okLog σ σ' p with
    | true =>
     rw [hok] at hop
     (conv=>whnf);refine recF (by rw [byt_beq hbd (jEnt_byt hpb1)];show (!(okLog σ σ' p)) = false;rw [hok];rfl) ?_
     conv=>whnf
     have hlg:=okLog_iff hrr.lg' hpay hok
     refine ⟨m - 1,by omega,Gp.keep rfl ?_ fun ρ1 h=>⟨k + 1,σ',ro',z',_,by omega,hop,hkeep _ (by rw [hlg,take_succ_get hx,jLog_append];simp [jLog]),hR2,hbox hP2,h⟩⟩
     exact ⟨rfl,rfl,rfl,intEq (wrapI ((k : Int) + 1) (by omega) (by omega)),trivial⟩
    | false =>
     rw [hok] at hop
     have hop : none = ropenL (Sto.new []) ps:=hop
     rw [← hop]
     (conv=>whnf);refine recT (by rw [byt_beq hbd (jEnt_byt hpb1)];show (!(okLog σ σ' p)) = true;rw [hok];rfl) ?_
     conv=>whnf
     exact ⟨rfl,_,hbox hP2⟩
  ·have h0' : ((bC σ.log).length : Int) = σ.log.length:=by rw [bC_length]
   (conv=>whnf);refine snocK_to ?_
   rw [hix]
   (conv=>whnf);refine ⟨_,_,hc,?_⟩
   cases hrp : replayR σ p with
   | none =>
    rw [hrp] at hq hop
    obtain ⟨rfl,ro',o',hP2⟩:=hq
    have hop : none = ropenL (Sto.new []) ps:=hop
    rw [← hop]
    conv=>whnf
    exact ⟨rfl,_,hbox hP2⟩
   | some σ' =>
    rw [hrp] at hq hop
    obtain ⟨rfl,ro',z',lv',o',hR2,hP2⟩:=hq
    obtain ⟨⟨pay,hpay,hpby⟩,hkeep⟩:=replayR_keep hrr hpb1 hrp
    have hll:=congrArg List.length hpay
    rw [List.length_append,jEnt_length,← hrr.lg'] at hll
    (conv=>whnf);refine recO (hR2.hs) ?_
    rcases hR2.lg with ⟨_,h0⟩ | rfl
    ·rw [h0,List.length_nil] at hll
     omega
    have hsl : ∀ n : Int,n = σ.log.length → List.drop n.toNat (List.take (bC σ'.log).length (bC σ'.log)) = bC (σ'.log.drop σ.log.length):=fun n hn=>by
     rw [List.take_length,hn,Int.toNat_natCast,bC_drop]
    have hbd : Byt (σ'.log.drop σ.log.length):=by
     rw [hpay,← hrr.lg',List.drop_left];exact jEnt_byt hpby
    have hlb:=bC_length σ.log
    have hlb':=bC_length σ'.log
    (conv=>whnf);refine And.intro (⟨by omega,by rw [hlb'];omega⟩) ?_
    conv=>whnf
    refine ⟨_,(congrArg bytesOf (hsl _ h0')).trans (bytesOf_bC _),?_⟩
    (conv=>whnf);refine ⟨_,ref35_Entry_spec F.z1j false p (by omega) hpb1 _,?_⟩
    (conv=>whnf);refine ⟨_,bytesOf_bC _,?_⟩
    replace hop : (bif okLog σ σ' p then ropenL σ' (ps.drop (k + 1)) else none) = ropenL (Sto.new []) ps:=hop
    cases hok : okLog σ σ' p with
    | true =>
     rw [hok] at hop
     (conv=>whnf);refine recF (by rw [byt_beq hbd (jEnt_byt hpb1)];show (!(okLog σ σ' p)) = false;rw [hok];rfl) ?_
     conv=>whnf
     have hlg:=okLog_iff hrr.lg' hpay hok
     refine ⟨m - 1,by omega,Gp.keep rfl ?_ fun ρ1 h=>⟨k + 1,σ',ro',z',_,by omega,hop,hkeep _ (by rw [hlg,take_succ_get hx,jLog_append];simp [jLog]),hR2,hbox hP2,h⟩⟩
     exact ⟨rfl,rfl,rfl,intEq (wrapI ((k : Int) + 1) (by omega) (by omega)),trivial⟩
    | false =>
     rw [hok] at hop
     have hop : none = ropenL (Sto.new []) ps:=hop
     rw [← hop]
     (conv=>whnf);refine recT (by rw [byt_beq hbd (jEnt_byt hpb1)];show (!(okLog σ σ' p)) = true;rw [hok];rfl) ?_
     conv=>whnf
     exact ⟨rfl,_,hbox hP2⟩
 ·simp at hlt
  rw [List.drop_eq_nil_of_le hlt] at hop
  have hop : some σ = ropenL (Sto.new []) ps:=hop
  rw [← hop]
  conv=>whnf
  exact ⟨_,_,_,_,rfl,hR,hP⟩
end
end Go.AW
namespace Go.AW
variable [Draws]
structure OkE (p : ByteArray × Chg) : Prop where
 q : qualB p.1 = true
 d : p.2.data.length ≤ 65536
 r : p.2.rm = true → p.2.data = []
theorem nameB_24 {s : ByteArray} (h : nameB s = true) : s.size ≤ 24:=by
 simp [nameB] at h
 omega
theorem txI_app (s : ByteArray) (rest : List Int) (hs : s.size ≤ 255) : txV ⟨txI s ++ rest,false⟩ = s ∧ txS ⟨txI s ++ rest,false⟩ = ⟨rest,false⟩:=⟨(text_app s rest hs).1,(text_app s rest hs).2.2⟩
theorem ent_app {p : ByteArray × Chg} (h : OkE p) (hs : p.1.size ≤ 255) (rest : List Int) :
  nbV 1 ⟨entI p ++ rest,false⟩ = (bif p.2.rm then 1 else 0) ∧ txV (tkS 1 ⟨entI p ++ rest,false⟩) = p.1 ∧ txS (tkS 1 ⟨entI p ++ rest,false⟩) = ⟨(bif p.2.rm then [] else beN 4 p.2.data.length ++ p.2.data) ++ rest,false⟩:=by
 have e1 : entI p ++ rest = [bif p.2.rm then 1 else 0] ++ (txI p.1 ++ ((bif p.2.rm then [] else beN 4 p.2.data.length ++ p.2.data) ++ rest)):=by simp [entI]
 have t1 : tkS 1 ⟨entI p ++ rest,false⟩ = ⟨txI p.1 ++ ((bif p.2.rm then [] else beN 4 p.2.data.length ++ p.2.data) ++ rest),false⟩:=by rw [e1];exact (tk_app [_] _ 1 rfl).2.2
 refine ⟨?_,?_,?_⟩
 ·rw [e1,nb_app [_] _ 1 rfl];show 0 * 256 + _ = _;omega
 ·rw [t1];exact (txI_app _ _ hs).1
 ·rw [t1];exact (txI_app _ _ hs).2
theorem dat_app (d rest : List Int) (h : d.length ≤ 65536) : nbV 4 ⟨beN 4 d.length ++ d ++ rest,false⟩ = d.length ∧ tkS 4 ⟨beN 4 d.length ++ d ++ rest,false⟩ = ⟨d ++ rest,false⟩:=by
 rw [List.append_assoc]
 refine ⟨?_,(tk_app _ _ 4 (by rw [beN_length];rfl)).2.2⟩
 rw [nb_app _ _ 4 (by rw [beN_length];rfl),num_be 4 _ (by omega) (by omega)]
theorem rdStep_app {p : ByteArray × Chg} (h : OkE p) (hs : p.1.size ≤ 255) (rest : List Int) (cs : List (ByteArray × Chg)) : rdStep ⟨entI p ++ rest,false⟩ cs = (⟨rest,false⟩,kIns p.1 p.2 cs):=by
 obtain ⟨e1,e2,e3⟩:=ent_app h hs rest
 obtain ⟨nm,⟨rm,data⟩⟩:=p
 unfold rdStep
 rw [e2,e3]
 have hq:=h.q
 have hd:=h.d
 have hr:=h.r
 dsimp only at e1 e2 e3 hq hd hr ⊢
 have hrm : rdRm ⟨entI (nm,⟨rm,data⟩) ++ rest,false⟩ = rm:=by
  unfold rdRm
  rw [e1]
  cases rm <;> rfl
 rw [hrm]
 cases rm with
 | true =>
  have:=hr rfl
  subst this
  unfold rdData rdEnd
  simp [hq]
 | false =>
  obtain ⟨d1,d2⟩:=dat_app data rest hd
  have d3:=tk_app data rest data.length rfl
  have hdd : rdData ⟨(bif false then [] else beN 4 data.length ++ data) ++ rest,false⟩ false = (data,⟨rest,false⟩):=by
   unfold rdData
   rw [if_neg (by decide)]
   show (tkL (nbV 4 ⟨beN 4 data.length ++ data ++ rest,false⟩) (tkS 4 ⟨beN 4 data.length ++ data ++ rest,false⟩),tkS (nbV 4 ⟨beN 4 data.length ++ data ++ rest,false⟩) (tkS 4 ⟨beN 4 data.length ++ data ++ rest,false⟩)) = _
   rw [d1,d2,d3.1,d3.2.2]
  rw [hdd]
  unfold rdEnd
  simp [hq,hd]
theorem rrStep_app {p : ByteArray × Chg} (h : OkE p) (hs : p.1.size ≤ 255) (rest : List Int) {a : ByteArray} (ha : nameB a = true) (σ : Sto) : rrStep a ⟨entI p ++ rest,false⟩ σ = (0,⟨rest,false⟩,stageS a p.1 p.2 σ):=by
 obtain ⟨e1,e2,e3⟩:=ent_app h hs rest
 obtain ⟨nm,⟨rm,data⟩⟩:=p
 have hq:=h.q
 have hd:=h.d
 have hr:=h.r
 dsimp only at e1 e2 e3 hq hd hr ⊢
 unfold rrStep
 rw [e1,e2,e3]
 cases rm with
 | true =>
  have:=hr rfl
  subst this
  rw [if_pos (by rfl)]
  unfold removeR
  simp [hq,ha]
 | false =>
  obtain ⟨d1,d2⟩:=dat_app data rest hd
  have d3:=tk_app data rest data.length rfl
  rw [if_neg (by decide)]
  show ((stageR a nm (tkL (nbV 4 ⟨beN 4 data.length ++ data ++ rest,false⟩) (tkS 4 ⟨beN 4 data.length ++ data ++ rest,false⟩)) σ).1,tkS (nbV 4 ⟨beN 4 data.length ++ data ++ rest,false⟩) (tkS 4 ⟨beN 4 data.length ++ data ++ rest,false⟩),(stageR a nm (tkL (nbV 4 ⟨beN 4 data.length ++ data ++ rest,false⟩) (tkS 4 ⟨beN 4 data.length ++ data ++ rest,false⟩)) σ).2) = _
  rw [d1,d2,d3.1,d3.2.2]
  unfold stageR
  simp [hq,ha,hd]
theorem qualB_len {s : ByteArray} (h : qualB s = true) : s.size ≤ 255:=Nat.le_trans (qualB_size h) (by decide)
theorem rdLoop_app : ∀ (c : List (ByteArray × Chg)) (rest : List Int) (cs : List (ByteArray × Chg)),(∀ p ∈ c,OkE p) → rdLoop c.length ⟨c.flatMap entI ++ rest,false⟩ cs = (⟨rest,false⟩,c.foldl (fun cs p=>kIns p.1 p.2 cs) cs)
 | [],rest,cs,_=>rfl
 | p :: c,rest,cs,h=>by
  have hp:=h p (List.mem_cons_self ..)
  rw [List.flatMap_cons,List.append_assoc,List.length_cons,rdLoop,if_neg (by simp),rdStep_app hp (qualB_len hp.q)]
  exact rdLoop_app c rest _ fun q hq=>h q (List.mem_cons_of_mem _ hq)
theorem rrLoop_app {a : ByteArray} (ha : nameB a = true) : ∀ (c : List (ByteArray × Chg)) (rest : List Int) (σ : Sto),(∀ p ∈ c,OkE p) → rrLoop a c.length ⟨c.flatMap entI ++ rest,false⟩ σ = some (⟨rest,false⟩,c.foldl (fun σ p=>stageS a p.1 p.2 σ) σ)
 | [],rest,σ,_=>rfl
 | p :: c,rest,σ,h=>by
  have hp:=h p (List.mem_cons_self ..)
  rw [List.flatMap_cons,List.append_assoc,List.length_cons,rrLoop,if_neg (by simp),rrStep_app hp (qualB_len hp.q) _ ha,if_pos rfl]
  exact rrLoop_app ha c rest _ fun q hq=>h q (List.mem_cons_of_mem _ hq)
theorem stage_fold (a : ByteArray) : ∀ (c : List (ByteArray × Chg)) (σ : Sto),(c.foldl (fun σ p=>stageS a p.1 p.2 σ) σ).blobs = σ.blobs ∧ (c.foldl (fun σ p=>stageS a p.1 p.2 σ) σ).vers = σ.vers ∧ (c.foldl (fun σ p=>stageS a p.1 p.2 σ) σ).log = σ.log ∧
  (c.foldl (fun σ p=>stageS a p.1 p.2 σ) σ).staged a = c.foldl (fun cs p=>kIns p.1 p.2 cs) (σ.staged a) ∧ ∀ e,e ≠ a → (c.foldl (fun σ p=>stageS a p.1 p.2 σ) σ).staged e = σ.staged e
 | [],σ=>⟨rfl,rfl,rfl,rfl,fun _ _=>rfl⟩
 | p :: c,σ=>by
  rw [List.foldl_cons,List.foldl_cons]
  obtain ⟨h1,h2,h3,h4,h5⟩:=stage_fold a c (stageS a p.1 p.2 σ)
  have e : (stageS a p.1 p.2 σ).staged a = kIns p.1 p.2 (σ.staged a):=updS_same _ _ _
  rw [e] at h4
  exact ⟨h1,h2,h3,h4,fun x hx=>(h5 x hx).trans (updS_other _ _ hx)⟩
theorem kIns_last {α : Type} {k : ByteArray} {x : α} {c : List (ByteArray × α)} (h : ∀ p ∈ c,ltB p.1 k = true) : kIns k x c = c ++ [(k,x)]:=by
 unfold kIns
 rw [List.filter_eq_self.2 h,List.filter_eq_nil_iff.2 (fun p hp hc=>absurd (ltB_asym (h p hp)) (by rw [hc];decide))]
theorem kIns_fold {α : Type} : ∀ (c acc : List (ByteArray × α)),KSrt (acc ++ c) → c.foldl (fun cs p=>kIns p.1 p.2 cs) acc = acc ++ c
 | [],acc,_=>by simp
 | p :: c,acc,h=>by
  have h0:=h
  unfold KSrt at h
  rw [List.pairwise_append] at h
  rw [List.foldl_cons,kIns_last fun q hq=>h.2.2 q hq p (List.mem_cons_self ..)]
  have:=kIns_fold c (acc ++ [(p.1,p.2)]) (by rw [List.append_assoc];exact h0)
  rw [this,List.append_assoc];rfl
theorem rdLoop_ok : ∀ (n : Nat) {q : RdS} {cs : List (ByteArray × Chg)},(∀ p ∈ cs,OkE p) → (rdLoop n q cs).1.bad = false → ∀ p ∈ (rdLoop n q cs).2,OkE p
 | 0,_,_,h,_=>h
 | n + 1,q,cs,h,hb=>by
  unfold rdLoop at hb ⊢
  split
  ·exact h
  ·rename_i hq
   rw [if_neg hq] at hb
   refine rdLoop_ok n (fun p hp=>?_) hb
   have h1:=(rdLoop_len n hb).1
   have hp : p ∈ kIns (txV (tkS 1 q)) ⟨rdRm q,(rdData (txS (tkS 1 q)) (rdRm q)).1⟩ cs:=hp
   have h1 : (rdEnd (rdData (txS (tkS 1 q)) (rdRm q)).2 (txV (tkS 1 q)) (rdData (txS (tkS 1 q)) (rdRm q)).1).bad = false:=h1
   rcases kIns_mem hp with rfl | hp
   ·unfold rdEnd at h1
    split at h1
    ·cases h1
    ·rename_i hc
     simp at hc
     refine ⟨hc.1,hc.2,fun hr=>?_⟩
     show (rdData (txS (tkS 1 q)) (rdRm q)).1 = []
     unfold rdData
     rw [if_pos hr]
   ·exact h p hp
theorem kIns_len {α : Type} (k : ByteArray) (x : α) (c : List (ByteArray × α)) : (kIns k x c).length ≤ c.length + 1:=by
 rw [(kIns_perm k x c).length_eq,List.length_cons]
 exact Nat.succ_le_succ (List.length_filter_le _ _)
theorem rdLoop_cnt : ∀ (n : Nat) (q : RdS) (cs : List (ByteArray × Chg)),(rdLoop n q cs).2.length ≤ cs.length + n
 | 0,_,_=>Nat.le_refl _
 | n + 1,q,cs=>by
  unfold rdLoop
  split
  ·exact Nat.le_add_right _ _
  ·have h1:=rdLoop_cnt n (rdStep q cs).1 (rdStep q cs).2
   have h2 : (rdStep q cs).2.length ≤ cs.length + 1:=kIns_len _ _ _
   omega
theorem rrStep_ok {a : ByteArray} {q : RdS} {σ : Sto} (h : ∀ p ∈ σ.staged a,OkE p) (hz : (rrStep a q σ).1 = 0) : (∀ p ∈ (rrStep a q σ).2.2.staged a,OkE p) ∧ ((rrStep a q σ).2.2.staged a).length ≤ (σ.staged a).length + 1:=by
 unfold rrStep at hz ⊢
 split
 ·rename_i hrm
  rw [if_pos hrm] at hz
  unfold removeR at hz ⊢
  split
  ·rename_i hc
   simp at hc
   have e : (stageS a (txV (tkS 1 q)) ⟨true,[]⟩ σ).staged a = kIns (txV (tkS 1 q)) ⟨true,[]⟩ (σ.staged a):=updS_same _ _ _
   show (∀ p ∈ (stageS a (txV (tkS 1 q)) ⟨true,[]⟩ σ).staged a,OkE p) ∧ ((stageS a (txV (tkS 1 q)) ⟨true,[]⟩ σ).staged a).length ≤ _
   rw [e]
   refine ⟨fun p hp=>?_,kIns_len _ _ _⟩
   rcases kIns_mem hp with rfl | hp
   ·exact ⟨hc.2,by simp,fun _=>rfl⟩
   ·exact h p hp
  ·rename_i hc;rw [if_neg hc] at hz;cases hz
 ·rename_i hrm
  rw [if_neg hrm] at hz
  generalize tkL (nbV 4 (txS (tkS 1 q))) (tkS 4 (txS (tkS 1 q))) = data at hz ⊢
  unfold stageR at hz ⊢
  split
  ·rename_i hc
   rw [if_pos hc] at hz
   split
   ·rename_i hd
    simp at hc
    have e : (stageS a (txV (tkS 1 q)) ⟨false,data⟩ σ).staged a = kIns (txV (tkS 1 q)) ⟨false,data⟩ (σ.staged a):=updS_same _ _ _
    show (∀ p ∈ (stageS a (txV (tkS 1 q)) ⟨false,data⟩ σ).staged a,OkE p) ∧ ((stageS a (txV (tkS 1 q)) ⟨false,data⟩ σ).staged a).length ≤ _
    rw [e]
    refine ⟨fun p hp=>?_,kIns_len _ _ _⟩
    rcases kIns_mem hp with rfl | hp
    ·exact ⟨hc.2,hd,fun h=>by cases h⟩
    ·exact h p hp
   ·rename_i hd;rw [if_neg hd] at hz;cases hz
  ·rename_i hc;rw [if_neg hc] at hz;cases hz
theorem rrLoop_ok {a : ByteArray} : ∀ (n : Nat) {q q' : RdS} {σ σ' : Sto},(∀ p ∈ σ.staged a,OkE p) → rrLoop a n q σ = some (q',σ') → (∀ p ∈ σ'.staged a,OkE p) ∧ (σ'.staged a).length ≤ (σ.staged a).length + n
 | 0,q,q',σ,σ',h,he=>by cases he;exact ⟨h,Nat.le_refl _⟩
 | n + 1,q,q',σ,σ',h,he=>by
  rw [rrLoop_succ] at he
  split at he
  ·cases he;exact ⟨h,Nat.le_add_right _ _⟩
  ·split at he
   ·rename_i hz
    obtain ⟨h1,h2⟩:=rrStep_ok h hz
    obtain ⟨h3,h4⟩:=rrLoop_ok n h1 he
    exact ⟨h3,by omega⟩
   ·cases he
theorem pay_head {env : ByteArray} (he : nameB env = true) {c : List (ByteArray × Chg)} (hc : c.length ≤ 65535) :
  nbV 1 ⟨payI env c,false⟩ = 1 ∧ rpA (payI env c) = env ∧ nbV 2 (rpB (payI env c)) = c.length ∧ tkS 2 (rpB (payI env c)) = ⟨c.flatMap entI ++ [],false⟩:=by
 have hs : env.size ≤ 255:=nameB_len he
 have e1 : payI env c = [1] ++ (txI env ++ (beN 2 c.length ++ (c.flatMap entI ++ []))):=by simp [payI]
 have t1 : tkS 1 ⟨payI env c,false⟩ = ⟨txI env ++ (beN 2 c.length ++ (c.flatMap entI ++ [])),false⟩:=by rw [e1];exact (tk_app [_] _ 1 rfl).2.2
 have t2 : rpB (payI env c) = ⟨beN 2 c.length ++ (c.flatMap entI ++ []),false⟩:=by rw [rpB,t1];exact (txI_app _ _ hs).2
 refine ⟨?_,?_,?_,?_⟩
 ·rw [e1,nb_app [_] _ 1 rfl];rfl
 ·rw [rpA,t1];exact (txI_app _ _ hs).1
 ·rw [t2,nb_app _ _ 2 (by rw [beN_length];rfl),num_be 2 _ (by omega) (by omega)]
 ·rw [t2];exact (tk_app _ _ 2 (by rw [beN_length];rfl)).2.2
theorem spay_head {a b : ByteArray} (ha : nameB a = true) (hb : nameB b = true) :
  nbV 1 ⟨spayI a b,false⟩ = 2 ∧ rpA (spayI a b) = a ∧ txV (rpB (spayI a b)) = b ∧ txS (rpB (spayI a b)) = ⟨[],false⟩:=by
 have e1 : spayI a b = [2] ++ (txI a ++ (txI b ++ [])):=by simp [spayI]
 have t1 : tkS 1 ⟨spayI a b,false⟩ = ⟨txI a ++ (txI b ++ []),false⟩:=by rw [e1];exact (tk_app [_] _ 1 rfl).2.2
 have t2 : rpB (spayI a b) = ⟨txI b ++ [],false⟩:=by rw [rpB,t1];exact (txI_app _ _ (nameB_len ha)).2
 refine ⟨?_,?_,?_,?_⟩
 ·rw [e1,nb_app [_] _ 1 rfl];rfl
 ·rw [rpA,t1];exact (txI_app _ _ (nameB_len ha)).1
 ·rw [t2];exact (txI_app _ _ (nameB_len hb)).1
 ·rw [t2];exact (txI_app _ _ (nameB_len hb)).2
theorem jEnt_inj {a b : List Int} (h : jEnt a = jEnt b) : a = b:=by
 have e : ∀ p,(jEnt p).drop 8 = p:=fun p=>by
  unfold jEnt
  rw [List.drop_left' (by simp [beN_length])]
 rw [← e a,h,e b]
theorem entryR_pay {σ : Sto} {env : ByteArray} (he : nameB env = true) {c : List (ByteArray × Chg)} (hs : KSrt c) (hok : ∀ p ∈ c,OkE p) (hn : c ≠ []) (hc : c.length ≤ 65535) (hbig : (afterL (σ.blobs env) c).length ≤ 256) :
  applyR σ (payI env c) = some (comF σ env (afterL (σ.blobs env) c)):=by
 obtain ⟨h1,h2,h3,h4⟩:=pay_head he hc
 have hA : txV (tkS 1 ⟨payI env c,false⟩) = env:=h2
 have hB : txS (tkS 1 ⟨payI env c,false⟩) = rpB (payI env c):=rfl
 have hr : rcomC (tkS 1 ⟨payI env c,false⟩) = (⟨[],false⟩,c):=by
  unfold rcomC
  rw [hB,h3,h4,Int.toNat_natCast,rdLoop_app c [] [] hok,kIns_fold c [] hs];rfl
 have h0 : c.length ≠ 0:=fun h=>hn (List.eq_nil_of_length_eq_zero h)
 have hrc : rcommitR σ (tkS 1 ⟨payI env c,false⟩) = some (payI env c,comF σ env (afterL (σ.blobs env) c)):=by
  unfold rcommitR
  rw [hr,hA]
  dsimp only
  rw [decide_eq_false (show ¬ 256 < (afterL (σ.blobs env) c).length by omega),he,decide_eq_false h0];rfl
 unfold applyR entryR
 rw [if_pos h1,hrc]
 simp
theorem replayR_pay {σ : Sto} {env : ByteArray} (he : nameB env = true) {c : List (ByteArray × Chg)} (hs : KSrt c) (hok : ∀ p ∈ c,OkE p) (hn : c ≠ []) (hc : c.length ≤ 65535) (hbig : (afterL (σ.blobs env) c).length ≤ 256)
  (hf : jFull σ.log (payI env c) = false) (hst : ∀ e,σ.staged e = []) :
  ∃ σ',replayR σ (payI env c) = some σ' ∧ σ'.blobs = (comF σ env (afterL (σ.blobs env) c)).blobs ∧ σ'.vers = (comF σ env (afterL (σ.blobs env) c)).vers ∧ σ'.log = σ.log ++ jEnt (payI env c):=by
 obtain ⟨h1,h2,h3,h4⟩:=pay_head he hc
 obtain ⟨g1,g2,g3,g4,_⟩:=stage_fold env c σ
 rw [hst,kIns_fold c [] hs,List.nil_append] at g4
 have hl : rrLoop (rpA (payI env c)) (nbV 2 (rpB (payI env c))).toNat (tkS 2 (rpB (payI env c))) σ = some (⟨[],false⟩,c.foldl (fun σ p=>stageS env p.1 p.2 σ) σ):=by
  rw [h2,h3,h4,Int.toNat_natCast];exact rrLoop_app he c [] σ hok
 have hcm : commitR env (c.foldl (fun σ p=>stageS env p.1 p.2 σ) σ) = (0,comS (c.foldl (fun σ p=>stageS env p.1 p.2 σ) σ) env (afterL (σ.blobs env) c) (σ.log ++ jEnt (payI env c))):=by
  unfold commitR
  rw [g1,g3,g4,if_neg (by rw [he];decide),if_neg (fun h=>hn (List.eq_nil_of_length_eq_zero h)),if_neg (by omega),if_neg (by rw [hf];decide)]
 refine ⟨comS (c.foldl (fun σ p=>stageS env p.1 p.2 σ) σ) env (afterL (σ.blobs env) c) (σ.log ++ jEnt (payI env c)),?_,?_,?_,rfl⟩
 ·unfold replayR
  rw [if_neg (by rw [h1];decide),hl]
  dsimp only
  rw [h2,hcm,if_pos ⟨h1,rfl,rfl⟩]
 ·show updS (c.foldl (fun σ p=>stageS env p.1 p.2 σ) σ).blobs env _ = updS σ.blobs env _
  rw [g1]
 ·show updS (c.foldl (fun σ p=>stageS env p.1 p.2 σ) σ).vers env ((c.foldl (fun σ p=>stageS env p.1 p.2 σ) σ).vers env + 1) = updS σ.vers env (σ.vers env + 1)
  rw [g2]
theorem applyR_spay {σ : Sto} {a b : ByteArray} (ha : nameB a = true) (hb : nameB b = true) (hne : a ≠ b) : applyR σ (spayI a b) = some (swpS σ a b):=by
 obtain ⟨h1,h2,h3,h4⟩:=spay_head ha hb
 have hA : txV (tkS 1 ⟨spayI a b,false⟩) = a:=h2
 have hB : txS (tkS 1 ⟨spayI a b,false⟩) = rpB (spayI a b):=rfl
 have hrs : rswapR σ (tkS 1 ⟨spayI a b,false⟩) = some (spayI a b,swpS σ a b):=by
  unfold rswapR
  rw [hB,hA,h3,h4,if_neg]
  simp [ha,hb,kEq_false hne]
 unfold applyR entryR
 rw [if_neg (by rw [h1];decide),if_pos h1,hrs]
 simp
theorem replayR_spay {σ : Sto} {a b : ByteArray} (ha : nameB a = true) (hb : nameB b = true) (hne : a ≠ b) (hf : jFull σ.log (spayI a b) = false) : replayR σ (spayI a b) = some (swpS (lgS σ (σ.log ++ jEnt (spayI a b))) a b):=by
 obtain ⟨h1,h2,h3,h4⟩:=spay_head ha hb
 have hs : swapR a b σ = (0,swpS (lgS σ (σ.log ++ jEnt (spayI a b))) a b):=by
  unfold swapR
  rw [if_neg (by rw [ha,hb];decide),if_neg hne,if_neg (by rw [hf];decide)]
 unfold replayR
 rw [if_pos h1,h2,h3,hs,if_pos rfl]
structure Agr (σP σR : Sto) : Prop where
 b : σP.blobs = σR.blobs
 v : σP.vers = σR.vers
 s : ∀ e,σP.staged e = []
set_option maxRecDepth 20000 in
theorem nb2_lt {q : RdS} (h : Byt q.rest) : nbV 2 (txS q) ≤ 65535:=by
 have h1:=num_bnd _ (tkL_byt (n:=2) (txS_byt h))
 have h2:=tkL_len (n:=2) (s:=txS q) (by omega)
 have h3 : (256 : Int) ^ (tkL 2 (txS q)).length ≤ 256 ^ 2:=by
  have : (256 : Nat) ^ (tkL 2 (txS q)).length ≤ 256 ^ 2:=Nat.pow_le_pow_right (by omega) (by omega)
  exact_mod_cast this
 rw [nbV];omega
theorem applyR_some {σ σ' : Sto} {p : List Int} (hb : Byt p) (h : applyR σ p = some σ') :
  (∃ env c,p = payI env c ∧ nameB env = true ∧ KSrt c ∧ (∀ q ∈ c,OkE q) ∧ c ≠ [] ∧ c.length ≤ 65535 ∧ (afterL (σ.blobs env) c).length ≤ 256 ∧ σ' = comF σ env (afterL (σ.blobs env) c)) ∨
  ∃ a b,p = spayI a b ∧ nameB a = true ∧ nameB b = true ∧ a ≠ b ∧ σ' = swpS σ a b:=by
 unfold applyR at h
 split at h
 ·rename_i pay σ1 he
  split at h
  ·rename_i hp
   cases h
   have hp:=eq_of_beq hp
   subst hp
   unfold entryR at he
   split at he
   ·unfold rcommitR at he
    split at he
    ·cases he
    ·rename_i hc
     simp at hc
     obtain ⟨⟨⟨c1,c2⟩,c3⟩,c4⟩:=hc
     simp at he
     obtain ⟨he1,he2⟩:=he
     refine .inl ⟨_,_,he1.symm,c3,rdLoop_srt _ _ KSrt.nil,rdLoop_ok _ (fun q hq=>by cases hq) c1,by simpa using c4,?_,by omega,he2.symm⟩
     have hb2:=nb2_lt (tkS_byt (n:=1) (s:=⟨pay,false⟩) hb)
     have h1:=rdLoop_cnt (nbV 2 (txS (tkS 1 ⟨pay,false⟩))).toNat (tkS 2 (txS (tkS 1 ⟨pay,false⟩))) []
     show (rdLoop (nbV 2 (txS (tkS 1 ⟨pay,false⟩))).toNat (tkS 2 (txS (tkS 1 ⟨pay,false⟩))) []).2.length ≤ 65535
     simp only [List.length_nil] at h1
     omega
   ·split at he
    ·unfold rswapR at he
     split at he
     ·cases he
     ·rename_i hc
      simp at hc
      obtain ⟨⟨⟨c1,c2⟩,c3⟩,c4⟩:=hc
      simp at he
      obtain ⟨he1,he2⟩:=he
      exact .inr ⟨_,_,he1.symm,c2,c3,(fun e=>by rw [e,kEq_refl] at c4;cases c4),he2.symm⟩
    ·cases he
  ·cases h
 ·cases h
theorem replayR_ok {σ σ' : Sto} {k : Nat} {lg p : List Int} (hrr : σ.RR k lg) (hb : Byt p) (h : replayR σ p = some σ') (hk : okLog σ σ' p = true) :
  (∃ env c,p = payI env c ∧ nameB env = true ∧ KSrt c ∧ (∀ q ∈ c,OkE q) ∧ c ≠ [] ∧ c.length ≤ 65535 ∧ (afterL (σ.blobs env) c).length ≤ 256) ∨
  ∃ a b,p = spayI a b ∧ nameB a = true ∧ nameB b = true ∧ a ≠ b:=by
 have key : ∀ pay,σ'.log = σ.log ++ jEnt pay → p = pay:=fun pay he=>by
  unfold okLog at hk
  rw [he,List.drop_left] at hk
  exact (jEnt_inj (eq_of_beq hk)).symm
 rcases replayR_some h with ⟨_,hz,rfl⟩ | ⟨r,σ1,_,hl,_,hz,rfl⟩
 ·obtain ⟨c1,c2,c3,_,he⟩:=swapR_ok hz
  exact .inr ⟨_,_,key _ (by rw [he];rfl),c1,c2,c3⟩
 ·have hi:=rrLoop_inv _ (rpi0 hrr hb) hl
  obtain ⟨h1,h2⟩:=rrLoop_ok _ (fun q hq=>by rw [hrr.st] at hq;cases hq) hl
  obtain ⟨c1,c2,c3,_,he⟩:=commitR_ok hz
  have hb2:=nb2_lt (tkS_byt (n:=1) (s:=⟨p,false⟩) hb)
  have hb3 : nbV 2 (rpB p) ≤ 65535:=hb2
  rw [hrr.st,List.length_nil] at h2
  refine .inl ⟨_,_,key (payI (rpA p) (σ1.staged (rpA p))) ?_,c1,hi.sa,h1,fun h=>c2 (by rw [h];rfl),by omega,by rw [← hi.eb];exact c3⟩
  rw [he]
  show σ1.log ++ _ = σ.log ++ _
  rw [hi.el]
theorem replay_same {σP σR : Sto} {k : Nat} {lg p : List Int} (ha : Agr σP σR) (hrr : σR.RR k lg) (hb : Byt p) (hp : p.length ≤ 65536) (hl : lg.length + 8 + p.length ≤ 4194304) :
  (applyR σP p = none ∧ (replayR σR p = none ∨ ∃ σ',replayR σR p = some σ' ∧ okLog σR σ' p = false)) ∨
  ∃ σ1 σ2,applyR σP p = some σ1 ∧ replayR σR p = some σ2 ∧ okLog σR σ2 p = true ∧ Agr σ1 σ2 ∧ σ1.log = σP.log:=by
 have hf : jFull σR.log p = false:=by
  unfold jFull
  rw [hrr.lg',decide_eq_false (by omega),decide_eq_false (by omega)];rfl
 cases hA : applyR σP p with
 | some σ1 =>
  refine .inr ?_
  rcases applyR_some hb hA with ⟨env,c,rfl,c1,c2,c3,c4,c5,c6,rfl⟩ | ⟨a,b,rfl,c1,c2,c3,rfl⟩
  ·rw [ha.b] at c6
   obtain ⟨σ',h1,h2,h3,h4⟩:=replayR_pay c1 c2 c3 c4 c5 c6 hf hrr.st
   refine ⟨_,σ',rfl,h1,?_,⟨?_,?_,?_⟩,rfl⟩
   ·unfold okLog;rw [h4,List.drop_left];exact beq_self_eq_true _
   ·rw [h2];show updS σP.blobs env _ = updS σR.blobs env _;rw [ha.b]
   ·rw [h3];show updS σP.vers env (σP.vers env + 1) = updS σR.vers env (σR.vers env + 1);rw [ha.v]
   ·exact updS_all (Q:=fun x=>x = []) ha.s rfl
  ·refine ⟨_,_,rfl,replayR_spay c1 c2 c3 hf,?_,⟨?_,?_,?_⟩,rfl⟩
   ·unfold okLog;show ((σR.log ++ jEnt (spayI a b)).drop _ == _) = true;rw [List.drop_left];exact beq_self_eq_true _
   ·show updS (updS σP.blobs a (σP.blobs b)) b (σP.blobs a) = updS (updS σR.blobs a (σR.blobs b)) b (σR.blobs a)
    rw [ha.b]
   ·show updS (updS σP.vers a (σP.vers a + 1)) b (σP.vers b + 1) = updS (updS σR.vers a (σR.vers a + 1)) b (σR.vers b + 1)
    rw [ha.v]
   ·exact updS_all (Q:=fun x=>x = []) (updS_all (Q:=fun x=>x = []) ha.s rfl) rfl
 | none =>
  refine .inl ⟨rfl,?_⟩
  cases hR : replayR σR p with
  | none=>exact .inl rfl
  | some σ' =>
   refine .inr ⟨σ',rfl,?_⟩
   cases hk : okLog σR σ' p with
   | false=>rfl
   | true =>
    exfalso
    rcases replayR_ok hrr hb hR hk with ⟨env,c,rfl,c1,c2,c3,c4,c5,c6⟩ | ⟨a,b,rfl,c1,c2,c3⟩
    ·rw [← ha.b] at c6
     rw [entryR_pay c1 c2 c3 c4 c5 c6] at hA;cases hA
    ·rw [applyR_spay c1 c2 c3] at hA;cases hA
theorem open_same : ∀ (ps : List (List Int)) {σP σR : Sto} {k : Nat} {lg : List Int},Agr σP σR → σR.RR k lg → (∀ p ∈ ps,Byt p ∧ p.length ≤ 65536) → lg.length + (jLog ps).length ≤ 4194304 →
  (openL σP ps = none ∧ ropenL σR ps = none) ∨ ∃ σ1 σ2,openL σP ps = some σ1 ∧ ropenL σR ps = some σ2 ∧ Agr σ1 σ2 ∧ σ1.log = σP.log ∧ σ2.RR (k + ps.length) (lg ++ jLog ps)
 | [],σP,σR,k,lg,ha,hrr,_,_=>.inr ⟨σP,σR,rfl,rfl,ha,rfl,by simpa [jLog] using hrr⟩
 | p :: ps,σP,σR,k,lg,ha,hrr,hps,hl=>by
  obtain ⟨hb,hp⟩:=hps p (List.mem_cons_self ..)
  rw [jLog_cons,List.length_append,jEnt_length] at hl
  rw [openL_cons,ropenL_cons]
  rcases replay_same ha hrr hb hp (by omega) with ⟨h1,h2⟩ | ⟨σ1,σ2,h1,h2,h3,h4,h5⟩
  ·left
   rw [h1]
   refine ⟨rfl,?_⟩
   rcases h2 with h2 | ⟨σ',h2,h3⟩
   ·rw [h2]
   ·rw [h2];dsimp only;rw [h3];rfl
  ·obtain ⟨⟨pay,hpay,_⟩,hkeep⟩:=replayR_keep hrr hb h2
   have hlg:=okLog_iff hrr.lg' hpay h3
   have hrr2:=hkeep _ hlg
   rw [h1,h2]
   dsimp only
   rw [h3]
   have ih:=open_same ps h4 hrr2 (fun q hq=>hps q (List.mem_cons_of_mem _ hq)) (by rw [List.length_append,jEnt_length];omega)
   rcases ih with h | ⟨σ3,σ4,g1,g2,g3,g4,g5⟩
   ·exact .inl h
   ·refine .inr ⟨σ3,σ4,g1,g2,g3,g4.trans h5,?_⟩
    rw [jLog_cons,← List.append_assoc,List.length_cons,show k + (ps.length + 1) = k + 1 + ps.length by omega]
    exact g5
attribute [local irreducible] ACalls
def tC (l : List ByteArray) : List (List AVal):=l.map fun s=>[.str s]
theorem tC_length (l : List ByteArray) : (tC l).length = l.length:=by simp [tC]
theorem tC_at {l : List ByteArray} {k : Nat} {x : ByteArray} (h : l[k]? = some x) : (tC l)[k]? = some [.str x]:=by rw [tC,List.getElem?_map,h];rfl
theorem keyC_tC {α : Type} (c : List (ByteArray × α)) : keyC c = tC (c.map (·.1)):=by simp [keyC,tC,Function.comp_def]
theorem pureEs_tC (l : List ByteArray) : pureEs (tC l) = true:=by
 unfold pureEs
 rw [List.all_eq_true]
 intro e he
 obtain ⟨s,_,rfl⟩:=List.mem_map.1 he
 rfl
set_option maxRecDepth 20000 in
theorem SameTexts_raw {P : Program} (F : F_z2a P) (e1 e2 : Bool) (l : List ByteArray) (hl : l.length ≤ 1000000) :
  ACalls P F.id [.list e1 1 (tC l),.list e2 1 (tC l)] [] (fun r _=>r = .bool true):=by
 have hn:=tC_length l
 refine acalls_of_body F.has ?_
 (conv=>whnf);refine recF (by simp) ?_
 conv=>whnf
 refine ⟨fun m ρ H1=>∃ k : Nat,k + m = l.length ∧ H1 = [] ∧ Sv 26 [(0,.list e1 1 (tC l)),(1,.list e2 1 (tC l)),(5,.int .i64 k)] ρ,l.length,[],?_,?_⟩
 ·exact ⟨0,by omega,rfl,Sv.intro rfl ⟨rfl,rfl,rfl,trivial⟩⟩
 rintro m ρ H1 ⟨k,hk,rfl,d,rfl⟩
 (conv=>whnf);refine recA (fun hlt=>?_) (fun hlt=>?_)
 ·rw [hn] at hlt
  simp at hlt
  obtain ⟨x,hx,_,_⟩:=get_drop hlt
  (conv=>whnf);refine And.intro (by omega) ?_
  (conv=>whnf);refine recO (tC_at hx) ?_
  (conv=>whnf);refine And.intro (by omega) ?_
  (conv=>whnf);refine recO (tC_at hx) ?_
  (conv=>whnf);refine recF (by simp) ?_
  conv=>whnf
  refine ⟨m - 1,by omega,Gp.keep rfl ?_ fun ρ1 h=>⟨k + 1,by omega,rfl,h⟩⟩
  exact ⟨rfl,rfl,intEq (wrapI ((k : Int) + 1) (by omega) (by omega)),trivial⟩
 ·conv=>whnf
theorem SameTexts_own {P : Program} (F : F_z2a P) (e1 : Bool) (l : List ByteArray) (hl : l.length ≤ 1000000) (H : List AObj) (id n : Nat) (hn : n = l.length) (ho : H[id]? = some (.arr 1 (tC l))) :
  ACalls P F.id [.list e1 1 (tC l),.sl id n 0 n] H (fun r H'=>r = .bool true ∧ H' = H) :=
 ACalls.bor rfl (SameTexts_raw F e1 false l hl) (.cons (.same _ rfl) (.cons (lentSl ho (by rw [tC_length];exact hn) (by rw [tC_length];exact hn) (pureEs_tC l)) .nil))
theorem SameBytes_own {P : Program} (F : F_z29 P) (e1 : Bool) (l : List Int) (hb : Byt l) (H : List AObj) (id n : Nat) (hn : n = l.length) (ho : H[id]? = some (bO l)) :
  ACalls P F.id [.list e1 1 (bC l),.sl id n 0 n] H (fun r H'=>r = .bool true ∧ H' = H) :=
 ACalls.bor rfl ((SameBytes_spec F e1 false l l hb hb []).mono fun r H' h=>by rw [h.1];simp) (.cons (.same _ rfl) (.cons (lentSl (show H[id]? = some (.arr 1 (bC l)) from ho) (by rw [bC_length];exact hn) (by rw [bC_length];exact hn) (pureEs_bC l)) .nil))
structure Ev where
 k : Int
 ex : Bool
 d : List Int
 t : ByteArray
 n : ByteArray
 r4 : AVal
 r5 : AVal
 r6 : AVal
 r7 : AVal
 r8 : AVal
 r9 : AVal
def evA (x : Ev) : List AVal:=[.int .i64 x.k,.list x.ex 1 (bC x.d),.str x.t,.str x.n,x.r4,x.r5,x.r6,x.r7,x.r8,x.r9]
def evC (l : List Ev) : List (List AVal):=l.map evA
theorem evC_length (l : List Ev) : (evC l).length = l.length:=by simp [evC]
theorem evC_at {l : List Ev} {k : Nat} {x : Ev} (h : l[k]? = some x) : (evC l)[k]? = some (evA x):=by rw [evC,List.getElem?_map,h];rfl
theorem evC_append (a b : List Ev) : evC (a ++ b) = evC a ++ evC b:=by simp [evC]
structure Ev.Pu (x : Ev) : Prop where
 p4 : x.r4.isPure = true
 p5 : x.r5.isPure = true
 p6 : x.r6.isPure = true
 p7 : x.r7.isPure = true
 p8 : x.r8.isPure = true
 p9 : x.r9.isPure = true
theorem Ev.Pu.all {x : Ev} (h : x.Pu) : (evA x).all AVal.isPure = true:=by
 unfold evA
 simp only [List.all_cons,List.all_nil,h.p4,h.p5,h.p6,h.p7,h.p8,h.p9,Bool.and_true]
 rfl
def bLive : ByteArray:=bs [108,105,118,101]
def bShadow : ByteArray:=bs [115,104,97,100,111,119]
def bX : ByteArray:=bs [120]
def bA : ByteArray:=bs [97]
def bB : ByteArray:=bs [98]
def bMa : ByteArray:=bs [109,46,97]
def envT (n : Int) : ByteArray:=match n.toNat with
 | 0=>bLive
 | 1=>bShadow
 | _=>bX
def nmT (n : Int) : ByteArray:=match n.toNat with
 | 0=>bA
 | 1=>bB
 | 2=>bMa
 | _=>bLive
theorem envT_at {n : Int} (h0 : 0 ≤ n) (h : n < 3) : ([AVal.str (bs [108,105,118,101])] :: [AVal.str (bs [115,104,97,100,111,119])] :: [AVal.str (bs [120])] :: List.replicate 0 [AVal.str (bs [])])[n.toNat]? = some [.str (envT n)]:=by
 have : n = 0 ∨ n = 1 ∨ n = 2:=by omega
 rcases this with rfl | rfl | rfl <;> rfl
theorem nmT_at {n : Int} (h0 : 0 ≤ n) (h : n < 4) : ([AVal.str (bs [97])] :: [AVal.str (bs [98])] :: [AVal.str (bs [109,46,97])] :: [AVal.str (bs [108,105,118,101])] :: List.replicate 0 [AVal.str (bs [])])[n.toNat]? = some [.str (nmT n)]:=by
 have : n = 0 ∨ n = 1 ∨ n = 2 ∨ n = 3:=by omega
 rcases this with rfl | rfl | rfl | rfl <;> rfl
def a8w (n : Int) : Int:=IntKind.u8.wrap n
def ac1 (l : List Int) (i : Nat):=nx l i 9
def ac2 (l : List Int) (i : Nat):=nx l (ac1 l i).2 3
def ac3 (l : List Int) (i : Nat):=nx l (ac2 l i).2 4
def ac4 (l : List Int) (i : Nat):=nx l (ac3 l i).2 256
def ac5 (l : List Int) (i : Nat):=nx l (ac4 l i).2 3
def ac6 (l : List Int) (i : Nat):=nx l (ac5 l i).2 3
def actE (l : List Int) (i : Nat) : Ev:=⟨(ac1 l i).1,false,[a8w (ac4 l i).1,a8w (ac5 l i).1].take (ac6 l i).1.toNat,envT (ac2 l i).1,nmT (ac3 l i).1,.str (bs []),.nil,.bool false,.int .i64 0,.int .i64 0,.int .i64 0⟩
def actF (l : List Int) : Nat → Nat → List Ev
 | 0,_=>[]
 | f + 1,i=>if i < l.length then actE l i :: actF l f (ac6 l i).2 else []
def actL (l : List Int) : List Ev:=actF l 40 0
theorem ac_le (l : List Int) {i : Nat} (h : i ≤ l.length) : (ac1 l i).2 ≤ l.length ∧ (ac2 l i).2 ≤ l.length ∧ (ac3 l i).2 ≤ l.length ∧ (ac4 l i).2 ≤ l.length ∧ (ac5 l i).2 ≤ l.length ∧ (ac6 l i).2 ≤ l.length:=by
 have h1:=nx_le l i 9 h
 have h2:=nx_le l _ 3 h1
 have h3:=nx_le l _ 4 h2
 have h4:=nx_le l _ 256 h3
 have h5:=nx_le l _ 3 h4
 exact ⟨h1,h2,h3,h4,h5,nx_le l _ 3 h5⟩
structure Ev.Sm (x : Ev) : Prop where
 d : x.d.length ≤ 200
 n : x.n.size ≤ 120
 b : Byt x.d
 p : x.Pu
theorem a8w_byt (n : Int) : 0 ≤ a8w n ∧ a8w n ≤ 255:=u8w_byt n
theorem actE_sm (l : List Int) (i : Nat) : (actE l i).Sm:=by
 refine ⟨?_,?_,fun x hx=>?_,⟨rfl,rfl,rfl,rfl,rfl,rfl⟩⟩
 ·show (List.take _ _).length ≤ 200
  rw [List.length_take]
  have : ([a8w (ac4 l i).1,a8w (ac5 l i).1]).length = 2:=rfl
  omega
 ·show (nmT _).size ≤ 120
  unfold nmT
  split <;> decide
 ·have hx:=List.mem_of_mem_take hx
  simp at hx
  rcases hx with rfl | rfl <;> exact a8w_byt _
theorem actF_sm (l : List Int) : ∀ (f i : Nat),(actF l f i).length ≤ f ∧ ∀ x ∈ actF l f i,x.Sm
 | 0,_=>⟨Nat.le_refl _,fun x hx=>by cases hx⟩
 | f + 1,i=>by
  unfold actF
  split
  ·obtain ⟨h1,h2⟩:=actF_sm l f (ac6 l i).2
   refine ⟨Nat.succ_le_succ h1,fun x hx=>?_⟩
   rcases List.mem_cons.1 hx with rfl | hx
   ·exact actE_sm l i
   ·exact h2 x hx
  ·exact ⟨Nat.zero_le _,fun x hx=>by cases hx⟩
theorem pureEs_evC {l : List Ev} (h : ∀ x ∈ l,x.Pu) : pureEs (evC l) = true:=by
 unfold pureEs
 rw [List.all_eq_true]
 intro e he
 obtain ⟨x,hx,rfl⟩:=List.mem_map.1 he
 exact (h x hx).all
set_option maxRecDepth 20000 in
theorem acts_spec {P : Program} (F : F_z1c P) (l : List Int) (hl : l.length ≤ 1000000) (H : List AObj) :
  ACalls P F.id [.list false 1 (iC l)] H (fun r H'=>r = .list false 10 (evC (actL l)) ∧ H' = H):=by
 refine ACalls.pure rfl (acalls_of_body F.has ?_)
 conv=>whnf
 refine ⟨fun m ρ H1=>∃ (k i : Nat) (out : List Ev),k + m = 40 ∧ i ≤ l.length ∧ out.length = k ∧ (∀ x ∈ out,x.Sm) ∧ out ++ actF l m i = actL l ∧ H1 = [gO l i,.arr 10 (evC out)] ∧
  Sv 49 [(0,.list false 1 (iC l)),(3,.ptr 0 1 0 0),(4,.sl 1 out.length 0 out.length),(5,.int .i64 k)] ρ,40,[(4,10)],?_,?_⟩
 ·conv=>whnf
  exact ⟨0,0,[],rfl,Nat.zero_le _,rfl,(fun x hx=>by cases hx),rfl,rfl,Sv.intro rfl ⟨rfl,rfl,rfl,rfl,trivial⟩⟩
 rintro m ρ H1 ⟨k,i,out,hk,hi,hok,hsm,hfin,rfl,d,rfl⟩
 (conv=>whnf);refine recA (fun h40=>?_) (fun h40=>?_)
 ·simp at h40
  obtain ⟨m,rfl⟩ : ∃ j,m = j + 1:=⟨m - 1,by omega⟩
  rw [actF] at hfin
  (conv=>whnf);refine recA (fun hlt=>?_) (fun hlt=>?_)
  ·rw [iC_length] at hlt
   simp at hlt
   rw [if_pos hlt] at hfin
   obtain ⟨g1,g2,g3,g4,g5,g6⟩:=ac_le l hi
   have n2:=nx_bnd l (ac1 l i).2 3 (by decide)
   have n3:=nx_bnd l (ac2 l i).2 4 (by decide)
   have n6:=nx_bnd l (ac5 l i).2 3 (by decide)
   have N1:=fun H id ho=>Next_spec F.z27 l i 9 hi hl (by decide) H id ho
   have N2:=fun H id ho=>Next_spec F.z27 l (ac1 l i).2 3 g1 hl (by decide) H id ho
   have N3:=fun H id ho=>Next_spec F.z27 l (ac2 l i).2 4 g2 hl (by decide) H id ho
   have N4:=fun H id ho=>Next_spec F.z27 l (ac3 l i).2 256 g3 hl (by decide) H id ho
   have N5:=fun H id ho=>Next_spec F.z27 l (ac4 l i).2 3 g4 hl (by decide) H id ho
   have N6:=fun H id ho=>Next_spec F.z27 l (ac5 l i).2 3 g5 hl (by decide) H id ho
   have hac : actE l i = ⟨(ac1 l i).1,false,[a8w (ac4 l i).1,a8w (ac5 l i).1].take (ac6 l i).1.toNat,envT (ac2 l i).1,nmT (ac3 l i).1,.str (bs []),.nil,.bool false,.int .i64 0,.int .i64 0,.int .i64 0⟩:=rfl
   have hsmE:=actE_sm l i
   change ∀ (H : List AObj) (id : Nat) (ho : _),ACalls _ _ _ _ (fun r H'=>r = .int .i64 (ac1 l i).1 ∧ H' = H.set id (gO l (ac1 l i).2)) at N1
   change ∀ (H : List AObj) (id : Nat) (ho : _),ACalls _ _ _ _ (fun r H'=>r = .int .i64 (ac2 l i).1 ∧ H' = H.set id (gO l (ac2 l i).2)) at N2
   change ∀ (H : List AObj) (id : Nat) (ho : _),ACalls _ _ _ _ (fun r H'=>r = .int .i64 (ac3 l i).1 ∧ H' = H.set id (gO l (ac3 l i).2)) at N3
   change ∀ (H : List AObj) (id : Nat) (ho : _),ACalls _ _ _ _ (fun r H'=>r = .int .i64 (ac4 l i).1 ∧ H' = H.set id (gO l (ac4 l i).2)) at N4
   change ∀ (H : List AObj) (id : Nat) (ho : _),ACalls _ _ _ _ (fun r H'=>r = .int .i64 (ac5 l i).1 ∧ H' = H.set id (gO l (ac5 l i).2)) at N5
   change ∀ (H : List AObj) (id : Nat) (ho : _),ACalls _ _ _ _ (fun r H'=>r = .int .i64 (ac6 l i).1 ∧ H' = H.set id (gO l (ac6 l i).2)) at N6
   change 0 ≤ (ac2 l i).1 ∧ (ac2 l i).1 < 3 at n2
   change 0 ≤ (ac3 l i).1 ∧ (ac3 l i).1 < 4 at n3
   change 0 ≤ (ac6 l i).1 ∧ (ac6 l i).1 < 3 at n6
   generalize ac1 l i = a1 at *
   generalize ac2 l i = a2 at *
   generalize ac3 l i = a3 at *
   generalize ac4 l i = a4 at *
   generalize ac5 l i = a5 at *
   generalize ac6 l i = a6 at *
   obtain ⟨v1,i1⟩:=a1
   obtain ⟨v2,i2⟩:=a2
   obtain ⟨v3,i3⟩:=a3
   obtain ⟨v4,i4⟩:=a4
   obtain ⟨v5,i5⟩:=a5
   obtain ⟨v6,i6⟩:=a6
   dsimp only at N1 N2 N3 N4 N5 N6 n2 n3 n6 g6 hac hfin
   generalize actE l i = ev at hac hsmE hfin
   (conv=>whnf);refine ⟨_,_,N1 _ 0 rfl,?_⟩
   (conv=>whnf);refine ⟨_,_,N2 _ 0 rfl,?_⟩
   (conv=>whnf);refine And.intro (n2.1) ?_
   (conv=>whnf);refine recO (envT_at n2.1 n2.2) ?_
   (conv=>whnf);refine ⟨_,_,N3 _ 0 rfl,?_⟩
   (conv=>whnf);refine And.intro (n3.1) ?_
   (conv=>whnf);refine recO (nmT_at n3.1 n3.2) ?_
   (conv=>whnf);refine ⟨_,_,N4 _ 0 rfl,?_⟩
   (conv=>whnf);refine ⟨_,_,N5 _ 0 rfl,?_⟩
   (conv=>whnf);refine ⟨_,_,N6 _ 0 rfl,?_⟩
   (conv=>whnf);refine And.intro (⟨n6.1,by simp;omega⟩) ?_
   have hE : evC out ++ [[AVal.int IntKind.i64 v1,AVal.list false 1 (List.drop 0 (List.take v6.toNat [[AVal.int IntKind.u8 (IntKind.u8.wrap v4)],[AVal.int IntKind.u8 (IntKind.u8.wrap v5)]])),.str (envT v2),.str (nmT v3),.str (bs []),.nil,.bool false,.int .i64 0,.int .i64 0,.int .i64 0]] = evC (out ++ [ev]):=by
    rw [evC_append,hac]
    show _ = evC out ++ [[AVal.int IntKind.i64 v1,AVal.list false 1 (bC (List.take v6.toNat [a8w v4,a8w v5])),.str (envT v2),.str (nmT v3),.str (bs []),.nil,.bool false,.int .i64 0,.int .i64 0,.int .i64 0]]
    rw [← bC_take];rfl
   (conv=>whnf);refine recT (by rw [evC_length];exact Nat.beq_refl _) ?_
   (conv=>whnf);refine And.intro (⟨by simp [roomB];omega,by simp [roomB];omega,rfl,by rw [evC_length]⟩) ?_
   repeat ((conv=>whnf);first
    | refine And.intro rfl ?_
    | refine And.intro (by (conv=>whnf);refine And.intro n2.1 ?_;(conv=>whnf);refine recO (envT_at n2.1 n2.2) ?_;rfl) ?_
    | refine And.intro (by (conv=>whnf);refine And.intro n3.1 ?_;(conv=>whnf);refine recO (nmT_at n3.1 n3.2) ?_;rfl) ?_)
   conv=>whnf
   refine ⟨m,by omega,Gp.keep rfl ?_ fun ρ1 h=>⟨k + 1,i6,out ++ [ev],by omega,g6,by simp;omega,fun x hx=>?_,by rw [List.append_assoc];exact hfin,congrArg (fun e=>[gO l i6,AObj.arr 10 e]) hE,h⟩⟩
   ·refine ⟨rfl,rfl,?_,intEq (wrapI ((k : Int) + 1) (by omega) (by omega)),trivial⟩
    show AVal.sl _ _ _ _ = _
    simp [evC_length]
   ·rcases List.mem_append.1 hx with hx | hx
    ·exact hsm x hx
    ·simp at hx;subst hx;exact hsmE
  ·rw [iC_length] at hlt
   simp at hlt
   rw [if_neg (by omega),List.append_nil] at hfin
   conv=>whnf
   rw [← hfin]
   exact pubF rfl (evC_length _).symm (evC_length _).symm (pureEs_evC fun x hx=>(hsm x hx).p)
 ·simp at h40
  obtain rfl : m = 0:=by omega
  have hfin : out ++ [] = actL l:=hfin
  rw [List.append_nil] at hfin
  conv=>whnf
  rw [← hfin]
  exact pubF rfl (evC_length _).symm (evC_length _).symm (pureEs_evC fun x hx=>(hsm x hx).p)
def ownRR (ro ro' : Nat → Option Role) (i : Nat) : Prop:=ro i ≠ none ∨ ro' i ≠ none
def Two (H : List AObj) (s r : Nat) (σ : Sto) (own : Nat → Prop) : Prop :=
 ∃ ro z ro' z' lv,RepP H s σ ro z ∧ RepR H r σ ro' z' lv ∧ (∀ i,ro i ≠ none → ro' i = none) ∧ own = ownRR ro ro'
def PostO (H H' : List AObj) (own own' : Nat → Prop) : Prop:=H.length ≤ H'.length ∧ ∀ i,i < H.length → ¬ own i → ¬ own' i ∧ H'[i]? = H[i]?
theorem PostO.trans {H H1 H2 : List AObj} {a b c : Nat → Prop} (h : PostO H H1 a b) (k : PostO H1 H2 b c) : PostO H H2 a c :=
 ⟨Nat.le_trans h.1 k.1,fun i hi hr=>by
  obtain ⟨x,y⟩:=h.2 i hi hr
  obtain ⟨u,v⟩:=k.2 i (Nat.lt_of_lt_of_le hi h.1) x
  exact ⟨u,v.trans y⟩⟩
theorem PostO.app (H X : List AObj) (own : Nat → Prop) : PostO H (H ++ X) own own:=⟨by simp,fun i hi h=>⟨h,List.getElem?_append_left hi⟩⟩
section
variable {H H1 H2 : List AObj} {s r : Nat} {σ σ1 : Sto} {ro ro' ro1 ro1' : Nat → Option Role} {z z' z1 : SP} {lv : AVal}
theorem two_p (hR : RepR H r σ ro' z' lv) (hd : ∀ i,ro i ≠ none → ro' i = none) (hp : Post H H1 ro ro1) : RepR H1 r σ ro' z' lv ∧ ∀ i,ro1 i ≠ none → ro' i = none:=by
 have key : ∀ i,ro' i ≠ none → ro i = none:=fun i h=>Classical.byContradiction fun h2=>h (hd i h2)
 refine ⟨hR.frame (fun i hi=>(hp.2 i (hR.lt i hi) (key i hi)).2) hp.1,fun i hi=>?_⟩
 by_cases h : ro' i = none
 ·exact h
 ·exact absurd (hp.2 i (hR.lt i h) (key i h)).1 hi
theorem two_r (hP : RepP H s σ ro z) (hd : ∀ i,ro i ≠ none → ro' i = none) (hp : Post H H1 ro' ro1') : RepP H1 s σ ro z ∧ ∀ i,ro i ≠ none → ro1' i = none :=
 ⟨hP.frame (fun i hi=>(hp.2 i (hP.lt i hi) (hd i hi)).2) hp.1,fun i hi=>(hp.2 i (hP.lt i hi) (hd i hi)).1⟩
theorem PostO.two (hp : Post H H1 ro ro1) (hp2 : Post H1 H2 ro' ro1') : PostO H H2 (ownRR ro ro') (ownRR ro1 ro1') :=
 ⟨Nat.le_trans hp.1 hp2.1,fun i hi hn=>by
  have h1 : ro i = none:=Classical.byContradiction fun h=>hn (.inl h)
  have h2 : ro' i = none:=Classical.byContradiction fun h=>hn (.inr h)
  obtain ⟨a,b⟩:=hp.2 i hi h1
  obtain ⟨c,d⟩:=hp2.2 i (Nat.lt_of_lt_of_le hi hp.1) h2
  exact ⟨fun h=>h.elim (fun h=>h a) (fun h=>h c),d.trans b⟩⟩
end
theorem Two.app {H X : List AObj} {s r : Nat} {σ : Sto} {own : Nat → Prop} (h : Two H s r σ own) : Two (H ++ X) s r σ own:=by
 obtain ⟨ro,z,ro',z',lv,hP,hR,hd,rfl⟩:=h
 exact ⟨ro,z,ro',z',lv,hP.app,hR.app,hd,rfl⟩
theorem Two.frame {H H' : List AObj} {s r : Nat} {σ : Sto} {own : Nat → Prop} (h : Two H s r σ own) (hk : ∀ i,own i → H'[i]? = H[i]?) (hl : H.length ≤ H'.length) : Two H' s r σ own:=by
 obtain ⟨ro,z,ro',z',lv,hP,hR,hd,rfl⟩:=h
 exact ⟨ro,z,ro',z',lv,hP.frame (fun i hi=>hk i (.inl hi)) hl,hR.frame (fun i hi=>hk i (.inr hi)) hl,hd,rfl⟩
theorem Two.lt {H : List AObj} {s r : Nat} {σ : Sto} {own : Nat → Prop} (h : Two H s r σ own) {i : Nat} (hi : own i) : i < H.length:=by
 obtain ⟨ro,z,ro',z',lv,hP,hR,hd,rfl⟩:=h
 rcases hi with hi | hi
 ·exact hP.lt i hi
 ·exact hR.lt i hi
def playS (x : Ev) (σ : Sto) : Sto :=
 if x.k % 9 < 4 then (stageR x.t x.n x.d σ).2 else if x.k % 9 = 4 then (removeR x.t x.n σ).2 else if x.k % 9 < 7 then (commitR x.t σ).2
 else if x.k % 9 = 7 then (swapR x.t x.n σ).2 else mvS σ x.t
structure Sto.Fit2 (σ : Sto) : Prop where
 f : σ.Fit
 b : ∀ e,∀ p ∈ σ.staged e,Byt p.2.data
 l : ∀ e,(σ.staged e).length ≤ 1000000
theorem cell_pure {v : AVal} (h : v.isPure = true) : v.isCell = true:=by
 cases v <;> first | rfl | (simp [AVal.isPure] at h) | (simp [AVal.isPure] at h;simp [AVal.isCell,h])
theorem Ev.Pu.cells {x : Ev} (h : x.Pu) : (evA x).all AVal.isCell = true:=List.all_eq_true.2 fun v hv=>cell_pure (List.all_eq_true.1 h.all v hv)
section
variable {H : List AObj} {s r : Nat} {σ : Sto} {own : Nat → Prop}
set_option maxRecDepth 20000 in
theorem play_spec {P : Program} (F : F_z1e P) (hCl : MClone P F.z0j.z0t.z0d.id)
  (hS : SKeys P F.z0j.z10.slices_Sorted_string.id F.z0j.z10.z0f.maps_Keys_mapstringstorechange_string_storechange_1.id)
  (hT : Two H s r σ own) (x : Ev) (hx : x.Pu) (hxn : x.n.size ≤ 1000000) (hxd : x.d.length ≤ 10000000) (hf : σ.Fit2) :
  ACalls P F.id [.ptr s 1 0 0,.ptr r 1 0 0,.agg (evA x)] H (fun v H'=>v = .bool true ∧ ∃ own',Two H' s r (playS x σ) own' ∧ PostO H H' own own'):=by
 obtain ⟨ro,z,ro',z',lv,hP,hR,hd,rfl⟩:=hT
 have hv0:=Int.emod_nonneg x.k (show (9 : Int) ≠ 0 by decide)
 have hv9:=Int.emod_lt_of_pos x.k (show (0 : Int) < 9 by decide)
 have l0 : 0 + H.length = H.length:=Nat.zero_add _
 have l1 : ∀ o : AObj,0 + (H ++ [o]).length = H.length + 1:=fun o=>by simp
 have e2 : ∀ o o' : AObj,H ++ [o] ++ [o'] = H ++ [o,o']:=fun o o'=>by simp
 refine acalls_of_body F.has ?_
 (conv=>whnf);refine recT (hx.cells) ?_
 (conv=>whnf);refine snocK_to ?_
 rw [l0]
 (conv=>whnf);refine recO (getA) ?_
 (conv=>whnf);refine ACalls.use (Place_spec F.z28 x.k 9 (by decide) (by decide) _) ?_
 obtain ⟨v,hv⟩ : ∃ v,x.k % 9 = v:=⟨_,rfl⟩
 rw [hv] at hv0 hv9 ⊢
 have hcase : v = 0 ∨ v = 1 ∨ v = 2 ∨ v = 3 ∨ v = 4 ∨ v = 5 ∨ v = 6 ∨ v = 7 ∨ v = 8:=by omega
 clear hv0 hv9
 rcases hcase with rfl | rfl | rfl | rfl | rfl | rfl | rfl | rfl | rfl
 ·have hps : playS x σ = (stageR x.t x.n x.d σ).2:=by unfold playS;rw [hv];rfl
  rw [hps]
  obtain ⟨_,H1,hc,rfl,ro1,z1,hP1,hp1⟩:=Stage_spec F.z0p (hP.app (X:=[.arr 10 [evA x],.arr 2 [[.str x.n,.list x.ex 1 (bC x.d)]]])) x.t x.n x.ex x.d hxn hxd (hf.f.ss _)
  obtain ⟨hR1,hd1⟩:=two_p (hR.app (X:=[.arr 10 [evA x],.arr 2 [[.str x.n,.list x.ex 1 (bC x.d)]]])) hd hp1
  obtain ⟨_,H2,hc2,rfl,ro2,z2,lv2,hR2,hp2⟩:=rStage_spec F.z1u hR1 x.t x.n x.ex x.d hxn hxd (hf.f.ss _) (hf.l _)
  have ha : H1[H.length]? = some (.arr 10 [evA x]):=(hp1.2 H.length (by simp) (hP.fresh (Nat.le_refl _))).2.trans getA
  have hb : H1[H.length + 1]? = some (.arr 2 [[.str x.n,.list x.ex 1 (bC x.d)]]):=(hp1.2 (H.length + 1) (by simp) (hP.fresh (by omega))).2.trans getB
  repeat ((conv=>whnf);first | refine recT (by decide) ?_ | refine recF (by decide) ?_)
  (conv=>whnf);refine recO (getA) ?_
  (conv=>whnf);refine recO (getA) ?_
  (conv=>whnf);refine snocK_to ?_
  rw [l1,e2]
  (conv=>whnf);refine recO (getB) ?_
  (conv=>whnf);refine setO_at setB ?_
  (conv=>whnf);refine recO (getA) ?_
  (conv=>whnf);refine recO (getB) ?_
  (conv=>whnf);refine ⟨_,_,hc,?_⟩
  (conv=>whnf);refine recO (ha) ?_
  (conv=>whnf);refine recO (hb) ?_
  (conv=>whnf);refine ⟨_,_,hc2,?_⟩
  obtain ⟨hP2,hd2⟩:=two_r hP1 hd1 hp2
  have ha2 : H2[H.length]? = some (.arr 10 [evA x]):=(hp2.2 H.length (List.getElem?_eq_some_iff.1 ha).1 (hR.fresh (Nat.le_refl _))).2.trans ha
  repeat ((conv=>whnf);first | refine And.intro (by (conv=>whnf);refine recO ha2 ?_;rfl) ?_ | refine And.intro (by (conv=>whnf);refine recO ha ?_;rfl) ?_ | refine And.intro (by (conv=>whnf);refine recO getA ?_;rfl) ?_ | refine And.intro (by (conv=>whnf);refine recO getB ?_;rfl) ?_ | refine And.intro (by (conv=>whnf);refine recO hb ?_;rfl) ?_ | refine And.intro (by (conv=>whnf);refine recO ((hp2.2 (H.length + 1) (List.getElem?_eq_some_iff.1 hb).1 (hR.fresh (by omega))).2.trans hb) ?_;rfl) ?_)
  conv=>whnf
  exact ⟨by simp,_,⟨ro1,z1,ro2,z2,lv2,hP2,hR2,hd2,rfl⟩,PostO.two ((Post.app H [.arr 10 [evA x],.arr 2 [[.str x.n,.list x.ex 1 (bC x.d)]]] ro).trans hp1) hp2⟩
 ·have hps : playS x σ = (stageR x.t x.n x.d σ).2:=by unfold playS;rw [hv];rfl
  rw [hps]
  obtain ⟨_,H1,hc,rfl,ro1,z1,hP1,hp1⟩:=Stage_spec F.z0p (hP.app (X:=[.arr 10 [evA x],.arr 2 [[.str x.n,.list x.ex 1 (bC x.d)]]])) x.t x.n x.ex x.d hxn hxd (hf.f.ss _)
  obtain ⟨hR1,hd1⟩:=two_p (hR.app (X:=[.arr 10 [evA x],.arr 2 [[.str x.n,.list x.ex 1 (bC x.d)]]])) hd hp1
  obtain ⟨_,H2,hc2,rfl,ro2,z2,lv2,hR2,hp2⟩:=rStage_spec F.z1u hR1 x.t x.n x.ex x.d hxn hxd (hf.f.ss _) (hf.l _)
  have ha : H1[H.length]? = some (.arr 10 [evA x]):=(hp1.2 H.length (by simp) (hP.fresh (Nat.le_refl _))).2.trans getA
  have hb : H1[H.length + 1]? = some (.arr 2 [[.str x.n,.list x.ex 1 (bC x.d)]]):=(hp1.2 (H.length + 1) (by simp) (hP.fresh (by omega))).2.trans getB
  repeat ((conv=>whnf);first | refine recT (by decide) ?_ | refine recF (by decide) ?_)
  (conv=>whnf);refine recO (getA) ?_
  (conv=>whnf);refine recO (getA) ?_
  (conv=>whnf);refine snocK_to ?_
  rw [l1,e2]
  (conv=>whnf);refine recO (getB) ?_
  (conv=>whnf);refine setO_at setB ?_
  (conv=>whnf);refine recO (getA) ?_
  (conv=>whnf);refine recO (getB) ?_
  (conv=>whnf);refine ⟨_,_,hc,?_⟩
  (conv=>whnf);refine recO (ha) ?_
  (conv=>whnf);refine recO (hb) ?_
  (conv=>whnf);refine ⟨_,_,hc2,?_⟩
  obtain ⟨hP2,hd2⟩:=two_r hP1 hd1 hp2
  have ha2 : H2[H.length]? = some (.arr 10 [evA x]):=(hp2.2 H.length (List.getElem?_eq_some_iff.1 ha).1 (hR.fresh (Nat.le_refl _))).2.trans ha
  repeat ((conv=>whnf);first | refine And.intro (by (conv=>whnf);refine recO ha2 ?_;rfl) ?_ | refine And.intro (by (conv=>whnf);refine recO ha ?_;rfl) ?_ | refine And.intro (by (conv=>whnf);refine recO getA ?_;rfl) ?_ | refine And.intro (by (conv=>whnf);refine recO getB ?_;rfl) ?_ | refine And.intro (by (conv=>whnf);refine recO hb ?_;rfl) ?_ | refine And.intro (by (conv=>whnf);refine recO ((hp2.2 (H.length + 1) (List.getElem?_eq_some_iff.1 hb).1 (hR.fresh (by omega))).2.trans hb) ?_;rfl) ?_)
  conv=>whnf
  exact ⟨by simp,_,⟨ro1,z1,ro2,z2,lv2,hP2,hR2,hd2,rfl⟩,PostO.two ((Post.app H [.arr 10 [evA x],.arr 2 [[.str x.n,.list x.ex 1 (bC x.d)]]] ro).trans hp1) hp2⟩
 ·have hps : playS x σ = (stageR x.t x.n x.d σ).2:=by unfold playS;rw [hv];rfl
  rw [hps]
  obtain ⟨_,H1,hc,rfl,ro1,z1,hP1,hp1⟩:=Stage_spec F.z0p (hP.app (X:=[.arr 10 [evA x],.arr 2 [[.str x.n,.list x.ex 1 (bC x.d)]]])) x.t x.n x.ex x.d hxn hxd (hf.f.ss _)
  obtain ⟨hR1,hd1⟩:=two_p (hR.app (X:=[.arr 10 [evA x],.arr 2 [[.str x.n,.list x.ex 1 (bC x.d)]]])) hd hp1
  obtain ⟨_,H2,hc2,rfl,ro2,z2,lv2,hR2,hp2⟩:=rStage_spec F.z1u hR1 x.t x.n x.ex x.d hxn hxd (hf.f.ss _) (hf.l _)
  have ha : H1[H.length]? = some (.arr 10 [evA x]):=(hp1.2 H.length (by simp) (hP.fresh (Nat.le_refl _))).2.trans getA
  have hb : H1[H.length + 1]? = some (.arr 2 [[.str x.n,.list x.ex 1 (bC x.d)]]):=(hp1.2 (H.length + 1) (by simp) (hP.fresh (by omega))).2.trans getB
  repeat ((conv=>whnf);first | refine recT (by decide) ?_ | refine recF (by decide) ?_)
  (conv=>whnf);refine recO (getA) ?_
  (conv=>whnf);refine recO (getA) ?_
  (conv=>whnf);refine snocK_to ?_
  rw [l1,e2]
  (conv=>whnf);refine recO (getB) ?_
  (conv=>whnf);refine setO_at setB ?_
  (conv=>whnf);refine recO (getA) ?_
  (conv=>whnf);refine recO (getB) ?_
  (conv=>whnf);refine ⟨_,_,hc,?_⟩
  (conv=>whnf);refine recO (ha) ?_
  (conv=>whnf);refine recO (hb) ?_
  (conv=>whnf);refine ⟨_,_,hc2,?_⟩
  obtain ⟨hP2,hd2⟩:=two_r hP1 hd1 hp2
  have ha2 : H2[H.length]? = some (.arr 10 [evA x]):=(hp2.2 H.length (List.getElem?_eq_some_iff.1 ha).1 (hR.fresh (Nat.le_refl _))).2.trans ha
  repeat ((conv=>whnf);first | refine And.intro (by (conv=>whnf);refine recO ha2 ?_;rfl) ?_ | refine And.intro (by (conv=>whnf);refine recO ha ?_;rfl) ?_ | refine And.intro (by (conv=>whnf);refine recO getA ?_;rfl) ?_ | refine And.intro (by (conv=>whnf);refine recO getB ?_;rfl) ?_ | refine And.intro (by (conv=>whnf);refine recO hb ?_;rfl) ?_ | refine And.intro (by (conv=>whnf);refine recO ((hp2.2 (H.length + 1) (List.getElem?_eq_some_iff.1 hb).1 (hR.fresh (by omega))).2.trans hb) ?_;rfl) ?_)
  conv=>whnf
  exact ⟨by simp,_,⟨ro1,z1,ro2,z2,lv2,hP2,hR2,hd2,rfl⟩,PostO.two ((Post.app H [.arr 10 [evA x],.arr 2 [[.str x.n,.list x.ex 1 (bC x.d)]]] ro).trans hp1) hp2⟩
 ·have hps : playS x σ = (stageR x.t x.n x.d σ).2:=by unfold playS;rw [hv];rfl
  rw [hps]
  obtain ⟨_,H1,hc,rfl,ro1,z1,hP1,hp1⟩:=Stage_spec F.z0p (hP.app (X:=[.arr 10 [evA x],.arr 2 [[.str x.n,.list x.ex 1 (bC x.d)]]])) x.t x.n x.ex x.d hxn hxd (hf.f.ss _)
  obtain ⟨hR1,hd1⟩:=two_p (hR.app (X:=[.arr 10 [evA x],.arr 2 [[.str x.n,.list x.ex 1 (bC x.d)]]])) hd hp1
  obtain ⟨_,H2,hc2,rfl,ro2,z2,lv2,hR2,hp2⟩:=rStage_spec F.z1u hR1 x.t x.n x.ex x.d hxn hxd (hf.f.ss _) (hf.l _)
  have ha : H1[H.length]? = some (.arr 10 [evA x]):=(hp1.2 H.length (by simp) (hP.fresh (Nat.le_refl _))).2.trans getA
  have hb : H1[H.length + 1]? = some (.arr 2 [[.str x.n,.list x.ex 1 (bC x.d)]]):=(hp1.2 (H.length + 1) (by simp) (hP.fresh (by omega))).2.trans getB
  repeat ((conv=>whnf);first | refine recT (by decide) ?_ | refine recF (by decide) ?_)
  (conv=>whnf);refine recO (getA) ?_
  (conv=>whnf);refine recO (getA) ?_
  (conv=>whnf);refine snocK_to ?_
  rw [l1,e2]
  (conv=>whnf);refine recO (getB) ?_
  (conv=>whnf);refine setO_at setB ?_
  (conv=>whnf);refine recO (getA) ?_
  (conv=>whnf);refine recO (getB) ?_
  (conv=>whnf);refine ⟨_,_,hc,?_⟩
  (conv=>whnf);refine recO (ha) ?_
  (conv=>whnf);refine recO (hb) ?_
  (conv=>whnf);refine ⟨_,_,hc2,?_⟩
  obtain ⟨hP2,hd2⟩:=two_r hP1 hd1 hp2
  have ha2 : H2[H.length]? = some (.arr 10 [evA x]):=(hp2.2 H.length (List.getElem?_eq_some_iff.1 ha).1 (hR.fresh (Nat.le_refl _))).2.trans ha
  repeat ((conv=>whnf);first | refine And.intro (by (conv=>whnf);refine recO ha2 ?_;rfl) ?_ | refine And.intro (by (conv=>whnf);refine recO ha ?_;rfl) ?_ | refine And.intro (by (conv=>whnf);refine recO getA ?_;rfl) ?_ | refine And.intro (by (conv=>whnf);refine recO getB ?_;rfl) ?_ | refine And.intro (by (conv=>whnf);refine recO hb ?_;rfl) ?_ | refine And.intro (by (conv=>whnf);refine recO ((hp2.2 (H.length + 1) (List.getElem?_eq_some_iff.1 hb).1 (hR.fresh (by omega))).2.trans hb) ?_;rfl) ?_)
  conv=>whnf
  exact ⟨by simp,_,⟨ro1,z1,ro2,z2,lv2,hP2,hR2,hd2,rfl⟩,PostO.two ((Post.app H [.arr 10 [evA x],.arr 2 [[.str x.n,.list x.ex 1 (bC x.d)]]] ro).trans hp1) hp2⟩
 ·have hps : playS x σ = (removeR x.t x.n σ).2:=by unfold playS;rw [hv];rfl
  rw [hps]
  obtain ⟨_,H1,hc,rfl,ro1,z1,hP1,hp1⟩:=Remove_spec F.z0o (hP.app (X:=[.arr 10 [evA x]])) x.t x.n hxn (hf.f.ss _)
  obtain ⟨hR1,hd1⟩:=two_p (hR.app (X:=[.arr 10 [evA x]])) hd hp1
  obtain ⟨_,H2,hc2,rfl,ro2,z2,lv2,hR2,hp2⟩:=rRemove_spec F.z1t hR1 x.t x.n hxn (hf.f.ss _) (hf.l _)
  have ha : H1[H.length]? = some (.arr 10 [evA x]):=(hp1.2 H.length (by simp) (hP.fresh (Nat.le_refl _))).2.trans getA
  repeat ((conv=>whnf);first | refine recT (by decide) ?_ | refine recF (by decide) ?_)
  (conv=>whnf);refine recO (getA) ?_
  (conv=>whnf);refine recO (getA) ?_
  (conv=>whnf);refine ⟨_,_,hc,?_⟩
  (conv=>whnf);refine recO (ha) ?_
  (conv=>whnf);refine recO (ha) ?_
  (conv=>whnf);refine ⟨_,_,hc2,?_⟩
  obtain ⟨hP2,hd2⟩:=two_r hP1 hd1 hp2
  have ha2 : H2[H.length]? = some (.arr 10 [evA x]):=(hp2.2 H.length (List.getElem?_eq_some_iff.1 ha).1 (hR.fresh (Nat.le_refl _))).2.trans ha
  repeat ((conv=>whnf);first | refine And.intro (by (conv=>whnf);refine recO ha2 ?_;rfl) ?_ | refine And.intro (by (conv=>whnf);refine recO ha ?_;rfl) ?_ | refine And.intro (by (conv=>whnf);refine recO getA ?_;rfl) ?_ | refine And.intro (by (conv=>whnf);refine recO getB ?_;rfl) ?_ | refine And.intro (by (conv=>whnf);refine recO hb ?_;rfl) ?_ | refine And.intro (by (conv=>whnf);refine recO ((hp2.2 (H.length + 1) (List.getElem?_eq_some_iff.1 hb).1 (hR.fresh (by omega))).2.trans hb) ?_;rfl) ?_)
  conv=>whnf
  exact ⟨by simp,_,⟨ro1,z1,ro2,z2,lv2,hP2,hR2,hd2,rfl⟩,PostO.two ((Post.app H [.arr 10 [evA x]] ro).trans hp1) hp2⟩
 ·have hps : playS x σ = (commitR x.t σ).2:=by unfold playS;rw [hv];rfl
  rw [hps]
  obtain ⟨_,H1,hc,rfl,ro1,z1,hP1,hp1⟩:=Commit_spec F.z0j hCl hS (hP.app (X:=[.arr 10 [evA x]])) x.t hf.f
  obtain ⟨hR1,hd1⟩:=two_p (hR.app (X:=[.arr 10 [evA x]])) hd hp1
  obtain ⟨_,H2,hc2,rfl,ro2,z2,lv2,hR2,hp2⟩:=rCommit_spec F.z1o hR1 x.t hf.f hf.b
  have ha : H1[H.length]? = some (.arr 10 [evA x]):=(hp1.2 H.length (by simp) (hP.fresh (Nat.le_refl _))).2.trans getA
  repeat ((conv=>whnf);first | refine recT (by decide) ?_ | refine recF (by decide) ?_)
  (conv=>whnf);refine recO (getA) ?_
  (conv=>whnf);refine ⟨_,_,hc,?_⟩
  (conv=>whnf);refine recO (ha) ?_
  (conv=>whnf);refine ⟨_,_,hc2,?_⟩
  obtain ⟨hP2,hd2⟩:=two_r hP1 hd1 hp2
  have ha2 : H2[H.length]? = some (.arr 10 [evA x]):=(hp2.2 H.length (List.getElem?_eq_some_iff.1 ha).1 (hR.fresh (Nat.le_refl _))).2.trans ha
  repeat ((conv=>whnf);first | refine And.intro (by (conv=>whnf);refine recO ha2 ?_;rfl) ?_ | refine And.intro (by (conv=>whnf);refine recO ha ?_;rfl) ?_ | refine And.intro (by (conv=>whnf);refine recO getA ?_;rfl) ?_ | refine And.intro (by (conv=>whnf);refine recO getB ?_;rfl) ?_ | refine And.intro (by (conv=>whnf);refine recO hb ?_;rfl) ?_ | refine And.intro (by (conv=>whnf);refine recO ((hp2.2 (H.length + 1) (List.getElem?_eq_some_iff.1 hb).1 (hR.fresh (by omega))).2.trans hb) ?_;rfl) ?_)
  conv=>whnf
  exact ⟨by simp,_,⟨ro1,z1,ro2,z2,lv2,hP2,hR2,hd2,rfl⟩,PostO.two ((Post.app H [.arr 10 [evA x]] ro).trans hp1) hp2⟩
 ·have hps : playS x σ = (commitR x.t σ).2:=by unfold playS;rw [hv];rfl
  rw [hps]
  obtain ⟨_,H1,hc,rfl,ro1,z1,hP1,hp1⟩:=Commit_spec F.z0j hCl hS (hP.app (X:=[.arr 10 [evA x]])) x.t hf.f
  obtain ⟨hR1,hd1⟩:=two_p (hR.app (X:=[.arr 10 [evA x]])) hd hp1
  obtain ⟨_,H2,hc2,rfl,ro2,z2,lv2,hR2,hp2⟩:=rCommit_spec F.z1o hR1 x.t hf.f hf.b
  have ha : H1[H.length]? = some (.arr 10 [evA x]):=(hp1.2 H.length (by simp) (hP.fresh (Nat.le_refl _))).2.trans getA
  repeat ((conv=>whnf);first | refine recT (by decide) ?_ | refine recF (by decide) ?_)
  (conv=>whnf);refine recO (getA) ?_
  (conv=>whnf);refine ⟨_,_,hc,?_⟩
  (conv=>whnf);refine recO (ha) ?_
  (conv=>whnf);refine ⟨_,_,hc2,?_⟩
  obtain ⟨hP2,hd2⟩:=two_r hP1 hd1 hp2
  have ha2 : H2[H.length]? = some (.arr 10 [evA x]):=(hp2.2 H.length (List.getElem?_eq_some_iff.1 ha).1 (hR.fresh (Nat.le_refl _))).2.trans ha
  repeat ((conv=>whnf);first | refine And.intro (by (conv=>whnf);refine recO ha2 ?_;rfl) ?_ | refine And.intro (by (conv=>whnf);refine recO ha ?_;rfl) ?_ | refine And.intro (by (conv=>whnf);refine recO getA ?_;rfl) ?_ | refine And.intro (by (conv=>whnf);refine recO getB ?_;rfl) ?_ | refine And.intro (by (conv=>whnf);refine recO hb ?_;rfl) ?_ | refine And.intro (by (conv=>whnf);refine recO ((hp2.2 (H.length + 1) (List.getElem?_eq_some_iff.1 hb).1 (hR.fresh (by omega))).2.trans hb) ?_;rfl) ?_)
  conv=>whnf
  exact ⟨by simp,_,⟨ro1,z1,ro2,z2,lv2,hP2,hR2,hd2,rfl⟩,PostO.two ((Post.app H [.arr 10 [evA x]] ro).trans hp1) hp2⟩
 ·have hps : playS x σ = (swapR x.t x.n σ).2:=by unfold playS;rw [hv];rfl
  rw [hps]
  obtain ⟨_,H1,hc,rfl,ro1,z1,hP1,hp1⟩:=Swap_spec F.z0r (hP.app (X:=[.arr 10 [evA x]])) x.t x.n hf.f
  obtain ⟨hR1,hd1⟩:=two_p (hR.app (X:=[.arr 10 [evA x]])) hd hp1
  obtain ⟨_,H2,hc2,rfl,ro2,z2,lv2,hR2,hp2⟩:=rSwap_spec F.z1w hR1 x.t x.n hf.f
  have ha : H1[H.length]? = some (.arr 10 [evA x]):=(hp1.2 H.length (by simp) (hP.fresh (Nat.le_refl _))).2.trans getA
  repeat ((conv=>whnf);first | refine recT (by decide) ?_ | refine recF (by decide) ?_)
  (conv=>whnf);refine recO (getA) ?_
  (conv=>whnf);refine recO (getA) ?_
  (conv=>whnf);refine ⟨_,_,hc,?_⟩
  (conv=>whnf);refine recO (ha) ?_
  (conv=>whnf);refine recO (ha) ?_
  (conv=>whnf);refine ⟨_,_,hc2,?_⟩
  obtain ⟨hP2,hd2⟩:=two_r hP1 hd1 hp2
  have ha2 : H2[H.length]? = some (.arr 10 [evA x]):=(hp2.2 H.length (List.getElem?_eq_some_iff.1 ha).1 (hR.fresh (Nat.le_refl _))).2.trans ha
  repeat ((conv=>whnf);first | refine And.intro (by (conv=>whnf);refine recO ha2 ?_;rfl) ?_ | refine And.intro (by (conv=>whnf);refine recO ha ?_;rfl) ?_ | refine And.intro (by (conv=>whnf);refine recO getA ?_;rfl) ?_ | refine And.intro (by (conv=>whnf);refine recO getB ?_;rfl) ?_ | refine And.intro (by (conv=>whnf);refine recO hb ?_;rfl) ?_ | refine And.intro (by (conv=>whnf);refine recO ((hp2.2 (H.length + 1) (List.getElem?_eq_some_iff.1 hb).1 (hR.fresh (by omega))).2.trans hb) ?_;rfl) ?_)
  conv=>whnf
  exact ⟨by simp,_,⟨ro1,z1,ro2,z2,lv2,hP2,hR2,hd2,rfl⟩,PostO.two ((Post.app H [.arr 10 [evA x]] ro).trans hp1) hp2⟩
 ·have hps : playS x σ = mvS σ x.t:=by unfold playS;rw [hv];rfl
  rw [hps]
  have hP0:=hP.app (X:=[.arr 10 [evA x]])
  have hP1:=hP0.del x.t
  have hp1 : Post (H ++ [.arr 10 [evA x]]) (delH (H ++ [.arr 10 [evA x]]) z x.t) ro ro:=(Post.refl _ ro).set _ (.inl hP0.nt)
  obtain ⟨hR1,hd1⟩:=two_p (hR.app (X:=[.arr 10 [evA x]])) hd hp1
  obtain ⟨_,H2,hc2,rfl,ro2,z2,lv2,hR2,hp2⟩:=rDiscard_spec F.z1p hR1 x.t
  have ha : (delH (H ++ [.arr 10 [evA x]]) z x.t)[H.length]? = some (.arr 10 [evA x]):=(hp1.2 H.length (by simp) (hP.fresh (Nat.le_refl _))).2.trans getA
  repeat ((conv=>whnf);first | refine recT (by decide) ?_ | refine recF (by decide) ?_)
  (conv=>whnf);refine recO (getA) ?_
  (conv=>whnf);refine ACalls.mono (discard_spec F.z0k hP0 x.t) ?_
  rintro v H1 ⟨rfl,rfl⟩
  (conv=>whnf);refine recO (ha) ?_
  (conv=>whnf);refine ACalls.mono (hc2) ?_
  rintro v H1 ⟨rfl,rfl⟩
  obtain ⟨hP2,hd2⟩:=two_r hP1 hd1 hp2
  conv=>whnf
  exact ⟨rfl,_,⟨ro,_,ro2,z2,lv2,hP2,hR2,hd2,rfl⟩,PostO.two ((Post.app H [.arr 10 [evA x]] ro).trans hp1) hp2⟩
end
theorem rNames_spec {P : Program} (F : F_z1r P) {H : List AObj} {s : Nat} {σ : Sto} {ro : Nat → Option Role} {z : SP} {lv : AVal} (h : RepR H s σ ro z lv) (env : ByteArray) (hf : KSrt (σ.blobs env)) (hlen : (σ.blobs env).length ≤ 1000000) :
  ACalls P F.id [.ptr s 1 0 0,.str env] H (fun r H'=>∃ X id,H' = H ++ X ∧ r = .sl id (σ.blobs env).length 0 (σ.blobs env).length ∧ H'[id]? = some (.arr 1 (keyC (σ.blobs env))) ∧ H.length ≤ id):=by
 have fin : ∀ kvs,PM (RDr H ro) kvs (σ.blobs env) → ((mfind 2 (.str env) z.B = none ∧ σ.blobs env = []) ∨ (mfind 2 (.str env) z.B = some .nilm ∧ σ.blobs env = []) ∨ ∃ idb,mfind 2 (.str env) z.B = some (.mp idb) ∧ H[idb]? = some (.map kvs) ∧ ro idb = some .blob) →
   ACalls P F.id [.ptr s 1 0 0,.str env] H (fun r H'=>∃ X id,H' = H ++ X ∧ r = .sl id (σ.blobs env).length 0 (σ.blobs env).length ∧ H'[id]? = some (.arr 1 (keyC (σ.blobs env))) ∧ H.length ≤ id):=fun kvs g3 hc=>by
  refine (rNames_raw F h env hf hlen kvs g3 hc).fg ?_
  rintro r H' ⟨K,a,X,i,hkf,rfl,rfl,hX⟩
  have hl:=hkf.len
  refine ⟨_,hkf.forg (a :: X),a :: X,_,rfl,by rw [hl],?_,by omega⟩
  exact getX (K:=H) (a:=a) hX
 have he:=h.eB env
 rcases h.pB.find h.sB env with ⟨e1,e2⟩ | ⟨y,c,e1,e2,hy⟩
 ·rw [e2] at he
  have he : σ.blobs env = []:=he
  exact fin [] (by rw [he];exact PM.nil) (.inl ⟨e1,he⟩)
 ·rw [e2] at he
  have he : σ.blobs env = c:=he
  rcases hy with ⟨rfl,h2⟩ | ⟨id,kvs,rfl,h2,h3,h4⟩
  ·exact fin [] (by rw [he,h2];exact PM.nil) (.inr (.inl ⟨e1,by rw [he,h2]⟩))
  ·exact fin kvs (by rw [he];exact h4) (.inr (.inr ⟨id,e1,h3,h2⟩))
structure Sto.Shw (σ : Sto) : Prop where
 f : σ.Fit
 nb : ∀ e,(σ.blobs e).length ≤ 1000000
 ns : ∀ e,(σ.staged e).length ≤ 1000000
 db : ∀ e,∀ p ∈ σ.blobs e,p.2.length ≤ 1000000 ∧ Byt p.2
 kb : ∀ e,∀ p ∈ σ.blobs e,p.1.size ≤ 1000000
 ks : ∀ e,∀ p ∈ σ.staged e,p.1.size ≤ 1000000
 lb : Byt σ.log
def EvE (e : List AVal) : Prop:=∃ a0 a1 t n a4 a5 a6 a7 a8 a9,e = [a0,a1,.str t,.str n,a4,a5,a6,a7,a8,a9] ∧ e.all AVal.isCell = true
def evL (b : ByteArray) : List AVal:=[.int .i64 0,.nil,.str b,.str (bs []),.str (bs []),.nil,.bool false,.int .i64 0,.int .i64 0,.int .i64 0]
theorem EvE.lit (b : ByteArray) : EvE (evL b):=⟨_,_,_,_,_,_,_,_,_,_,rfl,rfl⟩
theorem readV_mem {σ : Sto} {env nm : ByteArray} {d : List Int} (h : kLk nm (σ.blobs env) = some d) (hs : KSrt (σ.blobs env)) : (nm,d) ∈ σ.blobs env:=(kLk_some hs).1 h
theorem readV_byt {σ : Sto} (h : σ.Shw) (env nm : ByteArray) : Byt (readV σ env nm).1:=by
 unfold readV
 split
 ·rename_i d hd
  exact (h.db env _ (readV_mem hd (h.f.sb env))).2
 ·exact byt_nil
section
variable {H : List AObj} {s r : Nat} {σ : Sto} {own : Nat → Prop}
set_option maxRecDepth 20000 in
theorem shows_spec {P : Program} (F : F_z1f P)
  (hSB : SKeys P F.z0m.slices_Sorted_string.id F.z0m.z0e.maps_Keys_mapstringLbyte_string_Lbyte_1.id)
  (hSC : SKeys P F.z0q.slices_Sorted_string.id F.z0q.z0f.maps_Keys_mapstringstorechange_string_storechange_1.id)
  (hT : Two H s r σ own) (hw : σ.Shw) (ex : Bool) (es : List (List AVal)) (hes : ∀ e ∈ es,EvE e) (hel : es.length ≤ 1000) :
  ACalls P F.id [.ptr s 1 0 0,.ptr r 1 0 0,.list ex 10 es] H (fun v H'=>v = .bool true ∧ ∃ X,H' = H ++ X):=by
 obtain ⟨ro,z,ro',z',lv,hP,hR,hd,rfl⟩:=hT
 refine acalls_of_body F.has ?_
 have l0 : 0 + H.length = H.length:=Nat.zero_add _
 (conv=>whnf);refine snocK_to ?_
 rw [l0]
 (conv=>whnf);refine recO (getA) ?_
 (conv=>whnf);refine And.intro (⟨by simp [roomB];omega,by simp [roomB];omega,rfl,rfl⟩) ?_
 obtain ⟨E,hE⟩ : ∃ E,E = [evL bLive,evL bShadow,evL bX] ++ es:=⟨_,rfl⟩
 have hEE : ∀ e ∈ E,EvE e:=fun e he=>by
  rw [hE] at he
  rcases List.mem_append.1 he with h | h
  ·simp at h
   rcases h with rfl | rfl | rfl <;> exact EvE.lit _
  ·exact hes e h
 have hEl : E.length ≤ 1003:=by rw [hE];simp;omega
 refine setO_at (setA.trans (congrArg (fun e=>H ++ [AObj.arr 10 e]) hE.symm)) ?_
 (conv=>whnf);refine recO (getA) ?_
 (conv=>whnf);refine recT (by rw [hE];exact Nat.beq_refl _) ?_
 conv=>whnf
 refine ⟨fun m ρ H1=>∃ (k : Nat) (X : List AObj),k + m = E.length ∧ H1 = H ++ .arr 10 E :: X ∧
  Sv 103 [(0,.ptr s 1 0 0),(1,.ptr r 1 0 0),(21,.sl H.length E.length 0 E.length),(22,.int .i64 E.length),(23,.int .i64 k)] ρ,E.length,[],?_,?_⟩
 ·refine ⟨0,[],by omega,rfl,Sv.intro rfl ⟨rfl,rfl,?_,?_,rfl,trivial⟩⟩
  ·rw [hE];rfl
  ·rw [hE];rfl
 rintro m ρ H1 ⟨k,X,hk,rfl,d,rfl⟩
 (conv=>whnf);refine recA (fun hlt=>?_) (fun hlt=>?_)
 ·simp at hlt
  obtain ⟨e,he,_,hem⟩:=get_drop hlt
  have he2 : E[0 + (k : Int).toNat]? = some e:=by rw [Nat.zero_add,Int.toNat_natCast];exact he
  obtain ⟨a0,a1,t,nm,a4,a5,a6,a7,a8,a9,rfl,hcell⟩:=hEE e hem
  (conv=>whnf);refine recO (getA) ?_
  (conv=>whnf);refine recT (by simp) ?_
  (conv=>whnf);refine And.intro (by omega) ?_
  (conv=>whnf);refine recO (getA) ?_
  (conv=>whnf);refine recT (by simp) ?_
  (conv=>whnf);refine recO (he2) ?_
  (conv=>whnf);refine snocK_to ?_
  (conv=>whnf);refine recO (at_snoc _ _) ?_
  (conv=>whnf);refine recT (by rw [hcell];rfl) ?_
  obtain ⟨evO,hevO⟩ : ∃ evO,evO = AObj.arr 10 [[a0,a1,.str t,.str nm,a4,a5,a6,a7,a8,a9]]:=⟨_,rfl⟩
  (conv=>whnf);refine setO_at (H':=H ++ AObj.arr 10 E :: X ++ [evO]) (by rw [hevO];exact set_snoc _ _ _) ?_
  obtain ⟨ei,hei⟩ : ∃ ei,ei = 0 + (H ++ AObj.arr 10 E :: X).length:=⟨_,rfl⟩
  rw [← hei]
  have hYl0 : H.length < (H ++ AObj.arr 10 E :: X ++ [evO]).length:=by simp
  have hYE0 : (H ++ AObj.arr 10 E :: X ++ [evO])[H.length]? = some (.arr 10 E):=at_old getA
  have hYe0 : (H ++ AObj.arr 10 E :: X ++ [evO])[ei]? = some evO:=by rw [hei];exact at_snoc _ _
  have heiE : ei ≠ H.length:=by rw [hei];simp
  obtain ⟨Y,hY⟩ : ∃ Y,H ++ AObj.arr 10 E :: X ++ [evO] = H ++ Y:=⟨_,List.append_assoc ..⟩
  rw [hY] at hYE0 hYe0 hYl0 ⊢
  have heil : ei < (H ++ Y).length:=(List.getElem?_eq_some_iff.1 hYe0).1
  clear hY hei
  subst hevO
  (conv=>whnf);refine recO (hYe0) ?_
  (conv=>whnf);refine ACalls.mono (rNames_spec F.z1r hR.app t (hw.f.sb t) (hw.nb t)) ?_
  rintro v H2 ⟨X2,id,rfl,rfl,hid,hidl⟩
  have hYE:=at_old (X:=X2) hYE0
  have hYe:=at_old (X:=X2) hYe0
  have hidE : id ≠ H.length:=by omega
  have hide : id ≠ ei:=by omega
  have hidH : H.length ≤ id:=by omega
  obtain ⟨Y2,hY2⟩ : ∃ Y2,H ++ Y ++ X2 = H ++ Y2:=⟨_,List.append_assoc ..⟩
  rw [hY2] at hYE hYe hid ⊢
  clear hY2 hYE0 hYe0 hidl heil hYl0
  have hidl : id < (H ++ Y2).length:=(List.getElem?_eq_some_iff.1 hid).1
  have nbl : (σ.blobs t).length = ((σ.blobs t).map (·.1)).length:=by simp
  have nsl : (σ.staged t).length = ((σ.staged t).map (·.1)).length:=by simp
  have hst1 : ACalls P F.z2a.id [.list false 1 (keyC (σ.blobs t)),.sl id (σ.blobs t).length 0 (σ.blobs t).length] (H ++ Y2) (fun r H'=>r = .bool true ∧ H' = H ++ Y2):=by
   rw [keyC_tC] at hid ⊢
   exact SameTexts_own F.z2a false _ (by rw [← nbl];exact hw.nb t) _ id _ nbl hid
  have hst2 : ACalls P F.z2a.id [.list false 1 (keyC (σ.staged t)),.sl (H ++ Y2).length (σ.staged t).length 0 (σ.staged t).length] (H ++ Y2 ++ [.arr 1 (keyC (σ.staged t))]) (fun r H'=>r = .bool true ∧ H' = H ++ Y2 ++ [.arr 1 (keyC (σ.staged t))]):=by
   rw [keyC_tC]
   exact SameTexts_own F.z2a false _ (by rw [← nsl];exact hw.ns t) _ _ _ nsl (by simp)
  (conv=>whnf);refine recO (hYe) ?_
  (conv=>whnf);refine ⟨_,Names_spec F.z0m hSB hP.app hw.f t (hw.nb t) (hw.kb t),?_⟩
  (conv=>whnf);refine ⟨_,hst1,?_⟩
  (conv=>whnf);refine recO (hYe) ?_
  (conv=>whnf);refine ⟨_,Staged_spec F.z0q hSC hP.app hw.f t (hw.ns t) (hw.ks t),?_⟩
  (conv=>whnf);refine recO (hYe) ?_
  (conv=>whnf);refine ⟨_,_,rStaged_spec F.z1v hR.app t (hw.ns t),?_⟩
  (conv=>whnf);refine ⟨_,hst2,?_⟩
  (conv=>whnf);refine recO (at_old hYe) ?_
  (conv=>whnf);refine ⟨_,Version_spec F.z0s hP.app.app t,?_⟩
  (conv=>whnf);refine recO (at_old hYe) ?_
  (conv=>whnf);refine ⟨_,rVersion_spec F.z1x hR.app.app t,?_⟩
  (conv=>whnf);refine recF (by simp) ?_
  (conv=>whnf);refine recO (at_old hYe) ?_
  (conv=>whnf);refine recO (at_old hid) ?_
  (conv=>whnf);refine recT (by rw [keyC_length];exact Nat.beq_refl _) ?_
  (conv=>whnf);refine And.intro (⟨by have:=hw.nb t;simp [roomB];omega,by have:=hw.nb t;simp [roomB];omega,rfl,by rw [keyC_length]⟩) ?_
  obtain ⟨nl,hnl⟩ : ∃ nl,nl = (σ.blobs t).map (·.1) ++ [nm]:=⟨_,rfl⟩
  have hnlE : keyC (σ.blobs t) ++ [[AVal.str nm]] = tC nl:=by rw [hnl,keyC_tC];simp [tC]
  have hnll : nl.length ≤ 1000001:=by rw [hnl];have:=hw.nb t;simp;omega
  have hnll2 : (keyC (σ.blobs t) ++ [[AVal.str nm]]).length = nl.length:=by rw [hnlE,tC_length]
  obtain ⟨Y3,hY3⟩ : ∃ Y3,(H ++ Y2 ++ [AObj.arr 1 (keyC (σ.staged t))]).set id (.arr 1 (keyC (σ.blobs t) ++ [[AVal.str nm]])) = H ++ Y3 :=
   ⟨_,by rw [List.append_assoc,List.set_append_right _ _ hidH]⟩
  have hY3n : (H ++ Y3)[id]? = some (.arr 1 (tC nl)):=by rw [← hY3,← hnlE];exact set_at (at_old hid)
  have hY3E : (H ++ Y3)[H.length]? = some (.arr 10 E):=by rw [← hY3];exact at_ne (at_old hYE) hidE
  have hY3e : (H ++ Y3)[ei]? = some (AObj.arr 10 [[a0,a1,.str t,.str nm,a4,a5,a6,a7,a8,a9]]):=by rw [← hY3];exact at_ne (at_old hYe) hide
  refine setO_at hY3 ?_
  (conv=>whnf);refine recO (hY3n) ?_
  (conv=>whnf);refine recT (by show Nat.beq (keyC (σ.blobs t) ++ [[AVal.str nm]]).length _ = true;rw [hnll2,tC_length];exact Nat.beq_refl _) ?_
  conv=>whnf
  refine ⟨fun m2 ρ H4=>∃ (j : Nat) (X3 : List AObj),j + m2 = nl.length ∧ H4 = H ++ Y3 ++ X3 ∧
   Sv 103 [(0,.ptr s 1 0 0),(1,.ptr r 1 0 0),(8,.ptr ei 1 0 0),(21,.sl H.length E.length 0 E.length),(22,.int .i64 E.length),(23,.int .i64 k),(65,.sl id nl.length 0 nl.length),(66,.int .i64 nl.length),(67,.int .i64 j)] ρ,nl.length,[],?_,?_⟩
  ·refine ⟨0,[],by omega,by simp,Sv.intro rfl ⟨rfl,rfl,rfl,rfl,rfl,rfl,slEq hnll2 hnll2,intEq (by show ((keyC (σ.blobs t) ++ [[AVal.str nm]]).length : Int) = _;rw [hnll2]),rfl,trivial⟩⟩
  rintro m2 ρ H4 ⟨j,X3,hj,rfl,d2,rfl⟩
  (conv=>whnf);refine recA (fun hlt2=>?_) (fun hlt2=>?_)
  ·simp at hlt2
   obtain ⟨x,hx,_,_⟩:=get_drop hlt2
   have hxe : (tC nl)[0 + (j : Int).toNat]? = some [.str x]:=by rw [Nat.zero_add,Int.toNat_natCast];exact tC_at hx
   (conv=>whnf);refine recO (at_old hY3n) ?_
   (conv=>whnf);refine recT (by rw [tC_length];exact Nat.beq_refl _) ?_
   (conv=>whnf);refine And.intro (by omega) ?_
   (conv=>whnf);refine recO (at_old hY3n) ?_
   (conv=>whnf);refine recT (by rw [tC_length];exact Nat.beq_refl _) ?_
   (conv=>whnf);refine recO (hxe) ?_
   (conv=>whnf);refine recO (at_old hY3e) ?_
   have hdl : ∀ d,kLk x (σ.blobs t) = some d → d.length ≤ 1000000:=fun d hd=>(hw.db t _ (readV_mem hd (hw.f.sb t))).1
   (conv=>whnf);refine ACalls.use (Read_spec F.z0n hP.app.app hw.f t x hdl) ?_
   (conv=>whnf);refine recO (at_old hY3e) ?_
   (conv=>whnf);refine ACalls.mono (rRead_spec F.z1s hR.app.app hw.f t x hdl) ?_
   rintro v H5 ⟨rfl,rfl⟩
   have hrb:=readV_byt hw t x
   generalize readV σ t x = rv at hrb ⊢
   obtain ⟨rd,rb⟩:=rv
   dsimp only at hrb ⊢
   (conv=>whnf);refine recF (by cases rb <;> rfl) ?_
   (conv=>whnf);refine ACalls.use (SameBytes_own F.z29 false rd hrb _ _ _ rfl (by simp)) ?_
   conv=>whnf
   refine ⟨m2 - 1,by omega,Gp.keep rfl ?_ fun ρ1 h=>⟨j + 1,X3 ++ [bO rd],by omega,by simp,h⟩⟩
   exact ⟨rfl,rfl,rfl,rfl,rfl,rfl,rfl,rfl,intEq (wrapI ((j : Int) + 1) (by omega) (by omega)),trivial⟩
  ·conv=>whnf
   obtain ⟨Y4,rfl⟩ : ∃ Y4,Y3 = .arr 10 E :: Y4:=by
    rw [List.getElem?_append_right (Nat.le_refl _),Nat.sub_self] at hY3E
    cases Y3 with
    | nil=>cases hY3E
    | cons y Y4=>simp at hY3E;exact ⟨Y4,by rw [hY3E]⟩
   refine ⟨m - 1,by omega,Gp.keep rfl ?_ fun ρ1 h=>⟨k + 1,Y4 ++ X3,by omega,by simp,h⟩⟩
   exact ⟨rfl,rfl,rfl,rfl,intEq (wrapI ((k : Int) + 1) (by omega) (by omega)),trivial⟩
 ·simp at hlt
  (conv=>whnf);refine ACalls.use (Log_spec F.z0l hP.app (by have:=hw.f.lg;omega)) ?_
  (conv=>whnf);refine ACalls.mono (rLog_spec F.z1q hR.app (by have:=hw.f.lg;omega)) ?_
  rintro v H1 ⟨rfl,rfl⟩
  (conv=>whnf);refine ACalls.use (SameBytes_own F.z29 false σ.log hw.lb _ _ _ rfl (by simp)) ?_
  conv=>whnf
  exact ⟨rfl,AObj.arr 10 E :: (X ++ [bO σ.log]),by simp⟩
end
theorem part_len (l : List Int) (rest : List (List AVal)) : (bC l ++ rest).length = l.length + rest.length:=by rw [List.length_append,bC_length]
set_option maxRecDepth 20000 in
theorem bClone_part {P : Program} (F : F_z06 P) (l : List Int) (m : Nat) (rest : List (List AVal)) (hm : m ≤ l.length) (ep : Nat) (hep : ep = l.length + rest.length) (hl : l.length ≤ 90000000) :
  ACalls P F.id [.sl 0 ep 0 m] [.arr 1 (bC l ++ rest)] (fun r H'=>(r = .nil ∧ m = 0 ∧ H' = [.arr 1 (bC l ++ rest)]) ∨ (r = .sl 1 m 0 m ∧ H' = [.arr 1 (bC l ++ rest),.arr 1 (bC (l.take m))])):=by
 subst hep
 have ht : List.take m (List.drop 0 (bC l ++ rest)) = bC (l.take m):=by
  rw [List.drop_zero,List.take_append_of_le_length (by rw [bC_length];exact hm),bC_take]
 have htl : (l.take m).length = m:=by rw [List.length_take];omega
 refine acalls_of_body F.has ?_
 (conv=>whnf);refine recT (by rw [part_len];exact Nat.beq_refl _) ?_
 refine And.intro (fun h=>?_) ?_
 ·conv=>whnf
  exact .inl ⟨rfl,h,rfl⟩
 ·(conv=>whnf);refine recT (by rw [part_len];exact Nat.beq_refl _) ?_
  conv=>whnf
  (conv=>whnf);refine And.intro (⟨roomB_le1 (by simp;omega),roomB_le (by simp;omega),.inr rfl⟩) ?_
  conv=>whnf
  rw [ht]
  have el : (List.replicate 0 [AVal.int IntKind.u8 0] ++ bC (List.take m l)).length = m:=by
   show (bC (List.take m l)).length = m
   rw [bC_length,htl]
  exact .inr ⟨slEq el el,rfl⟩
theorem part_clean (zs : List Int) (q : Nat) : pureEs (bC zs ++ bC (List.replicate q 0)) = true:=by rw [← bC_append];exact pureEs_bC _
theorem bClone_pp {P : Program} (F : F_z06 P) (zs : List Int) (m q : Nat) (hm : m ≤ zs.length) (ep : Nat) (hep : ep = zs.length + q) (hl : zs.length ≤ 90000000) :
  ACalls P F.id [.sl 0 ep 0 m] [.arr 1 (bC zs ++ bC (List.replicate q 0))] (fun r H'=>r = .list false 1 (bC (zs.take m)) ∧ H' = [.arr 1 (bC zs ++ bC (List.replicate q 0))]):=by
 have htl : (bC (zs.take m)).length = m:=by rw [bC_length,List.length_take];omega
 refine ACalls.weakR (Q:=fun r H'=>(r = .list false 1 (bC (zs.take m)) ∨ (r = .nil ∧ m = 0)) ∧ H' = [.arr 1 (bC zs ++ bC (List.replicate q 0))]) ((bClone_part F zs m (bC (List.replicate q 0)) hm ep (by rw [hep,bC_length,List.length_replicate]) hl).gp ?_) ?_
 ·rintro r H1 (⟨rfl,h1,rfl⟩ | ⟨rfl,rfl⟩)
  ·refine Gp.res (r':=.nil) (H1:=[.arr 1 (bC zs ++ bC (List.replicate q 0))]) [0] (by simp) (keepB_one rfl rfl rfl) ⟨⟨_,rfl,.same _ _ (part_clean _ _)⟩,trivial⟩ (.closed _ rfl) ?_
   exact ⟨_,rfl,.inr ⟨rfl,h1⟩,rfl⟩
  ·refine Gp.res (r':=.list false 1 (bC (zs.take m))) (H1:=[.arr 1 (bC zs ++ bC (List.replicate q 0))]) [0] (by simp) (keepB_one rfl rfl rfl) ⟨⟨_,rfl,.same _ _ (part_clean _ _)⟩,trivial⟩ (pubFI (by simp) rfl htl.symm htl.symm (pureEs_bC _)) ?_
   exact ⟨_,rfl,.inl rfl,rfl⟩
 ·rintro r H' ⟨rfl | ⟨rfl,h0⟩,rfl⟩
  ·exact ⟨_,.refl _,rfl,rfl⟩
  ·refine ⟨_,.nil false 1,?_,rfl⟩
   subst h0;rfl
end Go.AW
