/-
  An abstract machine over the model, the code of functions on it, and their contracts: what the claim needs.
  No condition: definitions, plain laws, contracts over any program that has this code.
-/
import Derived.Test.YtbjodpkinpnebaaZ6
set_option linter.all false
namespace Go.AW
variable [Draws]
attribute [local irreducible] ACalls
def rswpH (H : List AObj) (z : SP) (σ : Sto) (a b : ByteArray) (o : AObj) : List AObj :=
 ((((H.set z.b o).set z.v (.map (mput 2 (.str a) (.int .i64 (σ.vers a + 1)) z.V))).set z.v (.map (mput 2 (.str b) (.int .i64 (σ.vers b + 1)) (mput 2 (.str a) (.int .i64 (σ.vers a + 1)) z.V)))).set z.t (.map (mdel 2 (.str a) z.T))).set z.t (.map (mdel 2 (.str b) (mdel 2 (.str a) z.T)))
section
variable {H0 : List AObj} {s : Nat} {σ : Sto} {ro : Nat → Option Role} {z : SP} {lv : AVal}
theorem RepR.xOfR {H : List AObj} (h : RepR H s σ ro z lv) {a : ByteArray} (k : ByteArray) : RBr H ro a (AW.xOf z k) (σ.blobs k) := by
 unfold AW.xOf
 rw [h.eB k]
 rcases h.pB.find h.sB k with ⟨e1, e2⟩ | ⟨y, d, e1, e2, hR⟩
 ·rw [e1, e2]; exact .inl ⟨rfl, rfl⟩
 ·rw [e1, e2]; exact hR
set_option maxRecDepth 20000 in
theorem rswap_raw {P : Program} (F : F_z1p P) (h0 : RepR H0 s σ ro z lv) {a b : ByteArray} (hf : σ.Fit) (n1 : nameB a = true) (n2 : nameB b = true) (hne : a ≠ b) (hfl : jFull σ.log (spayI a b) = false) :
  ACalls P F.id [.ptr s 1 0 0, .str a, .str b] H0 (fun r H' => r = .int .i64 0 ∧ ∃ kvs bs ck, kvs.Perm (mput 2 (.str b) (AW.xOf z a) (mput 2 (.str a) (AW.xOf z b) z.B)) ∧
   H' = rswpH ((H0 ++ [bO (spayI a b)]).set s (.arr 4 [[.mp z.b, .mp z.t, .mp z.v, .list false 1 (bC (σ.log ++ jEnt (spayI a b)))]])) z σ a b (.bmap kvs bs ck)) := by
 have l1 := nameB_len n1
 have l2 := nameB_len n2
 have htx : ∀ t : ByteArray, (txI t).length = t.size + 1 := fun t => by simp [txI, bytesI_length]
 have h' : ∀ o, RepR (H0 ++ [o]) s σ ro z lv := fun o => h0.app
 have hap := rApp_own F.z1g σ.log (spayI a b) h0.lg (by have := hf.lg; omega) (by simp [spayI, htx]; omega) (spayI_byt a b) (at_snoc H0 (bO (spayI a b)))
 unfold jApp at hap
 rw [hfl, if_neg (by decide)] at hap
 refine acalls_of_body F.has ?_
 (conv => whnf); refine ACalls.use (ref5_IsName_spec F.z1t a _) ?_
 (conv => whnf); refine recF (by rw [n1]; rfl) ?_
 (conv => whnf); refine ACalls.use (ref5_IsName_spec F.z1t b _) ?_
 (conv => whnf); refine recF (by rw [n2]; rfl) ?_
 (conv => whnf); refine recF (kEq_false hne) ?_
 (conv => whnf); refine recO (h0.hs) ?_
 (conv => whnf); refine snocK_to ?_
 (conv => whnf); refine ⟨_, rtext_pure F.z1s a (by omega) _, ?_⟩
 (conv => whnf); refine recO (at_snoc _ _) ?_
 have ha1 := htx a
 have hb1 := htx b
 (conv => whnf); refine And.intro (⟨by simp [roomB, bC_length]; omega, by simp [roomB, bC_length]; omega, rfl, rfl⟩) ?_
 refine setO_at (set_snocB (l := [2] ++ txI a) (bC_append [2] (txI a)).symm) ?_
 (conv => whnf); refine ⟨_, rtext_pure F.z1s b (by omega) _, ?_⟩
 (conv => whnf); refine recO (at_snoc _ _) ?_
 (conv => whnf); refine recT (by simp [bC_length]) ?_
 (conv => whnf); refine And.intro (⟨by simp [roomB, bC_length]; omega, by simp [roomB, bC_length]; omega, rfl, by simp [bC_length]⟩) ?_
 refine setO_at (set_snocB (l := spayI a b) (bC_append ([2] ++ txI a) (txI b)).symm) ?_
 conv => whnf
 have e6 : AVal.sl (0 + H0.length) (bC ([2] ++ txI a) ++ bC (txI b)).length 0 (bC ([2] ++ txI a) ++ bC (txI b)).length = bsl (0 + H0.length) (spayI a b) := by
  rw [← bC_append, bC_length]; rfl
 rw [e6]
 (conv => whnf); refine ⟨_, hap, ?_⟩
 conv => whnf
 refine And.intro ?_ ?_
 ·(conv => whnf); refine ⟨_, rtext_pure F.z1s a (by omega) _, ?_⟩
  conv => whnf
 conv => whnf
 refine And.intro ?_ ?_
 ·(conv => whnf); refine recO ((h' _).hs) ?_
  conv => whnf
 conv => whnf
 refine And.intro ?_ ?_
 ·(conv => whnf); refine recO ((h' _).hs) ?_
  conv => whnf
 conv => whnf
 refine And.intro ?_ ?_
 ·(conv => whnf); refine recO ((h' _).hs) ?_
  conv => whnf
 (conv => whnf); refine recO ((h' _).hs) ?_
 (conv => whnf)
 refine setO_at rfl ?_
 conv => whnf
 generalize hH : (H0 ++ [bO (spayI a b)]).set s _ = H
 have h : RepR H s (lgS σ (σ.log ++ jEnt (spayI a b))) ro z (.list false 1 (bC (σ.log ++ jEnt (spayI a b)))) := by rw [← hH]; exact (h' (bO (spayI a b))).lgs (σ.log ++ jEnt (spayI a b))
 refine .rev z.b z.B h.hb fun kvs0 bs ck hp0 hl hn hck => ?_
 have pc0 := h.pB.permL hp0
 have hln := pc0.lits h.sB
 have hxa : AW.xOf z a = (mfind 2 (.str a) kvs0).getD .nilm := by unfold AW.xOf; rw [mfind_perm hp0 hln]
 have hxb : AW.xOf z b = (mfind 2 (.str b) kvs0).getD .nilm := by unfold AW.xOf; rw [mfind_perm hp0 hln]
 have hp1 : (mput 2 (.str b) (AW.xOf z a) (mput 2 (.str a) (AW.xOf z b) kvs0)).Perm (mput 2 (.str b) (AW.xOf z a) (mput 2 (.str a) (AW.xOf z b) z.B)) :=
  mput_perm (mput_perm hp0 hln (pc0.cells a)) ((pc0.put h.sB (h.xOfR (a := a) b)).lits (h.sB.ins a (σ.blobs b))) ((pc0.put h.sB (h.xOfR (a := a) b)).cells b)
 have hp2 : ∀ xa xb, AW.xOf z a = xa → AW.xOf z b = xb → (mput 2 (.str b) xa (mput 2 (.str a) xb kvs0)).Perm (mput 2 (.str b) (AW.xOf z a) (mput 2 (.str a) (AW.xOf z b) z.B)) := by rintro _ _ rfl rfl; exact hp1
 have fb : ∀ x, mfind 2 (.str b) (mput 2 (.str a) x kvs0) = mfind 2 (.str b) kvs0 := fun x => pc0.find_put (Ne.symm hne) x
 have hKs : ∀ o, (H.set z.b o)[s]? = some (.arr 4 [[.mp z.b, .mp z.t, .mp z.v, (AVal.list false 1 (bC (σ.log ++ jEnt (spayI a b))))]]) := fun o => at_ne h.hs (ro_ne h.rb h.rs (by simp))
 have hKb : ∀ o, (H.set z.b o)[z.b]? = some o := fun o => set_at h.hb
 have hsn : ∀ (kvs : List (AVal × AVal)) (kv y : AVal × AVal), (kvs ++ [kv]).set kvs.length y = kvs ++ [y] := fun kvs kv y => by rw [List.set_append_right _ _ (Nat.le_refl _)]; simp
 have hl1 : ∀ x, (bs ++ [ck]).length = (kvs0 ++ [(AVal.str a, x)]).length := fun x => by simp [hl]
 have okb' : mfind 2 (.str a) kvs0 = none → ∀ x, keyOk 2 (.str b) (kvs0 ++ [(AVal.str a, x)]) = true := fun e x => by rw [← (midxN e).2]; exact keyOk_put pc0 a b x
 have fb' : mfind 2 (.str a) kvs0 = none → ∀ x {y}, mfind 2 (.str b) kvs0 = y → mfind 2 (.str b) (kvs0 ++ [(AVal.str a, x)]) = y := fun e x y hy => by rw [← (midxN e).2, fb]; exact hy
 have okb : ∀ x, keyOk 2 (.str b) (mput 2 (.str a) x kvs0) = true := fun x => keyOk_put pc0 a b x
 have lenS : ∀ (l : List (AVal × AVal)) (i : Nat) (kv : AVal × AVal) (t : List Nat), t.length = l.length → l[i]? = some kv → ∃ q, t[i]? = some q := fun l i kv t h1 h2 => ⟨_, List.getElem?_eq_getElem (by rw [h1]; exact (List.getElem?_eq_some_iff.1 h2).1)⟩
 have vw0 : ∀ o, Vw (H.set z.b o) s z (AVal.list false 1 (bC (σ.log ++ jEnt (spayI a b)))) z.T z.V := fun o => ⟨hKs o, at_ne h.ht (ro_ne h.rb h.rt (by simp)), at_ne h.hv (ro_ne h.rb h.rv (by simp)), ro_ne h.rv h.rs (by simp), ro_ne h.rv h.rt (by simp), ro_ne h.rt h.rs (by simp)⟩
 cases ea : mfind 2 (.str a) kvs0 with
 | none =>
  rw [ea] at hxa
  obtain ⟨i1, i2⟩ := midxN ea
  cases eb : mfind 2 (.str b) kvs0 with
  | none =>
   rw [eb] at hxb
   obtain ⟨j1, j2⟩ := midxN ((fb .nilm).trans eb)
   have hb1 : ((bs ++ [ck]) ++ [ck + 1])[(mput 2 (.str a) .nilm kvs0).length]? = some (ck + 1) := by rw [i2, ← hl1 .nilm]; simp
   (conv => whnf); refine recO (hKs _) ?_
   (conv => whnf); refine recO (hKs _) ?_
   (conv => whnf); refine recO (hKs _) ?_
   (conv => whnf); refine recO (hKb _) ?_
   (conv => whnf); refine recT (pc0.ok b) ?_
   (conv => whnf); refine recN eb ?_
   (conv => whnf); refine recO (hKs _) ?_
   (conv => whnf); refine recO (hKb _) ?_
   (conv => whnf); refine recT (pc0.ok a) ?_
   (conv => whnf); refine recN ea ?_
   (conv => whnf); refine recO (hKb _) ?_
   (conv => whnf); refine recT ((pc0.ok a)) ?_
   (conv => whnf); refine recN i1 ?_
   (conv => whnf)
   refine setO_at (List.set_set ..) ?_
   (conv => whnf); refine recO (hKb _) ?_
   refine ⟨List.length kvs0, (.str a, .nilm), ck, (by rw [← hl]; simp), rfl, by simp, ?_⟩
   refine setO_at ((List.set_set ..).trans (congrArg (fun l => H.set z.b (AObj.bmap l _ _)) ((hsn ..).trans (i2 _).symm))) ?_
   (conv => whnf); refine recO (hKb _) ?_
   (conv => whnf); refine recT ((okb _)) ?_
   (conv => whnf); refine recN j1 ?_
   (conv => whnf)
   refine setO_at (List.set_set ..) ?_
   (conv => whnf); refine recO (hKb _) ?_
   refine ⟨List.length (mput 2 (.str a) .nilm kvs0), (.str b, .nilm), (ck + 1), hb1, rfl, by simp, ?_⟩
   refine setO_at ((List.set_set ..).trans (congrArg (fun l => H.set z.b (AObj.bmap l _ _)) ((hsn ..).trans (j2 _).symm))) ?_
   conv => whnf
   refine And.intro ?_ ?_
   ·(conv => whnf); refine recO (hKb _) ?_
    (conv => whnf); refine recT (okb' ea _) ?_
    (conv => whnf); refine recN (fb' ea _ eb) ?_
    conv => whnf
   conv => whnf
   refine And.intro ?_ ?_
   ·(conv => whnf); refine recO (hKs _) ?_
    conv => whnf
   conv => whnf
   generalize hX : H.set z.b (AObj.bmap _ _ _) = X
   have vw : Vw X s z (AVal.list false 1 (bC (σ.log ++ jEnt (spayI a b)))) z.T z.V := by rw [← hX]; exact vw0 _
   have pV1 := h.pV.put (x := .int .i64 (σ.vers a + 1)) (k := a) h.sV (a := σ.vers a + 1) rfl
   have sV1 := h.sV.ins a (σ.vers a + 1)
   have eV1 : σ.vers b = (kLk b (kIns a (σ.vers a + 1) z.cV)).getD 0 := by rw [kIns_lk h.sV, kEq_false (Ne.symm hne), if_neg Bool.false_ne_true]; exact h.eV b
   have pT1 := h.pT.del h.sT a
   have fin : ∀ (k : ByteArray) (n : Int) (hn : n = σ.vers k) (V : List (AVal × AVal)), AObj.map (mput 2 (.str k) (.int .i64 (IntKind.i64.wrap (n + 1))) V) = .map (mput 2 (.str k) (.int .i64 (σ.vers k + 1)) V) := fun k n hn V => by rw [hn, wrapI _ (by have := hf.vs k; omega) (by have := hf.vs k; omega)]
   have finb := fin b
   (conv => whnf); refine recO (vw.hs) ?_
   (conv => whnf); refine recO (vw.hv) ?_
   (conv => whnf); refine recT (h.pV.ok a) ?_
   rcases h.pV.find h.sV a with ⟨u1, u2⟩ | ⟨y1, n1', u1, u2, rfl⟩
   ·(conv => whnf); refine recN u1 ?_
    (conv => whnf); refine recO (vw.hv) ?_
    (conv => whnf); refine recT (h.pV.ok a) ?_
    (conv => whnf)
    refine setO_at (congrArg _ (fin a 0 (by have := h.eV a; rw [u2] at this; exact this.symm) _)) ?_
    (conv => whnf); refine recO ((vw.setV _).hs) ?_
    (conv => whnf); refine recO ((vw.setV _).hv) ?_
    (conv => whnf); refine recT (PM.ok pV1 b) ?_
    rcases PM.find pV1 sV1 b with ⟨v1, v2⟩ | ⟨y2, n2, v1, v2, rfl⟩
    ·(conv => whnf); refine recN v1 ?_
     (conv => whnf); refine recO ((vw.setV _).hv) ?_
     (conv => whnf); refine recT (PM.ok pV1 b) ?_
     (conv => whnf)
     refine setO_at (congrArg _ (finb 0 (by have := eV1; rw [v2] at this; exact this.symm) _)) ?_
     (conv => whnf); refine ACalls.mono (discard_raw ⟨F.z1l.id, F.z1l.has⟩ ((vw.setV _).setV _) a (h.pT.ok a)) ?_
     rintro r H1 ⟨rfl, rfl⟩
     (conv => whnf); refine ACalls.mono (discard_raw ⟨F.z1l.id, F.z1l.has⟩ (((vw.setV _).setV _).setT _) b (pT1.ok b)) ?_
     rintro r H1 ⟨rfl, rfl⟩
     conv => whnf
     exact ⟨rfl, _, _, _, hp2 _ _ hxa hxb, by rw [← hX, ← hH]; rfl⟩
    ·(conv => whnf); refine recO (v1) ?_
     (conv => whnf); refine recO ((vw.setV _).hv) ?_
     (conv => whnf); refine recT (PM.ok pV1 b) ?_
     (conv => whnf)
     refine setO_at (congrArg _ (finb n2 (by have := eV1; rw [v2] at this; exact this.symm) _)) ?_
     (conv => whnf); refine ACalls.mono (discard_raw ⟨F.z1l.id, F.z1l.has⟩ ((vw.setV _).setV _) a (h.pT.ok a)) ?_
     rintro r H1 ⟨rfl, rfl⟩
     (conv => whnf); refine ACalls.mono (discard_raw ⟨F.z1l.id, F.z1l.has⟩ (((vw.setV _).setV _).setT _) b (pT1.ok b)) ?_
     rintro r H1 ⟨rfl, rfl⟩
     conv => whnf
     exact ⟨rfl, _, _, _, hp2 _ _ hxa hxb, by rw [← hX, ← hH]; rfl⟩
   ·(conv => whnf); refine recO (u1) ?_
    (conv => whnf); refine recO (vw.hv) ?_
    (conv => whnf); refine recT (h.pV.ok a) ?_
    (conv => whnf)
    refine setO_at (congrArg _ (fin a n1' (by have := h.eV a; rw [u2] at this; exact this.symm) _)) ?_
    (conv => whnf); refine recO ((vw.setV _).hs) ?_
    (conv => whnf); refine recO ((vw.setV _).hv) ?_
    (conv => whnf); refine recT (PM.ok pV1 b) ?_
    rcases PM.find pV1 sV1 b with ⟨v1, v2⟩ | ⟨y2, n2, v1, v2, rfl⟩
    ·(conv => whnf); refine recN v1 ?_
     (conv => whnf); refine recO ((vw.setV _).hv) ?_
     (conv => whnf); refine recT (PM.ok pV1 b) ?_
     (conv => whnf)
     refine setO_at (congrArg _ (finb 0 (by have := eV1; rw [v2] at this; exact this.symm) _)) ?_
     (conv => whnf); refine ACalls.mono (discard_raw ⟨F.z1l.id, F.z1l.has⟩ ((vw.setV _).setV _) a (h.pT.ok a)) ?_
     rintro r H1 ⟨rfl, rfl⟩
     (conv => whnf); refine ACalls.mono (discard_raw ⟨F.z1l.id, F.z1l.has⟩ (((vw.setV _).setV _).setT _) b (pT1.ok b)) ?_
     rintro r H1 ⟨rfl, rfl⟩
     conv => whnf
     exact ⟨rfl, _, _, _, hp2 _ _ hxa hxb, by rw [← hX, ← hH]; rfl⟩
    ·(conv => whnf); refine recO (v1) ?_
     (conv => whnf); refine recO ((vw.setV _).hv) ?_
     (conv => whnf); refine recT (PM.ok pV1 b) ?_
     (conv => whnf)
     refine setO_at (congrArg _ (finb n2 (by have := eV1; rw [v2] at this; exact this.symm) _)) ?_
     (conv => whnf); refine ACalls.mono (discard_raw ⟨F.z1l.id, F.z1l.has⟩ ((vw.setV _).setV _) a (h.pT.ok a)) ?_
     rintro r H1 ⟨rfl, rfl⟩
     (conv => whnf); refine ACalls.mono (discard_raw ⟨F.z1l.id, F.z1l.has⟩ (((vw.setV _).setV _).setT _) b (pT1.ok b)) ?_
     rintro r H1 ⟨rfl, rfl⟩
     conv => whnf
     exact ⟨rfl, _, _, _, hp2 _ _ hxa hxb, by rw [← hX, ← hH]; rfl⟩
  | some xb =>
   rw [eb] at hxb
   obtain ⟨i, kv, j1, j2, j3, j4⟩ := midxS ((fb xb).trans eb)
   obtain ⟨q, hq⟩ := lenS _ i kv (bs ++ [ck]) (by rw [i2]; exact hl1 xb) j2
   (conv => whnf); refine recO (hKs _) ?_
   (conv => whnf); refine recO (hKs _) ?_
   (conv => whnf); refine recO (hKs _) ?_
   (conv => whnf); refine recO (hKb _) ?_
   (conv => whnf); refine recT (pc0.ok b) ?_
   (conv => whnf); refine recO eb ?_
   (conv => whnf); refine recO (hKs _) ?_
   (conv => whnf); refine recO (hKb _) ?_
   (conv => whnf); refine recT (pc0.ok a) ?_
   (conv => whnf); refine recN ea ?_
   (conv => whnf); refine recO (hKb _) ?_
   (conv => whnf); refine recT ((pc0.ok a)) ?_
   (conv => whnf); refine recN i1 ?_
   (conv => whnf)
   refine setO_at (List.set_set ..) ?_
   (conv => whnf); refine recO (hKb _) ?_
   refine ⟨List.length kvs0, (.str a, .nilm), ck, (by rw [← hl]; simp), rfl, by simp, ?_⟩
   refine setO_at ((List.set_set ..).trans (congrArg (fun l => H.set z.b (AObj.bmap l _ _)) ((hsn ..).trans (i2 _).symm))) ?_
   (conv => whnf); refine recO (hKb _) ?_
   (conv => whnf); refine recT ((okb _)) ?_
   (conv => whnf); refine recO (j1) ?_
   (conv => whnf); refine recO (j2) ?_
   (conv => whnf); refine recO (hq) ?_
   (conv => whnf); refine recO (hKb _) ?_
   refine ⟨_, _, _, hq, rfl, j2, ?_⟩
   refine setO_at ((List.set_set ..).trans (congrArg (fun l => H.set z.b (AObj.bmap l _ _)) (j4 _).symm)) ?_
   conv => whnf
   refine And.intro ?_ ?_
   ·(conv => whnf); refine recO (hKb _) ?_
    (conv => whnf); refine recT (okb' ea _) ?_
    (conv => whnf); refine recO (fb' ea _ eb) ?_
    conv => whnf
   conv => whnf
   refine And.intro ?_ ?_
   ·(conv => whnf); refine recO (hKs _) ?_
    conv => whnf
   conv => whnf
   generalize hX : H.set z.b (AObj.bmap _ _ _) = X
   have vw : Vw X s z (AVal.list false 1 (bC (σ.log ++ jEnt (spayI a b)))) z.T z.V := by rw [← hX]; exact vw0 _
   have pV1 := h.pV.put (x := .int .i64 (σ.vers a + 1)) (k := a) h.sV (a := σ.vers a + 1) rfl
   have sV1 := h.sV.ins a (σ.vers a + 1)
   have eV1 : σ.vers b = (kLk b (kIns a (σ.vers a + 1) z.cV)).getD 0 := by rw [kIns_lk h.sV, kEq_false (Ne.symm hne), if_neg Bool.false_ne_true]; exact h.eV b
   have pT1 := h.pT.del h.sT a
   have fin : ∀ (k : ByteArray) (n : Int) (hn : n = σ.vers k) (V : List (AVal × AVal)), AObj.map (mput 2 (.str k) (.int .i64 (IntKind.i64.wrap (n + 1))) V) = .map (mput 2 (.str k) (.int .i64 (σ.vers k + 1)) V) := fun k n hn V => by rw [hn, wrapI _ (by have := hf.vs k; omega) (by have := hf.vs k; omega)]
   have finb := fin b
   (conv => whnf); refine recO (vw.hs) ?_
   (conv => whnf); refine recO (vw.hv) ?_
   (conv => whnf); refine recT (h.pV.ok a) ?_
   rcases h.pV.find h.sV a with ⟨u1, u2⟩ | ⟨y1, n1', u1, u2, rfl⟩
   ·(conv => whnf); refine recN u1 ?_
    (conv => whnf); refine recO (vw.hv) ?_
    (conv => whnf); refine recT (h.pV.ok a) ?_
    (conv => whnf)
    refine setO_at (congrArg _ (fin a 0 (by have := h.eV a; rw [u2] at this; exact this.symm) _)) ?_
    (conv => whnf); refine recO ((vw.setV _).hs) ?_
    (conv => whnf); refine recO ((vw.setV _).hv) ?_
    (conv => whnf); refine recT (PM.ok pV1 b) ?_
    rcases PM.find pV1 sV1 b with ⟨v1, v2⟩ | ⟨y2, n2, v1, v2, rfl⟩
    ·(conv => whnf); refine recN v1 ?_
     (conv => whnf); refine recO ((vw.setV _).hv) ?_
     (conv => whnf); refine recT (PM.ok pV1 b) ?_
     (conv => whnf)
     refine setO_at (congrArg _ (finb 0 (by have := eV1; rw [v2] at this; exact this.symm) _)) ?_
     (conv => whnf); refine ACalls.mono (discard_raw ⟨F.z1l.id, F.z1l.has⟩ ((vw.setV _).setV _) a (h.pT.ok a)) ?_
     rintro r H1 ⟨rfl, rfl⟩
     (conv => whnf); refine ACalls.mono (discard_raw ⟨F.z1l.id, F.z1l.has⟩ (((vw.setV _).setV _).setT _) b (pT1.ok b)) ?_
     rintro r H1 ⟨rfl, rfl⟩
     conv => whnf
     exact ⟨rfl, _, _, _, hp2 _ _ hxa hxb, by rw [← hX, ← hH]; rfl⟩
    ·(conv => whnf); refine recO (v1) ?_
     (conv => whnf); refine recO ((vw.setV _).hv) ?_
     (conv => whnf); refine recT (PM.ok pV1 b) ?_
     (conv => whnf)
     refine setO_at (congrArg _ (finb n2 (by have := eV1; rw [v2] at this; exact this.symm) _)) ?_
     (conv => whnf); refine ACalls.mono (discard_raw ⟨F.z1l.id, F.z1l.has⟩ ((vw.setV _).setV _) a (h.pT.ok a)) ?_
     rintro r H1 ⟨rfl, rfl⟩
     (conv => whnf); refine ACalls.mono (discard_raw ⟨F.z1l.id, F.z1l.has⟩ (((vw.setV _).setV _).setT _) b (pT1.ok b)) ?_
     rintro r H1 ⟨rfl, rfl⟩
     conv => whnf
     exact ⟨rfl, _, _, _, hp2 _ _ hxa hxb, by rw [← hX, ← hH]; rfl⟩
   ·(conv => whnf); refine recO (u1) ?_
    (conv => whnf); refine recO (vw.hv) ?_
    (conv => whnf); refine recT (h.pV.ok a) ?_
    (conv => whnf)
    refine setO_at (congrArg _ (fin a n1' (by have := h.eV a; rw [u2] at this; exact this.symm) _)) ?_
    (conv => whnf); refine recO ((vw.setV _).hs) ?_
    (conv => whnf); refine recO ((vw.setV _).hv) ?_
    (conv => whnf); refine recT (PM.ok pV1 b) ?_
    rcases PM.find pV1 sV1 b with ⟨v1, v2⟩ | ⟨y2, n2, v1, v2, rfl⟩
    ·(conv => whnf); refine recN v1 ?_
     (conv => whnf); refine recO ((vw.setV _).hv) ?_
     (conv => whnf); refine recT (PM.ok pV1 b) ?_
     (conv => whnf)
     refine setO_at (congrArg _ (finb 0 (by have := eV1; rw [v2] at this; exact this.symm) _)) ?_
     (conv => whnf); refine ACalls.mono (discard_raw ⟨F.z1l.id, F.z1l.has⟩ ((vw.setV _).setV _) a (h.pT.ok a)) ?_
     rintro r H1 ⟨rfl, rfl⟩
     (conv => whnf); refine ACalls.mono (discard_raw ⟨F.z1l.id, F.z1l.has⟩ (((vw.setV _).setV _).setT _) b (pT1.ok b)) ?_
     rintro r H1 ⟨rfl, rfl⟩
     conv => whnf
     exact ⟨rfl, _, _, _, hp2 _ _ hxa hxb, by rw [← hX, ← hH]; rfl⟩
    ·(conv => whnf); refine recO (v1) ?_
     (conv => whnf); refine recO ((vw.setV _).hv) ?_
     (conv => whnf); refine recT (PM.ok pV1 b) ?_
     (conv => whnf)
     refine setO_at (congrArg _ (finb n2 (by have := eV1; rw [v2] at this; exact this.symm) _)) ?_
     (conv => whnf); refine ACalls.mono (discard_raw ⟨F.z1l.id, F.z1l.has⟩ ((vw.setV _).setV _) a (h.pT.ok a)) ?_
     rintro r H1 ⟨rfl, rfl⟩
     (conv => whnf); refine ACalls.mono (discard_raw ⟨F.z1l.id, F.z1l.has⟩ (((vw.setV _).setV _).setT _) b (pT1.ok b)) ?_
     rintro r H1 ⟨rfl, rfl⟩
     conv => whnf
     exact ⟨rfl, _, _, _, hp2 _ _ hxa hxb, by rw [← hX, ← hH]; rfl⟩
 | some xa =>
  rw [ea] at hxa
  obtain ⟨i, kv, i1, i2, i3, i4⟩ := midxS ea
  obtain ⟨q, hq⟩ := lenS _ i kv bs hl i2
  have hlm : ∀ y, bs.length = (mput 2 (.str a) y kvs0).length := fun y => by rw [i4, List.length_set]; exact hl
  cases eb : mfind 2 (.str b) kvs0 with
  | none =>
   rw [eb] at hxb
   obtain ⟨j1, j2⟩ := midxN ((fb .nilm).trans eb)
   have hb1 : (bs ++ [ck])[(mput 2 (.str a) .nilm kvs0).length]? = some ck := by rw [← hlm .nilm]; simp
   (conv => whnf); refine recO (hKs _) ?_
   (conv => whnf); refine recO (hKs _) ?_
   (conv => whnf); refine recO (hKs _) ?_
   (conv => whnf); refine recO (hKb _) ?_
   (conv => whnf); refine recT (pc0.ok b) ?_
   (conv => whnf); refine recN eb ?_
   (conv => whnf); refine recO (hKs _) ?_
   (conv => whnf); refine recO (hKb _) ?_
   (conv => whnf); refine recT (pc0.ok a) ?_
   (conv => whnf); refine recO ea ?_
   (conv => whnf); refine recO (hKb _) ?_
   (conv => whnf); refine recT ((pc0.ok a)) ?_
   (conv => whnf); refine recO (i1) ?_
   (conv => whnf); refine recO (i2) ?_
   (conv => whnf); refine recO (hq) ?_
   (conv => whnf); refine recO (hKb _) ?_
   refine ⟨_, _, _, hq, rfl, i2, ?_⟩
   refine setO_at ((List.set_set ..).trans (congrArg (fun l => H.set z.b (AObj.bmap l _ _)) (i4 _).symm)) ?_
   (conv => whnf); refine recO (hKb _) ?_
   (conv => whnf); refine recT ((okb _)) ?_
   (conv => whnf); refine recN j1 ?_
   (conv => whnf)
   refine setO_at (List.set_set ..) ?_
   (conv => whnf); refine recO (hKb _) ?_
   refine ⟨List.length (mput 2 (.str a) .nilm kvs0), (.str b, .nilm), ck, hb1, rfl, by simp, ?_⟩
   refine setO_at ((List.set_set ..).trans (congrArg (fun l => H.set z.b (AObj.bmap l _ _)) ((hsn ..).trans (j2 _).symm))) ?_
   conv => whnf
   refine And.intro ?_ ?_
   ·(conv => whnf); refine recO (hKb _) ?_
    (conv => whnf); refine recT (pc0.ok b) ?_
    (conv => whnf); refine recN eb ?_
    conv => whnf
   conv => whnf
   refine And.intro ?_ ?_
   ·(conv => whnf); refine recO (hKs _) ?_
    conv => whnf
   conv => whnf
   generalize hX : H.set z.b (AObj.bmap _ _ _) = X
   have vw : Vw X s z (AVal.list false 1 (bC (σ.log ++ jEnt (spayI a b)))) z.T z.V := by rw [← hX]; exact vw0 _
   have pV1 := h.pV.put (x := .int .i64 (σ.vers a + 1)) (k := a) h.sV (a := σ.vers a + 1) rfl
   have sV1 := h.sV.ins a (σ.vers a + 1)
   have eV1 : σ.vers b = (kLk b (kIns a (σ.vers a + 1) z.cV)).getD 0 := by rw [kIns_lk h.sV, kEq_false (Ne.symm hne), if_neg Bool.false_ne_true]; exact h.eV b
   have pT1 := h.pT.del h.sT a
   have fin : ∀ (k : ByteArray) (n : Int) (hn : n = σ.vers k) (V : List (AVal × AVal)), AObj.map (mput 2 (.str k) (.int .i64 (IntKind.i64.wrap (n + 1))) V) = .map (mput 2 (.str k) (.int .i64 (σ.vers k + 1)) V) := fun k n hn V => by rw [hn, wrapI _ (by have := hf.vs k; omega) (by have := hf.vs k; omega)]
   have finb := fin b
   (conv => whnf); refine recO (vw.hs) ?_
   (conv => whnf); refine recO (vw.hv) ?_
   (conv => whnf); refine recT (h.pV.ok a) ?_
   rcases h.pV.find h.sV a with ⟨u1, u2⟩ | ⟨y1, n1', u1, u2, rfl⟩
   ·(conv => whnf); refine recN u1 ?_
    (conv => whnf); refine recO (vw.hv) ?_
    (conv => whnf); refine recT (h.pV.ok a) ?_
    (conv => whnf)
    refine setO_at (congrArg _ (fin a 0 (by have := h.eV a; rw [u2] at this; exact this.symm) _)) ?_
    (conv => whnf); refine recO ((vw.setV _).hs) ?_
    (conv => whnf); refine recO ((vw.setV _).hv) ?_
    (conv => whnf); refine recT (PM.ok pV1 b) ?_
    rcases PM.find pV1 sV1 b with ⟨v1, v2⟩ | ⟨y2, n2, v1, v2, rfl⟩
    ·(conv => whnf); refine recN v1 ?_
     (conv => whnf); refine recO ((vw.setV _).hv) ?_
     (conv => whnf); refine recT (PM.ok pV1 b) ?_
     (conv => whnf)
     refine setO_at (congrArg _ (finb 0 (by have := eV1; rw [v2] at this; exact this.symm) _)) ?_
     (conv => whnf); refine ACalls.mono (discard_raw ⟨F.z1l.id, F.z1l.has⟩ ((vw.setV _).setV _) a (h.pT.ok a)) ?_
     rintro r H1 ⟨rfl, rfl⟩
     (conv => whnf); refine ACalls.mono (discard_raw ⟨F.z1l.id, F.z1l.has⟩ (((vw.setV _).setV _).setT _) b (pT1.ok b)) ?_
     rintro r H1 ⟨rfl, rfl⟩
     conv => whnf
     exact ⟨rfl, _, _, _, hp2 _ _ hxa hxb, by rw [← hX, ← hH]; rfl⟩
    ·(conv => whnf); refine recO (v1) ?_
     (conv => whnf); refine recO ((vw.setV _).hv) ?_
     (conv => whnf); refine recT (PM.ok pV1 b) ?_
     (conv => whnf)
     refine setO_at (congrArg _ (finb n2 (by have := eV1; rw [v2] at this; exact this.symm) _)) ?_
     (conv => whnf); refine ACalls.mono (discard_raw ⟨F.z1l.id, F.z1l.has⟩ ((vw.setV _).setV _) a (h.pT.ok a)) ?_
     rintro r H1 ⟨rfl, rfl⟩
     (conv => whnf); refine ACalls.mono (discard_raw ⟨F.z1l.id, F.z1l.has⟩ (((vw.setV _).setV _).setT _) b (pT1.ok b)) ?_
     rintro r H1 ⟨rfl, rfl⟩
     conv => whnf
     exact ⟨rfl, _, _, _, hp2 _ _ hxa hxb, by rw [← hX, ← hH]; rfl⟩
   ·(conv => whnf); refine recO (u1) ?_
    (conv => whnf); refine recO (vw.hv) ?_
    (conv => whnf); refine recT (h.pV.ok a) ?_
    (conv => whnf)
    refine setO_at (congrArg _ (fin a n1' (by have := h.eV a; rw [u2] at this; exact this.symm) _)) ?_
    (conv => whnf); refine recO ((vw.setV _).hs) ?_
    (conv => whnf); refine recO ((vw.setV _).hv) ?_
    (conv => whnf); refine recT (PM.ok pV1 b) ?_
    rcases PM.find pV1 sV1 b with ⟨v1, v2⟩ | ⟨y2, n2, v1, v2, rfl⟩
    ·(conv => whnf); refine recN v1 ?_
     (conv => whnf); refine recO ((vw.setV _).hv) ?_
     (conv => whnf); refine recT (PM.ok pV1 b) ?_
     (conv => whnf)
     refine setO_at (congrArg _ (finb 0 (by have := eV1; rw [v2] at this; exact this.symm) _)) ?_
     (conv => whnf); refine ACalls.mono (discard_raw ⟨F.z1l.id, F.z1l.has⟩ ((vw.setV _).setV _) a (h.pT.ok a)) ?_
     rintro r H1 ⟨rfl, rfl⟩
     (conv => whnf); refine ACalls.mono (discard_raw ⟨F.z1l.id, F.z1l.has⟩ (((vw.setV _).setV _).setT _) b (pT1.ok b)) ?_
     rintro r H1 ⟨rfl, rfl⟩
     conv => whnf
     exact ⟨rfl, _, _, _, hp2 _ _ hxa hxb, by rw [← hX, ← hH]; rfl⟩
    ·(conv => whnf); refine recO (v1) ?_
     (conv => whnf); refine recO ((vw.setV _).hv) ?_
     (conv => whnf); refine recT (PM.ok pV1 b) ?_
     (conv => whnf)
     refine setO_at (congrArg _ (finb n2 (by have := eV1; rw [v2] at this; exact this.symm) _)) ?_
     (conv => whnf); refine ACalls.mono (discard_raw ⟨F.z1l.id, F.z1l.has⟩ ((vw.setV _).setV _) a (h.pT.ok a)) ?_
     rintro r H1 ⟨rfl, rfl⟩
     (conv => whnf); refine ACalls.mono (discard_raw ⟨F.z1l.id, F.z1l.has⟩ (((vw.setV _).setV _).setT _) b (pT1.ok b)) ?_
     rintro r H1 ⟨rfl, rfl⟩
     conv => whnf
     exact ⟨rfl, _, _, _, hp2 _ _ hxa hxb, by rw [← hX, ← hH]; rfl⟩
  | some xb =>
   rw [eb] at hxb
   obtain ⟨i', kv', j1, j2, j3, j4⟩ := midxS ((fb xb).trans eb)
   obtain ⟨q', hq'⟩ := lenS _ i' kv' bs (hlm xb) j2
   (conv => whnf); refine recO (hKs _) ?_
   (conv => whnf); refine recO (hKs _) ?_
   (conv => whnf); refine recO (hKs _) ?_
   (conv => whnf); refine recO (hKb _) ?_
   (conv => whnf); refine recT (pc0.ok b) ?_
   (conv => whnf); refine recO eb ?_
   (conv => whnf); refine recO (hKs _) ?_
   (conv => whnf); refine recO (hKb _) ?_
   (conv => whnf); refine recT (pc0.ok a) ?_
   (conv => whnf); refine recO ea ?_
   (conv => whnf); refine recO (hKb _) ?_
   (conv => whnf); refine recT ((pc0.ok a)) ?_
   (conv => whnf); refine recO (i1) ?_
   (conv => whnf); refine recO (i2) ?_
   (conv => whnf); refine recO (hq) ?_
   (conv => whnf); refine recO (hKb _) ?_
   refine ⟨_, _, _, hq, rfl, i2, ?_⟩
   refine setO_at ((List.set_set ..).trans (congrArg (fun l => H.set z.b (AObj.bmap l _ _)) (i4 _).symm)) ?_
   (conv => whnf); refine recO (hKb _) ?_
   (conv => whnf); refine recT ((okb _)) ?_
   (conv => whnf); refine recO (j1) ?_
   (conv => whnf); refine recO (j2) ?_
   (conv => whnf); refine recO (hq') ?_
   (conv => whnf); refine recO (hKb _) ?_
   refine ⟨_, _, _, hq', rfl, j2, ?_⟩
   refine setO_at ((List.set_set ..).trans (congrArg (fun l => H.set z.b (AObj.bmap l _ _)) (j4 _).symm)) ?_
   conv => whnf
   refine And.intro ?_ ?_
   ·(conv => whnf); refine recO (hKb _) ?_
    (conv => whnf); refine recT (pc0.ok b) ?_
    (conv => whnf); refine recO eb ?_
    conv => whnf
   conv => whnf
   refine And.intro ?_ ?_
   ·(conv => whnf); refine recO (hKs _) ?_
    conv => whnf
   conv => whnf
   generalize hX : H.set z.b (AObj.bmap _ _ _) = X
   have vw : Vw X s z (AVal.list false 1 (bC (σ.log ++ jEnt (spayI a b)))) z.T z.V := by rw [← hX]; exact vw0 _
   have pV1 := h.pV.put (x := .int .i64 (σ.vers a + 1)) (k := a) h.sV (a := σ.vers a + 1) rfl
   have sV1 := h.sV.ins a (σ.vers a + 1)
   have eV1 : σ.vers b = (kLk b (kIns a (σ.vers a + 1) z.cV)).getD 0 := by rw [kIns_lk h.sV, kEq_false (Ne.symm hne), if_neg Bool.false_ne_true]; exact h.eV b
   have pT1 := h.pT.del h.sT a
   have fin : ∀ (k : ByteArray) (n : Int) (hn : n = σ.vers k) (V : List (AVal × AVal)), AObj.map (mput 2 (.str k) (.int .i64 (IntKind.i64.wrap (n + 1))) V) = .map (mput 2 (.str k) (.int .i64 (σ.vers k + 1)) V) := fun k n hn V => by rw [hn, wrapI _ (by have := hf.vs k; omega) (by have := hf.vs k; omega)]
   have finb := fin b
   (conv => whnf); refine recO (vw.hs) ?_
   (conv => whnf); refine recO (vw.hv) ?_
   (conv => whnf); refine recT (h.pV.ok a) ?_
   rcases h.pV.find h.sV a with ⟨u1, u2⟩ | ⟨y1, n1', u1, u2, rfl⟩
   ·(conv => whnf); refine recN u1 ?_
    (conv => whnf); refine recO (vw.hv) ?_
    (conv => whnf); refine recT (h.pV.ok a) ?_
    (conv => whnf)
    refine setO_at (congrArg _ (fin a 0 (by have := h.eV a; rw [u2] at this; exact this.symm) _)) ?_
    (conv => whnf); refine recO ((vw.setV _).hs) ?_
    (conv => whnf); refine recO ((vw.setV _).hv) ?_
    (conv => whnf); refine recT (PM.ok pV1 b) ?_
    rcases PM.find pV1 sV1 b with ⟨v1, v2⟩ | ⟨y2, n2, v1, v2, rfl⟩
    ·(conv => whnf); refine recN v1 ?_
     (conv => whnf); refine recO ((vw.setV _).hv) ?_
     (conv => whnf); refine recT (PM.ok pV1 b) ?_
     (conv => whnf)
     refine setO_at (congrArg _ (finb 0 (by have := eV1; rw [v2] at this; exact this.symm) _)) ?_
     (conv => whnf); refine ACalls.mono (discard_raw ⟨F.z1l.id, F.z1l.has⟩ ((vw.setV _).setV _) a (h.pT.ok a)) ?_
     rintro r H1 ⟨rfl, rfl⟩
     (conv => whnf); refine ACalls.mono (discard_raw ⟨F.z1l.id, F.z1l.has⟩ (((vw.setV _).setV _).setT _) b (pT1.ok b)) ?_
     rintro r H1 ⟨rfl, rfl⟩
     conv => whnf
     exact ⟨rfl, _, _, _, hp2 _ _ hxa hxb, by rw [← hX, ← hH]; rfl⟩
    ·(conv => whnf); refine recO (v1) ?_
     (conv => whnf); refine recO ((vw.setV _).hv) ?_
     (conv => whnf); refine recT (PM.ok pV1 b) ?_
     (conv => whnf)
     refine setO_at (congrArg _ (finb n2 (by have := eV1; rw [v2] at this; exact this.symm) _)) ?_
     (conv => whnf); refine ACalls.mono (discard_raw ⟨F.z1l.id, F.z1l.has⟩ ((vw.setV _).setV _) a (h.pT.ok a)) ?_
     rintro r H1 ⟨rfl, rfl⟩
     (conv => whnf); refine ACalls.mono (discard_raw ⟨F.z1l.id, F.z1l.has⟩ (((vw.setV _).setV _).setT _) b (pT1.ok b)) ?_
     rintro r H1 ⟨rfl, rfl⟩
     conv => whnf
     exact ⟨rfl, _, _, _, hp2 _ _ hxa hxb, by rw [← hX, ← hH]; rfl⟩
   ·(conv => whnf); refine recO (u1) ?_
    (conv => whnf); refine recO (vw.hv) ?_
    (conv => whnf); refine recT (h.pV.ok a) ?_
    (conv => whnf)
    refine setO_at (congrArg _ (fin a n1' (by have := h.eV a; rw [u2] at this; exact this.symm) _)) ?_
    (conv => whnf); refine recO ((vw.setV _).hs) ?_
    (conv => whnf); refine recO ((vw.setV _).hv) ?_
    (conv => whnf); refine recT (PM.ok pV1 b) ?_
    rcases PM.find pV1 sV1 b with ⟨v1, v2⟩ | ⟨y2, n2, v1, v2, rfl⟩
    ·(conv => whnf); refine recN v1 ?_
     (conv => whnf); refine recO ((vw.setV _).hv) ?_
     (conv => whnf); refine recT (PM.ok pV1 b) ?_
     (conv => whnf)
     refine setO_at (congrArg _ (finb 0 (by have := eV1; rw [v2] at this; exact this.symm) _)) ?_
     (conv => whnf); refine ACalls.mono (discard_raw ⟨F.z1l.id, F.z1l.has⟩ ((vw.setV _).setV _) a (h.pT.ok a)) ?_
     rintro r H1 ⟨rfl, rfl⟩
     (conv => whnf); refine ACalls.mono (discard_raw ⟨F.z1l.id, F.z1l.has⟩ (((vw.setV _).setV _).setT _) b (pT1.ok b)) ?_
     rintro r H1 ⟨rfl, rfl⟩
     conv => whnf
     exact ⟨rfl, _, _, _, hp2 _ _ hxa hxb, by rw [← hX, ← hH]; rfl⟩
    ·(conv => whnf); refine recO (v1) ?_
     (conv => whnf); refine recO ((vw.setV _).hv) ?_
     (conv => whnf); refine recT (PM.ok pV1 b) ?_
     (conv => whnf)
     refine setO_at (congrArg _ (finb n2 (by have := eV1; rw [v2] at this; exact this.symm) _)) ?_
     (conv => whnf); refine ACalls.mono (discard_raw ⟨F.z1l.id, F.z1l.has⟩ ((vw.setV _).setV _) a (h.pT.ok a)) ?_
     rintro r H1 ⟨rfl, rfl⟩
     (conv => whnf); refine ACalls.mono (discard_raw ⟨F.z1l.id, F.z1l.has⟩ (((vw.setV _).setV _).setT _) b (pT1.ok b)) ?_
     rintro r H1 ⟨rfl, rfl⟩
     conv => whnf
     exact ⟨rfl, _, _, _, hp2 _ _ hxa hxb, by rw [← hX, ← hH]; rfl⟩
theorem RepR.rswp {H : List AObj} (h : RepR H s σ ro z lv) {a b : ByteArray} (hne : a ≠ b) :
  ∃ z', RepR (rswpH H z σ a b (.map (mput 2 (.str b) (AW.xOf z a) (mput 2 (.str a) (AW.xOf z b) z.B)))) s (swpS σ a b) ro z' lv := by
 have h1 := h.blb (env := a) (h.xOfR b)
 have hx : RBr (H.set z.b (.map (mput 2 (.str a) (AW.xOf z b) z.B))) ro b (AW.xOf z a) (σ.blobs a) := (h.xOfR a).mono fun i hi => ⟨hi, get_ne' (ro_ne h.rb hi (by simp))⟩
 have h2 := h1.blb hx
 rw [show (H.set z.b (.map (mput 2 (.str a) (AW.xOf z b) z.B))).set (z.blb a (AW.xOf z b) (σ.blobs b)).b (.map (mput 2 (.str b) (AW.xOf z a) (z.blb a (AW.xOf z b) (σ.blobs b)).B)) = H.set z.b (.map (mput 2 (.str b) (AW.xOf z a) (mput 2 (.str a) (AW.xOf z b) z.B))) from List.set_set ..] at h2
 exact ⟨_, (((h2.ver a (σ.vers a + 1)).ver b (σ.vers b + 1)).del a).del b⟩
set_option maxRecDepth 20000 in
theorem rSwap_spec {P : Program} (F : F_z1p P) (h0 : RepR H0 s σ ro z lv) (a b : ByteArray) (hf : σ.Fit) :
  ActsR P F.id [.ptr s 1 0 0, .str a, .str b] H0 s ro (.int .i64 (swapR a b σ).1) (swapR a b σ).2 := by
 unfold swapR
 cases n1 : nameB a with
 | false =>
  rw [if_pos (by rfl)]
  refine ⟨.int .i64 4, H0, ?_, rfl, _, _, _, h0, Post.refl _ _⟩
  refine acalls_of_body F.has ?_
  (conv => whnf); refine ACalls.use (ref5_IsName_spec F.z1t a _) ?_
  (conv => whnf); refine recT (by rw [n1]; rfl) ?_
  conv => whnf
  exact ⟨rfl, rfl⟩
 | true =>
 cases n2 : nameB b with
 | false =>
  rw [if_pos (by rfl)]
  refine ⟨.int .i64 4, H0, ?_, rfl, _, _, _, h0, Post.refl _ _⟩
  refine acalls_of_body F.has ?_
  (conv => whnf); refine ACalls.use (ref5_IsName_spec F.z1t a _) ?_
  (conv => whnf); refine recF (by rw [n1]; rfl) ?_
  (conv => whnf); refine ACalls.use (ref5_IsName_spec F.z1t b _) ?_
  (conv => whnf); refine recT (by rw [n2]; rfl) ?_
  conv => whnf
  exact ⟨rfl, rfl⟩
 | true =>
 rw [if_neg (by decide)]
 by_cases h3 : a = b
 ·rw [if_pos h3]
  refine ⟨.int .i64 6, H0, ?_, rfl, _, _, _, h0, Post.refl _ _⟩
  refine acalls_of_body F.has ?_
  (conv => whnf); refine ACalls.use (ref5_IsName_spec F.z1t a _) ?_
  (conv => whnf); refine recF (by rw [n1]; rfl) ?_
  (conv => whnf); refine ACalls.use (ref5_IsName_spec F.z1t b _) ?_
  (conv => whnf); refine recF (by rw [n2]; rfl) ?_
  (conv => whnf); refine recT (by subst h3; exact kEq_refl _) ?_
  conv => whnf
  exact ⟨rfl, rfl⟩
 rw [if_neg h3]
 cases h8 : jFull σ.log (spayI a b) with
 | true =>
  rw [if_pos (by rfl)]
  have l1 := nameB_len n1
  have l2 := nameB_len n2
  have htx : ∀ t : ByteArray, (txI t).length = t.size + 1 := fun t => by simp [txI, bytesI_length]
  have h' : ∀ o, RepR (H0 ++ [o]) s σ ro z lv := fun o => h0.app
  have hap := rApp_own F.z1g σ.log (spayI a b) h0.lg (by have := hf.lg; omega) (by simp [spayI, htx]; omega) (spayI_byt a b) (at_snoc H0 (bO (spayI a b)))
  unfold jApp at hap
  rw [h8, if_pos (by rfl)] at hap
  refine ⟨.int .i64 2, _, ?_, rfl, _, _, _, h' (bO (spayI a b)), Post.app _ _ _⟩
  refine acalls_of_body F.has ?_
  (conv => whnf); refine ACalls.use (ref5_IsName_spec F.z1t a _) ?_
  (conv => whnf); refine recF (by rw [n1]; rfl) ?_
  (conv => whnf); refine ACalls.use (ref5_IsName_spec F.z1t b _) ?_
  (conv => whnf); refine recF (by rw [n2]; rfl) ?_
  (conv => whnf); refine recF (kEq_false h3) ?_
  (conv => whnf); refine recO (h0.hs) ?_
  (conv => whnf); refine snocK_to ?_
  (conv => whnf); refine ⟨_, rtext_pure F.z1s a (by omega) _, ?_⟩
  (conv => whnf); refine recO (at_snoc _ _) ?_
  have ha1 := htx a
  have hb1 := htx b
  (conv => whnf); refine And.intro (⟨by simp [roomB, bC_length]; omega, by simp [roomB, bC_length]; omega, rfl, rfl⟩) ?_
  refine setO_at (set_snocB (l := [2] ++ txI a) (bC_append [2] (txI a)).symm) ?_
  (conv => whnf); refine ⟨_, rtext_pure F.z1s b (by omega) _, ?_⟩
  (conv => whnf); refine recO (at_snoc _ _) ?_
  (conv => whnf); refine recT (by simp [bC_length]) ?_
  (conv => whnf); refine And.intro (⟨by simp [roomB, bC_length]; omega, by simp [roomB, bC_length]; omega, rfl, by simp [bC_length]⟩) ?_
  refine setO_at (set_snocB (l := spayI a b) (bC_append ([2] ++ txI a) (txI b)).symm) ?_
  conv => whnf
  have e6 : AVal.sl (0 + H0.length) (bC ([2] ++ txI a) ++ bC (txI b)).length 0 (bC ([2] ++ txI a) ++ bC (txI b)).length = bsl (0 + H0.length) (spayI a b) := by
   rw [← bC_append, bC_length]; rfl
  rw [e6]
  (conv => whnf); refine ⟨_, hap, ?_⟩
  conv => whnf
  refine And.intro ?_ ?_
  ·(conv => whnf); refine ⟨_, rtext_pure F.z1s a (by omega) _, ?_⟩
   conv => whnf
  conv => whnf
  refine And.intro ?_ ?_
  ·(conv => whnf); refine recO ((h' _).hs) ?_
   conv => whnf
  conv => whnf
  refine And.intro ?_ ?_
  ·(conv => whnf); refine recO ((h' _).hs) ?_
   conv => whnf
  conv => whnf
  refine And.intro ?_ ?_
  ·(conv => whnf); refine recO ((h' _).hs) ?_
   conv => whnf
  conv => whnf
  exact ⟨rfl, rfl⟩
 | false =>
  rw [if_neg (by decide)]
  have h := (h0.app (X := [bO (spayI a b)])).lgs (σ.log ++ jEnt (spayI a b))
  obtain ⟨z', hR⟩ := h.rswp h3
  refine ⟨.int .i64 0, _, (rswap_raw F h0 hf n1 n2 h3 h8).fg ?_, rfl, _, _, _, hR, ?_⟩
  ·rintro r H1 ⟨rfl, kvs, bs, ck, hp, rfl⟩
   refine ⟨_, ?_, rfl, rfl⟩
   unfold rswpH
   exact ((((((ForgH.refl _).set2 z.b (.mp _ _ bs ck hp)).set2 z.v (.refl _)).set2 z.v (.refl _)).set2 z.t (.refl _)).set2 z.t (.refl _))
  ·exact (((((((Post.app H0 _ ro).set _ (.inl h0.ns)).set _ (.inl h0.nb)).set _ (.inl h0.nv)).set _ (.inl h0.nv)).set _ (.inl h0.nt)).set _ (.inl h0.nt))
end
theorem kIns_at {α : Type} {k : ByteArray} {a : α} {c : List (ByteArray × α)} (hs : KSrt c) (hn : ∀ p ∈ c, p.1 ≠ k) {j : Nat} (hj : j ≤ c.length) (hb : ∀ i p, j ≤ i → c[i]? = some p → ltB k p.1 = true)
  (ha : ∀ p, 0 < j → c[j - 1]? = some p → ltB k p.1 = false) : kIns k a c = c.take j ++ (k, a) :: c.drop j := by
 have h1 : ∀ p ∈ c.drop j, ltB k p.1 = true := fun p hp => by
  obtain ⟨i, hi⟩ := List.getElem?_of_mem hp
  rw [List.getElem?_drop] at hi
  exact hb _ p (Nat.le_add_right _ _) hi
 have h2 : ∀ p ∈ c.take j, ltB p.1 k = true := fun p hp => by
  obtain ⟨i, hi⟩ := List.getElem?_of_mem hp
  rw [List.getElem?_take] at hi
  split at hi
  ·rename_i hlt
   have hlt2 : ∀ q, c[j - 1]? = some q → ltB q.1 k = true := fun q hq => by
    have h3 := ha q (by omega) hq
    rcases ltB_tri q.1 k with h | h | h
    ·exact h
    ·exact absurd h (hn q (List.mem_of_getElem? hq))
    ·rw [h] at h3; cases h3
   by_cases he : i = j - 1
   ·subst he; exact hlt2 p hi
   ·have hl : j - 1 < c.length := by omega
    have h4 := hlt2 c[j - 1] (List.getElem?_eq_getElem hl)
    obtain ⟨hil, hie⟩ := List.getElem?_eq_some_iff.1 hi
    have h5 := (List.pairwise_iff_getElem.1 hs) i (j - 1) hil hl (by omega)
    rw [hie] at h5
    exact ltB_trans h5 h4
  ·cases hi
 have e1 : c.filter (fun p => ltB p.1 k) = c.take j := by
  conv => lhs; rw [← List.take_append_drop j c]
  rw [List.filter_append, List.filter_eq_self.2 h2, List.filter_eq_nil_iff.2 (fun p hp hc => absurd (ltB_asym (h1 p hp)) (by rw [hc]; decide)), List.append_nil]
 have e2 : c.filter (fun p => ltB k p.1) = c.drop j := by
  conv => lhs; rw [← List.take_append_drop j c]
  rw [List.filter_append, List.filter_eq_self.2 h1, List.filter_eq_nil_iff.2 (fun p hp hc => absurd (ltB_asym (h2 p hp)) (by rw [hc]; decide)), List.nil_append]
 unfold kIns
 rw [e1, e2]
theorem set_snocK1 {X : List AObj} {o : AObj} {es e' : List (List AVal)} (h : es = e') : (X ++ [o]).set (0 + X.length) (AObj.arr 1 es) = X ++ [.arr 1 e'] := by rw [h, set_snoc]
theorem keyC_take {α : Type} (c : List (ByteArray × α)) (j : Nat) : (keyC c).take j = keyC (c.take j) := by simp [keyC, List.map_take]
theorem keyC_drop {α : Type} (c : List (ByteArray × α)) (j : Nat) : (keyC c).drop j = keyC (c.drop j) := by simp [keyC, List.map_drop]
theorem keyC_length {α : Type} (c : List (ByteArray × α)) : (keyC c).length = c.length := by simp [keyC]
theorem getX {K X : List AObj} {a : AObj} {i : Nat} {o : AObj} (h : X[i]? = some o) : (K ++ a :: X)[K.length + 1 + i]? = some o := by
 rw [List.getElem?_append_right (by omega), show K.length + 1 + i - K.length = i + 1 by omega, List.getElem?_cons_succ]; exact h
theorem nam_E (c : List (ByteArray × List Int)) (nm : ByteArray) (d : List Int) {j : Nat} (hj : j ≤ c.length) :
  List.take (j : Int).toNat (List.drop 0 (keyC c)) ++ List.take ([AVal.str nm] :: [] ++ List.take (c.length - (j : Int).toNat) (List.drop (0 + (j : Int).toNat) (keyC c))).length (List.drop 0 ([AVal.str nm] :: keyC (c.drop j))) =
   keyC (c.take j ++ (nm, d) :: c.drop j) := by
 have e1 : List.take (c.length - j) (keyC (c.drop j)) = keyC (c.drop j) := List.take_of_length_le (by rw [keyC_length, List.length_drop]; omega)
 rw [List.drop_zero, List.drop_zero, Int.toNat_natCast, keyC_take, Nat.zero_add, keyC_drop, e1]
 have e2 : List.take ([AVal.str nm] :: [] ++ keyC (c.drop j)).length ([AVal.str nm] :: keyC (c.drop j)) = [AVal.str nm] :: keyC (c.drop j) := List.take_of_length_le (by simp)
 rw [e2]
 simp [keyC]
theorem nam_slot {K X : List AObj} {mt o1 : AObj} {E : List (List AVal)} {c' : List (ByteArray × List Int)} (hE : E = keyC c') : AVal.sl (0 + (K ++ mt :: X ++ [o1]).length) E.length 0 E.length = .sl (K.length + 1 + (X.length + 1)) c'.length 0 c'.length := by
 subst hE
 rw [keyC_length]
 congr 1
 simp; omega
theorem nam_heap {K X : List AObj} {mt o1 : AObj} {E : List (List AVal)} {c' : List (ByteArray × List Int)} (hE : E = keyC c') : K ++ mt :: X ++ [o1] ++ [.arr 1 E] = K ++ mt :: (X ++ [o1, .arr 1 (keyC c')]) := by
 subst hE; simp
def NamQ (H : List AObj) (ro : Nat → Option Role) (c : List (ByteArray × List Int)) (r : AVal) (H' : List AObj) : Prop :=
 ∃ K a X i, KF H ro K ∧ H' = K ++ a :: X ∧ r = .sl (K.length + 1 + i) c.length 0 c.length ∧ X[i]? = some (.arr 1 (keyC c))
section
variable {H : List AObj} {s : Nat} {σ : Sto} {ro : Nat → Option Role} {z : SP} {lv : AVal}
set_option maxRecDepth 20000 in
theorem rNames_raw {P : Program} (F : F_z1m P) (h : RepR H s σ ro z lv) (env : ByteArray) (hf : KSrt (σ.blobs env)) (hlen : (σ.blobs env).length ≤ 1000000)
  (kvs : List (AVal × AVal)) (g3 : PM (RDr H ro) kvs (σ.blobs env)) (hcase : (mfind 2 (.str env) z.B = none ∧ σ.blobs env = []) ∨ (mfind 2 (.str env) z.B = some .nilm ∧ σ.blobs env = []) ∨ ∃ idb, mfind 2 (.str env) z.B = some (.mp idb) ∧ H[idb]? = some (.map kvs) ∧ ro idb = some .blob) :
  ACalls P F.id [.ptr s 1 0 0, .str env] H (NamQ H ro (σ.blobs env)) := by
 refine acalls_of_body F.has ?_
 (conv => whnf); refine recO (h.hs) ?_
 (conv => whnf); refine recO (h.hb) ?_
 (conv => whnf); refine recT (h.pB.ok env) ?_
 rcases hcase with ⟨g1, hk0⟩ | ⟨g1, hk0⟩ | ⟨idb, g1, g2, hrb⟩
 ·(conv => whnf); refine recN g1 ?_
  conv => whnf
  refine snocK_to ?_
  conv => whnf
  refine ⟨fun m ρ H1 => H1 = H ++ [.mit none 0 [], .arr 1 []] ∧ Sv 46 [(5, .sl (H.length + 1) 0 0 0), (14, .it H.length)] ρ, 0, [(5, 1)], ?_, ?_⟩
  ·(conv => whnf); refine snocK_to ?_
   conv => whnf
   refine ⟨by simp, Sv.intro rfl ⟨?_, ?_, trivial⟩⟩
   ·show AVal.sl _ _ _ _ = _
    simp
   ·show AVal.it _ = _
    simp
  rintro m ρ H1 ⟨rfl, d, rfl⟩
  (conv => whnf); refine recO (getA) ?_
  conv => whnf
  rw [hk0]
  exact ⟨H, _, _, 0, .inl rfl, rfl, rfl, rfl⟩
 ·(conv => whnf); refine recO (g1) ?_
  conv => whnf
  refine snocK_to ?_
  conv => whnf
  refine ⟨fun m ρ H1 => H1 = H ++ [.mit none 0 [], .arr 1 []] ∧ Sv 46 [(5, .sl (H.length + 1) 0 0 0), (14, .it H.length)] ρ, 0, [(5, 1)], ?_, ?_⟩
  ·(conv => whnf); refine snocK_to ?_
   conv => whnf
   refine ⟨by simp, Sv.intro rfl ⟨?_, ?_, trivial⟩⟩
   ·show AVal.sl _ _ _ _ = _
    simp
   ·show AVal.it _ = _
    simp
  rintro m ρ H1 ⟨rfl, d, rfl⟩
  (conv => whnf); refine recO (getA) ?_
  conv => whnf
  rw [hk0]
  exact ⟨H, _, _, 0, .inl rfl, rfl, rfl, rfl⟩
 ·have hidb := (List.getElem?_eq_some_iff.1 g2).1
  (conv => whnf); refine recO (g1) ?_
  (conv => whnf); refine recO (g2) ?_
  conv => whnf
  intro kvs0 bs ck hp0 hl hnd hck
  refine setO_at rfl ?_
  refine snocK_to ?_
  have hl0 : (H.set idb (.bmap kvs0 bs ck)).length = H.length := List.length_set ..
  have hbm : ∀ X, (H.set idb (.bmap kvs0 bs ck) ++ X)[idb]? = some (.bmap kvs0 bs ck) := fun X => at_old (set_at g2)
  obtain ⟨L, rfl, hlp, hlr⟩ := g3.perm hp0
  have hLn : (L.map (·.1)).Nodup := PM.keysL hlp hf
  have hkf : KF H ro (H.set idb (.bmap (L.map fun p => (AVal.str p.1, p.2.1)) bs ck)) := .inr ⟨idb, kvs, _, bs, ck, g2, hrb, hp0, rfl⟩
  generalize hK : H.set idb (.bmap (L.map fun p => (AVal.str p.1, p.2.1)) bs ck) = K at hl0 hbm hkf ⊢
  have hlen2 : bs.length = L.length := by rw [hl, List.length_map]
  conv => whnf
  refine ⟨fun m ρ H1 => ∃ (pre : List (ByteArray × AVal × List Int)) (seen : List Nat) (c : List (ByteArray × List Int)) (X : List AObj) (xi : Nat), m + pre.length = L.length ∧ Rng L bs seen pre ∧ KSrt c ∧ c.Perm (pre.map fun p => (p.1, p.2.2)) ∧ X[xi]? = some (.arr 1 (keyC c)) ∧ H1 = K ++ .mit (some idb) ck seen :: X ∧
   Sv 46 [(5, .sl (K.length + 1 + xi) c.length 0 c.length), (14, .it K.length)] ρ, L.length, [(5, 1)], ?_, ?_⟩
  ·(conv => whnf); refine snocK_to ?_
   conv => whnf
   refine ⟨[], [], [], [.arr 1 []], 0, by simp, Rng.start, KSrt.nil, .nil, rfl, by simp, Sv.intro rfl ⟨?_, ?_, trivial⟩⟩
   ·show AVal.sl _ _ _ _ = _
    simp
   ·show AVal.it _ = _
    simp
  rintro m ρ H1 ⟨pre, seen, c, X, xi, hm, hr1, hcs, hcp, hX0, rfl, d, rfl⟩
  (conv => whnf); refine recO (getA) ?_
  (conv => whnf); refine recO (hbm _) ?_
  (conv => whnf); refine recT (Nat.beq_refl _) ?_
  refine And.intro (fun i kv b hx hb1 hnb => ?_) (fun hov => ?_)
  ·have hx0 := hx
   rw [List.getElem?_map] at hx
   obtain ⟨p, hp, rfl⟩ := Option.map_eq_some_iff.1 hx
   have hlt := hr1.lt hp hb1 hnb
   have hr2 := hr1.step hp hb1 hnb
   have hnew : p.1 ∉ pre.map (·.1) := by
    have := hr2.nodup hLn
    rw [List.map_append, List.nodup_append] at this
    exact fun hmem => this.2.2 _ hmem _ (by simp) rfl
   have hcl : c.length = pre.length := by rw [hcp.length_eq, List.length_map]
   have hLl : L.length ≤ 1000000 := by have := hlp.length_eq; rw [List.length_map] at this; omega
   have hkn : ∀ q ∈ c, q.1 ≠ p.1 := fun q hq e => hnew (by
    obtain ⟨y, hy, rfl⟩ := List.mem_map.1 (hcp.mem_iff.1 hq)
    exact List.mem_map.2 ⟨y, hy, e⟩)
   have hcp2 : (kIns p.1 p.2.2 c).Perm ((pre ++ [p]).map fun p => (p.1, p.2.2)) := by
    refine (kIns_perm _ _ _).trans ?_
    have e : kDel p.1 c = c := List.filter_eq_self.2 fun q hq => by rw [kEq_false (Ne.symm (hkn q hq))]; rfl
    rw [e, List.map_append]
    exact (List.Perm.cons _ hcp).trans (List.perm_append_comm (l₁ := [(p.1, p.2.2)]))
   have hcs2 := hcs.ins p.1 p.2.2
   (conv => whnf)
   refine setO_at setA ?_
   (conv => whnf); refine recO (getA) ?_
   (conv => whnf); refine recO (hbm _) ?_
   (conv => whnf); refine recT (Nat.beq_refl _) ?_
   (conv => whnf)
   refine ⟨i, _, b, by simp, hb1, hx0, ?_⟩
   have hX : ∀ {a : AObj}, (K ++ a :: X)[K.length + 1 + xi]? = some (.arr 1 (keyC c)) := getX hX0
   (conv => whnf); refine recO (hX) ?_
   (conv => whnf); refine recT (by rw [keyC_length]; exact Nat.beq_refl _) ?_
   generalize hmt : AObj.mit (some idb) ck (seen ++ [b]) = mt
   conv => whnf
   refine ⟨fun m2 ρ H1 => m2 ≤ c.length ∧ (∀ i q, m2 ≤ i → c[i]? = some q → ltB p.1 q.1 = true) ∧ H1 = K ++ mt :: X ∧
    Sv 46 [(5, .sl (K.length + 1 + xi) c.length 0 c.length), (6, .str p.1), (7, .int .i64 m2), (14, .it K.length)] ρ, c.length, [], ?_, ?_⟩
   ·exact ⟨Nat.le_refl _, fun i q h1 h2 => absurd (List.getElem?_eq_some_iff.1 h2).1 (by omega), rfl, Sv.intro rfl ⟨rfl, rfl, rfl, rfl, trivial⟩⟩
   rintro j ρ H1 ⟨hj, hbeh, rfl, d2, rfl⟩
   (conv => whnf); refine recA (fun hpos => ?_) (fun hpos => ?_)
   ·simp at hpos
    obtain ⟨j, rfl⟩ : ∃ i, j = i + 1 := ⟨j - 1, by omega⟩
    obtain ⟨⟨nq, dq⟩, hq, _, hqm⟩ := get_drop (show j < c.length by omega)
    have hw1 : IntKind.i64.wrap (((j + 1 : Nat) : Int) - 1) = (j : Int) := by rw [wrapI _ (by omega) (by omega)]; omega
    have hqe : (keyC c)[0 + (j : Int).toNat]? = some [.str nq] := by rw [Nat.zero_add, Int.toNat_natCast]; unfold keyC; rw [List.getElem?_map, hq]; rfl
    conv => whnf
    rw [hw1]
    (conv => whnf); refine recO (hX) ?_
    (conv => whnf); refine recT (by rw [keyC_length]; exact Nat.beq_refl _) ?_
    (conv => whnf); refine And.intro (by omega) ?_
    (conv => whnf); refine recO (hX) ?_
    (conv => whnf); refine recT (by rw [keyC_length]; exact Nat.beq_refl _) ?_
    (conv => whnf); refine recO (hqe) ?_
    cases hlt2 : ltB p.1 nq with
    | true =>
     (conv => whnf); refine recT (hlt2) ?_
     conv => whnf
     rw [hw1]
     refine ⟨j, by omega, Gp.keep rfl ?_ fun ρ1 h => ⟨by omega, fun i q h1 h2 => ?_, rfl, h⟩⟩
     ·exact ⟨rfl, rfl, rfl, rfl, trivial⟩
     ·rcases Nat.lt_or_ge j i with h3 | h3
      ·exact hbeh i q h3 h2
      ·obtain rfl : i = j := by omega
       rw [hq] at h2; cases h2; exact hlt2
    | false =>
     (conv => whnf); refine recF (hlt2) ?_
     have hki : kIns p.1 p.2.2 c = c.take (j + 1) ++ (p.1, p.2.2) :: c.drop (j + 1) := kIns_at hcs hkn hj hbeh fun q _ h2 => by rw [Nat.add_sub_cancel, hq] at h2; cases h2; exact hlt2
     have hjl : (c.take (j + 1)).length = j + 1 := by rw [List.length_take]; omega
     (conv => whnf); refine recO (hX) ?_
     (conv => whnf); refine recT (by rw [keyC_length]; exact Nat.beq_refl _) ?_
     (conv => whnf); refine And.intro (by omega) ?_
     (conv => whnf); refine recT (by simp <;> omega) ?_
     (conv => whnf); refine snocK_to ?_
     (conv => whnf); refine recO (at_old hX) ?_
     (conv => whnf); refine recT (by rw [keyC_length]; exact Nat.beq_refl _) ?_
     (conv => whnf); refine And.intro (by omega) ?_
     (conv => whnf); refine recO (at_old hX) ?_
     (conv => whnf); refine recT (by rw [keyC_length]; exact Nat.beq_refl _) ?_
     (conv => whnf); refine recO (at_snoc _ _) ?_
     have hdr : ∀ n : Nat, n ≤ c.length → [AVal.str p.1] :: [] ++ List.take (c.length - (n : Int).toNat) (List.drop (0 + (n : Int).toNat) (keyC c)) = [.str p.1] :: keyC (c.drop n) := fun n hn => by
      rw [Nat.zero_add, Int.toNat_natCast, List.take_of_length_le (by rw [List.length_drop, keyC_length]; omega), keyC_drop]; rfl
     (conv => whnf); refine And.intro (⟨by simp [roomB]; omega, by simp [roomB]; omega, rfl, rfl⟩) ?_
     refine setO_at (set_snocK1 (hdr _ (by omega))) ?_
     (conv => whnf); refine recO (at_snoc _ _) ?_
     (conv => whnf); refine recT (by simp [keyC_length] <;> omega) ?_
     (conv => whnf); refine recO (at_old hX) ?_
     (conv => whnf); refine recT (by rw [keyC_length]; exact Nat.beq_refl _) ?_
     (conv => whnf); refine Or.inr (And.intro ⟨rfl, by simp, by simp [roomB, keyC_length]; omega, by simp [roomB, keyC_length]; omega⟩ ?_)
     (conv => whnf); refine snocK_to ?_
     conv => whnf
     refine And.intro ?_ ?_
     ·first
       | ((conv => whnf); refine recO (hX) ?_)
       | ((conv => whnf); refine recO (at_old hX) ?_)
       | ((conv => whnf); refine recO (at_old (at_old hX)) ?_)
      (conv => whnf); refine recT (by rw [keyC_length]; exact Nat.beq_refl _) ?_
      (conv => whnf); refine And.intro (by omega) ?_
      conv => whnf
     conv => whnf
     refine And.intro ?_ ?_
     ·first
       | ((conv => whnf); refine recO (hX) ?_)
       | ((conv => whnf); refine recO (at_old hX) ?_)
       | ((conv => whnf); refine recO (at_old (at_old hX)) ?_)
      (conv => whnf); refine recT (by rw [keyC_length]; exact Nat.beq_refl _) ?_
      (conv => whnf); refine And.intro (by omega) ?_
      (conv => whnf); refine recT (by simp <;> omega) ?_
      conv => whnf
     conv => whnf
     refine And.intro ?_ ?_
     ·first
       | ((conv => whnf); refine recO (hX) ?_)
       | ((conv => whnf); refine recO (at_old hX) ?_)
       | ((conv => whnf); refine recO (at_old (at_old hX)) ?_)
      (conv => whnf); refine recT (by rw [keyC_length]; exact Nat.beq_refl _) ?_
      (conv => whnf); refine And.intro (by omega) ?_
      (conv => whnf); refine recT (by simp <;> omega) ?_
      conv => whnf
     conv => whnf
     refine ⟨m - 1, by omega, Gp.keep rfl ?_ fun ρ1 h => ⟨pre ++ [p], seen ++ [b], kIns p.1 p.2.2 c, X ++ [_, .arr 1 (keyC (kIns p.1 p.2.2 c))], X.length + 1, by simp; omega, hr2, hcs2, hcp2, by rw [List.getElem?_append_right (by omega)]; simp, (nam_heap (c' := kIns p.1 p.2.2 c) (by rw [hki]; exact nam_E _ _ _ (by omega))).trans (by rw [hmt]), h⟩⟩
     refine ⟨nam_slot (by rw [hki]; exact nam_E _ _ _ (by omega)), rfl, trivial⟩
   ·simp at hpos
    obtain rfl : j = 0 := by omega
    have hki : kIns p.1 p.2.2 c = c.take 0 ++ (p.1, p.2.2) :: c.drop 0 := kIns_at hcs hkn hj hbeh fun q h1 h2 => absurd h1 (by omega)
    have hjl : (c.take 0).length = 0 := by simp
    conv => whnf
    (conv => whnf); refine recO (hX) ?_
    (conv => whnf); refine recT (by rw [keyC_length]; exact Nat.beq_refl _) ?_
    (conv => whnf); refine And.intro (by omega) ?_
    conv => whnf
    refine snocK_to ?_
    (conv => whnf); refine recO (at_old hX) ?_
    (conv => whnf); refine recT (by rw [keyC_length]; exact Nat.beq_refl _) ?_
    (conv => whnf); refine And.intro (by omega) ?_
    (conv => whnf); refine recO (at_old hX) ?_
    (conv => whnf); refine recT (by rw [keyC_length]; exact Nat.beq_refl _) ?_
    (conv => whnf); refine recO (at_snoc _ _) ?_
    have hdr : ∀ n : Nat, n ≤ c.length → [AVal.str p.1] :: [] ++ List.take (c.length - (n : Int).toNat) (List.drop (0 + (n : Int).toNat) (keyC c)) = [.str p.1] :: keyC (c.drop n) := fun n hn => by
     rw [Nat.zero_add, Int.toNat_natCast, List.take_of_length_le (by rw [List.length_drop, keyC_length]; omega), keyC_drop]; rfl
    (conv => whnf); refine And.intro (⟨by simp [roomB, keyC_length]; omega, by simp [roomB, keyC_length]; omega, rfl, rfl⟩) ?_
    refine setO_at (set_snocK1 (hdr _ (by omega))) ?_
    (conv => whnf); refine recO (at_snoc _ _) ?_
    (conv => whnf); refine recT (by simp [keyC_length] <;> omega) ?_
    (conv => whnf); refine And.intro (⟨by simp [roomB, keyC_length]; omega, by simp [roomB, keyC_length]; omega, .inr rfl⟩) ?_
    (conv => whnf); refine snocK_to ?_
    conv => whnf
    refine And.intro ?_ ?_
    ·first
      | ((conv => whnf); refine recO (hX) ?_)
      | ((conv => whnf); refine recO (at_old hX) ?_)
      | ((conv => whnf); refine recO (at_old (at_old hX)) ?_)
     (conv => whnf); refine recT (by rw [keyC_length]; exact Nat.beq_refl _) ?_
     (conv => whnf); refine And.intro (by omega) ?_
     conv => whnf
    conv => whnf
    refine And.intro ?_ ?_
    ·first
      | ((conv => whnf); refine recO (hX) ?_)
      | ((conv => whnf); refine recO (at_old hX) ?_)
      | ((conv => whnf); refine recO (at_old (at_old hX)) ?_)
     (conv => whnf); refine recT (by rw [keyC_length]; exact Nat.beq_refl _) ?_
     (conv => whnf); refine And.intro (by omega) ?_
     conv => whnf
    conv => whnf
    refine And.intro ?_ ?_
    ·first
      | ((conv => whnf); refine recO (hX) ?_)
      | ((conv => whnf); refine recO (at_old hX) ?_)
      | ((conv => whnf); refine recO (at_old (at_old hX)) ?_)
     (conv => whnf); refine recT (by rw [keyC_length]; exact Nat.beq_refl _) ?_
     (conv => whnf); refine And.intro (by omega) ?_
     conv => whnf
    conv => whnf
    refine ⟨m - 1, by omega, Gp.keep rfl ?_ fun ρ1 h => ⟨pre ++ [p], seen ++ [b], kIns p.1 p.2.2 c, X ++ [_, .arr 1 (keyC (kIns p.1 p.2.2 c))], X.length + 1, by simp; omega, hr2, hcs2, hcp2, by rw [List.getElem?_append_right (by omega)]; simp, (nam_heap (c' := kIns p.1 p.2.2 c) (by rw [hki]; exact nam_E _ _ _ (by omega))).trans (by rw [hmt]), h⟩⟩
    refine ⟨nam_slot (by rw [hki]; exact nam_E _ _ _ (by omega)), rfl, trivial⟩
  ·have hpl := hr1.over hlen2 hnd hov
   have hce : c = σ.blobs env := hcs.eq hf (hcp.trans ((hpl.map _).trans hlp))
   conv => whnf
   subst hce
   exact ⟨K, _, X, xi, hkf, rfl, rfl, hX0⟩
end
def rpA (p : List Int) : ByteArray := txV (tkS 1 ⟨p, false⟩)
def rpB (p : List Int) : RdS := txS (tkS 1 ⟨p, false⟩)
theorem flat_len (c : List (ByteArray × Chg)) : c.length ≤ (c.flatMap entI).length := by
 induction c with
 | nil => exact Nat.le_refl _
 | cons q l ih => rw [List.flatMap_cons, List.length_append, List.length_cons, entI, List.length_cons]; omega
theorem kIns_mem {α : Type} {k : ByteArray} {x : α} {c : List (ByteArray × α)} {p : ByteArray × α} (h : p ∈ kIns k x c) : p = (k, x) ∨ p ∈ c := by
 rcases List.mem_cons.1 ((kIns_perm k x c).mem_iff.1 h) with h | h
 ·exact .inl h
 ·exact .inr (List.mem_filter.1 h).1
theorem swapR_ok {a b : ByteArray} {σ : Sto} (h : (swapR a b σ).1 = 0) : nameB a = true ∧ nameB b = true ∧ a ≠ b ∧ jFull σ.log (spayI a b) = false ∧ (swapR a b σ).2 = swpS (lgS σ (σ.log ++ jEnt (spayI a b))) a b := by
 unfold swapR at h ⊢
 split at h
 ·cases h
 ·rename_i h1
  split at h
  ·cases h
  ·rename_i h2
   split at h
   ·cases h
   ·rename_i h3
    rw [if_neg h1, if_neg h2, if_neg h3]
    simp at h1 h3
    exact ⟨h1.1, h1.2, h2, h3, rfl⟩
theorem commitR_ok {a : ByteArray} {σ : Sto} (h : (commitR a σ).1 = 0) : nameB a = true ∧ (σ.staged a).length ≠ 0 ∧ (afterL (σ.blobs a) (σ.staged a)).length ≤ 256 ∧ jFull σ.log (payI a (σ.staged a)) = false ∧
  (commitR a σ).2 = comS σ a (afterL (σ.blobs a) (σ.staged a)) (σ.log ++ jEnt (payI a (σ.staged a))) := by
 unfold commitR at h ⊢
 split at h
 ·cases h
 ·rename_i h1
  split at h
  ·cases h
  ·rename_i h2
   split at h
   ·cases h
   ·rename_i h3
    split at h
    ·cases h
    ·rename_i h4
     rw [if_neg h1, if_neg h2, if_neg h3, if_neg h4]
     simp at h1 h4
     exact ⟨h1, h2, by omega, h4, rfl⟩
section
variable {H : List AObj}
def newRo (n : Nat) : Nat → Option Role := fun i => if i = n then some .b else if i = n + 1 then some .t else if i = n + 2 then some .v else if i = n + 3 then some .s else none
theorem RepR.empty (H : List AObj) : RepR (H ++ [.map [], .map [], .map [], .arr 4 [[.mp H.length, .mp (H.length + 1), .mp (H.length + 2), .nil]]]) (H.length + 3) (Sto.new []) (newRo H.length)
  ⟨H.length, H.length + 1, H.length + 2, [], [], [], [], [], []⟩ .nil := by
 refine ⟨by simp, by simp, by simp, by simp, by simp [newRo], by simp [newRo], by simp [newRo], by simp [newRo], PM.nil, PM.nil, PM.nil, KSrt.nil, KSrt.nil, KSrt.nil, fun _ => rfl, fun _ => rfl, fun _ => rfl, fun i hi => ?_, .inl ⟨rfl, rfl⟩⟩
 simp only [List.length_append, List.length_cons, List.length_nil]
 by_cases h1 : i = H.length
 ·omega
 by_cases h2 : i = H.length + 1
 ·omega
 by_cases h3 : i = H.length + 2
 ·omega
 by_cases h4 : i = H.length + 3
 ·omega
 ·unfold newRo at hi
  rw [if_neg h1, if_neg h2, if_neg h3, if_neg h4] at hi; exact absurd rfl hi
def rnewX (n : Nat) : List AObj := [.map [], .map [], .map [], .arr 4 [[.mp n, .mp (n + 1), .mp (n + 2), .nil]]]
set_option maxRecDepth 20000 in
theorem rNew_spec {P : Program} (F : F_z1j P) (H : List AObj) :
  ACalls P F.id [] H (fun r H' => r = .ptr (H.length + 3) 1 0 0 ∧ H' = H ++ rnewX H.length) := by
 refine acalls_of_body F.has ?_
 have l0 : 0 + H.length = H.length := by simp
 have l1 : 0 + (H ++ [AObj.map []]).length = H.length + 1 := by simp
 have l2 : 0 + (H ++ [AObj.map []] ++ [AObj.map []]).length = H.length + 2 := by simp
 have e3 : H ++ [AObj.map []] ++ [AObj.map []] ++ [AObj.map []] = H ++ [.map [], .map [], .map []] := by simp
 (conv => whnf); refine snocK_to ?_
 (conv => whnf); refine snocK_to ?_
 (conv => whnf); refine snocK_to ?_
 rw [l0, l1, l2, e3]
 (conv => whnf); refine snocK_to ?_
 conv => whnf
 exact ⟨by simp, by simp [rnewX]⟩
end
end Go.AW
namespace Go.AW
variable [Draws]
structure OkE (p : ByteArray × Chg) : Prop where
 q : qualB p.1 = true
 d : p.2.data.length ≤ 65536
 r : p.2.rm = true → p.2.data = []
theorem nameB_24 {s : ByteArray} (h : nameB s = true) : s.size ≤ 24 := by
 simp [nameB] at h
 omega
theorem txI_app (s : ByteArray) (rest : List Int) (hs : s.size ≤ 255) : txV ⟨txI s ++ rest, false⟩ = s ∧ txS ⟨txI s ++ rest, false⟩ = ⟨rest, false⟩ := ⟨(text_app s rest hs).1, (text_app s rest hs).2.2⟩
theorem ent_app {p : ByteArray × Chg} (h : OkE p) (hs : p.1.size ≤ 255) (rest : List Int) :
  nbV 1 ⟨entI p ++ rest, false⟩ = (bif p.2.rm then 1 else 0) ∧ txV (tkS 1 ⟨entI p ++ rest, false⟩) = p.1 ∧ txS (tkS 1 ⟨entI p ++ rest, false⟩) = ⟨(bif p.2.rm then [] else beN 4 p.2.data.length ++ p.2.data) ++ rest, false⟩ := by
 have e1 : entI p ++ rest = [bif p.2.rm then 1 else 0] ++ (txI p.1 ++ ((bif p.2.rm then [] else beN 4 p.2.data.length ++ p.2.data) ++ rest)) := by simp [entI]
 have t1 : tkS 1 ⟨entI p ++ rest, false⟩ = ⟨txI p.1 ++ ((bif p.2.rm then [] else beN 4 p.2.data.length ++ p.2.data) ++ rest), false⟩ := by rw [e1]; exact (tk_app [_] _ 1 rfl).2.2
 refine ⟨?_, ?_, ?_⟩
 ·rw [e1, nb_app [_] _ 1 rfl]; show 0 * 256 + _ = _; omega
 ·rw [t1]; exact (txI_app _ _ hs).1
 ·rw [t1]; exact (txI_app _ _ hs).2
theorem dat_app (d rest : List Int) (h : d.length ≤ 65536) : nbV 4 ⟨beN 4 d.length ++ d ++ rest, false⟩ = d.length ∧ tkS 4 ⟨beN 4 d.length ++ d ++ rest, false⟩ = ⟨d ++ rest, false⟩ := by
 rw [List.append_assoc]
 refine ⟨?_, (tk_app _ _ 4 (by rw [beN_length]; rfl)).2.2⟩
 rw [nb_app _ _ 4 (by rw [beN_length]; rfl), num_be 4 _ (by omega) (by omega)]
theorem rdStep_app {p : ByteArray × Chg} (h : OkE p) (hs : p.1.size ≤ 255) (rest : List Int) (cs : List (ByteArray × Chg)) : rdStep ⟨entI p ++ rest, false⟩ cs = (⟨rest, false⟩, kIns p.1 p.2 cs) := by
 obtain ⟨e1, e2, e3⟩ := ent_app h hs rest
 obtain ⟨nm, ⟨rm, data⟩⟩ := p
 unfold rdStep
 rw [e2, e3]
 have hq := h.q
 have hd := h.d
 have hr := h.r
 dsimp only at e1 e2 e3 hq hd hr ⊢
 have hrm : rdRm ⟨entI (nm, ⟨rm, data⟩) ++ rest, false⟩ = rm := by
  unfold rdRm
  rw [e1]
  cases rm <;> rfl
 rw [hrm]
 cases rm with
 | true =>
  have := hr rfl
  subst this
  unfold rdData rdEnd
  simp [hq]
 | false =>
  obtain ⟨d1, d2⟩ := dat_app data rest hd
  have d3 := tk_app data rest data.length rfl
  have hdd : rdData ⟨(bif false then [] else beN 4 data.length ++ data) ++ rest, false⟩ false = (data, ⟨rest, false⟩) := by
   unfold rdData
   rw [if_neg (by decide)]
   show (tkL (nbV 4 ⟨beN 4 data.length ++ data ++ rest, false⟩) (tkS 4 ⟨beN 4 data.length ++ data ++ rest, false⟩), tkS (nbV 4 ⟨beN 4 data.length ++ data ++ rest, false⟩) (tkS 4 ⟨beN 4 data.length ++ data ++ rest, false⟩)) = _
   rw [d1, d2, d3.1, d3.2.2]
  rw [hdd]
  unfold rdEnd
  simp [hq, hd]
theorem qualB_len {s : ByteArray} (h : qualB s = true) : s.size ≤ 255 := Nat.le_trans (qualB_size h) (by decide)
theorem rdLoop_app : ∀ (c : List (ByteArray × Chg)) (rest : List Int) (cs : List (ByteArray × Chg)), (∀ p ∈ c, OkE p) → rdLoop c.length ⟨c.flatMap entI ++ rest, false⟩ cs = (⟨rest, false⟩, c.foldl (fun cs p => kIns p.1 p.2 cs) cs)
 | [], rest, cs, _ => rfl
 | p :: c, rest, cs, h => by
  have hp := h p (List.mem_cons_self ..)
  rw [List.flatMap_cons, List.append_assoc, List.length_cons, rdLoop, if_neg (by simp), rdStep_app hp (qualB_len hp.q)]
  exact rdLoop_app c rest _ fun q hq => h q (List.mem_cons_of_mem _ hq)
theorem kIns_last {α : Type} {k : ByteArray} {x : α} {c : List (ByteArray × α)} (h : ∀ p ∈ c, ltB p.1 k = true) : kIns k x c = c ++ [(k, x)] := by
 unfold kIns
 rw [List.filter_eq_self.2 h, List.filter_eq_nil_iff.2 (fun p hp hc => absurd (ltB_asym (h p hp)) (by rw [hc]; decide))]
theorem kIns_fold {α : Type} : ∀ (c acc : List (ByteArray × α)), KSrt (acc ++ c) → c.foldl (fun cs p => kIns p.1 p.2 cs) acc = acc ++ c
 | [], acc, _ => by simp
 | p :: c, acc, h => by
  have h0 := h
  unfold KSrt at h
  rw [List.pairwise_append] at h
  rw [List.foldl_cons, kIns_last fun q hq => h.2.2 q hq p (List.mem_cons_self ..)]
  have := kIns_fold c (acc ++ [(p.1, p.2)]) (by rw [List.append_assoc]; exact h0)
  rw [this, List.append_assoc]; rfl
theorem rdLoop_ok : ∀ (n : Nat) {q : RdS} {cs : List (ByteArray × Chg)}, (∀ p ∈ cs, OkE p) → (rdLoop n q cs).1.bad = false → ∀ p ∈ (rdLoop n q cs).2, OkE p
 | 0, _, _, h, _ => h
 | n + 1, q, cs, h, hb => by
  unfold rdLoop at hb ⊢
  split
  ·exact h
  ·rename_i hq
   rw [if_neg hq] at hb
   refine rdLoop_ok n (fun p hp => ?_) hb
   have h1 := (rdLoop_len n hb).1
   have hp : p ∈ kIns (txV (tkS 1 q)) ⟨rdRm q, (rdData (txS (tkS 1 q)) (rdRm q)).1⟩ cs := hp
   have h1 : (rdEnd (rdData (txS (tkS 1 q)) (rdRm q)).2 (txV (tkS 1 q)) (rdData (txS (tkS 1 q)) (rdRm q)).1).bad = false := h1
   rcases kIns_mem hp with rfl | hp
   ·unfold rdEnd at h1
    split at h1
    ·cases h1
    ·rename_i hc
     simp at hc
     refine ⟨hc.1, hc.2, fun hr => ?_⟩
     show (rdData (txS (tkS 1 q)) (rdRm q)).1 = []
     unfold rdData
     rw [if_pos hr]
   ·exact h p hp
theorem kIns_len {α : Type} (k : ByteArray) (x : α) (c : List (ByteArray × α)) : (kIns k x c).length ≤ c.length + 1 := by
 rw [(kIns_perm k x c).length_eq, List.length_cons]
 exact Nat.succ_le_succ (List.length_filter_le _ _)
theorem rdLoop_cnt : ∀ (n : Nat) (q : RdS) (cs : List (ByteArray × Chg)), (rdLoop n q cs).2.length ≤ cs.length + n
 | 0, _, _ => Nat.le_refl _
 | n + 1, q, cs => by
  unfold rdLoop
  split
  ·exact Nat.le_add_right _ _
  ·have h1 := rdLoop_cnt n (rdStep q cs).1 (rdStep q cs).2
   have h2 : (rdStep q cs).2.length ≤ cs.length + 1 := kIns_len _ _ _
   omega
theorem pay_head {env : ByteArray} (he : nameB env = true) {c : List (ByteArray × Chg)} (hc : c.length ≤ 65535) :
  nbV 1 ⟨payI env c, false⟩ = 1 ∧ rpA (payI env c) = env ∧ nbV 2 (rpB (payI env c)) = c.length ∧ tkS 2 (rpB (payI env c)) = ⟨c.flatMap entI ++ [], false⟩ := by
 have hs : env.size ≤ 255 := nameB_len he
 have e1 : payI env c = [1] ++ (txI env ++ (beN 2 c.length ++ (c.flatMap entI ++ []))) := by simp [payI]
 have t1 : tkS 1 ⟨payI env c, false⟩ = ⟨txI env ++ (beN 2 c.length ++ (c.flatMap entI ++ [])), false⟩ := by rw [e1]; exact (tk_app [_] _ 1 rfl).2.2
 have t2 : rpB (payI env c) = ⟨beN 2 c.length ++ (c.flatMap entI ++ []), false⟩ := by rw [rpB, t1]; exact (txI_app _ _ hs).2
 refine ⟨?_, ?_, ?_, ?_⟩
 ·rw [e1, nb_app [_] _ 1 rfl]; rfl
 ·rw [rpA, t1]; exact (txI_app _ _ hs).1
 ·rw [t2, nb_app _ _ 2 (by rw [beN_length]; rfl), num_be 2 _ (by omega) (by omega)]
 ·rw [t2]; exact (tk_app _ _ 2 (by rw [beN_length]; rfl)).2.2
theorem spay_head {a b : ByteArray} (ha : nameB a = true) (hb : nameB b = true) :
  nbV 1 ⟨spayI a b, false⟩ = 2 ∧ rpA (spayI a b) = a ∧ txV (rpB (spayI a b)) = b ∧ txS (rpB (spayI a b)) = ⟨[], false⟩ := by
 have e1 : spayI a b = [2] ++ (txI a ++ (txI b ++ [])) := by simp [spayI]
 have t1 : tkS 1 ⟨spayI a b, false⟩ = ⟨txI a ++ (txI b ++ []), false⟩ := by rw [e1]; exact (tk_app [_] _ 1 rfl).2.2
 have t2 : rpB (spayI a b) = ⟨txI b ++ [], false⟩ := by rw [rpB, t1]; exact (txI_app _ _ (nameB_len ha)).2
 refine ⟨?_, ?_, ?_, ?_⟩
 ·rw [e1, nb_app [_] _ 1 rfl]; rfl
 ·rw [rpA, t1]; exact (txI_app _ _ (nameB_len ha)).1
 ·rw [t2]; exact (txI_app _ _ (nameB_len hb)).1
 ·rw [t2]; exact (txI_app _ _ (nameB_len hb)).2
theorem entryR_pay {σ : Sto} {env : ByteArray} (he : nameB env = true) {c : List (ByteArray × Chg)} (hs : KSrt c) (hok : ∀ p ∈ c, OkE p) (hn : c ≠ []) (hc : c.length ≤ 65535) (hbig : (afterL (σ.blobs env) c).length ≤ 256) :
  applyR σ (payI env c) = some (comF σ env (afterL (σ.blobs env) c)) := by
 obtain ⟨h1, h2, h3, h4⟩ := pay_head he hc
 have hA : txV (tkS 1 ⟨payI env c, false⟩) = env := h2
 have hB : txS (tkS 1 ⟨payI env c, false⟩) = rpB (payI env c) := rfl
 have hr : rcomC (tkS 1 ⟨payI env c, false⟩) = (⟨[], false⟩, c) := by
  unfold rcomC
  rw [hB, h3, h4, Int.toNat_natCast, rdLoop_app c [] [] hok, kIns_fold c [] hs]; rfl
 have h0 : c.length ≠ 0 := fun h => hn (List.eq_nil_of_length_eq_zero h)
 have hrc : rcommitR σ (tkS 1 ⟨payI env c, false⟩) = some (payI env c, comF σ env (afterL (σ.blobs env) c)) := by
  unfold rcommitR
  rw [hr, hA]
  dsimp only
  rw [decide_eq_false (show ¬ 256 < (afterL (σ.blobs env) c).length by omega), he, decide_eq_false h0]; rfl
 unfold applyR entryR
 rw [if_pos h1, hrc]
 simp
theorem applyR_spay {σ : Sto} {a b : ByteArray} (ha : nameB a = true) (hb : nameB b = true) (hne : a ≠ b) : applyR σ (spayI a b) = some (swpS σ a b) := by
 obtain ⟨h1, h2, h3, h4⟩ := spay_head ha hb
 have hA : txV (tkS 1 ⟨spayI a b, false⟩) = a := h2
 have hB : txS (tkS 1 ⟨spayI a b, false⟩) = rpB (spayI a b) := rfl
 have hrs : rswapR σ (tkS 1 ⟨spayI a b, false⟩) = some (spayI a b, swpS σ a b) := by
  unfold rswapR
  rw [hB, hA, h3, h4, if_neg]
  simp [ha, hb, kEq_false hne]
 unfold applyR entryR
 rw [if_neg (by rw [h1]; decide), if_pos h1, hrs]
 simp
set_option maxRecDepth 20000 in
theorem nb2_lt {q : RdS} (h : Byt q.rest) : nbV 2 (txS q) ≤ 65535 := by
 have h1 := num_bnd _ (tkL_byt (n := 2) (txS_byt h))
 have h2 := tkL_len (n := 2) (s := txS q) (by omega)
 have h3 : (256 : Int) ^ (tkL 2 (txS q)).length ≤ 256 ^ 2 := by
  have : (256 : Nat) ^ (tkL 2 (txS q)).length ≤ 256 ^ 2 := Nat.pow_le_pow_right (by omega) (by omega)
  exact_mod_cast this
 rw [nbV]; omega
theorem applyR_some {σ σ' : Sto} {p : List Int} (hb : Byt p) (h : applyR σ p = some σ') :
  (∃ env c, p = payI env c ∧ nameB env = true ∧ KSrt c ∧ (∀ q ∈ c, OkE q) ∧ c ≠ [] ∧ c.length ≤ 65535 ∧ (afterL (σ.blobs env) c).length ≤ 256 ∧ σ' = comF σ env (afterL (σ.blobs env) c)) ∨
  ∃ a b, p = spayI a b ∧ nameB a = true ∧ nameB b = true ∧ a ≠ b ∧ σ' = swpS σ a b := by
 unfold applyR at h
 split at h
 ·rename_i pay σ1 he
  split at h
  ·rename_i hp
   cases h
   have hp := eq_of_beq hp
   subst hp
   unfold entryR at he
   split at he
   ·unfold rcommitR at he
    split at he
    ·cases he
    ·rename_i hc
     simp at hc
     obtain ⟨⟨⟨c1, c2⟩, c3⟩, c4⟩ := hc
     simp at he
     obtain ⟨he1, he2⟩ := he
     refine .inl ⟨_, _, he1.symm, c3, rdLoop_srt _ _ KSrt.nil, rdLoop_ok _ (fun q hq => by cases hq) c1, by simpa using c4, ?_, by omega, he2.symm⟩
     have hb2 := nb2_lt (tkS_byt (n := 1) (s := ⟨pay, false⟩) hb)
     have h1 := rdLoop_cnt (nbV 2 (txS (tkS 1 ⟨pay, false⟩))).toNat (tkS 2 (txS (tkS 1 ⟨pay, false⟩))) []
     show (rdLoop (nbV 2 (txS (tkS 1 ⟨pay, false⟩))).toNat (tkS 2 (txS (tkS 1 ⟨pay, false⟩))) []).2.length ≤ 65535
     simp only [List.length_nil] at h1
     omega
   ·split at he
    ·unfold rswapR at he
     split at he
     ·cases he
     ·rename_i hc
      simp at hc
      obtain ⟨⟨⟨c1, c2⟩, c3⟩, c4⟩ := hc
      simp at he
      obtain ⟨he1, he2⟩ := he
      exact .inr ⟨_, _, he1.symm, c2, c3, (fun e => by rw [e, kEq_refl] at c4; cases c4), he2.symm⟩
    ·cases he
  ·cases h
 ·cases h
attribute [local irreducible] ACalls
def tC (l : List ByteArray) : List (List AVal) := l.map fun s => [.str s]
theorem tC_length (l : List ByteArray) : (tC l).length = l.length := by simp [tC]
theorem tC_at {l : List ByteArray} {k : Nat} {x : ByteArray} (h : l[k]? = some x) : (tC l)[k]? = some [.str x] := by rw [tC, List.getElem?_map, h]; rfl
theorem keyC_tC {α : Type} (c : List (ByteArray × α)) : keyC c = tC (c.map (·.1)) := by simp [keyC, tC, Function.comp_def]
theorem pureEs_tC (l : List ByteArray) : pureEs (tC l) = true := by
 unfold pureEs
 rw [List.all_eq_true]
 intro e he
 obtain ⟨s, _, rfl⟩ := List.mem_map.1 he
 rfl
set_option maxRecDepth 20000 in
theorem SameTexts_raw {P : Program} (F : F_z1y P) (e1 e2 : Bool) (l : List ByteArray) (hl : l.length ≤ 1000000) :
  ACalls P F.id [.list e1 1 (tC l), .list e2 1 (tC l)] [] (fun r _ => r = .bool true) := by
 have hn := tC_length l
 refine acalls_of_body F.has ?_
 (conv => whnf); refine recF (by simp) ?_
 conv => whnf
 refine ⟨fun m ρ H1 => ∃ k : Nat, k + m = l.length ∧ H1 = [] ∧ Sv 26 [(0, .list e1 1 (tC l)), (1, .list e2 1 (tC l)), (5, .int .i64 k)] ρ, l.length, [], ?_, ?_⟩
 ·exact ⟨0, by omega, rfl, Sv.intro rfl ⟨rfl, rfl, rfl, trivial⟩⟩
 rintro m ρ H1 ⟨k, hk, rfl, d, rfl⟩
 (conv => whnf); refine recA (fun hlt => ?_) (fun hlt => ?_)
 ·rw [hn] at hlt
  simp at hlt
  obtain ⟨x, hx, _, _⟩ := get_drop hlt
  (conv => whnf); refine And.intro (by omega) ?_
  (conv => whnf); refine recO (tC_at hx) ?_
  (conv => whnf); refine And.intro (by omega) ?_
  (conv => whnf); refine recO (tC_at hx) ?_
  (conv => whnf); refine recF (by simp) ?_
  conv => whnf
  refine ⟨m - 1, by omega, Gp.keep rfl ?_ fun ρ1 h => ⟨k + 1, by omega, rfl, h⟩⟩
  exact ⟨rfl, rfl, intEq (wrapI ((k : Int) + 1) (by omega) (by omega)), trivial⟩
 ·conv => whnf
theorem SameTexts_own {P : Program} (F : F_z1y P) (e1 : Bool) (l : List ByteArray) (hl : l.length ≤ 1000000) (H : List AObj) (id n : Nat) (hn : n = l.length) (ho : H[id]? = some (.arr 1 (tC l))) :
  ACalls P F.id [.list e1 1 (tC l), .sl id n 0 n] H (fun r H' => r = .bool true ∧ H' = H) :=
 ACalls.bor rfl (SameTexts_raw F e1 false l hl) (.cons (.same _ rfl) (.cons (lentSl ho (by rw [tC_length]; exact hn) (by rw [tC_length]; exact hn) (pureEs_tC l)) .nil))
structure Ev where
 k : Int
 ex : Bool
 d : List Int
 t : ByteArray
 n : ByteArray
 r4 : AVal
 r5 : AVal
 r6 : AVal
 r7 : AVal
 r8 : AVal
 r9 : AVal
def evA (x : Ev) : List AVal := [.int .i64 x.k, .list x.ex 1 (bC x.d), .str x.t, .str x.n, x.r4, x.r5, x.r6, x.r7, x.r8, x.r9]
def evC (l : List Ev) : List (List AVal) := l.map evA
theorem evC_length (l : List Ev) : (evC l).length = l.length := by simp [evC]
theorem evC_at {l : List Ev} {k : Nat} {x : Ev} (h : l[k]? = some x) : (evC l)[k]? = some (evA x) := by rw [evC, List.getElem?_map, h]; rfl
theorem evC_append (a b : List Ev) : evC (a ++ b) = evC a ++ evC b := by simp [evC]
structure Ev.Pu (x : Ev) : Prop where
 p4 : x.r4.isPure = true
 p5 : x.r5.isPure = true
 p6 : x.r6.isPure = true
 p7 : x.r7.isPure = true
 p8 : x.r8.isPure = true
 p9 : x.r9.isPure = true
theorem Ev.Pu.all {x : Ev} (h : x.Pu) : (evA x).all AVal.isPure = true := by
 unfold evA
 simp only [List.all_cons, List.all_nil, h.p4, h.p5, h.p6, h.p7, h.p8, h.p9, Bool.and_true]
 rfl
def bLive : ByteArray := bs [108, 105, 118, 101]
def bShadow : ByteArray := bs [115, 104, 97, 100, 111, 119]
def bX : ByteArray := bs [120]
def bA : ByteArray := bs [97]
def bB : ByteArray := bs [98]
def bMa : ByteArray := bs [109, 46, 97]
def envT (n : Int) : ByteArray := match n.toNat with
 | 0 => bLive
 | 1 => bShadow
 | _ => bX
def nmT (n : Int) : ByteArray := match n.toNat with
 | 0 => bA
 | 1 => bB
 | 2 => bMa
 | _ => bLive
theorem envT_at {n : Int} (h0 : 0 ≤ n) (h : n < 3) : ([AVal.str (bs [108, 105, 118, 101])] :: [AVal.str (bs [115, 104, 97, 100, 111, 119])] :: [AVal.str (bs [120])] :: List.replicate 0 [AVal.str (bs [])])[n.toNat]? = some [.str (envT n)] := by
 have : n = 0 ∨ n = 1 ∨ n = 2 := by omega
 rcases this with rfl | rfl | rfl <;> rfl
theorem nmT_at {n : Int} (h0 : 0 ≤ n) (h : n < 4) : ([AVal.str (bs [97])] :: [AVal.str (bs [98])] :: [AVal.str (bs [109, 46, 97])] :: [AVal.str (bs [108, 105, 118, 101])] :: List.replicate 0 [AVal.str (bs [])])[n.toNat]? = some [.str (nmT n)] := by
 have : n = 0 ∨ n = 1 ∨ n = 2 ∨ n = 3 := by omega
 rcases this with rfl | rfl | rfl | rfl <;> rfl
def a8w (n : Int) : Int := IntKind.u8.wrap n
def ac1 (l : List Int) (i : Nat) := nx l i 9
def ac2 (l : List Int) (i : Nat) := nx l (ac1 l i).2 3
def ac3 (l : List Int) (i : Nat) := nx l (ac2 l i).2 4
def ac4 (l : List Int) (i : Nat) := nx l (ac3 l i).2 256
def ac5 (l : List Int) (i : Nat) := nx l (ac4 l i).2 3
def ac6 (l : List Int) (i : Nat) := nx l (ac5 l i).2 3
def actE (l : List Int) (i : Nat) : Ev := ⟨(ac1 l i).1, false, [a8w (ac4 l i).1, a8w (ac5 l i).1].take (ac6 l i).1.toNat, envT (ac2 l i).1, nmT (ac3 l i).1, .str (bs []), .nil, .bool false, .int .i64 0, .int .i64 0, .int .i64 0⟩
def actF (l : List Int) : Nat → Nat → List Ev
 | 0, _ => []
 | f + 1, i => if i < l.length then actE l i :: actF l f (ac6 l i).2 else []
def actL (l : List Int) : List Ev := actF l 40 0
theorem ac_le (l : List Int) {i : Nat} (h : i ≤ l.length) : (ac1 l i).2 ≤ l.length ∧ (ac2 l i).2 ≤ l.length ∧ (ac3 l i).2 ≤ l.length ∧ (ac4 l i).2 ≤ l.length ∧ (ac5 l i).2 ≤ l.length ∧ (ac6 l i).2 ≤ l.length := by
 have h1 := nx_le l i 9 h
 have h2 := nx_le l _ 3 h1
 have h3 := nx_le l _ 4 h2
 have h4 := nx_le l _ 256 h3
 have h5 := nx_le l _ 3 h4
 exact ⟨h1, h2, h3, h4, h5, nx_le l _ 3 h5⟩
structure Ev.Sm (x : Ev) : Prop where
 d : x.d.length ≤ 200
 n : x.n.size ≤ 120
 b : Byt x.d
 p : x.Pu
theorem a8w_byt (n : Int) : 0 ≤ a8w n ∧ a8w n ≤ 255 := u8w_byt n
theorem actE_sm (l : List Int) (i : Nat) : (actE l i).Sm := by
 refine ⟨?_, ?_, fun x hx => ?_, ⟨rfl, rfl, rfl, rfl, rfl, rfl⟩⟩
 ·show (List.take _ _).length ≤ 200
  rw [List.length_take]
  have : ([a8w (ac4 l i).1, a8w (ac5 l i).1]).length = 2 := rfl
  omega
 ·show (nmT _).size ≤ 120
  unfold nmT
  split <;> decide
 ·have hx := List.mem_of_mem_take hx
  simp at hx
  rcases hx with rfl | rfl <;> exact a8w_byt _
theorem actF_sm (l : List Int) : ∀ (f i : Nat), (actF l f i).length ≤ f ∧ ∀ x ∈ actF l f i, x.Sm
 | 0, _ => ⟨Nat.le_refl _, fun x hx => by cases hx⟩
 | f + 1, i => by
  unfold actF
  split
  ·obtain ⟨h1, h2⟩ := actF_sm l f (ac6 l i).2
   refine ⟨Nat.succ_le_succ h1, fun x hx => ?_⟩
   rcases List.mem_cons.1 hx with rfl | hx
   ·exact actE_sm l i
   ·exact h2 x hx
  ·exact ⟨Nat.zero_le _, fun x hx => by cases hx⟩
theorem pureEs_evC {l : List Ev} (h : ∀ x ∈ l, x.Pu) : pureEs (evC l) = true := by
 unfold pureEs
 rw [List.all_eq_true]
 intro e he
 obtain ⟨x, hx, rfl⟩ := List.mem_map.1 he
 exact (h x hx).all
set_option maxRecDepth 20000 in
theorem acts_spec {P : Program} (F : F_z1b P) (l : List Int) (hl : l.length ≤ 1000000) (H : List AObj) :
  ACalls P F.id [.list false 1 (iC l)] H (fun r H' => r = .list false 10 (evC (actL l)) ∧ H' = H) := by
 refine ACalls.pure rfl (acalls_of_body F.has ?_)
 conv => whnf
 refine ⟨fun m ρ H1 => ∃ (k i : Nat) (out : List Ev), k + m = 40 ∧ i ≤ l.length ∧ out.length = k ∧ (∀ x ∈ out, x.Sm) ∧ out ++ actF l m i = actL l ∧ H1 = [gO l i, .arr 10 (evC out)] ∧
  Sv 49 [(0, .list false 1 (iC l)), (3, .ptr 0 1 0 0), (4, .sl 1 out.length 0 out.length), (5, .int .i64 k)] ρ, 40, [(4, 10)], ?_, ?_⟩
 ·conv => whnf
  exact ⟨0, 0, [], rfl, Nat.zero_le _, rfl, (fun x hx => by cases hx), rfl, rfl, Sv.intro rfl ⟨rfl, rfl, rfl, rfl, trivial⟩⟩
 rintro m ρ H1 ⟨k, i, out, hk, hi, hok, hsm, hfin, rfl, d, rfl⟩
 (conv => whnf); refine recA (fun h40 => ?_) (fun h40 => ?_)
 ·simp at h40
  obtain ⟨m, rfl⟩ : ∃ j, m = j + 1 := ⟨m - 1, by omega⟩
  rw [actF] at hfin
  (conv => whnf); refine recA (fun hlt => ?_) (fun hlt => ?_)
  ·rw [iC_length] at hlt
   simp at hlt
   rw [if_pos hlt] at hfin
   obtain ⟨g1, g2, g3, g4, g5, g6⟩ := ac_le l hi
   have n2 := nx_bnd l (ac1 l i).2 3 (by decide)
   have n3 := nx_bnd l (ac2 l i).2 4 (by decide)
   have n6 := nx_bnd l (ac5 l i).2 3 (by decide)
   have N1 := fun H id ho => Next_spec F.z1v l i 9 hi hl (by decide) H id ho
   have N2 := fun H id ho => Next_spec F.z1v l (ac1 l i).2 3 g1 hl (by decide) H id ho
   have N3 := fun H id ho => Next_spec F.z1v l (ac2 l i).2 4 g2 hl (by decide) H id ho
   have N4 := fun H id ho => Next_spec F.z1v l (ac3 l i).2 256 g3 hl (by decide) H id ho
   have N5 := fun H id ho => Next_spec F.z1v l (ac4 l i).2 3 g4 hl (by decide) H id ho
   have N6 := fun H id ho => Next_spec F.z1v l (ac5 l i).2 3 g5 hl (by decide) H id ho
   have hac : actE l i = ⟨(ac1 l i).1, false, [a8w (ac4 l i).1, a8w (ac5 l i).1].take (ac6 l i).1.toNat, envT (ac2 l i).1, nmT (ac3 l i).1, .str (bs []), .nil, .bool false, .int .i64 0, .int .i64 0, .int .i64 0⟩ := rfl
   have hsmE := actE_sm l i
   change ∀ (H : List AObj) (id : Nat) (ho : _), ACalls _ _ _ _ (fun r H' => r = .int .i64 (ac1 l i).1 ∧ H' = H.set id (gO l (ac1 l i).2)) at N1
   change ∀ (H : List AObj) (id : Nat) (ho : _), ACalls _ _ _ _ (fun r H' => r = .int .i64 (ac2 l i).1 ∧ H' = H.set id (gO l (ac2 l i).2)) at N2
   change ∀ (H : List AObj) (id : Nat) (ho : _), ACalls _ _ _ _ (fun r H' => r = .int .i64 (ac3 l i).1 ∧ H' = H.set id (gO l (ac3 l i).2)) at N3
   change ∀ (H : List AObj) (id : Nat) (ho : _), ACalls _ _ _ _ (fun r H' => r = .int .i64 (ac4 l i).1 ∧ H' = H.set id (gO l (ac4 l i).2)) at N4
   change ∀ (H : List AObj) (id : Nat) (ho : _), ACalls _ _ _ _ (fun r H' => r = .int .i64 (ac5 l i).1 ∧ H' = H.set id (gO l (ac5 l i).2)) at N5
   change ∀ (H : List AObj) (id : Nat) (ho : _), ACalls _ _ _ _ (fun r H' => r = .int .i64 (ac6 l i).1 ∧ H' = H.set id (gO l (ac6 l i).2)) at N6
   change 0 ≤ (ac2 l i).1 ∧ (ac2 l i).1 < 3 at n2
   change 0 ≤ (ac3 l i).1 ∧ (ac3 l i).1 < 4 at n3
   change 0 ≤ (ac6 l i).1 ∧ (ac6 l i).1 < 3 at n6
   generalize ac1 l i = a1 at *
   generalize ac2 l i = a2 at *
   generalize ac3 l i = a3 at *
   generalize ac4 l i = a4 at *
   generalize ac5 l i = a5 at *
   generalize ac6 l i = a6 at *
   obtain ⟨v1, i1⟩ := a1
   obtain ⟨v2, i2⟩ := a2
   obtain ⟨v3, i3⟩ := a3
   obtain ⟨v4, i4⟩ := a4
   obtain ⟨v5, i5⟩ := a5
   obtain ⟨v6, i6⟩ := a6
   dsimp only at N1 N2 N3 N4 N5 N6 n2 n3 n6 g6 hac hfin
   generalize actE l i = ev at hac hsmE hfin
   (conv => whnf); refine ⟨_, _, N1 _ 0 rfl, ?_⟩
   (conv => whnf); refine ⟨_, _, N2 _ 0 rfl, ?_⟩
   (conv => whnf); refine And.intro (n2.1) ?_
   (conv => whnf); refine recO (envT_at n2.1 n2.2) ?_
   (conv => whnf); refine ⟨_, _, N3 _ 0 rfl, ?_⟩
   (conv => whnf); refine And.intro (n3.1) ?_
   (conv => whnf); refine recO (nmT_at n3.1 n3.2) ?_
   (conv => whnf); refine ⟨_, _, N4 _ 0 rfl, ?_⟩
   (conv => whnf); refine ⟨_, _, N5 _ 0 rfl, ?_⟩
   (conv => whnf); refine ⟨_, _, N6 _ 0 rfl, ?_⟩
   (conv => whnf); refine And.intro (⟨n6.1, by simp; omega⟩) ?_
   have hE : evC out ++ [[AVal.int IntKind.i64 v1, AVal.list false 1 (List.drop 0 (List.take v6.toNat [[AVal.int IntKind.u8 (IntKind.u8.wrap v4)], [AVal.int IntKind.u8 (IntKind.u8.wrap v5)]])), .str (envT v2), .str (nmT v3), .str (bs []), .nil, .bool false, .int .i64 0, .int .i64 0, .int .i64 0]] = evC (out ++ [ev]) := by
    rw [evC_append, hac]
    show _ = evC out ++ [[AVal.int IntKind.i64 v1, AVal.list false 1 (bC (List.take v6.toNat [a8w v4, a8w v5])), .str (envT v2), .str (nmT v3), .str (bs []), .nil, .bool false, .int .i64 0, .int .i64 0, .int .i64 0]]
    rw [← bC_take]; rfl
   (conv => whnf); refine recT (by rw [evC_length]; exact Nat.beq_refl _) ?_
   (conv => whnf); refine And.intro (⟨by simp [roomB]; omega, by simp [roomB]; omega, rfl, by rw [evC_length]⟩) ?_
   repeat ((conv => whnf); first
    | refine And.intro rfl ?_
    | refine And.intro (by (conv => whnf); refine And.intro n2.1 ?_; (conv => whnf); refine recO (envT_at n2.1 n2.2) ?_; rfl) ?_
    | refine And.intro (by (conv => whnf); refine And.intro n3.1 ?_; (conv => whnf); refine recO (nmT_at n3.1 n3.2) ?_; rfl) ?_)
   conv => whnf
   refine ⟨m, by omega, Gp.keep rfl ?_ fun ρ1 h => ⟨k + 1, i6, out ++ [ev], by omega, g6, by simp; omega, fun x hx => ?_, by rw [List.append_assoc]; exact hfin, congrArg (fun e => [gO l i6, AObj.arr 10 e]) hE, h⟩⟩
   ·refine ⟨rfl, rfl, ?_, intEq (wrapI ((k : Int) + 1) (by omega) (by omega)), trivial⟩
    show AVal.sl _ _ _ _ = _
    simp [evC_length]
   ·rcases List.mem_append.1 hx with hx | hx
    ·exact hsm x hx
    ·simp at hx; subst hx; exact hsmE
  ·rw [iC_length] at hlt
   simp at hlt
   rw [if_neg (by omega), List.append_nil] at hfin
   conv => whnf
   rw [← hfin]
   exact pubF rfl (evC_length _).symm (evC_length _).symm (pureEs_evC fun x hx => (hsm x hx).p)
 ·simp at h40
  obtain rfl : m = 0 := by omega
  have hfin : out ++ [] = actL l := hfin
  rw [List.append_nil] at hfin
  conv => whnf
  rw [← hfin]
  exact pubF rfl (evC_length _).symm (evC_length _).symm (pureEs_evC fun x hx => (hsm x hx).p)
def ownRR (ro ro' : Nat → Option Role) (i : Nat) : Prop := ro i ≠ none ∨ ro' i ≠ none
def Two (H : List AObj) (s r : Nat) (σ : Sto) (own : Nat → Prop) : Prop :=
 ∃ ro z ro' z' lv, RepP H s σ ro z ∧ RepR H r σ ro' z' lv ∧ (∀ i, ro i ≠ none → ro' i = none) ∧ own = ownRR ro ro'
def PostO (H H' : List AObj) (own own' : Nat → Prop) : Prop := H.length ≤ H'.length ∧ ∀ i, i < H.length → ¬ own i → ¬ own' i ∧ H'[i]? = H[i]?
section
variable {H H1 H2 : List AObj} {s r : Nat} {σ σ1 : Sto} {ro ro' ro1 ro1' : Nat → Option Role} {z z' z1 : SP} {lv : AVal}
theorem two_p (hR : RepR H r σ ro' z' lv) (hd : ∀ i, ro i ≠ none → ro' i = none) (hp : Post H H1 ro ro1) : RepR H1 r σ ro' z' lv ∧ ∀ i, ro1 i ≠ none → ro' i = none := by
 have key : ∀ i, ro' i ≠ none → ro i = none := fun i h => Classical.byContradiction fun h2 => h (hd i h2)
 refine ⟨hR.frame (fun i hi => (hp.2 i (hR.lt i hi) (key i hi)).2) hp.1, fun i hi => ?_⟩
 by_cases h : ro' i = none
 ·exact h
 ·exact absurd (hp.2 i (hR.lt i h) (key i h)).1 hi
theorem two_r (hP : RepP H s σ ro z) (hd : ∀ i, ro i ≠ none → ro' i = none) (hp : Post H H1 ro' ro1') : RepP H1 s σ ro z ∧ ∀ i, ro i ≠ none → ro1' i = none :=
 ⟨hP.frame (fun i hi => (hp.2 i (hP.lt i hi) (hd i hi)).2) hp.1, fun i hi => (hp.2 i (hP.lt i hi) (hd i hi)).1⟩
theorem PostO.two (hp : Post H H1 ro ro1) (hp2 : Post H1 H2 ro' ro1') : PostO H H2 (ownRR ro ro') (ownRR ro1 ro1') :=
 ⟨Nat.le_trans hp.1 hp2.1, fun i hi hn => by
  have h1 : ro i = none := Classical.byContradiction fun h => hn (.inl h)
  have h2 : ro' i = none := Classical.byContradiction fun h => hn (.inr h)
  obtain ⟨a, b⟩ := hp.2 i hi h1
  obtain ⟨c, d⟩ := hp2.2 i (Nat.lt_of_lt_of_le hi hp.1) h2
  exact ⟨fun h => h.elim (fun h => h a) (fun h => h c), d.trans b⟩⟩
end
theorem Two.app {H X : List AObj} {s r : Nat} {σ : Sto} {own : Nat → Prop} (h : Two H s r σ own) : Two (H ++ X) s r σ own := by
 obtain ⟨ro, z, ro', z', lv, hP, hR, hd, rfl⟩ := h
 exact ⟨ro, z, ro', z', lv, hP.app, hR.app, hd, rfl⟩
def playS (x : Ev) (σ : Sto) : Sto :=
 if x.k % 9 < 4 then (stageR x.t x.n x.d σ).2 else if x.k % 9 = 4 then (removeR x.t x.n σ).2 else if x.k % 9 < 7 then (commitR x.t σ).2
 else if x.k % 9 = 7 then (swapR x.t x.n σ).2 else mvS σ x.t
structure Sto.Fit2 (σ : Sto) : Prop where
 f : σ.Fit
 b : ∀ e, ∀ p ∈ σ.staged e, Byt p.2.data
 l : ∀ e, (σ.staged e).length ≤ 1000000
theorem cell_pure {v : AVal} (h : v.isPure = true) : v.isCell = true := by
 cases v <;> first | rfl | (simp [AVal.isPure] at h) | (simp [AVal.isPure] at h; simp [AVal.isCell, h])
theorem Ev.Pu.cells {x : Ev} (h : x.Pu) : (evA x).all AVal.isCell = true := List.all_eq_true.2 fun v hv => cell_pure (List.all_eq_true.1 h.all v hv)
section
variable {H : List AObj} {s r : Nat} {σ : Sto} {own : Nat → Prop}
set_option maxRecDepth 20000 in
theorem play_spec {P : Program} (F : F_z1d P) (hCl : MClone P F.z0j.z0s.z0d.id)
  (hS : SKeys P F.z0j.z0z.slices_Sorted_string.id F.z0j.z0z.z0f.maps_Keys_mapstringstorechange_string_storechange_1.id)
  (hT : Two H s r σ own) (x : Ev) (hx : x.Pu) (hxn : x.n.size ≤ 1000000) (hxd : x.d.length ≤ 10000000) (hf : σ.Fit2) :
  ACalls P F.id [.ptr s 1 0 0, .ptr r 1 0 0, .agg (evA x)] H (fun v H' => v = .bool true ∧ ∃ own', Two H' s r (playS x σ) own' ∧ PostO H H' own own') := by
 obtain ⟨ro, z, ro', z', lv, hP, hR, hd, rfl⟩ := hT
 have hv0 := Int.emod_nonneg x.k (show (9 : Int) ≠ 0 by decide)
 have hv9 := Int.emod_lt_of_pos x.k (show (0 : Int) < 9 by decide)
 have l0 : 0 + H.length = H.length := Nat.zero_add _
 have l1 : ∀ o : AObj, 0 + (H ++ [o]).length = H.length + 1 := fun o => by simp
 have e2 : ∀ o o' : AObj, H ++ [o] ++ [o'] = H ++ [o, o'] := fun o o' => by simp
 refine acalls_of_body F.has ?_
 (conv => whnf); refine recT (hx.cells) ?_
 (conv => whnf); refine snocK_to ?_
 rw [l0]
 (conv => whnf); refine recO (getA) ?_
 (conv => whnf); refine ACalls.use (Place_spec F.z1w x.k 9 (by decide) (by decide) _) ?_
 obtain ⟨v, hv⟩ : ∃ v, x.k % 9 = v := ⟨_, rfl⟩
 rw [hv] at hv0 hv9 ⊢
 have hcase : v = 0 ∨ v = 1 ∨ v = 2 ∨ v = 3 ∨ v = 4 ∨ v = 5 ∨ v = 6 ∨ v = 7 ∨ v = 8 := by omega
 clear hv0 hv9
 rcases hcase with rfl | rfl | rfl | rfl | rfl | rfl | rfl | rfl | rfl
 ·have hps : playS x σ = (stageR x.t x.n x.d σ).2 := by unfold playS; rw [hv]; rfl
  rw [hps]
  obtain ⟨_, H1, hc, rfl, ro1, z1, hP1, hp1⟩ := Stage_spec F.z0p (hP.app (X := [.arr 10 [evA x], .arr 2 [[.str x.n, .list x.ex 1 (bC x.d)]]])) x.t x.n x.ex x.d hxn hxd (hf.f.ss _)
  obtain ⟨hR1, hd1⟩ := two_p (hR.app (X := [.arr 10 [evA x], .arr 2 [[.str x.n, .list x.ex 1 (bC x.d)]]])) hd hp1
  obtain ⟨_, H2, hc2, rfl, ro2, z2, lv2, hR2, hp2⟩ := rStage_spec F.z1o hR1 x.t x.n x.ex x.d hxn hxd (hf.f.ss _) (hf.l _)
  have ha : H1[H.length]? = some (.arr 10 [evA x]) := (hp1.2 H.length (by simp) (hP.fresh (Nat.le_refl _))).2.trans getA
  have hb : H1[H.length + 1]? = some (.arr 2 [[.str x.n, .list x.ex 1 (bC x.d)]]) := (hp1.2 (H.length + 1) (by simp) (hP.fresh (by omega))).2.trans getB
  repeat ((conv => whnf); first | refine recT (by decide) ?_ | refine recF (by decide) ?_)
  (conv => whnf); refine recO (getA) ?_
  (conv => whnf); refine recO (getA) ?_
  (conv => whnf); refine snocK_to ?_
  rw [l1, e2]
  (conv => whnf); refine recO (getB) ?_
  (conv => whnf); refine setO_at setB ?_
  (conv => whnf); refine recO (getA) ?_
  (conv => whnf); refine recO (getB) ?_
  (conv => whnf); refine ⟨_, _, hc, ?_⟩
  (conv => whnf); refine recO (ha) ?_
  (conv => whnf); refine recO (hb) ?_
  (conv => whnf); refine ⟨_, _, hc2, ?_⟩
  obtain ⟨hP2, hd2⟩ := two_r hP1 hd1 hp2
  have ha2 : H2[H.length]? = some (.arr 10 [evA x]) := (hp2.2 H.length (List.getElem?_eq_some_iff.1 ha).1 (hR.fresh (Nat.le_refl _))).2.trans ha
  repeat ((conv => whnf); first | refine And.intro (by (conv => whnf); refine recO ha2 ?_; rfl) ?_ | refine And.intro (by (conv => whnf); refine recO ha ?_; rfl) ?_ | refine And.intro (by (conv => whnf); refine recO getA ?_; rfl) ?_ | refine And.intro (by (conv => whnf); refine recO getB ?_; rfl) ?_ | refine And.intro (by (conv => whnf); refine recO hb ?_; rfl) ?_ | refine And.intro (by (conv => whnf); refine recO ((hp2.2 (H.length + 1) (List.getElem?_eq_some_iff.1 hb).1 (hR.fresh (by omega))).2.trans hb) ?_; rfl) ?_)
  conv => whnf
  exact ⟨by simp, _, ⟨ro1, z1, ro2, z2, lv2, hP2, hR2, hd2, rfl⟩, PostO.two ((Post.app H [.arr 10 [evA x], .arr 2 [[.str x.n, .list x.ex 1 (bC x.d)]]] ro).trans hp1) hp2⟩
 ·have hps : playS x σ = (stageR x.t x.n x.d σ).2 := by unfold playS; rw [hv]; rfl
  rw [hps]
  obtain ⟨_, H1, hc, rfl, ro1, z1, hP1, hp1⟩ := Stage_spec F.z0p (hP.app (X := [.arr 10 [evA x], .arr 2 [[.str x.n, .list x.ex 1 (bC x.d)]]])) x.t x.n x.ex x.d hxn hxd (hf.f.ss _)
  obtain ⟨hR1, hd1⟩ := two_p (hR.app (X := [.arr 10 [evA x], .arr 2 [[.str x.n, .list x.ex 1 (bC x.d)]]])) hd hp1
  obtain ⟨_, H2, hc2, rfl, ro2, z2, lv2, hR2, hp2⟩ := rStage_spec F.z1o hR1 x.t x.n x.ex x.d hxn hxd (hf.f.ss _) (hf.l _)
  have ha : H1[H.length]? = some (.arr 10 [evA x]) := (hp1.2 H.length (by simp) (hP.fresh (Nat.le_refl _))).2.trans getA
  have hb : H1[H.length + 1]? = some (.arr 2 [[.str x.n, .list x.ex 1 (bC x.d)]]) := (hp1.2 (H.length + 1) (by simp) (hP.fresh (by omega))).2.trans getB
  repeat ((conv => whnf); first | refine recT (by decide) ?_ | refine recF (by decide) ?_)
  (conv => whnf); refine recO (getA) ?_
  (conv => whnf); refine recO (getA) ?_
  (conv => whnf); refine snocK_to ?_
  rw [l1, e2]
  (conv => whnf); refine recO (getB) ?_
  (conv => whnf); refine setO_at setB ?_
  (conv => whnf); refine recO (getA) ?_
  (conv => whnf); refine recO (getB) ?_
  (conv => whnf); refine ⟨_, _, hc, ?_⟩
  (conv => whnf); refine recO (ha) ?_
  (conv => whnf); refine recO (hb) ?_
  (conv => whnf); refine ⟨_, _, hc2, ?_⟩
  obtain ⟨hP2, hd2⟩ := two_r hP1 hd1 hp2
  have ha2 : H2[H.length]? = some (.arr 10 [evA x]) := (hp2.2 H.length (List.getElem?_eq_some_iff.1 ha).1 (hR.fresh (Nat.le_refl _))).2.trans ha
  repeat ((conv => whnf); first | refine And.intro (by (conv => whnf); refine recO ha2 ?_; rfl) ?_ | refine And.intro (by (conv => whnf); refine recO ha ?_; rfl) ?_ | refine And.intro (by (conv => whnf); refine recO getA ?_; rfl) ?_ | refine And.intro (by (conv => whnf); refine recO getB ?_; rfl) ?_ | refine And.intro (by (conv => whnf); refine recO hb ?_; rfl) ?_ | refine And.intro (by (conv => whnf); refine recO ((hp2.2 (H.length + 1) (List.getElem?_eq_some_iff.1 hb).1 (hR.fresh (by omega))).2.trans hb) ?_; rfl) ?_)
  conv => whnf
  exact ⟨by simp, _, ⟨ro1, z1, ro2, z2, lv2, hP2, hR2, hd2, rfl⟩, PostO.two ((Post.app H [.arr 10 [evA x], .arr 2 [[.str x.n, .list x.ex 1 (bC x.d)]]] ro).trans hp1) hp2⟩
 ·have hps : playS x σ = (stageR x.t x.n x.d σ).2 := by unfold playS; rw [hv]; rfl
  rw [hps]
  obtain ⟨_, H1, hc, rfl, ro1, z1, hP1, hp1⟩ := Stage_spec F.z0p (hP.app (X := [.arr 10 [evA x], .arr 2 [[.str x.n, .list x.ex 1 (bC x.d)]]])) x.t x.n x.ex x.d hxn hxd (hf.f.ss _)
  obtain ⟨hR1, hd1⟩ := two_p (hR.app (X := [.arr 10 [evA x], .arr 2 [[.str x.n, .list x.ex 1 (bC x.d)]]])) hd hp1
  obtain ⟨_, H2, hc2, rfl, ro2, z2, lv2, hR2, hp2⟩ := rStage_spec F.z1o hR1 x.t x.n x.ex x.d hxn hxd (hf.f.ss _) (hf.l _)
  have ha : H1[H.length]? = some (.arr 10 [evA x]) := (hp1.2 H.length (by simp) (hP.fresh (Nat.le_refl _))).2.trans getA
  have hb : H1[H.length + 1]? = some (.arr 2 [[.str x.n, .list x.ex 1 (bC x.d)]]) := (hp1.2 (H.length + 1) (by simp) (hP.fresh (by omega))).2.trans getB
  repeat ((conv => whnf); first | refine recT (by decide) ?_ | refine recF (by decide) ?_)
  (conv => whnf); refine recO (getA) ?_
  (conv => whnf); refine recO (getA) ?_
  (conv => whnf); refine snocK_to ?_
  rw [l1, e2]
  (conv => whnf); refine recO (getB) ?_
  (conv => whnf); refine setO_at setB ?_
  (conv => whnf); refine recO (getA) ?_
  (conv => whnf); refine recO (getB) ?_
  (conv => whnf); refine ⟨_, _, hc, ?_⟩
  (conv => whnf); refine recO (ha) ?_
  (conv => whnf); refine recO (hb) ?_
  (conv => whnf); refine ⟨_, _, hc2, ?_⟩
  obtain ⟨hP2, hd2⟩ := two_r hP1 hd1 hp2
  have ha2 : H2[H.length]? = some (.arr 10 [evA x]) := (hp2.2 H.length (List.getElem?_eq_some_iff.1 ha).1 (hR.fresh (Nat.le_refl _))).2.trans ha
  repeat ((conv => whnf); first | refine And.intro (by (conv => whnf); refine recO ha2 ?_; rfl) ?_ | refine And.intro (by (conv => whnf); refine recO ha ?_; rfl) ?_ | refine And.intro (by (conv => whnf); refine recO getA ?_; rfl) ?_ | refine And.intro (by (conv => whnf); refine recO getB ?_; rfl) ?_ | refine And.intro (by (conv => whnf); refine recO hb ?_; rfl) ?_ | refine And.intro (by (conv => whnf); refine recO ((hp2.2 (H.length + 1) (List.getElem?_eq_some_iff.1 hb).1 (hR.fresh (by omega))).2.trans hb) ?_; rfl) ?_)
  conv => whnf
  exact ⟨by simp, _, ⟨ro1, z1, ro2, z2, lv2, hP2, hR2, hd2, rfl⟩, PostO.two ((Post.app H [.arr 10 [evA x], .arr 2 [[.str x.n, .list x.ex 1 (bC x.d)]]] ro).trans hp1) hp2⟩
 ·have hps : playS x σ = (stageR x.t x.n x.d σ).2 := by unfold playS; rw [hv]; rfl
  rw [hps]
  obtain ⟨_, H1, hc, rfl, ro1, z1, hP1, hp1⟩ := Stage_spec F.z0p (hP.app (X := [.arr 10 [evA x], .arr 2 [[.str x.n, .list x.ex 1 (bC x.d)]]])) x.t x.n x.ex x.d hxn hxd (hf.f.ss _)
  obtain ⟨hR1, hd1⟩ := two_p (hR.app (X := [.arr 10 [evA x], .arr 2 [[.str x.n, .list x.ex 1 (bC x.d)]]])) hd hp1
  obtain ⟨_, H2, hc2, rfl, ro2, z2, lv2, hR2, hp2⟩ := rStage_spec F.z1o hR1 x.t x.n x.ex x.d hxn hxd (hf.f.ss _) (hf.l _)
  have ha : H1[H.length]? = some (.arr 10 [evA x]) := (hp1.2 H.length (by simp) (hP.fresh (Nat.le_refl _))).2.trans getA
  have hb : H1[H.length + 1]? = some (.arr 2 [[.str x.n, .list x.ex 1 (bC x.d)]]) := (hp1.2 (H.length + 1) (by simp) (hP.fresh (by omega))).2.trans getB
  repeat ((conv => whnf); first | refine recT (by decide) ?_ | refine recF (by decide) ?_)
  (conv => whnf); refine recO (getA) ?_
  (conv => whnf); refine recO (getA) ?_
  (conv => whnf); refine snocK_to ?_
  rw [l1, e2]
  (conv => whnf); refine recO (getB) ?_
  (conv => whnf); refine setO_at setB ?_
  (conv => whnf); refine recO (getA) ?_
  (conv => whnf); refine recO (getB) ?_
  (conv => whnf); refine ⟨_, _, hc, ?_⟩
  (conv => whnf); refine recO (ha) ?_
  (conv => whnf); refine recO (hb) ?_
  (conv => whnf); refine ⟨_, _, hc2, ?_⟩
  obtain ⟨hP2, hd2⟩ := two_r hP1 hd1 hp2
  have ha2 : H2[H.length]? = some (.arr 10 [evA x]) := (hp2.2 H.length (List.getElem?_eq_some_iff.1 ha).1 (hR.fresh (Nat.le_refl _))).2.trans ha
  repeat ((conv => whnf); first | refine And.intro (by (conv => whnf); refine recO ha2 ?_; rfl) ?_ | refine And.intro (by (conv => whnf); refine recO ha ?_; rfl) ?_ | refine And.intro (by (conv => whnf); refine recO getA ?_; rfl) ?_ | refine And.intro (by (conv => whnf); refine recO getB ?_; rfl) ?_ | refine And.intro (by (conv => whnf); refine recO hb ?_; rfl) ?_ | refine And.intro (by (conv => whnf); refine recO ((hp2.2 (H.length + 1) (List.getElem?_eq_some_iff.1 hb).1 (hR.fresh (by omega))).2.trans hb) ?_; rfl) ?_)
  conv => whnf
  exact ⟨by simp, _, ⟨ro1, z1, ro2, z2, lv2, hP2, hR2, hd2, rfl⟩, PostO.two ((Post.app H [.arr 10 [evA x], .arr 2 [[.str x.n, .list x.ex 1 (bC x.d)]]] ro).trans hp1) hp2⟩
 ·have hps : playS x σ = (removeR x.t x.n σ).2 := by unfold playS; rw [hv]; rfl
  rw [hps]
  obtain ⟨_, H1, hc, rfl, ro1, z1, hP1, hp1⟩ := Remove_spec F.z0o (hP.app (X := [.arr 10 [evA x]])) x.t x.n hxn (hf.f.ss _)
  obtain ⟨hR1, hd1⟩ := two_p (hR.app (X := [.arr 10 [evA x]])) hd hp1
  obtain ⟨_, H2, hc2, rfl, ro2, z2, lv2, hR2, hp2⟩ := rRemove_spec F.z1n hR1 x.t x.n hxn (hf.f.ss _) (hf.l _)
  have ha : H1[H.length]? = some (.arr 10 [evA x]) := (hp1.2 H.length (by simp) (hP.fresh (Nat.le_refl _))).2.trans getA
  repeat ((conv => whnf); first | refine recT (by decide) ?_ | refine recF (by decide) ?_)
  (conv => whnf); refine recO (getA) ?_
  (conv => whnf); refine recO (getA) ?_
  (conv => whnf); refine ⟨_, _, hc, ?_⟩
  (conv => whnf); refine recO (ha) ?_
  (conv => whnf); refine recO (ha) ?_
  (conv => whnf); refine ⟨_, _, hc2, ?_⟩
  obtain ⟨hP2, hd2⟩ := two_r hP1 hd1 hp2
  have ha2 : H2[H.length]? = some (.arr 10 [evA x]) := (hp2.2 H.length (List.getElem?_eq_some_iff.1 ha).1 (hR.fresh (Nat.le_refl _))).2.trans ha
  repeat ((conv => whnf); first | refine And.intro (by (conv => whnf); refine recO ha2 ?_; rfl) ?_ | refine And.intro (by (conv => whnf); refine recO ha ?_; rfl) ?_ | refine And.intro (by (conv => whnf); refine recO getA ?_; rfl) ?_ | refine And.intro (by (conv => whnf); refine recO getB ?_; rfl) ?_ | refine And.intro (by (conv => whnf); refine recO hb ?_; rfl) ?_ | refine And.intro (by (conv => whnf); refine recO ((hp2.2 (H.length + 1) (List.getElem?_eq_some_iff.1 hb).1 (hR.fresh (by omega))).2.trans hb) ?_; rfl) ?_)
  conv => whnf
  exact ⟨by simp, _, ⟨ro1, z1, ro2, z2, lv2, hP2, hR2, hd2, rfl⟩, PostO.two ((Post.app H [.arr 10 [evA x]] ro).trans hp1) hp2⟩
 ·have hps : playS x σ = (commitR x.t σ).2 := by unfold playS; rw [hv]; rfl
  rw [hps]
  obtain ⟨_, H1, hc, rfl, ro1, z1, hP1, hp1⟩ := Commit_spec F.z0j hCl hS (hP.app (X := [.arr 10 [evA x]])) x.t hf.f
  obtain ⟨hR1, hd1⟩ := two_p (hR.app (X := [.arr 10 [evA x]])) hd hp1
  obtain ⟨_, H2, hc2, rfl, ro2, z2, lv2, hR2, hp2⟩ := rCommit_spec F.z1k hR1 x.t hf.f hf.b
  have ha : H1[H.length]? = some (.arr 10 [evA x]) := (hp1.2 H.length (by simp) (hP.fresh (Nat.le_refl _))).2.trans getA
  repeat ((conv => whnf); first | refine recT (by decide) ?_ | refine recF (by decide) ?_)
  (conv => whnf); refine recO (getA) ?_
  (conv => whnf); refine ⟨_, _, hc, ?_⟩
  (conv => whnf); refine recO (ha) ?_
  (conv => whnf); refine ⟨_, _, hc2, ?_⟩
  obtain ⟨hP2, hd2⟩ := two_r hP1 hd1 hp2
  have ha2 : H2[H.length]? = some (.arr 10 [evA x]) := (hp2.2 H.length (List.getElem?_eq_some_iff.1 ha).1 (hR.fresh (Nat.le_refl _))).2.trans ha
  repeat ((conv => whnf); first | refine And.intro (by (conv => whnf); refine recO ha2 ?_; rfl) ?_ | refine And.intro (by (conv => whnf); refine recO ha ?_; rfl) ?_ | refine And.intro (by (conv => whnf); refine recO getA ?_; rfl) ?_ | refine And.intro (by (conv => whnf); refine recO getB ?_; rfl) ?_ | refine And.intro (by (conv => whnf); refine recO hb ?_; rfl) ?_ | refine And.intro (by (conv => whnf); refine recO ((hp2.2 (H.length + 1) (List.getElem?_eq_some_iff.1 hb).1 (hR.fresh (by omega))).2.trans hb) ?_; rfl) ?_)
  conv => whnf
  exact ⟨by simp, _, ⟨ro1, z1, ro2, z2, lv2, hP2, hR2, hd2, rfl⟩, PostO.two ((Post.app H [.arr 10 [evA x]] ro).trans hp1) hp2⟩
 ·have hps : playS x σ = (commitR x.t σ).2 := by unfold playS; rw [hv]; rfl
  rw [hps]
  obtain ⟨_, H1, hc, rfl, ro1, z1, hP1, hp1⟩ := Commit_spec F.z0j hCl hS (hP.app (X := [.arr 10 [evA x]])) x.t hf.f
  obtain ⟨hR1, hd1⟩ := two_p (hR.app (X := [.arr 10 [evA x]])) hd hp1
  obtain ⟨_, H2, hc2, rfl, ro2, z2, lv2, hR2, hp2⟩ := rCommit_spec F.z1k hR1 x.t hf.f hf.b
  have ha : H1[H.length]? = some (.arr 10 [evA x]) := (hp1.2 H.length (by simp) (hP.fresh (Nat.le_refl _))).2.trans getA
  repeat ((conv => whnf); first | refine recT (by decide) ?_ | refine recF (by decide) ?_)
  (conv => whnf); refine recO (getA) ?_
  (conv => whnf); refine ⟨_, _, hc, ?_⟩
  (conv => whnf); refine recO (ha) ?_
  (conv => whnf); refine ⟨_, _, hc2, ?_⟩
  obtain ⟨hP2, hd2⟩ := two_r hP1 hd1 hp2
  have ha2 : H2[H.length]? = some (.arr 10 [evA x]) := (hp2.2 H.length (List.getElem?_eq_some_iff.1 ha).1 (hR.fresh (Nat.le_refl _))).2.trans ha
  repeat ((conv => whnf); first | refine And.intro (by (conv => whnf); refine recO ha2 ?_; rfl) ?_ | refine And.intro (by (conv => whnf); refine recO ha ?_; rfl) ?_ | refine And.intro (by (conv => whnf); refine recO getA ?_; rfl) ?_ | refine And.intro (by (conv => whnf); refine recO getB ?_; rfl) ?_ | refine And.intro (by (conv => whnf); refine recO hb ?_; rfl) ?_ | refine And.intro (by (conv => whnf); refine recO ((hp2.2 (H.length + 1) (List.getElem?_eq_some_iff.1 hb).1 (hR.fresh (by omega))).2.trans hb) ?_; rfl) ?_)
  conv => whnf
  exact ⟨by simp, _, ⟨ro1, z1, ro2, z2, lv2, hP2, hR2, hd2, rfl⟩, PostO.two ((Post.app H [.arr 10 [evA x]] ro).trans hp1) hp2⟩
 ·have hps : playS x σ = (swapR x.t x.n σ).2 := by unfold playS; rw [hv]; rfl
  rw [hps]
  obtain ⟨_, H1, hc, rfl, ro1, z1, hP1, hp1⟩ := Swap_spec F.z0q (hP.app (X := [.arr 10 [evA x]])) x.t x.n hf.f
  obtain ⟨hR1, hd1⟩ := two_p (hR.app (X := [.arr 10 [evA x]])) hd hp1
  obtain ⟨_, H2, hc2, rfl, ro2, z2, lv2, hR2, hp2⟩ := rSwap_spec F.z1p hR1 x.t x.n hf.f
  have ha : H1[H.length]? = some (.arr 10 [evA x]) := (hp1.2 H.length (by simp) (hP.fresh (Nat.le_refl _))).2.trans getA
  repeat ((conv => whnf); first | refine recT (by decide) ?_ | refine recF (by decide) ?_)
  (conv => whnf); refine recO (getA) ?_
  (conv => whnf); refine recO (getA) ?_
  (conv => whnf); refine ⟨_, _, hc, ?_⟩
  (conv => whnf); refine recO (ha) ?_
  (conv => whnf); refine recO (ha) ?_
  (conv => whnf); refine ⟨_, _, hc2, ?_⟩
  obtain ⟨hP2, hd2⟩ := two_r hP1 hd1 hp2
  have ha2 : H2[H.length]? = some (.arr 10 [evA x]) := (hp2.2 H.length (List.getElem?_eq_some_iff.1 ha).1 (hR.fresh (Nat.le_refl _))).2.trans ha
  repeat ((conv => whnf); first | refine And.intro (by (conv => whnf); refine recO ha2 ?_; rfl) ?_ | refine And.intro (by (conv => whnf); refine recO ha ?_; rfl) ?_ | refine And.intro (by (conv => whnf); refine recO getA ?_; rfl) ?_ | refine And.intro (by (conv => whnf); refine recO getB ?_; rfl) ?_ | refine And.intro (by (conv => whnf); refine recO hb ?_; rfl) ?_ | refine And.intro (by (conv => whnf); refine recO ((hp2.2 (H.length + 1) (List.getElem?_eq_some_iff.1 hb).1 (hR.fresh (by omega))).2.trans hb) ?_; rfl) ?_)
  conv => whnf
  exact ⟨by simp, _, ⟨ro1, z1, ro2, z2, lv2, hP2, hR2, hd2, rfl⟩, PostO.two ((Post.app H [.arr 10 [evA x]] ro).trans hp1) hp2⟩
 ·have hps : playS x σ = mvS σ x.t := by unfold playS; rw [hv]; rfl
  rw [hps]
  have hP0 := hP.app (X := [.arr 10 [evA x]])
  have hP1 := hP0.del x.t
  have hp1 : Post (H ++ [.arr 10 [evA x]]) (delH (H ++ [.arr 10 [evA x]]) z x.t) ro ro := (Post.refl _ ro).set _ (.inl hP0.nt)
  obtain ⟨hR1, hd1⟩ := two_p (hR.app (X := [.arr 10 [evA x]])) hd hp1
  obtain ⟨_, H2, hc2, rfl, ro2, z2, lv2, hR2, hp2⟩ := rDiscard_spec F.z1l hR1 x.t
  have ha : (delH (H ++ [.arr 10 [evA x]]) z x.t)[H.length]? = some (.arr 10 [evA x]) := (hp1.2 H.length (by simp) (hP.fresh (Nat.le_refl _))).2.trans getA
  repeat ((conv => whnf); first | refine recT (by decide) ?_ | refine recF (by decide) ?_)
  (conv => whnf); refine recO (getA) ?_
  (conv => whnf); refine ACalls.mono (discard_spec F.z0k hP0 x.t) ?_
  rintro v H1 ⟨rfl, rfl⟩
  (conv => whnf); refine recO (ha) ?_
  (conv => whnf); refine ACalls.mono (hc2) ?_
  rintro v H1 ⟨rfl, rfl⟩
  obtain ⟨hP2, hd2⟩ := two_r hP1 hd1 hp2
  conv => whnf
  exact ⟨rfl, _, ⟨ro, _, ro2, z2, lv2, hP2, hR2, hd2, rfl⟩, PostO.two ((Post.app H [.arr 10 [evA x]] ro).trans hp1) hp2⟩
end
theorem rNames_spec {P : Program} (F : F_z1m P) {H : List AObj} {s : Nat} {σ : Sto} {ro : Nat → Option Role} {z : SP} {lv : AVal} (h : RepR H s σ ro z lv) (env : ByteArray) (hf : KSrt (σ.blobs env)) (hlen : (σ.blobs env).length ≤ 1000000) :
  ACalls P F.id [.ptr s 1 0 0, .str env] H (fun r H' => ∃ X id, H' = H ++ X ∧ r = .sl id (σ.blobs env).length 0 (σ.blobs env).length ∧ H'[id]? = some (.arr 1 (keyC (σ.blobs env))) ∧ H.length ≤ id) := by
 have fin : ∀ kvs, PM (RDr H ro) kvs (σ.blobs env) → ((mfind 2 (.str env) z.B = none ∧ σ.blobs env = []) ∨ (mfind 2 (.str env) z.B = some .nilm ∧ σ.blobs env = []) ∨ ∃ idb, mfind 2 (.str env) z.B = some (.mp idb) ∧ H[idb]? = some (.map kvs) ∧ ro idb = some .blob) →
   ACalls P F.id [.ptr s 1 0 0, .str env] H (fun r H' => ∃ X id, H' = H ++ X ∧ r = .sl id (σ.blobs env).length 0 (σ.blobs env).length ∧ H'[id]? = some (.arr 1 (keyC (σ.blobs env))) ∧ H.length ≤ id) := fun kvs g3 hc => by
  refine (rNames_raw F h env hf hlen kvs g3 hc).fg ?_
  rintro r H' ⟨K, a, X, i, hkf, rfl, rfl, hX⟩
  have hl := hkf.len
  refine ⟨_, hkf.forg (a :: X), a :: X, _, rfl, by rw [hl], ?_, by omega⟩
  exact getX (K := H) (a := a) hX
 have he := h.eB env
 rcases h.pB.find h.sB env with ⟨e1, e2⟩ | ⟨y, c, e1, e2, hy⟩
 ·rw [e2] at he
  have he : σ.blobs env = [] := he
  exact fin [] (by rw [he]; exact PM.nil) (.inl ⟨e1, he⟩)
 ·rw [e2] at he
  have he : σ.blobs env = c := he
  rcases hy with ⟨rfl, h2⟩ | ⟨id, kvs, rfl, h2, h3, h4⟩
  ·exact fin [] (by rw [he, h2]; exact PM.nil) (.inr (.inl ⟨e1, by rw [he, h2]⟩))
  ·exact fin kvs (by rw [he]; exact h4) (.inr (.inr ⟨id, e1, h3, h2⟩))
theorem readV_mem {σ : Sto} {env nm : ByteArray} {d : List Int} (h : kLk nm (σ.blobs env) = some d) (hs : KSrt (σ.blobs env)) : (nm, d) ∈ σ.blobs env := (kLk_some hs).1 h
section
variable {H : List AObj} {s r : Nat} {σ : Sto} {own : Nat → Prop}
end
theorem part_len (l : List Int) (rest : List (List AVal)) : (bC l ++ rest).length = l.length + rest.length := by rw [List.length_append, bC_length]
set_option maxRecDepth 20000 in
theorem bClone_part {P : Program} (F : F_z06 P) (l : List Int) (m : Nat) (rest : List (List AVal)) (hm : m ≤ l.length) (ep : Nat) (hep : ep = l.length + rest.length) (hl : l.length ≤ 90000000) :
  ACalls P F.id [.sl 0 ep 0 m] [.arr 1 (bC l ++ rest)] (fun r H' => (r = .nil ∧ m = 0 ∧ H' = [.arr 1 (bC l ++ rest)]) ∨ (r = .sl 1 m 0 m ∧ H' = [.arr 1 (bC l ++ rest), .arr 1 (bC (l.take m))])) := by
 subst hep
 have ht : List.take m (List.drop 0 (bC l ++ rest)) = bC (l.take m) := by
  rw [List.drop_zero, List.take_append_of_le_length (by rw [bC_length]; exact hm), bC_take]
 have htl : (l.take m).length = m := by rw [List.length_take]; omega
 refine acalls_of_body F.has ?_
 (conv => whnf); refine recT (by rw [part_len]; exact Nat.beq_refl _) ?_
 refine And.intro (fun h => ?_) ?_
 ·conv => whnf
  exact .inl ⟨rfl, h, rfl⟩
 ·(conv => whnf); refine recT (by rw [part_len]; exact Nat.beq_refl _) ?_
  conv => whnf
  (conv => whnf); refine And.intro (⟨roomB_le1 (by simp; omega), roomB_le (by simp; omega), .inr rfl⟩) ?_
  conv => whnf
  rw [ht]
  have el : (List.replicate 0 [AVal.int IntKind.u8 0] ++ bC (List.take m l)).length = m := by
   show (bC (List.take m l)).length = m
   rw [bC_length, htl]
  exact .inr ⟨slEq el el, rfl⟩
theorem part_clean (zs : List Int) (q : Nat) : pureEs (bC zs ++ bC (List.replicate q 0)) = true := by rw [← bC_append]; exact pureEs_bC _
theorem bClone_pp {P : Program} (F : F_z06 P) (zs : List Int) (m q : Nat) (hm : m ≤ zs.length) (ep : Nat) (hep : ep = zs.length + q) (hl : zs.length ≤ 90000000) :
  ACalls P F.id [.sl 0 ep 0 m] [.arr 1 (bC zs ++ bC (List.replicate q 0))] (fun r H' => r = .list false 1 (bC (zs.take m)) ∧ H' = [.arr 1 (bC zs ++ bC (List.replicate q 0))]) := by
 have htl : (bC (zs.take m)).length = m := by rw [bC_length, List.length_take]; omega
 refine ACalls.weakR (Q := fun r H' => (r = .list false 1 (bC (zs.take m)) ∨ (r = .nil ∧ m = 0)) ∧ H' = [.arr 1 (bC zs ++ bC (List.replicate q 0))]) ((bClone_part F zs m (bC (List.replicate q 0)) hm ep (by rw [hep, bC_length, List.length_replicate]) hl).gp ?_) ?_
 ·rintro r H1 (⟨rfl, h1, rfl⟩ | ⟨rfl, rfl⟩)
  ·refine Gp.res (r' := .nil) (H1 := [.arr 1 (bC zs ++ bC (List.replicate q 0))]) [0] (by simp) (keepB_one rfl rfl rfl) ⟨⟨_, rfl, .same _ _ (part_clean _ _)⟩, trivial⟩ (.closed _ rfl) ?_
   exact ⟨_, rfl, .inr ⟨rfl, h1⟩, rfl⟩
  ·refine Gp.res (r' := .list false 1 (bC (zs.take m))) (H1 := [.arr 1 (bC zs ++ bC (List.replicate q 0))]) [0] (by simp) (keepB_one rfl rfl rfl) ⟨⟨_, rfl, .same _ _ (part_clean _ _)⟩, trivial⟩ (pubFI (by simp) rfl htl.symm htl.symm (pureEs_bC _)) ?_
   exact ⟨_, rfl, .inl rfl, rfl⟩
 ·rintro r H' ⟨rfl | ⟨rfl, h0⟩, rfl⟩
  ·exact ⟨_, .refl _, rfl, rfl⟩
  ·refine ⟨_, .nil false 1, ?_, rfl⟩
   subst h0; rfl
theorem entP_log {zs : List Int} (hb : Byt zs) : ∀ (n k : Nat), zs.length - k ≤ n → ((entP zs k).map (payP zs)).flatMap jEnt = (zs.drop k).take (endA k (entP zs k) - k) ∧ k ≤ endA k (entP zs k) ∧ ∀ x ∈ entP zs k, x.2 ≤ 65536 := by
 intro n
 induction n with
 | zero =>
  intro k hk
  rw [entP_nil (okE_short (by omega))]
  refine ⟨?_, Nat.le_refl _, fun x hx => by cases hx⟩
  show [] = (zs.drop k).take (k - k)
  rw [Nat.sub_self, List.take_zero]
 | succ n ih =>
  intro k hk
  by_cases h : okE zs k = true
  ·have h0 := h
   simp only [okE, Bool.and_eq_true, decide_eq_true_eq] at h0
   obtain ⟨⟨h8, h1, h2⟩, _⟩ := h0
   have hn0 := hdr_nonneg hb k
   obtain ⟨N, hN⟩ : ∃ N : Nat, hdr zs k = N := ⟨(hdr zs k).toNat, by omega⟩
   rw [entP_cons h, hN, Int.toNat_natCast]
   obtain ⟨g1, g2, g3⟩ := ih (k + 8 + N) (by omega)
   have he := entEq hb hN h8 (by omega) (by omega)
   rw [h] at he
   have he := eq_of_beq he
   have e0 : endA k ((k + 8, N) :: entP zs (k + 8 + N)) = endA (k + 8 + N) (entP zs (k + 8 + N)) := rfl
   rw [e0]
   refine ⟨?_, by omega, fun x hx => ?_⟩
   ·rw [List.map_cons, List.flatMap_cons, g1, he, show endA (k + 8 + N) (entP zs (k + 8 + N)) - k = (8 + N) + (endA (k + 8 + N) (entP zs (k + 8 + N)) - (k + 8 + N)) by omega, List.take_add (i := 8 + N), List.drop_drop, show k + (8 + N) = k + 8 + N by omega]
   ·rcases List.mem_cons.1 hx with rfl | hx
    ·show N ≤ 65536; omega
    ·exact g3 x hx
  ·rw [entP_nil (by simpa using h)]
   refine ⟨?_, Nat.le_refl _, fun x hx => by cases hx⟩
   show [] = (zs.drop k).take (k - k)
   rw [Nat.sub_self, List.take_zero]
theorem pays_jLog {zs : List Int} (hb : Byt zs) : jLog (pays zs) = zs.take (stop zs) := by
 obtain ⟨h1, _, _⟩ := entP_log hb zs.length 0 (by omega)
 rw [List.drop_zero, Nat.sub_zero] at h1
 exact h1
theorem pays_le {zs : List Int} (hb : Byt zs) : ∀ p ∈ pays zs, p.length ≤ 65536 := fun p hp => by
 obtain ⟨_, _, h3⟩ := entP_log hb zs.length 0 (by omega)
 unfold pays at hp
 obtain ⟨x, hx, rfl⟩ := List.mem_map.1 hp
 have := h3 x hx
 unfold payP
 rw [List.length_take]; omega
theorem jLog_pays_len {zs : List Int} (hb : Byt zs) : (jLog (pays zs)).length ≤ zs.length := by
 rw [pays_jLog hb, List.length_take]; omega
def OpP (H : List AObj) (zs : List Int) (r : AVal) (H' : List AObj) : Prop := match openL (Sto.new (jLog (pays zs))) (pays zs) with
 | none => r = .tuple [.nilp, .int .i64 11] ∧ H' = H
 | some σ => σ.Rp (pays zs).length ∧ ∃ s ro z, r = .tuple [.ptr s 1 0 0, .int .i64 0] ∧ RepP H' s σ ro z ∧ Post H H' (fun _ => none) ro
theorem pOpen_cl {P : Program} (F : F_z0i P) (hCl : MClone P F.z0t.z0v.z0s.z0d.id)
  (hS : SKeys P F.z0t.z0v.z0z.slices_Sorted_string.id F.z0t.z0v.z0z.z0f.maps_Keys_mapstringstorechange_string_storechange_1.id)
  (hR1 : JRead P F.z09.journal_Read.id) (hR2 : JRead P F.journal_Read.id) (ex : Bool) {zs : List Int} (hz : zs.length ≤ 1000000) (hb : Byt zs) (H : List AObj) :
  ACalls P F.id [.list ex 1 (bC zs)] H (OpP H zs) := by
 refine open_spec F hCl hS (.list ex 1 (bC zs)) (jLog (pays zs)) false (pays zs) (stop zs) (fun X => ?_) (fun X => jread_pays hR2 ex zs hb (by omega) _) (Nat.le_trans (pays_len zs) hz) fun p hp => ⟨byt_stop hb p hp, Nat.le_trans (pays_le hb p hp) (by decide)⟩
 have := jRepair_spec F.z09 hR1 ex zs (by omega) hb (H ++ X)
 rwa [← pays_jLog hb] at this
theorem pOpen_nil {P : Program} (F : F_z0i P) (hCl : MClone P F.z0t.z0v.z0s.z0d.id)
  (hS : SKeys P F.z0t.z0v.z0z.slices_Sorted_string.id F.z0t.z0v.z0z.z0f.maps_Keys_mapstringstorechange_string_storechange_1.id)
  (hR1 : JRead P F.z09.journal_Read.id) (hR2 : JRead P F.journal_Read.id) (H : List AObj) :
  ACalls P F.id [.nil] H (fun r H' => ∃ s ro z, r = .tuple [.ptr s 1 0 0, .int .i64 0] ∧ RepP H' s (Sto.new []) ro z ∧ Post H H' (fun _ => none) ro) := by
 have h := (pOpen_cl F hCl hS hR1 hR2 false (zs := []) (by decide) byt_nil H).weakD (args := [.nil]) (.cons (.nil false 1) .nil)
 refine h.mono fun r H' hq => ?_
 unfold OpP at hq
 rw [pays_nil.1] at hq
 exact hq.2
theorem post_app {H H' : List AObj} {ro : Nat → Option Role} (h : Post H H' (fun _ => none) ro) : ∃ G, H' = H ++ G := by
 refine ⟨H'.drop H.length, ?_⟩
 conv => lhs; rw [← List.take_append_drop H.length H']
 congr 1
 apply List.ext_getElem?
 intro i
 by_cases hi : i < H.length
 ·rw [List.getElem?_take_of_lt hi]; exact (h.2 i hi rfl).2
 ·rw [List.getElem?_eq_none (by rw [List.length_take]; omega), List.getElem?_eq_none (by omega)]
section
variable {H : List AObj} {s : Nat} {σ : Sto} {ro : Nat → Option Role} {z : SP}
theorem bClone_at {P : Program} (F : F_z06 P) (l : List Int) (hl : l.length ≤ 90000000) (H : List AObj) (id n : Nat) (hn : n = l.length) (ho : H[id]? = some (bO l)) :
  ACalls P F.id [.sl id n 0 n] H (fun r H' => r = .list false 1 (bC l) ∧ H' = H) := by
 subst hn
 have h := bClone_pp F l l.length 0 (Nat.le_refl _) l.length rfl hl
 have e0 : bC l ++ bC (List.replicate 0 0) = bC l := by simp [bC]
 rw [e0, List.take_length] at h
 have := h.fr (args := [.sl id l.length 0 l.length]) ho (by simp [AObj.clean, pureEs_bC]) (by simp [AObj.clean, pureEs_bC]) (.sl trivial) (.closed _ rfl)
 refine this.mono fun r H' hq => ⟨hq.1, ?_⟩
 rw [hq.2]
 exact set_id ho
set_option maxRecDepth 20000 in
theorem Stage_own {P : Program} (F : F_z0p P) (h : RepP H s σ ro z) (env name : ByteArray) (data : List Int) (h1 : nameB env = true) (h2 : qualB name = true) (hn : name.size ≤ 1000000) (h3 : data.length ≤ 65536) (hss : KSrt (σ.staged env))
  {id : Nat} (ho : H[id]? = some (bO data)) :
  Acts P F.id [.ptr s 1 0 0, .str env, .agg [.str name, .sl id data.length 0 data.length]] H s ro (.int .i64 0) (stageS env name ⟨false, data⟩ σ) := by
 have h' := h.app (X := [.arr 2 [[.str name, .sl id data.length 0 data.length]]])
 have hp := Post.app H [.arr 2 [[.str name, .sl id data.length 0 data.length]]] ro
 obtain ⟨_, H1, hc, rfl, ro', z', hr, hp2⟩ := stage_spec F.z0x h' env name ⟨false, data⟩ hss
 refine ⟨.int .i64 0, H1, ?_, rfl, _, _, hr, hp.trans hp2⟩
 refine acalls_of_body F.has ?_
 (conv => whnf); refine snocK_to ?_
 (conv => whnf); refine ACalls.use (schema_IsName_spec F.z0g env _) ?_
 (conv => whnf); refine recF (by rw [h1]; rfl) ?_
 (conv => whnf); refine recO (at_snoc H _) ?_
 (conv => whnf); refine ACalls.use (schema_IsQualified_spec F.z0h name hn _) ?_
 (conv => whnf); refine recF (by rw [h2]; rfl) ?_
 (conv => whnf); refine recO (at_snoc H _) ?_
 (conv => whnf); refine recO (at_old ho) ?_
 (conv => whnf); refine recT (by rw [bC_length]; exact Nat.beq_refl _) ?_
 (conv => whnf); refine recF (by simp; omega) ?_
 (conv => whnf); refine recO (at_snoc H _) ?_
 (conv => whnf); refine recO (at_snoc H _) ?_
 (conv => whnf); refine ⟨_, bClone_at F.z06 data (by omega) _ id _ rfl (at_old ho), ?_⟩
 (conv => whnf); refine ⟨_, _, hc, ?_⟩
 conv => whnf
 exact ⟨rfl, rfl⟩
end
structure Sto.Inv (σ : Sto) (k : Nat) : Prop where
 sb : ∀ e, KSrt (σ.blobs e)
 ss : ∀ e, KSrt (σ.staged e)
 vs : ∀ e, 0 ≤ σ.vers e ∧ σ.vers e ≤ k
 nb : ∀ e, (σ.blobs e).length ≤ 256
 db : ∀ e, ∀ p ∈ σ.blobs e, p.2.length ≤ 65536 ∧ Byt p.2 ∧ p.1.size ≤ 49
 ds : ∀ e, ∀ p ∈ σ.staged e, OkE p ∧ Byt p.2.data
 sz : ∀ e, ((σ.staged e).flatMap entI).length ≤ 256 * k
 lg : σ.log.length ≤ 4194304
 lb : Byt σ.log
theorem Sto.Inv.new {l : List Int} (hl : l.length ≤ 4194304) (hb : Byt l) : (Sto.new l).Inv 0 :=
 ⟨fun _ => KSrt.nil, fun _ => KSrt.nil, fun _ => ⟨Int.le_refl _, Int.le_refl _⟩, fun _ => Nat.zero_le _, (fun _ p hp => by cases hp), (fun _ p hp => by cases hp), fun _ => Nat.zero_le _, hl, hb⟩
theorem Sto.Inv.up {σ : Sto} {k j : Nat} (h : σ.Inv k) (hkj : k ≤ j) : σ.Inv j :=
 ⟨h.sb, h.ss, fun e => ⟨(h.vs e).1, by have := (h.vs e).2; omega⟩, h.nb, h.db, h.ds, fun e => Nat.le_trans (h.sz e) (Nat.mul_le_mul_left _ hkj), h.lg, h.lb⟩
theorem Sto.Inv.fit {σ : Sto} {k : Nat} (h : σ.Inv k) (hk : k ≤ 300) : σ.Fit := by
 refine ⟨h.sb, h.ss, fun e => by have := h.vs e; omega, fun e he => ?_, by have := h.lg; omega⟩
 have h1 := nameB_len he
 have h2 := h.sz e
 have h3 : (payI e (σ.staged e)).length = 4 + e.size + ((σ.staged e).flatMap entI).length := by
  unfold payI txI; simp [beN_length, bytesI_length]; omega
 rw [h3]
 omega
theorem Sto.Inv.len {σ : Sto} {k : Nat} (h : σ.Inv k) (hk : k ≤ 300) (e : ByteArray) : (σ.staged e).length ≤ 1000000 := by
 have h1 := flat_len (σ.staged e)
 have h2 := h.sz e
 omega
theorem Sto.Inv.fit2 {σ : Sto} {k : Nat} (h : σ.Inv k) (hk : k ≤ 300) : σ.Fit2 := ⟨h.fit hk, fun e p hp => (h.ds e p hp).2, h.len hk⟩
theorem afterL_mem : ∀ (c : List (ByteArray × Chg)) {d : List (ByteArray × List Int)} {p : ByteArray × List Int}, p ∈ afterL d c → p ∈ d ∨ ∃ q ∈ c, p.2 = q.2.data ∧ p.1 = q.1
 | [], d, p, h => .inl h
 | q :: c, d, p, h => by
  have h : p ∈ afterL (applyC d q) c := h
  rcases afterL_mem c h with h | ⟨r, hr, e⟩
  ·unfold applyC at h
   cases hq : q.2.rm with
   | true =>
    rw [hq] at h
    exact .inl (List.mem_filter.1 h).1
   | false =>
    rw [hq] at h
    rcases kIns_mem h with rfl | h
    ·exact .inr ⟨q, List.mem_cons_self .., rfl, rfl⟩
    ·exact .inl h
  ·exact .inr ⟨r, List.mem_cons_of_mem _ hr, e⟩
theorem afterL_db {d : List (ByteArray × List Int)} {c : List (ByteArray × Chg)} (hd : ∀ p ∈ d, p.2.length ≤ 65536 ∧ Byt p.2 ∧ p.1.size ≤ 49) (hc : ∀ p ∈ c, OkE p ∧ Byt p.2.data) : ∀ p ∈ afterL d c, p.2.length ≤ 65536 ∧ Byt p.2 ∧ p.1.size ≤ 49 := fun p hp => by
 rcases afterL_mem c hp with h | ⟨q, hq, e, e2⟩
 ·exact hd p h
 ·rw [e, e2]; exact ⟨(hc q hq).1.d, (hc q hq).2, qualB_size (hc q hq).1.q⟩
theorem jFull_le {zs p : List Int} (h : jFull zs p = false) : (zs ++ jEnt p).length ≤ 4194304 := by
 unfold jFull at h
 simp at h
 rw [List.length_append, jEnt_length]
 omega
theorem Sto.Inv.stage {σ : Sto} {k : Nat} (h : σ.Inv k) (env : ByteArray) {name : ByteArray} {c : Chg} (hc : OkE (name, c)) (hb : Byt c.data) (hs : (entI (name, c)).length ≤ 256) : (stageS env name c σ).Inv (k + 1) := by
 refine ⟨h.sb, updS_all (Q := KSrt) h.ss ((h.ss env).ins _ _), (h.up (Nat.le_succ k)).vs, h.nb, h.db, ?_, ?_, h.lg, h.lb⟩
 ·refine updS_all (Q := fun l : List (ByteArray × Chg) => ∀ p ∈ l, OkE p ∧ Byt p.2.data) h.ds fun p hp => ?_
  rcases kIns_mem hp with rfl | hp
  ·exact ⟨hc, hb⟩
  ·exact h.ds env p hp
 ·refine updS_all (Q := fun l : List (ByteArray × Chg) => (l.flatMap entI).length ≤ 256 * (k + 1)) (h.up (Nat.le_succ k)).sz ?_
  have h1 := flat_ins name c (σ.staged env)
  have h2 := h.sz env
  omega
theorem Sto.Inv.mv {σ : Sto} {k : Nat} (h : σ.Inv k) (env : ByteArray) : (mvS σ env).Inv k :=
 ⟨h.sb, updS_all (Q := KSrt) h.ss KSrt.nil, h.vs, h.nb, h.db, updS_all (Q := fun l : List (ByteArray × Chg) => ∀ p ∈ l, OkE p ∧ Byt p.2.data) h.ds (fun p hp => by cases hp), updS_all (Q := fun l : List (ByteArray × Chg) => (l.flatMap entI).length ≤ 256 * k) h.sz (Nat.zero_le _), h.lg, h.lb⟩
theorem Sto.Inv.stageR {σ : Sto} {k : Nat} (h : σ.Inv k) (env name : ByteArray) {data : List Int} (hd : data.length ≤ 200) (hb : Byt data) : (stageR env name data σ).2.Inv (k + 1) := by
 unfold AW.stageR
 split
 ·rename_i hc
  simp at hc
  split
  ·refine h.stage env ⟨hc.2, by simp; omega, fun h => by cases h⟩ hb ?_
   have := qualB_size hc.2
   simp [entI, txI, bytesI_length, beN_length]; omega
  ·exact h.up (Nat.le_succ k)
 ·exact h.up (Nat.le_succ k)
theorem Sto.Inv.removeR {σ : Sto} {k : Nat} (h : σ.Inv k) (env name : ByteArray) : (removeR env name σ).2.Inv (k + 1) := by
 unfold AW.removeR
 split
 ·rename_i hc
  simp at hc
  refine h.stage env ⟨hc.2, by simp, fun _ => rfl⟩ byt_nil ?_
  have := qualB_size hc.2
  simp [entI, txI, bytesI_length]; omega
 ·exact h.up (Nat.le_succ k)
theorem Sto.Inv.commitR {σ : Sto} {k : Nat} (h : σ.Inv k) (env : ByteArray) : (commitR env σ).2.Inv (k + 1) := by
 by_cases hz : (AW.commitR env σ).1 = 0
 ·obtain ⟨_, _, h3, h4, he⟩ := commitR_ok hz
  rw [he]
  refine Sto.Inv.mv (σ := vvS (vbS (lgS σ (σ.log ++ jEnt (payI env (σ.staged env)))) env (afterL (σ.blobs env) (σ.staged env))) env (σ.vers env + 1)) ⟨?_, h.ss, ?_, ?_, ?_, h.ds, (h.up (Nat.le_succ k)).sz, jFull_le h4, byt_app h.lb (jEnt_byt (payI_byt _ fun p hp => (h.ds env p hp).2))⟩ env
  ·exact updS_all (Q := KSrt) h.sb (afterL_srt _ (h.sb env))
  ·exact updS_all (Q := fun x : Int => 0 ≤ x ∧ x ≤ ((k + 1 : Nat) : Int)) (h.up (Nat.le_succ k)).vs ⟨by have := (h.vs env).1; show 0 ≤ σ.vers env + 1; omega, by have := (h.vs env).2; show σ.vers env + 1 ≤ _; omega⟩
  ·exact updS_all (Q := fun l : List (ByteArray × List Int) => l.length ≤ 256) h.nb h3
  ·exact updS_all (Q := fun l : List (ByteArray × List Int) => ∀ p ∈ l, p.2.length ≤ 65536 ∧ Byt p.2 ∧ p.1.size ≤ 49) h.db (afterL_db (h.db env) (h.ds env))
 ·have e : (AW.commitR env σ).2 = σ := by
   unfold AW.commitR at hz ⊢
   split
   ·rfl
   ·split
    ·rfl
    ·split
     ·rfl
     ·split
      ·rfl
      ·rename_i h1 h2 h3 h4
       rw [if_neg h1, if_neg h2, if_neg h3, if_neg h4] at hz
       exact absurd rfl hz
  rw [e]; exact h.up (Nat.le_succ k)
theorem Sto.Inv.swp {σ : Sto} {k : Nat} (h : σ.Inv k) {a b : ByteArray} : (swpS σ a b).Inv (k + 1) := by
 have hv1 : ∀ e, 0 ≤ σ.vers e + 1 ∧ σ.vers e + 1 ≤ ((k + 1 : Nat) : Int) := fun e => ⟨by have := (h.vs e).1; omega, by have := (h.vs e).2; omega⟩
 refine ⟨updS_all (Q := KSrt) (updS_all (Q := KSrt) h.sb (h.sb _)) (h.sb _), updS_all (Q := KSrt) (updS_all (Q := KSrt) h.ss KSrt.nil) KSrt.nil, ?_, ?_, ?_, ?_, ?_, h.lg, h.lb⟩
 ·exact updS_all (Q := fun x : Int => 0 ≤ x ∧ x ≤ ((k + 1 : Nat) : Int)) (updS_all (Q := fun x : Int => 0 ≤ x ∧ x ≤ ((k + 1 : Nat) : Int)) (h.up (Nat.le_succ k)).vs (hv1 _)) (hv1 _)
 ·exact updS_all (Q := fun l : List (ByteArray × List Int) => l.length ≤ 256) (updS_all (Q := fun l : List (ByteArray × List Int) => l.length ≤ 256) h.nb (h.nb _)) (h.nb _)
 ·exact updS_all (Q := fun l : List (ByteArray × List Int) => ∀ p ∈ l, p.2.length ≤ 65536 ∧ Byt p.2 ∧ p.1.size ≤ 49) (updS_all (Q := fun l : List (ByteArray × List Int) => ∀ p ∈ l, p.2.length ≤ 65536 ∧ Byt p.2 ∧ p.1.size ≤ 49) h.db (h.db _)) (h.db _)
 ·exact updS_all (Q := fun l : List (ByteArray × Chg) => ∀ p ∈ l, OkE p ∧ Byt p.2.data) (updS_all (Q := fun l : List (ByteArray × Chg) => ∀ p ∈ l, OkE p ∧ Byt p.2.data) h.ds (fun p hp => by cases hp)) (fun p hp => by cases hp)
 ·exact updS_all (Q := fun l : List (ByteArray × Chg) => (l.flatMap entI).length ≤ 256 * (k + 1)) (updS_all (Q := fun l : List (ByteArray × Chg) => (l.flatMap entI).length ≤ 256 * (k + 1)) (h.up (Nat.le_succ k)).sz (Nat.zero_le _)) (Nat.zero_le _)
theorem Sto.Inv.swapR {σ : Sto} {k : Nat} (h : σ.Inv k) (a b : ByteArray) : (swapR a b σ).2.Inv (k + 1) := by
 by_cases hz : (AW.swapR a b σ).1 = 0
 ·obtain ⟨_, _, _, h4, he⟩ := swapR_ok hz
  rw [he]
  refine Sto.Inv.swp (σ := lgS σ (σ.log ++ jEnt (spayI a b))) ⟨h.sb, h.ss, h.vs, h.nb, h.db, h.ds, h.sz, jFull_le h4, byt_app h.lb (jEnt_byt (spayI_byt a b))⟩
 ·have e : (AW.swapR a b σ).2 = σ := by
   unfold AW.swapR at hz ⊢
   split
   ·rfl
   ·split
    ·rfl
    ·split
     ·rfl
     ·rename_i h1 h2 h3
      rw [if_neg h1, if_neg h2, if_neg h3] at hz
      exact absurd rfl hz
  rw [e]; exact h.up (Nat.le_succ k)
theorem Sto.Inv.play {σ : Sto} {k : Nat} (h : σ.Inv k) {x : Ev} (hd : x.d.length ≤ 200) (hb : Byt x.d) : (playS x σ).Inv (k + 1) := by
 unfold playS
 split
 ·exact h.stageR _ _ hd hb
 ·split
  ·exact h.removeR _ _
  ·split
   ·exact h.commitR _
   ·split
    ·exact h.swapR _ _
    ·exact (h.mv _).up (Nat.le_succ k)
theorem payI_dat {env : ByteArray} {c : List (ByteArray × Chg)} (h : Byt (payI env c)) (hok : ∀ p ∈ c, OkE p) : ∀ p ∈ c, OkE p ∧ Byt p.2.data := fun p hp => by
 refine ⟨hok p hp, ?_⟩
 cases hr : p.2.rm with
 | true => rw [(hok p hp).r hr]; exact byt_nil
 | false =>
  intro x hx
  refine h x (List.mem_append_right _ (List.mem_flatMap.2 ⟨p, hp, ?_⟩))
  unfold entI
  rw [hr]
  simp [hx]
theorem applyR_inv {σ σ' : Sto} {k : Nat} {p : List Int} (h : σ.Inv k) (hb : Byt p) (ha : applyR σ p = some σ') : σ'.Inv (k + 1) := by
 rcases applyR_some hb ha with ⟨env, c, rfl, c1, c2, c3, c4, c5, c6, rfl⟩ | ⟨a, b, rfl, c1, c2, c3, rfl⟩
 ·refine Sto.Inv.mv (σ := vvS (vbS σ env (afterL (σ.blobs env) c)) env (σ.vers env + 1)) ⟨?_, h.ss, ?_, ?_, ?_, h.ds, (h.up (Nat.le_succ k)).sz, h.lg, h.lb⟩ env
  ·exact updS_all (Q := KSrt) h.sb (afterL_srt _ (h.sb env))
  ·exact updS_all (Q := fun x : Int => 0 ≤ x ∧ x ≤ ((k + 1 : Nat) : Int)) (h.up (Nat.le_succ k)).vs ⟨by have := (h.vs env).1; omega, by have := (h.vs env).2; omega⟩
  ·exact updS_all (Q := fun l : List (ByteArray × List Int) => l.length ≤ 256) h.nb c6
  ·exact updS_all (Q := fun l : List (ByteArray × List Int) => ∀ p ∈ l, p.2.length ≤ 65536 ∧ Byt p.2 ∧ p.1.size ≤ 49) h.db (afterL_db (h.db env) (payI_dat hb c3))
 ·exact h.swp
theorem openL_inv : ∀ (ps : List (List Int)) {σ σ' : Sto} {k : Nat}, σ.Inv k → (∀ p ∈ ps, Byt p) → openL σ ps = some σ' → σ'.Inv (k + ps.length)
 | [], σ, σ', k, h, _, ho => by cases ho; exact h
 | p :: ps, σ, σ', k, h, hb, ho => by
  rw [openL_cons] at ho
  split at ho
  ·cases ho
  ·rename_i σ1 ha
   have := openL_inv ps (applyR_inv h (hb p (List.mem_cons_self ..)) ha) (fun q hq => hb q (List.mem_cons_of_mem _ hq)) ho
   rw [List.length_cons, show k + (ps.length + 1) = k + 1 + ps.length by omega]
   exact this
theorem play_log {σ σq : Sto} {k : Nat} (h : σ.Inv k) (hk : k ≤ 40) (x : Ev) (hb : σq.blobs = σ.blobs) (hv : σq.vers = σ.vers) :
  ((playS x σ).log = σ.log ∧ (playS x σ).blobs = σ.blobs ∧ (playS x σ).vers = σ.vers) ∨
  ∃ pay σ', (playS x σ).log = σ.log ++ jEnt pay ∧ Byt pay ∧ pay.length ≤ 10500 ∧ applyR σq pay = some σ' ∧ σ'.blobs = (playS x σ).blobs ∧ σ'.vers = (playS x σ).vers := by
 unfold playS
 split
 ·left
  unfold stageR
  split
  ·split <;> exact ⟨rfl, rfl, rfl⟩
  ·exact ⟨rfl, rfl, rfl⟩
 ·split
  ·left
   unfold removeR
   split <;> exact ⟨rfl, rfl, rfl⟩
  ·split
   ·by_cases hz : (commitR x.t σ).1 = 0
    ·obtain ⟨h1, h2, h3, h4, he⟩ := commitR_ok hz
     right
     rw [he]
     have hcl := flat_len (σ.staged x.t)
     have hsz := h.sz x.t
     have h24 := nameB_24 h1
     refine ⟨payI x.t (σ.staged x.t), comF σq x.t (afterL (σ.blobs x.t) (σ.staged x.t)), rfl, payI_byt _ fun p hp => (h.ds x.t p hp).2, ?_, ?_, ?_, ?_⟩
     ·have : (payI x.t (σ.staged x.t)).length = 4 + x.t.size + ((σ.staged x.t).flatMap entI).length := by
       unfold payI txI; simp [beN_length, bytesI_length]; omega
      omega
     ·have := entryR_pay (σ := σq) h1 (h.ss x.t) (fun p hp => (h.ds x.t p hp).1) (fun h0 => h2 (by rw [h0]; rfl)) (by omega) (by rw [hb]; exact h3)
      rw [hb] at this
      exact this
     ·show updS σq.blobs x.t _ = updS σ.blobs x.t _
      rw [hb]
     ·show updS σq.vers x.t (σq.vers x.t + 1) = updS σ.vers x.t (σ.vers x.t + 1)
      rw [hv]
    ·left
     have e : (commitR x.t σ).2 = σ := by
      unfold commitR at hz ⊢
      split
      ·rfl
      ·split
       ·rfl
       ·split
        ·rfl
        ·split
         ·rfl
         ·rename_i h1 h2 h3 h4
          rw [if_neg h1, if_neg h2, if_neg h3, if_neg h4] at hz
          exact absurd rfl hz
     rw [e]; exact ⟨rfl, rfl, rfl⟩
   ·split
    ·by_cases hz : (swapR x.t x.n σ).1 = 0
     ·obtain ⟨h1, h2, h3, h4, he⟩ := swapR_ok hz
      right
      rw [he]
      refine ⟨spayI x.t x.n, swpS σq x.t x.n, rfl, spayI_byt _ _, ?_, applyR_spay h1 h2 h3, ?_, ?_⟩
      ·have := nameB_24 h1
       have := nameB_24 h2
       simp [spayI, txI, bytesI_length]; omega
      ·show updS (updS σq.blobs x.t (σq.blobs x.n)) x.n (σq.blobs x.t) = updS (updS σ.blobs x.t (σ.blobs x.n)) x.n (σ.blobs x.t)
       rw [hb]
      ·show updS (updS σq.vers x.t (σq.vers x.t + 1)) x.n (σq.vers x.n + 1) = updS (updS σ.vers x.t (σ.vers x.t + 1)) x.n (σ.vers x.n + 1)
       rw [hv]
     ·left
      have e : (swapR x.t x.n σ).2 = σ := by
       unfold swapR at hz ⊢
       split
       ·rfl
       ·split
        ·rfl
        ·split
         ·rfl
         ·rename_i h1 h2 h3
          rw [if_neg h1, if_neg h2, if_neg h3] at hz
          exact absurd rfl hz
      rw [e]; exact ⟨rfl, rfl, rfl⟩
    ·exact .inl ⟨rfl, rfl, rfl⟩
theorem Two.start {H : List AObj} {s : Nat} {ro : Nat → Option Role} {z : SP} (hP : RepP H s (Sto.new []) ro z) : ∃ own, Two (H ++ rnewX H.length) s (H.length + 3) (Sto.new []) own := by
 refine ⟨_, ro, z, _, _, _, hP.app, RepR.empty H, fun i hi => ?_, rfl⟩
 have := hP.lt i hi
 unfold newRo
 rw [if_neg (by omega), if_neg (by omega), if_neg (by omega), if_neg (by omega)]
def knC : List (ByteArray × Chg) := [(bA, ⟨false, [49]⟩)]
def kn1 : Sto := stageS bLive bA ⟨false, [49]⟩ (Sto.new [])
def kn2 : Sto := comS kn1 bLive [(bA, [49])] ([] ++ jEnt (payI bLive knC))
def kn3 : Sto := swpS (lgS kn2 (kn2.log ++ jEnt (spayI bLive bShadow))) bLive bShadow
def kn4 : Sto := swpS (comF (Sto.new kn3.log) bLive [(bA, [49])]) bLive bShadow
theorem knOk : ∀ p ∈ knC, OkE p := fun p hp => by
 simp [knC] at hp
 subst hp
 exact ⟨by decide, by decide, fun h => by cases h⟩
theorem nLive : nameB bLive = true := by decide
theorem nShadow : nameB bShadow = true := by decide
theorem qA : qualB bA = true := by decide
theorem neLS : bLive ≠ bShadow := fun h => absurd (congrArg ByteArray.size h) (by decide)
theorem kn1_staged : kn1.staged bLive = knC := by
 show updS (Sto.new []).staged bLive (kIns bA ⟨false, [49]⟩ ((Sto.new []).staged bLive)) bLive = _
 rw [updS_same]; rfl
theorem kn_after : afterL [] knC = [(bA, [49])] := rfl
theorem kn_pay : (payI bLive knC).length = 17 - 1 := by
 unfold payI knC txI; simp [entI, txI, bytesI_length, beN_length]; decide
theorem kn_commit : commitR bLive kn1 = (0, kn2) := by
 unfold commitR
 rw [kn1_staged, show kn1.blobs bLive = [] from rfl, kn_after, if_neg (by rw [nLive]; decide), if_neg (by decide), if_neg (by decide), if_neg]
 ·rfl
 ·show ¬ jFull [] (payI bLive knC) = true
  unfold jFull
  rw [kn_pay]
  decide
theorem kn_commit2 : commitR bLive kn2 = (13, kn2) := by
 have h : kn2.staged bLive = [] := by show updS kn1.staged bLive [] bLive = _; rw [updS_same]
 unfold commitR
 rw [h, if_neg (by rw [nLive]; decide), if_pos (by decide)]
theorem kn2_log : kn2.log = jEnt (payI bLive knC) := rfl
theorem kn_swap : swapR bLive bShadow kn2 = (0, kn3) := by
 unfold swapR
 rw [if_neg (by rw [nLive, nShadow]; decide), if_neg neLS, if_neg]
 ·rfl
 ·unfold jFull
  rw [kn2_log, jEnt_length, kn_pay]
  decide
theorem kn3_log : kn3.log = jLog [payI bLive knC, spayI bLive bShadow] := by
 rw [jLog_cons, jLog_cons]
 show jEnt _ ++ jEnt _ = jEnt _ ++ (jEnt _ ++ [])
 rw [List.append_nil]
theorem kn_byts : ∀ p ∈ [payI bLive knC, spayI bLive bShadow], Byt p := fun p hp => by
 simp at hp
 rcases hp with rfl | rfl
 ·refine payI_byt _ fun q hq => ?_
  simp [knC] at hq
  subst hq
  intro x hx
  simp at hx
  subst hx
  decide
 ·exact spayI_byt _ _
theorem kn3_byt : Byt kn3.log := by rw [kn3_log]; exact jLog_byt kn_byts
theorem kn3_pays : pays kn3.log = [payI bLive knC, spayI bLive bShadow] := by
 have h := (pays_log [payI bLive knC, spayI bLive bShadow] [] (fun p hp => by
  simp at hp
  rcases hp with rfl | rfl
  ·rw [kn_pay]; decide
  ·decide)).1
 rw [List.append_nil, pays_nil.1, List.append_nil, ← kn3_log] at h
 exact h
theorem kn3_len : kn3.log.length ≤ 1000000 := by
 rw [kn3_log, jLog_cons, jLog_cons, List.length_append, List.length_append, jEnt_length, jEnt_length, kn_pay]
 decide
theorem kn_open : openL (Sto.new (jLog (pays kn3.log))) (pays kn3.log) = some kn4 := by
 rw [kn3_pays, ← kn3_log, openL_cons]
 have h := entryR_pay (σ := Sto.new kn3.log) (env := bLive) nLive (c := knC) (by unfold KSrt knC; simp) knOk (by unfold knC; simp) (by decide) (by decide)
 rw [h]
 dsimp only
 rw [openL_cons, applyR_spay nLive nShadow neLS]
 rfl
theorem kn_inv1 : kn1.Inv 1 := (Sto.Inv.new (l := []) (by decide) byt_nil).stage bLive (knOk _ (by simp [knC])) (kn_byt49) (by decide)
where kn_byt49 : Byt [49] := fun x hx => by simp at hx; subst hx; decide
theorem kn_inv2 : kn2.Inv 2 := by
 have := kn_inv1.commitR bLive
 rwa [kn_commit] at this
theorem kn_inv4 : kn4.Inv 2 := by
 have := openL_inv (pays kn3.log) (k := 0) (Sto.Inv.new (l := jLog (pays kn3.log)) (by have := jLog_pays_len kn3_byt; have := kn3_len; omega) (jLog_byt (byt_stop kn3_byt))) (byt_stop kn3_byt) kn_open
 rwa [kn3_pays] at this
theorem kn4_rs : readV kn4 bShadow bA = ([49], true) := by decide
theorem kn4_rl : readV kn4 bLive bA = ([], false) := by decide
theorem kn4_vl : kn4.vers bLive = 2 := by decide
theorem kn4_vs : kn4.vers bShadow = 1 := by decide
theorem kn4_ns : kn4.blobs bShadow = [(bA, [49])] := by rfl
theorem kn1_r : readV kn1 bLive bA = ([], false) := by decide
set_option maxRecDepth 20000 in
theorem known36_spec {P : Program} (F : F_z1c P) (hM1 : MClone P F.z0i.z0t.z0v.z0s.z0d.id)
  (hK1 : SKeys P F.z0i.z0t.z0v.z0z.slices_Sorted_string.id F.z0i.z0t.z0v.z0z.z0f.maps_Keys_mapstringstorechange_string_storechange_1.id)
  (hR1 : JRead P F.z0i.z09.journal_Read.id) (hR2 : JRead P F.z0i.journal_Read.id)
  (hM2 : MClone P F.z0j.z0s.z0d.id)
  (hK2 : SKeys P F.z0j.z0z.slices_Sorted_string.id F.z0j.z0z.z0f.maps_Keys_mapstringstorechange_string_storechange_1.id)
  (hL1 : SKeys P F.z0m.slices_Sorted_string.id F.z0m.z0e.maps_Keys_mapstringLbyte_string_Lbyte_1.id) (H : List AObj) :
  ACalls P F.id [] H (fun r H' => r = .bool true ∧ H' = H) := by
 refine ACalls.drop rfl ?_
 refine acalls_of_body F.has ?_
 (conv => whnf); refine ACalls.mono (pOpen_nil F.z0i hM1 hK1 hR1 hR2 H) ?_
 rintro r H1 ⟨s, ro, z, rfl, hP, hp⟩
 have l0 : 0 + H1.length = H1.length := Nat.zero_add _
 (conv => whnf); refine snocK_to ?_
 rw [l0]
 have hP0 := hP.app (X := [bO [49]])
 obtain ⟨_, H2, hc, rfl, ro2, z2, hP2, hp2⟩ := Stage_own F.z0p hP0 bLive bA [49] nLive qA (by decide) (by decide) KSrt.nil (id := H1.length) (by simp)
 (conv => whnf); refine recO (getA) ?_
 (conv => whnf); refine ACalls.mono (hc) ?_
 rintro v Hx ⟨rfl, rfl⟩
 repeat ((conv => whnf); first | refine recT (by decide) ?_ | refine recF (by decide) ?_)
 have f1 := kn_inv1.fit (by decide)
 have hrd1 := Read_spec F.z0n hP2 f1 bLive bA (fun d hd => by cases hd)
 rw [show readV (stageS bLive bA ⟨false, [49]⟩ (Sto.new [])) bLive bA = ([], false) from kn1_r] at hrd1
 (conv => whnf); refine ACalls.use (hrd1) ?_
 obtain ⟨_, H3, hc3, rfl, ro3, z3, hP3, hp3⟩ := Commit_spec F.z0j hM2 hK2 hP2 bLive f1
 rw [show commitR bLive (stageS bLive bA ⟨false, [49]⟩ (Sto.new [])) = (0, kn2) from kn_commit] at hc3 hP3
 (conv => whnf); refine ACalls.mono (hc3) ?_
 rintro v Hx ⟨rfl, rfl⟩
 obtain ⟨_, H4, hc4, rfl, ro4, z4, hP4, hp4⟩ := Commit_spec F.z0j hM2 hK2 hP3 bLive (kn_inv2.fit (by decide))
 rw [kn_commit2] at hc4 hP4
 (conv => whnf); refine ACalls.mono (hc4) ?_
 rintro v Hx ⟨rfl, rfl⟩
 obtain ⟨_, H5, hc5, rfl, ro5, z5, hP5, hp5⟩ := Swap_spec F.z0q hP4 bLive bShadow (kn_inv2.fit (by decide))
 rw [kn_swap] at hc5 hP5
 (conv => whnf); refine ACalls.mono (hc5) ?_
 rintro v Hx ⟨rfl, rfl⟩
 repeat ((conv => whnf); first | refine recT (by decide) ?_ | refine recF (by decide) ?_)
 (conv => whnf); refine ACalls.use (Log_spec F.z0l hP5 (by show kn3.log.length ≤ _; have := kn3_len; omega)) ?_
 (conv => whnf); refine ACalls.mono (pOpen_cl F.z0i hM1 hK1 hR1 hR2 false kn3_len kn3_byt _) ?_
 intro r H6 hq
 unfold OpP at hq
 rw [kn_open] at hq
 obtain ⟨_, s6, ro6, z6, rfl, hP6, hp6⟩ := hq
 repeat ((conv => whnf); first | refine recT (by decide) ?_ | refine recF (by decide) ?_)
 have f4 := kn_inv4.fit (by decide)
 have hrs := Read_spec F.z0n hP6 f4 bShadow bA (fun d hd => Nat.le_trans ((kn_inv4.db bShadow _ (readV_mem hd (kn_inv4.sb _))).1) (by decide))
 rw [kn4_rs] at hrs
 have hrl := Read_spec F.z0n hP6 f4 bLive bA (fun d hd => Nat.le_trans ((kn_inv4.db bLive _ (readV_mem hd (kn_inv4.sb _))).1) (by decide))
 rw [kn4_rl] at hrl
 have hvl := Version_spec F.z0r hP6 bLive
 rw [kn4_vl] at hvl
 have hvs := Version_spec F.z0r hP6 bShadow
 rw [kn4_vs] at hvs
 have hns := Names_spec F.z0m hL1 hP6 f4 bShadow (Nat.le_trans (kn_inv4.nb _) (by decide)) (fun p hp => Nat.le_trans (kn_inv4.db _ p hp).2.2 (by decide))
 rw [kn4_ns] at hns
 (conv => whnf); refine ACalls.use (hrs) ?_
 (conv => whnf); refine ACalls.use (hrl) ?_
 (conv => whnf); refine ⟨_, bytesOf_bC _, ?_⟩
 (conv => whnf); refine ACalls.use (hvl) ?_
 (conv => whnf); refine ACalls.use (hvs) ?_
 (conv => whnf); refine ACalls.use (hns) ?_
 conv => whnf
 refine ⟨rfl, ?_⟩
 obtain ⟨G, hG⟩ := post_app (((((hp.trans (Post.app _ _ _)).trans hp2).trans hp3).trans hp4).trans hp5)
 obtain ⟨G2, rfl⟩ := post_app hp6
 exact ⟨G ++ G2, by rw [hG]; simp⟩
end Go.AW
namespace Go.AW
def c_z1a (f_z1c : FuncId) (f_z0i : FuncId) (f_z1j : FuncId) (f_z1b : FuncId) (f_z1d : FuncId) (f_z0m : FuncId) (f_z0p : FuncId) (f_z1y : FuncId) (f_z1m : FuncId) (f_z0k : FuncId) (f_z0j : FuncId) (f_z0n : FuncId) (f_z1x : FuncId) : AFunc := ⟨117,[.tmp 4],(.seq (.region [ iD 4 (.move (.c (.bool false)))]) (.seq (.seq (.region [ iM 15 0,iD 16 (.len (.t 15)),iD 17 (.bin .gtr (.t 16) (cI 300)),iM 18 17,⟨(some 19),.move (.t 1),some (some 18,false)⟩,⟨(some 20),.len (.t 19),some (some 18,false)⟩,⟨(some 21),.bin .gtr (.t 20) (cI 200),some (some 18,false)⟩,iD 22 (.pick (.t 18) (.c (.bool true)) (.t 21))]) (.cond (.t 22) (.seq (.region [ iD 23 (.call f_z1c []),iM 4 23]) .ret) .skip)) (.seq (.region [ iD 25 (.call f_z0i [(.c .nil)]),iM 24 25,iD 26 (.extract (.t 24) 0),iD 27 (.extract (.t 24) 1),iM 5 26,iM 6 27]) (.seq (.seq (.region [ iM 28 6,iD 29 (.bin .neq (.t 28) (cI 0)),iM 30 29,⟨(some 31),.move (.t 5),some (some 30,false)⟩,⟨(some 32),.isNilP false (.t 31),some (some 30,false)⟩,iD 33 (.pick (.t 30) (.c (.bool true)) (.t 32))]) (.cond (.t 33) (.seq (.region [ iD 4 (.move (.c (.bool false)))]) .ret) .skip)) (.seq (.region [ iD 34 (.call f_z1j []),iM 7 34]) (.seq (.seq (.region [ iM 35 0,iD 36 (.call f_z1b [(.t 35)]),iD 37 (.len (.t 36)),iD 38 (.move (cI 0))]) (.block 0 (.loop (.seq (.region [ iD 39 (.bin .lss (.t 38) (.t 37))]) (.seq (.cond (.t 39) .skip (.exit 0)) (.seq (.block 1 (.seq (.region [ iD 40 (.indexAddr 10 (.t 36) (.t 38)),iD 41 (.load true 10 (.t 40)),iD 9 (.alloc [(.int .i64 0),.nil,(.str (bs [])),(.str (bs [])),(.str (bs [])),.nil,(.bool false),(.int .i64 0),(.int .i64 0),(.int .i64 0)]),iN (.store 10 (.t 9) (.t 41))]) (.seq (.region [ iM 42 5,iM 43 7,iD 44 (.load true 10 (.t 9)),iD 45 (.call f_z1d [(.t 42),(.t 43),(.t 44)]),iD 46 (.un .not (.t 45))]) (.cond (.t 46) (.seq (.region [ iD 4 (.move (.c (.bool false)))]) .ret) .skip)))) (.region [ iD 47 (.bin .add (.t 38) (cI 1)),iM 38 47]))))))) (.seq (.region [ iM 48 5,iD 49 (.call f_z0m [(.t 48),(.c (.str (bs [111,116,104,101,114])))]),iM 10 49]) (.seq (.seq (.region [ iM 50 5,iM 51 1,iD 52 (.build [(.str (bs [])),.nil] [(0,1,(.c (.str (bs [110,101,119])))),(1,1,(.t 51))]),iD 53 (.call f_z0p [(.t 50),(.c (.str (bs [111,116,104,101,114]))),(.t 52)]),iD 54 (.bin .neq (.t 53) (cI 0)),iM 55 54,⟨(some 56),.move (.t 5),some (some 55,false)⟩,⟨(some 57),.call f_z0m [(.t 56),(.c (.str (bs [111,116,104,101,114])))],some (some 55,false)⟩,⟨(some 58),.move (.t 10),some (some 55,false)⟩,⟨(some 59),.call f_z1y [(.t 57),(.t 58)],some (some 55,false)⟩,⟨(some 60),.un .not (.t 59),some (some 55,false)⟩,iD 61 (.pick (.t 55) (.c (.bool true)) (.t 60)),iM 62 61,⟨(some 63),.move (.t 5),some (some 62,false)⟩,⟨(some 64),.call f_z0m [(.t 63),(.c (.str (bs [108,105,118,101])))],some (some 62,false)⟩,⟨(some 65),.move (.t 7),some (some 62,false)⟩,⟨(some 66),.call f_z1m [(.t 65),(.c (.str (bs [108,105,118,101])))],some (some 62,false)⟩,⟨(some 67),.call f_z1y [(.t 64),(.t 66)],some (some 62,false)⟩,⟨(some 68),.un .not (.t 67),some (some 62,false)⟩,iD 69 (.pick (.t 62) (.c (.bool true)) (.t 68))]) (.cond (.t 69) (.seq (.region [ iD 4 (.move (.c (.bool false)))]) .ret) .skip)) (.seq (.region [ iM 70 5,iD 71 (.call f_z0k [(.t 70),(.c (.str (bs [111,116,104,101,114])))])]) (.seq (.seq (.region [ iM 72 5,iD 73 (.call f_z0j [(.t 72),(.c (.str (bs [111,116,104,101,114])))]),iD 74 (.bin .neq (.t 73) (cI 13)),iM 75 74,⟨(some 76),.move (.t 5),some (some 75,false)⟩,⟨(some 77),.move (.t 1),some (some 75,false)⟩,⟨(some 78),.build [(.str (bs [])),.nil] [(0,1,(.c (.str (bs [110,101,119])))),(1,1,(.t 77))],some (some 75,false)⟩,⟨(some 79),.call f_z0p [(.t 76),(.c (.str (bs [111,116,104,101,114]))),(.t 78)],some (some 75,false)⟩,⟨(some 80),.bin .neq (.t 79) (cI 0),some (some 75,false)⟩,iD 81 (.pick (.t 75) (.c (.bool true)) (.t 80)),iM 82 81,⟨(some 83),.move (.t 5),some (some 82,false)⟩,⟨(some 84),.call f_z0j [(.t 83),(.c (.str (bs [111,116,104,101,114])))],some (some 82,false)⟩,⟨(some 85),.bin .neq (.t 84) (cI 0),some (some 82,false)⟩,iD 86 (.pick (.t 82) (.c (.bool true)) (.t 85))]) (.cond (.t 86) (.seq (.region [ iD 4 (.move (.c (.bool false)))]) .ret) .skip)) (.seq (.region [ iM 88 5,iD 89 (.call f_z0n [(.t 88),(.c (.str (bs [111,116,104,101,114]))),(.c (.str (bs [110,101,119])))]),iM 87 89,iD 90 (.extract (.t 87) 0),iD 91 (.extract (.t 87) 1),iM 11 90,iM 12 91]) (.seq (.seq (.region [ iM 92 11,iD 93 (.len (.t 92)),iD 94 (.bin .gtr (.t 93) (cI 0))]) (.cond (.t 94) (.region [ iM 95 11,iD 96 (.indexAddr 1 (.t 95) (cI 0)),iD 97 (.load false 1 (.t 96)),iD 98 (.bin .add (.t 97) (.c (.int .u8 1))),iD 99 (.indexAddr 1 (.t 95) (cI 0)),iN (.store 1 (.t 99) (.t 98))]) .skip)) (.seq (.region [ iM 101 5,iD 102 (.call f_z0n [(.t 101),(.c (.str (bs [111,116,104,101,114]))),(.c (.str (bs [110,101,119])))]),iM 100 102,iD 103 (.extract (.t 100) 0),iD 104 (.extract (.t 100) 1),iM 13 103,iM 14 104]) (.seq (.region [ iM 105 12,iM 106 105,⟨(some 107),.move (.t 14),some (some 106,true)⟩,iD 108 (.pick (.t 106) (.t 107) (.c (.bool false))),iM 109 108,⟨(some 110),.move (.t 13),some (some 109,true)⟩,⟨(some 111),.move (.t 1),some (some 109,true)⟩,⟨(some 112),.call f_z1x [(.t 110),(.t 111)],some (some 109,true)⟩,iD 113 (.pick (.t 109) (.t 112) (.c (.bool false))),iM 114 113,⟨(some 115),.call f_z1c [],some (some 114,true)⟩,iD 116 (.pick (.t 114) (.t 115) (.c (.bool false))),iM 4 116]) .ret))))))))))))))⟩
structure F_z1a (P : Program) where
 id : FuncId
 z1c : F_z1c P
 z0i : F_z0i P
 z1j : F_z1j P
 z1b : F_z1b P
 z1d : F_z1d P
 z0m : F_z0m P
 z0p : F_z0p P
 z1y : F_z1y P
 z1m : F_z1m P
 z0k : F_z0k P
 z0j : F_z0j P
 z0n : F_z0n P
 z1x : F_z1x P
 has : Has P id [] (c_z1a z1c.id z0i.id z1j.id z1b.id z1d.id z0m.id z0p.id z1y.id z1m.id z0k.id z0j.id z0n.id z1x.id)
variable [Draws]
attribute [local irreducible] ACalls
def bOth : ByteArray := bs [111, 116, 104, 101, 114]
def bNew : ByteArray := bs [110, 101, 119]
theorem nOth : nameB bOth = true := by decide
theorem qNew : qualB bNew = true := by decide
theorem ba_ne {a b : ByteArray} (h : a.size ≠ b.size ∨ a.data.toList ≠ b.data.toList) : a ≠ b := fun e => by subst e; simp at h
theorem envT_ne (n : Int) : envT n ≠ bOth := by
 unfold envT
 split
 ·exact ba_ne (.inl (by decide))
 ·exact ba_ne (.inl (by decide))
 ·exact ba_ne (.inl (by decide))
theorem nmT_ne (n : Int) : nmT n ≠ bOth := by
 unfold nmT
 split
 ·exact ba_ne (.inl (by decide))
 ·exact ba_ne (.inl (by decide))
 ·exact ba_ne (.inl (by decide))
 ·exact ba_ne (.inl (by decide))
theorem actF_ne (l : List Int) : ∀ (f i : Nat), ∀ x ∈ actF l f i, x.t ≠ bOth ∧ x.n ≠ bOth
 | 0, _, x, h => by cases h
 | f + 1, i, x, h => by
  unfold actF at h
  split at h
  ·rcases List.mem_cons.1 h with rfl | h
   ·exact ⟨envT_ne _, nmT_ne _⟩
   ·exact actF_ne l f _ x h
  ·cases h
def Sto.Quiet (σ : Sto) (e : ByteArray) : Prop := σ.staged e = [] ∧ σ.blobs e = []
theorem Sto.Quiet.play {σ : Sto} {e : ByteArray} (h : σ.Quiet e) {x : Ev} (h1 : x.t ≠ e) (h2 : x.n ≠ e) : (playS x σ).Quiet e := by
 have k1 := Ne.symm h1
 have k2 := Ne.symm h2
 unfold playS
 split
 ·unfold stageR
  split
  ·split
   ·exact ⟨(updS_other _ _ k1).trans h.1, h.2⟩
   ·exact h
  ·exact h
 ·split
  ·unfold removeR
   split
   ·exact ⟨(updS_other _ _ k1).trans h.1, h.2⟩
   ·exact h
  ·split
   ·unfold commitR
    split
    ·exact h
    ·split
     ·exact h
     ·split
      ·exact h
      ·split
       ·exact h
       ·exact ⟨(updS_other _ _ k1).trans h.1, (updS_other _ _ k1).trans h.2⟩
   ·split
    ·unfold swapR
     split
     ·exact h
     ·split
      ·exact h
      ·split
       ·exact h
       ·exact ⟨(updS_other _ _ k2).trans ((updS_other _ _ k1).trans h.1), (updS_other _ _ k2).trans ((updS_other _ _ k1).trans h.2)⟩
    ·exact ⟨(updS_other _ _ k1).trans h.1, h.2⟩
theorem play_len {σ : Sto} {k : Nat} (h : σ.Inv k) (hk : k ≤ 40) (x : Ev) (hl : σ.log.length ≤ 10508 * k) : (playS x σ).log.length ≤ 10508 * (k + 1) := by
 rcases play_log (σq := σ) h hk x rfl rfl with ⟨h1, _⟩ | ⟨pay, _, h1, _, h2, _⟩
 ·rw [h1]; omega
 ·rw [h1, List.length_append, jEnt_length]; omega
theorem bClone_new {P : Program} (F : F_z06 P) (ex : Bool) (l : List Int) (h0 : l ≠ []) (hl : l.length ≤ 90000000) (H : List AObj) :
  ACalls P F.id [.list ex 1 (bC l)] H (fun r H' => r = .sl H.length l.length 0 l.length ∧ H' = H ++ [bO l]) := by
 refine (bClone_raw F ex l hl).lift rfl ?_
 rintro r H1 (⟨rfl, h1, rfl⟩ | ⟨rfl, rfl⟩)
 ·exact absurd h1 h0
 ·exact ⟨[0], .sl H.length l.length 0 l.length, [.arr 1 (bC l)], .keep 0 _ _ _ 0 rfl, by simp, rfl, fun k id h => by
   rcases k with _ | k
   ·cases h; exact ⟨rfl, 1, bC l, rfl, pureEs_bC l⟩
   ·simp at h, rfl, rfl⟩
section
variable {H : List AObj} {s : Nat} {σ : Sto} {ro : Nat → Option Role} {z : SP}
set_option maxRecDepth 20000 in
theorem Read_new {P : Program} (F : F_z0n P) (h : RepP H s σ ro z) (env name : ByteArray) (hsrt : KSrt (σ.blobs env)) {dd : List Int} (hd : kLk name (σ.blobs env) = some dd) (hl : dd.length ≤ 1000000) (h0 : dd ≠ []) :
  ACalls P F.id [.ptr s 1 0 0, .str env, .str name] H (fun r H' => r = .tuple [.sl H.length dd.length 0 dd.length, .bool true] ∧ H' = H ++ [bO dd]) := by
 have he := h.eB env
 refine acalls_of_body F.has ?_
 (conv => whnf); refine recO (h.hs) ?_
 (conv => whnf); refine recO (h.hb) ?_
 (conv => whnf); refine recT (h.pB.ok env) ?_
 rcases h.pB.find h.sB env with ⟨e1, e2⟩ | ⟨y, d, e1, e2, ⟨rfl, rfl⟩ | ⟨id, kv, rfl, hr, hb, hp⟩⟩
 ·rw [e2] at he
  rw [he] at hd
  cases hd
 ·rw [e2] at he
  rw [he] at hd
  cases hd
 ·rw [e2] at he
  have he' : σ.blobs env = d := he
  rw [he'] at hd hsrt
  (conv => whnf); refine recO (e1) ?_
  (conv => whnf); refine recO (hb) ?_
  (conv => whnf); refine recT (hp.ok name) ?_
  rcases hp.find hsrt name with ⟨g1, g2⟩ | ⟨y, dd', g1, g2, rfl⟩
  ·rw [hd] at g2; cases g2
  ·rw [hd] at g2
   cases g2
   (conv => whnf); refine recO (g1) ?_
   (conv => whnf); refine ACalls.mono (bClone_new F.z06 false dd h0 (by omega) _) ?_
   rintro r H' ⟨rfl, rfl⟩
   conv => whnf
   exact ⟨rfl, rfl⟩
end
section
variable (σ : Sto) (data : List Int)
def ap1 : Sto := stageS bOth bNew ⟨false, data⟩ σ
def ap2 : Sto := mvS (ap1 σ data) bOth
def ap3 : Sto := stageS bOth bNew ⟨false, data⟩ (ap2 σ data)
def apC : List (ByteArray × Chg) := [(bNew, ⟨false, data⟩)]
def ap4 : Sto := comS (ap3 σ data) bOth [(bNew, data)] (σ.log ++ jEnt (payI bOth (apC data)))
variable {σ data}
theorem ap_stage (hd : data.length ≤ 200) (τ : Sto) : stageR bOth bNew data τ = (0, stageS bOth bNew ⟨false, data⟩ τ) := by
 unfold stageR
 rw [if_pos (by rw [nOth, qNew]; rfl), if_pos (by omega)]
theorem ap2_q (h : σ.Quiet bOth) : (ap2 σ data).Quiet bOth := ⟨by show updS (ap1 σ data).staged bOth [] bOth = []; exact updS_same _ _ _, h.2⟩
theorem ap_commit1 (h : σ.Quiet bOth) : commitR bOth (ap2 σ data) = (13, ap2 σ data) := by
 unfold commitR
 rw [(ap2_q h).1, if_neg (by rw [nOth]; decide), if_pos (by decide)]
theorem ap3_staged (h : σ.Quiet bOth) : (ap3 σ data).staged bOth = apC data := by
 show updS (ap2 σ data).staged bOth (kIns bNew ⟨false, data⟩ ((ap2 σ data).staged bOth)) bOth = _
 rw [updS_same, (ap2_q h).1]; rfl
theorem ap_commit2 (h : σ.Quiet bOth) (hd : data.length ≤ 200) (hl : σ.log.length ≤ 4000000) : commitR bOth (ap3 σ data) = (0, ap4 σ data) := by
 have hb : (ap3 σ data).blobs bOth = [] := h.2
 have hpl : (payI bOth (apC data)).length ≤ 400 := by
  have : (payI bOth (apC data)).length = 4 + bOth.size + ((apC data).flatMap entI).length := by unfold payI txI; simp [beN_length, bytesI_length]; omega
  rw [this]
  have h2 : ((apC data).flatMap entI).length ≤ 256 := by
   unfold apC; simp [entI, txI, bytesI_length, beN_length]
   have : bNew.size = 3 := by decide
   omega
  have : bOth.size = 5 := by decide
  omega
 unfold commitR
 rw [ap3_staged h, hb, show afterL [] (apC data) = [(bNew, data)] from rfl, if_neg (by rw [nOth]; decide), if_neg (by show ¬ (1 = 0); decide), if_neg (by show ¬ (256 < 1); decide), if_neg]
 ·rfl
 ·have hlog : (ap3 σ data).log = σ.log := rfl
  unfold jFull
  rw [hlog]
  simp; omega
theorem ap4_k : kLk bNew ((ap4 σ data).blobs bOth) = some data := by
 have : (ap4 σ data).blobs bOth = [(bNew, data)] := by show updS (ap3 σ data).blobs bOth [(bNew, data)] bOth = _; exact updS_same _ _ _
 rw [this]
 rfl
theorem ap4_r : readV (ap4 σ data) bOth bNew = (data, true) := by unfold readV; rw [ap4_k]
end
set_option maxRecDepth 20000 in
theorem law_StoreApart {P : Program} (F : F_z1a P)
  (hM1 : MClone P F.z1c.z0i.z0t.z0v.z0s.z0d.id)
  (hK1 : SKeys P F.z1c.z0i.z0t.z0v.z0z.slices_Sorted_string.id F.z1c.z0i.z0t.z0v.z0z.z0f.maps_Keys_mapstringstorechange_string_storechange_1.id)
  (hR1 : JRead P F.z1c.z0i.z09.journal_Read.id) (hR2 : JRead P F.z1c.z0i.journal_Read.id)
  (hM2 : MClone P F.z1c.z0j.z0s.z0d.id)
  (hK2 : SKeys P F.z1c.z0j.z0z.slices_Sorted_string.id F.z1c.z0j.z0z.z0f.maps_Keys_mapstringstorechange_string_storechange_1.id)
  (hL1 : SKeys P F.z1c.z0m.slices_Sorted_string.id F.z1c.z0m.z0e.maps_Keys_mapstringLbyte_string_Lbyte_1.id)
  (hM3 : MClone P F.z0i.z0t.z0v.z0s.z0d.id)
  (hK3 : SKeys P F.z0i.z0t.z0v.z0z.slices_Sorted_string.id F.z0i.z0t.z0v.z0z.z0f.maps_Keys_mapstringstorechange_string_storechange_1.id)
  (hR3 : JRead P F.z0i.z09.journal_Read.id) (hR4 : JRead P F.z0i.journal_Read.id)
  (hM4 : MClone P F.z1d.z0j.z0s.z0d.id)
  (hK4 : SKeys P F.z1d.z0j.z0z.slices_Sorted_string.id F.z1d.z0j.z0z.z0f.maps_Keys_mapstringstorechange_string_storechange_1.id)
  (hL2 : SKeys P F.z0m.slices_Sorted_string.id F.z0m.z0e.maps_Keys_mapstringLbyte_string_Lbyte_1.id)
  (hM5 : MClone P F.z0j.z0s.z0d.id)
  (hK5 : SKeys P F.z0j.z0z.slices_Sorted_string.id F.z0j.z0z.z0f.maps_Keys_mapstringstorechange_string_storechange_1.id)
  (ls : List Int) (data : List Int) (hdb : Byt data) :
  ACalls P F.id [.list false 1 (iC ls), .list false 1 (bC data)] [] (fun r _ => r = .bool true) := by
 have fin : ∀ H, ACalls P F.z1c.id [] H (fun r H' => r = .bool true ∧ H' = H) := known36_spec F.z1c hM1 hK1 hR1 hR2 hM2 hK2 hL1
 refine acalls_of_body F.has ?_
 (conv => whnf); refine recA (fun h1 => ?_) (fun h1 => ?_)
 ·(conv => whnf); refine ACalls.use (fin _) ?_
  conv => whnf
 rw [iC_length] at h1
 simp at h1
 (conv => whnf); refine recA (fun h2 => ?_) (fun h2 => ?_)
 ·(conv => whnf); refine ACalls.use (fin _) ?_
  conv => whnf
 rw [bC_length] at h2
 simp at h2
 have hd200 : data.length ≤ 200 := by omega
 (conv => whnf); refine ACalls.mono (pOpen_nil F.z0i hM3 hK3 hR3 hR4 _) ?_
 rintro r H2 ⟨s, ro, z, rfl, hP, hp⟩
 repeat ((conv => whnf); first | refine recT (by decide) ?_ | refine recF (by decide) ?_)
 (conv => whnf); refine ACalls.mono (rNew_spec F.z1j _) ?_
 rintro r H3 ⟨rfl, rfl⟩
 obtain ⟨own0, hT0⟩ := Two.start hP
 obtain ⟨r, hr⟩ : ∃ r, r = H2.length + 3 := ⟨_, rfl⟩
 rw [← hr] at hT0 ⊢
 (conv => whnf); refine ACalls.use (acts_spec F.z1b ls (by omega) _) ?_
 obtain ⟨q, hq⟩ : ∃ q, q = actL ls := ⟨_, rfl⟩
 obtain ⟨g1, g2⟩ := actF_sm ls 40 0
 have hql : q.length ≤ 40 := by rw [hq]; exact g1
 have hqs : ∀ x ∈ q, x.Sm := by rw [hq]; exact g2
 have hqn : ∀ x ∈ q, x.t ≠ bOth ∧ x.n ≠ bOth := by rw [hq]; exact actF_ne ls 40 0
 conv => whnf
 refine ⟨fun m ρ H4 => ∃ (j : Nat) (σ : Sto) (own : Nat → Prop), j + m = q.length ∧ σ.Inv j ∧ σ.Quiet bOth ∧ σ.log.length ≤ 10508 * j ∧ Two H4 s r σ own ∧
  Sv 117 [(1, .list false 1 (bC data)), (5, .ptr s 1 0 0), (7, .ptr r 1 0 0), (36, .list false 10 (evC q)), (37, .int .i64 q.length), (38, .int .i64 j)] ρ, q.length, [], ?_, ?_⟩
 ·refine ⟨0, _, _, by omega, Sto.Inv.new (by decide) byt_nil, ⟨rfl, rfl⟩, Nat.le_refl _, hT0, Sv.intro rfl ⟨rfl, rfl, rfl, ?_, ?_, rfl, trivial⟩⟩
  ·rw [hq]; rfl
  ·rw [hq]; exact intEq (by rw [evC_length])
 rintro m ρ H4 ⟨j, σ, own, hj, hI, hQ, hlg, hT, d2, rfl⟩
 (conv => whnf); refine recA (fun hlt2 => ?_) (fun hlt2 => ?_)
 ·simp at hlt2
  obtain ⟨x, hx, _, hxm⟩ := get_drop hlt2
  have hxs := hqs x hxm
  (conv => whnf); refine And.intro (by omega) ?_
  (conv => whnf); refine recO (evC_at hx) ?_
  (conv => whnf); refine snocK_to ?_
  (conv => whnf); refine recO (at_snoc _ _) ?_
  (conv => whnf); refine recT (by rw [show ([AVal.int .i64 x.k, .list x.ex 1 (bC x.d), .str x.t, .str x.n, x.r4, x.r5, x.r6, x.r7, x.r8, x.r9]).all AVal.isCell = true from hxs.p.cells]; rfl) ?_
  (conv => whnf); refine setO_at (set_snoc _ _ _) ?_
  (conv => whnf); refine recO (at_snoc _ _) ?_
  (conv => whnf); refine ACalls.mono (play_spec F.z1d hM4 hK4 hT.app x hxs.p (by have := hxs.n; omega) (by have := hxs.d; omega) (hI.fit2 (by omega))) ?_
  rintro v H5 ⟨rfl, own', hT', hpo⟩
  have hI' := hI.play (x := x) hxs.d hxs.b
  have hw1 : IntKind.i64.wrap ((j : Int) + 1) = ((j + 1 : Nat) : Int) := by rw [wrapI _ (by omega) (by omega)]; omega
  repeat ((conv => whnf); first | refine recT (by decide) ?_ | refine recF (by decide) ?_)
  conv => whnf
  refine ⟨m - 1, by omega, Gp.keep rfl ?_ fun ρ1 h => ⟨j + 1, _, _, by omega, hI', hQ.play (hqn x hxm).1 (hqn x hxm).2, play_len hI (by omega) x hlg, hT', h⟩⟩
  exact ⟨rfl, rfl, rfl, rfl, rfl, intEq hw1, trivial⟩
 ·simp at hlt2
  have hj40 : j ≤ 40 := by omega
  have hI40 := hI.up hj40
  obtain ⟨ro, z, ro', z', lv, hP, hR, hd, rfl⟩ := hT
  have nb := fun e => Nat.le_trans (hI.nb e) (show 256 ≤ 1000000 by decide)
  have kb : ∀ e, ∀ p ∈ σ.blobs e, p.1.size ≤ 1000000 := fun e p hp => Nat.le_trans (hI.db e p hp).2.2 (by decide)
  (conv => whnf); refine ACalls.use (Names_spec F.z0m hL2 hP (hI.fit (by omega)) bOth (nb _) (kb _)) ?_
  obtain ⟨_, H6, hc, rfl, ro1, z1, hP1, hp1⟩ := Stage_spec F.z0p hP bOth bNew false data (by decide) (by omega) (hI.ss _)
  rw [ap_stage hd200] at hc hP1
  obtain ⟨hR1, hd1⟩ := two_p hR hd hp1
  (conv => whnf); refine ACalls.mono (hc) ?_
  rintro v Hx ⟨rfl, rfl⟩
  have hI1 : (stageS bOth bNew ⟨false, data⟩ σ).Inv 41 := by
   have := hI40.stageR bOth bNew hd200 hdb
   rwa [ap_stage hd200] at this
  repeat ((conv => whnf); first | refine recT (by decide) ?_ | refine recF (by decide) ?_)
  change RepP Hx s (ap1 σ data) ro1 z1 at hP1
  have hst0 : ∀ e : ByteArray, ∀ H, ACalls P F.z1y.id [.list false 1 (keyC (σ.blobs e)), .list false 1 (keyC (σ.blobs e))] H (fun r H' => r = .bool true ∧ H' = H) := fun e H => by
   rw [keyC_tC]
   exact ACalls.bor rfl (SameTexts_raw F.z1y false false _ (by rw [List.length_map]; exact nb e)) (.cons (.same _ rfl) (.cons (.same _ rfl) .nil))
  (conv => whnf); refine ACalls.use (Names_spec F.z0m hL2 hP1 (hI1.fit (by decide)) bOth (nb _) (kb _)) ?_
  (conv => whnf); refine ACalls.use (hst0 bOth _) ?_
  repeat ((conv => whnf); first | refine recT (by decide) ?_ | refine recF (by decide) ?_)
  (conv => whnf); refine ACalls.use (Names_spec F.z0m hL2 hP1 (hI1.fit (by decide)) bLive (nb _) (kb _)) ?_
  (conv => whnf); refine ACalls.mono (rNames_spec F.z1m hR1 bLive (hI.sb _) (nb _)) ?_
  rintro v H7 ⟨X, id, rfl, rfl, hid, _⟩
  have hst1 : ACalls P F.z1y.id [.list false 1 (keyC (σ.blobs bLive)), .sl id (σ.blobs bLive).length 0 (σ.blobs bLive).length] (Hx ++ X) (fun r H' => r = .bool true ∧ H' = Hx ++ X) := by
   rw [keyC_tC] at hid ⊢
   exact SameTexts_own F.z1y false _ (by rw [List.length_map]; exact nb _) _ id _ (by rw [List.length_map]) hid
  (conv => whnf); refine ACalls.use (hst1) ?_
  repeat ((conv => whnf); first | refine recT (by decide) ?_ | refine recF (by decide) ?_)
  (conv => whnf); refine ACalls.mono (discard_spec F.z0k hP1.app bOth) ?_
  rintro v H8 ⟨rfl, hH8⟩
  have hP2 := (hP1.app (X := X)).del bOth
  rw [show (Hx ++ X).set z1.t (.map (mdel 2 (.str bOth) z1.T)) = H8 from hH8.symm] at hP2
  change RepP H8 s (ap2 σ data) ro1 (z1.del bOth) at hP2
  clear hH8
  have hI2 : (ap2 σ data).Inv 41 := hI1.mv bOth
  obtain ⟨_, H9, hc, rfl, ro3, z3, hP3, hp3⟩ := Commit_spec F.z0j hM5 hK5 hP2 bOth (hI2.fit (by decide))
  rw [ap_commit1 hQ] at hc hP3
  (conv => whnf); refine ACalls.mono (hc) ?_
  rintro v Hy ⟨rfl, rfl⟩
  obtain ⟨_, H10, hc, rfl, ro4, z4, hP4, hp4⟩ := Stage_spec F.z0p hP3 bOth bNew false data (by decide) (by omega) (hI2.ss _)
  rw [ap_stage hd200] at hc hP4
  repeat ((conv => whnf); first | refine recT (by decide) ?_ | refine recF (by decide) ?_)
  (conv => whnf); refine ACalls.mono (hc) ?_
  rintro v Hz ⟨rfl, rfl⟩
  have hI3 : (ap3 σ data).Inv 42 := by
   have := hI2.stageR bOth bNew hd200 hdb
   rwa [ap_stage hd200] at this
  change RepP Hz s (ap3 σ data) ro4 z4 at hP4
  obtain ⟨_, H11, hc, rfl, ro5, z5, hP5, hp5⟩ := Commit_spec F.z0j hM5 hK5 hP4 bOth (hI3.fit (by decide))
  have hI4 := hI3.commitR bOth
  rw [ap_commit2 hQ hd200 (by omega)] at hc hP5 hI4
  repeat ((conv => whnf); first | refine recT (by decide) ?_ | refine recF (by decide) ?_)
  (conv => whnf); refine ACalls.mono (hc) ?_
  rintro v Hu ⟨rfl, rfl⟩
  repeat ((conv => whnf); first | refine recT (by decide) ?_ | refine recF (by decide) ?_)
  have hf4 : (ap4 σ data).Fit := hI4.fit (by decide)
  have hrd : ∀ H ro z, RepP H s (ap4 σ data) ro z → ACalls P F.z0n.id [.ptr s 1 0 0, .str bOth, .str bNew] H (fun r H' => r = .tuple [.list false 1 (bC data), .bool true] ∧ H' = H) := fun H ro z h => by
   have := Read_spec F.z0n h hf4 bOth bNew (fun d hd => by rw [ap4_k] at hd; cases hd; omega)
   rwa [ap4_r] at this
  have hsb := fun H => SameBytes_spec F.z1x false false data data hdb hdb H
  have hbb : (data == data) = true := by simp
  rw [hbb] at hsb
  cases hdd : data with
  | nil =>
   rw [← hdd]
   (conv => whnf); refine ACalls.use (hrd _ _ _ hP5) ?_
   (conv => whnf); refine recF (by rw [hdd]; decide) ?_
   (conv => whnf); refine ACalls.use (hrd _ _ _ hP5) ?_
   (conv => whnf); refine ACalls.use (hsb _) ?_
   (conv => whnf); refine ACalls.use (fin _) ?_
   conv => whnf
  | cons a0 dt =>
   rw [← hdd]
   (conv => whnf); refine ACalls.mono (Read_new F.z0n hP5 bOth bNew (hf4.sb _) ap4_k (by omega) (by rw [hdd]; simp)) ?_
   rintro v Hv ⟨rfl, rfl⟩
   (conv => whnf); refine recO (getA) ?_
   (conv => whnf); refine recT (by rw [bC_length]; exact Nat.beq_refl _) ?_
   (conv => whnf); refine recT (by rw [hdd]; simp) ?_
   (conv => whnf); refine recO (getA) ?_
   (conv => whnf); refine recT (by rw [bC_length]; exact Nat.beq_refl _) ?_
   (conv => whnf); refine And.intro (by rw [hdd]; simp) ?_
   (conv => whnf); refine recO (getA) ?_
   (conv => whnf); refine recT (by rw [bC_length]; exact Nat.beq_refl _) ?_
   (conv => whnf); refine recO (bC_at (show data[0]? = some a0 by rw [hdd]; rfl)) ?_
   (conv => whnf); refine recO (getA) ?_
   (conv => whnf); refine recT (by rw [bC_length]; exact Nat.beq_refl _) ?_
   (conv => whnf); refine And.intro (by rw [hdd]; simp) ?_
   (conv => whnf); refine recO (getA) ?_
   (conv => whnf); refine recT (by rw [bC_length]; exact Nat.beq_refl _) ?_
   (conv => whnf); refine recO (bC_at (show data[0]? = some a0 by rw [hdd]; rfl)) ?_
   (conv => whnf); refine setO_at setA ?_
   (conv => whnf); refine ACalls.use (hrd _ _ _ hP5.app) ?_
   (conv => whnf); refine ACalls.use (hsb _) ?_
   (conv => whnf); refine ACalls.use (fin _) ?_
   conv => whnf
end Go.AW
namespace Go.AW
open Go.Proofs Go.Shelf Go.RowKit Go.Maps Go.Sort
variable [Draws]
variable {P : Program}
theorem one_arg {a : AVal} {vs : Array Value} (hl : [a].length = vs.size) : ∃ v, vs = #[v] := by
 obtain ⟨m⟩ := vs
 match m, hl with
 | [v], _ => exact ⟨v, rfl⟩
theorem mclone_of {ρ : Go.Shelf.Ren} (L : SlLaysW.n5 P ρ) (e5 : ∀ args w, (callFunc (ρ.f 5) args).run P w = .ok (.enter (ρ.f 5) args) w) : MClone P (ρ.f 5) := by
 intro H id kvs d hid _ C τ w vs hw hl hr
 obtain ⟨v, rfl⟩ := one_arg hl
 obtain ⟨l, ht, rfl⟩ := mp_inv (hr 0 _ v rfl rfl)
 obtain ⟨kvs0, es, clock, hp, hb, hsz, hel, hnd, hbn, hlt⟩ := hw.objs id _ l hid ht
 unfold CallsX
 rw [e5]
 refine Calls.mono (AnyW.maps_Clone L l.b es clock w hb) ?_
 rintro e w' ⟨rfl, rfl⟩
 obtain ⟨st, s⟩ := (St.start hw).alloc_obj (.map es clock) (.map kvs) 0 trivial fun C' τ' H' w' hs hh =>
  ⟨kvs0, es, clock, hp, hh, hsz, fun i e kv he hkv => ⟨(hel i e kv he hkv).1, (hel i e kv he hkv).2.mono hs⟩, hnd, hbn, hlt⟩
 exact ⟨_, .mp H.length, _, _, _, rfl, ⟨rfl, rfl⟩, .mp H.length (.map kvs) _ (by simp) rfl (updF_same _ _ _), st, s⟩
def Cnw (C : Nat → Nat) (w W' : World) (x : Nat) : Nat := if x < w.heap.size then C x else match W'.heap[x]? with
 | some (.cells cs _ _) => cs.size
 | _ => 0
theorem Cnw_lt {C : Nat → Nat} {w W' : World} (hw : w.heap.size ≤ W'.heap.size) (b : Nat) (hC : ∀ b, 0 < C b → b < w.heap.size) (h : 0 < Cnw C w W' b) : b < W'.heap.size := by
 unfold Cnw at h
 by_cases hb : b < w.heap.size
 ·omega
 ·rw [if_neg hb] at h
  by_cases hb2 : b < W'.heap.size
  ·exact hb2
  ·rw [Array.getElem?_eq_none (by omega)] at h; simp at h
theorem st_blw (hup : ¬ Draws.up) {C : Nat → Nat} {τ : Nat → Option Go.AW.Loc} {H : List AObj} {w W' : World} (hw : WF C τ H w) (hB : Below w.heap.size w W') : St w (PrCall τ H w) (Cnw C w W') τ H W' ∧ Step C τ H w (Cnw C w W') τ H W' := by
 have s : Step C τ H w (Cnw C w W') τ H W' := by
  refine ⟨fun b => ?_, fun b i hi => ?_, fun id o h => ⟨o, h, o.after_refl _⟩, hB.size, fun b hb => by rw [Cnw, if_pos hb]⟩
  ·by_cases hb : b < w.heap.size
   ·rw [Cnw, if_pos hb]; exact Nat.le_refl _
   ·have : C b = 0 := by
     rcases Nat.eq_zero_or_pos (C b) with h | h
     ·exact h
     ·exact absurd (hw.lt b h) hb
    omega
  ·exact hB.cell (p := ⟨b, i, none⟩) (hw.lt b (by omega))
 refine ⟨⟨⟨hw.ok, hw.virt, fun id o l h1 h2 => (hw.objs id o l h1 h2).mono s (hB.block _ (hw.locLt (List.getElem?_eq_some_iff.1 h1).1 h2)), fun id l h1 h2 => ?_, hw.inj, fun b hb => Cnw_lt hB.size b hw.lt hb⟩, ⟨hB.os, hB.tape, hB.output, hB.size, fun b hb => hB.block b hb.1, fun u => absurd u hup⟩, fun b ho hp => hp.2 ho, fun b hb => hb.1⟩, s⟩
 rw [Cnw, if_pos (hw.locLt h1 h2)]
 exact hw.comm id l h1 h2
theorem box_cell {C : Nat → Nat} {τ : Nat → Option Go.AW.Loc} {H : List AObj} {w : World} (hw : WF C τ H w) {box : Nat} {m : AVal} {v : Value} (hb : H[box]? = some (.arr 1 [[m]])) (hr : Rel C w τ H (.ptr box 1 0 0) v) :
  ∃ B u, v = .pointer (some ⟨B, 0, none⟩) ∧ w.cell? ⟨B, 0, none⟩ = some u ∧ B < w.heap.size ∧ Rel C w τ H m u := by
 cases hr with
 | rd h => cases h
 | ptr _ _ _ _ a esz es ho hep h =>
  rw [hb] at ho
  cases ho
  obtain ⟨l, ht, rfl⟩ := h rfl
  obtain ⟨_, cells, elem, fz, h1, _, _, h4⟩ := hw.objs box _ l hb ht
  obtain ⟨u, hu, hru⟩ := h4 0 0 [m] m rfl rfl
  refine ⟨l.b, u, rfl, ?_, hw.locLt (List.getElem?_eq_some_iff.1 hb).1 ht, hru⟩
  simp only [World.cell?, h1]
  exact hu
theorem row_list {C : Nat → Nat} {w W' : World} {e : TypeId} {v : Value} {ks : List ByteArray} (h : W'.ownsRow w.heap.size e 1 v ks.length (ks.map fun k => Value.string k)) :
  Rd (Cnw C w W') W' (.list false 1 (ks.map fun k => [AVal.str k])) v := by
 rcases h.2 with ⟨rfl, hn⟩ | ⟨g, cp, cur, rfl, hg, hgb, hncap, _, hcs, htake⟩
 ·have : ks = [] := List.eq_nil_of_length_eq_zero hn
  subst this
  exact .list0 _ _ _ _ (by simp)
 ·have hC : Cnw C w W' g = cur.size := by unfold Cnw; rw [if_neg (by omega), hgb]
  have hcell : ∀ i, i < ks.length → W'.cell? ⟨g, 0 + i * 1 + 0, none⟩ = some (.string (ks.getD i ⟨#[]⟩)) := fun i hi => by
   simp only [World.cell?, hgb]
   have h1 := congrArg (fun l => l[i]?) htake
   simp only [List.getElem?_take, Nat.mul_one, if_pos hi, List.getElem?_map, List.getElem?_eq_getElem hi, Option.map_some] at h1
   rw [show 0 + i * 1 + 0 = i by omega, ← Array.getElem?_toList, h1, List.getD_eq_getElem?_getD, List.getElem?_eq_getElem hi]
   rfl
  have := Rd.list (C := Cnw C w W') (w := W') false 1 (ks.map fun k => [AVal.str k]) g 0 cp (fun i _ => .string (ks.getD i ⟨#[]⟩)) (by simp) (by rw [List.length_map]; exact hncap) (fun e he => by
   obtain ⟨x, _, rfl⟩ := List.mem_map.1 he
   rfl) (by rw [List.length_map, hC, hcs]; omega) (fun i j hi hj => by
   obtain rfl : j = 0 := by omega
   rw [List.length_map] at hi
   exact hcell i hi) (fun i j e d he hd => by
   rw [List.getElem?_map] at he
   obtain ⟨x, _, rfl⟩ := Option.map_eq_some_iff.1 he
   rcases j with _ | j
   ·cases hd; rfl
   ·simp at hd) (fun i j e d he hd => by
   rw [List.getElem?_map] at he
   obtain ⟨x, hx, rfl⟩ := Option.map_eq_some_iff.1 he
   rcases j with _ | j
   ·cases hd
    rw [List.getD_eq_getElem?_getD, hx]
    exact .str _
   ·simp at hd)
  rwa [List.length_map] at this
theorem leB_sorted {ks : List ByteArray} (h : ks.Pairwise fun a b => ltB a b = true) : (ks.map fun k => k.data.toList).mergeSort (fun x y => decide (x ≤ y)) = ks.map fun k => k.data.toList := by
 refine List.mergeSort_of_pairwise (List.pairwise_map.2 (h.imp fun {a b} hab => ?_))
 unfold ltB at hab
 rw [bytesLess_eq] at hab
 exact decide_eq_true (List.le_of_lt (of_decide_eq_true hab))
def kbs : Value → List UInt8
 | .string s => s.data.toList
 | _ => []
def anyR (_ : Value) : Option (DataW Unit × List MemPlace) := some (.nil, [])
section
variable {ρk ρs ρm : Go.Shelf.Ren}
theorem skeys_of (hup : ¬ Draws.up) (Lk : SlLaysZ.n10 P ρk) (Ls : SlLaysZ.n6 P ρs) (Lm : SlLaysM.n6 P ρm) (h9 : ρs.f 9 = ρm.f 6)
  (e9 : ∀ args w, (callFunc (ρs.f 9) args).run P w = .ok (.enter (ρs.f 9) args) w) (e10 : ∀ args w, (callFunc (ρk.f 10) args).run P w = .ok (.enter (ρk.f 10) args) w)
  (e6 : ∀ args w, (callFunc (ρs.f 6) args).run P w = .ok (.enter (ρs.f 6) args) w) : SKeys P (ρs.f 6) (ρk.f 10) := by
 have hs : ∀ m, AnyZ.SortsIn P ρs Fence.wide m := fun m => by
  unfold AnyZ.SortsIn
  rw [h9]
  exact ⟨fun blk off cap ss W hH hblk hsz => callsIn_wide.2 (AnyM.slices_Sort_string Lm blk off cap ss W hH hblk hsz), fun p cap W => callsIn_wide.2 (AnyM.slices_Sort_string_none Lm p cap W)⟩
 have hfn : ∀ {C : Nat → Nat} {w : World} {τ : Nat → Option Go.AW.Loc} {H : List AObj} {p : AVal} {v : Value}, Rel C w τ H (.fn (ρk.f 10) [p]) v → ∃ u, v = .func (.func (ρk.f 10)) #[] #[u] ∧ Rel C w τ H p u := fun {C w τ H p v} h => by
  cases h with
  | rd h => cases h
  | fn _ _ vs hl h =>
   obtain ⟨u, rfl⟩ := one_arg hl
   exact ⟨u, rfl, h 0 _ _ rfl rfl⟩
 constructor
 ·intro H box id kvs ks hbox hid hks hsrt hn hsz C τ w vs hw hl hr
  obtain ⟨v, rfl⟩ := one_arg hl
  obtain ⟨u, rfl, hu⟩ := hfn (hr 0 _ v rfl rfl)
  obtain ⟨B, mv, rfl, hc, hB, hmv⟩ := box_cell hw hbox hu
  obtain ⟨l, ht, rfl⟩ := mp_inv hmv
  obtain ⟨kvs0, es, clock, hp, hb, hsize, hel, hnd, hbn, hlt⟩ := hw.objs id _ l hid ht
  have hkeys : es.toList.map (·.key) = kvs0.map fun kv => kv.1.lit := by
   apply List.ext_getElem?
   intro i
   rw [List.getElem?_map, List.getElem?_map]
   by_cases hi : i < es.size
   ·have h1 : es[i]? = some es[i] := Array.getElem?_eq_getElem hi
    have h2 : kvs0[i]? = some (kvs0[i]'(by omega)) := List.getElem?_eq_getElem (by omega)
    rw [Array.getElem?_toList, h1, h2]
    simp only [Option.map_some]
    rw [(hel i _ _ h1 h2).1]
   ·rw [Array.getElem?_toList, Array.getElem?_eq_none (by omega), List.getElem?_eq_none (by omega)]; rfl
  have hpk : (es.toList.map (·.key)).Perm (ks.map Value.string) := by
   rw [hkeys]
   have h1 := (hp.map (fun kv : AVal × AVal => kv.1)).trans hks
   have h2 := h1.map AVal.lit
   rw [List.map_map, List.map_map] at h2
   exact h2
  have hreads : ∀ x ∈ es.toList, ∃ k ∈ ks, x.key = .string k := fun x hx => by
   have := hpk.mem_iff.1 (List.mem_map.2 ⟨x, hx, rfl⟩)
   obtain ⟨k, hk, e⟩ := List.mem_map.1 this
   exact ⟨k, hk, e.symm⟩
  have hrd : ∀ x ∈ es.toList, Go.WideElems.rd P (ρk.t 26) anyR x = some (.string (kbs x.key), .nil) := fun x hx => by
   obtain ⟨k, hk, e⟩ := hreads x hx
   unfold Go.WideElems.rd anyR
   rw [e, Go.WideMaps.keyOf_string_mk Lk.t26 (Nat.le_trans (hsz k hk) (by decide))]
   rfl
  have hmap : es.toList.map (Go.WideElems.rg P (ρk.t 26) anyR) = es.toList.map fun x => ((.string (kbs x.key) : Lit), (.nil : DataW Unit)) := List.map_congr_left fun x hx => by
   unfold Go.WideElems.rg
   rw [hrd x hx]; rfl
  have hsz2 : es.size = ks.length := by
   have := hpk.length_eq
   rw [List.length_map, List.length_map, Array.length_toList] at this
   exact this
  have hkn : (es.toList.map (·.key)).Nodup := by rw [hkeys]; exact hnd
  obtain ⟨D0, hD0⟩ : ∃ D0 : DataW Unit, D0 = .map ((es.toList.map (Go.WideElems.rg P (ρk.t 26) anyR)).foldr DataW.insert []) := ⟨_, rfl⟩
  have hown : w.ownsMap P (ρk.t 26) anyR l.b es.size D0 := ⟨es, clock, hb, ⟨by rw [hsz2]; exact Nat.le_trans hn (by decide), ⟨hlt, hbn, hkn⟩, fun x hx => ⟨_, hrd x hx⟩⟩, Nat.le_refl _, hD0⟩
  have hsp := Go.WideShapes.sorted_perm (es.toList.map (Go.WideElems.rg (H := Unit) P (ρk.t 26) anyR))
  have hperm : (strKeys D0).Perm (ks.map fun k => k.data.toList) := by
   rw [hD0]
   refine (hsp.map _).trans ?_
   rw [hmap, List.map_map]
   have h2 := hpk.map kbs
   rw [List.map_map, List.map_map] at h2
   exact h2
  have hms : Maps.size D0 = ks.length := by
   rw [hD0, Maps.size_eq, hsp.length_eq, List.length_map, Array.length_toList, hsz2]
  have hseq := AnyZ.keys_gives Lk Fence.wide 2 trivial rfl (by omega) B l.b es.size D0 w hB hc hown
  have cS := AnyZ.sorted_in Ls Fence.wide 5 trivial trivial trivial trivial rfl (by omega) (hs _) e9 (ρk.f 10) #[.pointer (some ⟨B, 0, none⟩)] trivial e10 _ (Maps.size D0) (by rw [hms]; exact Nat.le_trans hn (by decide)) (by rw [hms]; omega) w hseq
  unfold CallsX
  rw [e6]
  refine Calls.mono (callsIn_wide.1 cS) ?_
  rintro e w' ⟨v, ss, rfl, hS, hrow, hnil, hbel⟩
  have hss : ss.mergeSort (fun x y => decide (x ≤ y)) = ks.map fun k => k.data.toList := (mergeSort_of_perm (hS.trans hperm)).trans (leB_sorted hsrt)
  have hsl : ss.length = ks.length := by rw [(hS.trans hperm).length_eq, List.length_map]
  rw [hss, hsl, List.map_map] at hrow
  have henc : (ks.map ((encStr) ∘ fun k => k.data.toList)) = ks.map Value.string := List.map_congr_left fun k _ => rfl
  obtain ⟨h1, h2⟩ := st_blw hup hw hbel
  exact ⟨_, _, _, _, _, rfl, ⟨rfl, rfl⟩, .rd (row_list (by rw [← henc]; exact hrow)), h1, h2⟩
 ·intro H box hbox C τ w vs hw hl hr
  obtain ⟨v, rfl⟩ := one_arg hl
  obtain ⟨u, rfl, hu⟩ := hfn (hr 0 _ v rfl rfl)
  obtain ⟨B, mv, rfl, hc, hB, hmv⟩ := box_cell hw hbox hu
  obtain rfl := nilm_inv hmv
  have hseq : SeqGives Fence.wide 2 P (ρk.f 10) #[.pointer (some ⟨B, 0, none⟩)] encStr (fun ss : List (List UInt8) => ss = []) 0 w := AnyZ.keys_gives_nil Lk Fence.wide _ trivial rfl B w hB hc
  have cS := AnyZ.sorted_in Ls Fence.wide 5 trivial trivial trivial trivial rfl (by omega) (hs _) e9 (ρk.f 10) #[.pointer (some ⟨B, 0, none⟩)] trivial e10 _ 0 (Nat.zero_le _) (by omega) w hseq
  unfold CallsX
  rw [e6]
  refine Calls.mono (callsIn_wide.1 cS) ?_
  rintro e w' ⟨v, ss, rfl, rfl, hrow, hnil, hbel⟩
  obtain ⟨h1, h2⟩ := st_blw hup hw hbel
  exact ⟨_, _, _, _, _, rfl, ⟨rfl, rfl⟩, .rd (row_list (ks := []) (by simpa using hrow)), h1, h2⟩
end
end Go.AW
