/-
  An abstract machine over the model, the code of functions on it, and their contracts: what the claim needs.
  No condition: definitions, plain laws, contracts over any program that has this code.
-/
import Derived.Test.YtbjodpkinpnebaaGreatZ7
set_option linter.all false
namespace Go.AW
variable [Draws]
attribute [local irreducible] ACalls
theorem entP_log {zs : List Int} (hb : Byt zs) : ∀ (n k : Nat),zs.length - k ≤ n → ((entP zs k).map (payP zs)).flatMap jEnt = (zs.drop k).take (endA k (entP zs k) - k) ∧ k ≤ endA k (entP zs k) ∧ ∀ x ∈ entP zs k,x.2 ≤ 65536:=by
 intro n
 induction n with
 | zero =>
  intro k hk
  rw [entP_nil (okE_short (by omega))]
  refine ⟨?_,Nat.le_refl _,fun x hx=>by cases hx⟩
  show [] = (zs.drop k).take (k - k)
  rw [Nat.sub_self,List.take_zero]
 | succ n ih =>
  intro k hk
  by_cases h : okE zs k = true
  ·have h0:=h
   simp only [okE,Bool.and_eq_true,decide_eq_true_eq] at h0
   obtain ⟨⟨h8,h1,h2⟩,_⟩:=h0
   have hn0:=hdr_nonneg hb k
   obtain ⟨N,hN⟩ : ∃ N : Nat,hdr zs k = N:=⟨(hdr zs k).toNat,by omega⟩
   rw [entP_cons h,hN,Int.toNat_natCast]
   obtain ⟨g1,g2,g3⟩:=ih (k + 8 + N) (by omega)
   have he:=entEq hb hN h8 (by omega) (by omega)
   rw [h] at he
   have he:=eq_of_beq he
   have e0 : endA k ((k + 8,N) :: entP zs (k + 8 + N)) = endA (k + 8 + N) (entP zs (k + 8 + N)):=rfl
   rw [e0]
   refine ⟨?_,by omega,fun x hx=>?_⟩
   ·rw [List.map_cons,List.flatMap_cons,g1,he,show endA (k + 8 + N) (entP zs (k + 8 + N)) - k = (8 + N) + (endA (k + 8 + N) (entP zs (k + 8 + N)) - (k + 8 + N)) by omega,List.take_add (i:=8 + N),List.drop_drop,show k + (8 + N) = k + 8 + N by omega]
   ·rcases List.mem_cons.1 hx with rfl | hx
    ·show N ≤ 65536;omega
    ·exact g3 x hx
  ·rw [entP_nil (by simpa using h)]
   refine ⟨?_,Nat.le_refl _,fun x hx=>by cases hx⟩
   show [] = (zs.drop k).take (k - k)
   rw [Nat.sub_self,List.take_zero]
theorem pays_jLog {zs : List Int} (hb : Byt zs) : jLog (pays zs) = zs.take (stop zs):=by
 obtain ⟨h1,_,_⟩:=entP_log hb zs.length 0 (by omega)
 rw [List.drop_zero,Nat.sub_zero] at h1
 exact h1
theorem pays_le {zs : List Int} (hb : Byt zs) : ∀ p ∈ pays zs,p.length ≤ 65536:=fun p hp=>by
 obtain ⟨_,_,h3⟩:=entP_log hb zs.length 0 (by omega)
 unfold pays at hp
 obtain ⟨x,hx,rfl⟩:=List.mem_map.1 hp
 have:=h3 x hx
 unfold payP
 rw [List.length_take];omega
theorem jLog_pays_len {zs : List Int} (hb : Byt zs) : (jLog (pays zs)).length ≤ zs.length:=by
 rw [pays_jLog hb,List.length_take];omega
def OpP (H : List AObj) (zs : List Int) (r : AVal) (H' : List AObj) : Prop:=match openL (Sto.new (jLog (pays zs))) (pays zs) with
 | none=>r = .tuple [.nilp,.int .i64 11] ∧ H' = H
 | some σ=>σ.Rp (pays zs).length ∧ ∃ s ro z,r = .tuple [.ptr s 1 0 0,.int .i64 0] ∧ RepP H' s σ ro z ∧ Post H H' (fun _=>none) ro
theorem pOpen_cl {P : Program} (F : F_z0i P) (hCl : MClone P F.z0u.z0w.z0t.z0d.id)
  (hS : SKeys P F.z0u.z0w.z10.slices_Sorted_string.id F.z0u.z0w.z10.z0f.maps_Keys_mapstringstorechange_string_storechange_1.id)
  (hR1 : JRead P F.z09.journal_Read.id) (hR2 : JRead P F.journal_Read.id) (ex : Bool) {zs : List Int} (hz : zs.length ≤ 1000000) (hb : Byt zs) (H : List AObj) :
  ACalls P F.id [.list ex 1 (bC zs)] H (OpP H zs):=by
 refine open_spec F hCl hS (.list ex 1 (bC zs)) (jLog (pays zs)) false (pays zs) (stop zs) (fun X=>?_) (fun X=>jread_pays hR2 ex zs hb (by omega) _) (Nat.le_trans (pays_len zs) hz) fun p hp=>⟨byt_stop hb p hp,Nat.le_trans (pays_le hb p hp) (by decide)⟩
 have:=jRepair_spec F.z09 hR1 ex zs (by omega) hb (H ++ X)
 rwa [← pays_jLog hb] at this
theorem pOpen_nil {P : Program} (F : F_z0i P) (hCl : MClone P F.z0u.z0w.z0t.z0d.id)
  (hS : SKeys P F.z0u.z0w.z10.slices_Sorted_string.id F.z0u.z0w.z10.z0f.maps_Keys_mapstringstorechange_string_storechange_1.id)
  (hR1 : JRead P F.z09.journal_Read.id) (hR2 : JRead P F.journal_Read.id) (H : List AObj) :
  ACalls P F.id [.nil] H (fun r H'=>∃ s ro z,r = .tuple [.ptr s 1 0 0,.int .i64 0] ∧ RepP H' s (Sto.new []) ro z ∧ Post H H' (fun _=>none) ro):=by
 have h:=(pOpen_cl F hCl hS hR1 hR2 false (zs:=[]) (by decide) byt_nil H).weakD (args:=[.nil]) (.cons (.nil false 1) .nil)
 refine h.mono fun r H' hq=>?_
 unfold OpP at hq
 rw [pays_nil.1] at hq
 exact hq.2
theorem rOpen_cl {P : Program} (F : F_z1n P) (ex : Bool) {zs : List Int} (hz : zs.length ≤ 1000000) (hb : Byt zs) (H : List AObj) :
  ACalls P F.id [.list ex 1 (bC zs)] H (ROpenQ H (ropenL (Sto.new []) (pays zs))) :=
 rOpen_raw F (.list ex 1 (bC zs)) false (pays zs) (stop zs) (fun X=>ref35_pays F.z1l ex zs hb (by omega) _) (Nat.le_trans (pays_len zs) hz) (fun p hp=>⟨byt_stop hb p hp,Nat.le_trans (pays_le hb p hp) (by decide)⟩) (Nat.le_trans (jLog_pays_len hb) (by omega))
theorem open_both {zs : List Int} (hz : zs.length ≤ 1000000) (hb : Byt zs) :
  (openL (Sto.new (jLog (pays zs))) (pays zs) = none ∧ ropenL (Sto.new []) (pays zs) = none) ∨
  ∃ σ1 σ2,openL (Sto.new (jLog (pays zs))) (pays zs) = some σ1 ∧ ropenL (Sto.new []) (pays zs) = some σ2 ∧ Agr σ1 σ2 ∧ σ1.log = jLog (pays zs) ∧ σ2.RR (pays zs).length (jLog (pays zs)):=by
 have h:=open_same (pays zs) (σP:=Sto.new (jLog (pays zs))) (σR:=Sto.new []) (k:=0) (lg:=[]) ⟨rfl,rfl,fun _=>rfl⟩ Sto.RR.new (fun p hp=>⟨byt_stop hb p hp,pays_le hb p hp⟩) (by have:=jLog_pays_len hb;simp only [List.length_nil];omega)
 rcases h with h | ⟨σ1,σ2,h1,h2,h3,h4,h5⟩
 ·exact .inl h
 ·rw [Nat.zero_add,List.nil_append] at h5
  exact .inr ⟨σ1,σ2,h1,h2,h3,h4,h5⟩
theorem post_app {H H' : List AObj} {ro : Nat → Option Role} (h : Post H H' (fun _=>none) ro) : ∃ G,H' = H ++ G:=by
 refine ⟨H'.drop H.length,?_⟩
 conv=>lhs;rw [← List.take_append_drop H.length H']
 congr 1
 apply List.ext_getElem?
 intro i
 by_cases hi : i < H.length
 ·rw [List.getElem?_take_of_lt hi];exact (h.2 i hi rfl).2
 ·rw [List.getElem?_eq_none (by rw [List.length_take];omega),List.getElem?_eq_none (by omega)]
section
variable {H : List AObj} {s : Nat} {σ : Sto} {ro : Nat → Option Role} {z : SP}
theorem bClone_at {P : Program} (F : F_z06 P) (l : List Int) (hl : l.length ≤ 90000000) (H : List AObj) (id n : Nat) (hn : n = l.length) (ho : H[id]? = some (bO l)) :
  ACalls P F.id [.sl id n 0 n] H (fun r H'=>r = .list false 1 (bC l) ∧ H' = H):=by
 subst hn
 have h:=bClone_pp F l l.length 0 (Nat.le_refl _) l.length rfl hl
 have e0 : bC l ++ bC (List.replicate 0 0) = bC l:=by simp [bC]
 rw [e0,List.take_length] at h
 have:=h.fr (args:=[.sl id l.length 0 l.length]) ho (by simp [AObj.clean,pureEs_bC]) (by simp [AObj.clean,pureEs_bC]) (.sl trivial) (.closed _ rfl)
 refine this.mono fun r H' hq=>⟨hq.1,?_⟩
 rw [hq.2]
 exact set_id ho
set_option maxRecDepth 20000 in
theorem Stage_own {P : Program} (F : F_z0p P) (h : RepP H s σ ro z) (env name : ByteArray) (data : List Int) (h1 : nameB env = true) (h2 : qualB name = true) (hn : name.size ≤ 1000000) (h3 : data.length ≤ 65536) (hss : KSrt (σ.staged env))
  {id : Nat} (ho : H[id]? = some (bO data)) :
  Acts P F.id [.ptr s 1 0 0,.str env,.agg [.str name,.sl id data.length 0 data.length]] H s ro (.int .i64 0) (stageS env name ⟨false,data⟩ σ):=by
 have h':=h.app (X:=[.arr 2 [[.str name,.sl id data.length 0 data.length]]])
 have hp:=Post.app H [.arr 2 [[.str name,.sl id data.length 0 data.length]]] ro
 obtain ⟨_,H1,hc,rfl,ro',z',hr,hp2⟩:=stage_spec F.z0y h' env name ⟨false,data⟩ hss
 refine ⟨.int .i64 0,H1,?_,rfl,_,_,hr,hp.trans hp2⟩
 refine acalls_of_body F.has ?_
 (conv=>whnf);refine snocK_to ?_
 (conv=>whnf);refine ACalls.use (schema_IsName_spec F.z0g env _) ?_
 (conv=>whnf);refine recF (by rw [h1];rfl) ?_
 (conv=>whnf);refine recO (at_snoc H _) ?_
 (conv=>whnf);refine ACalls.use (schema_IsQualified_spec F.z0h name hn _) ?_
 (conv=>whnf);refine recF (by rw [h2];rfl) ?_
 (conv=>whnf);refine recO (at_snoc H _) ?_
 (conv=>whnf);refine recO (at_old ho) ?_
 (conv=>whnf);refine recT (by rw [bC_length];exact Nat.beq_refl _) ?_
 (conv=>whnf);refine recF (by simp;omega) ?_
 (conv=>whnf);refine recO (at_snoc H _) ?_
 (conv=>whnf);refine recO (at_snoc H _) ?_
 (conv=>whnf);refine ⟨_,bClone_at F.z06 data (by omega) _ id _ rfl (at_old ho),?_⟩
 (conv=>whnf);refine ⟨_,_,hc,?_⟩
 conv=>whnf
 exact ⟨rfl,rfl⟩
end
structure Sto.Inv (σ : Sto) (k : Nat) : Prop where
 sb : ∀ e,KSrt (σ.blobs e)
 ss : ∀ e,KSrt (σ.staged e)
 vs : ∀ e,0 ≤ σ.vers e ∧ σ.vers e ≤ k
 nb : ∀ e,(σ.blobs e).length ≤ 256
 db : ∀ e,∀ p ∈ σ.blobs e,p.2.length ≤ 65536 ∧ Byt p.2 ∧ p.1.size ≤ 49
 ds : ∀ e,∀ p ∈ σ.staged e,OkE p ∧ Byt p.2.data
 sz : ∀ e,((σ.staged e).flatMap entI).length ≤ 256 * k
 lg : σ.log.length ≤ 4194304
 lb : Byt σ.log
theorem Sto.Inv.new {l : List Int} (hl : l.length ≤ 4194304) (hb : Byt l) : (Sto.new l).Inv 0 :=
 ⟨fun _=>KSrt.nil,fun _=>KSrt.nil,fun _=>⟨Int.le_refl _,Int.le_refl _⟩,fun _=>Nat.zero_le _,(fun _ p hp=>by cases hp),(fun _ p hp=>by cases hp),fun _=>Nat.zero_le _,hl,hb⟩
theorem Sto.Inv.up {σ : Sto} {k j : Nat} (h : σ.Inv k) (hkj : k ≤ j) : σ.Inv j :=
 ⟨h.sb,h.ss,fun e=>⟨(h.vs e).1,by have:=(h.vs e).2;omega⟩,h.nb,h.db,h.ds,fun e=>Nat.le_trans (h.sz e) (Nat.mul_le_mul_left _ hkj),h.lg,h.lb⟩
theorem Sto.Inv.fit {σ : Sto} {k : Nat} (h : σ.Inv k) (hk : k ≤ 300) : σ.Fit:=by
 refine ⟨h.sb,h.ss,fun e=>by have:=h.vs e;omega,fun e he=>?_,by have:=h.lg;omega⟩
 have h1:=nameB_len he
 have h2:=h.sz e
 have h3 : (payI e (σ.staged e)).length = 4 + e.size + ((σ.staged e).flatMap entI).length:=by
  unfold payI txI;simp [beN_length,bytesI_length];omega
 rw [h3]
 omega
theorem Sto.Inv.len {σ : Sto} {k : Nat} (h : σ.Inv k) (hk : k ≤ 300) (e : ByteArray) : (σ.staged e).length ≤ 1000000:=by
 have h1:=flat_len (σ.staged e)
 have h2:=h.sz e
 omega
theorem Sto.Inv.fit2 {σ : Sto} {k : Nat} (h : σ.Inv k) (hk : k ≤ 300) : σ.Fit2:=⟨h.fit hk,fun e p hp=>(h.ds e p hp).2,h.len hk⟩
theorem afterL_mem : ∀ (c : List (ByteArray × Chg)) {d : List (ByteArray × List Int)} {p : ByteArray × List Int},p ∈ afterL d c → p ∈ d ∨ ∃ q ∈ c,p.2 = q.2.data ∧ p.1 = q.1
 | [],d,p,h=>.inl h
 | q :: c,d,p,h=>by
  have h : p ∈ afterL (applyC d q) c:=h
  rcases afterL_mem c h with h | ⟨r,hr,e⟩
  ·unfold applyC at h
   cases hq : q.2.rm with
   | true =>
    rw [hq] at h
    exact .inl (List.mem_filter.1 h).1
   | false =>
    rw [hq] at h
    rcases kIns_mem h with rfl | h
    ·exact .inr ⟨q,List.mem_cons_self ..,rfl,rfl⟩
    ·exact .inl h
  ·exact .inr ⟨r,List.mem_cons_of_mem _ hr,e⟩
theorem afterL_db {d : List (ByteArray × List Int)} {c : List (ByteArray × Chg)} (hd : ∀ p ∈ d,p.2.length ≤ 65536 ∧ Byt p.2 ∧ p.1.size ≤ 49) (hc : ∀ p ∈ c,OkE p ∧ Byt p.2.data) : ∀ p ∈ afterL d c,p.2.length ≤ 65536 ∧ Byt p.2 ∧ p.1.size ≤ 49:=fun p hp=>by
 rcases afterL_mem c hp with h | ⟨q,hq,e,e2⟩
 ·exact hd p h
 ·rw [e,e2];exact ⟨(hc q hq).1.d,(hc q hq).2,qualB_size (hc q hq).1.q⟩
theorem jFull_le {zs p : List Int} (h : jFull zs p = false) : (zs ++ jEnt p).length ≤ 4194304:=by
 unfold jFull at h
 simp at h
 rw [List.length_append,jEnt_length]
 omega
theorem Sto.Inv.stage {σ : Sto} {k : Nat} (h : σ.Inv k) (env : ByteArray) {name : ByteArray} {c : Chg} (hc : OkE (name,c)) (hb : Byt c.data) (hs : (entI (name,c)).length ≤ 256) : (stageS env name c σ).Inv (k + 1):=by
 refine ⟨h.sb,updS_all (Q:=KSrt) h.ss ((h.ss env).ins _ _),(h.up (Nat.le_succ k)).vs,h.nb,h.db,?_,?_,h.lg,h.lb⟩
 ·refine updS_all (Q:=fun l : List (ByteArray × Chg)=>∀ p ∈ l,OkE p ∧ Byt p.2.data) h.ds fun p hp=>?_
  rcases kIns_mem hp with rfl | hp
  ·exact ⟨hc,hb⟩
  ·exact h.ds env p hp
 ·refine updS_all (Q:=fun l : List (ByteArray × Chg)=>(l.flatMap entI).length ≤ 256 * (k + 1)) (h.up (Nat.le_succ k)).sz ?_
  have h1:=flat_ins name c (σ.staged env)
  have h2:=h.sz env
  omega
theorem Sto.Inv.mv {σ : Sto} {k : Nat} (h : σ.Inv k) (env : ByteArray) : (mvS σ env).Inv k :=
 ⟨h.sb,updS_all (Q:=KSrt) h.ss KSrt.nil,h.vs,h.nb,h.db,updS_all (Q:=fun l : List (ByteArray × Chg)=>∀ p ∈ l,OkE p ∧ Byt p.2.data) h.ds (fun p hp=>by cases hp),updS_all (Q:=fun l : List (ByteArray × Chg)=>(l.flatMap entI).length ≤ 256 * k) h.sz (Nat.zero_le _),h.lg,h.lb⟩
theorem Sto.Inv.stageR {σ : Sto} {k : Nat} (h : σ.Inv k) (env name : ByteArray) {data : List Int} (hd : data.length ≤ 200) (hb : Byt data) : (stageR env name data σ).2.Inv (k + 1):=by
 unfold AW.stageR
 split
 ·rename_i hc
  simp at hc
  split
  ·refine h.stage env ⟨hc.2,by simp;omega,fun h=>by cases h⟩ hb ?_
   have:=qualB_size hc.2
   simp [entI,txI,bytesI_length,beN_length];omega
  ·exact h.up (Nat.le_succ k)
 ·exact h.up (Nat.le_succ k)
theorem Sto.Inv.removeR {σ : Sto} {k : Nat} (h : σ.Inv k) (env name : ByteArray) : (removeR env name σ).2.Inv (k + 1):=by
 unfold AW.removeR
 split
 ·rename_i hc
  simp at hc
  refine h.stage env ⟨hc.2,by simp,fun _=>rfl⟩ byt_nil ?_
  have:=qualB_size hc.2
  simp [entI,txI,bytesI_length];omega
 ·exact h.up (Nat.le_succ k)
theorem Sto.Inv.commitR {σ : Sto} {k : Nat} (h : σ.Inv k) (env : ByteArray) : (commitR env σ).2.Inv (k + 1):=by
 by_cases hz : (AW.commitR env σ).1 = 0
 ·obtain ⟨_,_,h3,h4,he⟩:=commitR_ok hz
  rw [he]
  refine Sto.Inv.mv (σ:=vvS (vbS (lgS σ (σ.log ++ jEnt (payI env (σ.staged env)))) env (afterL (σ.blobs env) (σ.staged env))) env (σ.vers env + 1)) ⟨?_,h.ss,?_,?_,?_,h.ds,(h.up (Nat.le_succ k)).sz,jFull_le h4,byt_app h.lb (jEnt_byt (payI_byt _ fun p hp=>(h.ds env p hp).2))⟩ env
  ·exact updS_all (Q:=KSrt) h.sb (afterL_srt _ (h.sb env))
  ·exact updS_all (Q:=fun x : Int=>0 ≤ x ∧ x ≤ ((k + 1 : Nat) : Int)) (h.up (Nat.le_succ k)).vs ⟨by have:=(h.vs env).1;show 0 ≤ σ.vers env + 1;omega,by have:=(h.vs env).2;show σ.vers env + 1 ≤ _;omega⟩
  ·exact updS_all (Q:=fun l : List (ByteArray × List Int)=>l.length ≤ 256) h.nb h3
  ·exact updS_all (Q:=fun l : List (ByteArray × List Int)=>∀ p ∈ l,p.2.length ≤ 65536 ∧ Byt p.2 ∧ p.1.size ≤ 49) h.db (afterL_db (h.db env) (h.ds env))
 ·have e : (AW.commitR env σ).2 = σ:=by
   unfold AW.commitR at hz ⊢
   split
   ·rfl
   ·split
    ·rfl
    ·split
     ·rfl
     ·split
      ·rfl
      ·rename_i h1 h2 h3 h4
       rw [if_neg h1,if_neg h2,if_neg h3,if_neg h4] at hz
       exact absurd rfl hz
  rw [e];exact h.up (Nat.le_succ k)
theorem Sto.Inv.swp {σ : Sto} {k : Nat} (h : σ.Inv k) {a b : ByteArray} : (swpS σ a b).Inv (k + 1):=by
 have hv1 : ∀ e,0 ≤ σ.vers e + 1 ∧ σ.vers e + 1 ≤ ((k + 1 : Nat) : Int):=fun e=>⟨by have:=(h.vs e).1;omega,by have:=(h.vs e).2;omega⟩
 refine ⟨updS_all (Q:=KSrt) (updS_all (Q:=KSrt) h.sb (h.sb _)) (h.sb _),updS_all (Q:=KSrt) (updS_all (Q:=KSrt) h.ss KSrt.nil) KSrt.nil,?_,?_,?_,?_,?_,h.lg,h.lb⟩
 ·exact updS_all (Q:=fun x : Int=>0 ≤ x ∧ x ≤ ((k + 1 : Nat) : Int)) (updS_all (Q:=fun x : Int=>0 ≤ x ∧ x ≤ ((k + 1 : Nat) : Int)) (h.up (Nat.le_succ k)).vs (hv1 _)) (hv1 _)
 ·exact updS_all (Q:=fun l : List (ByteArray × List Int)=>l.length ≤ 256) (updS_all (Q:=fun l : List (ByteArray × List Int)=>l.length ≤ 256) h.nb (h.nb _)) (h.nb _)
 ·exact updS_all (Q:=fun l : List (ByteArray × List Int)=>∀ p ∈ l,p.2.length ≤ 65536 ∧ Byt p.2 ∧ p.1.size ≤ 49) (updS_all (Q:=fun l : List (ByteArray × List Int)=>∀ p ∈ l,p.2.length ≤ 65536 ∧ Byt p.2 ∧ p.1.size ≤ 49) h.db (h.db _)) (h.db _)
 ·exact updS_all (Q:=fun l : List (ByteArray × Chg)=>∀ p ∈ l,OkE p ∧ Byt p.2.data) (updS_all (Q:=fun l : List (ByteArray × Chg)=>∀ p ∈ l,OkE p ∧ Byt p.2.data) h.ds (fun p hp=>by cases hp)) (fun p hp=>by cases hp)
 ·exact updS_all (Q:=fun l : List (ByteArray × Chg)=>(l.flatMap entI).length ≤ 256 * (k + 1)) (updS_all (Q:=fun l : List (ByteArray × Chg)=>(l.flatMap entI).length ≤ 256 * (k + 1)) (h.up (Nat.le_succ k)).sz (Nat.zero_le _)) (Nat.zero_le _)
theorem Sto.Inv.swapR {σ : Sto} {k : Nat} (h : σ.Inv k) (a b : ByteArray) : (swapR a b σ).2.Inv (k + 1):=by
 by_cases hz : (AW.swapR a b σ).1 = 0
 ·obtain ⟨_,_,_,h4,he⟩:=swapR_ok hz
  rw [he]
  refine Sto.Inv.swp (σ:=lgS σ (σ.log ++ jEnt (spayI a b))) ⟨h.sb,h.ss,h.vs,h.nb,h.db,h.ds,h.sz,jFull_le h4,byt_app h.lb (jEnt_byt (spayI_byt a b))⟩
 ·have e : (AW.swapR a b σ).2 = σ:=by
   unfold AW.swapR at hz ⊢
   split
   ·rfl
   ·split
    ·rfl
    ·split
     ·rfl
     ·rename_i h1 h2 h3
      rw [if_neg h1,if_neg h2,if_neg h3] at hz
      exact absurd rfl hz
  rw [e];exact h.up (Nat.le_succ k)
theorem Sto.Inv.play {σ : Sto} {k : Nat} (h : σ.Inv k) {x : Ev} (hd : x.d.length ≤ 200) (hb : Byt x.d) : (playS x σ).Inv (k + 1):=by
 unfold playS
 split
 ·exact h.stageR _ _ hd hb
 ·split
  ·exact h.removeR _ _
  ·split
   ·exact h.commitR _
   ·split
    ·exact h.swapR _ _
    ·exact (h.mv _).up (Nat.le_succ k)
theorem payI_dat {env : ByteArray} {c : List (ByteArray × Chg)} (h : Byt (payI env c)) (hok : ∀ p ∈ c,OkE p) : ∀ p ∈ c,OkE p ∧ Byt p.2.data:=fun p hp=>by
 refine ⟨hok p hp,?_⟩
 cases hr : p.2.rm with
 | true=>rw [(hok p hp).r hr];exact byt_nil
 | false =>
  intro x hx
  refine h x (List.mem_append_right _ (List.mem_flatMap.2 ⟨p,hp,?_⟩))
  unfold entI
  rw [hr]
  simp [hx]
theorem applyR_inv {σ σ' : Sto} {k : Nat} {p : List Int} (h : σ.Inv k) (hb : Byt p) (ha : applyR σ p = some σ') : σ'.Inv (k + 1):=by
 rcases applyR_some hb ha with ⟨env,c,rfl,c1,c2,c3,c4,c5,c6,rfl⟩ | ⟨a,b,rfl,c1,c2,c3,rfl⟩
 ·refine Sto.Inv.mv (σ:=vvS (vbS σ env (afterL (σ.blobs env) c)) env (σ.vers env + 1)) ⟨?_,h.ss,?_,?_,?_,h.ds,(h.up (Nat.le_succ k)).sz,h.lg,h.lb⟩ env
  ·exact updS_all (Q:=KSrt) h.sb (afterL_srt _ (h.sb env))
  ·exact updS_all (Q:=fun x : Int=>0 ≤ x ∧ x ≤ ((k + 1 : Nat) : Int)) (h.up (Nat.le_succ k)).vs ⟨by have:=(h.vs env).1;omega,by have:=(h.vs env).2;omega⟩
  ·exact updS_all (Q:=fun l : List (ByteArray × List Int)=>l.length ≤ 256) h.nb c6
  ·exact updS_all (Q:=fun l : List (ByteArray × List Int)=>∀ p ∈ l,p.2.length ≤ 65536 ∧ Byt p.2 ∧ p.1.size ≤ 49) h.db (afterL_db (h.db env) (payI_dat hb c3))
 ·exact h.swp
theorem openL_inv : ∀ (ps : List (List Int)) {σ σ' : Sto} {k : Nat},σ.Inv k → (∀ p ∈ ps,Byt p) → openL σ ps = some σ' → σ'.Inv (k + ps.length)
 | [],σ,σ',k,h,_,ho=>by cases ho;exact h
 | p :: ps,σ,σ',k,h,hb,ho=>by
  rw [openL_cons] at ho
  split at ho
  ·cases ho
  ·rename_i σ1 ha
   have:=openL_inv ps (applyR_inv h (hb p (List.mem_cons_self ..)) ha) (fun q hq=>hb q (List.mem_cons_of_mem _ hq)) ho
   rw [List.length_cons,show k + (ps.length + 1) = k + 1 + ps.length by omega]
   exact this
theorem Agr.eq {σ1 σ2 : Sto} (h : Agr σ1 σ2) (hs : ∀ e,σ2.staged e = []) (hl : σ1.log = σ2.log) : σ1 = σ2:=by
 obtain ⟨b1,s1,v1,l1⟩:=σ1
 obtain ⟨b2,s2,v2,l2⟩:=σ2
 have e1 : b1 = b2:=h.b
 have e2 : v1 = v2:=h.v
 have e3 : s1 = s2:=funext fun e=>(h.s e).trans (hs e).symm
 have e4 : l1 = l2:=hl
 subst e1 e2 e3 e4
 rfl
def opS (zs : List Int) : Option Sto:=openL (Sto.new (jLog (pays zs))) (pays zs)
theorem opS_both {zs : List Int} (hz : zs.length ≤ 1000000) (hb : Byt zs) : ropenL (Sto.new []) (pays zs) = opS zs ∧ ∀ σ,opS zs = some σ → σ.Inv (pays zs).length ∧ (∀ e,σ.staged e = []) ∧ σ.log = jLog (pays zs):=by
 unfold opS
 have hll:=jLog_pays_len hb
 rcases open_both hz hb with ⟨h1,h2⟩ | ⟨σ1,σ2,h1,h2,h3,h4,h5⟩
 ·rw [h1,h2]
  exact ⟨rfl,fun σ h=>by cases h⟩
 ·have he:=h3.eq h5.st (h4.trans h5.lg'.symm)
  subst he
  rw [h1,h2]
  refine ⟨rfl,fun σ h=>?_⟩
  cases h
  have:=openL_inv (pays zs) (k:=0) (Sto.Inv.new (l:=jLog (pays zs)) (by omega) (jLog_byt (byt_stop hb))) (byt_stop hb) h1
  rw [Nat.zero_add] at this
  exact ⟨this,h5.st,h5.lg'⟩
theorem Sto.Inv.shwE {σ : Sto} {k : Nat} (h : σ.Inv k) (hk : k ≤ 1000000) (hs : ∀ e,σ.staged e = []) : σ.Shw:=by
 refine ⟨⟨h.sb,h.ss,fun e=>by have:=h.vs e;omega,fun e he=>?_,by have:=h.lg;omega⟩,fun e=>Nat.le_trans (h.nb e) (by decide),fun e=>by rw [hs];exact Nat.zero_le _,fun e p hp=>⟨Nat.le_trans (h.db e p hp).1 (by decide),(h.db e p hp).2.1⟩,fun e p hp=>Nat.le_trans (h.db e p hp).2.2 (by decide),(fun e p hp=>by rw [hs] at hp;cases hp),h.lb⟩
 have h1:=nameB_len he
 rw [hs e]
 unfold payI txI
 simp [beN_length,bytesI_length];omega
theorem play_log {σ σq : Sto} {k : Nat} (h : σ.Inv k) (hk : k ≤ 40) (x : Ev) (hb : σq.blobs = σ.blobs) (hv : σq.vers = σ.vers) :
  ((playS x σ).log = σ.log ∧ (playS x σ).blobs = σ.blobs ∧ (playS x σ).vers = σ.vers) ∨
  ∃ pay σ',(playS x σ).log = σ.log ++ jEnt pay ∧ Byt pay ∧ pay.length ≤ 10500 ∧ applyR σq pay = some σ' ∧ σ'.blobs = (playS x σ).blobs ∧ σ'.vers = (playS x σ).vers:=by
 unfold playS
 split
 ·left
  unfold stageR
  split
  ·split <;> exact ⟨rfl,rfl,rfl⟩
  ·exact ⟨rfl,rfl,rfl⟩
 ·split
  ·left
   unfold removeR
   split <;> exact ⟨rfl,rfl,rfl⟩
  ·split
   ·by_cases hz : (commitR x.t σ).1 = 0
    ·obtain ⟨h1,h2,h3,h4,he⟩:=commitR_ok hz
     right
     rw [he]
     have hcl:=flat_len (σ.staged x.t)
     have hsz:=h.sz x.t
     have h24:=nameB_24 h1
     refine ⟨payI x.t (σ.staged x.t),comF σq x.t (afterL (σ.blobs x.t) (σ.staged x.t)),rfl,payI_byt _ fun p hp=>(h.ds x.t p hp).2,?_,?_,?_,?_⟩
     ·have : (payI x.t (σ.staged x.t)).length = 4 + x.t.size + ((σ.staged x.t).flatMap entI).length:=by
       unfold payI txI;simp [beN_length,bytesI_length];omega
      omega
     ·have:=entryR_pay (σ:=σq) h1 (h.ss x.t) (fun p hp=>(h.ds x.t p hp).1) (fun h0=>h2 (by rw [h0];rfl)) (by omega) (by rw [hb];exact h3)
      rw [hb] at this
      exact this
     ·show updS σq.blobs x.t _ = updS σ.blobs x.t _
      rw [hb]
     ·show updS σq.vers x.t (σq.vers x.t + 1) = updS σ.vers x.t (σ.vers x.t + 1)
      rw [hv]
    ·left
     have e : (commitR x.t σ).2 = σ:=by
      unfold commitR at hz ⊢
      split
      ·rfl
      ·split
       ·rfl
       ·split
        ·rfl
        ·split
         ·rfl
         ·rename_i h1 h2 h3 h4
          rw [if_neg h1,if_neg h2,if_neg h3,if_neg h4] at hz
          exact absurd rfl hz
     rw [e];exact ⟨rfl,rfl,rfl⟩
   ·split
    ·by_cases hz : (swapR x.t x.n σ).1 = 0
     ·obtain ⟨h1,h2,h3,h4,he⟩:=swapR_ok hz
      right
      rw [he]
      refine ⟨spayI x.t x.n,swpS σq x.t x.n,rfl,spayI_byt _ _,?_,applyR_spay h1 h2 h3,?_,?_⟩
      ·have:=nameB_24 h1
       have:=nameB_24 h2
       simp [spayI,txI,bytesI_length];omega
      ·show updS (updS σq.blobs x.t (σq.blobs x.n)) x.n (σq.blobs x.t) = updS (updS σ.blobs x.t (σ.blobs x.n)) x.n (σ.blobs x.t)
       rw [hb]
      ·show updS (updS σq.vers x.t (σq.vers x.t + 1)) x.n (σq.vers x.n + 1) = updS (updS σ.vers x.t (σ.vers x.t + 1)) x.n (σ.vers x.n + 1)
       rw [hv]
     ·left
      have e : (swapR x.t x.n σ).2 = σ:=by
       unfold swapR at hz ⊢
       split
       ·rfl
       ·split
        ·rfl
        ·split
         ·rfl
         ·rename_i h1 h2 h3
          rw [if_neg h1,if_neg h2,if_neg h3] at hz
          exact absurd rfl hz
      rw [e];exact ⟨rfl,rfl,rfl⟩
    ·exact .inl ⟨rfl,rfl,rfl⟩
theorem Two.start {H : List AObj} {s : Nat} {ro : Nat → Option Role} {z : SP} (hP : RepP H s (Sto.new []) ro z) : ∃ own,Two (H ++ rnewX H.length) s (H.length + 3) (Sto.new []) own:=by
 refine ⟨_,ro,z,_,_,_,hP.app,RepR.empty H,fun i hi=>?_,rfl⟩
 have:=hP.lt i hi
 unfold newRo
 rw [if_neg (by omega),if_neg (by omega),if_neg (by omega),if_neg (by omega)]
def knC : List (ByteArray × Chg):=[(bA,⟨false,[49]⟩)]
def kn1 : Sto:=stageS bLive bA ⟨false,[49]⟩ (Sto.new [])
def kn2 : Sto:=comS kn1 bLive [(bA,[49])] ([] ++ jEnt (payI bLive knC))
def kn3 : Sto:=swpS (lgS kn2 (kn2.log ++ jEnt (spayI bLive bShadow))) bLive bShadow
def kn4 : Sto:=swpS (comF (Sto.new kn3.log) bLive [(bA,[49])]) bLive bShadow
theorem knOk : ∀ p ∈ knC,OkE p:=fun p hp=>by
 simp [knC] at hp
 subst hp
 exact ⟨by decide,by decide,fun h=>by cases h⟩
theorem nLive : nameB bLive = true:=by decide
theorem nShadow : nameB bShadow = true:=by decide
theorem qA : qualB bA = true:=by decide
theorem neLS : bLive ≠ bShadow:=fun h=>absurd (congrArg ByteArray.size h) (by decide)
theorem kn1_staged : kn1.staged bLive = knC:=by
 show updS (Sto.new []).staged bLive (kIns bA ⟨false,[49]⟩ ((Sto.new []).staged bLive)) bLive = _
 rw [updS_same];rfl
theorem kn_after : afterL [] knC = [(bA,[49])]:=rfl
theorem kn_pay : (payI bLive knC).length = 17 - 1:=by
 unfold payI knC txI;simp [entI,txI,bytesI_length,beN_length];decide
theorem kn_commit : commitR bLive kn1 = (0,kn2):=by
 unfold commitR
 rw [kn1_staged,show kn1.blobs bLive = [] from rfl,kn_after,if_neg (by rw [nLive];decide),if_neg (by decide),if_neg (by decide),if_neg]
 ·rfl
 ·show ¬ jFull [] (payI bLive knC) = true
  unfold jFull
  rw [kn_pay]
  decide
theorem kn_commit2 : commitR bLive kn2 = (13,kn2):=by
 have h : kn2.staged bLive = []:=by show updS kn1.staged bLive [] bLive = _;rw [updS_same]
 unfold commitR
 rw [h,if_neg (by rw [nLive];decide),if_pos (by decide)]
theorem kn2_log : kn2.log = jEnt (payI bLive knC):=rfl
theorem kn_swap : swapR bLive bShadow kn2 = (0,kn3):=by
 unfold swapR
 rw [if_neg (by rw [nLive,nShadow];decide),if_neg neLS,if_neg]
 ·rfl
 ·unfold jFull
  rw [kn2_log,jEnt_length,kn_pay]
  decide
theorem kn3_log : kn3.log = jLog [payI bLive knC,spayI bLive bShadow]:=by
 rw [jLog_cons,jLog_cons]
 show jEnt _ ++ jEnt _ = jEnt _ ++ (jEnt _ ++ [])
 rw [List.append_nil]
theorem kn_byts : ∀ p ∈ [payI bLive knC,spayI bLive bShadow],Byt p:=fun p hp=>by
 simp at hp
 rcases hp with rfl | rfl
 ·refine payI_byt _ fun q hq=>?_
  simp [knC] at hq
  subst hq
  intro x hx
  simp at hx
  subst hx
  decide
 ·exact spayI_byt _ _
theorem kn3_byt : Byt kn3.log:=by rw [kn3_log];exact jLog_byt kn_byts
theorem kn3_pays : pays kn3.log = [payI bLive knC,spayI bLive bShadow]:=by
 have h:=(pays_log [payI bLive knC,spayI bLive bShadow] [] (fun p hp=>by
  simp at hp
  rcases hp with rfl | rfl
  ·rw [kn_pay];decide
  ·decide)).1
 rw [List.append_nil,pays_nil.1,List.append_nil,← kn3_log] at h
 exact h
theorem kn3_len : kn3.log.length ≤ 1000000:=by
 rw [kn3_log,jLog_cons,jLog_cons,List.length_append,List.length_append,jEnt_length,jEnt_length,kn_pay]
 decide
theorem kn_open : openL (Sto.new (jLog (pays kn3.log))) (pays kn3.log) = some kn4:=by
 rw [kn3_pays,← kn3_log,openL_cons]
 have h:=entryR_pay (σ:=Sto.new kn3.log) (env:=bLive) nLive (c:=knC) (by unfold KSrt knC;simp) knOk (by unfold knC;simp) (by decide) (by decide)
 rw [h]
 dsimp only
 rw [openL_cons,applyR_spay nLive nShadow neLS]
 rfl
theorem kn_inv1 : kn1.Inv 1:=(Sto.Inv.new (l:=[]) (by decide) byt_nil).stage bLive (knOk _ (by simp [knC])) (kn_byt49) (by decide)
where kn_byt49 : Byt [49]:=fun x hx=>by simp at hx;subst hx;decide
theorem kn_inv2 : kn2.Inv 2:=by
 have:=kn_inv1.commitR bLive
 rwa [kn_commit] at this
theorem kn_inv4 : kn4.Inv 2:=by
 have:=openL_inv (pays kn3.log) (k:=0) (Sto.Inv.new (l:=jLog (pays kn3.log)) (by have:=jLog_pays_len kn3_byt;have:=kn3_len;omega) (jLog_byt (byt_stop kn3_byt))) (byt_stop kn3_byt) kn_open
 rwa [kn3_pays] at this
theorem kn4_rs : readV kn4 bShadow bA = ([49],true):=by decide
theorem kn4_rl : readV kn4 bLive bA = ([],false):=by decide
theorem kn4_vl : kn4.vers bLive = 2:=by decide
theorem kn4_vs : kn4.vers bShadow = 1:=by decide
theorem kn4_ns : kn4.blobs bShadow = [(bA,[49])]:=by rfl
theorem kn1_r : readV kn1 bLive bA = ([],false):=by decide
set_option maxRecDepth 20000 in
theorem known36_spec {P : Program} (F : F_z1d P) (hM1 : MClone P F.z0i.z0u.z0w.z0t.z0d.id)
  (hK1 : SKeys P F.z0i.z0u.z0w.z10.slices_Sorted_string.id F.z0i.z0u.z0w.z10.z0f.maps_Keys_mapstringstorechange_string_storechange_1.id)
  (hR1 : JRead P F.z0i.z09.journal_Read.id) (hR2 : JRead P F.z0i.journal_Read.id)
  (hM2 : MClone P F.z0j.z0t.z0d.id)
  (hK2 : SKeys P F.z0j.z10.slices_Sorted_string.id F.z0j.z10.z0f.maps_Keys_mapstringstorechange_string_storechange_1.id)
  (hL1 : SKeys P F.z0m.slices_Sorted_string.id F.z0m.z0e.maps_Keys_mapstringLbyte_string_Lbyte_1.id) (H : List AObj) :
  ACalls P F.id [] H (fun r H'=>r = .bool true ∧ H' = H):=by
 refine ACalls.drop rfl ?_
 refine acalls_of_body F.has ?_
 (conv=>whnf);refine ACalls.mono (pOpen_nil F.z0i hM1 hK1 hR1 hR2 H) ?_
 rintro r H1 ⟨s,ro,z,rfl,hP,hp⟩
 have l0 : 0 + H1.length = H1.length:=Nat.zero_add _
 (conv=>whnf);refine snocK_to ?_
 rw [l0]
 have hP0:=hP.app (X:=[bO [49]])
 obtain ⟨_,H2,hc,rfl,ro2,z2,hP2,hp2⟩:=Stage_own F.z0p hP0 bLive bA [49] nLive qA (by decide) (by decide) KSrt.nil (id:=H1.length) (by simp)
 (conv=>whnf);refine recO (getA) ?_
 (conv=>whnf);refine ACalls.mono (hc) ?_
 rintro v Hx ⟨rfl,rfl⟩
 repeat ((conv=>whnf);first | refine recT (by decide) ?_ | refine recF (by decide) ?_)
 have f1:=kn_inv1.fit (by decide)
 have hrd1:=Read_spec F.z0n hP2 f1 bLive bA (fun d hd=>by cases hd)
 rw [show readV (stageS bLive bA ⟨false,[49]⟩ (Sto.new [])) bLive bA = ([],false) from kn1_r] at hrd1
 (conv=>whnf);refine ACalls.use (hrd1) ?_
 obtain ⟨_,H3,hc3,rfl,ro3,z3,hP3,hp3⟩:=Commit_spec F.z0j hM2 hK2 hP2 bLive f1
 rw [show commitR bLive (stageS bLive bA ⟨false,[49]⟩ (Sto.new [])) = (0,kn2) from kn_commit] at hc3 hP3
 (conv=>whnf);refine ACalls.mono (hc3) ?_
 rintro v Hx ⟨rfl,rfl⟩
 obtain ⟨_,H4,hc4,rfl,ro4,z4,hP4,hp4⟩:=Commit_spec F.z0j hM2 hK2 hP3 bLive (kn_inv2.fit (by decide))
 rw [kn_commit2] at hc4 hP4
 (conv=>whnf);refine ACalls.mono (hc4) ?_
 rintro v Hx ⟨rfl,rfl⟩
 obtain ⟨_,H5,hc5,rfl,ro5,z5,hP5,hp5⟩:=Swap_spec F.z0r hP4 bLive bShadow (kn_inv2.fit (by decide))
 rw [kn_swap] at hc5 hP5
 (conv=>whnf);refine ACalls.mono (hc5) ?_
 rintro v Hx ⟨rfl,rfl⟩
 repeat ((conv=>whnf);first | refine recT (by decide) ?_ | refine recF (by decide) ?_)
 (conv=>whnf);refine ACalls.use (Log_spec F.z0l hP5 (by show kn3.log.length ≤ _;have:=kn3_len;omega)) ?_
 (conv=>whnf);refine ACalls.mono (pOpen_cl F.z0i hM1 hK1 hR1 hR2 false kn3_len kn3_byt _) ?_
 intro r H6 hq
 unfold OpP at hq
 rw [kn_open] at hq
 obtain ⟨_,s6,ro6,z6,rfl,hP6,hp6⟩:=hq
 repeat ((conv=>whnf);first | refine recT (by decide) ?_ | refine recF (by decide) ?_)
 have f4:=kn_inv4.fit (by decide)
 have hrs:=Read_spec F.z0n hP6 f4 bShadow bA (fun d hd=>Nat.le_trans ((kn_inv4.db bShadow _ (readV_mem hd (kn_inv4.sb _))).1) (by decide))
 rw [kn4_rs] at hrs
 have hrl:=Read_spec F.z0n hP6 f4 bLive bA (fun d hd=>Nat.le_trans ((kn_inv4.db bLive _ (readV_mem hd (kn_inv4.sb _))).1) (by decide))
 rw [kn4_rl] at hrl
 have hvl:=Version_spec F.z0s hP6 bLive
 rw [kn4_vl] at hvl
 have hvs:=Version_spec F.z0s hP6 bShadow
 rw [kn4_vs] at hvs
 have hns:=Names_spec F.z0m hL1 hP6 f4 bShadow (Nat.le_trans (kn_inv4.nb _) (by decide)) (fun p hp=>Nat.le_trans (kn_inv4.db _ p hp).2.2 (by decide))
 rw [kn4_ns] at hns
 (conv=>whnf);refine ACalls.use (hrs) ?_
 (conv=>whnf);refine ACalls.use (hrl) ?_
 (conv=>whnf);refine ⟨_,bytesOf_bC _,?_⟩
 (conv=>whnf);refine ACalls.use (hvl) ?_
 (conv=>whnf);refine ACalls.use (hvs) ?_
 (conv=>whnf);refine ACalls.use (hns) ?_
 conv=>whnf
 refine ⟨rfl,?_⟩
 obtain ⟨G,hG⟩:=post_app (((((hp.trans (Post.app _ _ _)).trans hp2).trans hp3).trans hp4).trans hp5)
 obtain ⟨G2,rfl⟩:=post_app hp6
 exact ⟨G ++ G2,by rw [hG];simp⟩
end Go.AW
namespace Go.AW
variable [Draws]
section
variable {P : Program} {C C' C1 : Nat → Nat} {τ τ1 : Nat → Option Loc} {H K G : List AObj} {w w1 : World}
theorem Rel.leC {d : AVal} {v : Value} (h : Rel C w τ H d v) (hle : ∀ b,C b ≤ C' b) : Rel C' w τ H d v:=by
 induction h with
 | rd h=>exact .rd (h.mono hle fun _ _ _=>rfl)
 | undef v=>exact .undef v
 | sl id ep off len a cap esz es ho hep h=>exact .sl id ep off len a cap esz es ho hep h
 | ptr id ep idx fld a esz es ho hep h=>exact .ptr id ep idx fld a esz es ho hep h
 | it id s' pos l ho ht=>exact .it id s' pos l ho ht
 | mp id o l ho hm ht=>exact .mp id o l ho hm ht
 | mt id mid ck seen l ho ht=>exact .mt id mid ck seen l ho ht
 | slc id ep off len cap a esz es ho hep h=>exact .slc id ep off len cap a esz es ho hep h
 | agg cs vs hl h ih=>exact .agg cs vs hl ih
 | tuple cs vs hl h ih=>exact .tuple cs vs hl ih
 | fn f cs vs hl h ih=>exact .fn f cs vs hl ih
theorem ObjAt.leC {l : Loc} {o : AObj} (h : ObjAt C w τ H l o) (hle : ∀ b,C b ≤ C' b) : ObjAt C' w τ H l o:=by
 cases o with
 | iter s p=>exact h
 | map kvs =>
  obtain ⟨kvs1,es,clock,pp,g1,g2,g3,g4⟩:=h
  exact ⟨kvs1,es,clock,pp,g1,g2,fun i e kv he hkv=>⟨(g3 i e kv he hkv).1,(g3 i e kv he hkv).2.leC hle⟩,g4⟩
 | bmap kvs bs ck =>
  obtain ⟨es,g1,g2,g3,g4⟩:=h
  exact ⟨es,g1,g2,fun i e kv he hkv=>⟨(g3 i e kv he hkv).1,(g3 i e kv he hkv).2.leC hle⟩,g4⟩
 | mit m ck seen=>cases m <;> exact h
 | arr esz es =>
  obtain ⟨g1,cells,elem,fz,g2,g3,g4,g5⟩:=h
  exact ⟨g1,cells,elem,fz,g2,g3,g4,fun i j e d he hd=>by
   obtain ⟨u,hu,hru⟩:=g5 i j e d he hd
   exact ⟨u,hu,hru.leC hle⟩⟩
theorem ObjAt.narrow {l l0 : Loc} {o : AObj} (hob : ObjAt C1 w1 τ1 (H ++ G) l o) (hob0 : ObjAt C w τ H l0 o) : ObjAt C1 w1 τ1 H l o:=by
 have hle : H.length ≤ H.length:=Nat.le_refl _
 cases o with
 | iter s p=>exact hob
 | map kvs =>
  obtain ⟨kvs1,es,clock,pp,g1,g2,g3,g4⟩:=hob
  obtain ⟨kvs0,es0,clock0,pp0,k1,k2,k3,_⟩:=hob0
  refine ⟨kvs1,es,clock,pp,g1,g2,fun i e kv he hkv=>⟨(g3 i e kv he hkv).1,?_⟩,g4⟩
  obtain ⟨j,hj⟩:=List.getElem?_of_mem (pp0.mem_iff.2 (pp.mem_iff.1 (List.mem_of_getElem? hkv)))
  have hjl:=(List.getElem?_eq_some_iff.1 hj).1
  have hi0 : j < es0.size:=by omega
  exact (g3 i e kv he hkv).2.narrow2 hle ⟨_,(k3 j es0[j] kv (Array.getElem?_eq_getElem hi0) hj).2⟩
 | bmap kvs bs ck =>
  obtain ⟨es,g1,g2,g3,g4⟩:=hob
  obtain ⟨es0,k1,k2,k3,_⟩:=hob0
  refine ⟨es,g1,g2,fun i e kv he hkv=>⟨(g3 i e kv he hkv).1,?_⟩,g4⟩
  have hi:=(List.getElem?_eq_some_iff.1 hkv).1
  have hi0 : i < es0.size:=by omega
  exact (g3 i e kv he hkv).2.narrow2 hle ⟨_,(k3 i es0[i] kv (Array.getElem?_eq_getElem hi0) hkv).2⟩
 | mit m ck seen =>
  cases m with
  | none=>exact hob
  | some m =>
   obtain ⟨om,lm,q1,q2,q3,q4⟩:=hob
   obtain ⟨om0,lm0,p1,p2,p3,p4⟩:=hob0
   rw [List.getElem?_append_left (List.getElem?_eq_some_iff.1 p1).1] at q1
   exact ⟨om,lm,q1,q2,q3,q4⟩
 | arr esz es =>
  obtain ⟨g1,cells,elem,fz,g2,g3,g4,g5⟩:=hob
  obtain ⟨_,_,_,_,_,_,_,k5⟩:=hob0
  refine ⟨g1,cells,elem,fz,g2,g3,g4,fun i j e d he hd=>?_⟩
  obtain ⟨u,hu,hru⟩:=g5 i j e d he hd
  obtain ⟨u0,_,hru0⟩:=k5 i j e d he hd
  exact ⟨u,hu,hru.narrow2 hle ⟨u0,hru0⟩⟩
theorem ACalls.frzS {f : FuncId} {args : List AVal} {n esz : Nat} {es : List (List AVal)} (hp : pureEs es = true) (hn : n = es.length)
  (h : ACalls P f args H (fun r H'=>r = .sl H.length n 0 n ∧ H' = H ++ [.arr esz es])) : ACalls P f args H (fun r H'=>r = .list false esz es ∧ H' = H):=by
 subst hn
 intro C τ w vs hw hlen hr
 have hc:=h C τ w vs hw hlen hr
 have fin : ∀ (e : Ending) (w' : World),(∃ v r C' τ' H',e = .returned v ∧ (r = .sl H.length es.length 0 es.length ∧ H' = H ++ [.arr esz es]) ∧ Rel C' w' τ' H' r v ∧ St w (PrCall τ H w) C' τ' H' w' ∧ Step C τ H w C' τ' H' w') →
   ∃ v r C' τ' H',e = .returned v ∧ (r = .list false esz es ∧ H' = H) ∧ Rel C' w' τ' H' r v ∧ St w (PrCall τ H w) C' τ' H' w' ∧ Step C τ H w C' τ' H' w':=by
  rintro e w' ⟨v,r,C1,τ1,H1,rfl,⟨rfl,rfl⟩,hrel,hst,hstep⟩
  have hmem : ∀ {id : Nat} {o : AObj},H[id]? = some o → (H ++ [AObj.arr esz es])[id]? = some o:=fun h=>by rw [List.getElem?_append_left (List.getElem?_eq_some_iff.1 h).1];exact h
  have hlt : ∀ {id : Nat},id < H.length → id < (H ++ [AObj.arr esz es]).length:=fun h=>by rw [List.length_append];omega
  have hnew : (H ++ [AObj.arr esz es])[H.length]? = some (.arr esz es):=by simp
  have hτ : ∀ {id : Nat} {o : AObj},H[id]? = some o → τ1 id = τ id:=by
   intro id o ho
   obtain ⟨o',h1,h2⟩:=hstep.obj id o ho
   rw [hmem ho] at h1
   cases h1
   cases o with
   | arr esz es=>exact h2.2.2 rfl
   | iter s p=>exact h2
   | map kvs=>exact h2
   | bmap kvs bs ck=>exact h2
   | mit m ck seen=>exact h2.2
  obtain ⟨C2,hC2⟩ : ∃ C2,C2 = commit C1 τ1 (H ++ [AObj.arr esz es]) (List.range H.length):=⟨_,rfl⟩
  have hle : ∀ b,C1 b ≤ C2 b:=fun b=>by rw [hC2];exact commit_le hst.wf b
  have hni : ∀ {id : Nat},id < (H ++ [AObj.arr esz es]).length → id ∉ List.range H.length → id = H.length:=fun h1 h2=>by
   rw [List.mem_range] at h2
   simp at h1;omega
  have hoth : ∀ b,(∀ l,τ1 H.length = some l → l.b ≠ b) → C2 b = C1 b:=fun b hb=>by
   rw [hC2]
   exact commit_other fun id l h1 h2 h3=>by
    have:=hni h1 h2
    subst this
    exact hb l h3
  have hrel2 : Rel C2 w' τ1 H (.list false esz es) v:=by
   have:=pub_rel (n:=0) (ids:=List.range H.length) (τ2:=τ1) (H2:=H) hst.wf (fun k id hk=>by
    have hk2 : id = k ∧ k < H.length:=by
     have h1:=(List.getElem?_eq_some_iff.1 hk).1
     rw [List.length_range] at h1
     rw [List.getElem?_range h1] at hk
     cases hk
     exact ⟨rfl,h1⟩
    obtain ⟨rfl,hkl⟩:=hk2
    refine ⟨fun esz' es' h1=>?_,by rw [Nat.zero_add]⟩
    rw [List.getElem?_append_left hkl] at h1
    exact ⟨es',by rw [Nat.zero_add];exact h1,rfl⟩) (.frz H.length es.length 0 es.length esz es hnew rfl hp (by simp)) hrel
   rw [List.drop_zero,List.take_length,← hC2] at this
   exact this
  refine ⟨v,_,C2,τ1,H,rfl,⟨rfl,rfl⟩,hrel2,⟨⟨fun id o h=>hst.wf.ok id o (hmem h),fun id o h=>hst.wf.virt id o (hmem h),fun id o l h1 h2=>?_,fun id l h1 h2=>?_,fun i j li lj h1 h2=>hst.wf.inj i j li lj (hlt h1) (hlt h2),fun b hb=>?_⟩,
   hst.fr,fun b ⟨id,l,h1,h2,h3⟩=>hst.own b ⟨id,l,hlt h1,h2,h3⟩,hst.plt⟩,⟨fun b=>Nat.le_trans (hstep.le b) (hle b),hstep.cell,fun id o ho=>⟨o,ho,?_⟩,hstep.grow,fun b hb=>?_⟩⟩
  ·have hob:=hst.wf.objs id o l (hmem h1) h2
   have hob0:=hw.objs id o l h1 (by rw [← hτ h1];exact h2)
   exact (hob.narrow hob0).leC hle
  ·rw [hoth l.b fun l2 h3 h4=>?_]
   ·exact hst.wf.comm id l (hlt h1) h2
   ·have:=hst.wf.inj H.length id l2 l (by simp) (hlt h1) h3 h2 h4
    omega
  ·by_cases hb2 : C1 b = C2 b
   ·exact hst.wf.lt b (by omega)
   ·obtain ⟨l,h3,rfl⟩ : ∃ l,τ1 H.length = some l ∧ l.b = b:=Classical.byContradiction fun hne=>hb2 (hoth b fun l h3 h4=>hne ⟨l,h3,h4⟩).symm
    exact hst.wf.locLt (by simp) h3
  ·obtain ⟨o',h1,h2⟩:=hstep.obj id o ho
   rw [hmem ho] at h1
   cases h1
   exact h2
  ·rw [hoth b fun l h3 h4=>?_]
   ·exact hstep.old b hb
   ·subst h4
    have hnp:=hst.own l.b ⟨H.length,l,by simp,h3,rfl⟩
    have hown : Owned τ H l.b:=Classical.byContradiction fun hno=>hnp ⟨hb,hno⟩
    obtain ⟨id,l2,g1,g2,g3⟩:=hown
    obtain ⟨o,ho⟩ : ∃ o,H[id]? = some o:=⟨_,List.getElem?_eq_getElem g1⟩
    have:=hst.wf.inj H.length id l l2 (by simp) (hlt g1) h3 ((hτ ho).trans g2) g3.symm
    omega
 unfold CallsX at hc ⊢
 split at hc
 ·exact Calls.mono hc fun e w' hh=>fin e w' hh
 ·exact fin _ _ hc
 ·exact hc
end
attribute [local irreducible] ACalls
theorem pays_of_jLog {l : List (List Int)} (h : ∀ p ∈ l,p.length ≤ 65536) : pays (jLog l) = l:=by
 have:=(pays_log l [] h).1
 rwa [List.append_nil,pays_nil.1,List.append_nil] at this
theorem opS_jLog {l : List (List Int)} (h : ∀ p ∈ l,p.length ≤ 65536) : opS (jLog l) = openL (Sto.new (jLog l)) l:=by
 unfold opS
 rw [pays_of_jLog h]
theorem openL_snoc (p : List Int) : ∀ (ps : List (List Int)) {σ σ' : Sto},openL σ ps = some σ' → openL σ (ps ++ [p]) = applyR σ' p
 | [],σ,σ',h=>by
  cases h
  rw [List.nil_append,openL_cons]
  cases applyR σ p <;> rfl
 | q :: ps,σ,σ',h=>by
  rw [List.cons_append,openL_cons]
  rw [openL_cons] at h
  split at h
  ·cases h
  ·rename_i s hs
   exact openL_snoc p ps h
structure Recd (pl : List (List Int)) (σ : Sto) : Prop where
 lg : σ.log = jLog pl
 pb : ∀ p ∈ pl,Byt p ∧ p.length ≤ 10500
 op : ∀ L,∃ σq,openL (Sto.new L) pl = some σq ∧ σq.blobs = σ.blobs ∧ σq.vers = σ.vers
theorem Recd.start : Recd [] (Sto.new []):=⟨rfl,(fun p hp=>by cases hp),fun L=>⟨Sto.new L,rfl,rfl,rfl⟩⟩
theorem Recd.play {pl : List (List Int)} {σ : Sto} {k : Nat} (h : Recd pl σ) (hI : σ.Inv k) (hk : k ≤ 40) (x : Ev) :
  ((playS x σ).log = σ.log ∧ Recd pl (playS x σ)) ∨ ∃ pay,(playS x σ).log.length = σ.log.length + 8 + pay.length ∧ Recd (pl ++ [pay]) (playS x σ):=by
 rcases play_log (σq:=σ) hI hk x rfl rfl with ⟨h1,h2,h3⟩ | ⟨pay,σ0,h1,h2,h3,_⟩
 ·refine .inl ⟨h1,h1.trans h.lg,h.pb,fun L=>?_⟩
  obtain ⟨σq,a,b,c⟩:=h.op L
  exact ⟨σq,a,b.trans h2.symm,c.trans h3.symm⟩
 ·refine .inr ⟨pay,by rw [h1,List.length_append,jEnt_length];omega,⟨by rw [h1,h.lg,jLog_snoc],fun p hp=>?_,fun L=>?_⟩⟩
  ·rcases List.mem_append.1 hp with hp | hp
   ·exact h.pb p hp
   ·simp at hp;subst hp;exact ⟨h2,h3⟩
  ·obtain ⟨σq,a,b,c⟩:=h.op L
   rcases play_log (σq:=σq) hI hk x b c with ⟨g1,_⟩ | ⟨pay',σ',g1,g2,g3,g4,g5,g6⟩
   ·have:=congrArg List.length (g1.symm.trans h1)
    rw [List.length_append,jEnt_length] at this
    omega
   ·obtain rfl : pay' = pay:=jEnt_inj (List.append_cancel_left (g1.symm.trans h1))
    exact ⟨σ',by rw [openL_snoc _ _ a];exact g4,g5,g6⟩
theorem Recd.le {pl : List (List Int)} {σ : Sto} (h : Recd pl σ) : ∀ p ∈ pl,p.length ≤ 65536:=fun p hp=>Nat.le_trans (h.pb p hp).2 (by decide)
theorem Recd.opened {pl : List (List Int)} {σ : Sto} (h : Recd pl σ) : ∃ σq,opS (jLog pl) = some σq:=by
 obtain ⟨σq,a,_⟩:=h.op (jLog pl)
 exact ⟨σq,by rw [opS_jLog h.le];exact a⟩
theorem playS_grow {σ : Sto} {k : Nat} (h : σ.Inv k) (hk : k ≤ 40) (x : Ev) (hl : σ.log.length ≤ 10508 * k) : (playS x σ).log.length ≤ 10508 * (k + 1):=by
 rcases play_log (σq:=σ) h hk x rfl rfl with ⟨h1,_⟩ | ⟨pay,_,h1,_,h2,_⟩
 ·rw [h1];omega
 ·rw [h1,List.length_append,jEnt_length];omega
theorem rLog_frz {P : Program} (F : F_z1q P) {H : List AObj} {s : Nat} {σ : Sto} {ro : Nat → Option Role} {z : SP} {lv : AVal} (h : RepR H s σ ro z lv) (hl : σ.log.length ≤ 90000000) :
  ACalls P F.id [.ptr s 1 0 0] H (fun r H'=>r = .list false 1 (bC σ.log) ∧ H' = H) :=
 (rLog_spec F h hl).frzS (pureEs_bC _) (bC_length _).symm
def endsL (pl : List (List Int)) : List Int:=(List.range (pl.length + 1)).map fun q=>((jLog (pl.take q)).length : Int)
theorem endsL_length (pl : List (List Int)) : (endsL pl).length = pl.length + 1:=by simp [endsL]
theorem endsL_at (pl : List (List Int)) {q : Nat} (h : q ≤ pl.length) : (endsL pl)[q]? = some ((jLog (pl.take q)).length : Int):=by
 rw [endsL,List.getElem?_map,List.getElem?_range (by omega)]
 rfl
theorem endsL_snoc (pl : List (List Int)) (p : List Int) : endsL (pl ++ [p]) = endsL pl ++ [((jLog (pl ++ [p])).length : Int)]:=by
 unfold endsL
 rw [List.length_append,show pl.length + [p].length + 1 = (pl.length + 1) + 1 from rfl,List.range_succ,List.map_append]
 congr 1
 ·apply List.map_congr_left
  intro q hq
  rw [List.mem_range] at hq
  rw [List.take_append_of_le_length (by omega)]
 ·simp only [List.map_cons,List.map_nil]
  rw [List.take_of_length_le (by simp)]
theorem jLog_take_le (pl : List (List Int)) (q : Nat) : (jLog (pl.take q)).length ≤ (jLog pl).length:=by
 have : jLog pl = jLog (pl.take q) ++ jLog (pl.drop q):=by rw [jLog,jLog,jLog,← List.flatMap_append,List.take_append_drop]
 rw [this,List.length_append];omega
def ptC (P : List Nat) : List (List AVal):=P.map fun t=>[.ptr t 1 0 0]
theorem ptC_length (P : List Nat) : (ptC P).length = P.length:=by simp [ptC]
theorem ptC_at {P : List Nat} {q t : Nat} (h : P[q]? = some t) : (ptC P)[q]? = some [.ptr t 1 0 0]:=by rw [ptC,List.getElem?_map,h];rfl
theorem ptC_snoc (P : List Nat) (t : Nat) : ptC (P ++ [t]) = ptC P ++ [[.ptr t 1 0 0]]:=by simp [ptC]
structure Sts (H : List AObj) (own : Nat → Prop) (e st : Nat) (pl : List (List Int)) (P : List Nat) : Prop where
 he : H[e]? = some (.arr 1 (iC (endsL pl)))
 hst : H[st]? = some (.arr 1 (ptC P))
 oe : ¬ own e
 ost : ¬ own st
 ne : e ≠ st
 len : P.length = pl.length + 1
 rep : ∀ q t,P[q]? = some t → ∃ σq ro z lv,opS (jLog (pl.take q)) = some σq ∧ RepR H t σq ro z lv ∧ ∀ i,ro i ≠ none → ¬ own i ∧ i ≠ e ∧ i ≠ st
theorem Sts.frame {H H' : List AObj} {own own' : Nat → Prop} {e st : Nat} {pl : List (List Int)} {P : List Nat} (h : Sts H own e st pl P) (hp : PostO H H' own own') : Sts H' own' e st pl P:=by
 have le:=(List.getElem?_eq_some_iff.1 h.he).1
 have ls:=(List.getElem?_eq_some_iff.1 h.hst).1
 refine ⟨(hp.2 e le h.oe).2.trans h.he,(hp.2 st ls h.ost).2.trans h.hst,(hp.2 e le h.oe).1,(hp.2 st ls h.ost).1,h.ne,h.len,fun q t hq=>?_⟩
 obtain ⟨σq,ro,z,lv,h1,h2,h3⟩:=h.rep q t hq
 exact ⟨σq,ro,z,lv,h1,h2.frame (fun i hi=>(hp.2 i (h2.lt i hi) (h3 i hi).1).2) hp.1,fun i hi=>⟨(hp.2 i (h2.lt i hi) (h3 i hi).1).1,(h3 i hi).2⟩⟩
theorem Sts.add {H H' : List AObj} {own : Nat → Prop} {e st : Nat} {pl : List (List Int)} {P : List Nat} (h : Sts H own e st pl P) (hl : H.length ≤ H'.length) (hk : ∀ i,i < H.length → i ≠ e → i ≠ st → H'[i]? = H[i]?)
  {pay : List Int} {t : Nat} (he : H'[e]? = some (.arr 1 (iC (endsL (pl ++ [pay]))))) (hst : H'[st]? = some (.arr 1 (ptC (P ++ [t]))))
  {σn : Sto} {ro : Nat → Option Role} {z : SP} {lv : AVal} (h1 : opS (jLog (pl ++ [pay])) = some σn) (h2 : RepR H' t σn ro z lv) (h3 : ∀ i,ro i ≠ none → ¬ own i ∧ i ≠ e ∧ i ≠ st) : Sts H' own e st (pl ++ [pay]) (P ++ [t]):=by
 refine ⟨he,hst,h.oe,h.ost,h.ne,by rw [List.length_append,List.length_append,h.len];rfl,fun q u hq=>?_⟩
 by_cases hq2 : q < P.length
 ·rw [List.getElem?_append_left hq2] at hq
  obtain ⟨σq,ro',z',lv',g1,g2,g3⟩:=h.rep q u hq
  have:=h.len
  exact ⟨σq,ro',z',lv',by rw [List.take_append_of_le_length (by omega)];exact g1,g2.frame (fun i hi=>hk i (g2.lt i hi) (g3 i hi).2.1 (g3 i hi).2.2) hl,g3⟩
 ·have hqe : q = P.length:=by
   have:=(List.getElem?_eq_some_iff.1 hq).1
   simp at this;omega
  subst hqe
  rw [List.getElem?_concat_length] at hq
  cases hq
  exact ⟨σn,ro,z,lv,by rw [List.take_of_length_le (by simp [h.len])];exact h1,h2,h3⟩
theorem Sts.start {H3 : List AObj} {s r : Nat} {own : Nat → Prop} (hT : Two H3 s r (Sto.new []) own) :
  Sts (H3 ++ [.arr 1 [[.int .i64 0]]] ++ rnewX (H3 ++ [AObj.arr 1 [[.int .i64 0]]]).length ++ [.arr 1 [[.ptr ((H3 ++ [AObj.arr 1 [[.int .i64 0]]]).length + 3) 1 0 0]]]) own H3.length
   (H3 ++ [AObj.arr 1 [[.int .i64 0]]] ++ rnewX (H3 ++ [AObj.arr 1 [[.int .i64 0]]]).length).length [] [(H3 ++ [AObj.arr 1 [[.int .i64 0]]]).length + 3]:=by
 have hlt:=fun i hi=>hT.lt (i:=i) hi
 have l1 : (H3 ++ [AObj.arr 1 [[.int .i64 0]]]).length = H3.length + 1:=by simp
 have l2 : (H3 ++ [AObj.arr 1 [[.int .i64 0]]] ++ rnewX (H3 ++ [AObj.arr 1 [[.int .i64 0]]]).length).length = H3.length + 5:=by simp [rnewX]
 refine ⟨?_,by simp [ptC],fun h=>by have:=hlt _ h;omega,fun h=>by have:=hlt _ h;omega,by omega,rfl,fun q t hq=>?_⟩
 ·rw [List.append_assoc,List.append_assoc,List.getElem?_append_right (Nat.le_refl _),Nat.sub_self];rfl
 ·obtain rfl : q = 0:=by
   have:=(List.getElem?_eq_some_iff.1 hq).1
   simp at this;exact this
  cases hq
  refine ⟨Sto.new [],_,_,_,(opS_jLog (l:=[]) (fun p hp=>by cases hp)),(RepR.empty (H3 ++ [AObj.arr 1 [[.int .i64 0]]])).app,fun i hi=>?_⟩
  unfold newRo at hi
  have : H3.length + 1 ≤ i ∧ i ≤ H3.length + 4:=by
   rw [l1] at hi
   split at hi
   ·omega
   ·split at hi
    ·omega
    ·split at hi
     ·omega
     ·split at hi
      ·omega
      ·exact absurd rfl hi
  exact ⟨fun h=>by have:=hlt _ h;omega,by omega,by omega⟩
set_option maxRecDepth 20000 in
theorem law_StoreRestarts {P : Program} (F : F_z1b P)
  (hM1 : MClone P F.z1d.z0i.z0u.z0w.z0t.z0d.id)
  (hK1 : SKeys P F.z1d.z0i.z0u.z0w.z10.slices_Sorted_string.id F.z1d.z0i.z0u.z0w.z10.z0f.maps_Keys_mapstringstorechange_string_storechange_1.id)
  (hR1 : JRead P F.z1d.z0i.z09.journal_Read.id) (hR2 : JRead P F.z1d.z0i.journal_Read.id)
  (hM2 : MClone P F.z1d.z0j.z0t.z0d.id)
  (hK2 : SKeys P F.z1d.z0j.z10.slices_Sorted_string.id F.z1d.z0j.z10.z0f.maps_Keys_mapstringstorechange_string_storechange_1.id)
  (hL1 : SKeys P F.z1d.z0m.slices_Sorted_string.id F.z1d.z0m.z0e.maps_Keys_mapstringLbyte_string_Lbyte_1.id)
  (hM3 : MClone P F.z0i.z0u.z0w.z0t.z0d.id)
  (hK3 : SKeys P F.z0i.z0u.z0w.z10.slices_Sorted_string.id F.z0i.z0u.z0w.z10.z0f.maps_Keys_mapstringstorechange_string_storechange_1.id)
  (hR3 : JRead P F.z0i.z09.journal_Read.id) (hR4 : JRead P F.z0i.journal_Read.id)
  (hM4 : MClone P F.z1e.z0j.z0t.z0d.id)
  (hK4 : SKeys P F.z1e.z0j.z10.slices_Sorted_string.id F.z1e.z0j.z10.z0f.maps_Keys_mapstringstorechange_string_storechange_1.id)
  (hL2 : SKeys P F.z1f.z0m.slices_Sorted_string.id F.z1f.z0m.z0e.maps_Keys_mapstringLbyte_string_Lbyte_1.id)
  (hK5 : SKeys P F.z1f.z0q.slices_Sorted_string.id F.z1f.z0q.z0f.maps_Keys_mapstringstorechange_string_storechange_1.id)
  (hK6 : SKeys P F.z0q.slices_Sorted_string.id F.z0q.z0f.maps_Keys_mapstringstorechange_string_storechange_1.id)
  (ls : List Int) (cut : Int) :
  ACalls P F.id [.list false 1 (iC ls),.int .i64 cut] [] (fun r _=>r = .bool true):=by
 have fin : ∀ H,ACalls P F.z1d.id [] H (fun r H'=>r = .bool true ∧ H' = H):=known36_spec F.z1d hM1 hK1 hR1 hR2 hM2 hK2 hL1
 refine acalls_of_body F.has ?_
 (conv=>whnf);refine recA (fun h1=>?_) (fun h1=>?_)
 ·(conv=>whnf);refine ACalls.use (fin _) ?_
  conv=>whnf
 rw [iC_length] at h1
 simp at h1
 (conv=>whnf);refine ACalls.mono (pOpen_nil F.z0i hM3 hK3 hR3 hR4 _) ?_
 rintro r H2 ⟨s,ro,z,rfl,hP,hp⟩
 repeat ((conv=>whnf);first | refine recT (by decide) ?_ | refine recF (by decide) ?_)
 (conv=>whnf);refine ACalls.mono (rNew_spec F.z1m _) ?_
 rintro r H3 ⟨rfl,rfl⟩
 obtain ⟨own0,hT0⟩:=Two.start hP
 obtain ⟨r,hr⟩ : ∃ r,r = H2.length + 3:=⟨_,rfl⟩
 rw [← hr] at hT0 ⊢
 obtain ⟨H3,hH3⟩ : ∃ H3,H3 = H2 ++ rnewX H2.length:=⟨_,rfl⟩
 rw [← hH3] at hT0 ⊢
 (conv=>whnf);refine snocK_to ?_
 (conv=>whnf);refine ACalls.mono (rNew_spec F.z1m _) ?_
 rintro t H4 ⟨rfl,rfl⟩
 (conv=>whnf);refine snocK_to ?_
 (conv=>whnf);refine ACalls.use (acts_spec F.z1c ls (by omega) _) ?_
 obtain ⟨q,hq⟩ : ∃ q,q = actL ls:=⟨_,rfl⟩
 obtain ⟨g1,g2⟩:=actF_sm ls 40 0
 have hql : q.length ≤ 40:=by rw [hq];exact g1
 have hqs : ∀ x ∈ q,x.Sm:=by rw [hq];exact g2
 have hS0:=Sts.start hT0
 have hT1 : Two (H3 ++ [.arr 1 [[.int .i64 0]]] ++ rnewX (H3 ++ [AObj.arr 1 [[.int .i64 0]]]).length ++ [.arr 1 [[.ptr ((H3 ++ [AObj.arr 1 [[.int .i64 0]]]).length + 3) 1 0 0]]]) s r (Sto.new []) own0:=hT0.app.app.app
 obtain ⟨t0,ht0⟩ : ∃ t0,t0 = (H3 ++ [AObj.arr 1 [[.int .i64 0]]]).length + 3:=⟨_,rfl⟩
 rw [← ht0] at hS0 hT1 ⊢
 obtain ⟨e,he⟩ : ∃ e,e = H3.length:=⟨_,rfl⟩
 obtain ⟨st,hst⟩ : ∃ st,st = (H3 ++ [AObj.arr 1 [[.int .i64 0]]] ++ rnewX (H3 ++ [AObj.arr 1 [[.int .i64 0]]]).length).length:=⟨_,rfl⟩
 rw [← he,← hst] at hS0
 conv=>whnf
 refine ⟨fun m ρ H4=>∃ (j : Nat) (σ : Sto) (own : Nat → Prop) (pl : List (List Int)) (P : List Nat),j + m = q.length ∧ σ.Inv j ∧ Recd pl σ ∧ σ.log.length ≤ 10508 * j ∧ pl.length ≤ j ∧ Two H4 s r σ own ∧ Sts H4 own e st pl P ∧
  Sv 131 [(1,.int .i64 cut),(5,.ptr s 1 0 0),(7,.ptr r 1 0 0),(8,.sl e (pl.length + 1) 0 (pl.length + 1)),(9,.sl st (pl.length + 1) 0 (pl.length + 1)),(40,.list false 10 (evC q)),(41,.int .i64 q.length),(42,.int .i64 j)] ρ,q.length,[],?_,?_⟩
 ·refine ⟨0,_,_,_,_,by omega,Sto.Inv.new (by decide) byt_nil,Recd.start,Nat.le_refl _,Nat.le_refl _,hT1,hS0,Sv.intro rfl ⟨rfl,rfl,rfl,?_,?_,?_,?_,rfl,trivial⟩⟩
  ·rw [he];exact congrArg (fun n=>AVal.sl n 1 0 1) (Nat.zero_add _)
  ·rw [hst];exact congrArg (fun n=>AVal.sl n 1 0 1) (Nat.zero_add _)
  ·rw [hq];rfl
  ·rw [hq];exact intEq (by rw [evC_length])
 rintro m ρ H4 ⟨j,σ,own,pl,P,hj,hI,hRc,hlg,hpl,hT,hS,d2,rfl⟩
 (conv=>whnf);refine recA (fun hlt2=>?_) (fun hlt2=>?_)
 ·simp at hlt2
  obtain ⟨x,hx,_,hxm⟩:=get_drop hlt2
  have hxs:=hqs x hxm
  (conv=>whnf);refine And.intro (by omega) ?_
  (conv=>whnf);refine recO (evC_at hx) ?_
  (conv=>whnf);refine snocK_to ?_
  (conv=>whnf);refine recO (at_snoc _ _) ?_
  (conv=>whnf);refine recT (by rw [show ([AVal.int .i64 x.k,.list x.ex 1 (bC x.d),.str x.t,.str x.n,x.r4,x.r5,x.r6,x.r7,x.r8,x.r9]).all AVal.isCell = true from hxs.p.cells];rfl) ?_
  (conv=>whnf);refine setO_at (set_snoc _ _ _) ?_
  (conv=>whnf);refine recO (at_snoc _ _) ?_
  (conv=>whnf);refine ACalls.mono (play_spec F.z1e hM4 hK4 hT.app x hxs.p (by have:=hxs.n;omega) (by have:=hxs.d;omega) (hI.fit2 (by omega))) ?_
  rintro v H5 ⟨rfl,own',hT',hpo⟩
  have hI':=hI.play (x:=x) hxs.d hxs.b
  have hlg':=playS_grow hI (by omega) x hlg
  have hS':=hS.frame ((PostO.app _ _ _).trans hpo)
  have hw1 : IntKind.i64.wrap ((j : Int) + 1) = ((j + 1 : Nat) : Int):=by rw [wrapI _ (by omega) (by omega)];omega
  have hRp:=hRc.play hI (by omega) x
  generalize playS x σ = τ at *
  have hT'':=hT'
  obtain ⟨roA,zA,roB,zB,lvB,hPA,hRB,hdAB,hown⟩:=hT''
  repeat ((conv=>whnf);first | refine recT (by decide) ?_ | refine recF (by decide) ?_)
  have hTl : τ.log.length ≤ 420320:=by omega
  have hTa : 10508 * (j + 1) ≤ 420320:=by omega
  (conv=>whnf);refine ACalls.use (rLog_frz F.z1q hRB (by omega)) ?_
  (conv=>whnf);refine recO (hS'.he) ?_
  (conv=>whnf);refine recT (by rw [iC_length,endsL_length];exact Nat.beq_refl _) ?_
  have hwp : IntKind.i64.wrap (((pl.length + 1 : Nat) : Int) - 1) = (pl.length : Int):=by rw [wrapI _ (by omega) (by omega)];omega
  have hel:=endsL_length pl
  (conv=>whnf);refine recO (hS'.he) ?_
  (conv=>whnf);refine recT (by rw [iC_length,endsL_length];exact Nat.beq_refl _) ?_
  (conv=>whnf);refine And.intro (by rw [hwp];omega) ?_
  (conv=>whnf);refine recO (hS'.he) ?_
  (conv=>whnf);refine recT (by rw [iC_length,endsL_length];exact Nat.beq_refl _) ?_
  (conv=>whnf);refine recO ((show (iC (endsL pl))[0 + (IntKind.i64.wrap (((pl.length + 1 : Nat) : Int) - 1)).toNat]? = some [.int .i64 ((jLog pl).length : Int)] by rw [hwp,Nat.zero_add,Int.toNat_natCast,iC_at (endsL_at pl (Nat.le_refl _)),List.take_length])) ?_
  rcases hRp with ⟨h1,hR1⟩ | ⟨pay,h1,hR1⟩
  ·(conv=>whnf);refine recF (by rw [bC_length,h1,hRc.lg];simp) ?_
   conv=>whnf
   refine ⟨m - 1,by omega,Gp.keep rfl ?_ fun ρ1 h=>⟨j + 1,_,_,_,_,by omega,hI',hR1,hlg',by omega,hT',hS',h⟩⟩
   exact ⟨rfl,rfl,rfl,rfl,rfl,rfl,rfl,intEq hw1,trivial⟩
  ·(conv=>whnf);refine recT (by rw [bC_length,h1,hRc.lg];simp;omega) ?_
   (conv=>whnf);refine ACalls.use (rLog_frz F.z1q hRB (by omega)) ?_
   obtain ⟨σn,hσn⟩:=hR1.opened
   (conv=>whnf);refine ACalls.mono (rOpen_cl F.z1n false (show τ.log.length ≤ 1000000 by omega) hI'.lb _) ?_
   intro v H6 hq2
   rw [(opS_both (show τ.log.length ≤ 1000000 by omega) hI'.lb).1,hR1.lg,hσn] at hq2
   obtain ⟨t,ron,zn,lvn,rfl,hRn,hpn⟩:=hq2
   obtain ⟨G6,hG6⟩:=post_app hpn
   subst hG6
   (conv=>whnf);refine recO (at_old hS'.he) ?_
   (conv=>whnf);refine recT (by rw [iC_length,endsL_length];exact Nat.beq_refl _) ?_
   (conv=>whnf);refine And.intro (⟨by simp [roomB];omega,by simp [roomB];omega,rfl,by rw [iC_length,endsL_length]⟩) ?_
   obtain ⟨H7,hH7⟩ : ∃ H7,H7 = (H5 ++ G6).set e (.arr 1 (iC (endsL pl) ++ [[AVal.int IntKind.i64 ((bC τ.log).length : Nat)]])):=⟨_,rfl⟩
   (conv=>whnf);refine setO_at hH7.symm ?_
   have h7st : H7[st]? = some (.arr 1 (ptC P)):=by rw [hH7,get_ne' hS'.ne];exact at_old hS'.hst
   have hPl:=hS'.len
   (conv=>whnf);refine snocK_to ?_
   (conv=>whnf);refine recO (at_snoc _ _) ?_
   (conv=>whnf);refine recO (at_old h7st) ?_
   (conv=>whnf);refine recT (by rw [ptC_length,hPl];exact Nat.beq_refl _) ?_
   (conv=>whnf);refine And.intro (⟨by simp [roomB];omega,by simp [roomB];omega,rfl,by rw [ptC_length,hPl]⟩) ?_
   obtain ⟨H8,hH8⟩ : ∃ H8,H8 = (H7 ++ [AObj.arr 1 [[.ptr t 1 0 0]]]).set st (.arr 1 (ptC P ++ [[.ptr t 1 0 0]])):=⟨_,rfl⟩
   (conv=>whnf);refine setO_at hH8.symm ?_
   have hle5 : e < H5.length:=(List.getElem?_eq_some_iff.1 hS'.he).1
   have hls5 : st < H5.length:=(List.getElem?_eq_some_iff.1 hS'.hst).1
   have hlen8 : H8.length = (H5 ++ G6).length + 1:=by rw [hH8,hH7];simp
   have hk8 : ∀ i,i < (H5 ++ G6).length → i ≠ e → i ≠ st → H8[i]? = (H5 ++ G6)[i]?:=fun i hi he' hs'=>by
    rw [hH8,get_ne' (Ne.symm hs'),List.getElem?_append_left (by rw [hH7,List.length_set];exact hi),hH7,get_ne' (Ne.symm he')]
   have hk5 : ∀ i,i < H5.length → i ≠ e → i ≠ st → H8[i]? = H5[i]?:=fun i hi he' hs'=>by
    rw [hk8 i (by rw [List.length_append];omega) he' hs',List.getElem?_append_left hi]
   have hown' : ∀ i,own' i → i < H5.length:=fun i hi=>hT'.lt hi
   have hT8 : Two H8 s r τ own':=hT'.frame (fun i hi=>hk5 i (hown' i hi) (fun h=>hS'.oe (h ▸ hi)) (fun h=>hS'.ost (h ▸ hi))) (by rw [hlen8,List.length_append];omega)
   have hron : ∀ i,ron i ≠ none → ¬ own' i ∧ i ≠ e ∧ i ≠ st:=fun i hi=>by
    have hge : H5.length ≤ i:=Nat.le_of_not_lt fun h=>hi (hpn.2 i h rfl).1
    exact ⟨fun h=>by have:=hown' i h;omega,by omega,by omega⟩
   have he8 : H8[e]? = some (.arr 1 (iC (endsL (pl ++ [pay])))):=by
    rw [hH8,get_ne' (Ne.symm hS'.ne),List.getElem?_append_left (by rw [hH7,List.length_set,List.length_append];omega),hH7,List.getElem?_set_self (by rw [List.length_append];omega),endsL_snoc,iC_append,bC_length,hR1.lg]
    rfl
   have hst8 : H8[st]? = some (.arr 1 (ptC (P ++ [t]))):=by
    rw [hH8,List.getElem?_set_self (by rw [hH7];simp;omega),ptC_snoc]
   have hS8 : Sts H8 own' e st (pl ++ [pay]) (P ++ [t]):=hS'.add (by rw [hlen8,List.length_append];omega) hk5 he8 hst8 hσn
    (hRn.frame (fun i hi=>hk8 i (hRn.lt i hi) (hron i hi).2.1 (hron i hi).2.2) (by rw [hlen8];omega)) hron
   have hpl8 : (pl ++ [pay]).length = pl.length + 1:=by simp
   conv=>whnf
   refine ⟨m - 1,by omega,Gp.keep rfl ?_ fun ρ1 h=>⟨j + 1,_,_,_,_,by omega,hI',hR1,hlg',by omega,hT8,hS8,h⟩⟩
   exact ⟨rfl,rfl,rfl,slEq (by simp [iC_length,endsL_length]) (by simp [iC_length,endsL_length]),slEq (by simp [ptC_length,hPl]) (by simp [ptC_length,hPl]),rfl,rfl,intEq hw1,trivial⟩
 ·simp at hlt2
  have hj40 : j ≤ 40:=by omega
  obtain ⟨roA,zA,roB,zB,lvB,hPA,hRB,hdAB,hown⟩:=id hT
  have hll : σ.log.length ≤ 420320:=by
   have : 10508 * j ≤ 10508 * 40:=Nat.mul_le_mul_left _ hj40
   omega
  (conv=>whnf);refine ACalls.use (Log_spec F.z0l hPA (by omega)) ?_
  have hw1b : IntKind.i64.wrap (((bC σ.log).length : Int) + 1) = ((σ.log.length + 1 : Nat) : Int):=by rw [bC_length,wrapI _ (by omega) (by omega)];omega
  have hc0:=Int.emod_nonneg cut (show ((σ.log.length + 1 : Nat) : Int) ≠ 0 by omega)
  have hc1:=Int.emod_lt_of_pos cut (show (0 : Int) < ((σ.log.length + 1 : Nat) : Int) by omega)
  have hpls:=Place_spec F.z28 cut ((σ.log.length + 1 : Nat) : Int) (by omega) (by omega)
  obtain ⟨c,hc⟩ : ∃ c : Nat,cut % ((σ.log.length + 1 : Nat) : Int) = c:=⟨(cut % ((σ.log.length + 1 : Nat) : Int)).toNat,by omega⟩
  rw [hc] at hc0 hc1 hpls
  rw [← hw1b] at hpls
  (conv=>whnf);refine ACalls.use (hpls _) ?_
  have hel:=endsL_length pl
  (conv=>whnf);refine recO (hS.he) ?_
  (conv=>whnf);refine recT (by rw [iC_length,endsL_length];exact Nat.beq_refl _) ?_
  conv=>whnf
  refine ⟨fun m ρ H5=>∃ i a : Nat,i + m = pl.length + 1 ∧ H5 = H4 ∧ a ≤ pl.length ∧ (jLog (pl.take a)).length ≤ c ∧ (∀ b,a < b → b < i → c < (jLog (pl.take b)).length) ∧
   Sv 131 [(8,.sl e (pl.length + 1) 0 (pl.length + 1)),(9,.sl st (pl.length + 1) 0 (pl.length + 1)),(15,.list false 1 (bC σ.log)),(16,.int .i64 c),(17,.int .i64 a),(85,.int .i64 ((pl.length + 1 : Nat) : Int)),(86,.int .i64 i)] ρ,pl.length + 1,[],?_,?_⟩
  ·exact ⟨0,0,by omega,rfl,Nat.zero_le _,Nat.zero_le _,(fun b _ h=>by omega),Sv.intro rfl ⟨rfl,rfl,rfl,rfl,rfl,rfl,rfl,trivial⟩⟩
  rintro m ρ H5 ⟨i,a,hi,rfl,ha,hac,hab,d3,rfl⟩
  (conv=>whnf);refine recA (fun hlt3=>?_) (fun hlt3=>?_)
  ·simp at hlt3
   (conv=>whnf);refine recO (hS.he) ?_
   (conv=>whnf);refine recT (by rw [iC_length,endsL_length];exact Nat.beq_refl _) ?_
   (conv=>whnf);refine And.intro (by omega) ?_
   (conv=>whnf);refine recO (hS.he) ?_
   (conv=>whnf);refine recT (by rw [iC_length,endsL_length];exact Nat.beq_refl _) ?_
   (conv=>whnf);refine recO ((show (iC (endsL pl))[0 + ((i : Int)).toNat]? = some [.int .i64 ((jLog (pl.take i)).length : Int)] by rw [Nat.zero_add,Int.toNat_natCast,iC_at (endsL_at pl (by omega))])) ?_
   have hw2 : IntKind.i64.wrap ((i : Int) + 1) = ((i + 1 : Nat) : Int):=by rw [wrapI _ (by omega) (by omega)];omega
   (conv=>whnf);refine recA (fun hle=>?_) (fun hle=>?_)
   ·simp at hle
    conv=>whnf
    refine ⟨m - 1,by omega,Gp.keep rfl ?_ fun ρ1 h=>⟨i + 1,i,by omega,rfl,by omega,by omega,(fun b h1 h2=>by omega),h⟩⟩
    exact ⟨rfl,rfl,rfl,rfl,rfl,rfl,intEq hw2,trivial⟩
   ·simp at hle
    conv=>whnf
    refine ⟨m - 1,by omega,Gp.keep rfl ?_ fun ρ1 h=>⟨i + 1,a,by omega,rfl,ha,hac,(fun b h1 h2=>by
     rcases Nat.lt_or_ge b i with h | h
     ·exact hab b h1 h
     ·have : b = i:=by omega
      subst this
      omega),h⟩⟩
    exact ⟨rfl,rfl,rfl,rfl,rfl,rfl,intEq hw2,trivial⟩
  ·simp at hlt3
   have hcut:=cut_pays (l:=pl) hRc.le (w:=a) (cut:=c) ha hac (by
    rcases Nat.lt_or_ge a pl.length with h | h
    ·exact .inr (hab (a + 1) (by omega) (by omega))
    ·exact .inl (by omega))
   rw [← hRc.lg] at hcut
   obtain ⟨ta,hta⟩ : ∃ ta,P[a]? = some ta:=⟨_,List.getElem?_eq_getElem (by rw [hS.len];omega)⟩
   obtain ⟨σa,roa,za,lva,hoa,hRa,hra⟩:=hS.rep a ta hta
   have hle6 : ∀ p ∈ pl.take a,p.length ≤ 65536:=fun p hp=>hRc.le p (List.mem_of_mem_take hp)
   have hbyt : Byt (jLog (pl.take a)):=jLog_byt fun p hp=>(hRc.pb p (List.mem_of_mem_take hp)).1
   have hjl : (jLog (pl.take a)).length ≤ 1000000:=Nat.le_trans (jLog_take_le pl a) (by rw [← hRc.lg];omega)
   obtain ⟨hInv,hstg,_⟩:=(opS_both hjl hbyt).2 σa hoa
   rw [pays_of_jLog hle6] at hInv
   rw [opS_jLog hle6] at hoa
   have hsl : List.drop 0 (List.take (c : Int).toNat (bC σ.log)) = bC (σ.log.take c):=slice_bC σ.log c
   have hop:=pOpen_cl F.z0i hM3 hK3 hR3 hR4 false (zs:=σ.log.take c) (by rw [List.length_take];omega) (fun x hx=>hI.lb x (List.mem_of_mem_take hx)) H5
   rw [← hsl] at hop
   have hbl:=bC_length σ.log
   (conv=>whnf);refine And.intro (⟨by omega,by omega⟩) ?_
   (conv=>whnf);refine ACalls.mono (hop) ?_
   intro v H9 hq3
   unfold OpP at hq3
   rw [hcut.1,hoa] at hq3
   obtain ⟨_,s9,ro9,z9,rfl,hP9,hp9⟩:=hq3
   repeat ((conv=>whnf);first | refine recT (by decide) ?_ | refine recF (by decide) ?_)
   have h9st : H9[st]? = some (.arr 1 (ptC P)):=(hp9.2 st (List.getElem?_eq_some_iff.1 hS.hst).1 rfl).2.trans hS.hst
   have hPl:=hS.len
   have hT9 : Two H9 s9 ta σa (ownRR ro9 roa):=⟨ro9,z9,roa,za,lva,hP9,hRa.frame (fun i hi=>(hp9.2 i (hRa.lt i hi) rfl).2) hp9.1,fun i hi=>Classical.byContradiction fun hne=>hi (hp9.2 i (hRa.lt i hne) rfl).1,rfl⟩
   have hakk : (pl.take a).length ≤ 1000000:=by rw [List.length_take];omega
   have hshw:=hInv.shwE hakk hstg
   have hsh:=(shows_spec F.z1f hL2 hK5 hT9 hshw false [] (fun e he=>by cases he) (by decide)).weakD (args:=[.ptr s9 1 0 0,.ptr ta 1 0 0,.nil]) (.cons (.refl _) (.cons (.refl _) (.cons (.nil false 10) .nil)))
   (conv=>whnf);refine recO (h9st) ?_
   (conv=>whnf);refine recT (by rw [ptC_length,hPl];exact Nat.beq_refl _) ?_
   (conv=>whnf);refine And.intro (by omega) ?_
   (conv=>whnf);refine recO (h9st) ?_
   (conv=>whnf);refine recT (by rw [ptC_length,hPl];exact Nat.beq_refl _) ?_
   (conv=>whnf);refine recO ((show (ptC P)[0 + ((a : Int)).toNat]? = some [.ptr ta 1 0 0] by rw [Nat.zero_add,Int.toNat_natCast,ptC_at hta])) ?_
   (conv=>whnf);refine ACalls.mono (hsh) ?_
   rintro v H10 ⟨rfl,X,rfl⟩
   have hst1:=Staged_spec F.z0q hK6 (hP9.app (X:=X)) hshw.f bLive (hshw.ns _) (hshw.ks _)
   have hst2:=Staged_spec F.z0q hK6 (hP9.app (X:=X)) hshw.f bShadow (hshw.ns _) (hshw.ks _)
   rw [hstg] at hst1 hst2
   repeat ((conv=>whnf);first | refine recT (by decide) ?_ | refine recF (by decide) ?_)
   (conv=>whnf);refine ACalls.use (hst1) ?_
   (conv=>whnf);refine ACalls.use (hst2) ?_
   repeat ((conv=>whnf);first | refine recT (by decide) ?_ | refine recF (by decide) ?_)
   (conv=>whnf);refine ACalls.use (fin _) ?_
   conv=>whnf
end Go.AW
namespace Go.AW
open Go.Proofs Go.Shelf Go.RowKit Go.Maps Go.Sort
variable [Draws]
variable {P : Program}
theorem one_arg {a : AVal} {vs : Array Value} (hl : [a].length = vs.size) : ∃ v,vs = #[v]:=by
 obtain ⟨m⟩:=vs
 match m,hl with
 | [v],_=>exact ⟨v,rfl⟩
theorem mclone_of {ρ : Go.Shelf.Ren} (L : SlLaysW.n5 P ρ) (e5 : ∀ args w,(callFunc (ρ.f 5) args).run P w = .ok (.enter (ρ.f 5) args) w) : MClone P (ρ.f 5):=by
 intro H id kvs d hid _ C τ w vs hw hl hr
 obtain ⟨v,rfl⟩:=one_arg hl
 obtain ⟨l,ht,rfl⟩:=mp_inv (hr 0 _ v rfl rfl)
 obtain ⟨kvs0,es,clock,hp,hb,hsz,hel,hnd,hbn,hlt⟩:=hw.objs id _ l hid ht
 unfold CallsX
 rw [e5]
 refine Calls.mono (AnyW.maps_Clone L l.b es clock w hb) ?_
 rintro e w' ⟨rfl,rfl⟩
 obtain ⟨st,s⟩:=(St.start hw).alloc_obj (.map es clock) (.map kvs) 0 trivial fun C' τ' H' w' hs hh =>
  ⟨kvs0,es,clock,hp,hh,hsz,fun i e kv he hkv=>⟨(hel i e kv he hkv).1,(hel i e kv he hkv).2.mono hs⟩,hnd,hbn,hlt⟩
 exact ⟨_,.mp H.length,_,_,_,rfl,⟨rfl,rfl⟩,.mp H.length (.map kvs) _ (by simp) rfl (updF_same _ _ _),st,s⟩
def Cnw (C : Nat → Nat) (w W' : World) (x : Nat) : Nat:=if x < w.heap.size then C x else match W'.heap[x]? with
 | some (.cells cs _ _)=>cs.size
 | _=>0
theorem Cnw_lt {C : Nat → Nat} {w W' : World} (hw : w.heap.size ≤ W'.heap.size) (b : Nat) (hC : ∀ b,0 < C b → b < w.heap.size) (h : 0 < Cnw C w W' b) : b < W'.heap.size:=by
 unfold Cnw at h
 by_cases hb : b < w.heap.size
 ·omega
 ·rw [if_neg hb] at h
  by_cases hb2 : b < W'.heap.size
  ·exact hb2
  ·rw [Array.getElem?_eq_none (by omega)] at h;simp at h
theorem st_blw (hup : ¬ Draws.up) {C : Nat → Nat} {τ : Nat → Option Go.AW.Loc} {H : List AObj} {w W' : World} (hw : WF C τ H w) (hB : Below w.heap.size w W') : St w (PrCall τ H w) (Cnw C w W') τ H W' ∧ Step C τ H w (Cnw C w W') τ H W':=by
 have s : Step C τ H w (Cnw C w W') τ H W':=by
  refine ⟨fun b=>?_,fun b i hi=>?_,fun id o h=>⟨o,h,o.after_refl _⟩,hB.size,fun b hb=>by rw [Cnw,if_pos hb]⟩
  ·by_cases hb : b < w.heap.size
   ·rw [Cnw,if_pos hb];exact Nat.le_refl _
   ·have : C b = 0:=by
     rcases Nat.eq_zero_or_pos (C b) with h | h
     ·exact h
     ·exact absurd (hw.lt b h) hb
    omega
  ·exact hB.cell (p:=⟨b,i,none⟩) (hw.lt b (by omega))
 refine ⟨⟨⟨hw.ok,hw.virt,fun id o l h1 h2=>(hw.objs id o l h1 h2).mono s (hB.block _ (hw.locLt (List.getElem?_eq_some_iff.1 h1).1 h2)),fun id l h1 h2=>?_,hw.inj,fun b hb=>Cnw_lt hB.size b hw.lt hb⟩,⟨hB.os,hB.tape,hB.output,hB.size,fun b hb=>hB.block b hb.1,fun u=>absurd u hup⟩,fun b ho hp=>hp.2 ho,fun b hb=>hb.1⟩,s⟩
 rw [Cnw,if_pos (hw.locLt h1 h2)]
 exact hw.comm id l h1 h2
theorem box_cell {C : Nat → Nat} {τ : Nat → Option Go.AW.Loc} {H : List AObj} {w : World} (hw : WF C τ H w) {box : Nat} {m : AVal} {v : Value} (hb : H[box]? = some (.arr 1 [[m]])) (hr : Rel C w τ H (.ptr box 1 0 0) v) :
  ∃ B u,v = .pointer (some ⟨B,0,none⟩) ∧ w.cell? ⟨B,0,none⟩ = some u ∧ B < w.heap.size ∧ Rel C w τ H m u:=by
 cases hr with
 | rd h=>cases h
 | ptr _ _ _ _ a esz es ho hep h =>
  rw [hb] at ho
  cases ho
  obtain ⟨l,ht,rfl⟩:=h rfl
  obtain ⟨_,cells,elem,fz,h1,_,_,h4⟩:=hw.objs box _ l hb ht
  obtain ⟨u,hu,hru⟩:=h4 0 0 [m] m rfl rfl
  refine ⟨l.b,u,rfl,?_,hw.locLt (List.getElem?_eq_some_iff.1 hb).1 ht,hru⟩
  simp only [World.cell?,h1]
  exact hu
theorem row_list {C : Nat → Nat} {w W' : World} {e : TypeId} {v : Value} {ks : List ByteArray} (h : W'.ownsRow w.heap.size e 1 v ks.length (ks.map fun k=>Value.string k)) :
  Rd (Cnw C w W') W' (.list false 1 (ks.map fun k=>[AVal.str k])) v:=by
 rcases h.2 with ⟨rfl,hn⟩ | ⟨g,cp,cur,rfl,hg,hgb,hncap,_,hcs,htake⟩
 ·have : ks = []:=List.eq_nil_of_length_eq_zero hn
  subst this
  exact .list0 _ _ _ _ (by simp)
 ·have hC : Cnw C w W' g = cur.size:=by unfold Cnw;rw [if_neg (by omega),hgb]
  have hcell : ∀ i,i < ks.length → W'.cell? ⟨g,0 + i * 1 + 0,none⟩ = some (.string (ks.getD i ⟨#[]⟩)):=fun i hi=>by
   simp only [World.cell?,hgb]
   have h1:=congrArg (fun l=>l[i]?) htake
   simp only [List.getElem?_take,Nat.mul_one,if_pos hi,List.getElem?_map,List.getElem?_eq_getElem hi,Option.map_some] at h1
   rw [show 0 + i * 1 + 0 = i by omega,← Array.getElem?_toList,h1,List.getD_eq_getElem?_getD,List.getElem?_eq_getElem hi]
   rfl
  have:=Rd.list (C:=Cnw C w W') (w:=W') false 1 (ks.map fun k=>[AVal.str k]) g 0 cp (fun i _=>.string (ks.getD i ⟨#[]⟩)) (by simp) (by rw [List.length_map];exact hncap) (fun e he=>by
   obtain ⟨x,_,rfl⟩:=List.mem_map.1 he
   rfl) (by rw [List.length_map,hC,hcs];omega) (fun i j hi hj=>by
   obtain rfl : j = 0:=by omega
   rw [List.length_map] at hi
   exact hcell i hi) (fun i j e d he hd=>by
   rw [List.getElem?_map] at he
   obtain ⟨x,_,rfl⟩:=Option.map_eq_some_iff.1 he
   rcases j with _ | j
   ·cases hd;rfl
   ·simp at hd) (fun i j e d he hd=>by
   rw [List.getElem?_map] at he
   obtain ⟨x,hx,rfl⟩:=Option.map_eq_some_iff.1 he
   rcases j with _ | j
   ·cases hd
    rw [List.getD_eq_getElem?_getD,hx]
    exact .str _
   ·simp at hd)
  rwa [List.length_map] at this
theorem leB_sorted {ks : List ByteArray} (h : ks.Pairwise fun a b=>ltB a b = true) : (ks.map fun k=>k.data.toList).mergeSort (fun x y=>decide (x ≤ y)) = ks.map fun k=>k.data.toList:=by
 refine List.mergeSort_of_pairwise (List.pairwise_map.2 (h.imp fun {a b} hab=>?_))
 unfold ltB at hab
 rw [bytesLess_eq] at hab
 exact decide_eq_true (List.le_of_lt (of_decide_eq_true hab))
def kbs : Value → List UInt8
 | .string s=>s.data.toList
 | _=>[]
def anyR (_ : Value) : Option (DataW Unit × List MemPlace):=some (.nil,[])
section
variable {ρk ρs ρm : Go.Shelf.Ren}
theorem skeys_of (hup : ¬ Draws.up) (Lk : SlLaysZ.n10 P ρk) (Ls : SlLaysZ.n6 P ρs) (Lm : SlLaysM.n6 P ρm) (h9 : ρs.f 9 = ρm.f 6)
  (e9 : ∀ args w,(callFunc (ρs.f 9) args).run P w = .ok (.enter (ρs.f 9) args) w) (e10 : ∀ args w,(callFunc (ρk.f 10) args).run P w = .ok (.enter (ρk.f 10) args) w)
  (e6 : ∀ args w,(callFunc (ρs.f 6) args).run P w = .ok (.enter (ρs.f 6) args) w) : SKeys P (ρs.f 6) (ρk.f 10):=by
 have hs : ∀ m,AnyZ.SortsIn P ρs Fence.wide m:=fun m=>by
  unfold AnyZ.SortsIn
  rw [h9]
  exact ⟨fun blk off cap ss W hH hblk hsz=>callsIn_wide.2 (AnyM.slices_Sort_string Lm blk off cap ss W hH hblk hsz),fun p cap W=>callsIn_wide.2 (AnyM.slices_Sort_string_none Lm p cap W)⟩
 have hfn : ∀ {C : Nat → Nat} {w : World} {τ : Nat → Option Go.AW.Loc} {H : List AObj} {p : AVal} {v : Value},Rel C w τ H (.fn (ρk.f 10) [p]) v → ∃ u,v = .func (.func (ρk.f 10)) #[] #[u] ∧ Rel C w τ H p u:=fun {C w τ H p v} h=>by
  cases h with
  | rd h=>cases h
  | fn _ _ vs hl h =>
   obtain ⟨u,rfl⟩:=one_arg hl
   exact ⟨u,rfl,h 0 _ _ rfl rfl⟩
 constructor
 ·intro H box id kvs ks hbox hid hks hsrt hn hsz C τ w vs hw hl hr
  obtain ⟨v,rfl⟩:=one_arg hl
  obtain ⟨u,rfl,hu⟩:=hfn (hr 0 _ v rfl rfl)
  obtain ⟨B,mv,rfl,hc,hB,hmv⟩:=box_cell hw hbox hu
  obtain ⟨l,ht,rfl⟩:=mp_inv hmv
  obtain ⟨kvs0,es,clock,hp,hb,hsize,hel,hnd,hbn,hlt⟩:=hw.objs id _ l hid ht
  have hkeys : es.toList.map (·.key) = kvs0.map fun kv=>kv.1.lit:=by
   apply List.ext_getElem?
   intro i
   rw [List.getElem?_map,List.getElem?_map]
   by_cases hi : i < es.size
   ·have h1 : es[i]? = some es[i]:=Array.getElem?_eq_getElem hi
    have h2 : kvs0[i]? = some (kvs0[i]'(by omega)):=List.getElem?_eq_getElem (by omega)
    rw [Array.getElem?_toList,h1,h2]
    simp only [Option.map_some]
    rw [(hel i _ _ h1 h2).1]
   ·rw [Array.getElem?_toList,Array.getElem?_eq_none (by omega),List.getElem?_eq_none (by omega)];rfl
  have hpk : (es.toList.map (·.key)).Perm (ks.map Value.string):=by
   rw [hkeys]
   have h1:=(hp.map (fun kv : AVal × AVal=>kv.1)).trans hks
   have h2:=h1.map AVal.lit
   rw [List.map_map,List.map_map] at h2
   exact h2
  have hreads : ∀ x ∈ es.toList,∃ k ∈ ks,x.key = .string k:=fun x hx=>by
   have:=hpk.mem_iff.1 (List.mem_map.2 ⟨x,hx,rfl⟩)
   obtain ⟨k,hk,e⟩:=List.mem_map.1 this
   exact ⟨k,hk,e.symm⟩
  have hrd : ∀ x ∈ es.toList,Go.WideElems.rd P (ρk.t 26) anyR x = some (.string (kbs x.key),.nil):=fun x hx=>by
   obtain ⟨k,hk,e⟩:=hreads x hx
   unfold Go.WideElems.rd anyR
   rw [e,Go.WideMaps.keyOf_string_mk Lk.t26 (Nat.le_trans (hsz k hk) (by decide))]
   rfl
  have hmap : es.toList.map (Go.WideElems.rg P (ρk.t 26) anyR) = es.toList.map fun x=>((.string (kbs x.key) : Lit),(.nil : DataW Unit)):=List.map_congr_left fun x hx=>by
   unfold Go.WideElems.rg
   rw [hrd x hx];rfl
  have hsz2 : es.size = ks.length:=by
   have:=hpk.length_eq
   rw [List.length_map,List.length_map,Array.length_toList] at this
   exact this
  have hkn : (es.toList.map (·.key)).Nodup:=by rw [hkeys];exact hnd
  obtain ⟨D0,hD0⟩ : ∃ D0 : DataW Unit,D0 = .map ((es.toList.map (Go.WideElems.rg P (ρk.t 26) anyR)).foldr DataW.insert []):=⟨_,rfl⟩
  have hown : w.ownsMap P (ρk.t 26) anyR l.b es.size D0:=⟨es,clock,hb,⟨by rw [hsz2];exact Nat.le_trans hn (by decide),⟨hlt,hbn,hkn⟩,fun x hx=>⟨_,hrd x hx⟩⟩,Nat.le_refl _,hD0⟩
  have hsp:=Go.WideShapes.sorted_perm (es.toList.map (Go.WideElems.rg (H:=Unit) P (ρk.t 26) anyR))
  have hperm : (strKeys D0).Perm (ks.map fun k=>k.data.toList):=by
   rw [hD0]
   refine (hsp.map _).trans ?_
   rw [hmap,List.map_map]
   have h2:=hpk.map kbs
   rw [List.map_map,List.map_map] at h2
   exact h2
  have hms : Maps.size D0 = ks.length:=by
   rw [hD0,Maps.size_eq,hsp.length_eq,List.length_map,Array.length_toList,hsz2]
  have hseq:=AnyZ.keys_gives Lk Fence.wide 2 trivial rfl (by omega) B l.b es.size D0 w hB hc hown
  have cS:=AnyZ.sorted_in Ls Fence.wide 5 trivial trivial trivial trivial rfl (by omega) (hs _) e9 (ρk.f 10) #[.pointer (some ⟨B,0,none⟩)] trivial e10 _ (Maps.size D0) (by rw [hms];exact Nat.le_trans hn (by decide)) (by rw [hms];omega) w hseq
  unfold CallsX
  rw [e6]
  refine Calls.mono (callsIn_wide.1 cS) ?_
  rintro e w' ⟨v,ss,rfl,hS,hrow,hnil,hbel⟩
  have hss : ss.mergeSort (fun x y=>decide (x ≤ y)) = ks.map fun k=>k.data.toList:=(mergeSort_of_perm (hS.trans hperm)).trans (leB_sorted hsrt)
  have hsl : ss.length = ks.length:=by rw [(hS.trans hperm).length_eq,List.length_map]
  rw [hss,hsl,List.map_map] at hrow
  have henc : (ks.map ((encStr) ∘ fun k=>k.data.toList)) = ks.map Value.string:=List.map_congr_left fun k _=>rfl
  obtain ⟨h1,h2⟩:=st_blw hup hw hbel
  exact ⟨_,_,_,_,_,rfl,⟨rfl,rfl⟩,.rd (row_list (by rw [← henc];exact hrow)),h1,h2⟩
 ·intro H box hbox C τ w vs hw hl hr
  obtain ⟨v,rfl⟩:=one_arg hl
  obtain ⟨u,rfl,hu⟩:=hfn (hr 0 _ v rfl rfl)
  obtain ⟨B,mv,rfl,hc,hB,hmv⟩:=box_cell hw hbox hu
  obtain rfl:=nilm_inv hmv
  have hseq : SeqGives Fence.wide 2 P (ρk.f 10) #[.pointer (some ⟨B,0,none⟩)] encStr (fun ss : List (List UInt8)=>ss = []) 0 w:=AnyZ.keys_gives_nil Lk Fence.wide _ trivial rfl B w hB hc
  have cS:=AnyZ.sorted_in Ls Fence.wide 5 trivial trivial trivial trivial rfl (by omega) (hs _) e9 (ρk.f 10) #[.pointer (some ⟨B,0,none⟩)] trivial e10 _ 0 (Nat.zero_le _) (by omega) w hseq
  unfold CallsX
  rw [e6]
  refine Calls.mono (callsIn_wide.1 cS) ?_
  rintro e w' ⟨v,ss,rfl,rfl,hrow,hnil,hbel⟩
  obtain ⟨h1,h2⟩:=st_blw hup hw hbel
  exact ⟨_,_,_,_,_,rfl,⟨rfl,rfl⟩,.rd (row_list (ks:=[]) (by simpa using hrow)),h1,h2⟩
end
end Go.AW
namespace Go.Proofs
open Go.RowKit Go.Shelf Go.AW
variable [Draws]
set_option linter.all false
set_option maxRecDepth 100000
attribute [local go_sem] Oper.semAt_some
set_option maxHeartbeats 1000000 in
theorem Tryz.entries_in (F : Fence) (n : Nat) (h5 : F.fn 109) (hro : F.round = none) (a : Option Addr) (len cap : Nat) (w : World) :
    CallsIn F n Tryz.prog 109 #[.slice a len cap] w fun e w' => e = .returned (.func (.func 158) #[] #[.pointer (some ⟨w.heap.size, 0, none⟩)]) ∧ w' = w.alloc (.cells #[.slice a len cap] 22) := by
  refine callsIn_of_wp Tryz.func109 rfl h5 ?_ hro
  simp only [Tryz.ntmps109, List.size_toArray, List.length_cons, List.length_nil, Nat.reduceAdd, Nat.reduceSub, Array.replicate_succ, Array.replicate_zero, List.push_toArray, List.append_toArray, List.nil_append, List.cons_append]
  gi_wp2
  go_ret
  exact ⟨rfl, rfl⟩
def offJ (off cap s : Nat) : Nat := if cap - s = 0 then off else off + s
def encJ (b off cap : Nat) (x : Nat × Nat) : Array Value := #[.slice (some ⟨b, offJ off cap x.1, none⟩) x.2 (cap - x.1), .int .i64 ((x.1 + x.2 : Nat) : Int)]
def LogAt (W : World) (Bs b off cap : Nat) (zs : List Int) : Prop :=
  W.cell? ⟨Bs, 0, none⟩ = some (.slice (some ⟨b, off, none⟩) zs.length cap) ∧ Bs < W.heap.size ∧ b < W.heap.size ∧ ∀ i x, zs[i]? = some x → W.cell? ⟨b, off + i, none⟩ = some (.int .u8 x)
def KeepJ (Bs b : Nat) (W W' : World) : Prop := W.heap.size ≤ W'.heap.size ∧ W'.heap[Bs]? = W.heap[Bs]? ∧ W'.heap[b]? = W.heap[b]?
theorem LogAt.kept {W W' : World} {Bs b off cap : Nat} {zs : List Int} (h : LogAt W Bs b off cap zs) (hk : KeepJ Bs b W W') : LogAt W' Bs b off cap zs := by
  obtain ⟨h1, h2, h3, h4⟩ := h
  obtain ⟨k1, k2, k3⟩ := hk
  exact ⟨by rw [World.cell?_of_block (w' := W') (a := ⟨Bs, 0, none⟩) k2]; exact h1, by omega, by omega, fun i x hx => by rw [World.cell?_of_block (w' := W') (a := ⟨b, off + i, none⟩) k3]; exact h4 i x hx⟩
theorem KeepJ.grown {Bs b : Nat} {W W' : World} (hg : W.grownBy W' none) (h1 : Bs < W.heap.size) (h2 : b < W.heap.size) : KeepJ Bs b W W' := ⟨hg.size, hg.block Bs h1 (by simp), hg.block b h2 (by simp)⟩
theorem LogAt.reads {W : World} {Bs b off cap : Nat} {zs : List Int} (h : LogAt W Bs b off cap zs) (hcap : zs.length ≤ cap) (s m : Nat) (hs : s + m ≤ zs.length) (c : Nat) (hc : m ≤ c) : Reads W (.slice (some ⟨b, off + s, none⟩) m c) ((zs.drop s).take m) := by
  have hl : ((zs.drop s).take m).length = m := by rw [List.length_take, List.length_drop]; omega
  by_cases h0 : m = 0
  · subst h0; exact .inl ⟨rfl, _, _, rfl⟩
  · refine .inr ⟨fun e => h0 (by rw [e] at hl; exact hl.symm), b, off + s, c, by rw [hl], by omega, h.2.2.1, fun i x hx => ?_⟩
    have hi := (List.getElem?_eq_some_iff.1 hx).1
    rw [List.getElem?_take, if_pos (by omega), List.getElem?_drop] at hx
    rw [Nat.add_assoc]
    exact h.2.2.2 _ x hx
theorem LogAt.readsEnd {W : World} {Bs b off cap : Nat} {zs : List Int} (h : LogAt W Bs b off cap zs) (hcap : zs.length ≤ cap) (s : Nat) (hs : s ≤ zs.length) : Reads W (.slice (some ⟨b, off + s, none⟩) (zs.length - s) (cap - s)) (zs.drop s) := by
  have := h.reads hcap s (zs.length - s) (by omega) (cap - s) (by omega)
  rwa [List.take_of_length_le (by rw [List.length_drop]; omega)] at this
noncomputable def iPut4 : F_z0b Tryz.prog := ⟨155, ⟨Tryz.f155, Tryz.f155.body.getD .skip, Tryz.func155, by kernel_rfl, by kernel_rfl, by kernel_rfl, by kernel_rfl, by kernel_rfl⟩⟩
noncomputable def iChecksum : F_z00 Tryz.prog := ⟨203, ⟨Tryz.f203, Tryz.f203.body.getD .skip, Tryz.func203, by kernel_rfl, by kernel_rfl, by kernel_rfl, by kernel_rfl, by kernel_rfl⟩⟩
noncomputable def iSum : F_z0c Tryz.prog := ⟨156, iPut4, iChecksum, ⟨Tryz.f156, Tryz.f156.body.getD .skip, Tryz.func156, by kernel_rfl, by kernel_rfl, by kernel_rfl, by kernel_rfl, by kernel_rfl⟩⟩
noncomputable def iClone : F_z06 Tryz.prog := ⟨63, ⟨Tryz.f63, Tryz.f63.body.getD .skip, Tryz.func63, by kernel_rfl, by kernel_rfl, by kernel_rfl, by kernel_rfl, by kernel_rfl⟩⟩
noncomputable def iNumber : F_z0a Tryz.prog := ⟨159, ⟨Tryz.f159, Tryz.f159.body.getD .skip, Tryz.func159, by kernel_rfl, by kernel_rfl, by kernel_rfl, by kernel_rfl, by kernel_rfl⟩⟩
theorem Tryz.number_calls {W : World} {v : Value} {l : List Int} (hr : Reads W v l) (hl : 4 ≤ l.length) (hby : Byt l) : Calls Tryz.prog 159 #[v] W fun e W' => e = .returned (.int .i64 (num (l.take 4))) ∧ W.grownBy W' none :=
  ACalls.int1 (f := 159) (enters_of Tryz.func159 (by kernel_rfl) rfl) ((jnumber_spec iNumber false l hl hby []).mono fun _ _ h => h.1) hr
theorem Tryz.sum_calls {W : World} {v : Value} {l : List Int} (hr : Reads W v l) (hl : l.length ≤ 10000000) : Calls Tryz.prog 156 #[v] W fun e W' => e = .returned (.int .u32 (fnv (jBody l))) ∧ W.grownBy W' none :=
  ACalls.int1 (f := 156) (enters_of Tryz.func156 (by kernel_rfl) rfl) ((jsum_spec iSum false l hl []).mono fun _ _ h => h.1) hr
abbrev PosJ (zs : List Int) := {x : Nat × Nat // x.1 + x.2 ≤ zs.length}
set_option maxRecDepth 100000 in
set_option maxHeartbeats 2000000 in
theorem Tryz.ent1_in (n : Nat) (hn : 1 ≤ n) (l Bs b off cap : Nat) (zs : List Int) (hcap : zs.length ≤ cap) (hz : zs.length ≤ 10000000) (hby : Byt zs) (J Jx : List (PosJ zs) → World → Prop)
    (hY : ∀ pre x W, J pre W → pre.length < zs.length + 1 → YieldAt Fence.wide (n - 1) Tryz.prog l (encJ b off cap x.1) W fun e W' =>
      (e = .returned (.bool true) ∧ J (pre ++ [x]) W' ∧ KeepJ Bs b W W') ∨ (e = .returned (.bool false) ∧ Jx (pre ++ [x]) W'))
    (W : World) (hJ : AbidesFrom W.heap.size J) (hL : LogAt W Bs b off cap zs) (h0 : J [] W) :
    CallsIn Fence.wide n Tryz.prog 158 #[.func (.yield l) #[] #[], .pointer (some ⟨Bs, 0, none⟩)] W fun e W' => (∃ v, e = .returned v) ∧
      ((∃ ys : List (PosJ zs), ys.map (fun x => x.1) = entP zs 0 ∧ J ys W') ∨ (∃ pre, True ∧ Jx pre W')) := by
  refine callsIn_of_wp Tryz.func158 rfl trivial ?_ rfl
  simp only [Tryz.ntmps158, List.size_toArray, List.length_cons, List.length_nil, Nat.reduceAdd, Nat.reduceSub, Array.replicate_succ, Array.replicate_zero, List.push_toArray, List.append_toArray, List.nil_append, List.cons_append]
  gi_wp2
  gi_loopw [3] (fun i wr => ∃ (k : Nat) (pre : List (PosJ zs)), k ≤ zs.length ∧ i = .int .i64 k ∧ entP zs 0 = pre.map (fun x => x.1) ++ entP zs k ∧ pre.length ≤ k ∧ J pre wr ∧ LogAt wr Bs b off cap zs)
    (fun i _ => zs.length - (intOf i).toNat)
  case atStart => exact ⟨0, [], Nat.zero_le _, rfl, rfl, Nat.zero_le _, h0, hL⟩
  case round =>
    obtain ⟨k, pre, hk, rfl, hpre, hpl, hJs, hLw⟩ := hrel
    have hL1 := hLw.1
    by_cases h8 : k + 8 ≤ zs.length
    · gi_wp2
      refine ⟨trivial, ?_⟩
      refine (callsIn_wide.2 (Tryz.number_calls (hLw.readsEnd hcap k hk) (by rw [List.length_drop]; omega) (fun x hx => hby x (List.mem_of_mem_drop hx)))).mono ?_
      rintro e w1 ⟨rfl, hg1⟩
      have hJ1 : J pre w1 := hJ _ _ _ _ hJs hg1 (fun r e => by cases e)
      have hLw1 := hLw.kept (KeepJ.grown hg1 hLw.2.1 hLw.2.2.1)
      have hLc1 := hLw1.1
      clear hJs hLw hL1
      have hn0 := hdr_nonneg hby k
      obtain ⟨N, hN⟩ : ∃ N : Nat, hdr zs k = N := ⟨(hdr zs k).toNat, by omega⟩
      have hN' : num ((zs.drop k).take 4) = N := hN
      rw [hN']
      by_cases hA : 65536 < N
      · have hnil := entP_nil (okE_big hN (.inl hA))
        gi_wp2
        refine bodyPost_ret (results_none rfl _ _ _) rfl ?_
        first
          | exact ⟨⟨_, rfl⟩, .inl hJ1⟩
          | exact ⟨⟨_, rfl⟩, .inl ⟨_, rfl, hJ1⟩⟩
          | exact ⟨⟨_, rfl⟩, .inl ⟨_, by rw [hpre, hnil, List.append_nil], hJ1⟩⟩
      by_cases hB : (zs.length : Int) - k - 8 < N
      · have hnil := entP_nil (okE_big hN (.inr hB))
        gi_wp2
        refine bodyPost_ret (results_none rfl _ _ _) rfl ?_
        first
          | exact ⟨⟨_, rfl⟩, .inl hJ1⟩
          | exact ⟨⟨_, rfl⟩, .inl ⟨_, rfl, hJ1⟩⟩
          | exact ⟨⟨_, rfl⟩, .inl ⟨_, by rw [hpre, hnil, List.append_nil], hJ1⟩⟩
      have hok := okE_sum hN h8 hA hB
      by_cases hE : cap = k + 8
      · have hN0 : N = 0 := by omega
        subst hN0 hE
        have hrd1 : Reads w1 (.slice (some ⟨b, off + (k + 4), none⟩) (zs.length - (k + 4)) 4) (zs.drop (k + 4)) := by
          have := hLw1.readsEnd hcap (k + 4) (by omega)
          rwa [show k + 8 - (k + 4) = 4 by omega] at this
        gi_wp2
        refine ⟨trivial, ?_⟩
        refine (callsIn_wide.2 (Tryz.number_calls hrd1 (by rw [List.length_drop]; omega) (fun x hx => hby x (List.mem_of_mem_drop hx)))).mono ?_
        rintro e w2 ⟨rfl, hg2⟩
        have hJ2 : J pre w2 := hJ _ _ _ _ hJ1 hg2 (fun r e => by cases e)
        have hLw2 := hLw1.kept (KeepJ.grown hg2 hLw1.2.1 hLw1.2.2.1)
        have hLc2 := hLw2.1
        clear hJ1 hLw1 hLc1
        have hrd2 : Reads w2 (.slice (some ⟨b, off, none⟩) 0 0) ((zs.drop (k + 8)).take 0) := .inl ⟨rfl, _, _, rfl⟩
        gi_wp2
        refine ⟨trivial, ?_⟩
        refine (callsIn_wide.2 (Tryz.sum_calls hrd2 (by rw [List.length_take]; omega))).mono ?_
        rintro e w3 ⟨rfl, hg3⟩
        have hJ3 : J pre w3 := hJ _ _ _ _ hJ2 hg3 (fun r e => by cases e)
        have hLw3 := hLw2.kept (KeepJ.grown hg3 hLw2.2.1 hLw2.2.2.1)
        clear hJ2 hLw2 hLc2 hrd1 hrd2
        obtain ⟨T, hT⟩ : ∃ T, T = fnv (jBody ((zs.drop (k + 8)).take 0)) := ⟨_, rfl⟩
        rw [← hT] at hok ⊢
        have hTn := fnv_bound (jBody ((zs.drop (k + 8)).take 0))
        rw [← hT] at hTn
        clear hT
        obtain ⟨S, hS⟩ : ∃ S, S = hdr zs (k + 4) := ⟨_, rfl⟩
        have hS0 : 0 ≤ S := by rw [hS]; exact hdr_nonneg hby _
        have hS' : num ((zs.drop (k + 4)).take 4) = S := hS.symm
        rw [hS']
        rw [← hS, u32_wrap] at hok
        clear hS hS' hN'
        by_cases hC : S % 4294967296 = T
        · have hcons := entP_cons (by rw [hok]; simpa using hC)
          rw [hN, Int.toNat_natCast] at hcons
          obtain ⟨fn, tmps, assign, body, hy, hR⟩ := hY pre ⟨(k + 8, 0), by simp only []; omega⟩ w3 hJ3 (by omega)
          have hcast : ((k + 8 + 0 : Nat) : Int) = (k : Int) + 8 := by omega
          simp only [encJ, offJ, Nat.sub_self, if_true, hcast] at hy
          clear hok hN
          gi_wp2
          refine hR.mono ?_
          rintro e W3 (⟨rfl, hJ4, hk4⟩ | ⟨rfl, hJx4⟩)
          · have hLw4 := hLw3.kept hk4
            clear hJ3 hLw3 hR
            gi_wp2
            go_roundw
            case rel => exact ⟨k + 8 + 0, pre ++ [⟨(k + 8, 0), by simp only []; omega⟩], by omega, by congr 1 <;> omega, by rw [hpre, hcons, List.map_append, List.append_assoc]; rfl, by simp; omega, hJ4, hLw4⟩
            case measure => simp [intOf]; omega
          · gi_wp2
            refine bodyPost_ret (results_none rfl _ _ _) rfl ?_
            first
              | exact ⟨⟨_, rfl⟩, .inr ⟨_, trivial, hJx4⟩⟩
              | exact ⟨⟨_, rfl⟩, .inr ⟨_, hJx4⟩⟩
        · have hnil := entP_nil (by rw [hok]; simpa using hC)
          clear hok hN
          gi_wp2
          refine bodyPost_ret (results_none rfl _ _ _) rfl ?_
          first
            | exact ⟨⟨_, rfl⟩, .inl hJ3⟩
            | exact ⟨⟨_, rfl⟩, .inl ⟨_, rfl, hJ3⟩⟩
            | exact ⟨⟨_, rfl⟩, .inl ⟨_, by rw [hpre, hnil, List.append_nil], hJ3⟩⟩
      · have hE2 : ¬ cap - (k + 8) = 0 := by omega
        have hrd1 := hLw1.readsEnd hcap (k + 4) (by omega)
        gi_wp2
        refine ⟨trivial, ?_⟩
        refine (callsIn_wide.2 (Tryz.number_calls hrd1 (by rw [List.length_drop]; omega) (fun x hx => hby x (List.mem_of_mem_drop hx)))).mono ?_
        rintro e w2 ⟨rfl, hg2⟩
        have hJ2 : J pre w2 := hJ _ _ _ _ hJ1 hg2 (fun r e => by cases e)
        have hLw2 := hLw1.kept (KeepJ.grown hg2 hLw1.2.1 hLw1.2.2.1)
        have hLc2 := hLw2.1
        clear hJ1 hLw1 hLc1
        have hrd2 := hLw2.reads hcap (k + 8) N (by omega) (cap - (k + 8)) (by omega)
        gi_wp2
        refine ⟨trivial, ?_⟩
        refine (callsIn_wide.2 (Tryz.sum_calls hrd2 (by rw [List.length_take]; omega))).mono ?_
        rintro e w3 ⟨rfl, hg3⟩
        have hJ3 : J pre w3 := hJ _ _ _ _ hJ2 hg3 (fun r e => by cases e)
        have hLw3 := hLw2.kept (KeepJ.grown hg3 hLw2.2.1 hLw2.2.2.1)
        clear hJ2 hLw2 hLc2 hrd1 hrd2
        obtain ⟨T, hT⟩ : ∃ T, T = fnv (jBody ((zs.drop (k + 8)).take N)) := ⟨_, rfl⟩
        rw [← hT] at hok ⊢
        have hTn := fnv_bound (jBody ((zs.drop (k + 8)).take N))
        rw [← hT] at hTn
        clear hT
        obtain ⟨S, hS⟩ : ∃ S, S = hdr zs (k + 4) := ⟨_, rfl⟩
        have hS0 : 0 ≤ S := by rw [hS]; exact hdr_nonneg hby _
        have hS' : num ((zs.drop (k + 4)).take 4) = S := hS.symm
        rw [hS']
        rw [← hS, u32_wrap] at hok
        clear hS hS' hN'
        by_cases hC : S % 4294967296 = T
        · have hcons := entP_cons (by rw [hok]; simpa using hC)
          rw [hN, Int.toNat_natCast] at hcons
          obtain ⟨fn, tmps, assign, body, hy, hR⟩ := hY pre ⟨(k + 8, N), by simp only []; omega⟩ w3 hJ3 (by omega)
          have hcast : ((k + 8 + N : Nat) : Int) = (k : Int) + (8 + (N : Int)) := by omega
          simp only [encJ, offJ, if_neg hE2, hcast] at hy
          clear hok hN
          gi_wp2
          refine hR.mono ?_
          rintro e W3 (⟨rfl, hJ4, hk4⟩ | ⟨rfl, hJx4⟩)
          · have hLw4 := hLw3.kept hk4
            clear hJ3 hLw3 hR
            gi_wp2
            go_roundw
            case rel => exact ⟨k + 8 + N, pre ++ [⟨(k + 8, N), by simp only []; omega⟩], by omega, by congr 1 <;> omega, by rw [hpre, hcons, List.map_append, List.append_assoc]; rfl, by simp; omega, hJ4, hLw4⟩
            case measure => simp [intOf]; omega
          · gi_wp2
            refine bodyPost_ret (results_none rfl _ _ _) rfl ?_
            first
              | exact ⟨⟨_, rfl⟩, .inr ⟨_, trivial, hJx4⟩⟩
              | exact ⟨⟨_, rfl⟩, .inr ⟨_, hJx4⟩⟩
        · have hnil := entP_nil (by rw [hok]; simpa using hC)
          clear hok hN
          gi_wp2
          refine bodyPost_ret (results_none rfl _ _ _) rfl ?_
          first
            | exact ⟨⟨_, rfl⟩, .inl hJ3⟩
            | exact ⟨⟨_, rfl⟩, .inl ⟨_, rfl, hJ3⟩⟩
            | exact ⟨⟨_, rfl⟩, .inl ⟨_, by rw [hpre, hnil, List.append_nil], hJ3⟩⟩
    · have hnil := entP_nil (okE_short h8)
      gi_wp2
      go_end0
      exact ⟨⟨_, rfl⟩, .inl ⟨_, by rw [hpre, hnil, List.append_nil], hJs⟩⟩
set_option maxRecDepth 100000 in
set_option maxHeartbeats 1000000 in
theorem Tryz.ent0_in (n : Nat) (l Bs : Nat) (a : Option Addr) (cap : Nat) {α : Type} (J : List α → World → Prop) (W : World) (hBs : W.cell? ⟨Bs, 0, none⟩ = some (.slice a 0 cap)) (h0 : J [] W) :
    CallsIn Fence.wide n Tryz.prog 158 #[.func (.yield l) #[] #[], .pointer (some ⟨Bs, 0, none⟩)] W fun e W' => (∃ v, e = .returned v) ∧ J [] W' := by
  refine callsIn_of_wp Tryz.func158 rfl trivial ?_ rfl
  simp only [Tryz.ntmps158, List.size_toArray, List.length_cons, List.length_nil, Nat.reduceAdd, Nat.reduceSub, Array.replicate_succ, Array.replicate_zero, List.push_toArray, List.append_toArray, List.nil_append, List.cons_append]
  gi_wp2
  gi_loopw [3] (fun i wr => i = .int .i64 0 ∧ J [] wr ∧ wr.cell? ⟨Bs, 0, none⟩ = some (.slice a 0 cap)) (fun _ _ => 0)
  case atStart => exact ⟨rfl, h0, hBs⟩
  case round =>
    obtain ⟨rfl, hJs, hc⟩ := hrel
    gi_wp2
    go_end0
    exact ⟨⟨_, rfl⟩, hJs⟩
theorem KeepJ.t {Bs b : Nat} {X Y Z : World} (h : KeepJ Bs b X Y) (k : KeepJ Bs b Y Z) : KeepJ Bs b X Z := ⟨Nat.le_trans h.1 k.1, k.2.1.trans h.2.1, k.2.2.trans h.2.2⟩
theorem KeepJ.of_below {Bs b n : Nat} {X Y : World} (h : Below n X Y) (h1 : Bs < n) (h2 : b < n) : KeepJ Bs b X Y := ⟨h.size, h.block Bs h1, h.block b h2⟩
theorem KeepJ.put {Bs b : Nat} {w : World} (h1 : Bs < w.heap.size) (h2 : b < w.heap.size) (W : World) (l : Nat) (o o' : Obj) (hl : w.heap.size ≤ l) (hlo : W.heap[l]? = some o) (_ : o.isCells = false) (_ : o.isWalk = false) : KeepJ Bs b W (W.putObj l o') := by
  have hg := grownBy_putObj' W l o'
  have hlt := (Array.getElem?_eq_some_iff.1 hlo).1
  exact ⟨hg.size, hg.block Bs (by omega) (by simp; omega), hg.block b (by omega) (by simp; omega)⟩
theorem Tryz.ent_stops (n : Nat) (hn : 1 ≤ n) (Bs b off cap : Nat) (zs : List Int) (hcap : zs.length ≤ cap) (hz : zs.length ≤ 10000000) (hby : Byt zs) (w : World) (hL : LogAt w Bs b off cap zs) :
    SeqStopsK Fence.wide n Tryz.prog 158 #[.pointer (some ⟨Bs, 0, none⟩)] (fun x : PosJ zs => encJ b off cap x.1) (KeepJ Bs b) (fun ys => ys.map (fun x => x.1) = entP zs 0) (fun _ => True) (zs.length + 1) w := fun l J Jx W hW hJ _ hY h0 =>
  Tryz.ent1_in n hn l Bs b off cap zs hcap hz hby J Jx hY W hJ (hL.kept (KeepJ.of_below hW hL.2.1 hL.2.2.1)) h0
end Go.Proofs
namespace Go.Proofs
open Go.RowKit Go.Shelf Go.AW
variable [Draws]
set_option linter.all false
set_option maxRecDepth 100000
attribute [local go_sem] Oper.semAt_some
def appG (ts : Array TypeId) (ty : TypeId) (args : Array Value) : Sem Value := Builtin.append_ ts ty args
theorem appG_fold (ts : Array TypeId) (ty : TypeId) (args : Array Value) : Builtin.append_ ts ty args = appG ts ty args := rfl
attribute [local go_sem ↓] appG_fold
def Elems (N : Nat) (W : World) (B : List Nat) (us : List Value) (ps : List (List Int)) : Prop :=
  us.length = ps.length ∧ ∀ (i : Nat) (u : Value) (p : List Int), us[i]? = some u → ps[i]? = some p → Reads W u p ∧ u.oneCell' = true ∧ (p ≠ [] → ∀ bb, u.ownBlock = some bb → bb ∉ B ∧ N ≤ bb)
theorem Tryz.infoB : (Tryz.prog.info? 22).map (fun i => (i.zero, i.size, i.bytes)) = some (some (.slice none 0 0), 1, 24) := by kernel_rfl
theorem Tryz.Clone_calls {W : World} {v : Value} {l : List Int} (hr : Reads W v l) (hl : l.length ≤ 90000000) : Calls Tryz.prog 63 #[v] W fun e W' => ∃ a c, e = .returned (.slice a l.length c) ∧ Reads W' (.slice a l.length c) l ∧ W.grownBy W' none ∧ (l ≠ [] → ∀ b, (Value.slice a l.length c).ownBlock = some b → W.heap.size ≤ b) :=
  ACalls.fresh1 (f := 63) (enters_of Tryz.func63 (by kernel_rfl) rfl) (bClone_raw iClone false l hl) hr
theorem Reads.block {W : World} {u : Value} {p : List Int} (h : Reads W u p) (h0 : p ≠ []) {bb : Nat} (hb : u.ownBlock = some bb) : bb < W.heap.size ∧ ∃ o : Obj, W.heap[bb]? = some o ∧ o.isCells = true := by
  rcases h with ⟨e, _⟩ | ⟨_, b, off, cap, rfl, hcap, hlt, hc⟩
  · exact absurd e h0
  · cases hb
    refine ⟨hlt, ?_⟩
    obtain ⟨x, hx⟩ : ∃ x, p[0]? = some x := ⟨p[0]'(List.length_pos_iff.2 h0), List.getElem?_eq_getElem _⟩
    have := hc 0 x hx
    rw [World.cell?] at this
    cases ho : W.heap[b]? with
    | none => simp [ho] at this
    | some o =>
      refine ⟨o, rfl, ?_⟩
      cases o <;> simp_all [Obj.isCells]
theorem Elems.kept {N : Nat} {W W' : World} {B : List Nat} {us : List Value} {ps : List (List Int)} {row : Option Nat} (h : Elems N W B us ps) (hg : W.grownBy W' row) (hr : ∀ r, row = some r → r ∈ B ∨ ∃ o : Obj, W.heap[r]? = some o ∧ o.isCells = false) : Elems N W' B us ps := by
  refine ⟨h.1, fun i u p hu hp => ?_⟩
  obtain ⟨h1, h2, h3⟩ := h.2 i u p hu hp
  refine ⟨h1.kept hg fun h0 bb hb e => ?_, h2, h3⟩
  rcases hr bb e.symm with hB | ⟨o, ho, hc⟩
  · exact (h3 h0 bb hb).1 hB
  · obtain ⟨_, o', ho', hc'⟩ := Reads.block h1 h0 hb
    rw [ho] at ho'; cases ho'
    rw [hc] at hc'; cases hc'
def IJ (n₀ b off cap : Nat) (zs : List Int) (w : World) (pre : List (PosJ zs)) (W : World) : Prop :=
  ((∃ v us, Boxed W n₀ 23 v ∧ W.ownsRow (n₀ + 3) 22 1 v pre.length us ∧ Elems n₀ W [n₀, n₀ + 1] us (pre.map fun x => payP zs x.1) ∧ ∀ g, v.ownBlock = some g → Elems n₀ W [g] us (pre.map fun x => payP zs x.1)) ∧
    Boxed W (n₀ + 1) 3 (.int .i64 (endP (pre.map fun x => x.1))) ∧ LogAt W (n₀ + 2) b off cap zs) ∧ Below n₀ w W
theorem IJ.own (n₀ b off cap : Nat) (zs : List Int) (w : World) (hb : b < n₀) : OwnFrom (n₀ + 3) (IJ n₀ b off cap zs w) := by
  rintro pre X Y row ⟨⟨⟨v, us, hv, hr, he, hg2⟩, h1, hL⟩, hB⟩ hg hrow
  have hbox : ∀ {B : Nat} {t : TypeId} {u : Value}, Boxed X B t u → some B ≠ row := fun {B t u} h e' => by
    obtain ⟨_, o, ho, hc⟩ := hrow B e'.symm
    rw [show X.heap[B]? = _ from h] at ho; cases ho; cases hc
  refine ⟨⟨⟨v, us, hv.kept hg (hbox hv), hr.kept hg ?_, he.kept hg fun r e => .inr (hrow r e).2, fun g hgv => (hg2 g hgv).kept hg fun r e => .inr (hrow r e).2⟩, h1.kept hg (hbox h1), hL.kept ⟨hg.size, hg.block _ hL.2.1 (fun e => by have := (hrow _ e.symm).1; omega), hg.block _ hL.2.2.1 (fun e => by have := (hrow _ e.symm).1; omega)⟩⟩, hB.grown hg ?_ fun k e => by have := (hrow k e).1; omega⟩
  · rcases hr.2 with ⟨rfl, _⟩ | ⟨g, cap, cur, rfl, _, hgb, _⟩
    · exact .inl rfl
    · refine .inr fun e' => ?_
      obtain ⟨_, o, ho, hc⟩ := hrow g (by simpa [Value.ownBlock] using e'.symm)
      rw [hgb] at ho; cases ho; cases hc
  · have := hL.2.1; omega
theorem ownsRow_grown0 {W W' : World} {base : Nat} {e : TypeId} {size : Nat} {v : Value} {k : Nat} {xs : List Value} (h : W.ownsRow base e size v k xs) (hg : W.grownBy W' none) : W'.ownsRow base e size v k xs :=
  h.kept hg (by
    rcases h.2 with ⟨rfl, _⟩ | ⟨g, _, _, rfl, _⟩
    · exact .inl rfl
    · exact .inr (by simp [Value.ownBlock]))
theorem Boxed.grown0 {W W' : World} {B : Nat} {t : TypeId} {v : Value} (h : Boxed W B t v) (hg : W.grownBy W' none) : Boxed W' B t v := h.kept hg (by simp)
theorem ownsRow_mono {W : World} {base base' : Nat} {e : TypeId} {size : Nat} {v : Value} {k : Nat} {xs : List Value} (h : W.ownsRow base e size v k xs) (hle : base' ≤ base) : W.ownsRow base' e size v k xs := by
  refine ⟨h.1, ?_⟩
  rcases h.2 with h | ⟨g, cap, cur, h1, h2, h3⟩
  · exact .inl h
  · exact .inr ⟨g, cap, cur, h1, by omega, h3⟩
theorem Elems.mono {N : Nat} {W : World} {B B' : List Nat} {us : List Value} {ps : List (List Int)} (h : Elems N W B us ps) (hs : ∀ x ∈ B', x ∈ B) : Elems N W B' us ps :=
  ⟨h.1, fun i u p hu hp => ⟨(h.2 i u p hu hp).1, (h.2 i u p hu hp).2.1, fun h0 bb hb => ⟨fun hm => ((h.2 i u p hu hp).2.2 h0 bb hb).1 (hs bb hm), ((h.2 i u p hu hp).2.2 h0 bb hb).2⟩⟩⟩
theorem Elems.join {N : Nat} {W : World} {B B' : List Nat} {us : List Value} {ps : List (List Int)} (h : Elems N W B us ps) (h' : Elems N W B' us ps) : Elems N W (B ++ B') us ps :=
  ⟨h.1, fun i u p hu hp => ⟨(h.2 i u p hu hp).1, (h.2 i u p hu hp).2.1, fun h0 bb hb => ⟨fun hm => (List.mem_append.1 hm).elim ((h.2 i u p hu hp).2.2 h0 bb hb).1 ((h'.2 i u p hu hp).2.2 h0 bb hb).1, ((h.2 i u p hu hp).2.2 h0 bb hb).2⟩⟩⟩
theorem Elems.add {N : Nat} {W : World} {B : List Nat} {us : List Value} {ps : List (List Int)} (h : Elems N W B us ps) {f : Nat} (hf : W.heap.size ≤ f) : Elems N W (f :: B) us ps :=
  ⟨h.1, fun i u p hu hp => ⟨(h.2 i u p hu hp).1, (h.2 i u p hu hp).2.1, fun h0 bb hb => ⟨fun hm => (List.mem_cons.1 hm).elim (fun e => by have := (Reads.block (h.2 i u p hu hp).1 h0 hb).1; omega) ((h.2 i u p hu hp).2.2 h0 bb hb).1, ((h.2 i u p hu hp).2.2 h0 bb hb).2⟩⟩⟩
theorem Elems.snoc {N : Nat} {W : World} {B : List Nat} {us : List Value} {ps : List (List Int)} (h : Elems N W B us ps) {u : Value} {p : List Int} (hr : Reads W u p) (h1 : u.oneCell' = true) (hd : p ≠ [] → ∀ bb, u.ownBlock = some bb → bb ∉ B ∧ N ≤ bb) : Elems N W B (us ++ [u]) (ps ++ [p]) := by
  refine ⟨by simp [h.1], fun i a q ha hq => ?_⟩
  by_cases hi : i < us.length
  · rw [List.getElem?_append_left hi] at ha
    rw [List.getElem?_append_left (by rw [← h.1]; exact hi)] at hq
    exact h.2 i a q ha hq
  · rw [List.getElem?_append_right (by omega)] at ha
    rw [List.getElem?_append_right (by rw [← h.1]; omega)] at hq
    have h0 : i - us.length = 0 := by
      have := (List.getElem?_eq_some_iff.1 ha).1
      simp at this; omega
    rw [← h.1, h0] at hq
    rw [h0] at ha
    cases ha; cases hq
    exact ⟨hr, h1, hd⟩
theorem IJ.next {n₀ b off cap B : Nat} {zs : List Int} {w W w' w1 : World} {pre : List (PosJ zs)} {x : PosJ zs} {v U V' : Value} {us : List Value} {E : Int} (hE : E = (x.1.1 : Int) + (x.1.2 : Int)) (hb : b < n₀) (hs : n₀ + 3 ≤ W.heap.size)
    (hv : Boxed W n₀ 23 v) (hrow : W.ownsRow (n₀ + 3) 22 1 v pre.length us) (hel : Elems n₀ W [n₀, n₀ + 1] us (pre.map fun x => payP zs x.1)) (hel2 : ∀ g, v.ownBlock = some g → Elems n₀ W [g] us (pre.map fun x => payP zs x.1)) (hEn : ∃ z, Boxed W (n₀ + 1) 3 z) (hL : LogAt W (n₀ + 2) b off cap zs) (hB : Below n₀ w W)
    (hu3 : W.grownBy w' none) (hu1 : U.oneCell' = true) (hu2 : Reads w' U (payP zs x.1)) (hu4 : payP zs x.1 ≠ [] → ∀ bb, U.ownBlock = some bb → W.heap.size ≤ bb)
    (hgrow : (w'.alloc (.cells #[U] 22)).grownBy w1 v.ownBlock) (hown : w1.ownsRow (n₀ + 3) 22 1 V' (pre.length + 1) (us ++ [U])) (hblk : V'.ownBlock = v.ownBlock ∨ V'.ownBlock = some (w'.alloc (.cells #[U] 22)).heap.size) :
    KeepsFrom B W ((w1.setCell ⟨n₀, 0, none⟩ V').setCell ⟨n₀ + 1, 0, none⟩ (.int .i64 E)) ∧ KeepJ (n₀ + 2) b W ((w1.setCell ⟨n₀, 0, none⟩ V').setCell ⟨n₀ + 1, 0, none⟩ (.int .i64 E)) ∧ IJ n₀ b off cap zs w (pre ++ [x]) ((w1.setCell ⟨n₀, 0, none⟩ V').setCell ⟨n₀ + 1, 0, none⟩ (.int .i64 E)) := by
  have hsz := hu3.size
  have hal : (w'.alloc (.cells #[U] 22)).heap.size = w'.heap.size + 1 := by simp
  have hsz1 := hgrow.size
  have hrow3 := ownsRow_grown0 hrow hu3
  have hv3 := Boxed.grown0 hv hu3
  obtain ⟨hbx, hbx', hrow', hko, hbel⟩ := Boxed.appended hv3 (by decide) (ownsRow_mono hrow3 (by omega)) (by omega) (Nat.le_refl _) (ownsRow_mono hown (by omega : n₀ ≤ n₀ + 3)) hgrow
  have hvlt := hrow.lt
  have hV : ∀ g, V'.ownBlock = some g → n₀ + 3 ≤ g := fun g hg => (hown.lt g hg).1
  have hvb : ∀ k, k < n₀ + 3 → some k ≠ v.ownBlock := fun k hk e => by have := (hvlt k e.symm).1; omega
  have gS0 := grownBy_setCell' w1 n₀ V'
  have gS1 := grownBy_setCell' (w1.setCell ⟨n₀, 0, none⟩ V') (n₀ + 1) (.int .i64 E)
  have ht := World.grownBy_alloc w' (.cells #[U] 22) none
  have hKJ : KeepJ (n₀ + 2) b W ((w1.setCell ⟨n₀, 0, none⟩ V').setCell ⟨n₀ + 1, 0, none⟩ (.int .i64 E)) := by
    have keep : ∀ k, k < n₀ + 3 → k ≠ n₀ → k ≠ n₀ + 1 → ((w1.setCell ⟨n₀, 0, none⟩ V').setCell ⟨n₀ + 1, 0, none⟩ (.int .i64 E)).heap[k]? = W.heap[k]? := fun k hk h0 h1 => by
      have a1 := hu3.block k (by omega) (by simp)
      have a2 := ht.block k (by omega) (by simp)
      have a3 := hgrow.block k (by omega) (hvb k hk)
      have a4 := gS0.block k (by omega) (by simpa using h0)
      have a5 := gS1.block k (by have := gS0.size; omega) (by simpa using h1)
      rw [a5, a4, a3, a2, a1]
    exact ⟨by have := gS0.size; have := gS1.size; omega, keep _ (by omega) (by omega) (by omega), keep _ (by omega) (by omega) (by omega)⟩
  have hall := ((((hel.join (B' := (v.ownBlock).toList) (by
      cases hvo : v.ownBlock with
      | none => exact hel.mono (by simp)
      | some g => exact hel2 g hvo)).add (f := w'.heap.size + 1) (by omega)).kept hu3 (by simp)).kept ht (by simp)).kept hgrow (fun r hr => .inl (by simp [hr]))
  have hall' := (hall.kept gS0 (fun r hr => .inl (by simp at hr; simp [hr]))).kept gS1 (fun r hr => .inl (by simp at hr; simp [hr]))
  obtain ⟨hr', h1', hd'⟩ : Reads ((w1.setCell ⟨n₀, 0, none⟩ V').setCell ⟨n₀ + 1, 0, none⟩ (.int .i64 E)) U (payP zs x.1) ∧ U.oneCell' = true ∧ (payP zs x.1 ≠ [] → ∀ bb, U.ownBlock = some bb → bb ∉ n₀ :: (n₀ + 1) :: (w'.heap.size + 1) :: v.ownBlock.toList ∧ n₀ ≤ bb) := by
    have hnot : payP zs x.1 ≠ [] → ∀ bb, U.ownBlock = some bb → bb ∉ n₀ :: (n₀ + 1) :: (w'.heap.size + 1) :: v.ownBlock.toList := by
      intro h0 bb hbb hm
      have hlt := (Reads.block hu2 h0 hbb).1
      have hor := hu4 h0 bb hbb
      rcases List.mem_cons.1 hm with rfl | hm
      · omega
      rcases List.mem_cons.1 hm with rfl | hm
      · omega
      rcases List.mem_cons.1 hm with rfl | hm
      · omega
      · have hvo : v.ownBlock = some bb := by simpa using hm
        have := hvlt bb hvo
        omega
    refine ⟨(((hu2.kept ht (by simp)).kept hgrow ?_).kept gS0 ?_).kept gS1 ?_, hu1, fun h0 bb hbb => ⟨hnot h0 bb hbb, by have := hu4 h0 bb hbb; omega⟩⟩
    · intro h0 bb hbb e
      exact hnot h0 bb hbb (by simp [← e])
    · intro h0 bb hbb e
      exact hnot h0 bb hbb (by simp at e; simp [e])
    · intro h0 bb hbb e
      exact hnot h0 bb hbb (by simp at e; simp [e])
  refine ⟨((((KeepsOthers.of_grownBy hu3 fun j o ej => by simp at ej).trans hko).trans (KeepsOthers.setCell _ _ _)).from _), hKJ, ⟨⟨V', us ++ [U], ?_, ?_, ?_, ?_⟩, ?_, hL.kept hKJ⟩, ?_⟩
  · exact hbx'.kept gS1 (by simp)
  · rw [List.length_append]
    refine (hown.kept gS0 ?_).kept gS1 ?_
    · right; intro e; have := hV _ e; omega
    · right; intro e; have := hV _ e; omega
  · rw [List.map_append]
    exact (hall'.mono (by simp)).snoc hr' h1' fun h0 bb hbb => ⟨fun hm => (hd' h0 bb hbb).1 (by simp at hm; rcases hm with rfl | rfl <;> simp), (hd' h0 bb hbb).2⟩
  · intro g hg
    have hmem : g ∈ n₀ :: (n₀ + 1) :: (w'.heap.size + 1) :: v.ownBlock.toList := by
      rcases hblk with h | h
      · rw [hg] at h; simp [← h]
      · rw [hg, hal] at h
        obtain rfl := Option.some.inj h
        simp
    rw [List.map_append]
    refine (hall'.mono fun y hy => ?_).snoc hr' h1' fun h0 bb hbb => ⟨fun hm => (hd' h0 bb hbb).1 ?_, (hd' h0 bb hbb).2⟩
    · rw [List.mem_singleton] at hy
      subst hy
      rcases List.mem_cons.1 hmem with rfl | h
      · simp
      rcases List.mem_cons.1 h with rfl | h
      · simp
      rcases List.mem_cons.1 h with rfl | h
      · simp
      · simp at h; simp [h]
    · rw [List.mem_singleton] at hm
      subst hm
      exact hmem
  · obtain ⟨z, hz⟩ := hEn
    have := (((Boxed.grown0 hz hu3).alloc (.cells #[U] 22)).kept hgrow (hvb _ (by omega))).kept gS0 (by simp)
    have := this.set (.int .i64 E)
    rw [List.map_append]
    show Boxed _ _ _ (.int .i64 (endP (List.map (fun x => x.1) pre ++ [x.1])))
    rw [endP_snoc, show ((x.1.1 + x.1.2 : Nat) : Int) = E by omega]
    exact this
  · exact (((hB.grown hu3 (by omega) (by simp)).trans hbel)).setCell (p := ⟨n₀ + 1, 0, none⟩) (by simp) _
set_option maxRecDepth 100000 in
set_option maxHeartbeats 4000000 in
theorem Tryz.Read_in (n : Nat) (hn : 3 ≤ n) (b off cap : Nat) (zs : List Int) (hcap : zs.length ≤ cap) (hz : zs.length ≤ 10000000) (hby : Byt zs) (w : World) (hb : b < w.heap.size) (hc : ∀ i x, zs[i]? = some x → w.cell? ⟨b, off + i, none⟩ = some (.int .u8 x)) :
    CallsIn Fence.wide n Tryz.prog 52 #[.slice (some ⟨b, off, none⟩) zs.length cap] w fun e W' => ∃ v us, e = .returned (.tuple #[v, .int .i64 (endP (entP zs 0))]) ∧ W'.ownsRow w.heap.size 22 1 v (entP zs 0).length us ∧ Elems w.heap.size W' [] us ((entP zs 0).map fun x => payP zs x) ∧ Below w.heap.size w W' := by
  have h1 : 1 ≤ n := by omega
  obtain ⟨i0, hi, hz0, hz1, hz2⟩ := info_parts Tryz.infoB
  refine callsIn_of_wp_marks Tryz.func52 rfl trivial ?_ rfl
  simp only [Tryz.ntmps52, List.size_toArray, List.length_cons, List.length_nil, Nat.reduceAdd, Nat.reduceSub, Array.replicate_succ, Array.replicate_zero, List.push_toArray, List.append_toArray, List.nil_append, List.cons_append]
  gi_wp2_with (refine ⟨trivial, ?_⟩; gi_at_call 109; refine (Tryz.entries_in Fence.wide (n - 1) trivial rfl _ _ _ _).mono ?_; rintro e w' ⟨rfl, rfl⟩)
  have bO := Boxed.new w 23 (.slice none 0 0)
  have bN := Boxed.new (w.alloc (.cells #[.slice none 0 0] 23)) 3 (.int .i64 0)
  have bL := Boxed.new ((w.alloc (.cells #[.slice none 0 0] 23)).alloc (.cells #[.int .i64 0] 3)) 22 (.slice (some ⟨b, off, none⟩) zs.length cap)
  rw [World.size_alloc] at bN
  rw [World.size_alloc, World.size_alloc] at bL
  have hB0 : Below w.heap.size w (((w.alloc (.cells #[.slice none 0 0] 23)).alloc (.cells #[.int .i64 0] 3)).alloc (.cells #[.slice (some ⟨b, off, none⟩) zs.length cap] 22)) := (((Below.refl _ w).alloc (Nat.le_refl _) _).alloc (by simp) _).alloc (by simp; omega) _
  have bO2 := (bO.alloc (.cells #[.int .i64 0] 3)).alloc (.cells #[.slice (some ⟨b, off, none⟩) zs.length cap] 22)
  have bN2 := bN.alloc (.cells #[.slice (some ⟨b, off, none⟩) zs.length cap] 22)
  obtain ⟨W0, hW0⟩ : ∃ W0, ((w.alloc (.cells #[.slice none 0 0] 23)).alloc (.cells #[.int .i64 0] 3)).alloc (.cells #[.slice (some ⟨b, off, none⟩) zs.length cap] 22) = W0 := ⟨_, rfl⟩
  have hsz : W0.heap.size = w.heap.size + 3 := by rw [← hW0]; simp
  rw [hW0] at bL hB0 bO2 bN2 ⊢
  have hLog : LogAt W0 (w.heap.size + 2) b off cap zs := ⟨bL.cell, by omega, by omega, fun i x hx => by rw [hB0.cell (p := ⟨b, off + i, none⟩) hb]; exact hc i x hx⟩
  clear bO bN hW0
  refine wpIn_rangeFunc_ownG rfl h1 (gf := 158) (lb := #[.pointer (some ⟨w.heap.size + 1 + 1, 0, none⟩)]) rfl trivial (enters_of Tryz.func158 (by kernel_rfl) rfl)
    (Tryz.ent_stops (n - 1) (by omega) (w.heap.size + 2) b off cap zs hcap hz hby W0 hLog) KeepJ.t (KeepJ.put (by omega) (by omega)) (Below.refl _ _) (fun _ => rfl)
    (IJ w.heap.size b off cap zs w) (fun _ _ _ => False) (by rw [hsz]; exact IJ.own w.heap.size b off cap zs w hb) (fun _ _ _ _ _ hs _ _ => hs)
    ⟨⟨⟨.slice none 0 0, [], bO2, World.ownsRow_nil _ _ _ _, ⟨rfl, fun i u p hu => by simp at hu⟩, fun g hg => by simp [Value.ownBlock] at hg⟩, bN2, hLog⟩, hB0⟩
    (fun x => { tmps := #[.slice (some ⟨b, off, none⟩) zs.length cap, undef, .slice none 0 0, .int .i64 0, .pointer (some ⟨w.heap.size, 0, none⟩), .pointer (some ⟨w.heap.size + 1, 0, none⟩), .slice (some ⟨b, offJ off cap x.1.1, none⟩) x.1.2 (cap - x.1.1), .int .i64 ((x.1.1 : Int) + (x.1.2 : Int)),
      .slice (some ⟨b, off, none⟩) zs.length cap, .func (.func 158) #[] #[.pointer (some ⟨w.heap.size + 1 + 1, 0, none⟩)], .slice (some ⟨b, offJ off cap x.1.1, none⟩) x.1.2 (cap - x.1.1), .int .i64 ((x.1.1 : Int) + (x.1.2 : Int)), undef, undef, undef, undef, undef, undef, undef, undef], defers := [] }) ?assign ?body ?done ?stop
  case assign =>
    intro l x W K hK
    simp only [encJ]
    gi_wp2
    exact hK
  case stop =>
    rintro D c pre W _ _ h _
    exact h.elim
  case done =>
    rintro D ys W hD hys ⟨⟨⟨v, us, hv, hrow, hel, _⟩, hE, _⟩, hB⟩ hK
    have hcv := hv.cell
    have hce := hE.cell
    gi_wp2
    gi_region
    all_goals gi_wp2
    refine ⟨by simp, .inl ⟨_, _, rfl, run_takeDeferred (w := W.drew) hK, ?_⟩⟩
    have hKd : W.drew.heap[D]? = some (Obj.deferred (some [])) := hK
    refine ⟨_, results_tmp2 rfl _ _ _, v, us, ?_, ?_, ?_, ?_⟩
    · rw [← hys]
      rfl
    · rw [← hys, List.length_map]
      exact ownsRow_mono (ownsRow_putObj (W := W.drew) hrow _ hKd rfl) (by omega)
    · rw [← hys, List.map_map]
      exact (Elems.kept (W := W.drew) (show Elems _ W.drew _ _ _ from hel) (row := some D) (grownBy_putObj' W.drew D (.deferred none)) (fun r hr => .inr ⟨_, by cases hr; exact hKd, rfl⟩)).mono (by simp)
    · exact (hB.trans (show Below w.heap.size W W.drew from ⟨rfl, rfl, rfl, Nat.le_refl _, fun _ _ => rfl⟩)).trans (belowK_b (w := w) (Nat.le_refl _) W.drew D _ _ (by omega) hKd rfl rfl)
  case body =>
    rintro l pre x W ⟨⟨⟨v, us, hv, hrow, hel, hel2⟩, hE, hLW⟩, hB⟩ hlt
    have hd : 1 ≤ n - 1 - 1 := by omega
    have hmx : Tryz.prog.follows .mixedOrders = true := by kernel_rfl
    have hcv := hv.cell
    have hce := hE.cell
    have hx2 := x.2
    have hWs := hLW.2.1
    have hrp : Reads W (.slice (some ⟨b, offJ off cap x.1.1, none⟩) x.1.2 (cap - x.1.1)) (payP zs x.1) := by
      unfold offJ payP
      by_cases h0 : cap - x.1.1 = 0
      · have : x.1.2 = 0 := by omega
        rw [this]; exact .inl ⟨rfl, _, _, rfl⟩
      · rw [if_neg h0]; exact hLW.reads hcap x.1.1 x.1.2 hx2 _ (by omega)
    have hpl : (payP zs x.1).length ≤ 90000000 := by rw [payP, List.length_take, List.length_drop]; omega
    gi_wp2
    have hle : w.heap.size ≤ w.heap.size := Nat.le_refl _
    have hbytes : pre.length + 1 ≤ 10000002 := by omega
    have hm1 : pre.length + 1 ≤ maxLen := Nat.le_trans hbytes (by decide)
    have hm2 : (pre.length + 1) * 24 ≤ 140737488355328 := by omega
    gi_region_with_o (first
      | (refine ⟨trivial, ?_⟩; gi_at_call 63; refine (CallsIn.inRound l (callsIn_wide.2 (Tryz.Clone_calls (W := W.drew) hrp hpl))).mono ?_; rintro e w' ⟨au, cu, rfl, hu2, hu3, hu4⟩; have hv3 := Boxed.grown0 (W := W.drew) hv hu3; have hrow3 := ownsRow_grown0 (W := W.drew) hrow hu3; have hcv3 := hv3.cell; have hcv4 := (hv3.alloc (.cells #[.slice au (payP zs x.1).length cu] 22)).cell)
      | (obtain ⟨v', w1, hr, hown', hgrow, _, hblk⟩ := run_append_own_at (P := Tryz.prog) (w'.alloc (.cells #[.slice au (payP zs x.1).length cu] 22)) (w.heap.size + 3) 23 23 22 i0 (.slice none 0 0) 1 24 Tryz.underlying23 hi hz0 hz1 hz2 rfl (by decide) v pre.length us (hrow3.alloc _) ⟨w'.heap.size, 0, none⟩ 1 1 [.slice au (payP zs x.1).length cu] rfl (cell_one_new _ _ _) (by simp [Value.oneCell']) hm1 hm2 (by have := hu3.size; simp at *; omega)
         rw [appG_fold] at hr
         rw [hr]; obtain ⟨g', cap', rfl⟩ := ownsRow_succ hown'
         obtain ⟨hbx, hbx', hrow', hko, hbel⟩ := Boxed.appended hv3 (by decide) (ownsRow_mono hrow3 (by omega : w.heap.size ≤ w.heap.size + 3)) (by have := hu3.size; simp at *; omega) (Nat.le_refl _) (ownsRow_mono hown' (by omega : w.heap.size ≤ w.heap.size + 3)) hgrow
         have hcx := hbx.cell
         have hfx := hbx.frozen
         have hE1 := (((Boxed.grown0 (W := W.drew) hE hu3).alloc (.cells #[.slice au (payP zs x.1).length cu] 22)).kept hgrow ((Boxed.grown0 (W := W.drew) hE hu3).not_row (by decide) hrow3))))
    all_goals (
      have hE' := hE1.kept (grownBy_setCell' w1 w.heap.size (.slice (some ⟨g', 0, none⟩) (pre.length + 1) cap')) (by simp)
      have hcE' := hE'.cell
      have hfE' := hE'.frozen
      have hcE1 := hE1.cell
      have hfE1 := hE1.frozen
      clear hr hcx hfx hm1 hm2
      gi_wp2)
    all_goals exact IJ.next rfl hb (by omega) hv hrow hel hel2 ⟨_, hE⟩ hLW hB (show W.grownBy w' none from ⟨hu3.os, hu3.tape, hu3.output, hu3.size, hu3.block⟩) rfl hu2 hu4 hgrow hown' hblk
end Go.Proofs
namespace Go.Proofs
open Go.RowKit Go.Shelf Go.AW
variable [Draws]
set_option linter.all false
set_option maxRecDepth 100000
attribute [local go_sem] Oper.semAt_some
theorem Tryz.ent_stopsE (n : Nat) (Bs cap : Nat) (a : Option Addr) (w : World) (hBs : Bs < w.heap.size) (hc : w.cell? ⟨Bs, 0, none⟩ = some (.slice a 0 cap)) :
    SeqStopsK Fence.wide n Tryz.prog 158 #[.pointer (some ⟨Bs, 0, none⟩)] (fun x : Empty => #[.int .i64 0, .int .i64 0]) (fun W W' => Below w.heap.size W W') (fun ys => ys = []) (fun _ => True) 1 w := fun l J Jx W hW hJ _ hY h0 =>
  (Tryz.ent0_in n l Bs a cap J W ((hW.cell (p := ⟨Bs, 0, none⟩) hBs).trans hc) h0).mono fun e W' ⟨he, hj⟩ => ⟨he, .inl ⟨[], rfl, hj⟩⟩
set_option maxRecDepth 100000 in
set_option maxHeartbeats 4000000 in
theorem Tryz.Read0_in (n : Nat) (hn : 3 ≤ n) (ad : Option Addr) (cap : Nat) (w : World) :
    CallsIn Fence.wide n Tryz.prog 52 #[.slice ad 0 cap] w fun e W' => e = .returned (.tuple #[.slice none 0 0, .int .i64 0]) ∧ Below w.heap.size w W' := by
  have h1 : 1 ≤ n := by omega
  refine callsIn_of_wp_marks Tryz.func52 rfl trivial ?_ rfl
  simp only [Tryz.ntmps52, List.size_toArray, List.length_cons, List.length_nil, Nat.reduceAdd, Nat.reduceSub, Array.replicate_succ, Array.replicate_zero, List.push_toArray, List.append_toArray, List.nil_append, List.cons_append]
  gi_wp2_with (refine ⟨trivial, ?_⟩; gi_at_call 109; refine (Tryz.entries_in Fence.wide (n - 1) trivial rfl _ _ _ _).mono ?_; rintro e w' ⟨rfl, rfl⟩)
  have bO := Boxed.new w 23 (.slice none 0 0)
  have bN := Boxed.new (w.alloc (.cells #[.slice none 0 0] 23)) 3 (.int .i64 0)
  have bL := Boxed.new ((w.alloc (.cells #[.slice none 0 0] 23)).alloc (.cells #[.int .i64 0] 3)) 22 (.slice ad 0 cap)
  rw [World.size_alloc] at bN
  rw [World.size_alloc, World.size_alloc] at bL
  have hB0 : Below w.heap.size w (((w.alloc (.cells #[.slice none 0 0] 23)).alloc (.cells #[.int .i64 0] 3)).alloc (.cells #[.slice ad 0 cap] 22)) := (((Below.refl _ w).alloc (Nat.le_refl _) _).alloc (by simp) _).alloc (by simp; omega) _
  have bO2 := (bO.alloc (.cells #[.int .i64 0] 3)).alloc (.cells #[.slice ad 0 cap] 22)
  have bN2 := bN.alloc (.cells #[.slice ad 0 cap] 22)
  obtain ⟨W0, hW0⟩ : ∃ W0, ((w.alloc (.cells #[.slice none 0 0] 23)).alloc (.cells #[.int .i64 0] 3)).alloc (.cells #[.slice ad 0 cap] 22) = W0 := ⟨_, rfl⟩
  have hsz : W0.heap.size = w.heap.size + 3 := by rw [← hW0]; simp
  rw [hW0] at bL hB0 bO2 bN2 ⊢
  clear bO bN hW0
  refine wpIn_rangeFunc_ownG rfl h1 (gf := 158) (lb := #[.pointer (some ⟨w.heap.size + 1 + 1, 0, none⟩)]) rfl trivial (enters_of Tryz.func158 (by kernel_rfl) rfl)
    (Tryz.ent_stopsE (n - 1) (w.heap.size + 2) cap ad W0 (by omega) bL.cell) (fun h k => h.trans k) (belowK_b (Nat.le_refl _)) (Below.refl _ _) (fun _ => rfl)
    (fun _ W => (Boxed W w.heap.size 23 (.slice none 0 0) ∧ Boxed W (w.heap.size + 1) 3 (.int .i64 0)) ∧ Below w.heap.size w W) (fun _ _ _ => False) ?own (fun _ _ _ _ _ hs _ _ => hs)
    ⟨⟨bO2, bN2⟩, hB0⟩
    (fun x => { tmps := #[], defers := [] }) ?assign ?body ?done ?stop
  case own =>
    rintro pre X Y row ⟨⟨hv, hE⟩, hB⟩ hg hrow
    have hbox : ∀ {B : Nat} {t : TypeId} {u : Value}, Boxed X B t u → some B ≠ row := fun {B t u} h e' => by
      obtain ⟨_, o, ho, hc⟩ := hrow B e'.symm
      rw [show X.heap[B]? = _ from h] at ho; cases ho; cases hc
    exact ⟨⟨hv.kept hg (hbox hv), hE.kept hg (hbox hE)⟩, hB.grown hg hB.size fun k e => by have := (hrow k e).1; omega⟩
  case assign => intro l x; exact x.elim
  case body => intro l pre x; exact x.elim
  case stop =>
    rintro D c pre W _ _ h _
    exact h.elim
  case done =>
    rintro D ys W hD hys ⟨⟨hv, hE⟩, hB⟩ hK
    have hcv := hv.cell
    have hce := hE.cell
    gi_wp2
    gi_region
    all_goals gi_wp2
    refine ⟨by simp, .inl ⟨_, _, rfl, run_takeDeferred (w := W.drew) hK, ?_⟩⟩
    have hKd : W.drew.heap[D]? = some (Obj.deferred (some [])) := hK
    refine ⟨_, results_tmp2 rfl _ _ _, rfl, ?_⟩
    exact (hB.trans (show Below w.heap.size W W.drew from ⟨rfl, rfl, rfl, Nat.le_refl _, fun _ _ => rfl⟩)).trans (belowK_b (w := w) (Nat.le_refl _) W.drew D _ _ (by omega) hKd rfl rfl)
def Cnew (C : Nat → Nat) (w W' : World) (x : Nat) : Nat := if x < w.heap.size then C x else match W'.heap[x]? with
  | some (.cells cs _ _) => cs.size
  | _ => 0
theorem Cnew_lt {C : Nat → Nat} {w W' : World} (hw : w.heap.size ≤ W'.heap.size) (b : Nat) (h : 0 < Cnew C w W' b) : b < W'.heap.size := by
  unfold Cnew at h
  by_cases hb : b < w.heap.size
  · omega
  · rw [if_neg hb] at h
    by_cases hb2 : b < W'.heap.size
    · exact hb2
    · rw [Array.getElem?_eq_none (by omega)] at h; simp at h
theorem Cnew_cell {C : Nat → Nat} {w W' : World} {b i : Nat} {x : Value} (hb : w.heap.size ≤ b) (h : W'.cell? ⟨b, i, none⟩ = some x) : i < Cnew C w W' b := by
  unfold Cnew
  rw [if_neg (by omega)]
  unfold World.cell? at h
  split at h
  · rename_i c _ _ hc
    rw [hc]
    simp at h
    exact (Array.getElem?_eq_some_iff.1 h).1
  · cases h
theorem st_below (hup : ¬ Draws.up) {C : Nat → Nat} {τ : Nat → Option Go.AW.Loc} {H : List AObj} {w W' : World} (hw : WF C τ H w) (hB : Below w.heap.size w W') : St w (PrCall τ H w) (Cnew C w W') τ H W' ∧ Step C τ H w (Cnew C w W') τ H W' := by
  have s : Step C τ H w (Cnew C w W') τ H W' := by
    refine ⟨fun b => ?_, fun b i hi => ?_, fun id o h => ⟨o, h, o.after_refl _⟩, hB.size, fun b hb => by rw [Cnew, if_pos hb]⟩
    · by_cases hb : b < w.heap.size
      · rw [Cnew, if_pos hb]; exact Nat.le_refl _
      · have : C b = 0 := by
          rcases Nat.eq_zero_or_pos (C b) with h | h
          · exact h
          · exact absurd (hw.lt b h) hb
        omega
    · exact hB.cell (p := ⟨b, i, none⟩) (hw.lt b (by omega))
  refine ⟨⟨⟨hw.ok, hw.virt, fun id o l h1 h2 => (hw.objs id o l h1 h2).mono s (hB.block _ (hw.locLt (List.getElem?_eq_some_iff.1 h1).1 h2)), fun id l h1 h2 => ?_, hw.inj, fun b hb => Cnew_lt hB.size b hb⟩, ⟨hB.os, hB.tape, hB.output, hB.size, fun b hb => hB.block b hb.1, fun u => absurd u hup⟩, fun b ho hp => hp.2 ho, fun b hb => hb.1⟩, s⟩
  rw [Cnew, if_pos (hw.locLt h1 h2)]
  exact hw.comm id l h1 h2
theorem Tryz.Read_any (hup : ¬ Draws.up) (zs : List Int) (hz : zs.length ≤ 10000000) (hby : Byt zs) {C : Nat → Nat} {τ : Nat → Option Go.AW.Loc} {H : List AObj} {w : World} {v : Value} (hw : WF C τ H w) (hreads : Reads w v zs) :
    CallsX Tryz.prog 52 #[v] w fun e w' => ∃ v r C' τ' H', e = .returned v ∧ (r = .tuple [payL zs, .int .i64 (endP (entP zs 0))] ∧ H' = H) ∧ Rel C' w' τ' H' r v ∧ St w (PrCall τ H w) C' τ' H' w' ∧ Step C τ H w C' τ' H' w' := by
  unfold CallsX
  rw [enters_of Tryz.func52 (by kernel_rfl) rfl]
  rcases hreads with ⟨rfl, a, cap, rfl⟩ | ⟨h0, b, off, cap, rfl, hcap, hb, hc⟩
  · refine Calls.mono (callsIn_wide.1 (Tryz.Read0_in 3 (Nat.le_refl _) a cap w)) ?_
    rintro e W' ⟨rfl, hB⟩
    obtain ⟨h1, h2⟩ := st_below hup hw hB
    have hn : entP [] 0 = [] := entP_nil (okE_short (by simp))
    refine ⟨_, _, _, _, _, rfl, ⟨rfl, rfl⟩, ?_, h1, h2⟩
    unfold payL
    rw [hn]
    refine .tuple _ _ rfl fun i c v hc hv => ?_
    rcases i with _ | _ | i
    · cases hc; cases hv; exact .rd (.list0 _ _ _ _ (by simp))
    · cases hc; cases hv; exact .rd (.int _ _)
    · simp at hc
  · refine Calls.mono (callsIn_wide.1 (Tryz.Read_in 3 (Nat.le_refl _) b off cap zs hcap hz hby w hb hc)) ?_
    rintro e W' ⟨v, us, rfl, hrow, hel, hB⟩
    obtain ⟨h1, h2⟩ := st_below hup hw hB
    refine ⟨_, _, _, _, _, rfl, ⟨rfl, rfl⟩, ?_, h1, h2⟩
    have hlen : us.length = (entP zs 0).length := by have := hel.1; simpa using this
    refine .tuple _ _ rfl fun i c u hc hu => ?_
    rcases i with _ | _ | i
    · cases hc; cases hu
      refine .rd ?_
      rcases hrow.2 with ⟨rfl, hn⟩ | ⟨g, cp, cur, rfl, hg, hgb, hncap, _, hcs, htake⟩
      · have : entP zs 0 = [] := List.eq_nil_of_length_eq_zero hn
        unfold payL
        rw [this]
        exact .list0 _ _ _ _ (by simp)
      · have hcell : ∀ i, i < (entP zs 0).length → W'.cell? ⟨g, i, none⟩ = some (us.getD i undef) := fun i hi => by
          have hj : us[i]? = some (us[i]'(by omega)) := List.getElem?_eq_getElem (by omega)
          have := hrow.cells (g := g) rfl i _ hj
          rw [Addr.add] at this
          simp only [Nat.zero_add] at this
          rw [show (if i = 0 then ({ block := g, off := 0 } : Addr) else { block := g, off := i }) = ⟨g, i, none⟩ by
            by_cases h : i = 0
            · rw [if_pos h, h]
            · rw [if_neg h]] at this
          rw [this, List.getD_eq_getElem?_getD, hj]; rfl
        have hel2 : ∀ (i : Nat) (e : List AVal) (d : AVal), ((entP zs 0).map fun x => [AVal.list false 1 (bC (payP zs x))])[i]? = some e → e[0]? = some d → Rd (Cnew C w W') W' d (us.getD i undef) := fun i e d he hd => by
          rw [List.getElem?_map] at he
          obtain ⟨x, hx, rfl⟩ := Option.map_eq_some_iff.1 he
          cases hd
          have hi := (List.getElem?_eq_some_iff.1 hx).1
          have hj : us[i]? = some (us[i]'(by omega)) := List.getElem?_eq_getElem (by omega)
          obtain ⟨e1, e2, e3⟩ := hel.2 i _ _ hj (by rw [List.getElem?_map, hx]; rfl)
          rw [List.getD_eq_getElem?_getD, hj]
          exact e1.rdC fun h0 b k y hb hk => Cnew_cell (e3 h0 b hb).2 hk
        unfold payL
        have := Rd.list (C := Cnew C w W') (w := W') false 1 ((entP zs 0).map fun x => [AVal.list false 1 (bC (payP zs x))]) g 0 cp (fun i _ => us.getD i undef) (by simp) (by rw [List.length_map]; exact hncap) (fun e he => by
          obtain ⟨x, _, rfl⟩ := List.mem_map.1 he
          rfl) (by
            rw [List.length_map, Nat.mul_one, Nat.zero_add]
            by_cases hz0 : (entP zs 0).length = 0
            · omega
            · have := Cnew_cell (C := C) hg (hcell ((entP zs 0).length - 1) (by omega))
              omega) (fun i j hi hj => by
            obtain rfl : j = 0 := by omega
            rw [List.length_map] at hi
            rw [Nat.mul_one, Nat.add_zero, Nat.zero_add]
            exact hcell i hi) (fun i j e d he hd => by
            rw [List.getElem?_map] at he
            obtain ⟨x, _, rfl⟩ := Option.map_eq_some_iff.1 he
            rcases j with _ | j
            · cases hd; rfl
            · simp at hd) (fun i j e d he hd => by
            have hj0 : j = 0 := by
              rw [List.getElem?_map] at he
              obtain ⟨x, _, rfl⟩ := Option.map_eq_some_iff.1 he
              rcases j with _ | j
              · rfl
              · simp at hd
            subst hj0
            exact hel2 i e d he hd)
        rwa [List.length_map] at this
    · cases hc; cases hu; exact .rd (.int _ _)
    · simp at hc
theorem Tryz.Read_acalls (hup : ¬ Draws.up) (ex : Bool) (zs : List Int) (hz : zs.length ≤ 10000000) (hby : Byt zs) (H : List AObj) : ACalls Tryz.prog 52 [.list ex 1 (bC zs)] H (fun r H' => r = .tuple [payL zs, .int .i64 (endP (entP zs 0))] ∧ H' = H) := by
  intro C τ w vs hw hl hr
  obtain ⟨v, rfl⟩ : ∃ v, vs = #[v] := by
    obtain ⟨m⟩ := vs
    match m, hl with
    | [v], _ => exact ⟨v, rfl⟩
  have hrel := hr 0 _ v rfl rfl
  have hrd : Rd C w (.list ex 1 (bC zs)) v := by
    cases hrel with
    | rd h => exact h
  exact Tryz.Read_any hup zs hz hby hw (Reads.of_rd hrd hw.lt).1
theorem Tryz.Read_own (hup : ¬ Draws.up) (zs : List Int) (n : Nat) (hn : n = zs.length) (hz : zs.length ≤ 10000000) (hby : Byt zs) (H : List AObj) (id : Nat) (ho : H[id]? = some (.arr 1 (bC zs))) : ACalls Tryz.prog 52 [.sl id n 0 n] H (fun r H' => r = .tuple [payL zs, .int .i64 (endP (entP zs 0))] ∧ H' = H) := by
  subst hn
  intro C τ w vs hw hl hr
  obtain ⟨v, rfl⟩ : ∃ v, vs = #[v] := by
    obtain ⟨m⟩ := vs
    match m, hl with
    | [v], _ => exact ⟨v, rfl⟩
  have hrel := hr 0 _ v rfl rfl
  exact Tryz.Read_any hup zs hz hby hw (Reads.of_sl hw ho hrel)
theorem Tryz.Read_part (hup : ¬ Draws.up) (zs : List Int) (rest : List (List AVal)) (ep n : Nat) (hep : ep = zs.length + rest.length) (hn : n = zs.length) (hz : zs.length ≤ 10000000) (hby : Byt zs) (H : List AObj) (id : Nat) (ho : H[id]? = some (.arr 1 (bC zs ++ rest))) : ACalls Tryz.prog 52 [.sl id ep 0 n] H (fun r H' => r = .tuple [payL zs, .int .i64 (endP (entP zs 0))] ∧ H' = H) := by
  subst hn
  intro C τ w vs hw hl hr
  obtain ⟨v, rfl⟩ : ∃ v, vs = #[v] := by
    obtain ⟨m⟩ := vs
    match m, hl with
    | [v], _ => exact ⟨v, rfl⟩
  have hrel := hr 0 _ v rfl rfl
  exact Tryz.Read_any hup zs hz hby hw (Reads.of_slPart hw ho hep hrel)
theorem Tryz.jread (hup : ¬ Draws.up) : JRead Tryz.prog 52 := ⟨Tryz.Read_acalls hup, Tryz.Read_own hup, Tryz.Read_part hup⟩
end Go.Proofs
