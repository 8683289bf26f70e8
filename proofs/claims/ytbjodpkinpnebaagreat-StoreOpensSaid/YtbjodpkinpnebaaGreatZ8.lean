/-
  An abstract machine over the model, the code of functions on it, and their contracts: what the claim needs.
  No condition: definitions, plain laws, contracts over any program that has this code.
-/
import Derived.Test.YtbjodpkinpnebaaGreatZ7
set_option linter.all false
namespace Go.AW
variable [Draws]
attribute [local irreducible] ACalls
structure Sto.Inv (σ : Sto) (k : Nat) : Prop where
 sb : ∀ e,KSrt (σ.blobs e)
 ss : ∀ e,KSrt (σ.staged e)
 vs : ∀ e,0 ≤ σ.vers e ∧ σ.vers e ≤ k
 nb : ∀ e,(σ.blobs e).length ≤ 256
 db : ∀ e,∀ p ∈ σ.blobs e,p.2.length ≤ 65536 ∧ Byt p.2 ∧ p.1.size ≤ 49
 ds : ∀ e,∀ p ∈ σ.staged e,OkE p ∧ Byt p.2.data
 sz : ∀ e,((σ.staged e).flatMap entI).length ≤ 256 * k
 lg : σ.log.length ≤ 4194304
 lb : Byt σ.log
theorem Sto.Inv.new {l : List Int} (hl : l.length ≤ 4194304) (hb : Byt l) : (Sto.new l).Inv 0 :=
 ⟨fun _=>KSrt.nil,fun _=>KSrt.nil,fun _=>⟨Int.le_refl _,Int.le_refl _⟩,fun _=>Nat.zero_le _,(fun _ p hp=>by cases hp),(fun _ p hp=>by cases hp),fun _=>Nat.zero_le _,hl,hb⟩
theorem Sto.Inv.up {σ : Sto} {k j : Nat} (h : σ.Inv k) (hkj : k ≤ j) : σ.Inv j :=
 ⟨h.sb,h.ss,fun e=>⟨(h.vs e).1,by have:=(h.vs e).2;omega⟩,h.nb,h.db,h.ds,fun e=>Nat.le_trans (h.sz e) (Nat.mul_le_mul_left _ hkj),h.lg,h.lb⟩
theorem Sto.Inv.fit {σ : Sto} {k : Nat} (h : σ.Inv k) (hk : k ≤ 300) : σ.Fit:=by
 refine ⟨h.sb,h.ss,fun e=>by have:=h.vs e;omega,fun e he=>?_,by have:=h.lg;omega⟩
 have h1:=nameB_len he
 have h2:=h.sz e
 have h3 : (payI e (σ.staged e)).length = 4 + e.size + ((σ.staged e).flatMap entI).length:=by
  unfold payI txI;simp [beN_length,bytesI_length];omega
 rw [h3]
 omega
theorem Sto.Inv.len {σ : Sto} {k : Nat} (h : σ.Inv k) (hk : k ≤ 300) (e : ByteArray) : (σ.staged e).length ≤ 1000000:=by
 have h1:=flat_len (σ.staged e)
 have h2:=h.sz e
 omega
theorem Sto.Inv.fit2 {σ : Sto} {k : Nat} (h : σ.Inv k) (hk : k ≤ 300) : σ.Fit2:=⟨h.fit hk,fun e p hp=>(h.ds e p hp).2,h.len hk⟩
theorem afterL_mem : ∀ (c : List (ByteArray × Chg)) {d : List (ByteArray × List Int)} {p : ByteArray × List Int},p ∈ afterL d c → p ∈ d ∨ ∃ q ∈ c,p.2 = q.2.data ∧ p.1 = q.1
 | [],d,p,h=>.inl h
 | q :: c,d,p,h=>by
  have h : p ∈ afterL (applyC d q) c:=h
  rcases afterL_mem c h with h | ⟨r,hr,e⟩
  ·unfold applyC at h
   cases hq : q.2.rm with
   | true =>
    rw [hq] at h
    exact .inl (List.mem_filter.1 h).1
   | false =>
    rw [hq] at h
    rcases kIns_mem h with rfl | h
    ·exact .inr ⟨q,List.mem_cons_self ..,rfl,rfl⟩
    ·exact .inl h
  ·exact .inr ⟨r,List.mem_cons_of_mem _ hr,e⟩
theorem afterL_db {d : List (ByteArray × List Int)} {c : List (ByteArray × Chg)} (hd : ∀ p ∈ d,p.2.length ≤ 65536 ∧ Byt p.2 ∧ p.1.size ≤ 49) (hc : ∀ p ∈ c,OkE p ∧ Byt p.2.data) : ∀ p ∈ afterL d c,p.2.length ≤ 65536 ∧ Byt p.2 ∧ p.1.size ≤ 49:=fun p hp=>by
 rcases afterL_mem c hp with h | ⟨q,hq,e,e2⟩
 ·exact hd p h
 ·rw [e,e2];exact ⟨(hc q hq).1.d,(hc q hq).2,qualB_size (hc q hq).1.q⟩
theorem jFull_le {zs p : List Int} (h : jFull zs p = false) : (zs ++ jEnt p).length ≤ 4194304:=by
 unfold jFull at h
 simp at h
 rw [List.length_append,jEnt_length]
 omega
theorem Sto.Inv.stage {σ : Sto} {k : Nat} (h : σ.Inv k) (env : ByteArray) {name : ByteArray} {c : Chg} (hc : OkE (name,c)) (hb : Byt c.data) (hs : (entI (name,c)).length ≤ 256) : (stageS env name c σ).Inv (k + 1):=by
 refine ⟨h.sb,updS_all (Q:=KSrt) h.ss ((h.ss env).ins _ _),(h.up (Nat.le_succ k)).vs,h.nb,h.db,?_,?_,h.lg,h.lb⟩
 ·refine updS_all (Q:=fun l : List (ByteArray × Chg)=>∀ p ∈ l,OkE p ∧ Byt p.2.data) h.ds fun p hp=>?_
  rcases kIns_mem hp with rfl | hp
  ·exact ⟨hc,hb⟩
  ·exact h.ds env p hp
 ·refine updS_all (Q:=fun l : List (ByteArray × Chg)=>(l.flatMap entI).length ≤ 256 * (k + 1)) (h.up (Nat.le_succ k)).sz ?_
  have h1:=flat_ins name c (σ.staged env)
  have h2:=h.sz env
  omega
theorem Sto.Inv.mv {σ : Sto} {k : Nat} (h : σ.Inv k) (env : ByteArray) : (mvS σ env).Inv k :=
 ⟨h.sb,updS_all (Q:=KSrt) h.ss KSrt.nil,h.vs,h.nb,h.db,updS_all (Q:=fun l : List (ByteArray × Chg)=>∀ p ∈ l,OkE p ∧ Byt p.2.data) h.ds (fun p hp=>by cases hp),updS_all (Q:=fun l : List (ByteArray × Chg)=>(l.flatMap entI).length ≤ 256 * k) h.sz (Nat.zero_le _),h.lg,h.lb⟩
theorem Sto.Inv.stageR {σ : Sto} {k : Nat} (h : σ.Inv k) (env name : ByteArray) {data : List Int} (hd : data.length ≤ 200) (hb : Byt data) : (stageR env name data σ).2.Inv (k + 1):=by
 unfold AW.stageR
 split
 ·rename_i hc
  simp at hc
  split
  ·refine h.stage env ⟨hc.2,by simp;omega,fun h=>by cases h⟩ hb ?_
   have:=qualB_size hc.2
   simp [entI,txI,bytesI_length,beN_length];omega
  ·exact h.up (Nat.le_succ k)
 ·exact h.up (Nat.le_succ k)
theorem Sto.Inv.removeR {σ : Sto} {k : Nat} (h : σ.Inv k) (env name : ByteArray) : (removeR env name σ).2.Inv (k + 1):=by
 unfold AW.removeR
 split
 ·rename_i hc
  simp at hc
  refine h.stage env ⟨hc.2,by simp,fun _=>rfl⟩ byt_nil ?_
  have:=qualB_size hc.2
  simp [entI,txI,bytesI_length];omega
 ·exact h.up (Nat.le_succ k)
theorem Sto.Inv.commitR {σ : Sto} {k : Nat} (h : σ.Inv k) (env : ByteArray) : (commitR env σ).2.Inv (k + 1):=by
 by_cases hz : (AW.commitR env σ).1 = 0
 ·obtain ⟨_,_,h3,h4,he⟩:=commitR_ok hz
  rw [he]
  refine Sto.Inv.mv (σ:=vvS (vbS (lgS σ (σ.log ++ jEnt (payI env (σ.staged env)))) env (afterL (σ.blobs env) (σ.staged env))) env (σ.vers env + 1)) ⟨?_,h.ss,?_,?_,?_,h.ds,(h.up (Nat.le_succ k)).sz,jFull_le h4,byt_app h.lb (jEnt_byt (payI_byt _ fun p hp=>(h.ds env p hp).2))⟩ env
  ·exact updS_all (Q:=KSrt) h.sb (afterL_srt _ (h.sb env))
  ·exact updS_all (Q:=fun x : Int=>0 ≤ x ∧ x ≤ ((k + 1 : Nat) : Int)) (h.up (Nat.le_succ k)).vs ⟨by have:=(h.vs env).1;show 0 ≤ σ.vers env + 1;omega,by have:=(h.vs env).2;show σ.vers env + 1 ≤ _;omega⟩
  ·exact updS_all (Q:=fun l : List (ByteArray × List Int)=>l.length ≤ 256) h.nb h3
  ·exact updS_all (Q:=fun l : List (ByteArray × List Int)=>∀ p ∈ l,p.2.length ≤ 65536 ∧ Byt p.2 ∧ p.1.size ≤ 49) h.db (afterL_db (h.db env) (h.ds env))
 ·have e : (AW.commitR env σ).2 = σ:=by
   unfold AW.commitR at hz ⊢
   split
   ·rfl
   ·split
    ·rfl
    ·split
     ·rfl
     ·split
      ·rfl
      ·rename_i h1 h2 h3 h4
       rw [if_neg h1,if_neg h2,if_neg h3,if_neg h4] at hz
       exact absurd rfl hz
  rw [e];exact h.up (Nat.le_succ k)
theorem Sto.Inv.swp {σ : Sto} {k : Nat} (h : σ.Inv k) {a b : ByteArray} : (swpS σ a b).Inv (k + 1):=by
 have hv1 : ∀ e,0 ≤ σ.vers e + 1 ∧ σ.vers e + 1 ≤ ((k + 1 : Nat) : Int):=fun e=>⟨by have:=(h.vs e).1;omega,by have:=(h.vs e).2;omega⟩
 refine ⟨updS_all (Q:=KSrt) (updS_all (Q:=KSrt) h.sb (h.sb _)) (h.sb _),updS_all (Q:=KSrt) (updS_all (Q:=KSrt) h.ss KSrt.nil) KSrt.nil,?_,?_,?_,?_,?_,h.lg,h.lb⟩
 ·exact updS_all (Q:=fun x : Int=>0 ≤ x ∧ x ≤ ((k + 1 : Nat) : Int)) (updS_all (Q:=fun x : Int=>0 ≤ x ∧ x ≤ ((k + 1 : Nat) : Int)) (h.up (Nat.le_succ k)).vs (hv1 _)) (hv1 _)
 ·exact updS_all (Q:=fun l : List (ByteArray × List Int)=>l.length ≤ 256) (updS_all (Q:=fun l : List (ByteArray × List Int)=>l.length ≤ 256) h.nb (h.nb _)) (h.nb _)
 ·exact updS_all (Q:=fun l : List (ByteArray × List Int)=>∀ p ∈ l,p.2.length ≤ 65536 ∧ Byt p.2 ∧ p.1.size ≤ 49) (updS_all (Q:=fun l : List (ByteArray × List Int)=>∀ p ∈ l,p.2.length ≤ 65536 ∧ Byt p.2 ∧ p.1.size ≤ 49) h.db (h.db _)) (h.db _)
 ·exact updS_all (Q:=fun l : List (ByteArray × Chg)=>∀ p ∈ l,OkE p ∧ Byt p.2.data) (updS_all (Q:=fun l : List (ByteArray × Chg)=>∀ p ∈ l,OkE p ∧ Byt p.2.data) h.ds (fun p hp=>by cases hp)) (fun p hp=>by cases hp)
 ·exact updS_all (Q:=fun l : List (ByteArray × Chg)=>(l.flatMap entI).length ≤ 256 * (k + 1)) (updS_all (Q:=fun l : List (ByteArray × Chg)=>(l.flatMap entI).length ≤ 256 * (k + 1)) (h.up (Nat.le_succ k)).sz (Nat.zero_le _)) (Nat.zero_le _)
theorem Sto.Inv.swapR {σ : Sto} {k : Nat} (h : σ.Inv k) (a b : ByteArray) : (swapR a b σ).2.Inv (k + 1):=by
 by_cases hz : (AW.swapR a b σ).1 = 0
 ·obtain ⟨_,_,_,h4,he⟩:=swapR_ok hz
  rw [he]
  refine Sto.Inv.swp (σ:=lgS σ (σ.log ++ jEnt (spayI a b))) ⟨h.sb,h.ss,h.vs,h.nb,h.db,h.ds,h.sz,jFull_le h4,byt_app h.lb (jEnt_byt (spayI_byt a b))⟩
 ·have e : (AW.swapR a b σ).2 = σ:=by
   unfold AW.swapR at hz ⊢
   split
   ·rfl
   ·split
    ·rfl
    ·split
     ·rfl
     ·rename_i h1 h2 h3
      rw [if_neg h1,if_neg h2,if_neg h3] at hz
      exact absurd rfl hz
  rw [e];exact h.up (Nat.le_succ k)
theorem Sto.Inv.play {σ : Sto} {k : Nat} (h : σ.Inv k) {x : Ev} (hd : x.d.length ≤ 200) (hb : Byt x.d) : (playS x σ).Inv (k + 1):=by
 unfold playS
 split
 ·exact h.stageR _ _ hd hb
 ·split
  ·exact h.removeR _ _
  ·split
   ·exact h.commitR _
   ·split
    ·exact h.swapR _ _
    ·exact (h.mv _).up (Nat.le_succ k)
theorem payI_dat {env : ByteArray} {c : List (ByteArray × Chg)} (h : Byt (payI env c)) (hok : ∀ p ∈ c,OkE p) : ∀ p ∈ c,OkE p ∧ Byt p.2.data:=fun p hp=>by
 refine ⟨hok p hp,?_⟩
 cases hr : p.2.rm with
 | true=>rw [(hok p hp).r hr];exact byt_nil
 | false =>
  intro x hx
  refine h x (List.mem_append_right _ (List.mem_flatMap.2 ⟨p,hp,?_⟩))
  unfold entI
  rw [hr]
  simp [hx]
theorem applyR_inv {σ σ' : Sto} {k : Nat} {p : List Int} (h : σ.Inv k) (hb : Byt p) (ha : applyR σ p = some σ') : σ'.Inv (k + 1):=by
 rcases applyR_some hb ha with ⟨env,c,rfl,c1,c2,c3,c4,c5,c6,rfl⟩ | ⟨a,b,rfl,c1,c2,c3,rfl⟩
 ·refine Sto.Inv.mv (σ:=vvS (vbS σ env (afterL (σ.blobs env) c)) env (σ.vers env + 1)) ⟨?_,h.ss,?_,?_,?_,h.ds,(h.up (Nat.le_succ k)).sz,h.lg,h.lb⟩ env
  ·exact updS_all (Q:=KSrt) h.sb (afterL_srt _ (h.sb env))
  ·exact updS_all (Q:=fun x : Int=>0 ≤ x ∧ x ≤ ((k + 1 : Nat) : Int)) (h.up (Nat.le_succ k)).vs ⟨by have:=(h.vs env).1;omega,by have:=(h.vs env).2;omega⟩
  ·exact updS_all (Q:=fun l : List (ByteArray × List Int)=>l.length ≤ 256) h.nb c6
  ·exact updS_all (Q:=fun l : List (ByteArray × List Int)=>∀ p ∈ l,p.2.length ≤ 65536 ∧ Byt p.2 ∧ p.1.size ≤ 49) h.db (afterL_db (h.db env) (payI_dat hb c3))
 ·exact h.swp
theorem openL_inv : ∀ (ps : List (List Int)) {σ σ' : Sto} {k : Nat},σ.Inv k → (∀ p ∈ ps,Byt p) → openL σ ps = some σ' → σ'.Inv (k + ps.length)
 | [],σ,σ',k,h,_,ho=>by cases ho;exact h
 | p :: ps,σ,σ',k,h,hb,ho=>by
  rw [openL_cons] at ho
  split at ho
  ·cases ho
  ·rename_i σ1 ha
   have:=openL_inv ps (applyR_inv h (hb p (List.mem_cons_self ..)) ha) (fun q hq=>hb q (List.mem_cons_of_mem _ hq)) ho
   rw [List.length_cons,show k + (ps.length + 1) = k + 1 + ps.length by omega]
   exact this
theorem Agr.eq {σ1 σ2 : Sto} (h : Agr σ1 σ2) (hs : ∀ e,σ2.staged e = []) (hl : σ1.log = σ2.log) : σ1 = σ2:=by
 obtain ⟨b1,s1,v1,l1⟩:=σ1
 obtain ⟨b2,s2,v2,l2⟩:=σ2
 have e1 : b1 = b2:=h.b
 have e2 : v1 = v2:=h.v
 have e3 : s1 = s2:=funext fun e=>(h.s e).trans (hs e).symm
 have e4 : l1 = l2:=hl
 subst e1 e2 e3 e4
 rfl
def opS (zs : List Int) : Option Sto:=openL (Sto.new (jLog (pays zs))) (pays zs)
theorem opS_both {zs : List Int} (hz : zs.length ≤ 1000000) (hb : Byt zs) : ropenL (Sto.new []) (pays zs) = opS zs ∧ ∀ σ,opS zs = some σ → σ.Inv (pays zs).length ∧ (∀ e,σ.staged e = []) ∧ σ.log = jLog (pays zs):=by
 unfold opS
 have hll:=jLog_pays_len hb
 rcases open_both hz hb with ⟨h1,h2⟩ | ⟨σ1,σ2,h1,h2,h3,h4,h5⟩
 ·rw [h1,h2]
  exact ⟨rfl,fun σ h=>by cases h⟩
 ·have he:=h3.eq h5.st (h4.trans h5.lg'.symm)
  subst he
  rw [h1,h2]
  refine ⟨rfl,fun σ h=>?_⟩
  cases h
  have:=openL_inv (pays zs) (k:=0) (Sto.Inv.new (l:=jLog (pays zs)) (by omega) (jLog_byt (byt_stop hb))) (byt_stop hb) h1
  rw [Nat.zero_add] at this
  exact ⟨this,h5.st,h5.lg'⟩
theorem Sto.Inv.shwE {σ : Sto} {k : Nat} (h : σ.Inv k) (hk : k ≤ 1000000) (hs : ∀ e,σ.staged e = []) : σ.Shw:=by
 refine ⟨⟨h.sb,h.ss,fun e=>by have:=h.vs e;omega,fun e he=>?_,by have:=h.lg;omega⟩,fun e=>Nat.le_trans (h.nb e) (by decide),fun e=>by rw [hs];exact Nat.zero_le _,fun e p hp=>⟨Nat.le_trans (h.db e p hp).1 (by decide),(h.db e p hp).2.1⟩,fun e p hp=>Nat.le_trans (h.db e p hp).2.2 (by decide),(fun e p hp=>by rw [hs] at hp;cases hp),h.lb⟩
 have h1:=nameB_len he
 rw [hs e]
 unfold payI txI
 simp [beN_length,bytesI_length];omega
theorem play_log {σ σq : Sto} {k : Nat} (h : σ.Inv k) (hk : k ≤ 40) (x : Ev) (hb : σq.blobs = σ.blobs) (hv : σq.vers = σ.vers) :
  ((playS x σ).log = σ.log ∧ (playS x σ).blobs = σ.blobs ∧ (playS x σ).vers = σ.vers) ∨
  ∃ pay σ',(playS x σ).log = σ.log ++ jEnt pay ∧ Byt pay ∧ pay.length ≤ 10500 ∧ applyR σq pay = some σ' ∧ σ'.blobs = (playS x σ).blobs ∧ σ'.vers = (playS x σ).vers:=by
 unfold playS
 split
 ·left
  unfold stageR
  split
  ·split <;> exact ⟨rfl,rfl,rfl⟩
  ·exact ⟨rfl,rfl,rfl⟩
 ·split
  ·left
   unfold removeR
   split <;> exact ⟨rfl,rfl,rfl⟩
  ·split
   ·by_cases hz : (commitR x.t σ).1 = 0
    ·obtain ⟨h1,h2,h3,h4,he⟩:=commitR_ok hz
     right
     rw [he]
     have hcl:=flat_len (σ.staged x.t)
     have hsz:=h.sz x.t
     have h24:=nameB_24 h1
     refine ⟨payI x.t (σ.staged x.t),comF σq x.t (afterL (σ.blobs x.t) (σ.staged x.t)),rfl,payI_byt _ fun p hp=>(h.ds x.t p hp).2,?_,?_,?_,?_⟩
     ·have : (payI x.t (σ.staged x.t)).length = 4 + x.t.size + ((σ.staged x.t).flatMap entI).length:=by
       unfold payI txI;simp [beN_length,bytesI_length];omega
      omega
     ·have:=entryR_pay (σ:=σq) h1 (h.ss x.t) (fun p hp=>(h.ds x.t p hp).1) (fun h0=>h2 (by rw [h0];rfl)) (by omega) (by rw [hb];exact h3)
      rw [hb] at this
      exact this
     ·show updS σq.blobs x.t _ = updS σ.blobs x.t _
      rw [hb]
     ·show updS σq.vers x.t (σq.vers x.t + 1) = updS σ.vers x.t (σ.vers x.t + 1)
      rw [hv]
    ·left
     have e : (commitR x.t σ).2 = σ:=by
      unfold commitR at hz ⊢
      split
      ·rfl
      ·split
       ·rfl
       ·split
        ·rfl
        ·split
         ·rfl
         ·rename_i h1 h2 h3 h4
          rw [if_neg h1,if_neg h2,if_neg h3,if_neg h4] at hz
          exact absurd rfl hz
     rw [e];exact ⟨rfl,rfl,rfl⟩
   ·split
    ·by_cases hz : (swapR x.t x.n σ).1 = 0
     ·obtain ⟨h1,h2,h3,h4,he⟩:=swapR_ok hz
      right
      rw [he]
      refine ⟨spayI x.t x.n,swpS σq x.t x.n,rfl,spayI_byt _ _,?_,applyR_spay h1 h2 h3,?_,?_⟩
      ·have:=nameB_24 h1
       have:=nameB_24 h2
       simp [spayI,txI,bytesI_length];omega
      ·show updS (updS σq.blobs x.t (σq.blobs x.n)) x.n (σq.blobs x.t) = updS (updS σ.blobs x.t (σ.blobs x.n)) x.n (σ.blobs x.t)
       rw [hb]
      ·show updS (updS σq.vers x.t (σq.vers x.t + 1)) x.n (σq.vers x.n + 1) = updS (updS σ.vers x.t (σ.vers x.t + 1)) x.n (σ.vers x.n + 1)
       rw [hv]
     ·left
      have e : (swapR x.t x.n σ).2 = σ:=by
       unfold swapR at hz ⊢
       split
       ·rfl
       ·split
        ·rfl
        ·split
         ·rfl
         ·rename_i h1 h2 h3
          rw [if_neg h1,if_neg h2,if_neg h3] at hz
          exact absurd rfl hz
      rw [e];exact ⟨rfl,rfl,rfl⟩
    ·exact .inl ⟨rfl,rfl,rfl⟩
def knC : List (ByteArray × Chg):=[(bA,⟨false,[49]⟩)]
def kn1 : Sto:=stageS bLive bA ⟨false,[49]⟩ (Sto.new [])
def kn2 : Sto:=comS kn1 bLive [(bA,[49])] ([] ++ jEnt (payI bLive knC))
def kn3 : Sto:=swpS (lgS kn2 (kn2.log ++ jEnt (spayI bLive bShadow))) bLive bShadow
def kn4 : Sto:=swpS (comF (Sto.new kn3.log) bLive [(bA,[49])]) bLive bShadow
theorem knOk : ∀ p ∈ knC,OkE p:=fun p hp=>by
 simp [knC] at hp
 subst hp
 exact ⟨by decide,by decide,fun h=>by cases h⟩
theorem nLive : nameB bLive = true:=by decide
theorem nShadow : nameB bShadow = true:=by decide
theorem qA : qualB bA = true:=by decide
theorem neLS : bLive ≠ bShadow:=fun h=>absurd (congrArg ByteArray.size h) (by decide)
theorem kn1_staged : kn1.staged bLive = knC:=by
 show updS (Sto.new []).staged bLive (kIns bA ⟨false,[49]⟩ ((Sto.new []).staged bLive)) bLive = _
 rw [updS_same];rfl
theorem kn_after : afterL [] knC = [(bA,[49])]:=rfl
theorem kn_pay : (payI bLive knC).length = 17 - 1:=by
 unfold payI knC txI;simp [entI,txI,bytesI_length,beN_length];decide
theorem kn_commit : commitR bLive kn1 = (0,kn2):=by
 unfold commitR
 rw [kn1_staged,show kn1.blobs bLive = [] from rfl,kn_after,if_neg (by rw [nLive];decide),if_neg (by decide),if_neg (by decide),if_neg]
 ·rfl
 ·show ¬ jFull [] (payI bLive knC) = true
  unfold jFull
  rw [kn_pay]
  decide
theorem kn_commit2 : commitR bLive kn2 = (13,kn2):=by
 have h : kn2.staged bLive = []:=by show updS kn1.staged bLive [] bLive = _;rw [updS_same]
 unfold commitR
 rw [h,if_neg (by rw [nLive];decide),if_pos (by decide)]
theorem kn2_log : kn2.log = jEnt (payI bLive knC):=rfl
theorem kn_swap : swapR bLive bShadow kn2 = (0,kn3):=by
 unfold swapR
 rw [if_neg (by rw [nLive,nShadow];decide),if_neg neLS,if_neg]
 ·rfl
 ·unfold jFull
  rw [kn2_log,jEnt_length,kn_pay]
  decide
theorem kn3_log : kn3.log = jLog [payI bLive knC,spayI bLive bShadow]:=by
 rw [jLog_cons,jLog_cons]
 show jEnt _ ++ jEnt _ = jEnt _ ++ (jEnt _ ++ [])
 rw [List.append_nil]
theorem kn_byts : ∀ p ∈ [payI bLive knC,spayI bLive bShadow],Byt p:=fun p hp=>by
 simp at hp
 rcases hp with rfl | rfl
 ·refine payI_byt _ fun q hq=>?_
  simp [knC] at hq
  subst hq
  intro x hx
  simp at hx
  subst hx
  decide
 ·exact spayI_byt _ _
theorem kn3_byt : Byt kn3.log:=by rw [kn3_log];exact jLog_byt kn_byts
theorem kn3_pays : pays kn3.log = [payI bLive knC,spayI bLive bShadow]:=by
 have h:=(pays_log [payI bLive knC,spayI bLive bShadow] [] (fun p hp=>by
  simp at hp
  rcases hp with rfl | rfl
  ·rw [kn_pay];decide
  ·decide)).1
 rw [List.append_nil,pays_nil.1,List.append_nil,← kn3_log] at h
 exact h
theorem kn3_len : kn3.log.length ≤ 1000000:=by
 rw [kn3_log,jLog_cons,jLog_cons,List.length_append,List.length_append,jEnt_length,jEnt_length,kn_pay]
 decide
theorem kn_open : openL (Sto.new (jLog (pays kn3.log))) (pays kn3.log) = some kn4:=by
 rw [kn3_pays,← kn3_log,openL_cons]
 have h:=entryR_pay (σ:=Sto.new kn3.log) (env:=bLive) nLive (c:=knC) (by unfold KSrt knC;simp) knOk (by unfold knC;simp) (by decide) (by decide)
 rw [h]
 dsimp only
 rw [openL_cons,applyR_spay nLive nShadow neLS]
 rfl
theorem kn_inv1 : kn1.Inv 1:=(Sto.Inv.new (l:=[]) (by decide) byt_nil).stage bLive (knOk _ (by simp [knC])) (kn_byt49) (by decide)
where kn_byt49 : Byt [49]:=fun x hx=>by simp at hx;subst hx;decide
theorem kn_inv2 : kn2.Inv 2:=by
 have:=kn_inv1.commitR bLive
 rwa [kn_commit] at this
theorem kn_inv4 : kn4.Inv 2:=by
 have:=openL_inv (pays kn3.log) (k:=0) (Sto.Inv.new (l:=jLog (pays kn3.log)) (by have:=jLog_pays_len kn3_byt;have:=kn3_len;omega) (jLog_byt (byt_stop kn3_byt))) (byt_stop kn3_byt) kn_open
 rwa [kn3_pays] at this
theorem kn4_rs : readV kn4 bShadow bA = ([49],true):=by decide
theorem kn4_rl : readV kn4 bLive bA = ([],false):=by decide
theorem kn4_vl : kn4.vers bLive = 2:=by decide
theorem kn4_vs : kn4.vers bShadow = 1:=by decide
theorem kn4_ns : kn4.blobs bShadow = [(bA,[49])]:=by rfl
theorem kn1_r : readV kn1 bLive bA = ([],false):=by decide
set_option maxRecDepth 20000 in
theorem known36_spec {P : Program} (F : F_z1c P) (hM1 : MClone P F.z0i.z0t.z0v.z0s.z0d.id)
  (hK1 : SKeys P F.z0i.z0t.z0v.z0z.slices_Sorted_string.id F.z0i.z0t.z0v.z0z.z0f.maps_Keys_mapstringstorechange_string_storechange_1.id)
  (hR1 : JRead P F.z0i.z09.journal_Read.id) (hR2 : JRead P F.z0i.journal_Read.id)
  (hM2 : MClone P F.z0j.z0s.z0d.id)
  (hK2 : SKeys P F.z0j.z0z.slices_Sorted_string.id F.z0j.z0z.z0f.maps_Keys_mapstringstorechange_string_storechange_1.id)
  (hL1 : SKeys P F.z0m.slices_Sorted_string.id F.z0m.z0e.maps_Keys_mapstringLbyte_string_Lbyte_1.id) (H : List AObj) :
  ACalls P F.id [] H (fun r H'=>r = .bool true ∧ H' = H):=by
 refine ACalls.drop rfl ?_
 refine acalls_of_body F.has ?_
 (conv=>whnf);refine ACalls.mono (pOpen_nil F.z0i hM1 hK1 hR1 hR2 H) ?_
 rintro r H1 ⟨s,ro,z,rfl,hP,hp⟩
 have l0 : 0 + H1.length = H1.length:=Nat.zero_add _
 (conv=>whnf);refine snocK_to ?_
 rw [l0]
 have hP0:=hP.app (X:=[bO [49]])
 obtain ⟨_,H2,hc,rfl,ro2,z2,hP2,hp2⟩:=Stage_own F.z0o hP0 bLive bA [49] nLive qA (by decide) (by decide) KSrt.nil (id:=H1.length) (by simp)
 (conv=>whnf);refine recO (getA) ?_
 (conv=>whnf);refine ACalls.mono (hc) ?_
 rintro v Hx ⟨rfl,rfl⟩
 repeat ((conv=>whnf);first | refine recT (by decide) ?_ | refine recF (by decide) ?_)
 have f1:=kn_inv1.fit (by decide)
 have hrd1:=Read_spec F.z0n hP2 f1 bLive bA (fun d hd=>by cases hd)
 rw [show readV (stageS bLive bA ⟨false,[49]⟩ (Sto.new [])) bLive bA = ([],false) from kn1_r] at hrd1
 (conv=>whnf);refine ACalls.use (hrd1) ?_
 obtain ⟨_,H3,hc3,rfl,ro3,z3,hP3,hp3⟩:=Commit_spec F.z0j hM2 hK2 hP2 bLive f1
 rw [show commitR bLive (stageS bLive bA ⟨false,[49]⟩ (Sto.new [])) = (0,kn2) from kn_commit] at hc3 hP3
 (conv=>whnf);refine ACalls.mono (hc3) ?_
 rintro v Hx ⟨rfl,rfl⟩
 obtain ⟨_,H4,hc4,rfl,ro4,z4,hP4,hp4⟩:=Commit_spec F.z0j hM2 hK2 hP3 bLive (kn_inv2.fit (by decide))
 rw [kn_commit2] at hc4 hP4
 (conv=>whnf);refine ACalls.mono (hc4) ?_
 rintro v Hx ⟨rfl,rfl⟩
 obtain ⟨_,H5,hc5,rfl,ro5,z5,hP5,hp5⟩:=Swap_spec F.z0q hP4 bLive bShadow (kn_inv2.fit (by decide))
 rw [kn_swap] at hc5 hP5
 (conv=>whnf);refine ACalls.mono (hc5) ?_
 rintro v Hx ⟨rfl,rfl⟩
 repeat ((conv=>whnf);first | refine recT (by decide) ?_ | refine recF (by decide) ?_)
 (conv=>whnf);refine ACalls.use (Log_spec F.z0l hP5 (by show kn3.log.length ≤ _;have:=kn3_len;omega)) ?_
 (conv=>whnf);refine ACalls.mono (pOpen_cl F.z0i hM1 hK1 hR1 hR2 false kn3_len kn3_byt _) ?_
 intro r H6 hq
 unfold OpP at hq
 rw [kn_open] at hq
 obtain ⟨_,s6,ro6,z6,rfl,hP6,hp6⟩:=hq
 repeat ((conv=>whnf);first | refine recT (by decide) ?_ | refine recF (by decide) ?_)
 have f4:=kn_inv4.fit (by decide)
 have hrs:=Read_spec F.z0n hP6 f4 bShadow bA (fun d hd=>Nat.le_trans ((kn_inv4.db bShadow _ (readV_mem hd (kn_inv4.sb _))).1) (by decide))
 rw [kn4_rs] at hrs
 have hrl:=Read_spec F.z0n hP6 f4 bLive bA (fun d hd=>Nat.le_trans ((kn_inv4.db bLive _ (readV_mem hd (kn_inv4.sb _))).1) (by decide))
 rw [kn4_rl] at hrl
 have hvl:=Version_spec F.z0r hP6 bLive
 rw [kn4_vl] at hvl
 have hvs:=Version_spec F.z0r hP6 bShadow
 rw [kn4_vs] at hvs
 have hns:=Names_spec F.z0m hL1 hP6 f4 bShadow (Nat.le_trans (kn_inv4.nb _) (by decide)) (fun p hp=>Nat.le_trans (kn_inv4.db _ p hp).2.2 (by decide))
 rw [kn4_ns] at hns
 (conv=>whnf);refine ACalls.use (hrs) ?_
 (conv=>whnf);refine ACalls.use (hrl) ?_
 (conv=>whnf);refine ⟨_,bytesOf_bC _,?_⟩
 (conv=>whnf);refine ACalls.use (hvl) ?_
 (conv=>whnf);refine ACalls.use (hvs) ?_
 (conv=>whnf);refine ACalls.use (hns) ?_
 conv=>whnf
 refine ⟨rfl,?_⟩
 obtain ⟨G,hG⟩:=post_app (((((hp.trans (Post.app _ _ _)).trans hp2).trans hp3).trans hp4).trans hp5)
 obtain ⟨G2,rfl⟩:=post_app hp6
 exact ⟨G ++ G2,by rw [hG];simp⟩
def playR (x : Ev) (σ : Sto) : Sto:=if x.k % 9 = 8 then σ else playS x σ
theorem playS_len {σ : Sto} {k : Nat} (h : σ.Inv k) (hk : k ≤ 40) (x : Ev) : (playS x σ).log.length ≤ σ.log.length + 10600:=by
 rcases play_log (σq:=σ) h hk x rfl rfl with ⟨h1,_,_⟩ | ⟨pay,σ',h1,_,h3,_⟩
 ·rw [h1];omega
 ·rw [h1,List.length_append,jEnt_length];omega
theorem playR_inv {σ : Sto} {k : Nat} (h : σ.Inv k) {x : Ev} (hx : x.Sm) : (playR x σ).Inv (k + 1):=by
 unfold playR
 split
 ·exact h.up (Nat.le_succ k)
 ·exact h.play hx.d hx.b
theorem playR_len {σ : Sto} {k : Nat} (h : σ.Inv k) (hk : k ≤ 40) (x : Ev) : (playR x σ).log.length ≤ σ.log.length + 10600:=by
 unfold playR
 split
 ·omega
 ·exact playS_len h hk x
def opXs (log made whole : List Int) (c : Nat) : List (List Int):=[log,made,whole,whole.take c,whole ++ made]
theorem Two.opened {H1 H2 : List AObj} {s t : Nat} {σ : Sto} {ro ro' : Nat → Option Role} {z z' : SP} {lv : AVal} (hP : RepP H1 s σ ro z) (hR : RepR H2 t σ ro' z' lv) (hp : Post H1 H2 (fun _=>none) ro') : Two H2 s t σ (ownRR ro ro') :=
 ⟨ro,z,ro',z',lv,hP.frame (fun i hi=>(hp.2 i (hP.lt i hi) rfl).2) hp.1,hR,fun i hi=>(hp.2 i (hP.lt i hi) rfl).1,rfl⟩
set_option maxRecDepth 20000 in
theorem law_StoreOpens {P : Program} (F : F_z1a P)
  (hM1 : MClone P F.z1c.z0i.z0t.z0v.z0s.z0d.id)
  (hK1 : SKeys P F.z1c.z0i.z0t.z0v.z0z.slices_Sorted_string.id F.z1c.z0i.z0t.z0v.z0z.z0f.maps_Keys_mapstringstorechange_string_storechange_1.id)
  (hR1 : JRead P F.z1c.z0i.z09.journal_Read.id) (hR2 : JRead P F.z1c.z0i.journal_Read.id)
  (hM2 : MClone P F.z1c.z0j.z0s.z0d.id)
  (hK2 : SKeys P F.z1c.z0j.z0z.slices_Sorted_string.id F.z1c.z0j.z0z.z0f.maps_Keys_mapstringstorechange_string_storechange_1.id)
  (hL1 : SKeys P F.z1c.z0m.slices_Sorted_string.id F.z1c.z0m.z0e.maps_Keys_mapstringLbyte_string_Lbyte_1.id)
  (hM3 : MClone P F.z0i.z0t.z0v.z0s.z0d.id)
  (hK3 : SKeys P F.z0i.z0t.z0v.z0z.slices_Sorted_string.id F.z0i.z0t.z0v.z0z.z0f.maps_Keys_mapstringstorechange_string_storechange_1.id)
  (hR3 : JRead P F.z0i.z09.journal_Read.id) (hR4 : JRead P F.z0i.journal_Read.id)
  (hL2 : SKeys P F.z1d.z0m.slices_Sorted_string.id F.z1d.z0m.z0e.maps_Keys_mapstringLbyte_string_Lbyte_1.id)
  (hK5 : SKeys P F.z1d.z0p.slices_Sorted_string.id F.z1d.z0p.z0f.maps_Keys_mapstringstorechange_string_storechange_1.id)
  (log : List Int) (ps : List (List Int)) (ls : List Int) (cut : Int) (hlb : Byt log) (hpb : ∀ p ∈ ps,Byt p) :
  ACalls P F.id [.list false 1 (bC log),.list false 1 (pL ps),.list false 1 (iC ls),.int .i64 cut] [] (fun r _=>r = .bool true):=by
 have fin : ∀ H,ACalls P F.z1c.id [] H (fun r H'=>r = .bool true ∧ H' = H):=known36_spec F.z1c hM1 hK1 hR1 hR2 hM2 hK2 hL1
 refine acalls_of_body F.has ?_
 (conv=>whnf);refine recA (fun h1=>?_) (fun h1=>?_)
 ·(conv=>whnf);refine ACalls.use (fin _) ?_
  conv=>whnf
 rw [bC_length] at h1
 simp at h1
 (conv=>whnf);refine recA (fun h2=>?_) (fun h2=>?_)
 ·(conv=>whnf);refine ACalls.use (fin _) ?_
  conv=>whnf
 rw [pL_length] at h2
 simp at h2
 (conv=>whnf);refine recA (fun h3=>?_) (fun h3=>?_)
 ·(conv=>whnf);refine ACalls.use (fin _) ?_
  conv=>whnf
 rw [iC_length] at h3
 simp at h3
 conv=>whnf
 refine ⟨fun m ρ H1=>∃ k : Nat,k + m = ps.length ∧ (∀ p ∈ ps.take k,p.length ≤ 300) ∧ H1 = [.arr 1 (bC (jLog (ps.take k)))] ∧
  Sv 156 [(0,.list false 1 (bC log)),(1,.list false 1 (pL ps)),(2,.list false 1 (iC ls)),(3,.int .i64 cut),(9,.sl 0 (jLog (ps.take k)).length 0 (jLog (ps.take k)).length),(36,.int .i64 ps.length),(37,.int .i64 k)] ρ,ps.length,[(9,1)],?_,?_⟩
 ·conv=>whnf
  exact ⟨0,by omega,(fun p hp=>by cases hp),rfl,Sv.intro rfl ⟨rfl,rfl,rfl,rfl,rfl,intEq (by rw [pL_length]),rfl,trivial⟩⟩
 rintro m ρ H1 ⟨k,hk,h300,rfl,d,rfl⟩
 have hml : (jLog (ps.take k)).length ≤ 308 * 6:=by
  have h4:=jLog_bound h300
  have : (ps.take k).length ≤ 6:=by rw [List.length_take];omega
  exact Nat.le_trans h4 (Nat.mul_le_mul_left _ this)
 (conv=>whnf);refine recA (fun hlt=>?_) (fun hlt=>?_)
 ·simp at hlt
  obtain ⟨p,hp,_,hpm⟩:=get_drop hlt
  (conv=>whnf);refine And.intro (by omega) ?_
  (conv=>whnf);refine recO (pL_get hp) ?_
  (conv=>whnf);refine recA (fun h300p=>?_) (fun h300p=>?_)
  ·(conv=>whnf);refine ACalls.use (fin _) ?_
   conv=>whnf
  replace h300p : decide (((bC p).length : Int) > 300) = false:=h300p
  rw [bC_length] at h300p
  simp at h300p
  (conv=>whnf);refine And.intro (by omega) ?_
  (conv=>whnf);refine recO (pL_get hp) ?_
  (conv=>whnf);refine ACalls.use (ref35_Entry_spec F.z1h false p (by omega) (hpb p hpm) _) ?_
  have htk : ps.take (k + 1) = ps.take k ++ [p]:=take_succ_get hp
  have hjl : jLog (ps.take (k + 1)) = jLog (ps.take k) ++ jEnt p:=by rw [htk,jLog_append];simp [jLog]
  (conv=>whnf);refine recT (by rw [bC_length];exact Nat.beq_refl _) ?_
  (conv=>whnf);refine And.intro (⟨by rw [bC_length,jEnt_length];simp [roomB];omega,by rw [bC_length,jEnt_length];simp [roomB];omega,rfl,by rw [bC_length]⟩) ?_
  conv=>whnf
  refine ⟨m - 1,by omega,Gp.keep rfl ?_ fun ρ1 h=>⟨k + 1,by omega,?_,by rw [hjl,bC_append] <;> rfl,h⟩⟩
  ·refine ⟨rfl,rfl,rfl,rfl,?_,rfl,intEq (wrapI ((k : Int) + 1) (by omega) (by omega)),trivial⟩
   rw [hjl]
   show AVal.sl _ _ _ _ = _
   rw [← bC_append,bC_length]
  ·intro q hq
   rw [htk] at hq
   rcases List.mem_append.1 hq with hq | hq
   ·exact h300 q hq
   ·simp at hq;subst hq;omega
 simp at hlt
 rw [List.take_of_length_le hlt] at hml h300 ⊢
 have hmb : Byt (jLog ps):=jLog_byt hpb
 generalize jLog ps = made at hml hmb ⊢
 (conv=>whnf);refine ACalls.mono (rNew_spec F.z1k _) ?_
 rintro r H2 ⟨rfl,rfl⟩
 (conv=>whnf);refine ACalls.use (acts_spec F.z1b ls (by omega) _) ?_
 obtain ⟨hal,has⟩:=actF_sm ls 40 0
 obtain ⟨L,hL⟩ : ∃ L,L = actL ls:=⟨_,rfl⟩
 have hLl : L.length ≤ 40:=by rw [hL];exact hal
 have hLs : ∀ x ∈ L,x.Sm:=by rw [hL];exact has
 rw [← hL]
 conv=>whnf
 refine ⟨fun m2 ρ H4=>∃ (j : Nat) (σ : Sto) (ro : Nat → Option Role) (z : SP) (lv : AVal),j + m2 = L.length ∧ σ.Inv j ∧ σ.log.length ≤ j * 10600 ∧ RepR H4 4 σ ro z lv ∧ H4[0]? = some (.arr 1 (bC made)) ∧ ro 0 = none ∧
  Sv 156 [(0,.list false 1 (bC log)),(3,.int .i64 cut),(9,.sl 0 made.length 0 made.length),(11,.ptr 4 1 0 0),(57,.list false 10 (evC L)),(58,.int .i64 L.length),(59,.int .i64 j)] ρ,L.length,[],?_,?_⟩
 ·exact ⟨0,_,_,_,_,by omega,Sto.Inv.new (by decide) byt_nil,by simp [Sto.new],RepR.empty [.arr 1 (bC made)],rfl,by simp [newRo],Sv.intro rfl ⟨rfl,rfl,rfl,rfl,rfl,intEq (by rw [evC_length]),rfl,trivial⟩⟩
 rintro m2 ρ H4 ⟨j,σ,ro,z,lv,hj,hI,hlg,hR,h0,h0r,d2,rfl⟩
 have h0l : 0 < H4.length:=(List.getElem?_eq_some_iff.1 h0).1
 (conv=>whnf);refine recA (fun hlt2=>?_) (fun hlt2=>?_)
 ·simp at hlt2
  obtain ⟨x,hx,_,hxm⟩:=get_drop hlt2
  have hxs:=hLs x hxm
  have hxn:=hxs.n
  have hxd:=hxs.d
  have hf2:=hI.fit2 (by omega)
  (conv=>whnf);refine And.intro (by omega) ?_
  (conv=>whnf);refine recO (evC_at hx) ?_
  (conv=>whnf);refine snocK_to ?_
  (conv=>whnf);refine recO (at_snoc _ _) ?_
  (conv=>whnf);refine recT (by rw [show ([AVal.int .i64 x.k,.list x.ex 1 (bC x.d),.str x.t,.str x.n,x.r4,x.r5,x.r6,x.r7,x.r8,x.r9]).all AVal.isCell = true from hxs.p.cells];rfl) ?_
  (conv=>whnf);refine setO_at (set_snoc _ _ _) ?_
  have hRx:=hR.app (X:=[AObj.arr 10 [[AVal.int .i64 x.k,.list x.ex 1 (bC x.d),.str x.t,.str x.n,x.r4,x.r5,x.r6,x.r7,x.r8,x.r9]]])
  (conv=>whnf);refine recO (at_snoc _ _) ?_
  (conv=>whnf);refine ACalls.use (Place_spec F.z26 x.k 9 (by decide) (by decide) _) ?_
  have hv0:=Int.emod_nonneg x.k (show (9 : Int) ≠ 0 by decide)
  have hv9:=Int.emod_lt_of_pos x.k (show (0 : Int) < 9 by decide)
  obtain ⟨v,hv⟩ : ∃ v,x.k % 9 = v:=⟨_,rfl⟩
  rw [hv] at hv0 hv9 ⊢
  have hcase : v = 0 ∨ v = 1 ∨ v = 2 ∨ v = 3 ∨ v = 4 ∨ v = 5 ∨ v = 6 ∨ v = 7 ∨ v = 8:=by omega
  clear hv0 hv9
  rcases hcase with rfl | rfl | rfl | rfl | rfl | rfl | rfl | rfl | rfl
  ·have hps : playR x σ = (stageR x.t x.n x.d σ).2:=by unfold playR playS;rw [hv];rfl
   repeat ((conv=>whnf);first | refine recT (by decide) ?_ | refine recF (by decide) ?_)
   (conv=>whnf);refine recO (at_snoc _ _) ?_
   (conv=>whnf);refine recO (at_snoc _ _) ?_
   (conv=>whnf);refine recO (at_snoc _ _) ?_
   obtain ⟨_,H5,hc,rfl,ro5,z5,lv5,hR5,hp5⟩:=(rStage_spec F.z1s hRx x.t x.n x.ex x.d (by omega) (by omega) (hf2.f.ss _) (hf2.l _))
   have h05 : H5[0]? = some (.arr 1 (bC made)):=(hp5.2 0 (by rw [List.length_append];omega) h0r).2.trans (by rw [List.getElem?_append_left (by omega)];exact h0)
   have hr05 : ro5 0 = none:=(hp5.2 0 (by rw [List.length_append];omega) h0r).1
   have hl05 : 0 < H5.length:=(List.getElem?_eq_some_iff.1 h05).1
   (conv=>whnf);refine ACalls.mono (hc) ?_
   rintro v Hx ⟨rfl,rfl⟩
   conv=>whnf
   refine ⟨m2 - 1,by omega,Gp.keep rfl ?_ fun ρ1 h=>⟨j + 1,_,_,_,_,by omega,playR_inv hI hxs,?_,by rw [hps];exact hR5,h05,hr05,h⟩⟩
   ·exact ⟨rfl,rfl,rfl,rfl,rfl,rfl,intEq (wrapI ((j : Int) + 1) (by omega) (by omega)),trivial⟩
   ·have:=playR_len hI (by omega) x
    omega
  ·have hps : playR x σ = (stageR x.t x.n x.d σ).2:=by unfold playR playS;rw [hv];rfl
   repeat ((conv=>whnf);first | refine recT (by decide) ?_ | refine recF (by decide) ?_)
   (conv=>whnf);refine recO (at_snoc _ _) ?_
   (conv=>whnf);refine recO (at_snoc _ _) ?_
   (conv=>whnf);refine recO (at_snoc _ _) ?_
   obtain ⟨_,H5,hc,rfl,ro5,z5,lv5,hR5,hp5⟩:=(rStage_spec F.z1s hRx x.t x.n x.ex x.d (by omega) (by omega) (hf2.f.ss _) (hf2.l _))
   have h05 : H5[0]? = some (.arr 1 (bC made)):=(hp5.2 0 (by rw [List.length_append];omega) h0r).2.trans (by rw [List.getElem?_append_left (by omega)];exact h0)
   have hr05 : ro5 0 = none:=(hp5.2 0 (by rw [List.length_append];omega) h0r).1
   have hl05 : 0 < H5.length:=(List.getElem?_eq_some_iff.1 h05).1
   (conv=>whnf);refine ACalls.mono (hc) ?_
   rintro v Hx ⟨rfl,rfl⟩
   conv=>whnf
   refine ⟨m2 - 1,by omega,Gp.keep rfl ?_ fun ρ1 h=>⟨j + 1,_,_,_,_,by omega,playR_inv hI hxs,?_,by rw [hps];exact hR5,h05,hr05,h⟩⟩
   ·exact ⟨rfl,rfl,rfl,rfl,rfl,rfl,intEq (wrapI ((j : Int) + 1) (by omega) (by omega)),trivial⟩
   ·have:=playR_len hI (by omega) x
    omega
  ·have hps : playR x σ = (stageR x.t x.n x.d σ).2:=by unfold playR playS;rw [hv];rfl
   repeat ((conv=>whnf);first | refine recT (by decide) ?_ | refine recF (by decide) ?_)
   (conv=>whnf);refine recO (at_snoc _ _) ?_
   (conv=>whnf);refine recO (at_snoc _ _) ?_
   (conv=>whnf);refine recO (at_snoc _ _) ?_
   obtain ⟨_,H5,hc,rfl,ro5,z5,lv5,hR5,hp5⟩:=(rStage_spec F.z1s hRx x.t x.n x.ex x.d (by omega) (by omega) (hf2.f.ss _) (hf2.l _))
   have h05 : H5[0]? = some (.arr 1 (bC made)):=(hp5.2 0 (by rw [List.length_append];omega) h0r).2.trans (by rw [List.getElem?_append_left (by omega)];exact h0)
   have hr05 : ro5 0 = none:=(hp5.2 0 (by rw [List.length_append];omega) h0r).1
   have hl05 : 0 < H5.length:=(List.getElem?_eq_some_iff.1 h05).1
   (conv=>whnf);refine ACalls.mono (hc) ?_
   rintro v Hx ⟨rfl,rfl⟩
   conv=>whnf
   refine ⟨m2 - 1,by omega,Gp.keep rfl ?_ fun ρ1 h=>⟨j + 1,_,_,_,_,by omega,playR_inv hI hxs,?_,by rw [hps];exact hR5,h05,hr05,h⟩⟩
   ·exact ⟨rfl,rfl,rfl,rfl,rfl,rfl,intEq (wrapI ((j : Int) + 1) (by omega) (by omega)),trivial⟩
   ·have:=playR_len hI (by omega) x
    omega
  ·have hps : playR x σ = (stageR x.t x.n x.d σ).2:=by unfold playR playS;rw [hv];rfl
   repeat ((conv=>whnf);first | refine recT (by decide) ?_ | refine recF (by decide) ?_)
   (conv=>whnf);refine recO (at_snoc _ _) ?_
   (conv=>whnf);refine recO (at_snoc _ _) ?_
   (conv=>whnf);refine recO (at_snoc _ _) ?_
   obtain ⟨_,H5,hc,rfl,ro5,z5,lv5,hR5,hp5⟩:=(rStage_spec F.z1s hRx x.t x.n x.ex x.d (by omega) (by omega) (hf2.f.ss _) (hf2.l _))
   have h05 : H5[0]? = some (.arr 1 (bC made)):=(hp5.2 0 (by rw [List.length_append];omega) h0r).2.trans (by rw [List.getElem?_append_left (by omega)];exact h0)
   have hr05 : ro5 0 = none:=(hp5.2 0 (by rw [List.length_append];omega) h0r).1
   have hl05 : 0 < H5.length:=(List.getElem?_eq_some_iff.1 h05).1
   (conv=>whnf);refine ACalls.mono (hc) ?_
   rintro v Hx ⟨rfl,rfl⟩
   conv=>whnf
   refine ⟨m2 - 1,by omega,Gp.keep rfl ?_ fun ρ1 h=>⟨j + 1,_,_,_,_,by omega,playR_inv hI hxs,?_,by rw [hps];exact hR5,h05,hr05,h⟩⟩
   ·exact ⟨rfl,rfl,rfl,rfl,rfl,rfl,intEq (wrapI ((j : Int) + 1) (by omega) (by omega)),trivial⟩
   ·have:=playR_len hI (by omega) x
    omega
  ·have hps : playR x σ = (removeR x.t x.n σ).2:=by unfold playR playS;rw [hv];rfl
   repeat ((conv=>whnf);first | refine recT (by decide) ?_ | refine recF (by decide) ?_)
   (conv=>whnf);refine recO (at_snoc _ _) ?_
   (conv=>whnf);refine recO (at_snoc _ _) ?_
   obtain ⟨_,H5,hc,rfl,ro5,z5,lv5,hR5,hp5⟩:=(rRemove_spec F.z1r hRx x.t x.n (by omega) (hf2.f.ss _) (hf2.l _))
   have h05 : H5[0]? = some (.arr 1 (bC made)):=(hp5.2 0 (by rw [List.length_append];omega) h0r).2.trans (by rw [List.getElem?_append_left (by omega)];exact h0)
   have hr05 : ro5 0 = none:=(hp5.2 0 (by rw [List.length_append];omega) h0r).1
   have hl05 : 0 < H5.length:=(List.getElem?_eq_some_iff.1 h05).1
   (conv=>whnf);refine ACalls.mono (hc) ?_
   rintro v Hx ⟨rfl,rfl⟩
   conv=>whnf
   refine ⟨m2 - 1,by omega,Gp.keep rfl ?_ fun ρ1 h=>⟨j + 1,_,_,_,_,by omega,playR_inv hI hxs,?_,by rw [hps];exact hR5,h05,hr05,h⟩⟩
   ·exact ⟨rfl,rfl,rfl,rfl,rfl,rfl,intEq (wrapI ((j : Int) + 1) (by omega) (by omega)),trivial⟩
   ·have:=playR_len hI (by omega) x
    omega
  ·have hps : playR x σ = (commitR x.t σ).2:=by unfold playR playS;rw [hv];rfl
   repeat ((conv=>whnf);first | refine recT (by decide) ?_ | refine recF (by decide) ?_)
   (conv=>whnf);refine recO (at_snoc _ _) ?_
   obtain ⟨_,H5,hc,rfl,ro5,z5,lv5,hR5,hp5⟩:=(rCommit_spec F.z1m hRx x.t hf2.f hf2.b)
   have h05 : H5[0]? = some (.arr 1 (bC made)):=(hp5.2 0 (by rw [List.length_append];omega) h0r).2.trans (by rw [List.getElem?_append_left (by omega)];exact h0)
   have hr05 : ro5 0 = none:=(hp5.2 0 (by rw [List.length_append];omega) h0r).1
   have hl05 : 0 < H5.length:=(List.getElem?_eq_some_iff.1 h05).1
   (conv=>whnf);refine ACalls.mono (hc) ?_
   rintro v Hx ⟨rfl,rfl⟩
   conv=>whnf
   refine ⟨m2 - 1,by omega,Gp.keep rfl ?_ fun ρ1 h=>⟨j + 1,_,_,_,_,by omega,playR_inv hI hxs,?_,by rw [hps];exact hR5,h05,hr05,h⟩⟩
   ·exact ⟨rfl,rfl,rfl,rfl,rfl,rfl,intEq (wrapI ((j : Int) + 1) (by omega) (by omega)),trivial⟩
   ·have:=playR_len hI (by omega) x
    omega
  ·have hps : playR x σ = (commitR x.t σ).2:=by unfold playR playS;rw [hv];rfl
   repeat ((conv=>whnf);first | refine recT (by decide) ?_ | refine recF (by decide) ?_)
   (conv=>whnf);refine recO (at_snoc _ _) ?_
   obtain ⟨_,H5,hc,rfl,ro5,z5,lv5,hR5,hp5⟩:=(rCommit_spec F.z1m hRx x.t hf2.f hf2.b)
   have h05 : H5[0]? = some (.arr 1 (bC made)):=(hp5.2 0 (by rw [List.length_append];omega) h0r).2.trans (by rw [List.getElem?_append_left (by omega)];exact h0)
   have hr05 : ro5 0 = none:=(hp5.2 0 (by rw [List.length_append];omega) h0r).1
   have hl05 : 0 < H5.length:=(List.getElem?_eq_some_iff.1 h05).1
   (conv=>whnf);refine ACalls.mono (hc) ?_
   rintro v Hx ⟨rfl,rfl⟩
   conv=>whnf
   refine ⟨m2 - 1,by omega,Gp.keep rfl ?_ fun ρ1 h=>⟨j + 1,_,_,_,_,by omega,playR_inv hI hxs,?_,by rw [hps];exact hR5,h05,hr05,h⟩⟩
   ·exact ⟨rfl,rfl,rfl,rfl,rfl,rfl,intEq (wrapI ((j : Int) + 1) (by omega) (by omega)),trivial⟩
   ·have:=playR_len hI (by omega) x
    omega
  ·have hps : playR x σ = (swapR x.t x.n σ).2:=by unfold playR playS;rw [hv];rfl
   repeat ((conv=>whnf);first | refine recT (by decide) ?_ | refine recF (by decide) ?_)
   (conv=>whnf);refine recO (at_snoc _ _) ?_
   (conv=>whnf);refine recO (at_snoc _ _) ?_
   obtain ⟨_,H5,hc,rfl,ro5,z5,lv5,hR5,hp5⟩:=(rSwap_spec F.z1u hRx x.t x.n hf2.f)
   have h05 : H5[0]? = some (.arr 1 (bC made)):=(hp5.2 0 (by rw [List.length_append];omega) h0r).2.trans (by rw [List.getElem?_append_left (by omega)];exact h0)
   have hr05 : ro5 0 = none:=(hp5.2 0 (by rw [List.length_append];omega) h0r).1
   have hl05 : 0 < H5.length:=(List.getElem?_eq_some_iff.1 h05).1
   (conv=>whnf);refine ACalls.mono (hc) ?_
   rintro v Hx ⟨rfl,rfl⟩
   conv=>whnf
   refine ⟨m2 - 1,by omega,Gp.keep rfl ?_ fun ρ1 h=>⟨j + 1,_,_,_,_,by omega,playR_inv hI hxs,?_,by rw [hps];exact hR5,h05,hr05,h⟩⟩
   ·exact ⟨rfl,rfl,rfl,rfl,rfl,rfl,intEq (wrapI ((j : Int) + 1) (by omega) (by omega)),trivial⟩
   ·have:=playR_len hI (by omega) x
    omega
  ·have hps : playR x σ = σ:=by unfold playR;rw [hv];rfl
   have h9 : (playR x σ).log.length ≤ (j + 1) * 10600:=by
    have h10 : (playR x σ).log.length = σ.log.length:=congrArg (fun s=>s.log.length) hps
    omega
   repeat ((conv=>whnf);first | refine recT (by decide) ?_ | refine recF (by decide) ?_)
   conv=>whnf
   refine ⟨m2 - 1,by omega,Gp.keep rfl ?_ fun ρ1 h=>⟨j + 1,_,_,_,_,by omega,playR_inv hI hxs,h9,by rw [hps];exact hRx,by rw [List.getElem?_append_left h0l];exact h0,h0r,h⟩⟩
   exact ⟨rfl,rfl,rfl,rfl,rfl,rfl,intEq (wrapI ((j : Int) + 1) (by omega) (by omega)),trivial⟩
 simp at hlt2
 have hwl : σ.log.length ≤ 424000:=by
  have : j * 10600 ≤ 40 * 10600:=Nat.mul_le_mul_right _ (by omega)
  omega
 have hwb:=hI.lb
 (conv=>whnf);refine ACalls.mono (rLog_spec F.z1o hR (by omega)) ?_
 rintro v H5 ⟨rfl,rfl⟩
 generalize σ.log = whole at hwl hwb ⊢
 conv=>whnf
 refine Ghost.none (n:=156) (live:=[(0,.list false 1 (bC log)),(3,.int .i64 cut),(9,.list false 1 (bC made)),(14,.list false 1 (bC whole))]) rfl ⟨.closed _ rfl,.closed _ rfl,pubF (at_old h0) (bC_length _).symm (bC_length _).symm (pureEs_bC _),pubF getA (bC_length _).symm (bC_length _).symm (pureEs_bC _),trivial⟩ ?_
 rintro ρ1 ⟨d3,rfl⟩
 have hw1 : IntKind.i64.wrap (((bC whole).length : Int) + 1) = ((whole.length + 1 : Nat) : Int):=by rw [bC_length,wrapI _ (by omega) (by omega)];omega
 have hc0:=Int.emod_nonneg cut (show ((whole.length + 1 : Nat) : Int) ≠ 0 by omega)
 have hc1:=Int.emod_lt_of_pos cut (show (0 : Int) < ((whole.length + 1 : Nat) : Int) by omega)
 have hpl:=Place_spec F.z26 cut ((whole.length + 1 : Nat) : Int) (by omega) (by omega)
 obtain ⟨c,hc⟩ : ∃ c : Nat,cut % ((whole.length + 1 : Nat) : Int) = c:=⟨(cut % ((whole.length + 1 : Nat) : Int)).toNat,by omega⟩
 rw [hc] at hc0 hc1 hpl
 rw [← hw1] at hpl
 have hwl2:=bC_length whole
 have hml2:=bC_length made
 (conv=>whnf);refine ⟨_,hpl _,?_⟩
 (conv=>whnf);refine And.intro (⟨by omega,by omega⟩) ?_
 (conv=>whnf);refine And.intro (⟨by simp [roomB];omega,by simp [roomB];omega⟩) ?_
 (conv=>whnf);refine recT (by exact Nat.beq_refl _) ?_
 (conv=>whnf);refine And.intro (⟨by simp [roomB];omega,by simp [roomB];omega,rfl,rfl⟩) ?_
 conv=>whnf
 refine And.intro ?_ ?_
 ·(conv=>whnf);refine And.intro (⟨by omega,by omega⟩) ?_
  conv=>whnf
 conv=>whnf
 refine And.intro ?_ ?_
 ·(conv=>whnf);refine And.intro (⟨by omega,by omega⟩) ?_
  conv=>whnf
 have hcl2 : List.drop 0 (List.take (c : Int).toNat (bC whole)) = bC (whole.take c):=slice_bC whole c
 have hap : bC whole ++ bC made = bC (whole ++ made):=(bC_append _ _).symm
 have hapl : (bC whole ++ bC made).length = (bC (whole ++ made)).length:=congrArg List.length hap
 conv=>whnf
 refine Ghost.none (n:=156) (live:=[(120,.list false 1 (pL (opXs log made whole c))),(121,.int .i64 5),(122,.int .i64 0)]) rfl ⟨?_,.closed _ rfl,.closed _ rfl,trivial⟩ ?_
 ·refine .frzN 1 5 0 5 1 [[.list false 1 (bC log)],[.list false 1 (bC made)],[.list false 1 (bC whole)],[.list false 1 (List.drop 0 (List.take (c : Int).toNat (bC whole)))],[.sl 0 (bC whole ++ bC made).length 0 (bC whole ++ bC made).length]] (pL (opXs log made whole c)) rfl rfl (by simp) rfl ?_ ?_ ?_
  ·intro i e e1 he he1
   rcases i with _ | _ | _ | _ | _ | i <;> first | (cases he;cases he1;rfl) | cases he
  ·intro i j e1 d1 he1 hd1
   rcases i with _ | _ | _ | _ | _ | i <;> first | (cases he1;rcases j with _ | j <;> first | (cases hd1;rfl) | cases hd1) | cases he1
  ·intro i j e e1 d d1 he he1 hd hd1
   rcases i with _ | _ | _ | _ | _ | i
   ·cases he;cases he1
    rcases j with _ | j
    ·cases hd;cases hd1;exact .closed _ rfl
    ·cases hd
   ·cases he;cases he1
    rcases j with _ | j
    ·cases hd;cases hd1;exact .closed _ rfl
    ·cases hd
   ·cases he;cases he1
    rcases j with _ | j
    ·cases hd;cases hd1;exact .closed _ rfl
    ·cases hd
   ·cases he;cases he1
    rcases j with _ | j
    ·cases hd;cases hd1;rw [hcl2];exact .closed _ rfl
    ·cases hd
   ·cases he;cases he1
    rcases j with _ | j
    ·cases hd;cases hd1
     rw [hap]
     exact pubF (by rw [← hap];rfl) rfl rfl (pureEs_bC _)
    ·cases hd
   ·cases he
 rintro ρ1 ⟨d4,rfl⟩
 obtain ⟨xs,hxs⟩ : ∃ xs,xs = opXs log made whole c:=⟨_,rfl⟩
 have hxl : xs.length = 5:=by rw [hxs];rfl
 have hxa : ∀ x ∈ xs,Byt x ∧ x.length ≤ 1000000:=fun x hx=>by
  rw [hxs] at hx
  simp only [opXs,List.mem_cons,List.not_mem_nil,or_false] at hx
  rcases hx with rfl | rfl | rfl | rfl | rfl
  ·exact ⟨hlb,by omega⟩
  ·exact ⟨hmb,by omega⟩
  ·exact ⟨hwb,by omega⟩
  ·exact ⟨fun y hy=>hwb y (List.mem_of_mem_take hy),by rw [List.length_take];omega⟩
  ·exact ⟨byt_app hwb hmb,by rw [List.length_append];omega⟩
 rw [← hxs]
 clear hcl2 hap hapl hxs
 conv=>whnf
 refine ⟨fun m3 ρ H6=>∃ k : Nat,k + m3 = 5 ∧ Sv 156 [(120,.list false 1 (pL xs)),(121,.int .i64 5),(122,.int .i64 k)] ρ,5,[],?_,?_⟩
 ·exact ⟨0,rfl,Sv.intro rfl ⟨rfl,rfl,rfl,trivial⟩⟩
 rintro m3 ρ H6 ⟨k,hk3,d5,rfl⟩
 (conv=>whnf);refine recA (fun hlt3=>?_) (fun hlt3=>?_)
 ·simp at hlt3
  obtain ⟨x,hx,_,hxm⟩:=get_drop (show k < xs.length by omega)
  obtain ⟨hxb,hxl2⟩:=hxa x hxm
  (conv=>whnf);refine And.intro (by omega) ?_
  (conv=>whnf);refine recO (pL_get hx) ?_
  (conv=>whnf);refine ACalls.mono (pOpen_cl F.z0i hM3 hK3 hR3 hR4 false hxl2 hxb _) ?_
  intro r1 H7 hq1
  obtain ⟨ho1,ho2⟩:=opS_both hxl2 hxb
  have hq1 : match opS x with
   | none=>r1 = .tuple [.nilp,.int .i64 11] ∧ H7 = H6
   | some σ=>σ.Rp (pays x).length ∧ ∃ s ro z,r1 = .tuple [.ptr s 1 0 0,.int .i64 0] ∧ RepP H7 s σ ro z ∧ Post H6 H7 (fun _=>none) ro:=hq1
  cases ho : opS x with
  | none =>
   rw [ho] at hq1
   obtain ⟨rfl,rfl⟩:=hq1
   (conv=>whnf);refine ACalls.mono (rOpen_cl F.z1l false hxl2 hxb _) ?_
   intro r2 H8 hq2
   rw [ho1,ho] at hq2
   obtain ⟨rfl,_⟩:=hq2
   repeat ((conv=>whnf);first | refine recT (by decide) ?_ | refine recF (by decide) ?_)
   conv=>whnf
   refine ⟨m3 - 1,by omega,Gp.keep rfl ?_ fun ρ1 h=>⟨k + 1,by omega,h⟩⟩
   exact ⟨rfl,rfl,intEq (wrapI ((k : Int) + 1) (by omega) (by omega)),trivial⟩
  | some σx =>
   rw [ho] at hq1
   obtain ⟨_,s7,ro7,z7,rfl,hP7,_⟩:=hq1
   (conv=>whnf);refine ACalls.mono (rOpen_cl F.z1l false hxl2 hxb _) ?_
   intro r2 H8 hq2
   rw [ho1,ho] at hq2
   obtain ⟨s8,ro8,z8,lv8,rfl,hR8,hp8⟩:=hq2
   obtain ⟨hInv,hst,_⟩:=ho2 σx ho
   have hT:=Two.opened hP7 hR8 hp8
   have hsh:=(shows_spec F.z1d hL2 hK5 hT (hInv.shwE (Nat.le_trans (pays_len x) hxl2) hst) false [] (fun e he=>by cases he) (by decide)).weakD (args:=[.ptr s7 1 0 0,.ptr s8 1 0 0,.nil]) (.cons (.refl _) (.cons (.refl _) (.cons (.nil false 10) .nil)))
   repeat ((conv=>whnf);first | refine recT (by decide) ?_ | refine recF (by decide) ?_)
   (conv=>whnf);refine ACalls.mono (hsh) ?_
   rintro v H9 ⟨rfl,X,rfl⟩
   repeat ((conv=>whnf);first | refine recT (by decide) ?_ | refine recF (by decide) ?_)
   conv=>whnf
   refine ⟨m3 - 1,by omega,Gp.keep rfl ?_ fun ρ1 h=>⟨k + 1,by omega,h⟩⟩
   exact ⟨rfl,rfl,intEq (wrapI ((k : Int) + 1) (by omega) (by omega)),trivial⟩
 ·(conv=>whnf);refine ACalls.use (fin _) ?_
  conv=>whnf
end Go.AW
namespace Go.AW
open Go.Proofs Go.Shelf Go.RowKit Go.Maps Go.Sort
variable [Draws]
variable {P : Program}
theorem one_arg {a : AVal} {vs : Array Value} (hl : [a].length = vs.size) : ∃ v, vs = #[v] := by
 obtain ⟨m⟩ := vs
 match m, hl with
 | [v], _ => exact ⟨v, rfl⟩
theorem mclone_of {ρ : Go.Shelf.Ren} (L : SlLaysW.n5 P ρ) (e5 : ∀ args w, (callFunc (ρ.f 5) args).run P w = .ok (.enter (ρ.f 5) args) w) : MClone P (ρ.f 5) := by
 intro H id kvs d hid _ C τ w vs hw hl hr
 obtain ⟨v, rfl⟩ := one_arg hl
 obtain ⟨l, ht, rfl⟩ := mp_inv (hr 0 _ v rfl rfl)
 obtain ⟨kvs0, es, clock, hp, hb, hsz, hel, hnd, hbn, hlt⟩ := hw.objs id _ l hid ht
 unfold CallsX
 rw [e5]
 refine Calls.mono (AnyW.maps_Clone L l.b es clock w hb) ?_
 rintro e w' ⟨rfl, rfl⟩
 obtain ⟨st, s⟩ := (St.start hw).alloc_obj (.map es clock) (.map kvs) 0 trivial fun C' τ' H' w' hs hh =>
  ⟨kvs0, es, clock, hp, hh, hsz, fun i e kv he hkv => ⟨(hel i e kv he hkv).1, (hel i e kv he hkv).2.mono hs⟩, hnd, hbn, hlt⟩
 exact ⟨_, .mp H.length, _, _, _, rfl, ⟨rfl, rfl⟩, .mp H.length (.map kvs) _ (by simp) rfl (updF_same _ _ _), st, s⟩
def Cnw (C : Nat → Nat) (w W' : World) (x : Nat) : Nat := if x < w.heap.size then C x else match W'.heap[x]? with
 | some (.cells cs _ _) => cs.size
 | _ => 0
theorem Cnw_lt {C : Nat → Nat} {w W' : World} (hw : w.heap.size ≤ W'.heap.size) (b : Nat) (hC : ∀ b, 0 < C b → b < w.heap.size) (h : 0 < Cnw C w W' b) : b < W'.heap.size := by
 unfold Cnw at h
 by_cases hb : b < w.heap.size
 ·omega
 ·rw [if_neg hb] at h
  by_cases hb2 : b < W'.heap.size
  ·exact hb2
  ·rw [Array.getElem?_eq_none (by omega)] at h; simp at h
theorem st_blw (hup : ¬ Draws.up) {C : Nat → Nat} {τ : Nat → Option Go.AW.Loc} {H : List AObj} {w W' : World} (hw : WF C τ H w) (hB : Below w.heap.size w W') : St w (PrCall τ H w) (Cnw C w W') τ H W' ∧ Step C τ H w (Cnw C w W') τ H W' := by
 have s : Step C τ H w (Cnw C w W') τ H W' := by
  refine ⟨fun b => ?_, fun b i hi => ?_, fun id o h => ⟨o, h, o.after_refl _⟩, hB.size, fun b hb => by rw [Cnw, if_pos hb]⟩
  ·by_cases hb : b < w.heap.size
   ·rw [Cnw, if_pos hb]; exact Nat.le_refl _
   ·have : C b = 0 := by
     rcases Nat.eq_zero_or_pos (C b) with h | h
     ·exact h
     ·exact absurd (hw.lt b h) hb
    omega
  ·exact hB.cell (p := ⟨b, i, none⟩) (hw.lt b (by omega))
 refine ⟨⟨⟨hw.ok, hw.virt, fun id o l h1 h2 => (hw.objs id o l h1 h2).mono s (hB.block _ (hw.locLt (List.getElem?_eq_some_iff.1 h1).1 h2)), fun id l h1 h2 => ?_, hw.inj, fun b hb => Cnw_lt hB.size b hw.lt hb⟩, ⟨hB.os, hB.tape, hB.output, hB.size, fun b hb => hB.block b hb.1, fun u => absurd u hup⟩, fun b ho hp => hp.2 ho, fun b hb => hb.1⟩, s⟩
 rw [Cnw, if_pos (hw.locLt h1 h2)]
 exact hw.comm id l h1 h2
theorem box_cell {C : Nat → Nat} {τ : Nat → Option Go.AW.Loc} {H : List AObj} {w : World} (hw : WF C τ H w) {box : Nat} {m : AVal} {v : Value} (hb : H[box]? = some (.arr 1 [[m]])) (hr : Rel C w τ H (.ptr box 1 0 0) v) :
  ∃ B u, v = .pointer (some ⟨B, 0, none⟩) ∧ w.cell? ⟨B, 0, none⟩ = some u ∧ B < w.heap.size ∧ Rel C w τ H m u := by
 cases hr with
 | rd h => cases h
 | ptr _ _ _ _ a esz es ho hep h =>
  rw [hb] at ho
  cases ho
  obtain ⟨l, ht, rfl⟩ := h rfl
  obtain ⟨_, cells, elem, fz, h1, _, _, h4⟩ := hw.objs box _ l hb ht
  obtain ⟨u, hu, hru⟩ := h4 0 0 [m] m rfl rfl
  refine ⟨l.b, u, rfl, ?_, hw.locLt (List.getElem?_eq_some_iff.1 hb).1 ht, hru⟩
  simp only [World.cell?, h1]
  exact hu
theorem row_list {C : Nat → Nat} {w W' : World} {e : TypeId} {v : Value} {ks : List ByteArray} (h : W'.ownsRow w.heap.size e 1 v ks.length (ks.map fun k => Value.string k)) :
  Rd (Cnw C w W') W' (.list false 1 (ks.map fun k => [AVal.str k])) v := by
 rcases h.2 with ⟨rfl, hn⟩ | ⟨g, cp, cur, rfl, hg, hgb, hncap, _, hcs, htake⟩
 ·have : ks = [] := List.eq_nil_of_length_eq_zero hn
  subst this
  exact .list0 _ _ _ _ (by simp)
 ·have hC : Cnw C w W' g = cur.size := by unfold Cnw; rw [if_neg (by omega), hgb]
  have hcell : ∀ i, i < ks.length → W'.cell? ⟨g, 0 + i * 1 + 0, none⟩ = some (.string (ks.getD i ⟨#[]⟩)) := fun i hi => by
   simp only [World.cell?, hgb]
   have h1 := congrArg (fun l => l[i]?) htake
   simp only [List.getElem?_take, Nat.mul_one, if_pos hi, List.getElem?_map, List.getElem?_eq_getElem hi, Option.map_some] at h1
   rw [show 0 + i * 1 + 0 = i by omega, ← Array.getElem?_toList, h1, List.getD_eq_getElem?_getD, List.getElem?_eq_getElem hi]
   rfl
  have := Rd.list (C := Cnw C w W') (w := W') false 1 (ks.map fun k => [AVal.str k]) g 0 cp (fun i _ => .string (ks.getD i ⟨#[]⟩)) (by simp) (by rw [List.length_map]; exact hncap) (fun e he => by
   obtain ⟨x, _, rfl⟩ := List.mem_map.1 he
   rfl) (by rw [List.length_map, hC, hcs]; omega) (fun i j hi hj => by
   obtain rfl : j = 0 := by omega
   rw [List.length_map] at hi
   exact hcell i hi) (fun i j e d he hd => by
   rw [List.getElem?_map] at he
   obtain ⟨x, _, rfl⟩ := Option.map_eq_some_iff.1 he
   rcases j with _ | j
   ·cases hd; rfl
   ·simp at hd) (fun i j e d he hd => by
   rw [List.getElem?_map] at he
   obtain ⟨x, hx, rfl⟩ := Option.map_eq_some_iff.1 he
   rcases j with _ | j
   ·cases hd
    rw [List.getD_eq_getElem?_getD, hx]
    exact .str _
   ·simp at hd)
  rwa [List.length_map] at this
theorem leB_sorted {ks : List ByteArray} (h : ks.Pairwise fun a b => ltB a b = true) : (ks.map fun k => k.data.toList).mergeSort (fun x y => decide (x ≤ y)) = ks.map fun k => k.data.toList := by
 refine List.mergeSort_of_pairwise (List.pairwise_map.2 (h.imp fun {a b} hab => ?_))
 unfold ltB at hab
 rw [bytesLess_eq] at hab
 exact decide_eq_true (List.le_of_lt (of_decide_eq_true hab))
def kbs : Value → List UInt8
 | .string s => s.data.toList
 | _ => []
def anyR (_ : Value) : Option (DataW Unit × List MemPlace) := some (.nil, [])
section
variable {ρk ρs ρm : Go.Shelf.Ren}
theorem skeys_of (hup : ¬ Draws.up) (Lk : SlLaysZ.n10 P ρk) (Ls : SlLaysZ.n6 P ρs) (Lm : SlLaysM.n6 P ρm) (h9 : ρs.f 9 = ρm.f 6)
  (e9 : ∀ args w, (callFunc (ρs.f 9) args).run P w = .ok (.enter (ρs.f 9) args) w) (e10 : ∀ args w, (callFunc (ρk.f 10) args).run P w = .ok (.enter (ρk.f 10) args) w)
  (e6 : ∀ args w, (callFunc (ρs.f 6) args).run P w = .ok (.enter (ρs.f 6) args) w) : SKeys P (ρs.f 6) (ρk.f 10) := by
 have hs : ∀ m, AnyZ.SortsIn P ρs Fence.wide m := fun m => by
  unfold AnyZ.SortsIn
  rw [h9]
  exact ⟨fun blk off cap ss W hH hblk hsz => callsIn_wide.2 (AnyM.slices_Sort_string Lm blk off cap ss W hH hblk hsz), fun p cap W => callsIn_wide.2 (AnyM.slices_Sort_string_none Lm p cap W)⟩
 have hfn : ∀ {C : Nat → Nat} {w : World} {τ : Nat → Option Go.AW.Loc} {H : List AObj} {p : AVal} {v : Value}, Rel C w τ H (.fn (ρk.f 10) [p]) v → ∃ u, v = .func (.func (ρk.f 10)) #[] #[u] ∧ Rel C w τ H p u := fun {C w τ H p v} h => by
  cases h with
  | rd h => cases h
  | fn _ _ vs hl h =>
   obtain ⟨u, rfl⟩ := one_arg hl
   exact ⟨u, rfl, h 0 _ _ rfl rfl⟩
 constructor
 ·intro H box id kvs ks hbox hid hks hsrt hn hsz C τ w vs hw hl hr
  obtain ⟨v, rfl⟩ := one_arg hl
  obtain ⟨u, rfl, hu⟩ := hfn (hr 0 _ v rfl rfl)
  obtain ⟨B, mv, rfl, hc, hB, hmv⟩ := box_cell hw hbox hu
  obtain ⟨l, ht, rfl⟩ := mp_inv hmv
  obtain ⟨kvs0, es, clock, hp, hb, hsize, hel, hnd, hbn, hlt⟩ := hw.objs id _ l hid ht
  have hkeys : es.toList.map (·.key) = kvs0.map fun kv => kv.1.lit := by
   apply List.ext_getElem?
   intro i
   rw [List.getElem?_map, List.getElem?_map]
   by_cases hi : i < es.size
   ·have h1 : es[i]? = some es[i] := Array.getElem?_eq_getElem hi
    have h2 : kvs0[i]? = some (kvs0[i]'(by omega)) := List.getElem?_eq_getElem (by omega)
    rw [Array.getElem?_toList, h1, h2]
    simp only [Option.map_some]
    rw [(hel i _ _ h1 h2).1]
   ·rw [Array.getElem?_toList, Array.getElem?_eq_none (by omega), List.getElem?_eq_none (by omega)]; rfl
  have hpk : (es.toList.map (·.key)).Perm (ks.map Value.string) := by
   rw [hkeys]
   have h1 := (hp.map (fun kv : AVal × AVal => kv.1)).trans hks
   have h2 := h1.map AVal.lit
   rw [List.map_map, List.map_map] at h2
   exact h2
  have hreads : ∀ x ∈ es.toList, ∃ k ∈ ks, x.key = .string k := fun x hx => by
   have := hpk.mem_iff.1 (List.mem_map.2 ⟨x, hx, rfl⟩)
   obtain ⟨k, hk, e⟩ := List.mem_map.1 this
   exact ⟨k, hk, e.symm⟩
  have hrd : ∀ x ∈ es.toList, Go.WideElems.rd P (ρk.t 26) anyR x = some (.string (kbs x.key), .nil) := fun x hx => by
   obtain ⟨k, hk, e⟩ := hreads x hx
   unfold Go.WideElems.rd anyR
   rw [e, Go.WideMaps.keyOf_string_mk Lk.t26 (Nat.le_trans (hsz k hk) (by decide))]
   rfl
  have hmap : es.toList.map (Go.WideElems.rg P (ρk.t 26) anyR) = es.toList.map fun x => ((.string (kbs x.key) : Lit), (.nil : DataW Unit)) := List.map_congr_left fun x hx => by
   unfold Go.WideElems.rg
   rw [hrd x hx]; rfl
  have hsz2 : es.size = ks.length := by
   have := hpk.length_eq
   rw [List.length_map, List.length_map, Array.length_toList] at this
   exact this
  have hkn : (es.toList.map (·.key)).Nodup := by rw [hkeys]; exact hnd
  obtain ⟨D0, hD0⟩ : ∃ D0 : DataW Unit, D0 = .map ((es.toList.map (Go.WideElems.rg P (ρk.t 26) anyR)).foldr DataW.insert []) := ⟨_, rfl⟩
  have hown : w.ownsMap P (ρk.t 26) anyR l.b es.size D0 := ⟨es, clock, hb, ⟨by rw [hsz2]; exact Nat.le_trans hn (by decide), ⟨hlt, hbn, hkn⟩, fun x hx => ⟨_, hrd x hx⟩⟩, Nat.le_refl _, hD0⟩
  have hsp := Go.WideShapes.sorted_perm (es.toList.map (Go.WideElems.rg (H := Unit) P (ρk.t 26) anyR))
  have hperm : (strKeys D0).Perm (ks.map fun k => k.data.toList) := by
   rw [hD0]
   refine (hsp.map _).trans ?_
   rw [hmap, List.map_map]
   have h2 := hpk.map kbs
   rw [List.map_map, List.map_map] at h2
   exact h2
  have hms : Maps.size D0 = ks.length := by
   rw [hD0, Maps.size_eq, hsp.length_eq, List.length_map, Array.length_toList, hsz2]
  have hseq := AnyZ.keys_gives Lk Fence.wide 2 trivial rfl (by omega) B l.b es.size D0 w hB hc hown
  have cS := AnyZ.sorted_in Ls Fence.wide 5 trivial trivial trivial trivial rfl (by omega) (hs _) e9 (ρk.f 10) #[.pointer (some ⟨B, 0, none⟩)] trivial e10 _ (Maps.size D0) (by rw [hms]; exact Nat.le_trans hn (by decide)) (by rw [hms]; omega) w hseq
  unfold CallsX
  rw [e6]
  refine Calls.mono (callsIn_wide.1 cS) ?_
  rintro e w' ⟨v, ss, rfl, hS, hrow, hnil, hbel⟩
  have hss : ss.mergeSort (fun x y => decide (x ≤ y)) = ks.map fun k => k.data.toList := (mergeSort_of_perm (hS.trans hperm)).trans (leB_sorted hsrt)
  have hsl : ss.length = ks.length := by rw [(hS.trans hperm).length_eq, List.length_map]
  rw [hss, hsl, List.map_map] at hrow
  have henc : (ks.map ((encStr) ∘ fun k => k.data.toList)) = ks.map Value.string := List.map_congr_left fun k _ => rfl
  obtain ⟨h1, h2⟩ := st_blw hup hw hbel
  exact ⟨_, _, _, _, _, rfl, ⟨rfl, rfl⟩, .rd (row_list (by rw [← henc]; exact hrow)), h1, h2⟩
 ·intro H box hbox C τ w vs hw hl hr
  obtain ⟨v, rfl⟩ := one_arg hl
  obtain ⟨u, rfl, hu⟩ := hfn (hr 0 _ v rfl rfl)
  obtain ⟨B, mv, rfl, hc, hB, hmv⟩ := box_cell hw hbox hu
  obtain rfl := nilm_inv hmv
  have hseq : SeqGives Fence.wide 2 P (ρk.f 10) #[.pointer (some ⟨B, 0, none⟩)] encStr (fun ss : List (List UInt8) => ss = []) 0 w := AnyZ.keys_gives_nil Lk Fence.wide _ trivial rfl B w hB hc
  have cS := AnyZ.sorted_in Ls Fence.wide 5 trivial trivial trivial trivial rfl (by omega) (hs _) e9 (ρk.f 10) #[.pointer (some ⟨B, 0, none⟩)] trivial e10 _ 0 (Nat.zero_le _) (by omega) w hseq
  unfold CallsX
  rw [e6]
  refine Calls.mono (callsIn_wide.1 cS) ?_
  rintro e w' ⟨v, ss, rfl, rfl, hrow, hnil, hbel⟩
  obtain ⟨h1, h2⟩ := st_blw hup hw hbel
  exact ⟨_, _, _, _, _, rfl, ⟨rfl, rfl⟩, .rd (row_list (ks := []) (by simpa using hrow)), h1, h2⟩
end
end Go.AW
namespace Go.Proofs
open Go.RowKit Go.Shelf Go.AW
variable [Draws]
set_option linter.all false
set_option maxRecDepth 100000
attribute [local go_sem] Oper.semAt_some
set_option maxHeartbeats 1000000 in
theorem Tryz.entries_in (F : Fence) (n : Nat) (h5 : F.fn 109) (hro : F.round = none) (a : Option Addr) (len cap : Nat) (w : World) :
    CallsIn F n Tryz.prog 109 #[.slice a len cap] w fun e w' => e = .returned (.func (.func 158) #[] #[.pointer (some ⟨w.heap.size, 0, none⟩)]) ∧ w' = w.alloc (.cells #[.slice a len cap] 22) := by
  refine callsIn_of_wp Tryz.func109 rfl h5 ?_ hro
  simp only [Tryz.ntmps109, List.size_toArray, List.length_cons, List.length_nil, Nat.reduceAdd, Nat.reduceSub, Array.replicate_succ, Array.replicate_zero, List.push_toArray, List.append_toArray, List.nil_append, List.cons_append]
  gi_wp2
  go_ret
  exact ⟨rfl, rfl⟩
def offJ (off cap s : Nat) : Nat := if cap - s = 0 then off else off + s
def encJ (b off cap : Nat) (x : Nat × Nat) : Array Value := #[.slice (some ⟨b, offJ off cap x.1, none⟩) x.2 (cap - x.1), .int .i64 ((x.1 + x.2 : Nat) : Int)]
def LogAt (W : World) (Bs b off cap : Nat) (zs : List Int) : Prop :=
  W.cell? ⟨Bs, 0, none⟩ = some (.slice (some ⟨b, off, none⟩) zs.length cap) ∧ Bs < W.heap.size ∧ b < W.heap.size ∧ ∀ i x, zs[i]? = some x → W.cell? ⟨b, off + i, none⟩ = some (.int .u8 x)
def KeepJ (Bs b : Nat) (W W' : World) : Prop := W.heap.size ≤ W'.heap.size ∧ W'.heap[Bs]? = W.heap[Bs]? ∧ W'.heap[b]? = W.heap[b]?
theorem LogAt.kept {W W' : World} {Bs b off cap : Nat} {zs : List Int} (h : LogAt W Bs b off cap zs) (hk : KeepJ Bs b W W') : LogAt W' Bs b off cap zs := by
  obtain ⟨h1, h2, h3, h4⟩ := h
  obtain ⟨k1, k2, k3⟩ := hk
  exact ⟨by rw [World.cell?_of_block (w' := W') (a := ⟨Bs, 0, none⟩) k2]; exact h1, by omega, by omega, fun i x hx => by rw [World.cell?_of_block (w' := W') (a := ⟨b, off + i, none⟩) k3]; exact h4 i x hx⟩
theorem KeepJ.grown {Bs b : Nat} {W W' : World} (hg : W.grownBy W' none) (h1 : Bs < W.heap.size) (h2 : b < W.heap.size) : KeepJ Bs b W W' := ⟨hg.size, hg.block Bs h1 (by simp), hg.block b h2 (by simp)⟩
theorem LogAt.reads {W : World} {Bs b off cap : Nat} {zs : List Int} (h : LogAt W Bs b off cap zs) (hcap : zs.length ≤ cap) (s m : Nat) (hs : s + m ≤ zs.length) (c : Nat) (hc : m ≤ c) : Reads W (.slice (some ⟨b, off + s, none⟩) m c) ((zs.drop s).take m) := by
  have hl : ((zs.drop s).take m).length = m := by rw [List.length_take, List.length_drop]; omega
  by_cases h0 : m = 0
  · subst h0; exact .inl ⟨rfl, _, _, rfl⟩
  · refine .inr ⟨fun e => h0 (by rw [e] at hl; exact hl.symm), b, off + s, c, by rw [hl], by omega, h.2.2.1, fun i x hx => ?_⟩
    have hi := (List.getElem?_eq_some_iff.1 hx).1
    rw [List.getElem?_take, if_pos (by omega), List.getElem?_drop] at hx
    rw [Nat.add_assoc]
    exact h.2.2.2 _ x hx
theorem LogAt.readsEnd {W : World} {Bs b off cap : Nat} {zs : List Int} (h : LogAt W Bs b off cap zs) (hcap : zs.length ≤ cap) (s : Nat) (hs : s ≤ zs.length) : Reads W (.slice (some ⟨b, off + s, none⟩) (zs.length - s) (cap - s)) (zs.drop s) := by
  have := h.reads hcap s (zs.length - s) (by omega) (cap - s) (by omega)
  rwa [List.take_of_length_le (by rw [List.length_drop]; omega)] at this
noncomputable def iPut4 : F_z0b Tryz.prog := ⟨155, ⟨Tryz.f155, Tryz.f155.body.getD .skip, Tryz.func155, by kernel_rfl, by kernel_rfl, by kernel_rfl, by kernel_rfl, by kernel_rfl⟩⟩
noncomputable def iChecksum : F_z00 Tryz.prog := ⟨203, ⟨Tryz.f203, Tryz.f203.body.getD .skip, Tryz.func203, by kernel_rfl, by kernel_rfl, by kernel_rfl, by kernel_rfl, by kernel_rfl⟩⟩
noncomputable def iSum : F_z0c Tryz.prog := ⟨156, iPut4, iChecksum, ⟨Tryz.f156, Tryz.f156.body.getD .skip, Tryz.func156, by kernel_rfl, by kernel_rfl, by kernel_rfl, by kernel_rfl, by kernel_rfl⟩⟩
noncomputable def iClone : F_z06 Tryz.prog := ⟨63, ⟨Tryz.f63, Tryz.f63.body.getD .skip, Tryz.func63, by kernel_rfl, by kernel_rfl, by kernel_rfl, by kernel_rfl, by kernel_rfl⟩⟩
noncomputable def iNumber : F_z0a Tryz.prog := ⟨159, ⟨Tryz.f159, Tryz.f159.body.getD .skip, Tryz.func159, by kernel_rfl, by kernel_rfl, by kernel_rfl, by kernel_rfl, by kernel_rfl⟩⟩
theorem Tryz.number_calls {W : World} {v : Value} {l : List Int} (hr : Reads W v l) (hl : 4 ≤ l.length) (hby : Byt l) : Calls Tryz.prog 159 #[v] W fun e W' => e = .returned (.int .i64 (num (l.take 4))) ∧ W.grownBy W' none :=
  ACalls.int1 (f := 159) (enters_of Tryz.func159 (by kernel_rfl) rfl) ((jnumber_spec iNumber false l hl hby []).mono fun _ _ h => h.1) hr
theorem Tryz.sum_calls {W : World} {v : Value} {l : List Int} (hr : Reads W v l) (hl : l.length ≤ 10000000) : Calls Tryz.prog 156 #[v] W fun e W' => e = .returned (.int .u32 (fnv (jBody l))) ∧ W.grownBy W' none :=
  ACalls.int1 (f := 156) (enters_of Tryz.func156 (by kernel_rfl) rfl) ((jsum_spec iSum false l hl []).mono fun _ _ h => h.1) hr
abbrev PosJ (zs : List Int) := {x : Nat × Nat // x.1 + x.2 ≤ zs.length}
set_option maxRecDepth 100000 in
set_option maxHeartbeats 2000000 in
theorem Tryz.ent1_in (n : Nat) (hn : 1 ≤ n) (l Bs b off cap : Nat) (zs : List Int) (hcap : zs.length ≤ cap) (hz : zs.length ≤ 10000000) (hby : Byt zs) (J Jx : List (PosJ zs) → World → Prop)
    (hY : ∀ pre x W, J pre W → pre.length < zs.length + 1 → YieldAt Fence.wide (n - 1) Tryz.prog l (encJ b off cap x.1) W fun e W' =>
      (e = .returned (.bool true) ∧ J (pre ++ [x]) W' ∧ KeepJ Bs b W W') ∨ (e = .returned (.bool false) ∧ Jx (pre ++ [x]) W'))
    (W : World) (hJ : AbidesFrom W.heap.size J) (hL : LogAt W Bs b off cap zs) (h0 : J [] W) :
    CallsIn Fence.wide n Tryz.prog 158 #[.func (.yield l) #[] #[], .pointer (some ⟨Bs, 0, none⟩)] W fun e W' => (∃ v, e = .returned v) ∧
      ((∃ ys : List (PosJ zs), ys.map (fun x => x.1) = entP zs 0 ∧ J ys W') ∨ (∃ pre, True ∧ Jx pre W')) := by
  refine callsIn_of_wp Tryz.func158 rfl trivial ?_ rfl
  simp only [Tryz.ntmps158, List.size_toArray, List.length_cons, List.length_nil, Nat.reduceAdd, Nat.reduceSub, Array.replicate_succ, Array.replicate_zero, List.push_toArray, List.append_toArray, List.nil_append, List.cons_append]
  gi_wp2
  gi_loopw [3] (fun i wr => ∃ (k : Nat) (pre : List (PosJ zs)), k ≤ zs.length ∧ i = .int .i64 k ∧ entP zs 0 = pre.map (fun x => x.1) ++ entP zs k ∧ pre.length ≤ k ∧ J pre wr ∧ LogAt wr Bs b off cap zs)
    (fun i _ => zs.length - (intOf i).toNat)
  case atStart => exact ⟨0, [], Nat.zero_le _, rfl, rfl, Nat.zero_le _, h0, hL⟩
  case round =>
    obtain ⟨k, pre, hk, rfl, hpre, hpl, hJs, hLw⟩ := hrel
    have hL1 := hLw.1
    by_cases h8 : k + 8 ≤ zs.length
    · gi_wp2
      refine ⟨trivial, ?_⟩
      refine (callsIn_wide.2 (Tryz.number_calls (hLw.readsEnd hcap k hk) (by rw [List.length_drop]; omega) (fun x hx => hby x (List.mem_of_mem_drop hx)))).mono ?_
      rintro e w1 ⟨rfl, hg1⟩
      have hJ1 : J pre w1 := hJ _ _ _ _ hJs hg1 (fun r e => by cases e)
      have hLw1 := hLw.kept (KeepJ.grown hg1 hLw.2.1 hLw.2.2.1)
      have hLc1 := hLw1.1
      clear hJs hLw hL1
      have hn0 := hdr_nonneg hby k
      obtain ⟨N, hN⟩ : ∃ N : Nat, hdr zs k = N := ⟨(hdr zs k).toNat, by omega⟩
      have hN' : num ((zs.drop k).take 4) = N := hN
      rw [hN']
      by_cases hA : 65536 < N
      · have hnil := entP_nil (okE_big hN (.inl hA))
        gi_wp2
        refine bodyPost_ret (results_none rfl _ _ _) rfl ?_
        first
          | exact ⟨⟨_, rfl⟩, .inl hJ1⟩
          | exact ⟨⟨_, rfl⟩, .inl ⟨_, rfl, hJ1⟩⟩
          | exact ⟨⟨_, rfl⟩, .inl ⟨_, by rw [hpre, hnil, List.append_nil], hJ1⟩⟩
      by_cases hB : (zs.length : Int) - k - 8 < N
      · have hnil := entP_nil (okE_big hN (.inr hB))
        gi_wp2
        refine bodyPost_ret (results_none rfl _ _ _) rfl ?_
        first
          | exact ⟨⟨_, rfl⟩, .inl hJ1⟩
          | exact ⟨⟨_, rfl⟩, .inl ⟨_, rfl, hJ1⟩⟩
          | exact ⟨⟨_, rfl⟩, .inl ⟨_, by rw [hpre, hnil, List.append_nil], hJ1⟩⟩
      have hok := okE_sum hN h8 hA hB
      by_cases hE : cap = k + 8
      · have hN0 : N = 0 := by omega
        subst hN0 hE
        have hrd1 : Reads w1 (.slice (some ⟨b, off + (k + 4), none⟩) (zs.length - (k + 4)) 4) (zs.drop (k + 4)) := by
          have := hLw1.readsEnd hcap (k + 4) (by omega)
          rwa [show k + 8 - (k + 4) = 4 by omega] at this
        gi_wp2
        refine ⟨trivial, ?_⟩
        refine (callsIn_wide.2 (Tryz.number_calls hrd1 (by rw [List.length_drop]; omega) (fun x hx => hby x (List.mem_of_mem_drop hx)))).mono ?_
        rintro e w2 ⟨rfl, hg2⟩
        have hJ2 : J pre w2 := hJ _ _ _ _ hJ1 hg2 (fun r e => by cases e)
        have hLw2 := hLw1.kept (KeepJ.grown hg2 hLw1.2.1 hLw1.2.2.1)
        have hLc2 := hLw2.1
        clear hJ1 hLw1 hLc1
        have hrd2 : Reads w2 (.slice (some ⟨b, off, none⟩) 0 0) ((zs.drop (k + 8)).take 0) := .inl ⟨rfl, _, _, rfl⟩
        gi_wp2
        refine ⟨trivial, ?_⟩
        refine (callsIn_wide.2 (Tryz.sum_calls hrd2 (by rw [List.length_take]; omega))).mono ?_
        rintro e w3 ⟨rfl, hg3⟩
        have hJ3 : J pre w3 := hJ _ _ _ _ hJ2 hg3 (fun r e => by cases e)
        have hLw3 := hLw2.kept (KeepJ.grown hg3 hLw2.2.1 hLw2.2.2.1)
        clear hJ2 hLw2 hLc2 hrd1 hrd2
        obtain ⟨T, hT⟩ : ∃ T, T = fnv (jBody ((zs.drop (k + 8)).take 0)) := ⟨_, rfl⟩
        rw [← hT] at hok ⊢
        have hTn := fnv_bound (jBody ((zs.drop (k + 8)).take 0))
        rw [← hT] at hTn
        clear hT
        obtain ⟨S, hS⟩ : ∃ S, S = hdr zs (k + 4) := ⟨_, rfl⟩
        have hS0 : 0 ≤ S := by rw [hS]; exact hdr_nonneg hby _
        have hS' : num ((zs.drop (k + 4)).take 4) = S := hS.symm
        rw [hS']
        rw [← hS, u32_wrap] at hok
        clear hS hS' hN'
        by_cases hC : S % 4294967296 = T
        · have hcons := entP_cons (by rw [hok]; simpa using hC)
          rw [hN, Int.toNat_natCast] at hcons
          obtain ⟨fn, tmps, assign, body, hy, hR⟩ := hY pre ⟨(k + 8, 0), by simp only []; omega⟩ w3 hJ3 (by omega)
          have hcast : ((k + 8 + 0 : Nat) : Int) = (k : Int) + 8 := by omega
          simp only [encJ, offJ, Nat.sub_self, if_true, hcast] at hy
          clear hok hN
          gi_wp2
          refine hR.mono ?_
          rintro e W3 (⟨rfl, hJ4, hk4⟩ | ⟨rfl, hJx4⟩)
          · have hLw4 := hLw3.kept hk4
            clear hJ3 hLw3 hR
            gi_wp2
            go_roundw
            case rel => exact ⟨k + 8 + 0, pre ++ [⟨(k + 8, 0), by simp only []; omega⟩], by omega, by congr 1 <;> omega, by rw [hpre, hcons, List.map_append, List.append_assoc]; rfl, by simp; omega, hJ4, hLw4⟩
            case measure => simp [intOf]; omega
          · gi_wp2
            refine bodyPost_ret (results_none rfl _ _ _) rfl ?_
            first
              | exact ⟨⟨_, rfl⟩, .inr ⟨_, trivial, hJx4⟩⟩
              | exact ⟨⟨_, rfl⟩, .inr ⟨_, hJx4⟩⟩
        · have hnil := entP_nil (by rw [hok]; simpa using hC)
          clear hok hN
          gi_wp2
          refine bodyPost_ret (results_none rfl _ _ _) rfl ?_
          first
            | exact ⟨⟨_, rfl⟩, .inl hJ3⟩
            | exact ⟨⟨_, rfl⟩, .inl ⟨_, rfl, hJ3⟩⟩
            | exact ⟨⟨_, rfl⟩, .inl ⟨_, by rw [hpre, hnil, List.append_nil], hJ3⟩⟩
      · have hE2 : ¬ cap - (k + 8) = 0 := by omega
        have hrd1 := hLw1.readsEnd hcap (k + 4) (by omega)
        gi_wp2
        refine ⟨trivial, ?_⟩
        refine (callsIn_wide.2 (Tryz.number_calls hrd1 (by rw [List.length_drop]; omega) (fun x hx => hby x (List.mem_of_mem_drop hx)))).mono ?_
        rintro e w2 ⟨rfl, hg2⟩
        have hJ2 : J pre w2 := hJ _ _ _ _ hJ1 hg2 (fun r e => by cases e)
        have hLw2 := hLw1.kept (KeepJ.grown hg2 hLw1.2.1 hLw1.2.2.1)
        have hLc2 := hLw2.1
        clear hJ1 hLw1 hLc1
        have hrd2 := hLw2.reads hcap (k + 8) N (by omega) (cap - (k + 8)) (by omega)
        gi_wp2
        refine ⟨trivial, ?_⟩
        refine (callsIn_wide.2 (Tryz.sum_calls hrd2 (by rw [List.length_take]; omega))).mono ?_
        rintro e w3 ⟨rfl, hg3⟩
        have hJ3 : J pre w3 := hJ _ _ _ _ hJ2 hg3 (fun r e => by cases e)
        have hLw3 := hLw2.kept (KeepJ.grown hg3 hLw2.2.1 hLw2.2.2.1)
        clear hJ2 hLw2 hLc2 hrd1 hrd2
        obtain ⟨T, hT⟩ : ∃ T, T = fnv (jBody ((zs.drop (k + 8)).take N)) := ⟨_, rfl⟩
        rw [← hT] at hok ⊢
        have hTn := fnv_bound (jBody ((zs.drop (k + 8)).take N))
        rw [← hT] at hTn
        clear hT
        obtain ⟨S, hS⟩ : ∃ S, S = hdr zs (k + 4) := ⟨_, rfl⟩
        have hS0 : 0 ≤ S := by rw [hS]; exact hdr_nonneg hby _
        have hS' : num ((zs.drop (k + 4)).take 4) = S := hS.symm
        rw [hS']
        rw [← hS, u32_wrap] at hok
        clear hS hS' hN'
        by_cases hC : S % 4294967296 = T
        · have hcons := entP_cons (by rw [hok]; simpa using hC)
          rw [hN, Int.toNat_natCast] at hcons
          obtain ⟨fn, tmps, assign, body, hy, hR⟩ := hY pre ⟨(k + 8, N), by simp only []; omega⟩ w3 hJ3 (by omega)
          have hcast : ((k + 8 + N : Nat) : Int) = (k : Int) + (8 + (N : Int)) := by omega
          simp only [encJ, offJ, if_neg hE2, hcast] at hy
          clear hok hN
          gi_wp2
          refine hR.mono ?_
          rintro e W3 (⟨rfl, hJ4, hk4⟩ | ⟨rfl, hJx4⟩)
          · have hLw4 := hLw3.kept hk4
            clear hJ3 hLw3 hR
            gi_wp2
            go_roundw
            case rel => exact ⟨k + 8 + N, pre ++ [⟨(k + 8, N), by simp only []; omega⟩], by omega, by congr 1 <;> omega, by rw [hpre, hcons, List.map_append, List.append_assoc]; rfl, by simp; omega, hJ4, hLw4⟩
            case measure => simp [intOf]; omega
          · gi_wp2
            refine bodyPost_ret (results_none rfl _ _ _) rfl ?_
            first
              | exact ⟨⟨_, rfl⟩, .inr ⟨_, trivial, hJx4⟩⟩
              | exact ⟨⟨_, rfl⟩, .inr ⟨_, hJx4⟩⟩
        · have hnil := entP_nil (by rw [hok]; simpa using hC)
          clear hok hN
          gi_wp2
          refine bodyPost_ret (results_none rfl _ _ _) rfl ?_
          first
            | exact ⟨⟨_, rfl⟩, .inl hJ3⟩
            | exact ⟨⟨_, rfl⟩, .inl ⟨_, rfl, hJ3⟩⟩
            | exact ⟨⟨_, rfl⟩, .inl ⟨_, by rw [hpre, hnil, List.append_nil], hJ3⟩⟩
    · have hnil := entP_nil (okE_short h8)
      gi_wp2
      go_end0
      exact ⟨⟨_, rfl⟩, .inl ⟨_, by rw [hpre, hnil, List.append_nil], hJs⟩⟩
set_option maxRecDepth 100000 in
set_option maxHeartbeats 1000000 in
theorem Tryz.ent0_in (n : Nat) (l Bs : Nat) (a : Option Addr) (cap : Nat) {α : Type} (J : List α → World → Prop) (W : World) (hBs : W.cell? ⟨Bs, 0, none⟩ = some (.slice a 0 cap)) (h0 : J [] W) :
    CallsIn Fence.wide n Tryz.prog 158 #[.func (.yield l) #[] #[], .pointer (some ⟨Bs, 0, none⟩)] W fun e W' => (∃ v, e = .returned v) ∧ J [] W' := by
  refine callsIn_of_wp Tryz.func158 rfl trivial ?_ rfl
  simp only [Tryz.ntmps158, List.size_toArray, List.length_cons, List.length_nil, Nat.reduceAdd, Nat.reduceSub, Array.replicate_succ, Array.replicate_zero, List.push_toArray, List.append_toArray, List.nil_append, List.cons_append]
  gi_wp2
  gi_loopw [3] (fun i wr => i = .int .i64 0 ∧ J [] wr ∧ wr.cell? ⟨Bs, 0, none⟩ = some (.slice a 0 cap)) (fun _ _ => 0)
  case atStart => exact ⟨rfl, h0, hBs⟩
  case round =>
    obtain ⟨rfl, hJs, hc⟩ := hrel
    gi_wp2
    go_end0
    exact ⟨⟨_, rfl⟩, hJs⟩
theorem KeepJ.t {Bs b : Nat} {X Y Z : World} (h : KeepJ Bs b X Y) (k : KeepJ Bs b Y Z) : KeepJ Bs b X Z := ⟨Nat.le_trans h.1 k.1, k.2.1.trans h.2.1, k.2.2.trans h.2.2⟩
theorem KeepJ.of_below {Bs b n : Nat} {X Y : World} (h : Below n X Y) (h1 : Bs < n) (h2 : b < n) : KeepJ Bs b X Y := ⟨h.size, h.block Bs h1, h.block b h2⟩
theorem KeepJ.put {Bs b : Nat} {w : World} (h1 : Bs < w.heap.size) (h2 : b < w.heap.size) (W : World) (l : Nat) (o o' : Obj) (hl : w.heap.size ≤ l) (hlo : W.heap[l]? = some o) (_ : o.isCells = false) (_ : o.isWalk = false) : KeepJ Bs b W (W.putObj l o') := by
  have hg := grownBy_putObj' W l o'
  have hlt := (Array.getElem?_eq_some_iff.1 hlo).1
  exact ⟨hg.size, hg.block Bs (by omega) (by simp; omega), hg.block b (by omega) (by simp; omega)⟩
theorem Tryz.ent_stops (n : Nat) (hn : 1 ≤ n) (Bs b off cap : Nat) (zs : List Int) (hcap : zs.length ≤ cap) (hz : zs.length ≤ 10000000) (hby : Byt zs) (w : World) (hL : LogAt w Bs b off cap zs) :
    SeqStopsK Fence.wide n Tryz.prog 158 #[.pointer (some ⟨Bs, 0, none⟩)] (fun x : PosJ zs => encJ b off cap x.1) (KeepJ Bs b) (fun ys => ys.map (fun x => x.1) = entP zs 0) (fun _ => True) (zs.length + 1) w := fun l J Jx W hW hJ _ hY h0 =>
  Tryz.ent1_in n hn l Bs b off cap zs hcap hz hby J Jx hY W hJ (hL.kept (KeepJ.of_below hW hL.2.1 hL.2.2.1)) h0
end Go.Proofs
namespace Go.Proofs
open Go.RowKit Go.Shelf Go.AW
variable [Draws]
set_option linter.all false
set_option maxRecDepth 100000
attribute [local go_sem] Oper.semAt_some
def appG (ts : Array TypeId) (ty : TypeId) (args : Array Value) : Sem Value := Builtin.append_ ts ty args
theorem appG_fold (ts : Array TypeId) (ty : TypeId) (args : Array Value) : Builtin.append_ ts ty args = appG ts ty args := rfl
attribute [local go_sem ↓] appG_fold
def Elems (N : Nat) (W : World) (B : List Nat) (us : List Value) (ps : List (List Int)) : Prop :=
  us.length = ps.length ∧ ∀ (i : Nat) (u : Value) (p : List Int), us[i]? = some u → ps[i]? = some p → Reads W u p ∧ u.oneCell' = true ∧ (p ≠ [] → ∀ bb, u.ownBlock = some bb → bb ∉ B ∧ N ≤ bb)
theorem Tryz.infoB : (Tryz.prog.info? 22).map (fun i => (i.zero, i.size, i.bytes)) = some (some (.slice none 0 0), 1, 24) := by kernel_rfl
theorem Tryz.Clone_calls {W : World} {v : Value} {l : List Int} (hr : Reads W v l) (hl : l.length ≤ 90000000) : Calls Tryz.prog 63 #[v] W fun e W' => ∃ a c, e = .returned (.slice a l.length c) ∧ Reads W' (.slice a l.length c) l ∧ W.grownBy W' none ∧ (l ≠ [] → ∀ b, (Value.slice a l.length c).ownBlock = some b → W.heap.size ≤ b) :=
  ACalls.fresh1 (f := 63) (enters_of Tryz.func63 (by kernel_rfl) rfl) (bClone_raw iClone false l hl) hr
theorem Reads.block {W : World} {u : Value} {p : List Int} (h : Reads W u p) (h0 : p ≠ []) {bb : Nat} (hb : u.ownBlock = some bb) : bb < W.heap.size ∧ ∃ o : Obj, W.heap[bb]? = some o ∧ o.isCells = true := by
  rcases h with ⟨e, _⟩ | ⟨_, b, off, cap, rfl, hcap, hlt, hc⟩
  · exact absurd e h0
  · cases hb
    refine ⟨hlt, ?_⟩
    obtain ⟨x, hx⟩ : ∃ x, p[0]? = some x := ⟨p[0]'(List.length_pos_iff.2 h0), List.getElem?_eq_getElem _⟩
    have := hc 0 x hx
    rw [World.cell?] at this
    cases ho : W.heap[b]? with
    | none => simp [ho] at this
    | some o =>
      refine ⟨o, rfl, ?_⟩
      cases o <;> simp_all [Obj.isCells]
theorem Elems.kept {N : Nat} {W W' : World} {B : List Nat} {us : List Value} {ps : List (List Int)} {row : Option Nat} (h : Elems N W B us ps) (hg : W.grownBy W' row) (hr : ∀ r, row = some r → r ∈ B ∨ ∃ o : Obj, W.heap[r]? = some o ∧ o.isCells = false) : Elems N W' B us ps := by
  refine ⟨h.1, fun i u p hu hp => ?_⟩
  obtain ⟨h1, h2, h3⟩ := h.2 i u p hu hp
  refine ⟨h1.kept hg fun h0 bb hb e => ?_, h2, h3⟩
  rcases hr bb e.symm with hB | ⟨o, ho, hc⟩
  · exact (h3 h0 bb hb).1 hB
  · obtain ⟨_, o', ho', hc'⟩ := Reads.block h1 h0 hb
    rw [ho] at ho'; cases ho'
    rw [hc] at hc'; cases hc'
def IJ (n₀ b off cap : Nat) (zs : List Int) (w : World) (pre : List (PosJ zs)) (W : World) : Prop :=
  ((∃ v us, Boxed W n₀ 23 v ∧ W.ownsRow (n₀ + 3) 22 1 v pre.length us ∧ Elems n₀ W [n₀, n₀ + 1] us (pre.map fun x => payP zs x.1) ∧ ∀ g, v.ownBlock = some g → Elems n₀ W [g] us (pre.map fun x => payP zs x.1)) ∧
    Boxed W (n₀ + 1) 3 (.int .i64 (endP (pre.map fun x => x.1))) ∧ LogAt W (n₀ + 2) b off cap zs) ∧ Below n₀ w W
theorem IJ.own (n₀ b off cap : Nat) (zs : List Int) (w : World) (hb : b < n₀) : OwnFrom (n₀ + 3) (IJ n₀ b off cap zs w) := by
  rintro pre X Y row ⟨⟨⟨v, us, hv, hr, he, hg2⟩, h1, hL⟩, hB⟩ hg hrow
  have hbox : ∀ {B : Nat} {t : TypeId} {u : Value}, Boxed X B t u → some B ≠ row := fun {B t u} h e' => by
    obtain ⟨_, o, ho, hc⟩ := hrow B e'.symm
    rw [show X.heap[B]? = _ from h] at ho; cases ho; cases hc
  refine ⟨⟨⟨v, us, hv.kept hg (hbox hv), hr.kept hg ?_, he.kept hg fun r e => .inr (hrow r e).2, fun g hgv => (hg2 g hgv).kept hg fun r e => .inr (hrow r e).2⟩, h1.kept hg (hbox h1), hL.kept ⟨hg.size, hg.block _ hL.2.1 (fun e => by have := (hrow _ e.symm).1; omega), hg.block _ hL.2.2.1 (fun e => by have := (hrow _ e.symm).1; omega)⟩⟩, hB.grown hg ?_ fun k e => by have := (hrow k e).1; omega⟩
  · rcases hr.2 with ⟨rfl, _⟩ | ⟨g, cap, cur, rfl, _, hgb, _⟩
    · exact .inl rfl
    · refine .inr fun e' => ?_
      obtain ⟨_, o, ho, hc⟩ := hrow g (by simpa [Value.ownBlock] using e'.symm)
      rw [hgb] at ho; cases ho; cases hc
  · have := hL.2.1; omega
theorem ownsRow_grown0 {W W' : World} {base : Nat} {e : TypeId} {size : Nat} {v : Value} {k : Nat} {xs : List Value} (h : W.ownsRow base e size v k xs) (hg : W.grownBy W' none) : W'.ownsRow base e size v k xs :=
  h.kept hg (by
    rcases h.2 with ⟨rfl, _⟩ | ⟨g, _, _, rfl, _⟩
    · exact .inl rfl
    · exact .inr (by simp [Value.ownBlock]))
theorem Boxed.grown0 {W W' : World} {B : Nat} {t : TypeId} {v : Value} (h : Boxed W B t v) (hg : W.grownBy W' none) : Boxed W' B t v := h.kept hg (by simp)
theorem ownsRow_mono {W : World} {base base' : Nat} {e : TypeId} {size : Nat} {v : Value} {k : Nat} {xs : List Value} (h : W.ownsRow base e size v k xs) (hle : base' ≤ base) : W.ownsRow base' e size v k xs := by
  refine ⟨h.1, ?_⟩
  rcases h.2 with h | ⟨g, cap, cur, h1, h2, h3⟩
  · exact .inl h
  · exact .inr ⟨g, cap, cur, h1, by omega, h3⟩
theorem Elems.mono {N : Nat} {W : World} {B B' : List Nat} {us : List Value} {ps : List (List Int)} (h : Elems N W B us ps) (hs : ∀ x ∈ B', x ∈ B) : Elems N W B' us ps :=
  ⟨h.1, fun i u p hu hp => ⟨(h.2 i u p hu hp).1, (h.2 i u p hu hp).2.1, fun h0 bb hb => ⟨fun hm => ((h.2 i u p hu hp).2.2 h0 bb hb).1 (hs bb hm), ((h.2 i u p hu hp).2.2 h0 bb hb).2⟩⟩⟩
theorem Elems.join {N : Nat} {W : World} {B B' : List Nat} {us : List Value} {ps : List (List Int)} (h : Elems N W B us ps) (h' : Elems N W B' us ps) : Elems N W (B ++ B') us ps :=
  ⟨h.1, fun i u p hu hp => ⟨(h.2 i u p hu hp).1, (h.2 i u p hu hp).2.1, fun h0 bb hb => ⟨fun hm => (List.mem_append.1 hm).elim ((h.2 i u p hu hp).2.2 h0 bb hb).1 ((h'.2 i u p hu hp).2.2 h0 bb hb).1, ((h.2 i u p hu hp).2.2 h0 bb hb).2⟩⟩⟩
theorem Elems.add {N : Nat} {W : World} {B : List Nat} {us : List Value} {ps : List (List Int)} (h : Elems N W B us ps) {f : Nat} (hf : W.heap.size ≤ f) : Elems N W (f :: B) us ps :=
  ⟨h.1, fun i u p hu hp => ⟨(h.2 i u p hu hp).1, (h.2 i u p hu hp).2.1, fun h0 bb hb => ⟨fun hm => (List.mem_cons.1 hm).elim (fun e => by have := (Reads.block (h.2 i u p hu hp).1 h0 hb).1; omega) ((h.2 i u p hu hp).2.2 h0 bb hb).1, ((h.2 i u p hu hp).2.2 h0 bb hb).2⟩⟩⟩
theorem Elems.snoc {N : Nat} {W : World} {B : List Nat} {us : List Value} {ps : List (List Int)} (h : Elems N W B us ps) {u : Value} {p : List Int} (hr : Reads W u p) (h1 : u.oneCell' = true) (hd : p ≠ [] → ∀ bb, u.ownBlock = some bb → bb ∉ B ∧ N ≤ bb) : Elems N W B (us ++ [u]) (ps ++ [p]) := by
  refine ⟨by simp [h.1], fun i a q ha hq => ?_⟩
  by_cases hi : i < us.length
  · rw [List.getElem?_append_left hi] at ha
    rw [List.getElem?_append_left (by rw [← h.1]; exact hi)] at hq
    exact h.2 i a q ha hq
  · rw [List.getElem?_append_right (by omega)] at ha
    rw [List.getElem?_append_right (by rw [← h.1]; omega)] at hq
    have h0 : i - us.length = 0 := by
      have := (List.getElem?_eq_some_iff.1 ha).1
      simp at this; omega
    rw [← h.1, h0] at hq
    rw [h0] at ha
    cases ha; cases hq
    exact ⟨hr, h1, hd⟩
theorem IJ.next {n₀ b off cap B : Nat} {zs : List Int} {w W w' w1 : World} {pre : List (PosJ zs)} {x : PosJ zs} {v U V' : Value} {us : List Value} {E : Int} (hE : E = (x.1.1 : Int) + (x.1.2 : Int)) (hb : b < n₀) (hs : n₀ + 3 ≤ W.heap.size)
    (hv : Boxed W n₀ 23 v) (hrow : W.ownsRow (n₀ + 3) 22 1 v pre.length us) (hel : Elems n₀ W [n₀, n₀ + 1] us (pre.map fun x => payP zs x.1)) (hel2 : ∀ g, v.ownBlock = some g → Elems n₀ W [g] us (pre.map fun x => payP zs x.1)) (hEn : ∃ z, Boxed W (n₀ + 1) 3 z) (hL : LogAt W (n₀ + 2) b off cap zs) (hB : Below n₀ w W)
    (hu3 : W.grownBy w' none) (hu1 : U.oneCell' = true) (hu2 : Reads w' U (payP zs x.1)) (hu4 : payP zs x.1 ≠ [] → ∀ bb, U.ownBlock = some bb → W.heap.size ≤ bb)
    (hgrow : (w'.alloc (.cells #[U] 22)).grownBy w1 v.ownBlock) (hown : w1.ownsRow (n₀ + 3) 22 1 V' (pre.length + 1) (us ++ [U])) (hblk : V'.ownBlock = v.ownBlock ∨ V'.ownBlock = some (w'.alloc (.cells #[U] 22)).heap.size) :
    KeepsFrom B W ((w1.setCell ⟨n₀, 0, none⟩ V').setCell ⟨n₀ + 1, 0, none⟩ (.int .i64 E)) ∧ KeepJ (n₀ + 2) b W ((w1.setCell ⟨n₀, 0, none⟩ V').setCell ⟨n₀ + 1, 0, none⟩ (.int .i64 E)) ∧ IJ n₀ b off cap zs w (pre ++ [x]) ((w1.setCell ⟨n₀, 0, none⟩ V').setCell ⟨n₀ + 1, 0, none⟩ (.int .i64 E)) := by
  have hsz := hu3.size
  have hal : (w'.alloc (.cells #[U] 22)).heap.size = w'.heap.size + 1 := by simp
  have hsz1 := hgrow.size
  have hrow3 := ownsRow_grown0 hrow hu3
  have hv3 := Boxed.grown0 hv hu3
  obtain ⟨hbx, hbx', hrow', hko, hbel⟩ := Boxed.appended hv3 (by decide) (ownsRow_mono hrow3 (by omega)) (by omega) (Nat.le_refl _) (ownsRow_mono hown (by omega : n₀ ≤ n₀ + 3)) hgrow
  have hvlt := hrow.lt
  have hV : ∀ g, V'.ownBlock = some g → n₀ + 3 ≤ g := fun g hg => (hown.lt g hg).1
  have hvb : ∀ k, k < n₀ + 3 → some k ≠ v.ownBlock := fun k hk e => by have := (hvlt k e.symm).1; omega
  have gS0 := grownBy_setCell' w1 n₀ V'
  have gS1 := grownBy_setCell' (w1.setCell ⟨n₀, 0, none⟩ V') (n₀ + 1) (.int .i64 E)
  have ht := World.grownBy_alloc w' (.cells #[U] 22) none
  have hKJ : KeepJ (n₀ + 2) b W ((w1.setCell ⟨n₀, 0, none⟩ V').setCell ⟨n₀ + 1, 0, none⟩ (.int .i64 E)) := by
    have keep : ∀ k, k < n₀ + 3 → k ≠ n₀ → k ≠ n₀ + 1 → ((w1.setCell ⟨n₀, 0, none⟩ V').setCell ⟨n₀ + 1, 0, none⟩ (.int .i64 E)).heap[k]? = W.heap[k]? := fun k hk h0 h1 => by
      have a1 := hu3.block k (by omega) (by simp)
      have a2 := ht.block k (by omega) (by simp)
      have a3 := hgrow.block k (by omega) (hvb k hk)
      have a4 := gS0.block k (by omega) (by simpa using h0)
      have a5 := gS1.block k (by have := gS0.size; omega) (by simpa using h1)
      rw [a5, a4, a3, a2, a1]
    exact ⟨by have := gS0.size; have := gS1.size; omega, keep _ (by omega) (by omega) (by omega), keep _ (by omega) (by omega) (by omega)⟩
  have hall := ((((hel.join (B' := (v.ownBlock).toList) (by
      cases hvo : v.ownBlock with
      | none => exact hel.mono (by simp)
      | some g => exact hel2 g hvo)).add (f := w'.heap.size + 1) (by omega)).kept hu3 (by simp)).kept ht (by simp)).kept hgrow (fun r hr => .inl (by simp [hr]))
  have hall' := (hall.kept gS0 (fun r hr => .inl (by simp at hr; simp [hr]))).kept gS1 (fun r hr => .inl (by simp at hr; simp [hr]))
  obtain ⟨hr', h1', hd'⟩ : Reads ((w1.setCell ⟨n₀, 0, none⟩ V').setCell ⟨n₀ + 1, 0, none⟩ (.int .i64 E)) U (payP zs x.1) ∧ U.oneCell' = true ∧ (payP zs x.1 ≠ [] → ∀ bb, U.ownBlock = some bb → bb ∉ n₀ :: (n₀ + 1) :: (w'.heap.size + 1) :: v.ownBlock.toList ∧ n₀ ≤ bb) := by
    have hnot : payP zs x.1 ≠ [] → ∀ bb, U.ownBlock = some bb → bb ∉ n₀ :: (n₀ + 1) :: (w'.heap.size + 1) :: v.ownBlock.toList := by
      intro h0 bb hbb hm
      have hlt := (Reads.block hu2 h0 hbb).1
      have hor := hu4 h0 bb hbb
      rcases List.mem_cons.1 hm with rfl | hm
      · omega
      rcases List.mem_cons.1 hm with rfl | hm
      · omega
      rcases List.mem_cons.1 hm with rfl | hm
      · omega
      · have hvo : v.ownBlock = some bb := by simpa using hm
        have := hvlt bb hvo
        omega
    refine ⟨(((hu2.kept ht (by simp)).kept hgrow ?_).kept gS0 ?_).kept gS1 ?_, hu1, fun h0 bb hbb => ⟨hnot h0 bb hbb, by have := hu4 h0 bb hbb; omega⟩⟩
    · intro h0 bb hbb e
      exact hnot h0 bb hbb (by simp [← e])
    · intro h0 bb hbb e
      exact hnot h0 bb hbb (by simp at e; simp [e])
    · intro h0 bb hbb e
      exact hnot h0 bb hbb (by simp at e; simp [e])
  refine ⟨((((KeepsOthers.of_grownBy hu3 fun j o ej => by simp at ej).trans hko).trans (KeepsOthers.setCell _ _ _)).from _), hKJ, ⟨⟨V', us ++ [U], ?_, ?_, ?_, ?_⟩, ?_, hL.kept hKJ⟩, ?_⟩
  · exact hbx'.kept gS1 (by simp)
  · rw [List.length_append]
    refine (hown.kept gS0 ?_).kept gS1 ?_
    · right; intro e; have := hV _ e; omega
    · right; intro e; have := hV _ e; omega
  · rw [List.map_append]
    exact (hall'.mono (by simp)).snoc hr' h1' fun h0 bb hbb => ⟨fun hm => (hd' h0 bb hbb).1 (by simp at hm; rcases hm with rfl | rfl <;> simp), (hd' h0 bb hbb).2⟩
  · intro g hg
    have hmem : g ∈ n₀ :: (n₀ + 1) :: (w'.heap.size + 1) :: v.ownBlock.toList := by
      rcases hblk with h | h
      · rw [hg] at h; simp [← h]
      · rw [hg, hal] at h
        obtain rfl := Option.some.inj h
        simp
    rw [List.map_append]
    refine (hall'.mono fun y hy => ?_).snoc hr' h1' fun h0 bb hbb => ⟨fun hm => (hd' h0 bb hbb).1 ?_, (hd' h0 bb hbb).2⟩
    · rw [List.mem_singleton] at hy
      subst hy
      rcases List.mem_cons.1 hmem with rfl | h
      · simp
      rcases List.mem_cons.1 h with rfl | h
      · simp
      rcases List.mem_cons.1 h with rfl | h
      · simp
      · simp at h; simp [h]
    · rw [List.mem_singleton] at hm
      subst hm
      exact hmem
  · obtain ⟨z, hz⟩ := hEn
    have := (((Boxed.grown0 hz hu3).alloc (.cells #[U] 22)).kept hgrow (hvb _ (by omega))).kept gS0 (by simp)
    have := this.set (.int .i64 E)
    rw [List.map_append]
    show Boxed _ _ _ (.int .i64 (endP (List.map (fun x => x.1) pre ++ [x.1])))
    rw [endP_snoc, show ((x.1.1 + x.1.2 : Nat) : Int) = E by omega]
    exact this
  · exact (((hB.grown hu3 (by omega) (by simp)).trans hbel)).setCell (p := ⟨n₀ + 1, 0, none⟩) (by simp) _
set_option maxRecDepth 100000 in
set_option maxHeartbeats 4000000 in
theorem Tryz.Read_in (n : Nat) (hn : 3 ≤ n) (b off cap : Nat) (zs : List Int) (hcap : zs.length ≤ cap) (hz : zs.length ≤ 10000000) (hby : Byt zs) (w : World) (hb : b < w.heap.size) (hc : ∀ i x, zs[i]? = some x → w.cell? ⟨b, off + i, none⟩ = some (.int .u8 x)) :
    CallsIn Fence.wide n Tryz.prog 52 #[.slice (some ⟨b, off, none⟩) zs.length cap] w fun e W' => ∃ v us, e = .returned (.tuple #[v, .int .i64 (endP (entP zs 0))]) ∧ W'.ownsRow w.heap.size 22 1 v (entP zs 0).length us ∧ Elems w.heap.size W' [] us ((entP zs 0).map fun x => payP zs x) ∧ Below w.heap.size w W' := by
  have h1 : 1 ≤ n := by omega
  obtain ⟨i0, hi, hz0, hz1, hz2⟩ := info_parts Tryz.infoB
  refine callsIn_of_wp_marks Tryz.func52 rfl trivial ?_ rfl
  simp only [Tryz.ntmps52, List.size_toArray, List.length_cons, List.length_nil, Nat.reduceAdd, Nat.reduceSub, Array.replicate_succ, Array.replicate_zero, List.push_toArray, List.append_toArray, List.nil_append, List.cons_append]
  gi_wp2_with (refine ⟨trivial, ?_⟩; gi_at_call 109; refine (Tryz.entries_in Fence.wide (n - 1) trivial rfl _ _ _ _).mono ?_; rintro e w' ⟨rfl, rfl⟩)
  have bO := Boxed.new w 23 (.slice none 0 0)
  have bN := Boxed.new (w.alloc (.cells #[.slice none 0 0] 23)) 3 (.int .i64 0)
  have bL := Boxed.new ((w.alloc (.cells #[.slice none 0 0] 23)).alloc (.cells #[.int .i64 0] 3)) 22 (.slice (some ⟨b, off, none⟩) zs.length cap)
  rw [World.size_alloc] at bN
  rw [World.size_alloc, World.size_alloc] at bL
  have hB0 : Below w.heap.size w (((w.alloc (.cells #[.slice none 0 0] 23)).alloc (.cells #[.int .i64 0] 3)).alloc (.cells #[.slice (some ⟨b, off, none⟩) zs.length cap] 22)) := (((Below.refl _ w).alloc (Nat.le_refl _) _).alloc (by simp) _).alloc (by simp; omega) _
  have bO2 := (bO.alloc (.cells #[.int .i64 0] 3)).alloc (.cells #[.slice (some ⟨b, off, none⟩) zs.length cap] 22)
  have bN2 := bN.alloc (.cells #[.slice (some ⟨b, off, none⟩) zs.length cap] 22)
  obtain ⟨W0, hW0⟩ : ∃ W0, ((w.alloc (.cells #[.slice none 0 0] 23)).alloc (.cells #[.int .i64 0] 3)).alloc (.cells #[.slice (some ⟨b, off, none⟩) zs.length cap] 22) = W0 := ⟨_, rfl⟩
  have hsz : W0.heap.size = w.heap.size + 3 := by rw [← hW0]; simp
  rw [hW0] at bL hB0 bO2 bN2 ⊢
  have hLog : LogAt W0 (w.heap.size + 2) b off cap zs := ⟨bL.cell, by omega, by omega, fun i x hx => by rw [hB0.cell (p := ⟨b, off + i, none⟩) hb]; exact hc i x hx⟩
  clear bO bN hW0
  refine wpIn_rangeFunc_ownG rfl h1 (gf := 158) (lb := #[.pointer (some ⟨w.heap.size + 1 + 1, 0, none⟩)]) rfl trivial (enters_of Tryz.func158 (by kernel_rfl) rfl)
    (Tryz.ent_stops (n - 1) (by omega) (w.heap.size + 2) b off cap zs hcap hz hby W0 hLog) KeepJ.t (KeepJ.put (by omega) (by omega)) (Below.refl _ _) (fun _ => rfl)
    (IJ w.heap.size b off cap zs w) (fun _ _ _ => False) (by rw [hsz]; exact IJ.own w.heap.size b off cap zs w hb) (fun _ _ _ _ _ hs _ _ => hs)
    ⟨⟨⟨.slice none 0 0, [], bO2, World.ownsRow_nil _ _ _ _, ⟨rfl, fun i u p hu => by simp at hu⟩, fun g hg => by simp [Value.ownBlock] at hg⟩, bN2, hLog⟩, hB0⟩
    (fun x => { tmps := #[.slice (some ⟨b, off, none⟩) zs.length cap, undef, .slice none 0 0, .int .i64 0, .pointer (some ⟨w.heap.size, 0, none⟩), .pointer (some ⟨w.heap.size + 1, 0, none⟩), .slice (some ⟨b, offJ off cap x.1.1, none⟩) x.1.2 (cap - x.1.1), .int .i64 ((x.1.1 : Int) + (x.1.2 : Int)),
      .slice (some ⟨b, off, none⟩) zs.length cap, .func (.func 158) #[] #[.pointer (some ⟨w.heap.size + 1 + 1, 0, none⟩)], .slice (some ⟨b, offJ off cap x.1.1, none⟩) x.1.2 (cap - x.1.1), .int .i64 ((x.1.1 : Int) + (x.1.2 : Int)), undef, undef, undef, undef, undef, undef, undef, undef], defers := [] }) ?assign ?body ?done ?stop
  case assign =>
    intro l x W K hK
    simp only [encJ]
    gi_wp2
    exact hK
  case stop =>
    rintro D c pre W _ _ h _
    exact h.elim
  case done =>
    rintro D ys W hD hys ⟨⟨⟨v, us, hv, hrow, hel, _⟩, hE, _⟩, hB⟩ hK
    have hcv := hv.cell
    have hce := hE.cell
    gi_wp2
    gi_region
    all_goals gi_wp2
    refine ⟨by simp, .inl ⟨_, _, rfl, run_takeDeferred (w := W.drew) hK, ?_⟩⟩
    have hKd : W.drew.heap[D]? = some (Obj.deferred (some [])) := hK
    refine ⟨_, results_tmp2 rfl _ _ _, v, us, ?_, ?_, ?_, ?_⟩
    · rw [← hys]
      rfl
    · rw [← hys, List.length_map]
      exact ownsRow_mono (ownsRow_putObj (W := W.drew) hrow _ hKd rfl) (by omega)
    · rw [← hys, List.map_map]
      exact (Elems.kept (W := W.drew) (show Elems _ W.drew _ _ _ from hel) (row := some D) (grownBy_putObj' W.drew D (.deferred none)) (fun r hr => .inr ⟨_, by cases hr; exact hKd, rfl⟩)).mono (by simp)
    · exact (hB.trans (show Below w.heap.size W W.drew from ⟨rfl, rfl, rfl, Nat.le_refl _, fun _ _ => rfl⟩)).trans (belowK_b (w := w) (Nat.le_refl _) W.drew D _ _ (by omega) hKd rfl rfl)
  case body =>
    rintro l pre x W ⟨⟨⟨v, us, hv, hrow, hel, hel2⟩, hE, hLW⟩, hB⟩ hlt
    have hd : 1 ≤ n - 1 - 1 := by omega
    have hmx : Tryz.prog.follows .mixedOrders = true := by kernel_rfl
    have hcv := hv.cell
    have hce := hE.cell
    have hx2 := x.2
    have hWs := hLW.2.1
    have hrp : Reads W (.slice (some ⟨b, offJ off cap x.1.1, none⟩) x.1.2 (cap - x.1.1)) (payP zs x.1) := by
      unfold offJ payP
      by_cases h0 : cap - x.1.1 = 0
      · have : x.1.2 = 0 := by omega
        rw [this]; exact .inl ⟨rfl, _, _, rfl⟩
      · rw [if_neg h0]; exact hLW.reads hcap x.1.1 x.1.2 hx2 _ (by omega)
    have hpl : (payP zs x.1).length ≤ 90000000 := by rw [payP, List.length_take, List.length_drop]; omega
    gi_wp2
    have hle : w.heap.size ≤ w.heap.size := Nat.le_refl _
    have hbytes : pre.length + 1 ≤ 10000002 := by omega
    have hm1 : pre.length + 1 ≤ maxLen := Nat.le_trans hbytes (by decide)
    have hm2 : (pre.length + 1) * 24 ≤ 140737488355328 := by omega
    gi_region_with_o (first
      | (refine ⟨trivial, ?_⟩; gi_at_call 63; refine (CallsIn.inRound l (callsIn_wide.2 (Tryz.Clone_calls (W := W.drew) hrp hpl))).mono ?_; rintro e w' ⟨au, cu, rfl, hu2, hu3, hu4⟩; have hv3 := Boxed.grown0 (W := W.drew) hv hu3; have hrow3 := ownsRow_grown0 (W := W.drew) hrow hu3; have hcv3 := hv3.cell; have hcv4 := (hv3.alloc (.cells #[.slice au (payP zs x.1).length cu] 22)).cell)
      | (obtain ⟨v', w1, hr, hown', hgrow, _, hblk⟩ := run_append_own_at (P := Tryz.prog) (w'.alloc (.cells #[.slice au (payP zs x.1).length cu] 22)) (w.heap.size + 3) 23 23 22 i0 (.slice none 0 0) 1 24 Tryz.underlying23 hi hz0 hz1 hz2 rfl (by decide) v pre.length us (hrow3.alloc _) ⟨w'.heap.size, 0, none⟩ 1 1 [.slice au (payP zs x.1).length cu] rfl (cell_one_new _ _ _) (by simp [Value.oneCell']) hm1 hm2 (by have := hu3.size; simp at *; omega)
         rw [appG_fold] at hr
         rw [hr]; obtain ⟨g', cap', rfl⟩ := ownsRow_succ hown'
         obtain ⟨hbx, hbx', hrow', hko, hbel⟩ := Boxed.appended hv3 (by decide) (ownsRow_mono hrow3 (by omega : w.heap.size ≤ w.heap.size + 3)) (by have := hu3.size; simp at *; omega) (Nat.le_refl _) (ownsRow_mono hown' (by omega : w.heap.size ≤ w.heap.size + 3)) hgrow
         have hcx := hbx.cell
         have hfx := hbx.frozen
         have hE1 := (((Boxed.grown0 (W := W.drew) hE hu3).alloc (.cells #[.slice au (payP zs x.1).length cu] 22)).kept hgrow ((Boxed.grown0 (W := W.drew) hE hu3).not_row (by decide) hrow3))))
    all_goals (
      have hE' := hE1.kept (grownBy_setCell' w1 w.heap.size (.slice (some ⟨g', 0, none⟩) (pre.length + 1) cap')) (by simp)
      have hcE' := hE'.cell
      have hfE' := hE'.frozen
      have hcE1 := hE1.cell
      have hfE1 := hE1.frozen
      clear hr hcx hfx hm1 hm2
      gi_wp2)
    all_goals exact IJ.next rfl hb (by omega) hv hrow hel hel2 ⟨_, hE⟩ hLW hB (show W.grownBy w' none from ⟨hu3.os, hu3.tape, hu3.output, hu3.size, hu3.block⟩) rfl hu2 hu4 hgrow hown' hblk
end Go.Proofs
namespace Go.Proofs
open Go.RowKit Go.Shelf Go.AW
variable [Draws]
set_option linter.all false
set_option maxRecDepth 100000
attribute [local go_sem] Oper.semAt_some
theorem Tryz.ent_stopsE (n : Nat) (Bs cap : Nat) (a : Option Addr) (w : World) (hBs : Bs < w.heap.size) (hc : w.cell? ⟨Bs, 0, none⟩ = some (.slice a 0 cap)) :
    SeqStopsK Fence.wide n Tryz.prog 158 #[.pointer (some ⟨Bs, 0, none⟩)] (fun x : Empty => #[.int .i64 0, .int .i64 0]) (fun W W' => Below w.heap.size W W') (fun ys => ys = []) (fun _ => True) 1 w := fun l J Jx W hW hJ _ hY h0 =>
  (Tryz.ent0_in n l Bs a cap J W ((hW.cell (p := ⟨Bs, 0, none⟩) hBs).trans hc) h0).mono fun e W' ⟨he, hj⟩ => ⟨he, .inl ⟨[], rfl, hj⟩⟩
set_option maxRecDepth 100000 in
set_option maxHeartbeats 4000000 in
theorem Tryz.Read0_in (n : Nat) (hn : 3 ≤ n) (ad : Option Addr) (cap : Nat) (w : World) :
    CallsIn Fence.wide n Tryz.prog 52 #[.slice ad 0 cap] w fun e W' => e = .returned (.tuple #[.slice none 0 0, .int .i64 0]) ∧ Below w.heap.size w W' := by
  have h1 : 1 ≤ n := by omega
  refine callsIn_of_wp_marks Tryz.func52 rfl trivial ?_ rfl
  simp only [Tryz.ntmps52, List.size_toArray, List.length_cons, List.length_nil, Nat.reduceAdd, Nat.reduceSub, Array.replicate_succ, Array.replicate_zero, List.push_toArray, List.append_toArray, List.nil_append, List.cons_append]
  gi_wp2_with (refine ⟨trivial, ?_⟩; gi_at_call 109; refine (Tryz.entries_in Fence.wide (n - 1) trivial rfl _ _ _ _).mono ?_; rintro e w' ⟨rfl, rfl⟩)
  have bO := Boxed.new w 23 (.slice none 0 0)
  have bN := Boxed.new (w.alloc (.cells #[.slice none 0 0] 23)) 3 (.int .i64 0)
  have bL := Boxed.new ((w.alloc (.cells #[.slice none 0 0] 23)).alloc (.cells #[.int .i64 0] 3)) 22 (.slice ad 0 cap)
  rw [World.size_alloc] at bN
  rw [World.size_alloc, World.size_alloc] at bL
  have hB0 : Below w.heap.size w (((w.alloc (.cells #[.slice none 0 0] 23)).alloc (.cells #[.int .i64 0] 3)).alloc (.cells #[.slice ad 0 cap] 22)) := (((Below.refl _ w).alloc (Nat.le_refl _) _).alloc (by simp) _).alloc (by simp; omega) _
  have bO2 := (bO.alloc (.cells #[.int .i64 0] 3)).alloc (.cells #[.slice ad 0 cap] 22)
  have bN2 := bN.alloc (.cells #[.slice ad 0 cap] 22)
  obtain ⟨W0, hW0⟩ : ∃ W0, ((w.alloc (.cells #[.slice none 0 0] 23)).alloc (.cells #[.int .i64 0] 3)).alloc (.cells #[.slice ad 0 cap] 22) = W0 := ⟨_, rfl⟩
  have hsz : W0.heap.size = w.heap.size + 3 := by rw [← hW0]; simp
  rw [hW0] at bL hB0 bO2 bN2 ⊢
  clear bO bN hW0
  refine wpIn_rangeFunc_ownG rfl h1 (gf := 158) (lb := #[.pointer (some ⟨w.heap.size + 1 + 1, 0, none⟩)]) rfl trivial (enters_of Tryz.func158 (by kernel_rfl) rfl)
    (Tryz.ent_stopsE (n - 1) (w.heap.size + 2) cap ad W0 (by omega) bL.cell) (fun h k => h.trans k) (belowK_b (Nat.le_refl _)) (Below.refl _ _) (fun _ => rfl)
    (fun _ W => (Boxed W w.heap.size 23 (.slice none 0 0) ∧ Boxed W (w.heap.size + 1) 3 (.int .i64 0)) ∧ Below w.heap.size w W) (fun _ _ _ => False) ?own (fun _ _ _ _ _ hs _ _ => hs)
    ⟨⟨bO2, bN2⟩, hB0⟩
    (fun x => { tmps := #[], defers := [] }) ?assign ?body ?done ?stop
  case own =>
    rintro pre X Y row ⟨⟨hv, hE⟩, hB⟩ hg hrow
    have hbox : ∀ {B : Nat} {t : TypeId} {u : Value}, Boxed X B t u → some B ≠ row := fun {B t u} h e' => by
      obtain ⟨_, o, ho, hc⟩ := hrow B e'.symm
      rw [show X.heap[B]? = _ from h] at ho; cases ho; cases hc
    exact ⟨⟨hv.kept hg (hbox hv), hE.kept hg (hbox hE)⟩, hB.grown hg hB.size fun k e => by have := (hrow k e).1; omega⟩
  case assign => intro l x; exact x.elim
  case body => intro l pre x; exact x.elim
  case stop =>
    rintro D c pre W _ _ h _
    exact h.elim
  case done =>
    rintro D ys W hD hys ⟨⟨hv, hE⟩, hB⟩ hK
    have hcv := hv.cell
    have hce := hE.cell
    gi_wp2
    gi_region
    all_goals gi_wp2
    refine ⟨by simp, .inl ⟨_, _, rfl, run_takeDeferred (w := W.drew) hK, ?_⟩⟩
    have hKd : W.drew.heap[D]? = some (Obj.deferred (some [])) := hK
    refine ⟨_, results_tmp2 rfl _ _ _, rfl, ?_⟩
    exact (hB.trans (show Below w.heap.size W W.drew from ⟨rfl, rfl, rfl, Nat.le_refl _, fun _ _ => rfl⟩)).trans (belowK_b (w := w) (Nat.le_refl _) W.drew D _ _ (by omega) hKd rfl rfl)
def Cnew (C : Nat → Nat) (w W' : World) (x : Nat) : Nat := if x < w.heap.size then C x else match W'.heap[x]? with
  | some (.cells cs _ _) => cs.size
  | _ => 0
theorem Cnew_lt {C : Nat → Nat} {w W' : World} (hw : w.heap.size ≤ W'.heap.size) (b : Nat) (h : 0 < Cnew C w W' b) : b < W'.heap.size := by
  unfold Cnew at h
  by_cases hb : b < w.heap.size
  · omega
  · rw [if_neg hb] at h
    by_cases hb2 : b < W'.heap.size
    · exact hb2
    · rw [Array.getElem?_eq_none (by omega)] at h; simp at h
theorem Cnew_cell {C : Nat → Nat} {w W' : World} {b i : Nat} {x : Value} (hb : w.heap.size ≤ b) (h : W'.cell? ⟨b, i, none⟩ = some x) : i < Cnew C w W' b := by
  unfold Cnew
  rw [if_neg (by omega)]
  unfold World.cell? at h
  split at h
  · rename_i c _ _ hc
    rw [hc]
    simp at h
    exact (Array.getElem?_eq_some_iff.1 h).1
  · cases h
theorem st_below (hup : ¬ Draws.up) {C : Nat → Nat} {τ : Nat → Option Go.AW.Loc} {H : List AObj} {w W' : World} (hw : WF C τ H w) (hB : Below w.heap.size w W') : St w (PrCall τ H w) (Cnew C w W') τ H W' ∧ Step C τ H w (Cnew C w W') τ H W' := by
  have s : Step C τ H w (Cnew C w W') τ H W' := by
    refine ⟨fun b => ?_, fun b i hi => ?_, fun id o h => ⟨o, h, o.after_refl _⟩, hB.size, fun b hb => by rw [Cnew, if_pos hb]⟩
    · by_cases hb : b < w.heap.size
      · rw [Cnew, if_pos hb]; exact Nat.le_refl _
      · have : C b = 0 := by
          rcases Nat.eq_zero_or_pos (C b) with h | h
          · exact h
          · exact absurd (hw.lt b h) hb
        omega
    · exact hB.cell (p := ⟨b, i, none⟩) (hw.lt b (by omega))
  refine ⟨⟨⟨hw.ok, hw.virt, fun id o l h1 h2 => (hw.objs id o l h1 h2).mono s (hB.block _ (hw.locLt (List.getElem?_eq_some_iff.1 h1).1 h2)), fun id l h1 h2 => ?_, hw.inj, fun b hb => Cnew_lt hB.size b hb⟩, ⟨hB.os, hB.tape, hB.output, hB.size, fun b hb => hB.block b hb.1, fun u => absurd u hup⟩, fun b ho hp => hp.2 ho, fun b hb => hb.1⟩, s⟩
  rw [Cnew, if_pos (hw.locLt h1 h2)]
  exact hw.comm id l h1 h2
theorem Tryz.Read_any (hup : ¬ Draws.up) (zs : List Int) (hz : zs.length ≤ 10000000) (hby : Byt zs) {C : Nat → Nat} {τ : Nat → Option Go.AW.Loc} {H : List AObj} {w : World} {v : Value} (hw : WF C τ H w) (hreads : Reads w v zs) :
    CallsX Tryz.prog 52 #[v] w fun e w' => ∃ v r C' τ' H', e = .returned v ∧ (r = .tuple [payL zs, .int .i64 (endP (entP zs 0))] ∧ H' = H) ∧ Rel C' w' τ' H' r v ∧ St w (PrCall τ H w) C' τ' H' w' ∧ Step C τ H w C' τ' H' w' := by
  unfold CallsX
  rw [enters_of Tryz.func52 (by kernel_rfl) rfl]
  rcases hreads with ⟨rfl, a, cap, rfl⟩ | ⟨h0, b, off, cap, rfl, hcap, hb, hc⟩
  · refine Calls.mono (callsIn_wide.1 (Tryz.Read0_in 3 (Nat.le_refl _) a cap w)) ?_
    rintro e W' ⟨rfl, hB⟩
    obtain ⟨h1, h2⟩ := st_below hup hw hB
    have hn : entP [] 0 = [] := entP_nil (okE_short (by simp))
    refine ⟨_, _, _, _, _, rfl, ⟨rfl, rfl⟩, ?_, h1, h2⟩
    unfold payL
    rw [hn]
    refine .tuple _ _ rfl fun i c v hc hv => ?_
    rcases i with _ | _ | i
    · cases hc; cases hv; exact .rd (.list0 _ _ _ _ (by simp))
    · cases hc; cases hv; exact .rd (.int _ _)
    · simp at hc
  · refine Calls.mono (callsIn_wide.1 (Tryz.Read_in 3 (Nat.le_refl _) b off cap zs hcap hz hby w hb hc)) ?_
    rintro e W' ⟨v, us, rfl, hrow, hel, hB⟩
    obtain ⟨h1, h2⟩ := st_below hup hw hB
    refine ⟨_, _, _, _, _, rfl, ⟨rfl, rfl⟩, ?_, h1, h2⟩
    have hlen : us.length = (entP zs 0).length := by have := hel.1; simpa using this
    refine .tuple _ _ rfl fun i c u hc hu => ?_
    rcases i with _ | _ | i
    · cases hc; cases hu
      refine .rd ?_
      rcases hrow.2 with ⟨rfl, hn⟩ | ⟨g, cp, cur, rfl, hg, hgb, hncap, _, hcs, htake⟩
      · have : entP zs 0 = [] := List.eq_nil_of_length_eq_zero hn
        unfold payL
        rw [this]
        exact .list0 _ _ _ _ (by simp)
      · have hcell : ∀ i, i < (entP zs 0).length → W'.cell? ⟨g, i, none⟩ = some (us.getD i undef) := fun i hi => by
          have hj : us[i]? = some (us[i]'(by omega)) := List.getElem?_eq_getElem (by omega)
          have := hrow.cells (g := g) rfl i _ hj
          rw [Addr.add] at this
          simp only [Nat.zero_add] at this
          rw [show (if i = 0 then ({ block := g, off := 0 } : Addr) else { block := g, off := i }) = ⟨g, i, none⟩ by
            by_cases h : i = 0
            · rw [if_pos h, h]
            · rw [if_neg h]] at this
          rw [this, List.getD_eq_getElem?_getD, hj]; rfl
        have hel2 : ∀ (i : Nat) (e : List AVal) (d : AVal), ((entP zs 0).map fun x => [AVal.list false 1 (bC (payP zs x))])[i]? = some e → e[0]? = some d → Rd (Cnew C w W') W' d (us.getD i undef) := fun i e d he hd => by
          rw [List.getElem?_map] at he
          obtain ⟨x, hx, rfl⟩ := Option.map_eq_some_iff.1 he
          cases hd
          have hi := (List.getElem?_eq_some_iff.1 hx).1
          have hj : us[i]? = some (us[i]'(by omega)) := List.getElem?_eq_getElem (by omega)
          obtain ⟨e1, e2, e3⟩ := hel.2 i _ _ hj (by rw [List.getElem?_map, hx]; rfl)
          rw [List.getD_eq_getElem?_getD, hj]
          exact e1.rdC fun h0 b k y hb hk => Cnew_cell (e3 h0 b hb).2 hk
        unfold payL
        have := Rd.list (C := Cnew C w W') (w := W') false 1 ((entP zs 0).map fun x => [AVal.list false 1 (bC (payP zs x))]) g 0 cp (fun i _ => us.getD i undef) (by simp) (by rw [List.length_map]; exact hncap) (fun e he => by
          obtain ⟨x, _, rfl⟩ := List.mem_map.1 he
          rfl) (by
            rw [List.length_map, Nat.mul_one, Nat.zero_add]
            by_cases hz0 : (entP zs 0).length = 0
            · omega
            · have := Cnew_cell (C := C) hg (hcell ((entP zs 0).length - 1) (by omega))
              omega) (fun i j hi hj => by
            obtain rfl : j = 0 := by omega
            rw [List.length_map] at hi
            rw [Nat.mul_one, Nat.add_zero, Nat.zero_add]
            exact hcell i hi) (fun i j e d he hd => by
            rw [List.getElem?_map] at he
            obtain ⟨x, _, rfl⟩ := Option.map_eq_some_iff.1 he
            rcases j with _ | j
            · cases hd; rfl
            · simp at hd) (fun i j e d he hd => by
            have hj0 : j = 0 := by
              rw [List.getElem?_map] at he
              obtain ⟨x, _, rfl⟩ := Option.map_eq_some_iff.1 he
              rcases j with _ | j
              · rfl
              · simp at hd
            subst hj0
            exact hel2 i e d he hd)
        rwa [List.length_map] at this
    · cases hc; cases hu; exact .rd (.int _ _)
    · simp at hc
theorem Tryz.Read_acalls (hup : ¬ Draws.up) (ex : Bool) (zs : List Int) (hz : zs.length ≤ 10000000) (hby : Byt zs) (H : List AObj) : ACalls Tryz.prog 52 [.list ex 1 (bC zs)] H (fun r H' => r = .tuple [payL zs, .int .i64 (endP (entP zs 0))] ∧ H' = H) := by
  intro C τ w vs hw hl hr
  obtain ⟨v, rfl⟩ : ∃ v, vs = #[v] := by
    obtain ⟨m⟩ := vs
    match m, hl with
    | [v], _ => exact ⟨v, rfl⟩
  have hrel := hr 0 _ v rfl rfl
  have hrd : Rd C w (.list ex 1 (bC zs)) v := by
    cases hrel with
    | rd h => exact h
  exact Tryz.Read_any hup zs hz hby hw (Reads.of_rd hrd hw.lt).1
theorem Tryz.Read_own (hup : ¬ Draws.up) (zs : List Int) (n : Nat) (hn : n = zs.length) (hz : zs.length ≤ 10000000) (hby : Byt zs) (H : List AObj) (id : Nat) (ho : H[id]? = some (.arr 1 (bC zs))) : ACalls Tryz.prog 52 [.sl id n 0 n] H (fun r H' => r = .tuple [payL zs, .int .i64 (endP (entP zs 0))] ∧ H' = H) := by
  subst hn
  intro C τ w vs hw hl hr
  obtain ⟨v, rfl⟩ : ∃ v, vs = #[v] := by
    obtain ⟨m⟩ := vs
    match m, hl with
    | [v], _ => exact ⟨v, rfl⟩
  have hrel := hr 0 _ v rfl rfl
  exact Tryz.Read_any hup zs hz hby hw (Reads.of_sl hw ho hrel)
theorem Tryz.Read_part (hup : ¬ Draws.up) (zs : List Int) (rest : List (List AVal)) (ep n : Nat) (hep : ep = zs.length + rest.length) (hn : n = zs.length) (hz : zs.length ≤ 10000000) (hby : Byt zs) (H : List AObj) (id : Nat) (ho : H[id]? = some (.arr 1 (bC zs ++ rest))) : ACalls Tryz.prog 52 [.sl id ep 0 n] H (fun r H' => r = .tuple [payL zs, .int .i64 (endP (entP zs 0))] ∧ H' = H) := by
  subst hn
  intro C τ w vs hw hl hr
  obtain ⟨v, rfl⟩ : ∃ v, vs = #[v] := by
    obtain ⟨m⟩ := vs
    match m, hl with
    | [v], _ => exact ⟨v, rfl⟩
  have hrel := hr 0 _ v rfl rfl
  exact Tryz.Read_any hup zs hz hby hw (Reads.of_slPart hw ho hep hrel)
theorem Tryz.jread (hup : ¬ Draws.up) : JRead Tryz.prog 52 := ⟨Tryz.Read_acalls hup, Tryz.Read_own hup, Tryz.Read_part hup⟩
end Go.Proofs
