/-
  An abstract machine over the model, the code of functions on it, and their contracts: what the claim needs.
  No condition: definitions, plain laws, contracts over any program that has this code.
-/
import Derived.Test.YtbjodpkinpnebaaGreatZ4
set_option linter.all false
namespace Go.AW
variable [Draws]
attribute [local irreducible] ACalls
def pL (ps : List (List Int)) : List (List AVal):=ps.map fun p=>[.list false 1 (bC p)]
theorem pL_length (ps : List (List Int)) : (pL ps).length = ps.length:=by simp [pL]
theorem pureEs_pL (ps : List (List Int)) : pureEs (pL ps) = true:=by simp [pureEs,pL,AVal.isPure]
theorem payL_eq (zs : List Int) : payL zs = .list false 1 (pL (pays zs)):=by simp [payL,pL,pays,List.map_map,Function.comp_def]
theorem num_snoc (l : List Int) (x : Int) : num (l ++ [x]) = num l * 256 + x:=by simp [num]
theorem take_get (zs : List Int) (k i : Nat) (h : k + i < zs.length) : (zs.drop k).take (i + 1) = (zs.drop k).take i ++ [zs[k + i]]:=by
 rw [List.take_add_one,List.getElem?_drop,List.getElem?_eq_getElem h];rfl
def RdSt (v : AVal) (H : List AObj) (ps : List (List Int)) : Prop:=(v = .nil ∧ H = [] ∧ ps = []) ∨ (v = .sl 0 ps.length 0 ps.length ∧ H = [.arr 1 (pL ps)])
def RdRaw (zs : List Int) (r : AVal) : Prop:=r = .tuple [payL zs,.int .i64 (stop zs)] ∨ (pays zs = [] ∧ r = .tuple [.nil,.int .i64 (stop zs)])
theorem RdRaw.wk {zs : List Int} {r : AVal} (h : RdRaw zs r) : WkD r (.tuple [payL zs,.int .i64 (stop zs)]):=by
 rcases h with rfl | ⟨h,rfl⟩
 ·exact .refl _
 ·rw [payL_eq,h]
  exact .tuples (.cons (.nil _ _) (.cons (.refl _) .nil))
theorem be_num {l : List Int} (h : Byt l) : beN l.length (num l) = l:=by
 obtain ⟨n,hn⟩ : ∃ n,n = l.length:=⟨_,rfl⟩
 induction n generalizing l with
 | zero=>rw [List.eq_nil_of_length_eq_zero hn.symm];rfl
 | succ n ih =>
  rcases List.eq_nil_or_concat l with rfl | ⟨t,x,rfl⟩
  ·simp at hn
  ·rw [List.concat_eq_append] at h hn ⊢
   have hx:=h x (by simp)
   have ht : n = t.length:=by simp at hn;omega
   have:=ih (fun y hy=>h y (by simp [hy])) ht
   rw [num_snoc,List.length_append,List.length_singleton,beN,show (num t * 256 + x) / 256 = num t by omega,show (num t * 256 + x) % 256 = x by omega,this]
theorem entEq {zs : List Int} (hb : Byt zs) {k N : Nat} (hN : hdr zs k = N) (h8 : k + 8 ≤ zs.length) (h1 : N ≤ 65536) (h2 : k + 8 + N ≤ zs.length) : (jEnt (payP zs (k + 8,N)) == (zs.drop k).take (8 + N)) = okE zs k:=by
 have hpl : (payP zs (k + 8,N)).length = N:=by rw [payP,List.length_take,List.length_drop];omega
 rw [okE_sum hN h8 (by omega) (by omega)]
 have hq : (zs.drop k).take (8 + N) = (zs.drop k).take 4 ++ (zs.drop (k + 4)).take 4 ++ payP zs (k + 8,N):=by
  rw [show 8 + N = 4 + (4 + N) by omega,List.take_add,List.take_add,List.drop_drop,List.drop_drop,payP,List.append_assoc]
 have a1 : ((zs.drop k).take 4).length = 4:=by rw [List.length_take,List.length_drop];omega
 have a2 : ((zs.drop (k + 4)).take 4).length = 4:=by rw [List.length_take,List.length_drop];omega
 have by1 : Byt ((zs.drop k).take 4):=fun x hx=>hb x (List.mem_of_mem_drop (List.mem_of_mem_take hx))
 have by2 : Byt ((zs.drop (k + 4)).take 4):=fun x hx=>hb x (List.mem_of_mem_drop (List.mem_of_mem_take hx))
 have e1 : beN 4 N = (zs.drop k).take 4:=by
  have:=be_num by1
  rw [a1] at this
  rw [← this];congr 1;exact hN.symm
 have hbn:=fnv_bound (jBody (payP zs (k + 8,N)))
 have hnb:=num_bnd _ by2
 rw [a2] at hnb
 have e2 : IntKind.u32.wrap (hdr zs (k + 4)) = num ((zs.drop (k + 4)).take 4):=by rw [u32_wrap,hdr];omega
 rw [e2,Bool.eq_iff_iff,beq_iff_eq,decide_eq_true_iff]
 show _ ↔ _ = fnv (jBody (payP zs (k + 8,N)))
 rw [jEnt,hpl,e1,hq]
 constructor
 ·intro h
  have h3:=List.append_cancel_left (List.append_cancel_right h)
  rw [← h3,num_be 4 _ hbn.1 (by omega)]
 ·intro h
  rw [← h]
  have:=be_num by2
  rw [a2] at this
  rw [this]
set_option maxRecDepth 20000 in
theorem ref35_Read_spec {P : Program} (F : F_z1l P) (ex : Bool) (zs : List Int) (hz : zs.length ≤ 7000000) (hb : Byt zs) (H : List AObj) :
  ACalls P F.id [.list ex 1 (bC zs)] H (fun r H'=>r = .tuple [payL zs,.int .i64 (stop zs)] ∧ H' = H):=by
 refine ACalls.weakRD (Q:=fun r H'=>RdRaw zs r ∧ H' = H) (ACalls.lift0 rfl (acalls_of_body F.has ?_)) (by rintro r H' ⟨h,rfl⟩;exact ⟨_,h.wk,rfl,rfl⟩)
 conv=>whnf
 refine ⟨fun m ρ H1=>∃ (k : Nat) (pre : List (Nat × Nat)) (v4 : AVal),k + m = zs.length ∧ entP zs 0 = pre ++ entP zs k ∧ endP pre = k ∧ 8 * pre.length ≤ k ∧ RdSt v4 H1 (pre.map (payP zs)) ∧
  Sv 70 [(0,.list ex 1 (bC zs)),(4,v4),(5,.int .i64 k)] ρ,zs.length,[],?_,?_⟩
 ·exact ⟨0,[],.nil,by omega,rfl,rfl,by simp,.inl ⟨rfl,rfl,rfl⟩,Sv.intro rfl ⟨rfl,rfl,rfl,trivial⟩⟩
 rintro m ρ H1 ⟨k,pre,v4,hk,hpre,hend,h8k,hst,d,rfl⟩
 have hfin : okE zs k = false → RdRaw zs (.tuple [.list false 1 (pL (pre.map (payP zs))),.int .i64 k]) ∧ (pre = [] → RdRaw zs (.tuple [.nil,.int .i64 k])):=fun h=>by
  have e : entP zs 0 = pre:=by rw [hpre,entP_nil h,List.append_nil]
  refine ⟨.inl ?_,fun h0=>.inr ⟨?_,?_⟩⟩
  ·rw [payL_eq,pays,stop,e,hend]
  ·rw [pays,e,h0];rfl
  ·rw [stop,e,hend]
 have w1 : IntKind.i64.wrap ((k : Int) + 8) = (k : Int) + 8:=wrapI _ (by omega) (by omega)
 conv=>whnf
 rw [w1]
 (conv=>whnf);refine recA (fun h8=>?_) (fun h8=>?_)
 ·rw [bC_length] at h8
  simp at h8
  conv=>whnf
  refine ⟨fun m ρ H2=>∃ i : Nat,i + m = 4 ∧ H2 = H1 ∧ Sv 70 [(0,.list ex 1 (bC zs)),(4,v4),(5,.int .i64 k),(6,.int .i64 (num ((zs.drop k).take i))),(7,.int .i64 i)] ρ,4,[],?_,?_⟩
  ·exact ⟨0,by omega,rfl,Sv.intro rfl ⟨rfl,rfl,rfl,rfl,rfl,trivial⟩⟩
  rintro m2 ρ H2 ⟨i,hi,rfl,d,rfl⟩
  (conv=>whnf);refine recA (fun h4=>?_) (fun h4=>?_)
  ·simp at h4
   have wk : IntKind.i64.wrap ((k : Int) + i) = ((k + i : Nat) : Int):=wrapI _ (by omega) (by omega)
   have hki : k + i < zs.length:=by omega
   have nb:=num_bnd ((zs.drop k).take i) fun x hx=>hb x (List.mem_of_mem_drop (List.mem_of_mem_take hx))
   have nb2 : num ((zs.drop k).take i) < 16777216:=by
    have h1 : ((zs.drop k).take i).length = i:=by rw [List.length_take,List.length_drop];omega
    rw [h1] at nb
    have : i = 0 ∨ i = 1 ∨ i = 2 ∨ i = 3:=by omega
    clear h1
    rcases this with rfl | rfl | rfl | rfl <;> omega
   have hx:=hb zs[k + i] (List.getElem_mem hki)
   conv=>whnf
   rw [wk]
   (conv=>whnf);refine And.intro (by omega) ?_
   (conv=>whnf);refine recO (bC_get (List.getElem?_eq_getElem (by rw [Int.toNat_natCast];exact hki))) ?_
   conv=>whnf
   refine ⟨m2 - 1,by omega,Gp.keep rfl ?_ fun ρ1 h=>⟨i + 1,by omega,rfl,h⟩⟩
   refine ⟨rfl,rfl,rfl,intEq ?_,intEq (wrapI _ (by omega) (by omega)),trivial⟩
   rw [take_get zs k i hki,num_snoc]
   show IntKind.i64.wrap (IntKind.i64.wrap (num ((zs.drop k).take i) * 256) + IntKind.i64.wrap (zs[((k + i : Nat) : Int).toNat])) = _
   simp only [Int.toNat_natCast]
   rw [wrapI (num _ * 256) (by omega) (by omega),wrapI zs[k + i] (by omega) (by omega),wrapI _ (by omega) (by omega)]
  simp at h4
  have hi4 : i = 4:=by omega
  subst hi4
  clear hi
  have hn0:=hdr_nonneg hb k
  obtain ⟨N,hN⟩ : ∃ N : Nat,hdr zs k = N:=⟨(hdr zs k).toNat,by omega⟩
  have hN' : num ((zs.drop k).take 4) = N:=hN
  conv=>whnf
  rw [hN']
  (conv=>whnf);refine recA (fun hA=>?_) (fun hA=>?_)
  ·simp at hA
   obtain ⟨f1,f2⟩:=hfin (okE_big hN (.inl (by omega)))
   conv=>whnf
   rcases hst with ⟨rfl,rfl,h0⟩ | ⟨rfl,rfl⟩
   ·exact ⟨_,pub2 (.closed _ rfl) (.closed _ rfl),f2 (by simpa using h0)⟩
   ·exact ⟨_,pub2 (pubF rfl (pL_length _).symm (pL_length _).symm (pureEs_pL _)) (.closed _ rfl),f1⟩
  simp at hA
  conv=>whnf
  rw [w1,show IntKind.i64.wrap ((k : Int) + 8 + N) = (k : Int) + 8 + N from wrapI _ (by omega) (by omega)]
  (conv=>whnf);refine recA (fun hB=>?_) (fun hB=>?_)
  ·rw [bC_length] at hB
   simp at hB
   obtain ⟨f1,f2⟩:=hfin (okE_big hN (.inr (by omega)))
   conv=>whnf
   rcases hst with ⟨rfl,rfl,h0⟩ | ⟨rfl,rfl⟩
   ·exact ⟨_,pub2 (.closed _ rfl) (.closed _ rfl),f2 (by simpa using h0)⟩
   ·exact ⟨_,pub2 (pubF rfl (pL_length _).symm (pL_length _).symm (pureEs_pL _)) (.closed _ rfl),f1⟩
  rw [bC_length] at hB
  simp at hB
  conv=>whnf
  rw [w1,show IntKind.i64.wrap ((k : Int) + 8 + N) = (k : Int) + 8 + N from wrapI _ (by omega) (by omega)]
  (conv=>whnf);refine And.intro (⟨by omega,by omega,by rw [bC_length];omega⟩) ?_
  obtain ⟨p,hp⟩ : ∃ p,p = payP zs (k + 8,N):=⟨_,rfl⟩
  have hpl : p.length = N:=by rw [hp,payP,List.length_take,List.length_drop];omega
  have hpb : Byt p:=fun x hx=>hb x (by rw [hp,payP] at hx;exact List.mem_of_mem_drop (List.mem_of_mem_take hx))
  have hsl : List.drop ((k : Int) + 8).toNat (List.take ((k : Int) + 8 + N).toNat (bC zs)) = bC p:=by
   rw [hp,payP,show ((k : Int) + 8).toNat = k + 8 by omega,show ((k : Int) + 8 + N).toNat = k + 8 + N by omega,List.drop_take,bC_drop,bC_take]
   congr 2;omega
  obtain ⟨q,hq⟩ : ∃ q,q = (zs.drop k).take (8 + N):=⟨_,rfl⟩
  have hqb : Byt q:=fun x hx=>hb x (by rw [hq] at hx;exact List.mem_of_mem_drop (List.mem_of_mem_take hx))
  have hsl2 : List.drop (k : Int).toNat (List.take ((k : Int) + 8 + N).toNat (bC zs)) = bC q:=by
   rw [hq,show (k : Int).toNat = k by omega,show ((k : Int) + 8 + N).toNat = k + 8 + N by omega,List.drop_take,bC_drop,bC_take]
   congr 2;omega
  have heq : (jEnt p == q) = okE zs k:=by rw [hp,hq];exact entEq hb hN (by omega) (by omega) (by omega)
  rcases hst with ⟨rfl,rfl,h0⟩ | ⟨rfl,rfl⟩
  ·conv=>whnf
   rw [hsl]
   (conv=>whnf);refine And.intro (⟨roomB_le1 (by rw [bC_length];omega),roomB_le (by rw [bC_length];omega)⟩) ?_
   conv=>whnf
   refine Ghost.none (n:=70) (live:=[(0,.list ex 1 (bC zs)),(4,.nil),(5,.int .i64 k),(6,.int .i64 N),(8,.list false 1 (bC p))]) rfl ⟨.closed _ rfl,.closed _ rfl,.closed _ rfl,.closed _ rfl,pubF rfl rfl rfl (pureEs_bC _),trivial⟩ ?_
   rintro ρ1 ⟨d,rfl⟩
   (conv=>whnf);refine ⟨_,ref35_Entry_spec F.z1j false p (by omega) hpb _,?_⟩
   (conv=>whnf);refine ⟨_,bytesOf_bC _,?_⟩
   conv=>whnf
   rw [w1,show IntKind.i64.wrap ((k : Int) + 8 + N) = (k : Int) + 8 + N from wrapI _ (by omega) (by omega)]
   (conv=>whnf);refine And.intro (⟨by omega,by omega,by rw [bC_length];omega⟩) ?_
   conv=>whnf
   rw [hsl2]
   (conv=>whnf);refine ⟨_,bytesOf_bC _,?_⟩
   (conv=>whnf);refine recA (fun hq=>?_) (fun hq=>?_)
   ·replace hq : (!((jEnt p).map (fun n=>UInt8.ofNat n.toNat) == q.map (fun n=>UInt8.ofNat n.toNat))) = true:=hq
    rw [byt_beq (jEnt_byt hpb) hqb,heq] at hq
    simp at hq
    obtain ⟨f1,f2⟩:=hfin hq
    conv=>whnf
    exact ⟨_,pub2 (.closed _ rfl) (.closed _ rfl),f2 (by simpa using h0)⟩
   replace hq : (!((jEnt p).map (fun n=>UInt8.ofNat n.toNat) == q.map (fun n=>UInt8.ofNat n.toNat))) = false:=hq
   rw [byt_beq (jEnt_byt hpb) hqb,heq] at hq
   simp at hq
   (conv=>whnf);refine And.intro (⟨roomMul (by simp) (by omega),roomB_le (by simp)⟩) ?_
   have hnext : entP zs 0 = (pre ++ [(k + 8,N)]) ++ entP zs (k + 8 + N):=by rw [hpre,entP_cons hq,hN,Int.toNat_natCast,List.append_assoc];rfl
   conv=>whnf
   refine ⟨m - 8 - N,by omega,Gp.keep rfl ?_ fun ρ1 h=>⟨k + 8 + N,pre ++ [(k + 8,N)],.sl 0 1 0 1,by omega,hnext,endP_snoc _ _,by simp;omega,.inr ?_,h⟩⟩
   ·exact ⟨rfl,rfl,intEq (by show IntKind.i64.wrap (IntKind.i64.wrap ((k : Int) + 8) + N) = _;rw [w1,wrapI _ (by omega) (by omega)];omega),trivial⟩
   ·have : pre = []:=by simpa using h0
    subst this
    rw [hp]
    exact ⟨rfl,rfl⟩
  ·conv=>whnf
   rw [hsl]
   (conv=>whnf);refine And.intro (⟨roomB_le1 (by rw [bC_length];omega),roomB_le (by rw [bC_length];omega)⟩) ?_
   conv=>whnf
   refine Ghost.some (n:=70) (live:=[(0,.list ex 1 (bC zs)),(4,.sl 0 (pre.map (payP zs)).length 0 (pre.map (payP zs)).length),(5,.int .i64 k),(6,.int .i64 N),(8,.list false 1 (bC p))]) (H1:=[.arr 1 (pL (pre.map (payP zs)))]) [0] (by simp) ⟨⟨_,rfl,.same _ _ (pureEs_pL _)⟩,trivial⟩ rfl ⟨.closed _ rfl,.keep 0 _ _ _ 0 rfl,.closed _ rfl,.closed _ rfl,pubFI (by simp) rfl rfl rfl (pureEs_bC _),trivial⟩ ?_
   rintro ρ1 ⟨d,rfl⟩
   (conv=>whnf);refine ⟨_,ref35_Entry_spec F.z1j false p (by omega) hpb _,?_⟩
   (conv=>whnf);refine ⟨_,bytesOf_bC _,?_⟩
   conv=>whnf
   rw [w1,show IntKind.i64.wrap ((k : Int) + 8 + N) = (k : Int) + 8 + N from wrapI _ (by omega) (by omega)]
   (conv=>whnf);refine And.intro (⟨by omega,by omega,by rw [bC_length];omega⟩) ?_
   conv=>whnf
   rw [hsl2]
   (conv=>whnf);refine ⟨_,bytesOf_bC _,?_⟩
   (conv=>whnf);refine recA (fun hq=>?_) (fun hq=>?_)
   ·replace hq : (!((jEnt p).map (fun n=>UInt8.ofNat n.toNat) == q.map (fun n=>UInt8.ofNat n.toNat))) = true:=hq
    rw [byt_beq (jEnt_byt hpb) hqb,heq] at hq
    simp at hq
    obtain ⟨f1,f2⟩:=hfin hq
    conv=>whnf
    exact ⟨_,pub2 (pubF rfl (pL_length _).symm (pL_length _).symm (pureEs_pL _)) (.closed _ rfl),f1⟩
   replace hq : (!((jEnt p).map (fun n=>UInt8.ofNat n.toNat) == q.map (fun n=>UInt8.ofNat n.toNat))) = false:=hq
   rw [byt_beq (jEnt_byt hpb) hqb,heq] at hq
   simp at hq
   (conv=>whnf);refine recT (by rw [pL_length];exact Nat.beq_refl _) ?_
   (conv=>whnf);refine And.intro (⟨roomMul (by simp [pL];omega) (by omega),roomB_le (by simp;omega),rfl,by rw [pL_length]⟩) ?_
   have hnext : entP zs 0 = (pre ++ [(k + 8,N)]) ++ entP zs (k + 8 + N):=by rw [hpre,entP_cons hq,hN,Int.toNat_natCast,List.append_assoc];rfl
   have hmap : pL ((pre ++ [(k + 8,N)]).map (payP zs)) = pL (pre.map (payP zs)) ++ [[.list false 1 (bC p)]]:=by rw [List.map_append,pL,pL,List.map_append,hp];rfl
   conv=>whnf
   refine ⟨m - 8 - N,by omega,Gp.keep rfl ?_ fun ρ1 h=>⟨k + 8 + N,pre ++ [(k + 8,N)],.sl 0 ((pre ++ [(k + 8,N)]).map (payP zs)).length 0 ((pre ++ [(k + 8,N)]).map (payP zs)).length,by omega,hnext,endP_snoc _ _,by simp;omega,.inr ⟨rfl,?_⟩,h⟩⟩
   ·exact ⟨rfl,slEq (by simp [pL]) (by simp [pL]),intEq (by show IntKind.i64.wrap (IntKind.i64.wrap ((k : Int) + 8) + N) = _;rw [w1,wrapI _ (by omega) (by omega)];omega),trivial⟩
   ·rw [hmap] <;> rfl
 ·rw [bC_length] at h8
  simp at h8
  obtain ⟨f1,f2⟩:=hfin (okE_short (by omega))
  conv=>whnf
  rcases hst with ⟨rfl,rfl,h0⟩ | ⟨rfl,rfl⟩
  ·exact ⟨_,pub2 (.closed _ rfl) (.closed _ rfl),f2 (by simpa using h0)⟩
  ·exact ⟨_,pub2 (pubF rfl (pL_length _).symm (pL_length _).symm (pureEs_pL _)) (.closed _ rfl),f1⟩
theorem bClone_spec {P : Program} (F : F_z06 P) (ex : Bool) (l : List Int) (hl : l.length ≤ 90000000) (H : List AObj) :
  ACalls P F.id [.list ex 1 (bC l)] H (fun r H'=>r = .list false 1 (bC l) ∧ H' = H):=by
 refine ACalls.weakR (Q:=fun r H'=>(r = .list false 1 (bC l) ∨ (r = .nil ∧ l = [])) ∧ H' = H) (ACalls.lift0 (R:=fun r=>r = .list false 1 (bC l) ∨ (r = .nil ∧ l = [])) rfl ((bClone_raw F ex l hl).mono ?_)) ?_
 ·rintro r H1 (⟨rfl,h1,rfl⟩ | ⟨rfl,rfl⟩)
  ·exact ⟨_,.closed _ rfl,.inr ⟨rfl,h1⟩⟩
  ·exact ⟨_,pubF rfl (bC_length l).symm (bC_length l).symm (pureEs_bC l),.inl rfl⟩
 ·rintro r H' ⟨rfl | ⟨rfl,rfl⟩,rfl⟩
  ·exact ⟨_,.refl _,rfl,rfl⟩
  ·exact ⟨_,.nil _ _,rfl,rfl⟩
theorem slice_bC (zs : List Int) (n : Nat) : List.drop 0 (List.take (n : Int).toNat (bC zs)) = bC (zs.take n):=by rw [List.drop_zero,Int.toNat_natCast,bC_take]
set_option maxRecDepth 20000 in
theorem jRepair_spec {P : Program} (F : F_z09 P) (hR : JRead P F.journal_Read.id) (ex : Bool) (zs : List Int) (hz : zs.length ≤ 7000000) (hb : Byt zs) (H : List AObj) :
  ACalls P F.id [.list ex 1 (bC zs)] H (fun r H'=>r = .list false 1 (bC (zs.take (stop zs))) ∧ H' = H):=by
 have hs:=stop_le zs
 refine ACalls.pure rfl (acalls_of_body F.has ?_)
 (conv=>whnf);refine ACalls.use (hR.pure ex zs (by omega) hb _) ?_
 (conv=>whnf);refine And.intro (⟨by omega,by show ((stop zs : Nat) : Int) ≤ _;rw [bC_length];omega⟩) ?_
 conv=>whnf
 rw [slice_bC]
 (conv=>whnf);refine ACalls.use (bClone_spec F.z06 _ (zs.take (stop zs)) (by rw [List.length_take];omega) _) ?_
 conv=>whnf
 exact .closed _ rfl
theorem pL_get {ps : List (List Int)} {k : Nat} {p : List Int} (h : ps[k]? = some p) : (pL ps)[k]? = some [.list false 1 (bC p)]:=by rw [pL,List.getElem?_map,h];rfl
theorem byt_nil : Byt []:=fun x hx=>by simp at hx
theorem byt_app {a b : List Int} (ha : Byt a) (hb : Byt b) : Byt (a ++ b):=fun x hx=>(List.mem_append.1 hx).elim (ha x) (hb x)
theorem jLog_byt {l : List (List Int)} (h : ∀ p ∈ l,Byt p) : Byt (jLog l):=by
 induction l with
 | nil=>exact byt_nil
 | cons p l ih =>
  rw [jLog_cons]
  exact byt_app (jEnt_byt (h p (List.mem_cons_self ..))) (ih fun q hq=>h q (List.mem_cons_of_mem _ hq))
theorem byt_stop {zs : List Int} (h : Byt zs) : ∀ p ∈ pays zs,Byt p:=fun p hp x hx=>by
 rw [pays] at hp
 obtain ⟨y,_,rfl⟩:=List.mem_map.1 hp
 exact h x (List.mem_of_mem_drop (List.mem_of_mem_take hx))
theorem take_snoc {α : Type} {l : List α} {k : Nat} {x : α} (h : l[k]? = some x) : l.take (k + 1) = l.take k ++ [x]:=by rw [List.take_add_one,h];rfl
theorem jread_pays {P : Program} {f : FuncId} (hR : JRead P f) (ex : Bool) (c : List Int) (hc : Byt c) (hl : c.length ≤ 7000000) (H : List AObj) : ACalls P f [.list ex 1 (bC c)] H (fun r H'=>r = .tuple [.list false 1 (pL (pays c)),.int .i64 (stop c)] ∧ H' = H):=by
 have:=hR.pure ex c (by omega) hc H
 rw [payL_eq] at this
 exact this
theorem ref35_pays {P : Program} (F : F_z1l P) (ex : Bool) (c : List Int) (hc : Byt c) (hl : c.length ≤ 7000000) (H : List AObj) : ACalls P F.id [.list ex 1 (bC c)] H (fun r H'=>r = .tuple [.list false 1 (pL (pays c)),.int .i64 (stop c)] ∧ H' = H):=by
 have:=ref35_Read_spec F ex c hl hc H
 rw [payL_eq] at this
 exact this
theorem pays_len (zs : List Int) : (pays zs).length ≤ zs.length:=by
 have key : ∀ (n k : Nat),zs.length - k ≤ n → (entP zs k).length ≤ zs.length - k:=fun n=>by
  induction n with
  | zero =>
   intro k hk
   rw [entP_nil (okE_short (by omega))];simp
  | succ n ih =>
   intro k hk
   by_cases h : okE zs k = true
   ·rw [entP_cons h,List.length_cons]
    have hk8 : k + 8 ≤ zs.length:=by simp [okE] at h;omega
    have:=ih (k + 8 + (hdr zs k).toNat) (by omega)
    omega
   ·rw [entP_nil (by simpa using h)];simp
 have:=key _ 0 (Nat.le_refl _)
 simpa [pays] using this
theorem cut_pays {l : List (List Int)} (h : ∀ p ∈ l,p.length ≤ 65536) {w cut : Nat} (hw : w ≤ l.length) (h1 : (jLog (l.take w)).length ≤ cut) (h2 : w = l.length ∨ cut < (jLog (l.take (w + 1))).length) :
  pays ((jLog l).take cut) = l.take w ∧ stop ((jLog l).take cut) = (jLog (l.take w)).length ∧ ((jLog l).take cut).take (jLog (l.take w)).length = jLog (l.take w):=by
 have e0 : jLog l = jLog (l.take w) ++ jLog (l.drop w):=by rw [jLog,jLog,jLog,← List.flatMap_append,List.take_append_drop]
 have e : (jLog l).take cut = jLog (l.take w) ++ (jLog (l.drop w)).take (cut - (jLog (l.take w)).length):=by
  rw [e0,List.take_append,List.take_of_length_le h1]
 have ht : pays ((jLog (l.drop w)).take (cut - (jLog (l.take w)).length)) = [] ∧ stop ((jLog (l.drop w)).take (cut - (jLog (l.take w)).length)) = 0:=by
  by_cases hwl : w < l.length
  ·obtain ⟨p,hp⟩ : ∃ p,l[w]? = some p:=⟨_,List.getElem?_eq_getElem hwl⟩
   have hc:=h2.resolve_left (by omega)
   rw [take_snoc hp,jLog_snoc,List.length_append,jEnt_length] at hc
   have hd : l.drop w = p :: l.drop (w + 1):=by
    have:=List.drop_eq_getElem_cons hwl
    rw [this]
    congr 1
    have:=List.getElem?_eq_getElem hwl
    rw [hp] at this
    exact (Option.some.inj this).symm
   rw [hd,jLog_cons,List.take_append,jEnt_length,show cut - (jLog (l.take w)).length - (8 + p.length) = 0 by omega,List.take_zero,List.append_nil]
   exact pays_cut p (h p (List.mem_of_getElem? hp)) _ (by omega)
  ·rw [List.drop_eq_nil_of_le (by omega)]
   simp [jLog,pays_nil]
 have hp:=pays_log (l.take w) ((jLog (l.drop w)).take (cut - (jLog (l.take w)).length)) fun p hp=>h p (List.mem_of_mem_take hp)
 rw [← e,ht.1,ht.2,List.append_nil,Nat.add_zero] at hp
 exact ⟨hp.1,hp.2,by rw [e,List.take_left]⟩
end Go.AW
namespace Go.AW
variable [Draws]
inductive Shf (n : Nat) : AVal → AVal → Prop where
 | sc (a : AVal) (h : a.scalar = true) : Shf n a a
 | sl (id ep off len : Nat) : Shf n (.sl id ep off len) (.sl (n + id) ep off len)
 | tuple (vs rs : List AVal) (hl : vs.length = rs.length) (h : ∀ (i : Nat) (v r : AVal),vs[i]? = some v → rs[i]? = some r → Shf n v r) : Shf n (.tuple vs) (.tuple rs)
 | agg (vs rs : List AVal) (hl : vs.length = rs.length) (h : ∀ (i : Nat) (v r : AVal),vs[i]? = some v → rs[i]? = some r → Shf n v r) : Shf n (.agg vs) (.agg rs)
def AObj.lits : AObj → Prop
 | .arr _ es=>∀ e ∈ es,∀ d ∈ e,d.scalar = true
 | _=>False
section
variable {P : Program} {C C' : Nat → Nat} {τ τ' : Nat → Option Loc} {H G : List AObj} {w w' : World}
theorem Shf.rel {a b : AVal} (h : Shf H.length a b) (hτ : ∀ k,k < G.length → τ' (H.length + k) = τ k) : ∀ {v : Value},Rel C w τ G a v → Rel C' w τ' (H ++ G) b v:=by
 induction h with
 | sc a h=>intro v hr;exact hr.scalar h
 | sl id ep off len =>
  intro v hr
  cases hr with
  | rd h=>cases h
  | sl _ _ _ _ a cap esz es ho hep h =>
   have hi:=(List.getElem?_eq_some_iff.1 ho).1
   refine .sl _ _ _ _ a cap esz es (by rw [List.getElem?_append_right (by omega),Nat.add_sub_cancel_left];exact ho) hep fun e=>?_
   rw [hτ id hi];exact h e
 | tuple vs rs hl h ih =>
  intro v hr
  obtain ⟨us,rfl,hl2,hr2⟩:=hr.tuple_inv
  refine .tuple _ _ (by omega) fun i c u hc hu=>?_
  have hi:=(List.getElem?_eq_some_iff.1 hc).1
  have hvi : vs[i]? = some vs[i]:=List.getElem?_eq_getElem (by omega)
  exact ih i _ c hvi hc (hr2 i _ u hvi hu)
 | agg vs rs hl h ih =>
  intro v hr
  obtain ⟨us,rfl,hl2,hr2⟩:=hr.agg_inv
  refine .agg _ _ (by omega) fun i c u hc hu=>?_
  have hi:=(List.getElem?_eq_some_iff.1 hc).1
  have hvi : vs[i]? = some vs[i]:=List.getElem?_eq_getElem (by omega)
  exact ih i _ c hvi hc (hr2 i _ u hvi hu)
theorem ACalls.borG {f : FuncId} {args bs : List AVal} {R R' : AVal} (h : ACalls P f bs [] (fun r H'=>r = R ∧ H' = G)) (hl : args.length = bs.length)
  (hp : ∀ (i : Nat) (a b : AVal),args[i]? = some a → bs[i]? = some b → Pub H 0 [] a b) (hR : Shf H.length R R') (hG : ∀ o ∈ G,o.lits) :
  ACalls P f args H (fun r H'=>r = R' ∧ H' = H ++ G):=by
 intro C τ w vs hw hlen hr
 have hw0 : WF (commit C τ H []) τ [] w:=by
  refine ⟨fun id o h=>by simp at h,fun id o h=>by simp at h,fun id o l h=>by simp at h,fun id l h=>by simp at h,fun i j li lj h=>by simp at h,fun b hb=>?_⟩
  by_cases hex : ∃ id l,id < H.length ∧ τ id = some l ∧ l.b = b
  ·obtain ⟨id,l,h1,h2,rfl⟩:=hex
   exact hw.locLt h1 h2
  ·rw [commit_other fun id l h1 _ h2 h3=>hex ⟨id,l,h1,h2,h3⟩] at hb
   exact hw.lt b hb
 have hc:=h (commit C τ H []) τ w vs hw0 (by rw [← hl];exact hlen) fun i b v hb hv=>by
  have hi : i < args.length:=by have:=(List.getElem?_eq_some_iff.1 hb).1;omega
  exact pub_rel (n:=0) (ids:=[]) (τ2:=τ) (H2:=[]) hw (fun k id h=>by simp at h) (hp i args[i] b (List.getElem?_eq_getElem hi) hb) (hr i args[i] v (List.getElem?_eq_getElem hi) hv)
 have fin : ∀ (e : Ending) (w' : World),(∃ v r C' τ' H',e = .returned v ∧ (r = R ∧ H' = G) ∧ Rel C' w' τ' H' r v ∧ St w (PrCall τ [] w) C' τ' H' w' ∧ Step (commit C τ H []) τ [] w C' τ' H' w') →
   ∃ v r C' τ' H',e = .returned v ∧ (r = R' ∧ H' = H ++ G) ∧ Rel C' w' τ' H' r v ∧ St w (PrCall τ H w) C' τ' H' w' ∧ Step C τ H w C' τ' H' w':=by
  rintro e w' ⟨v,r,C1,τ1,H1,rfl,⟨rfl,rfl⟩,hrel,hst,hstep⟩
  have prall : ∀ b,b < w.heap.size → PrCall τ [] w b:=fun b hb=>⟨hb,by rintro ⟨id,l,h,_⟩;simp at h⟩
  have hheap : ∀ b,b < w.heap.size → w'.heap[b]? = w.heap[b]?:=fun b hb=>hst.fr.prot b (prall b hb)
  have hnew : ∀ id l,id < H1.length → τ1 id = some l → w.heap.size ≤ l.b:=fun id l h1 h2=>by
   rcases Nat.lt_or_ge l.b w.heap.size with h3 | h3
   ·exact absurd (prall _ h3) (hst.own _ ⟨id,l,h1,h2,rfl⟩)
   ·exact h3
  let τ2 : Nat → Option Loc:=fun i=>if i < H.length then τ i else τ1 (i - H.length)
  have hτ : ∀ i,i < H.length → τ2 i = τ i:=fun i hi=>by simp only [τ2,if_pos hi]
  have hτn : ∀ k,τ2 (H.length + k) = τ1 k:=fun k=>by
   simp only [τ2,if_neg (by omega : ¬ H.length + k < H.length),Nat.add_sub_cancel_left]
  let C2 : Nat → Nat:=fun b=>if b < w.heap.size then C b else C1 b
  have hC2 : ∀ b,b < w.heap.size → C2 b = C b:=fun b hb=>by simp only [C2,if_pos hb]
  have hC2n : ∀ b,w.heap.size ≤ b → C2 b = C1 b:=fun b hb=>by simp only [C2,if_neg (by omega : ¬ b < w.heap.size)]
  have step : Step C τ H w C2 τ2 (H ++ H1) w':=by
   refine ⟨fun b=>?_,fun b i hi=>cell_heap (hheap b (hw.lt b (by omega))),fun id o ho=>?_,hst.fr.size,hC2⟩
   ·by_cases hb : b < w.heap.size
    ·rw [hC2 b hb];exact Nat.le_refl _
    ·have : C b = 0:=by
      rcases Nat.eq_zero_or_pos (C b) with h | h
      ·exact h
      ·exact absurd (hw.lt b h) hb
     omega
   ·have hi:=(List.getElem?_eq_some_iff.1 ho).1
    exact ⟨o,by rw [List.getElem?_append_left hi];exact ho,by rw [hτ id hi];exact o.after_refl _⟩
  have split : ∀ i,i < (H ++ H1).length → i < H.length ∨ ∃ k,i = H.length + k ∧ k < H1.length:=fun i hi=>by
   rcases Nat.lt_or_ge i H.length with h1 | h1
   ·exact .inl h1
   ·rw [List.length_append] at hi
    exact .inr ⟨i - H.length,by omega,by omega⟩
  have getn : ∀ k,(H ++ H1)[H.length + k]? = H1[k]?:=fun k=>by rw [List.getElem?_append_right (by omega),Nat.add_sub_cancel_left]
  have loc : ∀ i l,i < (H ++ H1).length → τ2 i = some l → (i < H.length ∧ τ i = some l ∧ l.b < w.heap.size) ∨ ∃ k,i = H.length + k ∧ k < H1.length ∧ τ1 k = some l ∧ w.heap.size ≤ l.b:=fun i l hi ht=>by
   rcases split i hi with h1 | ⟨k,rfl,hk⟩
   ·rw [hτ i h1] at ht
    exact .inl ⟨h1,ht,hw.locLt h1 ht⟩
   ·rw [hτn k] at ht
    exact .inr ⟨k,rfl,hk,ht,hnew k l hk ht⟩
  refine ⟨v,R',C2,τ2,H ++ H1,rfl,⟨rfl,rfl⟩,hR.rel (fun k _=>hτn k) hrel,⟨⟨?_,?_,?_,?_,?_,?_⟩,⟨hst.fr.os,hst.fr.tape,hst.fr.output,hst.fr.size,fun b hb=>hheap b hb.1,hst.fr.drawn⟩,?_,fun b hb=>hb.1⟩,step⟩
  ·intro i o ho
   rcases split i (List.getElem?_eq_some_iff.1 ho).1 with h1 | ⟨k,rfl,hk⟩
   ·rw [List.getElem?_append_left h1] at ho;exact hw.ok i o ho
   ·rw [getn] at ho;exact hst.wf.ok k o ho
  ·intro i o ho ht
   rcases split i (List.getElem?_eq_some_iff.1 ho).1 with h1 | ⟨k,rfl,hk⟩
   ·rw [List.getElem?_append_left h1] at ho;rw [hτ i h1] at ht;exact hw.virt i o ho ht
   ·rw [getn] at ho;rw [hτn k] at ht;exact hst.wf.virt k o ho ht
  ·intro i o l ho ht
   rcases split i (List.getElem?_eq_some_iff.1 ho).1 with h1 | ⟨k,rfl,hk⟩
   ·rw [List.getElem?_append_left h1] at ho;rw [hτ i h1] at ht
    exact (hw.objs i o l ho ht).mono step (hheap _ (hw.locLt h1 ht))
   ·rw [getn] at ho;rw [hτn k] at ht
    have hlit:=hG o (List.mem_of_getElem? ho)
    cases o with
    | iter _ _=>exact hlit.elim
    | map _=>exact hlit.elim
    | bmap _ _ _=>exact hlit.elim
    | mit _ _ _=>exact hlit.elim
    | arr esz es =>
     obtain ⟨a1,cells,elem,fz,a2,a3,a4,a5⟩:=hst.wf.objs k _ l ho ht
     refine ⟨a1,cells,elem,fz,a2,a3,a4,fun i j e d hi hd=>?_⟩
     obtain ⟨x,hx1,hx2⟩:=a5 i j e d hi hd
     exact ⟨x,hx1,hx2.scalar (hlit e (List.mem_of_getElem? hi) d (List.mem_of_getElem? hd))⟩
  ·intro i l hi ht
   rcases loc i l hi ht with ⟨h1,h2,h3⟩ | ⟨k,_,h1,h2,h3⟩
   ·rw [hC2 _ h3];exact hw.comm i l h1 h2
   ·rw [hC2n _ h3];exact hst.wf.comm k l h1 h2
  ·intro i j li lj hi hj hti htj hb
   rcases loc i li hi hti with ⟨h1,h2,h3⟩ | ⟨k,e1,h1,h2,h3⟩ <;> rcases loc j lj hj htj with ⟨g1,g2,g3⟩ | ⟨m,e2,g1,g2,g3⟩
   ·exact hw.inj i j li lj h1 g1 h2 g2 hb
   ·omega
   ·omega
   ·have:=hst.wf.inj k m li lj h1 g1 h2 g2 hb
    omega
  ·intro b hb
   by_cases h1 : b < w.heap.size
   ·exact Nat.lt_of_lt_of_le h1 hst.fr.size
   ·rw [hC2n b (by omega)] at hb;exact hst.wf.lt b hb
  ·rintro b ⟨i,l,hi,ht,rfl⟩ hpr
   rcases loc i l hi ht with ⟨h1,h2,h3⟩ | ⟨k,_,h1,h2,h3⟩
   ·exact hpr.2 ⟨i,l,h1,h2,rfl⟩
   ·have:=hpr.1;omega
 unfold CallsX at hc ⊢
 split at hc
 ·exact Calls.mono hc fun e w' hh=>fin e w' hh
 ·exact fin _ _ hc
 ·exact hc
end
attribute [local irreducible] ACalls
theorem snocK_to {H : List AObj} {o : AObj} {n : Nat} {k : Nat → List AObj → Prop} (h : k (n + H.length) (H ++ [o])) : snocK H o n k:=by rw [snocK_eq];exact h
theorem setO_at {H : List AObj} {n : Nat} {o : AObj} {k : List AObj → Prop} {H' : List AObj} (h : H.set n o = H') (hk : k H') : setO H n o k:=by rw [setO_eq,h];exact hk
theorem at_snoc (H : List AObj) (o : AObj) : (H ++ [o])[0 + H.length]? = some o:=by simp
theorem set_snoc (H : List AObj) (o o' : AObj) : (H ++ [o]).set (0 + H.length) o' = H ++ [o']:=by simp
theorem at_old {H X : List AObj} {i : Nat} {o : AObj} (h : H[i]? = some o) : (H ++ X)[i]? = some o:=by rw [List.getElem?_append_left (List.getElem?_eq_some_iff.1 h).1];exact h
theorem set_at {H : List AObj} {i : Nat} {o o' : AObj} (h : H[i]? = some o) : (H.set i o')[i]? = some o':=by
 rw [List.getElem?_set_self (List.getElem?_eq_some_iff.1 h).1]
theorem at_ne {K : List AObj} {i j : Nat} {o a : AObj} (h : K[j]? = some o) (hne : i ≠ j) : (K.set i a)[j]? = some o:=by rw [List.getElem?_set_ne hne];exact h
theorem get_ne' {K : List AObj} {i j : Nat} {a : AObj} (hne : i ≠ j) : (K.set i a)[j]? = K[j]?:=List.getElem?_set_ne hne
theorem get_app {K X : List AObj} {j : Nat} (h : j < K.length) : (K ++ X)[j]? = K[j]?:=List.getElem?_append_left h
structure Chg where
 rm : Bool
 data : List Int
structure Sto where
 blobs : ByteArray → List (ByteArray × List Int)
 staged : ByteArray → List (ByteArray × Chg)
 vers : ByteArray → Int
 log : List Int
def updS {β : Type} (f : ByteArray → β) (k : ByteArray) (v : β) : ByteArray → β:=fun j=>if kEq j k then v else f j
theorem updS_same {β : Type} (f : ByteArray → β) (k : ByteArray) (v : β) : updS f k v k = v:=by simp [updS,kEq_refl]
theorem updS_other {β : Type} (f : ByteArray → β) {j k : ByteArray} (v : β) (h : j ≠ k) : updS f k v j = f j:=by simp [updS,kEq_false h]
inductive Role where
 | s
 | b
 | t
 | v
 | blob
 | stg (e : ByteArray)
def Post (H H' : List AObj) (ro ro' : Nat → Option Role) : Prop:=H.length ≤ H'.length ∧ ∀ i,i < H.length → ro i = none → ro' i = none ∧ H'[i]? = H[i]?
theorem Post.refl (H : List AObj) (ro : Nat → Option Role) : Post H H ro ro:=⟨Nat.le_refl _,fun _ _ h=>⟨h,rfl⟩⟩
theorem Post.trans {H H1 H2 : List AObj} {ro ro1 ro2 : Nat → Option Role} (h : Post H H1 ro ro1) (k : Post H1 H2 ro1 ro2) : Post H H2 ro ro2 :=
 ⟨Nat.le_trans h.1 k.1,fun i hi hr=>by
  obtain ⟨a,b⟩:=h.2 i hi hr
  obtain ⟨c,d⟩:=k.2 i (Nat.lt_of_lt_of_le hi h.1) a
  exact ⟨c,d.trans b⟩⟩
def chgC (c : Chg) : AVal:=.agg [.bool c.rm,bif c.rm then .nil else .list false 1 (bC c.data)]
def RD (_ : ByteArray) (x : AVal) (d : List Int) : Prop:=x = .list false 1 (bC d)
def RC (_ : ByteArray) (x : AVal) (c : Chg) : Prop:=x = chgC c
def RV (_ : ByteArray) (x : AVal) (n : Int) : Prop:=x = .int .i64 n
def RB (H : List AObj) (ro : Nat → Option Role) (_ : ByteArray) (x : AVal) (d : List (ByteArray × List Int)) : Prop :=
 (x = .nilm ∧ d = []) ∨ ∃ id kvs,x = .mp id ∧ ro id = some .blob ∧ H[id]? = some (.map kvs) ∧ PM RD kvs d
def RT (H : List AObj) (ro : Nat → Option Role) (e : ByteArray) (x : AVal) (c : List (ByteArray × Chg)) : Prop :=
 ∃ id kvs,x = .mp id ∧ ro id = some (.stg e) ∧ H[id]? = some (.map kvs) ∧ PM RC kvs c
structure SP where
 b : Nat
 t : Nat
 v : Nat
 B : List (AVal × AVal)
 T : List (AVal × AVal)
 V : List (AVal × AVal)
 cB : List (ByteArray × List (ByteArray × List Int))
 cT : List (ByteArray × List (ByteArray × Chg))
 cV : List (ByteArray × Int)
structure RepP (H : List AObj) (s : Nat) (σ : Sto) (ro : Nat → Option Role) (z : SP) : Prop where
 hs : H[s]? = some (.arr 4 [[.mp z.b,.mp z.t,.mp z.v,.list false 1 (bC σ.log)]])
 hb : H[z.b]? = some (.map z.B)
 ht : H[z.t]? = some (.map z.T)
 hv : H[z.v]? = some (.map z.V)
 rs : ro s = some .s
 rb : ro z.b = some .b
 rt : ro z.t = some .t
 rv : ro z.v = some .v
 pB : PM (RB H ro) z.B z.cB
 pT : PM (RT H ro) z.T z.cT
 pV : PM RV z.V z.cV
 sB : KSrt z.cB
 sT : KSrt z.cT
 sV : KSrt z.cV
 eB : ∀ e,σ.blobs e = (kLk e z.cB).getD []
 eT : ∀ e,σ.staged e = (kLk e z.cT).getD []
 eV : ∀ e,σ.vers e = (kLk e z.cV).getD 0
 lt : ∀ i,ro i ≠ none → i < H.length
theorem RB.mono {H H' : List AObj} {ro ro' : Nat → Option Role} (hk : ∀ i,ro i = some .blob → ro' i = some .blob ∧ H'[i]? = H[i]?) {e : ByteArray} {x : AVal} {d : List (ByteArray × List Int)} (h : RB H ro e x d) : RB H' ro' e x d:=by
 rcases h with h | ⟨id,kvs,h1,h2,h3,h4⟩
 ·exact .inl h
 ·obtain ⟨g1,g2⟩:=hk id h2
  exact .inr ⟨id,kvs,h1,g1,g2.trans h3,h4⟩
theorem RT.mono {H H' : List AObj} {ro ro' : Nat → Option Role} {e : ByteArray} (hk : ∀ i,ro i = some (.stg e) → ro' i = some (.stg e) ∧ H'[i]? = H[i]?) {x : AVal} {c : List (ByteArray × Chg)} (h : RT H ro e x c) : RT H' ro' e x c:=by
 obtain ⟨id,kvs,h1,h2,h3,h4⟩:=h
 obtain ⟨g1,g2⟩:=hk id h2
 exact ⟨id,kvs,h1,g1,g2.trans h3,h4⟩
theorem RepP.frame {H H' : List AObj} {s : Nat} {σ : Sto} {ro : Nat → Option Role} {z : SP} (h : RepP H s σ ro z) (hk : ∀ i,ro i ≠ none → H'[i]? = H[i]?) (hl : H.length ≤ H'.length) : RepP H' s σ ro z:=by
 have g : ∀ {i : Nat} {r : Role} {o : AObj},ro i = some r → H[i]? = some o → H'[i]? = some o:=fun h1 h2=>(hk _ (by rw [h1];simp)).trans h2
 exact ⟨g h.rs h.hs,g h.rb h.hb,g h.rt h.ht,g h.rv h.hv,h.rs,h.rb,h.rt,h.rv,h.pB.mono fun k x a _ hR=>hR.mono fun i hi=>⟨hi,hk i (by rw [hi];simp)⟩,h.pT.mono fun k x a _ hR=>hR.mono fun i hi=>⟨hi,hk i (by rw [hi];simp)⟩,h.pV,h.sB,h.sT,h.sV,h.eB,h.eT,h.eV,fun i hi=>Nat.lt_of_lt_of_le (h.lt i hi) hl⟩
theorem RepP.app {H X : List AObj} {s : Nat} {σ : Sto} {ro : Nat → Option Role} {z : SP} (h : RepP H s σ ro z) : RepP (H ++ X) s σ ro z :=
 h.frame (fun i hi=>List.getElem?_append_left (h.lt i hi)) (by simp)
theorem Post.app (H X : List AObj) (ro : Nat → Option Role) : Post H (H ++ X) ro ro:=⟨by simp,fun i hi h=>⟨h,List.getElem?_append_left hi⟩⟩
theorem RepP.fresh {H : List AObj} {s : Nat} {σ : Sto} {ro : Nat → Option Role} {z : SP} (h : RepP H s σ ro z) {i : Nat} (hi : H.length ≤ i) : ro i = none:=by
 cases hr : ro i with
 | none=>rfl
 | some r=>have:=h.lt i (by rw [hr];simp);omega
theorem ro_ne {ro : Nat → Option Role} {i j : Nat} {r q : Role} (h1 : ro i = some r) (h2 : ro j = some q) (h : r ≠ q) : i ≠ j:=by
 rintro rfl
 rw [h1] at h2
 exact h (Option.some.inj h2)
def Det (P : Program) (f : FuncId) (args : List AVal) (H : List AObj) (Q : AVal → List AObj → Prop) : Prop :=
 ∃ r H1,ACalls P f args H (fun r' H'=>r' = r ∧ H' = H1) ∧ Q r H1
section
variable {α : Type} {R R' : ByteArray → AVal → α → Prop} {kvs : List (AVal × AVal)} {c : List (ByteArray × α)}
theorem kDel_mem {k : ByteArray} {a : α} (hs : KSrt c) (h : (k,a) ∈ c) : c.Perm ((k,a) :: kDel k c):=by
 induction c with
 | nil=>cases h
 | cons p c ih =>
  have hs2 : KSrt c:=(List.pairwise_cons.1 hs).2
  have hlt:=(List.pairwise_cons.1 hs).1
  unfold kDel
  rcases List.mem_cons.1 h with rfl | h2
  ·simp only [List.filter_cons,kEq_refl,Bool.not_true,Bool.false_eq_true,if_false]
   refine .cons _ (List.Perm.of_eq (List.filter_eq_self.2 fun q hq=>?_).symm)
   rw [kEq_false (ltB_ne (hlt q hq))];rfl
  ·have hne : k ≠ p.1:=fun e=>ltB_ne (hlt _ h2) e.symm
   simp only [List.filter_cons,kEq_false hne,Bool.not_false,if_true]
   exact (List.Perm.cons _ (ih hs2 h2)).trans (.swap _ _ _)
theorem PM.upd (h : PM R kvs c) (hs : KSrt c) {k : ByteArray} {x : AVal} {a : α} (hf : mfind 2 (.str k) kvs = some x) (hR : R' k x a) (hM : ∀ j y b,(j,b) ∈ c → j ≠ k → R j y b → R' j y b) : PM R' kvs (kIns k a c):=by
 obtain ⟨a0,ha0⟩ : ∃ a0,kLk k c = some a0:=by
  rcases h.find hs k with ⟨h1,_⟩ | ⟨_,a0,_,h2,_⟩
  ·rw [hf] at h1;cases h1
  ·exact ⟨a0,h2⟩
 obtain ⟨l,rfl,hp,hr⟩:=h
 have hn:=PM.keysL hp hs
 rw [mfind_map] at hf
 obtain ⟨p0,hp0,rfl⟩:=Option.map_eq_some_iff.1 hf
 have e0:=kEq_iff.1 (List.find?_some (p:=fun p : ByteArray × AVal × α=>kEq k p.1) hp0)
 subst e0
 have hm0:=List.mem_of_find?_eq_some hp0
 have huniq : ∀ p ∈ l,p.1 = p0.1 → p = p0:=by
  clear hp hr hp0 hf
  intro p hpm e
  induction l with
  | nil=>cases hpm
  | cons q l ih =>
   rw [List.map_cons,List.nodup_cons] at hn
   rcases List.mem_cons.1 hpm with rfl | h1 <;> rcases List.mem_cons.1 hm0 with h2 | h2
   ·exact h2.symm
   ·exact absurd (List.mem_map.2 ⟨p0,h2,e.symm⟩) hn.1
   ·subst h2;exact absurd (List.mem_map.2 ⟨p,h1,e⟩) hn.1
   ·exact ih hn.2 h2 h1
 refine ⟨l.map fun p=>if kEq p0.1 p.1 then (p.1,p.2.1,a) else p,?_,?_,fun p hpm=>?_⟩
 ·rw [List.map_map]
  refine List.map_congr_left fun p _=>?_
  simp only [Function.comp_apply]
  split <;> rfl
 ·have e1 : (l.map fun p=>if kEq p0.1 p.1 then (p.1,p.2.1,a) else p).map (fun p=>(p.1,p.2.2)) = (l.map fun p=>(p.1,p.2.2)).map fun q=>if kEq p0.1 q.1 then (q.1,a) else q:=by
   rw [List.map_map,List.map_map]
   refine List.map_congr_left fun p _=>?_
   simp only [Function.comp_apply]
   split <;> rfl
  rw [e1]
  refine (hp.map _).trans (((kDel_mem hs ((kLk_some hs).1 ha0)).map _).trans ?_)
  refine List.Perm.trans ?_ (kIns_perm p0.1 a c).symm
  rw [List.map_cons]
  simp only [kEq_refl,if_true]
  refine .cons _ (List.Perm.of_eq ?_)
  rw [List.map_congr_left (g:=id),List.map_id]
  intro q hq
  have:=(List.mem_filter.1 hq).2
  simp only [Bool.not_eq_true'] at this
  rw [this];rfl
 ·obtain ⟨q,hq,rfl⟩:=List.mem_map.1 hpm
  by_cases e : p0.1 = q.1
  ·rw [e,kEq_refl,if_pos rfl]
   have:=huniq q hq e.symm
   subst this
   exact hR
  ·rw [kEq_false e,if_neg Bool.false_ne_true]
   exact hM _ _ _ (hp.mem_iff.1 (List.mem_map.2 ⟨q,hq,rfl⟩)) (fun h=>e h.symm) (hr q hq)
end
def stageS (env name : ByteArray) (c : Chg) (σ : Sto) : Sto:={ σ with staged:=updS σ.staged env (kIns name c (σ.staged env)) }
def updR (ro : Nat → Option Role) (i : Nat) (r : Role) : Nat → Option Role:=fun j=>if j = i then some r else ro j
theorem updR_same (ro : Nat → Option Role) (i : Nat) (r : Role) : updR ro i r i = some r:=by simp [updR]
theorem updR_other (ro : Nat → Option Role) {i j : Nat} (r : Role) (h : j ≠ i) : updR ro i r j = ro j:=by simp [updR,h]
theorem RepP.stageOld {H H' : List AObj} {s : Nat} {σ : Sto} {ro : Nat → Option Role} {z : SP} (h : RepP H s σ ro z) {env name : ByteArray} {c : Chg} {id : Nat} {kvs : List (AVal × AVal)} {c0 : List (ByteArray × Chg)}
  (hss : KSrt c0) (h1 : mfind 2 (.str env) z.T = some (.mp id)) (h2 : kLk env z.cT = some c0) (h3 : ro id = some (.stg env)) (h4 : PM RC kvs c0)
  (hH : ∀ i,i < H.length → i ≠ id → H'[i]? = H[i]?) (hl : H.length ≤ H'.length) (hi : H'[id]? = some (.map (mput 2 (.str name) (chgC c) kvs))) :
  RepP H' s (stageS env name c σ) ro { z with cT:=kIns env (kIns name c c0) z.cT }:=by
 have g : ∀ {i : Nat} {r : Role},ro i = some r → r ≠ .stg env → H'[i]? = H[i]?:=fun {i r} h5 h6=>hH i (h.lt i (by rw [h5];simp)) (ro_ne h5 h3 h6)
 refine ⟨(g h.rs (by simp)).trans h.hs,(g h.rb (by simp)).trans h.hb,(g h.rt (by simp)).trans h.ht,(g h.rv (by simp)).trans h.hv,h.rs,h.rb,h.rt,h.rv,h.pB.mono fun k x a _ hR=>hR.mono fun i hi=>⟨hi,g hi (by simp)⟩,?_,h.pV,h.sB,h.sT.ins _ _,h.sV,h.eB,fun e=>?_,h.eV,fun i hi=>Nat.lt_of_lt_of_le (h.lt i hi) hl⟩
 ·refine h.pT.upd h.sT h1 ⟨id,_,rfl,h3,hi,h4.put hss rfl⟩ fun j y b _ hne hR=>hR.mono fun i hi2=>⟨hi2,g hi2 (by simpa using hne)⟩
 ·show updS σ.staged env _ e = _
  rw [kIns_lk h.sT,updS,h.eT env,h2]
  by_cases he : e = env
  ·subst he;rw [kEq_refl];rfl
  ·rw [kEq_false he];exact h.eT e
theorem RepP.stageNew {H H' : List AObj} {s : Nat} {σ : Sto} {ro : Nat → Option Role} {z : SP} (h : RepP H s σ ro z) {env name : ByteArray} {c : Chg} {id : Nat}
  (h2 : kLk env z.cT = none) (hid : H.length ≤ id) (hH : ∀ i,i < H.length → i ≠ z.t → H'[i]? = H[i]?) (hl : H.length ≤ H'.length) (ht : H'[z.t]? = some (.map (mput 2 (.str env) (.mp id) z.T)))
  (hi : H'[id]? = some (.map (mput 2 (.str name) (chgC c) []))) :
  RepP H' s (stageS env name c σ) (updR ro id (.stg env)) { z with T:=mput 2 (.str env) (.mp id) z.T,cT:=kIns env (kIns name c []) z.cT }:=by
 have hr : ∀ {i : Nat} {r : Role},ro i = some r → updR ro id (.stg env) i = some r:=fun {i r} h5=>by
  rw [updR_other];exact h5
  have:=h.lt i (by rw [h5];simp);omega
 have g : ∀ {i : Nat} {r : Role},ro i = some r → r ≠ .t → H'[i]? = H[i]?:=fun {i r} h5 h6=>hH i (h.lt i (by rw [h5];simp)) (ro_ne h5 h.rt h6)
 refine ⟨(g h.rs (by simp)).trans h.hs,(g h.rb (by simp)).trans h.hb,ht,(g h.rv (by simp)).trans h.hv,hr h.rs,hr h.rb,hr h.rt,hr h.rv,h.pB.mono fun k x a _ hR=>hR.mono fun i hi=>⟨hr hi,g hi (by simp)⟩,?_,h.pV,h.sB,h.sT.ins _ _,h.sV,h.eB,fun e=>?_,h.eV,fun i hi2=>?_⟩
 ·refine (h.pT.mono (R2:=RT H' (updR ro id (.stg env))) fun k x a _ hR=>hR.mono fun i hi=>⟨hr hi,g hi (by simp)⟩).put h.sT ⟨id,_,rfl,updR_same _ _ _,hi,PM.nil.put KSrt.nil rfl⟩
 ·show updS σ.staged env _ e = _
  rw [kIns_lk h.sT,updS,h.eT env,h2]
  by_cases he : e = env
  ·subst he;rw [kEq_refl];rfl
  ·rw [kEq_false he];exact h.eT e
 ·by_cases he : i = id
  ·subst he;exact (List.getElem?_eq_some_iff.1 hi).1
  ·rw [updR_other _ _ he] at hi2
   exact Nat.lt_of_lt_of_le (h.lt i hi2) hl
theorem mfind_put {α : Type} {R : ByteArray → AVal → α → Prop} {kvs : List (AVal × AVal)} {c : List (ByteArray × α)} (h : PM R kvs c) (k : ByteArray) (x : AVal) : mfind 2 (.str k) (mput 2 (.str k) x kvs) = some x:=by
 obtain ⟨l,rfl,hp,hr⟩:=h
 clear hp hr
 induction l with
 | nil =>
  simp only [List.map_nil,mput,mfind]
  have : eqCell 2 (.str k) (.str k) = some true:=by rw [← kEq_refl k];rfl
  simp only [this]
 | cons p l ih =>
  rw [List.map_cons,mput]
  cases he : kEq k p.1 with
  | true =>
   have : eqCell 2 (.str k) (.str p.1) = some true:=by rw [← he];rfl
   simp only [this,mfind]
  | false =>
   have : eqCell 2 (.str k) (.str p.1) = some false:=by rw [← he];rfl
   simp only [this,mfind]
   exact ih
theorem keyOk_put {α : Type} {R : ByteArray → AVal → α → Prop} {kvs : List (AVal × AVal)} {c : List (ByteArray × α)} (h : PM R kvs c) (k j : ByteArray) (x : AVal) : keyOk 2 (.str j) (mput 2 (.str k) x kvs) = true:=by
 obtain ⟨l,rfl,hp,hr⟩:=h
 clear hp hr
 simp only [keyOk,Bool.and_eq_true]
 refine ⟨rfl,?_⟩
 induction l with
 | nil=>rfl
 | cons p l ih =>
  rw [List.map_cons,mput]
  cases he : kEq k p.1 with
  | true =>
   have : eqCell 2 (.str k) (.str p.1) = some true:=by rw [← he];rfl
   simp only [this,List.all_cons,Bool.and_eq_true]
   exact ⟨rfl,by simp [eqCell]⟩
  | false =>
   have : eqCell 2 (.str k) (.str p.1) = some false:=by rw [← he];rfl
   simp only [this,List.all_cons,Bool.and_eq_true]
   exact ⟨rfl,ih⟩
set_option maxRecDepth 20000 in
theorem stage_spec {P : Program} (F : F_z0y P) {H : List AObj} {s : Nat} {σ : Sto} {ro : Nat → Option Role} {z : SP} (h : RepP H s σ ro z) (env name : ByteArray) (c : Chg) (hss : KSrt (σ.staged env)) :
  Det P F.id [.ptr s 1 0 0,.str env,.str name,chgC c] H (fun r H'=>r = .tuple [] ∧ ∃ ro' z',RepP H' s (stageS env name c σ) ro' z' ∧ Post H H' ro ro'):=by
 have hc : toCells (chgC c) = some [.bool c.rm,bif c.rm then .nil else .list false 1 (bC c.data)]:=rfl
 have hcell : AVal.isCell (bif c.rm then .nil else .list false 1 (bC c.data)) = true:=by cases c.rm <;> rfl
 rcases h.pT.find h.sT env with ⟨h1,h2⟩ | ⟨x,c0,h1,h2,id,kvs,rfl,h3,h4,h5⟩
 ·apply Exists.intro
  apply Exists.intro
  apply And.intro
  ·refine acalls_of_body F.has ?_
   (conv=>whnf);refine recT (by cases c.rm <;> rfl) ?_
   (conv=>whnf)
   refine snocK_to ?_
   (conv=>whnf);refine recO (at_old h.hs) ?_
   (conv=>whnf);refine recO (at_old h.ht) ?_
   (conv=>whnf);refine recT (h.pT.ok env) ?_
   (conv=>whnf);refine recN h1 ?_
   (conv=>whnf);refine recO (at_old h.hs) ?_
   (conv=>whnf)
   refine snocK_to ?_
   (conv=>whnf);refine recO (at_old (at_old h.ht)) ?_
   (conv=>whnf);refine recT (h.pT.ok env) ?_
   (conv=>whnf)
   refine setO_at rfl ?_
   have hts : z.t ≠ s:=ro_ne h.rt h.rs (by simp)
   have htl : z.t < H.length:=h.lt _ (by rw [h.rt];simp)
   (conv=>whnf);refine recO (at_ne (at_old (at_old h.hs)) hts) ?_
   (conv=>whnf);refine recO (set_at (at_old (at_old h.ht))) ?_
   (conv=>whnf);refine recT (keyOk_put h.pT env env _) ?_
   (conv=>whnf);refine recO (mfind_put h.pT env _) ?_
   (conv=>whnf);refine recO (at_ne (at_old (at_snoc H _)) (by omega)) ?_
   (conv=>whnf)
   refine recO (at_ne (at_snoc _ _) (by simp <;> omega)) ?_
   (conv=>whnf)
   refine setO_at rfl ?_
   conv=>whnf
   exact ⟨rfl,rfl⟩
  have hts : z.t ≠ s:=ro_ne h.rt h.rs (by simp)
  have htl : z.t < H.length:=h.lt _ (by rw [h.rt];simp)
  refine ⟨rfl,_,_,h.stageNew (id:=0 + (H ++ [AObj.arr 2 [[AVal.bool c.rm,bif c.rm then .nil else .list false 1 (bC c.data)]]]).length) h2 (by simp <;> omega) (fun i hi hne=>?_) (by simp <;> omega) ?_ ?_,by simp <;> omega,fun i hi hr=>⟨?_,?_⟩⟩
  ·rw [get_ne' (by simp <;> omega),get_ne' (Ne.symm hne),get_app (by simp <;> omega),get_app hi]
  ·exact at_ne (set_at (at_old (at_old h.ht))) (by simp <;> omega)
  ·exact set_at (at_ne (at_snoc _ _) (by simp <;> omega))
  ·rw [updR_other _ _ (by simp <;> omega)];exact hr
  ·rw [get_ne' (by simp <;> omega),get_ne' (fun e=>by subst e;rw [h.rt] at hr;cases hr),get_app (by simp <;> omega),get_app hi]
 ·apply Exists.intro
  apply Exists.intro
  apply And.intro
  ·refine acalls_of_body F.has ?_
   (conv=>whnf);refine recT (by cases c.rm <;> rfl) ?_
   (conv=>whnf)
   refine snocK_to ?_
   (conv=>whnf);refine recO (at_old h.hs) ?_
   (conv=>whnf);refine recO (at_old h.ht) ?_
   (conv=>whnf);refine recT (h.pT.ok env) ?_
   (conv=>whnf);refine recO (h1) ?_
   (conv=>whnf);refine recO (at_old h.hs) ?_
   (conv=>whnf);refine recO (at_old h.ht) ?_
   (conv=>whnf);refine recT (h.pT.ok env) ?_
   (conv=>whnf);refine recO (h1) ?_
   (conv=>whnf);refine recO (at_snoc H _) ?_
   (conv=>whnf);refine recO (at_old h4) ?_
   (conv=>whnf);refine recT (h5.ok name) ?_
   (conv=>whnf)
   refine setO_at rfl ?_
   conv=>whnf
   exact ⟨rfl,rfl⟩
  have hid : id < H.length:=h.lt _ (by rw [h3];simp)
  have hss0 : KSrt c0:=by have:=hss;rw [h.eT,h2] at this;exact this
  refine ⟨rfl,_,_,h.stageOld hss0 h1 h2 h3 h5 (fun i hi hne=>?_) (by simp) (set_at (at_old h4)),by simp,fun i hi hr=>⟨hr,?_⟩⟩
  ·rw [get_ne' (Ne.symm hne),get_app hi]
  ·rw [get_ne' (fun e=>by subst e;rw [h3] at hr;cases hr),get_app hi]
section
variable {H : List AObj} {s : Nat} {σ : Sto} {ro : Nat → Option Role} {z : SP}
def mvS (σ : Sto) (env : ByteArray) : Sto:={ σ with staged:=updS σ.staged env [] }
def vbS (σ : Sto) (env : ByteArray) (d : List (ByteArray × List Int)) : Sto:={ σ with blobs:=updS σ.blobs env d }
def vvS (σ : Sto) (env : ByteArray) (n : Int) : Sto:={ σ with vers:=updS σ.vers env n }
def lgS (σ : Sto) (l : List Int) : Sto:={ σ with log:=l }
def SP.del (z : SP) (env : ByteArray) : SP:={ z with T:=mdel 2 (.str env) z.T,cT:=kDel env z.cT }
def SP.blb (z : SP) (env : ByteArray) (x : AVal) (d : List (ByteArray × List Int)) : SP:={ z with B:=mput 2 (.str env) x z.B,cB:=kIns env d z.cB }
def SP.ver (z : SP) (env : ByteArray) (n : Int) : SP:={ z with V:=mput 2 (.str env) (.int .i64 n) z.V,cV:=kIns env n z.cV }
theorem getD_upd {α β : Type} {f : ByteArray → β} {c c' : List (ByteArray × α)} {g : Option α → β} (hf : ∀ e,f e = g (kLk e c)) {env : ByteArray} {v : β} (h1 : g (kLk env c') = v) (h2 : ∀ e,e ≠ env → kLk e c' = kLk e c) (e : ByteArray) : updS f env v e = g (kLk e c'):=by
 by_cases he : e = env
 ·subst he;rw [updS_same,h1]
 ·rw [updS_other _ _ he,h2 e he,hf]
theorem RepP.del (h : RepP H s σ ro z) (env : ByteArray) : RepP (H.set z.t (.map (mdel 2 (.str env) z.T))) s (mvS σ env) ro (z.del env):=by
 have g : ∀ {i : Nat} {r : Role},ro i = some r → r ≠ .t → (H.set z.t (.map (mdel 2 (.str env) z.T)))[i]? = H[i]?:=fun {i r} h5 h6=>get_ne' (ro_ne h.rt h5 (Ne.symm h6))
 refine ⟨(g h.rs (by simp)).trans h.hs,(g h.rb (by simp)).trans h.hb,set_at h.ht,(g h.rv (by simp)).trans h.hv,h.rs,h.rb,h.rt,h.rv,h.pB.mono fun k x a _ hR=>hR.mono fun i hi=>⟨hi,g hi (by simp)⟩,?_,h.pV,h.sB,h.sT.del _,h.sV,h.eB,?_,h.eV,fun i hi=>by rw [List.length_set];exact h.lt i hi⟩
 ·exact (h.pT.del h.sT env).mono fun k x a _ hR=>hR.mono fun i hi=>⟨hi,g hi (by simp)⟩
 ·refine getD_upd (g:=fun o=>o.getD []) h.eT ?_ fun e he=>?_
  ·show (kLk env (kDel env z.cT)).getD [] = []
   rw [kDel_lk h.sT,kEq_refl,if_pos rfl];rfl
  ·show kLk e (kDel env z.cT) = _
   rw [kDel_lk h.sT,kEq_false he];rfl
theorem RepP.blb (h : RepP H s σ ro z) {env : ByteArray} {x : AVal} {d : List (ByteArray × List Int)} (hx : RB H ro env x d) : RepP (H.set z.b (.map (mput 2 (.str env) x z.B))) s (vbS σ env d) ro (z.blb env x d):=by
 have g : ∀ {i : Nat} {r : Role},ro i = some r → r ≠ .b → (H.set z.b (.map (mput 2 (.str env) x z.B)))[i]? = H[i]?:=fun {i r} h5 h6=>get_ne' (ro_ne h.rb h5 (Ne.symm h6))
 refine ⟨(g h.rs (by simp)).trans h.hs,set_at h.hb,(g h.rt (by simp)).trans h.ht,(g h.rv (by simp)).trans h.hv,h.rs,h.rb,h.rt,h.rv,?_,h.pT.mono fun k x a _ hR=>hR.mono fun i hi=>⟨hi,g hi (by simp)⟩,h.pV,h.sB.ins _ _,h.sT,h.sV,?_,h.eT,h.eV,fun i hi=>by rw [List.length_set];exact h.lt i hi⟩
 ·exact (h.pB.put h.sB hx).mono fun k x a _ hR=>hR.mono fun i hi=>⟨hi,g hi (by simp)⟩
 ·refine getD_upd (g:=fun o=>o.getD []) h.eB ?_ fun e he=>?_
  ·show (kLk env (kIns env d z.cB)).getD [] = d
   rw [kIns_lk h.sB,kEq_refl,if_pos rfl];rfl
  ·show kLk e (kIns env d z.cB) = _
   rw [kIns_lk h.sB,kEq_false he];rfl
theorem RepP.ver (h : RepP H s σ ro z) (env : ByteArray) (n : Int) : RepP (H.set z.v (.map (mput 2 (.str env) (.int .i64 n) z.V))) s (vvS σ env n) ro (z.ver env n):=by
 have g : ∀ {i : Nat} {r : Role},ro i = some r → r ≠ .v → (H.set z.v (.map (mput 2 (.str env) (.int .i64 n) z.V)))[i]? = H[i]?:=fun {i r} h5 h6=>get_ne' (ro_ne h.rv h5 (Ne.symm h6))
 refine ⟨(g h.rs (by simp)).trans h.hs,(g h.rb (by simp)).trans h.hb,(g h.rt (by simp)).trans h.ht,set_at h.hv,h.rs,h.rb,h.rt,h.rv,h.pB.mono fun k x a _ hR=>hR.mono fun i hi=>⟨hi,g hi (by simp)⟩,h.pT.mono fun k x a _ hR=>hR.mono fun i hi=>⟨hi,g hi (by simp)⟩,h.pV.put h.sV rfl,h.sB,h.sT,h.sV.ins _ _,h.eB,h.eT,?_,fun i hi=>by rw [List.length_set];exact h.lt i hi⟩
 refine getD_upd (g:=fun o=>o.getD 0) h.eV ?_ fun e he=>?_
 ·show (kLk env (kIns env n z.cV)).getD 0 = n
  rw [kIns_lk h.sV,kEq_refl,if_pos rfl];rfl
 ·show kLk e (kIns env n z.cV) = _
  rw [kIns_lk h.sV,kEq_false he];rfl
theorem RepP.lg (h : RepP H s σ ro z) (l : List Int) : RepP (H.set s (.arr 4 [[.mp z.b,.mp z.t,.mp z.v,.list false 1 (bC l)]])) s (lgS σ l) ro z:=by
 have g : ∀ {i : Nat} {r : Role},ro i = some r → r ≠ .s → (H.set s (.arr 4 [[.mp z.b,.mp z.t,.mp z.v,.list false 1 (bC l)]]))[i]? = H[i]?:=fun {i r} h5 h6=>get_ne' (ro_ne h.rs h5 (Ne.symm h6))
 exact ⟨set_at h.hs,(g h.rb (by simp)).trans h.hb,(g h.rt (by simp)).trans h.ht,(g h.rv (by simp)).trans h.hv,h.rs,h.rb,h.rt,h.rv,h.pB.mono fun k x a _ hR=>hR.mono fun i hi=>⟨hi,g hi (by simp)⟩,h.pT.mono fun k x a _ hR=>hR.mono fun i hi=>⟨hi,g hi (by simp)⟩,h.pV,h.sB,h.sT,h.sV,h.eB,h.eT,h.eV,fun i hi=>by rw [List.length_set];exact h.lt i hi⟩
theorem RepP.adopt (h : RepP H s σ ro z) {i : Nat} (hi : ro i = none) (hl : i < H.length) : RepP H s σ (updR ro i .blob) z:=by
 have hr : ∀ {j : Nat} {r : Role},ro j = some r → updR ro i .blob j = some r:=fun {j r} h5=>by
  rw [updR_other];exact h5
  rintro rfl;rw [hi] at h5;cases h5
 refine ⟨h.hs,h.hb,h.ht,h.hv,hr h.rs,hr h.rb,hr h.rt,hr h.rv,h.pB.mono fun k x a _ hR=>hR.mono fun i hi=>⟨hr hi,rfl⟩,h.pT.mono fun k x a _ hR=>hR.mono fun i hi=>⟨hr hi,rfl⟩,h.pV,h.sB,h.sT,h.sV,h.eB,h.eT,h.eV,fun j hj=>?_⟩
 by_cases he : j = i
 ·subst he;exact hl
 ·rw [updR_other _ _ he] at hj;exact h.lt j hj
theorem Post.set {H H' : List AObj} {ro ro' : Nat → Option Role} (h : Post H H' ro ro') {i : Nat} (o : AObj) (hi : ro i ≠ none ∨ H.length ≤ i) : Post H (H'.set i o) ro ro' :=
 ⟨by rw [List.length_set];exact h.1,fun j hj hr=>by
  obtain ⟨a,b⟩:=h.2 j hj hr
  refine ⟨a,?_⟩
  rw [get_ne',b]
  rintro rfl
  rcases hi with hi | hi
  ·exact hi hr
  ·omega⟩
theorem RepP.ns (h : RepP H s σ ro z) : ro s ≠ none:=by rw [h.rs];simp
theorem RepP.nb (h : RepP H s σ ro z) : ro z.b ≠ none:=by rw [h.rb];simp
theorem RepP.nt (h : RepP H s σ ro z) : ro z.t ≠ none:=by rw [h.rt];simp
theorem RepP.nv (h : RepP H s σ ro z) : ro z.v ≠ none:=by rw [h.rv];simp
def delH (H : List AObj) (z : SP) (env : ByteArray) : List AObj:=H.set z.t (.map (mdel 2 (.str env) z.T))
def comH (H : List AObj) (z : SP) (env : ByteArray) (x : AVal) (n : Int) : List AObj :=
 ((H.set z.b (.map (mput 2 (.str env) x z.B))).set z.v (.map (mput 2 (.str env) (.int .i64 n) z.V))).set z.t (.map (mdel 2 (.str env) z.T))
set_option maxRecDepth 20000 in
theorem discard_spec {P : Program} (F : F_z0k P) (h : RepP H s σ ro z) (env : ByteArray) :
  ACalls P F.id [.ptr s 1 0 0,.str env] H (fun r H'=>r = .tuple [] ∧ H' = delH H z env):=by
 refine acalls_of_body F.has ?_
 (conv=>whnf);refine recO (h.hs) ?_
 (conv=>whnf);refine recO (h.ht) ?_
 (conv=>whnf);refine recT (h.pT.ok env) ?_
 (conv=>whnf)
 refine setO_at rfl ?_
 conv=>whnf
 exact ⟨rfl,rfl⟩
set_option maxRecDepth 20000 in
theorem commit_spec {P : Program} (F : F_z0v P) (h : RepP H s σ ro z) (env : ByteArray) {x : AVal} {d : List (ByteArray × List Int)} (hx : RB H ro env x d) (hv : -4000000 ≤ σ.vers env ∧ σ.vers env ≤ 4000000) :
  ACalls P F.id [.ptr s 1 0 0,.str env,x] H (fun r H'=>r = .tuple [] ∧ H' = comH H z env x (σ.vers env + 1)):=by
 have h1:=h.blb hx
 have h2:=h1.ver env (σ.vers env + 1)
 have w : IntKind.i64.wrap (σ.vers env + 1) = σ.vers env + 1:=wrapI _ (by omega) (by omega)
 have hc : x.isCell = true:=by rcases hx with ⟨rfl,_⟩ | ⟨_,_,rfl,_⟩ <;> rfl
 have he:=h.eV env
 refine acalls_of_body F.has ?_
 (conv=>whnf);refine recO (h.hs) ?_
 (conv=>whnf);refine recO (h.hb) ?_
 (conv=>whnf);refine recT (h.pB.ok env) ?_
 (conv=>whnf)
 refine setO_at rfl ?_
 (conv=>whnf);refine recO (h1.hs) ?_
 (conv=>whnf);refine recO (h1.hv) ?_
 (conv=>whnf);refine recT (h.pV.ok env) ?_
 have key : ∀ n,(kLk env z.cV).getD 0 = n → IntKind.i64.wrap (n + 1) = σ.vers env + 1:=fun n hn=>by rw [← hn,← he,w]
 have fin : ∀ n,(kLk env z.cV).getD 0 = n → AObj.map (mput 2 (.str env) (.int .i64 (IntKind.i64.wrap (n + 1))) z.V) = .map (mput 2 (.str env) (.int .i64 (σ.vers env + 1)) z.V):=fun n hn=>by rw [key n hn]
 rcases h.pV.find h.sV env with ⟨e1,e2⟩ | ⟨y,n,e1,e2,rfl⟩
 ·(conv=>whnf)
  refine recN e1 ?_
  (conv=>whnf);refine recO (h1.hv) ?_
  (conv=>whnf);refine recT (h.pV.ok env) ?_
  (conv=>whnf)
  refine setO_at (congrArg _ (fin 0 (by rw [e2];rfl))) ?_
  (conv=>whnf);refine ACalls.mono (discard_spec F.z0k h2 env) ?_
  rintro r H1 ⟨rfl,rfl⟩
  conv=>whnf
  exact ⟨rfl,rfl⟩
 ·(conv=>whnf);refine recO (e1) ?_
  (conv=>whnf);refine recO (h1.hv) ?_
  (conv=>whnf);refine recT (h.pV.ok env) ?_
  (conv=>whnf)
  refine setO_at (congrArg _ (fin n (by rw [e2];rfl))) ?_
  (conv=>whnf);refine ACalls.mono (discard_spec F.z0k h2 env) ?_
  rintro r H1 ⟨rfl,rfl⟩
  conv=>whnf
  exact ⟨rfl,rfl⟩
theorem RepP.com (h : RepP H s σ ro z) (env : ByteArray) {x : AVal} {d : List (ByteArray × List Int)} (hx : RB H ro env x d) (n : Int) :
  RepP (comH H z env x n) s (mvS (vvS (vbS σ env d) env n) env) ro (((z.blb env x d).ver env n).del env) ∧ Post H (comH H z env x n) ro ro :=
 ⟨((h.blb hx).ver env n).del env,(((Post.refl H ro).set _ (.inl h.nb)).set _ (.inl h.nv)).set _ (.inl h.nt)⟩
end
def stageR (env name : ByteArray) (data : List Int) (σ : Sto) : Int × Sto :=
 if nameB env && qualB name then if data.length ≤ 65536 then (0,stageS env name ⟨false,data⟩ σ) else (2,σ) else (4,σ)
def removeR (env name : ByteArray) (σ : Sto) : Int × Sto :=
 if nameB env && qualB name then (0,stageS env name ⟨true,[]⟩ σ) else (4,σ)
def Acts (P : Program) (f : FuncId) (args : List AVal) (H : List AObj) (s : Nat) (ro : Nat → Option Role) (R : AVal) (σ' : Sto) : Prop :=
 Det P f args H (fun r H'=>r = R ∧ ∃ ro' z',RepP H' s σ' ro' z' ∧ Post H H' ro ro')
section
variable {H : List AObj} {s : Nat} {σ : Sto} {ro : Nat → Option Role} {z : SP}
set_option maxRecDepth 20000 in
theorem Stage_spec {P : Program} (F : F_z0p P) (h : RepP H s σ ro z) (env name : ByteArray) (e : Bool) (data : List Int) (hn : name.size ≤ 1000000) (hd : data.length ≤ 10000000) (hss : KSrt (σ.staged env)) :
  Acts P F.id [.ptr s 1 0 0,.str env,.agg [.str name,.list e 1 (bC data)]] H s ro (.int .i64 (stageR env name data σ).1) (stageR env name data σ).2:=by
 have h':=h.app (X:=[.arr 2 [[.str name,.list e 1 (bC data)]]])
 have hp:=Post.app H [.arr 2 [[.str name,.list e 1 (bC data)]]] ro
 unfold stageR
 cases h1 : nameB env with
 | false =>
  refine ⟨.int .i64 4,H ++ [.arr 2 [[.str name,.list e 1 (bC data)]]],?_,rfl,_,_,h',hp⟩
  refine acalls_of_body F.has ?_
  (conv=>whnf);refine snocK_to ?_
  (conv=>whnf);refine ACalls.use (schema_IsName_spec F.z0g env _) ?_
  (conv=>whnf);refine recT (by rw [h1];rfl) ?_
  (conv=>whnf);refine recT (by rw [h1];rfl) ?_
  conv=>whnf
  exact ⟨rfl,rfl⟩
 | true =>
 cases h2 : qualB name with
 | false =>
  refine ⟨.int .i64 4,H ++ [.arr 2 [[.str name,.list e 1 (bC data)]]],?_,rfl,_,_,h',hp⟩
  refine acalls_of_body F.has ?_
  (conv=>whnf);refine snocK_to ?_
  (conv=>whnf);refine ACalls.use (schema_IsName_spec F.z0g env _) ?_
  (conv=>whnf);refine recF (by rw [h1];rfl) ?_
  (conv=>whnf);refine recO (at_snoc H _) ?_
  (conv=>whnf);refine ACalls.use (schema_IsQualified_spec F.z0h name hn _) ?_
  (conv=>whnf);refine recT (by rw [h2];rfl) ?_
  conv=>whnf
  exact ⟨rfl,rfl⟩
 | true =>
 by_cases h3 : data.length ≤ 65536
 ·rw [if_pos (by rfl),if_pos h3]
  obtain ⟨_,H1,hc,rfl,ro',z',hr,hp2⟩:=stage_spec F.z0y h' env name ⟨false,data⟩ hss
  refine ⟨.int .i64 0,H1,?_,rfl,_,_,hr,hp.trans hp2⟩
  refine acalls_of_body F.has ?_
  (conv=>whnf);refine snocK_to ?_
  (conv=>whnf);refine ACalls.use (schema_IsName_spec F.z0g env _) ?_
  (conv=>whnf);refine recF (by rw [h1];rfl) ?_
  (conv=>whnf);refine recO (at_snoc H _) ?_
  (conv=>whnf);refine ACalls.use (schema_IsQualified_spec F.z0h name hn _) ?_
  (conv=>whnf);refine recF (by rw [h2];rfl) ?_
  (conv=>whnf);refine recO (at_snoc H _) ?_
  (conv=>whnf);refine recF (by rw [bC_length];simp;omega) ?_
  (conv=>whnf);refine recO (at_snoc H _) ?_
  (conv=>whnf);refine recO (at_snoc H _) ?_
  (conv=>whnf);refine ⟨_,bClone_spec F.z06 e data (by omega) _,?_⟩
  (conv=>whnf);refine ⟨_,_,hc,?_⟩
  conv=>whnf
  exact ⟨rfl,rfl⟩
 ·rw [if_pos (by rfl),if_neg h3]
  refine ⟨.int .i64 2,H ++ [.arr 2 [[.str name,.list e 1 (bC data)]]],?_,rfl,_,_,h',hp⟩
  refine acalls_of_body F.has ?_
  (conv=>whnf);refine snocK_to ?_
  (conv=>whnf);refine ACalls.use (schema_IsName_spec F.z0g env _) ?_
  (conv=>whnf);refine recF (by rw [h1];rfl) ?_
  (conv=>whnf);refine recO (at_snoc H _) ?_
  (conv=>whnf);refine ACalls.use (schema_IsQualified_spec F.z0h name hn _) ?_
  (conv=>whnf);refine recF (by rw [h2];rfl) ?_
  (conv=>whnf);refine recO (at_snoc H _) ?_
  (conv=>whnf);refine recT (by rw [bC_length];simp;omega) ?_
  conv=>whnf
  exact ⟨rfl,rfl⟩
set_option maxRecDepth 20000 in
theorem Remove_spec {P : Program} (F : F_z0o P) (h : RepP H s σ ro z) (env name : ByteArray) (hn : name.size ≤ 1000000) (hss : KSrt (σ.staged env)) :
  Acts P F.id [.ptr s 1 0 0,.str env,.str name] H s ro (.int .i64 (removeR env name σ).1) (removeR env name σ).2:=by
 unfold removeR
 cases h1 : nameB env with
 | false =>
  refine ⟨.int .i64 4,H,?_,rfl,_,_,h,Post.refl _ _⟩
  refine acalls_of_body F.has ?_
  (conv=>whnf);refine ACalls.use (schema_IsName_spec F.z0g env _) ?_
  (conv=>whnf);refine recT (by rw [h1];rfl) ?_
  conv=>whnf
  exact ⟨rfl,rfl⟩
 | true =>
 cases h2 : qualB name with
 | false =>
  refine ⟨.int .i64 4,H,?_,rfl,_,_,h,Post.refl _ _⟩
  refine acalls_of_body F.has ?_
  (conv=>whnf);refine ACalls.use (schema_IsName_spec F.z0g env _) ?_
  (conv=>whnf);refine recF (by rw [h1];rfl) ?_
  (conv=>whnf);refine ACalls.use (schema_IsQualified_spec F.z0h name hn _) ?_
  (conv=>whnf);refine recT (by rw [h2];rfl) ?_
  conv=>whnf
  exact ⟨rfl,rfl⟩
 | true =>
  rw [if_pos (by rfl)]
  obtain ⟨_,H1,hc,rfl,ro',z',hr,hp2⟩:=stage_spec F.z0y h env name ⟨true,[]⟩ hss
  refine ⟨.int .i64 0,H1,?_,rfl,_,_,hr,hp2⟩
  refine acalls_of_body F.has ?_
  (conv=>whnf);refine ACalls.use (schema_IsName_spec F.z0g env _) ?_
  (conv=>whnf);refine recF (by rw [h1];rfl) ?_
  (conv=>whnf);refine ACalls.use (schema_IsQualified_spec F.z0h name hn _) ?_
  (conv=>whnf);refine recF (by rw [h2];rfl) ?_
  (conv=>whnf);refine ACalls.mono (hc) ?_
  rintro r H2 ⟨rfl,rfl⟩
  conv=>whnf
  exact ⟨rfl,rfl⟩
end
section
variable {α : Type} {R : ByteArray → AVal → α → Prop}
theorem kLk_perm {c d : List (ByteArray × α)} (hd : KSrt d) (hp : c.Perm d) (hn : (c.map (·.1)).Nodup) (k : ByteArray) : kLk k c = kLk k d:=by
 cases h : kLk k d with
 | none =>
  exact kLk_none.2 fun p hpc=>kLk_none.1 h p (hp.mem_iff.1 hpc)
 | some a =>
  have hm:=hp.mem_iff.2 ((kLk_some hd).1 h)
  clear h hp hd
  induction c with
  | nil=>cases hm
  | cons p c ih =>
   rw [List.map_cons,List.nodup_cons] at hn
   unfold kLk
   rw [List.find?_cons]
   rcases List.mem_cons.1 hm with rfl | h2
   ·rw [kEq_refl];rfl
   ·rw [kEq_false (fun e=>hn.1 (List.mem_map.2 ⟨_,h2,e⟩))]
    exact ih hn.2 h2
theorem KSrt.ext {c d : List (ByteArray × α)} (hc : KSrt c) (hd : KSrt d) (h : ∀ k,kLk k c = kLk k d) : c = d:=by
 refine hc.eq hd ((List.perm_ext_iff_of_nodup ?_ ?_).2 fun p=>?_)
 ·exact (List.pairwise_map.1 hc.keys).imp fun h e=>h (by rw [e])
 ·exact (List.pairwise_map.1 hd.keys).imp fun h e=>h (by rw [e])
 ·obtain ⟨k,a⟩:=p
  rw [← kLk_some hc,← kLk_some hd,h]
theorem kLk_cons (k : ByteArray) (p : ByteArray × α) (c : List (ByteArray × α)) : kLk k (p :: c) = if kEq k p.1 then some p.2 else kLk k c:=by
 unfold kLk
 rw [List.find?_cons]
 cases kEq k p.1 <;> rfl
theorem PM.perm {kvs kvs0 : List (AVal × AVal)} {c : List (ByteArray × α)} (h : PM R kvs c) (hp : kvs0.Perm kvs) : ∃ l : List (ByteArray × AVal × α),kvs0 = l.map (fun p=>(AVal.str p.1,p.2.1)) ∧ (l.map fun p=>(p.1,p.2.2)).Perm c ∧ ∀ p ∈ l,R p.1 p.2.1 p.2.2:=by
 obtain ⟨l,rfl,h1,h2⟩:=h
 obtain ⟨l0,h3,h4⟩:=perm_lift _ hp
 exact ⟨l0,h4.symm,(h3.map _).trans h1,fun p hp=>h2 p (h3.mem_iff.1 hp)⟩
theorem PM.permL {kvs kvs0 : List (AVal × AVal)} {c : List (ByteArray × α)} (h : PM R kvs c) (hp : kvs0.Perm kvs) : PM R kvs0 c:=h.perm hp
def canK (f : ByteArray → α → AVal) (c : List (ByteArray × α)) : List (AVal × AVal):=c.map fun p=>(.str p.1,f p.1 p.2)
theorem PM.can {f : ByteArray → α → AVal} (c : List (ByteArray × α)) : PM (fun k x a=>x = f k a) (canK f c) c:=by
 refine ⟨c.map fun p=>(p.1,f p.1 p.2,p.2),?_,?_,fun p hp=>?_⟩
 ·rw [List.map_map];rfl
 ·rw [List.map_map];exact List.Perm.of_eq (List.map_id c)
 ·obtain ⟨q,hq,rfl⟩:=List.mem_map.1 hp
  rfl
theorem PM.toCan {f : ByteArray → α → AVal} {kvs : List (AVal × AVal)} {c : List (ByteArray × α)} (h : PM (fun k x a=>x = f k a) kvs c) : kvs.Perm (canK f c):=by
 obtain ⟨l,rfl,h1,h2⟩:=h
 refine List.Perm.trans (List.Perm.of_eq ?_) (h1.map fun p=>(AVal.str p.1,f p.1 p.2))
 rw [List.map_map]
 exact List.map_congr_left fun p hp=>by
  show (AVal.str p.1,p.2.1) = (AVal.str p.1,f p.1 p.2.2)
  rw [← h2 p hp]
end
def applyC (d : List (ByteArray × List Int)) (p : ByteArray × Chg) : List (ByteArray × List Int):=bif p.2.rm then kDel p.1 d else kIns p.1 p.2.data d
def afterL (d : List (ByteArray × List Int)) (c : List (ByteArray × Chg)) : List (ByteArray × List Int):=c.foldl applyC d
theorem applyC_srt {d : List (ByteArray × List Int)} (h : KSrt d) (p : ByteArray × Chg) : KSrt (applyC d p):=by
 unfold applyC
 cases p.2.rm
 ·exact h.ins _ _
 ·exact h.del _
theorem afterL_srt : ∀ (c : List (ByteArray × Chg)) {d : List (ByteArray × List Int)},KSrt d → KSrt (afterL d c)
 | [],_,h=>h
 | p :: c,_,h=>afterL_srt c (applyC_srt h p)
theorem afterL_lk : ∀ (c : List (ByteArray × Chg)) {d : List (ByteArray × List Int)},KSrt d → (c.map (·.1)).Nodup → ∀ k,kLk k (afterL d c) = match kLk k c with | some ch=>(bif ch.rm then none else some ch.data) | none=>kLk k d
 | [],_,_,_,_=>rfl
 | p :: c,d,h,hn,k=>by
  rw [List.map_cons,List.nodup_cons] at hn
  show kLk k (afterL (applyC d p) c) = _
  rw [afterL_lk c (applyC_srt h p) hn.2,kLk_cons]
  by_cases e : k = p.1
  ·subst e
   rw [kEq_refl,if_pos rfl,kLk_none.2 fun q hq e2=>hn.1 (List.mem_map.2 ⟨q,hq,e2⟩)]
   unfold applyC
   cases hr : p.2.rm
   ·simp only [cond_false]
    rw [kIns_lk h,kEq_refl,if_pos rfl,hr];rfl
   ·simp only [cond_true]
    rw [kDel_lk h,kEq_refl,if_pos rfl,hr];rfl
  ·rw [kEq_false e,if_neg Bool.false_ne_true]
   have : kLk k (applyC d p) = kLk k d:=by
    unfold applyC
    cases p.2.rm
    ·simp only [cond_false];rw [kIns_lk h,kEq_false e,if_neg Bool.false_ne_true]
    ·simp only [cond_true];rw [kDel_lk h,kEq_false e,if_neg Bool.false_ne_true]
   rw [this]
theorem afterL_perm {c c0 : List (ByteArray × Chg)} {d : List (ByteArray × List Int)} (hd : KSrt d) (hc : KSrt c) (hp : c0.Perm c) : afterL d c0 = afterL d c:=by
 have hn : (c0.map (·.1)).Nodup:=(hp.map _).nodup_iff.2 hc.keys
 refine (afterL_srt c0 hd).ext (afterL_srt c hd) fun k=>?_
 rw [afterL_lk c0 hd hn,afterL_lk c hd hc.keys,kLk_perm hc hp hn]
theorem afterL_snoc (d : List (ByteArray × List Int)) (c : List (ByteArray × Chg)) (p : ByteArray × Chg) : afterL d (c ++ [p]) = applyC (afterL d c) p:=by
 unfold afterL
 rw [List.foldl_append];rfl
def MClone (P : Program) (f : FuncId) : Prop:=∀ (H : List AObj) (id : Nat) (kvs : List (AVal × AVal)) (d : List (ByteArray × List Int)),H[id]? = some (.map kvs) → PM RD kvs d →
 ACalls P f [.mp id] H (fun r H'=>r = .mp H.length ∧ H' = H ++ [.map kvs])
def afterV (n : Nat) (d : List (ByteArray × List Int)) : AVal:=if d.length ≤ 256 then .tuple [.mp n,.int .i64 0] else .tuple [.nilm,.int .i64 2]
theorem setB {K G : List AObj} {a b b' : AObj} : (K ++ a :: b :: G).set (K.length + 1) b' = K ++ a :: b' :: G:=by
 rw [List.set_append_right _ _ (by omega)]
 simp
theorem setA {K G : List AObj} {a a' : AObj} : (K ++ a :: G).set K.length a' = K ++ a' :: G:=by
 rw [List.set_append_right _ _ (by omega)]
 simp
theorem getA {K G : List AObj} {a : AObj} : (K ++ a :: G)[K.length]? = some a:=by simp
theorem getB {K G : List AObj} {a b : AObj} : (K ++ a :: b :: G)[K.length + 1]? = some b:=by
 rw [List.getElem?_append_right (by omega)];simp
set_option maxRecDepth 20000 in
theorem clone_nil {P : Program} (F : F_z0d P) (H : List AObj) : ACalls P F.id [.nilm] H (fun r H'=>r = .nilm ∧ H' = H):=by
 refine ACalls.pure rfl (acalls_of_body F.has ?_)
 conv=>whnf
 exact .closed _ rfl
theorem setA2 {K R : List AObj} {a a' o : AObj} : ((K ++ a :: R) ++ [o]).set K.length a' = K ++ a' :: (R ++ [o]):=by
 rw [List.append_assoc,List.set_append_right _ _ (by omega)];simp
theorem heap0 {H : List AObj} {i : Nat} {a b c : AObj} (hi : i < H.length) : (H ++ [a]).set i b ++ [c] = H.set i b ++ a :: [c]:=by
 rw [List.set_append_left _ _ hi];simp
section
variable {H : List AObj} {s : Nat} {σ : Sto} {ro : Nat → Option Role} {z : SP}
set_option maxRecDepth 20000 in
theorem after_raw {P : Program} (F : F_z0t P) (hCl : MClone P F.z0d.id) (h : RepP H s σ ro z) (env : ByteArray) (hd : KSrt (σ.blobs env)) {idc : Nat} {kvs : List (AVal × AVal)} {c : List (ByteArray × Chg)}
  (hc : H[idc]? = some (.map kvs)) (pc : PM RC kvs c) (sc : KSrt c) :
  ACalls P F.id [.ptr s 1 0 0,.str env,.mp idc] H (fun r H'=>∃ kvs0 bs ck out G,H' = H.set idc (.bmap kvs0 bs ck) ++ .map out :: G ∧ kvs0.Perm kvs ∧ PM RD out (afterL (σ.blobs env) c) ∧ r = afterV H.length (afterL (σ.blobs env) c)):=by
 have hid:=(List.getElem?_eq_some_iff.1 hc).1
 have he:=h.eB env
 rcases h.pB.find h.sB env with ⟨e1,e2⟩ | ⟨y,d,e1,e2,⟨rfl,rfl⟩ | ⟨id,kv,rfl,hr,hb,hp⟩⟩
 ·rw [e2] at he
  have hout : PM RD [] (σ.blobs env):=by rw [he];exact PM.nil
  refine acalls_of_body F.has ?_
  (conv=>whnf);refine recO (h.hs) ?_
  (conv=>whnf);refine recO (h.hb) ?_
  (conv=>whnf);refine recT (h.pB.ok env) ?_
  (conv=>whnf);refine recN e1 ?_
  (conv=>whnf);refine ACalls.use (clone_nil F.z0d _) ?_
  (conv=>whnf);refine snocK_to ?_
  (conv=>whnf);refine recO (at_old hc) ?_
  conv=>whnf
  intro kvs0 bs ck hp0 hl hn hck
  refine setO_at rfl ?_
  refine snocK_to ?_
  rw [heap0 hid]
  have hl0 : (H.set idc (.bmap kvs0 bs ck)).length = H.length:=List.length_set ..
  have hbm : ∀ X,(H.set idc (.bmap kvs0 bs ck) ++ X)[idc]? = some (.bmap kvs0 bs ck):=fun X=>at_old (set_at hc)
  obtain ⟨l,rfl,hlp,hlr⟩:=pc.perm hp0
  generalize hK : H.set idc (.bmap (l.map fun p=>(AVal.str p.1,p.2.1)) bs ck) = K at hl0 hbm
  have hlen : bs.length = l.length:=by rw [hl,List.length_map]
  conv=>whnf
  refine ⟨fun m ρ H1=>∃ (pre : List (ByteArray × AVal × Chg)) (seen : List Nat) (out : List (AVal × AVal)) (G : List AObj),m + pre.length = l.length ∧ Rng l bs seen pre ∧ PM RD out (afterL (σ.blobs env) (pre.map fun p=>(p.1,p.2.2))) ∧ H1 = K ++ .map out :: .mit (some idc) ck seen :: G ∧
   Sv 40 [(8,.mp K.length),(22,.it (K.length + 1))] ρ,l.length,[],?_,?_⟩
  ·refine ⟨[],[],_,[],by simp,Rng.start,hout,rfl,Sv.intro rfl ⟨?_,?_,trivial⟩⟩
   ·show AVal.mp _ = _
    simp [hl0]
   ·show AVal.it _ = _
    simp [hl0]
  ·rintro m ρ H1 ⟨pre,seen,out,G,hm,hr1,hpm,rfl,d1,rfl⟩
   (conv=>whnf);refine recO (getB) ?_
   (conv=>whnf);refine recO (hbm _) ?_
   (conv=>whnf);refine recT (Nat.beq_refl _) ?_
   refine And.intro (fun i kv b hx hb1 hnb=>?_) (fun hov=>?_)
   ·have hx0:=hx
    rw [List.getElem?_map] at hx
    obtain ⟨p,hp,rfl⟩:=Option.map_eq_some_iff.1 hx
    have hlt:=hr1.lt hp hb1 hnb
    have hr2:=hr1.step hp hb1 hnb
    obtain ⟨k,v,⟨rm,data⟩⟩:=p
    have hv : v = chgC ⟨rm,data⟩:=hlr _ (List.mem_of_getElem? hp)
    subst hv
    (conv=>whnf)
    refine setO_at setB ?_
    (conv=>whnf);refine recO (getB) ?_
    (conv=>whnf);refine recO (hbm _) ?_
    (conv=>whnf);refine recT (Nat.beq_refl _) ?_
    (conv=>whnf)
    refine ⟨i,_,b,by simp,hb1,hx0,?_⟩
    (conv=>whnf)
    refine snocK_to ?_
    (conv=>whnf);refine recO (at_snoc _ _) ?_
    have hsa:=afterL_srt (pre.map fun p=>(p.1,p.2.2)) hd
    cases rm with
    | true =>
     (conv=>whnf)
     refine setO_at (set_snoc _ _ _) ?_
     (conv=>whnf);refine recO (at_snoc _ _) ?_
     (conv=>whnf);refine recO (at_old getA) ?_
     (conv=>whnf);refine recT (hpm.ok k) ?_
     (conv=>whnf)
     refine setO_at setA2 ?_
     (conv=>whnf)
     refine ⟨m - 1,by omega,Gp.keep rfl ?_ fun ρ1 h=>⟨pre ++ [(k,chgC ⟨true,data⟩,⟨true,data⟩)],seen ++ [b],_,_,by simp;omega,hr2,?_,rfl,h⟩⟩
     exact ⟨rfl,rfl,trivial⟩
     rw [List.map_append,List.map_cons,List.map_nil,afterL_snoc]
     exact hpm.del hsa k
    | false =>
     (conv=>whnf)
     refine setO_at (set_snoc _ _ _) ?_
     (conv=>whnf);refine recO (at_snoc _ _) ?_
     (conv=>whnf);refine recO (at_snoc _ _) ?_
     (conv=>whnf);refine recO (at_old getA) ?_
     (conv=>whnf);refine recT (hpm.ok k) ?_
     (conv=>whnf)
     refine setO_at setA2 ?_
     (conv=>whnf)
     refine ⟨m - 1,by omega,Gp.keep rfl ?_ fun ρ1 h=>⟨pre ++ [(k,chgC ⟨false,data⟩,⟨false,data⟩)],seen ++ [b],_,_,by simp;omega,hr2,?_,rfl,h⟩⟩
     exact ⟨rfl,rfl,trivial⟩
     rw [List.map_append,List.map_cons,List.map_nil,afterL_snoc]
     exact hpm.put hsa rfl
   ·(conv=>whnf)
    have hpl:=hr1.over hlen hn hov
    have hfin : afterL (σ.blobs env) (pre.map fun p=>(p.1,p.2.2)) = afterL (σ.blobs env) c:=afterL_perm hd sc ((hpl.map _).trans hlp)
    rw [hfin] at hpm
    (conv=>whnf);refine recO (getA) ?_
    have hkl:=hpm.len
    unfold afterV
    (conv=>whnf);refine recA (fun hbig=>?_) (fun hbig=>?_)
    ·simp at hbig
     conv=>whnf
     refine ⟨_,bs,ck,out,_,by rw [hK],hp0,hpm,?_⟩
     rw [if_neg (by omega)]
    ·simp at hbig
     conv=>whnf
     refine ⟨_,bs,ck,out,_,by rw [hK],hp0,hpm,?_⟩
     rw [if_pos (by omega),← hl0]
 ·rw [e2] at he
  have hout : PM RD [] (σ.blobs env):=by rw [he];exact PM.nil
  refine acalls_of_body F.has ?_
  (conv=>whnf);refine recO (h.hs) ?_
  (conv=>whnf);refine recO (h.hb) ?_
  (conv=>whnf);refine recT (h.pB.ok env) ?_
  (conv=>whnf);refine recO (e1) ?_
  (conv=>whnf);refine ACalls.use (clone_nil F.z0d _) ?_
  (conv=>whnf);refine snocK_to ?_
  (conv=>whnf);refine recO (at_old hc) ?_
  conv=>whnf
  intro kvs0 bs ck hp0 hl hn hck
  refine setO_at rfl ?_
  refine snocK_to ?_
  rw [heap0 hid]
  have hl0 : (H.set idc (.bmap kvs0 bs ck)).length = H.length:=List.length_set ..
  have hbm : ∀ X,(H.set idc (.bmap kvs0 bs ck) ++ X)[idc]? = some (.bmap kvs0 bs ck):=fun X=>at_old (set_at hc)
  obtain ⟨l,rfl,hlp,hlr⟩:=pc.perm hp0
  generalize hK : H.set idc (.bmap (l.map fun p=>(AVal.str p.1,p.2.1)) bs ck) = K at hl0 hbm
  have hlen : bs.length = l.length:=by rw [hl,List.length_map]
  conv=>whnf
  refine ⟨fun m ρ H1=>∃ (pre : List (ByteArray × AVal × Chg)) (seen : List Nat) (out : List (AVal × AVal)) (G : List AObj),m + pre.length = l.length ∧ Rng l bs seen pre ∧ PM RD out (afterL (σ.blobs env) (pre.map fun p=>(p.1,p.2.2))) ∧ H1 = K ++ .map out :: .mit (some idc) ck seen :: G ∧
   Sv 40 [(8,.mp K.length),(22,.it (K.length + 1))] ρ,l.length,[],?_,?_⟩
  ·refine ⟨[],[],_,[],by simp,Rng.start,hout,rfl,Sv.intro rfl ⟨?_,?_,trivial⟩⟩
   ·show AVal.mp _ = _
    simp [hl0]
   ·show AVal.it _ = _
    simp [hl0]
  ·rintro m ρ H1 ⟨pre,seen,out,G,hm,hr1,hpm,rfl,d1,rfl⟩
   (conv=>whnf);refine recO (getB) ?_
   (conv=>whnf);refine recO (hbm _) ?_
   (conv=>whnf);refine recT (Nat.beq_refl _) ?_
   refine And.intro (fun i kv b hx hb1 hnb=>?_) (fun hov=>?_)
   ·have hx0:=hx
    rw [List.getElem?_map] at hx
    obtain ⟨p,hp,rfl⟩:=Option.map_eq_some_iff.1 hx
    have hlt:=hr1.lt hp hb1 hnb
    have hr2:=hr1.step hp hb1 hnb
    obtain ⟨k,v,⟨rm,data⟩⟩:=p
    have hv : v = chgC ⟨rm,data⟩:=hlr _ (List.mem_of_getElem? hp)
    subst hv
    (conv=>whnf)
    refine setO_at setB ?_
    (conv=>whnf);refine recO (getB) ?_
    (conv=>whnf);refine recO (hbm _) ?_
    (conv=>whnf);refine recT (Nat.beq_refl _) ?_
    (conv=>whnf)
    refine ⟨i,_,b,by simp,hb1,hx0,?_⟩
    (conv=>whnf)
    refine snocK_to ?_
    (conv=>whnf);refine recO (at_snoc _ _) ?_
    have hsa:=afterL_srt (pre.map fun p=>(p.1,p.2.2)) hd
    cases rm with
    | true =>
     (conv=>whnf)
     refine setO_at (set_snoc _ _ _) ?_
     (conv=>whnf);refine recO (at_snoc _ _) ?_
     (conv=>whnf);refine recO (at_old getA) ?_
     (conv=>whnf);refine recT (hpm.ok k) ?_
     (conv=>whnf)
     refine setO_at setA2 ?_
     (conv=>whnf)
     refine ⟨m - 1,by omega,Gp.keep rfl ?_ fun ρ1 h=>⟨pre ++ [(k,chgC ⟨true,data⟩,⟨true,data⟩)],seen ++ [b],_,_,by simp;omega,hr2,?_,rfl,h⟩⟩
     exact ⟨rfl,rfl,trivial⟩
     rw [List.map_append,List.map_cons,List.map_nil,afterL_snoc]
     exact hpm.del hsa k
    | false =>
     (conv=>whnf)
     refine setO_at (set_snoc _ _ _) ?_
     (conv=>whnf);refine recO (at_snoc _ _) ?_
     (conv=>whnf);refine recO (at_snoc _ _) ?_
     (conv=>whnf);refine recO (at_old getA) ?_
     (conv=>whnf);refine recT (hpm.ok k) ?_
     (conv=>whnf)
     refine setO_at setA2 ?_
     (conv=>whnf)
     refine ⟨m - 1,by omega,Gp.keep rfl ?_ fun ρ1 h=>⟨pre ++ [(k,chgC ⟨false,data⟩,⟨false,data⟩)],seen ++ [b],_,_,by simp;omega,hr2,?_,rfl,h⟩⟩
     exact ⟨rfl,rfl,trivial⟩
     rw [List.map_append,List.map_cons,List.map_nil,afterL_snoc]
     exact hpm.put hsa rfl
   ·(conv=>whnf)
    have hpl:=hr1.over hlen hn hov
    have hfin : afterL (σ.blobs env) (pre.map fun p=>(p.1,p.2.2)) = afterL (σ.blobs env) c:=afterL_perm hd sc ((hpl.map _).trans hlp)
    rw [hfin] at hpm
    (conv=>whnf);refine recO (getA) ?_
    have hkl:=hpm.len
    unfold afterV
    (conv=>whnf);refine recA (fun hbig=>?_) (fun hbig=>?_)
    ·simp at hbig
     conv=>whnf
     refine ⟨_,bs,ck,out,_,by rw [hK],hp0,hpm,?_⟩
     rw [if_neg (by omega)]
    ·simp at hbig
     conv=>whnf
     refine ⟨_,bs,ck,out,_,by rw [hK],hp0,hpm,?_⟩
     rw [if_pos (by omega),← hl0]
 ·rw [e2] at he
  have hout : PM RD kv (σ.blobs env):=by rw [he];exact hp
  refine acalls_of_body F.has ?_
  (conv=>whnf);refine recO (h.hs) ?_
  (conv=>whnf);refine recO (h.hb) ?_
  (conv=>whnf);refine recT (h.pB.ok env) ?_
  (conv=>whnf);refine recO (e1) ?_
  (conv=>whnf);refine ACalls.mono (hCl H id kv d hb hp) ?_
  rintro r Hx ⟨rfl,rfl⟩
  (conv=>whnf);refine recO (at_old hc) ?_
  conv=>whnf
  intro kvs0 bs ck hp0 hl hn hck
  refine setO_at rfl ?_
  refine snocK_to ?_
  rw [heap0 hid]
  have hl0 : (H.set idc (.bmap kvs0 bs ck)).length = H.length:=List.length_set ..
  have hbm : ∀ X,(H.set idc (.bmap kvs0 bs ck) ++ X)[idc]? = some (.bmap kvs0 bs ck):=fun X=>at_old (set_at hc)
  obtain ⟨l,rfl,hlp,hlr⟩:=pc.perm hp0
  generalize hK : H.set idc (.bmap (l.map fun p=>(AVal.str p.1,p.2.1)) bs ck) = K at hl0 hbm
  have hlen : bs.length = l.length:=by rw [hl,List.length_map]
  conv=>whnf
  refine ⟨fun m ρ H1=>∃ (pre : List (ByteArray × AVal × Chg)) (seen : List Nat) (out : List (AVal × AVal)) (G : List AObj),m + pre.length = l.length ∧ Rng l bs seen pre ∧ PM RD out (afterL (σ.blobs env) (pre.map fun p=>(p.1,p.2.2))) ∧ H1 = K ++ .map out :: .mit (some idc) ck seen :: G ∧
   Sv 40 [(8,.mp K.length),(22,.it (K.length + 1))] ρ,l.length,[],?_,?_⟩
  ·refine ⟨[],[],_,[],by simp,Rng.start,hout,rfl,Sv.intro rfl ⟨?_,?_,trivial⟩⟩
   ·show AVal.mp _ = _
    simp [hl0]
   ·show AVal.it _ = _
    simp [hl0]
  ·rintro m ρ H1 ⟨pre,seen,out,G,hm,hr1,hpm,rfl,d1,rfl⟩
   (conv=>whnf);refine recO (getB) ?_
   (conv=>whnf);refine recO (hbm _) ?_
   (conv=>whnf);refine recT (Nat.beq_refl _) ?_
   refine And.intro (fun i kv b hx hb1 hnb=>?_) (fun hov=>?_)
   ·have hx0:=hx
    rw [List.getElem?_map] at hx
    obtain ⟨p,hp,rfl⟩:=Option.map_eq_some_iff.1 hx
    have hlt:=hr1.lt hp hb1 hnb
    have hr2:=hr1.step hp hb1 hnb
    obtain ⟨k,v,⟨rm,data⟩⟩:=p
    have hv : v = chgC ⟨rm,data⟩:=hlr _ (List.mem_of_getElem? hp)
    subst hv
    (conv=>whnf)
    refine setO_at setB ?_
    (conv=>whnf);refine recO (getB) ?_
    (conv=>whnf);refine recO (hbm _) ?_
    (conv=>whnf);refine recT (Nat.beq_refl _) ?_
    (conv=>whnf)
    refine ⟨i,_,b,by simp,hb1,hx0,?_⟩
    (conv=>whnf)
    refine snocK_to ?_
    (conv=>whnf);refine recO (at_snoc _ _) ?_
    have hsa:=afterL_srt (pre.map fun p=>(p.1,p.2.2)) hd
    cases rm with
    | true =>
     (conv=>whnf)
     refine setO_at (set_snoc _ _ _) ?_
     (conv=>whnf);refine recO (at_snoc _ _) ?_
     (conv=>whnf);refine recO (at_old getA) ?_
     (conv=>whnf);refine recT (hpm.ok k) ?_
     (conv=>whnf)
     refine setO_at setA2 ?_
     (conv=>whnf)
     refine ⟨m - 1,by omega,Gp.keep rfl ?_ fun ρ1 h=>⟨pre ++ [(k,chgC ⟨true,data⟩,⟨true,data⟩)],seen ++ [b],_,_,by simp;omega,hr2,?_,rfl,h⟩⟩
     exact ⟨rfl,rfl,trivial⟩
     rw [List.map_append,List.map_cons,List.map_nil,afterL_snoc]
     exact hpm.del hsa k
    | false =>
     (conv=>whnf)
     refine setO_at (set_snoc _ _ _) ?_
     (conv=>whnf);refine recO (at_snoc _ _) ?_
     (conv=>whnf);refine recO (at_snoc _ _) ?_
     (conv=>whnf);refine recO (at_old getA) ?_
     (conv=>whnf);refine recT (hpm.ok k) ?_
     (conv=>whnf)
     refine setO_at setA2 ?_
     (conv=>whnf)
     refine ⟨m - 1,by omega,Gp.keep rfl ?_ fun ρ1 h=>⟨pre ++ [(k,chgC ⟨false,data⟩,⟨false,data⟩)],seen ++ [b],_,_,by simp;omega,hr2,?_,rfl,h⟩⟩
     exact ⟨rfl,rfl,trivial⟩
     rw [List.map_append,List.map_cons,List.map_nil,afterL_snoc]
     exact hpm.put hsa rfl
   ·(conv=>whnf)
    have hpl:=hr1.over hlen hn hov
    have hfin : afterL (σ.blobs env) (pre.map fun p=>(p.1,p.2.2)) = afterL (σ.blobs env) c:=afterL_perm hd sc ((hpl.map _).trans hlp)
    rw [hfin] at hpm
    (conv=>whnf);refine recO (getA) ?_
    have hkl:=hpm.len
    unfold afterV
    (conv=>whnf);refine recA (fun hbig=>?_) (fun hbig=>?_)
    ·simp at hbig
     conv=>whnf
     refine ⟨_,bs,ck,out,_,by rw [hK],hp0,hpm,?_⟩
     rw [if_neg (by omega)]
    ·simp at hbig
     conv=>whnf
     refine ⟨_,bs,ck,out,_,by rw [hK],hp0,hpm,?_⟩
     rw [if_pos (by omega),← hl0]
theorem bel_can {α : Type} {f : ByteArray → α → AVal} (hf : ∀ k a,(f k a).closed = true) (n : Nat) (c : List (ByteArray × α)) : (AObj.map (canK f c)).Bel n:=fun kv hkv=>by
 obtain ⟨p,_,rfl⟩:=List.mem_map.1 hkv
 exact .closed _ (hf _ _)
def rdF (_ : ByteArray) (d : List Int) : AVal:=.list false 1 (bC d)
theorem after_spec {P : Program} (F : F_z0t P) (hCl : MClone P F.z0d.id) (h : RepP H s σ ro z) (env : ByteArray) (hd : KSrt (σ.blobs env)) {idc : Nat} {kvs : List (AVal × AVal)} {c : List (ByteArray × Chg)}
  (hc : H[idc]? = some (.map kvs)) (pc : PM RC kvs c) (sc : KSrt c) :
  ACalls P F.id [.ptr s 1 0 0,.str env,.mp idc] H (fun r H'=>r = afterV H.length (afterL (σ.blobs env) c) ∧ H' = H ++ [.map (canK rdF (afterL (σ.blobs env) c))]):=by
 have hid:=(List.getElem?_eq_some_iff.1 hc).1
 refine ACalls.cut (ACalls.fg (after_raw F hCl h env hd hc pc sc) ?_)
 rintro r H1 ⟨kvs0,bs,ck,out,G,rfl,hp0,hpm,rfl⟩
 refine ⟨H ++ .map (canK rdF (afterL (σ.blobs env) c)) :: G,⟨by simp,fun i o o2 h1 h2=>?_⟩,H ++ [.map (canK rdF (afterL (σ.blobs env) c))],G,by simp,⟨rfl,rfl⟩,by simp,?_,fun i o ho=>?_⟩
 ·by_cases hi : i < H.length
  ·rw [List.getElem?_append_left (by rw [List.length_set];exact hi)] at h1
   rw [List.getElem?_append_left hi] at h2
   by_cases e : i = idc
   ·subst e
    rw [set_at hc] at h1;rw [hc] at h2
    cases h1;cases h2
    exact .mp _ _ _ _ hp0
   ·rw [get_ne' (Ne.symm e)] at h1
    rw [h1] at h2;cases h2;exact .refl _
  ·rw [List.getElem?_append_right (by rw [List.length_set];omega),List.length_set] at h1
   rw [List.getElem?_append_right (by omega)] at h2
   cases hj : i - H.length with
   | zero=>rw [hj] at h1 h2;cases h1;cases h2;exact .pm _ _ hpm.toCan
   | succ j=>rw [hj,List.getElem?_cons_succ] at h1 h2;rw [h1] at h2;cases h2;exact .refl _
 ·unfold afterV
  split
  ·exact .tuple _ fun v hv=>by
    simp at hv
    rcases hv with rfl | rfl
    ·exact .mp _ (by simp)
    ·exact .closed _ rfl
  ·exact .tuple _ fun v hv=>by
    simp at hv
    rcases hv with rfl | rfl <;> exact .closed _ rfl
 ·by_cases hi : i < H.length
  ·rw [List.getElem?_append_left hi] at ho;exact .inl ho
  ·rw [List.getElem?_append_right (by omega)] at ho
   cases hj : i - H.length with
   | zero=>rw [hj] at ho;cases ho;exact .inr (bel_can (fun _ _=>rfl) _ _)
   | succ j=>rw [hj] at ho;simp at ho
end
theorem midxN {n : Nat} {k : AVal} : ∀ {kvs : List (AVal × AVal)},mfind n k kvs = none → midx n k kvs = none ∧ ∀ y,mput n k y kvs = kvs ++ [(k,y)]
 | [],_=>⟨rfl,fun _=>rfl⟩
 | kv :: r,h=>by
  rw [mfind] at h
  have go : ∀ {o : Option Bool},o ≠ some true → eqCell n k kv.1 = o → mfind n k r = none → midx n k (kv :: r) = none ∧ ∀ y,mput n k y (kv :: r) = (kv :: r) ++ [(k,y)]:=by
   intro o ho he hr
   obtain ⟨h1,h2⟩:=midxN hr
   refine ⟨?_,fun y=>?_⟩
   ·rw [midx,he]
    split
    ·exact absurd rfl ho
    ·rw [h1];rfl
   ·rw [mput,he]
    split
    ·exact absurd rfl ho
    ·rw [h2];rfl
  split at h
  ·cases h
  ·rename_i hne
   exact go hne rfl h
theorem midxS {n : Nat} {k : AVal} : ∀ {kvs : List (AVal × AVal)} {x : AVal},mfind n k kvs = some x → ∃ i kv,midx n k kvs = some i ∧ kvs[i]? = some kv ∧ kv.2 = x ∧ ∀ y,mput n k y kvs = kvs.set i (kv.1,y)
 | [],_,h=>by cases h
 | kv :: r,x,h=>by
  rw [mfind] at h
  split at h
  ·rename_i he
   cases h
   refine ⟨0,kv,by rw [midx,he],rfl,rfl,fun y=>by rw [mput,he];rfl⟩
  ·rename_i hne
   obtain ⟨i,kv',h1,h2,h3,h4⟩:=midxS h
   refine ⟨i + 1,kv',?_,h2,h3,fun y=>?_⟩
   ·rw [midx]
    split
    ·rename_i h;exact absurd h hne
    ·rw [h1];rfl
   ·rw [mput]
    split
    ·rename_i h;exact absurd h hne
    ·rw [h4];rfl
theorem putT_find {α : Type} {k j : ByteArray} (hne : j ≠ k) (x : AVal) (a : α) : ∀ l : List (ByteArray × AVal × α),((putT k x a l).find? fun p=>kEq j p.1).map (·.2.1) = (l.find? fun p=>kEq j p.1).map (·.2.1)
 | []=>by simp [putT,kEq_false hne]
 | p :: l=>by
  rw [putT]
  cases h : kEq k p.1 with
  | true =>
   have e:=kEq_iff.1 h
   rw [if_pos rfl,List.find?_cons,List.find?_cons,← e,kEq_false hne]
  | false =>
   rw [if_neg Bool.false_ne_true,List.find?_cons,List.find?_cons]
   cases kEq j p.1 with
   | true=>rfl
   | false=>exact putT_find hne x a l
theorem PM.find_put {α : Type} {R : ByteArray → AVal → α → Prop} {kvs : List (AVal × AVal)} {c : List (ByteArray × α)} (h : PM R kvs c) {k j : ByteArray} (hne : j ≠ k) (x : AVal) : mfind 2 (.str j) (mput 2 (.str k) x kvs) = mfind 2 (.str j) kvs:=by
 obtain ⟨l,rfl,hp,hr⟩:=h
 cases l with
 | nil =>
  have : eqCell 2 (.str j) (.str k) = some false:=by rw [← kEq_false hne];rfl
  simp only [List.map_nil,mput,mfind,this]
 | cons p l =>
  rw [mput_map k x p.2.2,mfind_map,mfind_map,putT_find hne]
theorem PM.lits {α : Type} {R : ByteArray → AVal → α → Prop} {kvs : List (AVal × AVal)} {c : List (ByteArray × α)} (h : PM R kvs c) (hs : KSrt c) : (kvs.map fun kv=>kv.1.lit).Nodup:=by
 obtain ⟨l,rfl,hp,hr⟩:=h
 have:=PM.keysL hp hs
 rw [List.map_map]
 rw [show (fun kv : AVal × AVal=>kv.1.lit) ∘ (fun p : ByteArray × AVal × α=>(AVal.str p.1,p.2.1)) = (fun b : ByteArray=>Value.string b) ∘ (fun p : ByteArray × AVal × α=>p.1) from rfl,← List.map_map]
 exact List.pairwise_map.2 (this.imp fun h e=>h (by cases e;rfl))
theorem PM.cells {α : Type} {R : ByteArray → AVal → α → Prop} {kvs : List (AVal × AVal)} {c : List (ByteArray × α)} (h : PM R kvs c) (k : ByteArray) : (kvs.all fun kv=>(eqCell 2 (.str k) kv.1).isSome) = true:=by
 have:=h.ok k
 unfold keyOk at this
 rw [Bool.and_eq_true] at this
 exact this.2
structure Vw (X : List AObj) (s : Nat) (z : SP) (lg : AVal) (T V : List (AVal × AVal)) : Prop where
 hs : X[s]? = some (.arr 4 [[.mp z.b,.mp z.t,.mp z.v,lg]])
 ht : X[z.t]? = some (.map T)
 hv : X[z.v]? = some (.map V)
 n1 : z.v ≠ s
 n2 : z.v ≠ z.t
 n3 : z.t ≠ s
theorem Vw.setV {X : List AObj} {s : Nat} {z : SP} {lg : AVal} {T V : List (AVal × AVal)} (h : Vw X s z lg T V) (V' : List (AVal × AVal)) : Vw (X.set z.v (.map V')) s z lg T V' :=
 ⟨at_ne h.hs h.n1,at_ne h.ht h.n2,set_at h.hv,h.n1,h.n2,h.n3⟩
theorem Vw.setT {X : List AObj} {s : Nat} {z : SP} {lg : AVal} {T V : List (AVal × AVal)} (h : Vw X s z lg T V) (T' : List (AVal × AVal)) : Vw (X.set z.t (.map T')) s z lg T' V :=
 ⟨at_ne h.hs h.n3,set_at h.ht,at_ne h.hv (Ne.symm h.n2),h.n1,h.n2,h.n3⟩
set_option maxRecDepth 20000 in
theorem discard_raw {P : Program} (F : F_z0k P) {H : List AObj} {s : Nat} {z : SP} {lg : AVal} {T V : List (AVal × AVal)} (h : Vw H s z lg T V) (env : ByteArray) (hok : keyOk 2 (.str env) T = true) :
  ACalls P F.id [.ptr s 1 0 0,.str env] H (fun r H'=>r = .tuple [] ∧ H' = H.set z.t (.map (mdel 2 (.str env) T))):=by
 refine acalls_of_body F.has ?_
 (conv=>whnf);refine recO (h.hs) ?_
 (conv=>whnf);refine recO (h.ht) ?_
 (conv=>whnf);refine recT (hok) ?_
 (conv=>whnf)
 refine setO_at rfl ?_
 conv=>whnf
 exact ⟨rfl,rfl⟩
def bumpH (H : List AObj) (z : SP) (e : ByteArray) (n : Int) : List AObj:=(H.set z.v (.map (mput 2 (.str e) (.int .i64 n) z.V))).set z.t (.map (mdel 2 (.str e) z.T))
def bmpK (X : List AObj) (z : SP) (σ : Sto) (a b : ByteArray) : Nat → List AObj
 | 0=>X
 | 1=>bumpH X z a (σ.vers a + 1)
 | _=>bumpH (bumpH X z a (σ.vers a + 1)) ((z.ver a (σ.vers a + 1)).del a) b (σ.vers b + 1)
def xOf (z : SP) (k : ByteArray) : AVal:=(mfind 2 (.str k) z.B).getD .nilm
section
variable {H : List AObj} {s : Nat} {σ : Sto} {ro : Nat → Option Role} {z : SP}
theorem RepP.xOf (h : RepP H s σ ro z) (k : ByteArray) : RB H ro k (xOf z k) (σ.blobs k):=by
 unfold AW.xOf
 rw [h.eB k]
 rcases h.pB.find h.sB k with ⟨e1,e2⟩ | ⟨y,d,e1,e2,hR⟩
 ·rw [e1,e2];exact .inl ⟨rfl,rfl⟩
 ·rw [e1,e2];exact hR
theorem RepP.xOf' (h : RepP H s σ ro z) {a : ByteArray} (k : ByteArray) : RB H ro a (AW.xOf z k) (σ.blobs k):=h.xOf k
def swpS (σ : Sto) (a b : ByteArray) : Sto :=
 mvS (vvS (mvS (vvS (vbS (vbS σ a (σ.blobs b)) b (σ.blobs a)) a (σ.vers a + 1)) a) b (σ.vers b + 1)) b
def swpZ (z : SP) (σ : Sto) (a b : ByteArray) : SP :=
 (((((z.blb a (AW.xOf z b) (σ.blobs b)).blb b (AW.xOf z a) (σ.blobs a)).ver a (σ.vers a + 1)).del a).ver b (σ.vers b + 1)).del b
def swp0 (H : List AObj) (z : SP) (a b : ByteArray) : List AObj:=H.set z.b (.map (mput 2 (.str b) (AW.xOf z a) (mput 2 (.str a) (AW.xOf z b) z.B)))
def swpH (H : List AObj) (z : SP) (σ : Sto) (a b : ByteArray) : List AObj :=
 bumpH (bumpH (swp0 H z a b) z a (σ.vers a + 1)) ((z.ver a (σ.vers a + 1)).del a) b (σ.vers b + 1)
theorem RepP.swp (h : RepP H s σ ro z) {a b : ByteArray} (hne : a ≠ b) : RepP (swpH H z σ a b) s (swpS σ a b) ro (swpZ z σ a b) ∧ Post H (swpH H z σ a b) ro ro:=by
 have h1:=h.blb (env:=a) (h.xOf' b)
 have hx : RB (H.set z.b (.map (mput 2 (.str a) (AW.xOf z b) z.B))) ro b (AW.xOf z a) (σ.blobs a):=(h.xOf a).mono fun i hi=>⟨hi,get_ne' (ro_ne h.rb hi (by simp))⟩
 have h2:=h1.blb hx
 have e : (H.set z.b (.map (mput 2 (.str a) (AW.xOf z b) z.B))).set (z.blb a (AW.xOf z b) (σ.blobs b)).b (.map (mput 2 (.str b) (AW.xOf z a) (z.blb a (AW.xOf z b) (σ.blobs b)).B)) = swp0 H z a b:=List.set_set ..
 rw [e] at h2
 refine ⟨(((h2.ver a (σ.vers a + 1)).del a).ver b (σ.vers b + 1)).del b,?_⟩
 exact (((((Post.refl H ro).set _ (.inl h.nb)).set _ (.inl h.nv)).set _ (.inl h.nt)).set _ (.inl h.nv)).set _ (.inl h.nt)
set_option maxRecDepth 20000 in
theorem swap_raw {P : Program} (F : F_z0z P) (h : RepP H s σ ro z) {a b : ByteArray} (hne : a ≠ b) (hv : ∀ e,-4000000 ≤ σ.vers e ∧ σ.vers e ≤ 4000000) :
  ACalls P F.id [.ptr s 1 0 0,.str a,.str b] H (fun r H'=>r = .tuple [] ∧ ∃ kvs bs ck,kvs.Perm (mput 2 (.str b) (AW.xOf z a) (mput 2 (.str a) (AW.xOf z b) z.B)) ∧ H' = bumpH (bumpH (H.set z.b (.bmap kvs bs ck)) z a (σ.vers a + 1)) ((z.ver a (σ.vers a + 1)).del a) b (σ.vers b + 1)):=by
 refine acalls_of_body F.has ?_
 conv=>whnf
 refine .rev z.b z.B h.hb fun kvs0 bs ck hp0 hl hn hck=>?_
 have pc0:=h.pB.permL hp0
 have hln:=pc0.lits h.sB
 have hxa : AW.xOf z a = (mfind 2 (.str a) kvs0).getD .nilm:=by unfold AW.xOf;rw [mfind_perm hp0 hln]
 have hxb : AW.xOf z b = (mfind 2 (.str b) kvs0).getD .nilm:=by unfold AW.xOf;rw [mfind_perm hp0 hln]
 have hp1 : (mput 2 (.str b) (AW.xOf z a) (mput 2 (.str a) (AW.xOf z b) kvs0)).Perm (mput 2 (.str b) (AW.xOf z a) (mput 2 (.str a) (AW.xOf z b) z.B)) :=
  mput_perm (mput_perm hp0 hln (pc0.cells a)) ((pc0.put h.sB (h.xOf' (a:=a) b)).lits (h.sB.ins a (σ.blobs b))) ((pc0.put h.sB (h.xOf' (a:=a) b)).cells b)
 have hp2 : ∀ xa xb,AW.xOf z a = xa → AW.xOf z b = xb → (mput 2 (.str b) xa (mput 2 (.str a) xb kvs0)).Perm (mput 2 (.str b) (AW.xOf z a) (mput 2 (.str a) (AW.xOf z b) z.B)):=by rintro _ _ rfl rfl;exact hp1
 have fb : ∀ x,mfind 2 (.str b) (mput 2 (.str a) x kvs0) = mfind 2 (.str b) kvs0:=fun x=>pc0.find_put (Ne.symm hne) x
 have hKs : ∀ o,(H.set z.b o)[s]? = some (.arr 4 [[.mp z.b,.mp z.t,.mp z.v,.list false 1 (bC σ.log)]]):=fun o=>at_ne h.hs (ro_ne h.rb h.rs (by simp))
 have hKb : ∀ o,(H.set z.b o)[z.b]? = some o:=fun o=>set_at h.hb
 have hsn : ∀ (kvs : List (AVal × AVal)) (kv y : AVal × AVal),(kvs ++ [kv]).set kvs.length y = kvs ++ [y]:=fun kvs kv y=>by rw [List.set_append_right _ _ (Nat.le_refl _)];simp
 have hl1 : ∀ x,(bs ++ [ck]).length = (kvs0 ++ [(AVal.str a,x)]).length:=fun x=>by simp [hl]
 have okb' : mfind 2 (.str a) kvs0 = none → ∀ x,keyOk 2 (.str b) (kvs0 ++ [(AVal.str a,x)]) = true:=fun e x=>by rw [← (midxN e).2];exact keyOk_put pc0 a b x
 have fb' : mfind 2 (.str a) kvs0 = none → ∀ x {y},mfind 2 (.str b) kvs0 = y → mfind 2 (.str b) (kvs0 ++ [(AVal.str a,x)]) = y:=fun e x y hy=>by rw [← (midxN e).2,fb];exact hy
 have okb : ∀ x,keyOk 2 (.str b) (mput 2 (.str a) x kvs0) = true:=fun x=>keyOk_put pc0 a b x
 have lenS : ∀ (l : List (AVal × AVal)) (i : Nat) (kv : AVal × AVal) (t : List Nat),t.length = l.length → l[i]? = some kv → ∃ q,t[i]? = some q:=fun l i kv t h1 h2=>⟨_,List.getElem?_eq_getElem (by rw [h1];exact (List.getElem?_eq_some_iff.1 h2).1)⟩
 have vw0 : ∀ o,Vw (H.set z.b o) s z (.list false 1 (bC σ.log)) z.T z.V:=fun o=>⟨hKs o,at_ne h.ht (ro_ne h.rb h.rt (by simp)),at_ne h.hv (ro_ne h.rb h.rv (by simp)),ro_ne h.rv h.rs (by simp),ro_ne h.rv h.rt (by simp),ro_ne h.rt h.rs (by simp)⟩
 cases ea : mfind 2 (.str a) kvs0 with
 | none =>
  rw [ea] at hxa
  obtain ⟨i1,i2⟩:=midxN ea
  cases eb : mfind 2 (.str b) kvs0 with
  | none =>
   rw [eb] at hxb
   obtain ⟨j1,j2⟩:=midxN ((fb .nilm).trans eb)
   have hb1 : ((bs ++ [ck]) ++ [ck + 1])[(mput 2 (.str a) .nilm kvs0).length]? = some (ck + 1):=by rw [i2,← hl1 .nilm];simp
   (conv=>whnf);refine recO (hKs _) ?_
   (conv=>whnf);refine recO (hKs _) ?_
   (conv=>whnf);refine recO (hKs _) ?_
   (conv=>whnf);refine recO (hKb _) ?_
   (conv=>whnf);refine recT (pc0.ok b) ?_
   (conv=>whnf);refine recN eb ?_
   (conv=>whnf);refine recO (hKs _) ?_
   (conv=>whnf);refine recO (hKb _) ?_
   (conv=>whnf);refine recT (pc0.ok a) ?_
   (conv=>whnf);refine recN ea ?_
   (conv=>whnf);refine recO (hKb _) ?_
   (conv=>whnf);refine recT ((pc0.ok a)) ?_
   (conv=>whnf);refine recN i1 ?_
   (conv=>whnf)
   refine setO_at (List.set_set ..) ?_
   (conv=>whnf);refine recO (hKb _) ?_
   refine ⟨List.length kvs0,(.str a,.nilm),ck,(by rw [← hl];simp),rfl,by simp,?_⟩
   refine setO_at ((List.set_set ..).trans (congrArg (fun l=>H.set z.b (AObj.bmap l _ _)) ((hsn ..).trans (i2 _).symm))) ?_
   (conv=>whnf);refine recO (hKb _) ?_
   (conv=>whnf);refine recT ((okb _)) ?_
   (conv=>whnf);refine recN j1 ?_
   (conv=>whnf)
   refine setO_at (List.set_set ..) ?_
   (conv=>whnf);refine recO (hKb _) ?_
   refine ⟨List.length (mput 2 (.str a) .nilm kvs0),(.str b,.nilm),(ck + 1),hb1,rfl,by simp,?_⟩
   refine setO_at ((List.set_set ..).trans (congrArg (fun l=>H.set z.b (AObj.bmap l _ _)) ((hsn ..).trans (j2 _).symm))) ?_
   conv=>whnf
   refine And.intro ?_ ?_
   ·(conv=>whnf);refine recO (hKb _) ?_
    (conv=>whnf);refine recT (okb' ea _) ?_
    (conv=>whnf);refine recN (fb' ea _ eb) ?_
    conv=>whnf
   conv=>whnf
   refine And.intro ?_ ?_
   ·(conv=>whnf);refine recO (hKs _) ?_
    conv=>whnf
   conv=>whnf
   generalize hX : H.set z.b (AObj.bmap _ _ _) = X
   have vw : Vw X s z (.list false 1 (bC σ.log)) z.T z.V:=by rw [← hX];exact vw0 _
   refine ⟨fun m ρ H1=>∃ k : Nat,k + m = 2 ∧ H1 = bmpK X z σ a b k ∧ Sv 53 [(0,.ptr s 1 0 0),(36,.list true 1 [[.str a],[.str b]]),(37,.int .i64 2),(38,.int .i64 k)] ρ,2,[],?_,?_⟩
   ·exact ⟨0,rfl,rfl,Sv.intro rfl ⟨rfl,rfl,rfl,rfl,trivial⟩⟩
   have vw1 : Vw (bumpH X z a (σ.vers a + 1)) s z (.list false 1 (bC σ.log)) (mdel 2 (.str a) z.T) (mput 2 (.str a) (.int .i64 (σ.vers a + 1)) z.V):=(vw.setV _).setT _
   have pV1:=h.pV.put (x:=.int .i64 (σ.vers a + 1)) (k:=a) h.sV (a:=σ.vers a + 1) rfl
   have sV1:=h.sV.ins a (σ.vers a + 1)
   have eV1 : σ.vers b = (kLk b (kIns a (σ.vers a + 1) z.cV)).getD 0:=by rw [kIns_lk h.sV,kEq_false (Ne.symm hne),if_neg Bool.false_ne_true];exact h.eV b
   have pT1:=h.pT.del h.sT a
   rintro m ρ H1 ⟨k,hk,rfl,d,rfl⟩
   (conv=>whnf);refine recA (fun hlt=>?_) (fun hlt=>?_)
   ·simp at hlt
    obtain rfl | rfl : k = 0 ∨ k = 1:=by omega
    ·(conv=>whnf);refine And.intro (by decide) ?_
     (conv=>whnf);refine recO (vw.hs) ?_
     (conv=>whnf);refine recO (vw.hv) ?_
     (conv=>whnf);refine recT (PM.ok h.pV a) ?_
     have w : IntKind.i64.wrap (σ.vers a + 1) = σ.vers a + 1:=wrapI _ (by have:=hv a;omega) (by have:=hv a;omega)
     have fin:=fun (n : Int) (hn : n = σ.vers a) (V : List (AVal × AVal))=>(show AObj.map (mput 2 (.str a) (.int .i64 (IntKind.i64.wrap (n + 1))) V) = .map (mput 2 (.str a) (.int .i64 (σ.vers a + 1)) V) by rw [hn,w])
     rcases PM.find h.pV h.sV a with ⟨e1,e2⟩ | ⟨y,n,e1,e2,rfl⟩
     ·(conv=>whnf);refine recN e1 ?_
      (conv=>whnf);refine recO (vw.hv) ?_
      (conv=>whnf);refine recT (PM.ok h.pV a) ?_
      (conv=>whnf)
      refine setO_at (congrArg _ (fin 0 (by have:=(h.eV a);rw [e2] at this;exact this.symm) _)) ?_
      (conv=>whnf);refine ACalls.mono (discard_raw F.z0k (vw.setV _) a (PM.ok h.pT a)) ?_
      rintro r H1 ⟨rfl,rfl⟩
      conv=>whnf
      refine ⟨1 - 0,by omega,Gp.keep rfl ?_ fun ρ1 h=>⟨0 + 1,by omega,rfl,h⟩⟩
      exact ⟨rfl,rfl,rfl,rfl,trivial⟩
     ·(conv=>whnf);refine recO (e1) ?_
      (conv=>whnf);refine recO (vw.hv) ?_
      (conv=>whnf);refine recT (PM.ok h.pV a) ?_
      (conv=>whnf)
      refine setO_at (congrArg _ (fin n (by have:=(h.eV a);rw [e2] at this;exact this.symm) _)) ?_
      (conv=>whnf);refine ACalls.mono (discard_raw F.z0k (vw.setV _) a (PM.ok h.pT a)) ?_
      rintro r H1 ⟨rfl,rfl⟩
      conv=>whnf
      refine ⟨1 - 0,by omega,Gp.keep rfl ?_ fun ρ1 h=>⟨0 + 1,by omega,rfl,h⟩⟩
      exact ⟨rfl,rfl,rfl,rfl,trivial⟩
    ·(conv=>whnf);refine And.intro (by decide) ?_
     (conv=>whnf);refine recO (vw1.hs) ?_
     (conv=>whnf);refine recO (vw1.hv) ?_
     (conv=>whnf);refine recT (PM.ok pV1 b) ?_
     have w : IntKind.i64.wrap (σ.vers b + 1) = σ.vers b + 1:=wrapI _ (by have:=hv b;omega) (by have:=hv b;omega)
     have fin:=fun (n : Int) (hn : n = σ.vers b) (V : List (AVal × AVal))=>(show AObj.map (mput 2 (.str b) (.int .i64 (IntKind.i64.wrap (n + 1))) V) = .map (mput 2 (.str b) (.int .i64 (σ.vers b + 1)) V) by rw [hn,w])
     rcases PM.find pV1 sV1 b with ⟨e1,e2⟩ | ⟨y,n,e1,e2,rfl⟩
     ·(conv=>whnf);refine recN e1 ?_
      (conv=>whnf);refine recO (vw1.hv) ?_
      (conv=>whnf);refine recT (PM.ok pV1 b) ?_
      (conv=>whnf)
      refine setO_at (congrArg _ (fin 0 (by have:=eV1;rw [e2] at this;exact this.symm) _)) ?_
      (conv=>whnf);refine ACalls.mono (discard_raw F.z0k (vw1.setV _) b (PM.ok pT1 b)) ?_
      rintro r H1 ⟨rfl,rfl⟩
      conv=>whnf
      refine ⟨1 - 1,by omega,Gp.keep rfl ?_ fun ρ1 h=>⟨1 + 1,by omega,rfl,h⟩⟩
      exact ⟨rfl,rfl,rfl,rfl,trivial⟩
     ·(conv=>whnf);refine recO (e1) ?_
      (conv=>whnf);refine recO (vw1.hv) ?_
      (conv=>whnf);refine recT (PM.ok pV1 b) ?_
      (conv=>whnf)
      refine setO_at (congrArg _ (fin n (by have:=eV1;rw [e2] at this;exact this.symm) _)) ?_
      (conv=>whnf);refine ACalls.mono (discard_raw F.z0k (vw1.setV _) b (PM.ok pT1 b)) ?_
      rintro r H1 ⟨rfl,rfl⟩
      conv=>whnf
      refine ⟨1 - 1,by omega,Gp.keep rfl ?_ fun ρ1 h=>⟨1 + 1,by omega,rfl,h⟩⟩
      exact ⟨rfl,rfl,rfl,rfl,trivial⟩
   ·simp at hlt
    obtain rfl : k = 2:=by omega
    conv=>whnf
    exact ⟨rfl,_,_,_,hp2 _ _ hxa hxb,by subst hX;rfl⟩
  | some xb =>
   rw [eb] at hxb
   obtain ⟨i,kv,j1,j2,j3,j4⟩:=midxS ((fb xb).trans eb)
   obtain ⟨q,hq⟩:=lenS _ i kv (bs ++ [ck]) (by rw [i2];exact hl1 xb) j2
   (conv=>whnf);refine recO (hKs _) ?_
   (conv=>whnf);refine recO (hKs _) ?_
   (conv=>whnf);refine recO (hKs _) ?_
   (conv=>whnf);refine recO (hKb _) ?_
   (conv=>whnf);refine recT (pc0.ok b) ?_
   (conv=>whnf);refine recO eb ?_
   (conv=>whnf);refine recO (hKs _) ?_
   (conv=>whnf);refine recO (hKb _) ?_
   (conv=>whnf);refine recT (pc0.ok a) ?_
   (conv=>whnf);refine recN ea ?_
   (conv=>whnf);refine recO (hKb _) ?_
   (conv=>whnf);refine recT ((pc0.ok a)) ?_
   (conv=>whnf);refine recN i1 ?_
   (conv=>whnf)
   refine setO_at (List.set_set ..) ?_
   (conv=>whnf);refine recO (hKb _) ?_
   refine ⟨List.length kvs0,(.str a,.nilm),ck,(by rw [← hl];simp),rfl,by simp,?_⟩
   refine setO_at ((List.set_set ..).trans (congrArg (fun l=>H.set z.b (AObj.bmap l _ _)) ((hsn ..).trans (i2 _).symm))) ?_
   (conv=>whnf);refine recO (hKb _) ?_
   (conv=>whnf);refine recT ((okb _)) ?_
   (conv=>whnf);refine recO (j1) ?_
   (conv=>whnf);refine recO (j2) ?_
   (conv=>whnf);refine recO (hq) ?_
   (conv=>whnf);refine recO (hKb _) ?_
   refine ⟨_,_,_,hq,rfl,j2,?_⟩
   refine setO_at ((List.set_set ..).trans (congrArg (fun l=>H.set z.b (AObj.bmap l _ _)) (j4 _).symm)) ?_
   conv=>whnf
   refine And.intro ?_ ?_
   ·(conv=>whnf);refine recO (hKb _) ?_
    (conv=>whnf);refine recT (okb' ea _) ?_
    (conv=>whnf);refine recO (fb' ea _ eb) ?_
    conv=>whnf
   conv=>whnf
   refine And.intro ?_ ?_
   ·(conv=>whnf);refine recO (hKs _) ?_
    conv=>whnf
   conv=>whnf
   generalize hX : H.set z.b (AObj.bmap _ _ _) = X
   have vw : Vw X s z (.list false 1 (bC σ.log)) z.T z.V:=by rw [← hX];exact vw0 _
   refine ⟨fun m ρ H1=>∃ k : Nat,k + m = 2 ∧ H1 = bmpK X z σ a b k ∧ Sv 53 [(0,.ptr s 1 0 0),(36,.list true 1 [[.str a],[.str b]]),(37,.int .i64 2),(38,.int .i64 k)] ρ,2,[],?_,?_⟩
   ·exact ⟨0,rfl,rfl,Sv.intro rfl ⟨rfl,rfl,rfl,rfl,trivial⟩⟩
   have vw1 : Vw (bumpH X z a (σ.vers a + 1)) s z (.list false 1 (bC σ.log)) (mdel 2 (.str a) z.T) (mput 2 (.str a) (.int .i64 (σ.vers a + 1)) z.V):=(vw.setV _).setT _
   have pV1:=h.pV.put (x:=.int .i64 (σ.vers a + 1)) (k:=a) h.sV (a:=σ.vers a + 1) rfl
   have sV1:=h.sV.ins a (σ.vers a + 1)
   have eV1 : σ.vers b = (kLk b (kIns a (σ.vers a + 1) z.cV)).getD 0:=by rw [kIns_lk h.sV,kEq_false (Ne.symm hne),if_neg Bool.false_ne_true];exact h.eV b
   have pT1:=h.pT.del h.sT a
   rintro m ρ H1 ⟨k,hk,rfl,d,rfl⟩
   (conv=>whnf);refine recA (fun hlt=>?_) (fun hlt=>?_)
   ·simp at hlt
    obtain rfl | rfl : k = 0 ∨ k = 1:=by omega
    ·(conv=>whnf);refine And.intro (by decide) ?_
     (conv=>whnf);refine recO (vw.hs) ?_
     (conv=>whnf);refine recO (vw.hv) ?_
     (conv=>whnf);refine recT (PM.ok h.pV a) ?_
     have w : IntKind.i64.wrap (σ.vers a + 1) = σ.vers a + 1:=wrapI _ (by have:=hv a;omega) (by have:=hv a;omega)
     have fin:=fun (n : Int) (hn : n = σ.vers a) (V : List (AVal × AVal))=>(show AObj.map (mput 2 (.str a) (.int .i64 (IntKind.i64.wrap (n + 1))) V) = .map (mput 2 (.str a) (.int .i64 (σ.vers a + 1)) V) by rw [hn,w])
     rcases PM.find h.pV h.sV a with ⟨e1,e2⟩ | ⟨y,n,e1,e2,rfl⟩
     ·(conv=>whnf);refine recN e1 ?_
      (conv=>whnf);refine recO (vw.hv) ?_
      (conv=>whnf);refine recT (PM.ok h.pV a) ?_
      (conv=>whnf)
      refine setO_at (congrArg _ (fin 0 (by have:=(h.eV a);rw [e2] at this;exact this.symm) _)) ?_
      (conv=>whnf);refine ACalls.mono (discard_raw F.z0k (vw.setV _) a (PM.ok h.pT a)) ?_
      rintro r H1 ⟨rfl,rfl⟩
      conv=>whnf
      refine ⟨1 - 0,by omega,Gp.keep rfl ?_ fun ρ1 h=>⟨0 + 1,by omega,rfl,h⟩⟩
      exact ⟨rfl,rfl,rfl,rfl,trivial⟩
     ·(conv=>whnf);refine recO (e1) ?_
      (conv=>whnf);refine recO (vw.hv) ?_
      (conv=>whnf);refine recT (PM.ok h.pV a) ?_
      (conv=>whnf)
      refine setO_at (congrArg _ (fin n (by have:=(h.eV a);rw [e2] at this;exact this.symm) _)) ?_
      (conv=>whnf);refine ACalls.mono (discard_raw F.z0k (vw.setV _) a (PM.ok h.pT a)) ?_
      rintro r H1 ⟨rfl,rfl⟩
      conv=>whnf
      refine ⟨1 - 0,by omega,Gp.keep rfl ?_ fun ρ1 h=>⟨0 + 1,by omega,rfl,h⟩⟩
      exact ⟨rfl,rfl,rfl,rfl,trivial⟩
    ·(conv=>whnf);refine And.intro (by decide) ?_
     (conv=>whnf);refine recO (vw1.hs) ?_
     (conv=>whnf);refine recO (vw1.hv) ?_
     (conv=>whnf);refine recT (PM.ok pV1 b) ?_
     have w : IntKind.i64.wrap (σ.vers b + 1) = σ.vers b + 1:=wrapI _ (by have:=hv b;omega) (by have:=hv b;omega)
     have fin:=fun (n : Int) (hn : n = σ.vers b) (V : List (AVal × AVal))=>(show AObj.map (mput 2 (.str b) (.int .i64 (IntKind.i64.wrap (n + 1))) V) = .map (mput 2 (.str b) (.int .i64 (σ.vers b + 1)) V) by rw [hn,w])
     rcases PM.find pV1 sV1 b with ⟨e1,e2⟩ | ⟨y,n,e1,e2,rfl⟩
     ·(conv=>whnf);refine recN e1 ?_
      (conv=>whnf);refine recO (vw1.hv) ?_
      (conv=>whnf);refine recT (PM.ok pV1 b) ?_
      (conv=>whnf)
      refine setO_at (congrArg _ (fin 0 (by have:=eV1;rw [e2] at this;exact this.symm) _)) ?_
      (conv=>whnf);refine ACalls.mono (discard_raw F.z0k (vw1.setV _) b (PM.ok pT1 b)) ?_
      rintro r H1 ⟨rfl,rfl⟩
      conv=>whnf
      refine ⟨1 - 1,by omega,Gp.keep rfl ?_ fun ρ1 h=>⟨1 + 1,by omega,rfl,h⟩⟩
      exact ⟨rfl,rfl,rfl,rfl,trivial⟩
     ·(conv=>whnf);refine recO (e1) ?_
      (conv=>whnf);refine recO (vw1.hv) ?_
      (conv=>whnf);refine recT (PM.ok pV1 b) ?_
      (conv=>whnf)
      refine setO_at (congrArg _ (fin n (by have:=eV1;rw [e2] at this;exact this.symm) _)) ?_
      (conv=>whnf);refine ACalls.mono (discard_raw F.z0k (vw1.setV _) b (PM.ok pT1 b)) ?_
      rintro r H1 ⟨rfl,rfl⟩
      conv=>whnf
      refine ⟨1 - 1,by omega,Gp.keep rfl ?_ fun ρ1 h=>⟨1 + 1,by omega,rfl,h⟩⟩
      exact ⟨rfl,rfl,rfl,rfl,trivial⟩
   ·simp at hlt
    obtain rfl : k = 2:=by omega
    conv=>whnf
    exact ⟨rfl,_,_,_,hp2 _ _ hxa hxb,by subst hX;rfl⟩
 | some xa =>
  rw [ea] at hxa
  obtain ⟨i,kv,i1,i2,i3,i4⟩:=midxS ea
  obtain ⟨q,hq⟩:=lenS _ i kv bs hl i2
  have hlm : ∀ y,bs.length = (mput 2 (.str a) y kvs0).length:=fun y=>by rw [i4,List.length_set];exact hl
  cases eb : mfind 2 (.str b) kvs0 with
  | none =>
   rw [eb] at hxb
   obtain ⟨j1,j2⟩:=midxN ((fb .nilm).trans eb)
   have hb1 : (bs ++ [ck])[(mput 2 (.str a) .nilm kvs0).length]? = some ck:=by rw [← hlm .nilm];simp
   (conv=>whnf);refine recO (hKs _) ?_
   (conv=>whnf);refine recO (hKs _) ?_
   (conv=>whnf);refine recO (hKs _) ?_
   (conv=>whnf);refine recO (hKb _) ?_
   (conv=>whnf);refine recT (pc0.ok b) ?_
   (conv=>whnf);refine recN eb ?_
   (conv=>whnf);refine recO (hKs _) ?_
   (conv=>whnf);refine recO (hKb _) ?_
   (conv=>whnf);refine recT (pc0.ok a) ?_
   (conv=>whnf);refine recO ea ?_
   (conv=>whnf);refine recO (hKb _) ?_
   (conv=>whnf);refine recT ((pc0.ok a)) ?_
   (conv=>whnf);refine recO (i1) ?_
   (conv=>whnf);refine recO (i2) ?_
   (conv=>whnf);refine recO (hq) ?_
   (conv=>whnf);refine recO (hKb _) ?_
   refine ⟨_,_,_,hq,rfl,i2,?_⟩
   refine setO_at ((List.set_set ..).trans (congrArg (fun l=>H.set z.b (AObj.bmap l _ _)) (i4 _).symm)) ?_
   (conv=>whnf);refine recO (hKb _) ?_
   (conv=>whnf);refine recT ((okb _)) ?_
   (conv=>whnf);refine recN j1 ?_
   (conv=>whnf)
   refine setO_at (List.set_set ..) ?_
   (conv=>whnf);refine recO (hKb _) ?_
   refine ⟨List.length (mput 2 (.str a) .nilm kvs0),(.str b,.nilm),ck,hb1,rfl,by simp,?_⟩
   refine setO_at ((List.set_set ..).trans (congrArg (fun l=>H.set z.b (AObj.bmap l _ _)) ((hsn ..).trans (j2 _).symm))) ?_
   conv=>whnf
   refine And.intro ?_ ?_
   ·(conv=>whnf);refine recO (hKb _) ?_
    (conv=>whnf);refine recT (pc0.ok b) ?_
    (conv=>whnf);refine recN eb ?_
    conv=>whnf
   conv=>whnf
   refine And.intro ?_ ?_
   ·(conv=>whnf);refine recO (hKs _) ?_
    conv=>whnf
   conv=>whnf
   generalize hX : H.set z.b (AObj.bmap _ _ _) = X
   have vw : Vw X s z (.list false 1 (bC σ.log)) z.T z.V:=by rw [← hX];exact vw0 _
   refine ⟨fun m ρ H1=>∃ k : Nat,k + m = 2 ∧ H1 = bmpK X z σ a b k ∧ Sv 53 [(0,.ptr s 1 0 0),(36,.list true 1 [[.str a],[.str b]]),(37,.int .i64 2),(38,.int .i64 k)] ρ,2,[],?_,?_⟩
   ·exact ⟨0,rfl,rfl,Sv.intro rfl ⟨rfl,rfl,rfl,rfl,trivial⟩⟩
   have vw1 : Vw (bumpH X z a (σ.vers a + 1)) s z (.list false 1 (bC σ.log)) (mdel 2 (.str a) z.T) (mput 2 (.str a) (.int .i64 (σ.vers a + 1)) z.V):=(vw.setV _).setT _
   have pV1:=h.pV.put (x:=.int .i64 (σ.vers a + 1)) (k:=a) h.sV (a:=σ.vers a + 1) rfl
   have sV1:=h.sV.ins a (σ.vers a + 1)
   have eV1 : σ.vers b = (kLk b (kIns a (σ.vers a + 1) z.cV)).getD 0:=by rw [kIns_lk h.sV,kEq_false (Ne.symm hne),if_neg Bool.false_ne_true];exact h.eV b
   have pT1:=h.pT.del h.sT a
   rintro m ρ H1 ⟨k,hk,rfl,d,rfl⟩
   (conv=>whnf);refine recA (fun hlt=>?_) (fun hlt=>?_)
   ·simp at hlt
    obtain rfl | rfl : k = 0 ∨ k = 1:=by omega
    ·(conv=>whnf);refine And.intro (by decide) ?_
     (conv=>whnf);refine recO (vw.hs) ?_
     (conv=>whnf);refine recO (vw.hv) ?_
     (conv=>whnf);refine recT (PM.ok h.pV a) ?_
     have w : IntKind.i64.wrap (σ.vers a + 1) = σ.vers a + 1:=wrapI _ (by have:=hv a;omega) (by have:=hv a;omega)
     have fin:=fun (n : Int) (hn : n = σ.vers a) (V : List (AVal × AVal))=>(show AObj.map (mput 2 (.str a) (.int .i64 (IntKind.i64.wrap (n + 1))) V) = .map (mput 2 (.str a) (.int .i64 (σ.vers a + 1)) V) by rw [hn,w])
     rcases PM.find h.pV h.sV a with ⟨e1,e2⟩ | ⟨y,n,e1,e2,rfl⟩
     ·(conv=>whnf);refine recN e1 ?_
      (conv=>whnf);refine recO (vw.hv) ?_
      (conv=>whnf);refine recT (PM.ok h.pV a) ?_
      (conv=>whnf)
      refine setO_at (congrArg _ (fin 0 (by have:=(h.eV a);rw [e2] at this;exact this.symm) _)) ?_
      (conv=>whnf);refine ACalls.mono (discard_raw F.z0k (vw.setV _) a (PM.ok h.pT a)) ?_
      rintro r H1 ⟨rfl,rfl⟩
      conv=>whnf
      refine ⟨1 - 0,by omega,Gp.keep rfl ?_ fun ρ1 h=>⟨0 + 1,by omega,rfl,h⟩⟩
      exact ⟨rfl,rfl,rfl,rfl,trivial⟩
     ·(conv=>whnf);refine recO (e1) ?_
      (conv=>whnf);refine recO (vw.hv) ?_
      (conv=>whnf);refine recT (PM.ok h.pV a) ?_
      (conv=>whnf)
      refine setO_at (congrArg _ (fin n (by have:=(h.eV a);rw [e2] at this;exact this.symm) _)) ?_
      (conv=>whnf);refine ACalls.mono (discard_raw F.z0k (vw.setV _) a (PM.ok h.pT a)) ?_
      rintro r H1 ⟨rfl,rfl⟩
      conv=>whnf
      refine ⟨1 - 0,by omega,Gp.keep rfl ?_ fun ρ1 h=>⟨0 + 1,by omega,rfl,h⟩⟩
      exact ⟨rfl,rfl,rfl,rfl,trivial⟩
    ·(conv=>whnf);refine And.intro (by decide) ?_
     (conv=>whnf);refine recO (vw1.hs) ?_
     (conv=>whnf);refine recO (vw1.hv) ?_
     (conv=>whnf);refine recT (PM.ok pV1 b) ?_
     have w : IntKind.i64.wrap (σ.vers b + 1) = σ.vers b + 1:=wrapI _ (by have:=hv b;omega) (by have:=hv b;omega)
     have fin:=fun (n : Int) (hn : n = σ.vers b) (V : List (AVal × AVal))=>(show AObj.map (mput 2 (.str b) (.int .i64 (IntKind.i64.wrap (n + 1))) V) = .map (mput 2 (.str b) (.int .i64 (σ.vers b + 1)) V) by rw [hn,w])
     rcases PM.find pV1 sV1 b with ⟨e1,e2⟩ | ⟨y,n,e1,e2,rfl⟩
     ·(conv=>whnf);refine recN e1 ?_
      (conv=>whnf);refine recO (vw1.hv) ?_
      (conv=>whnf);refine recT (PM.ok pV1 b) ?_
      (conv=>whnf)
      refine setO_at (congrArg _ (fin 0 (by have:=eV1;rw [e2] at this;exact this.symm) _)) ?_
      (conv=>whnf);refine ACalls.mono (discard_raw F.z0k (vw1.setV _) b (PM.ok pT1 b)) ?_
      rintro r H1 ⟨rfl,rfl⟩
      conv=>whnf
      refine ⟨1 - 1,by omega,Gp.keep rfl ?_ fun ρ1 h=>⟨1 + 1,by omega,rfl,h⟩⟩
      exact ⟨rfl,rfl,rfl,rfl,trivial⟩
     ·(conv=>whnf);refine recO (e1) ?_
      (conv=>whnf);refine recO (vw1.hv) ?_
      (conv=>whnf);refine recT (PM.ok pV1 b) ?_
      (conv=>whnf)
      refine setO_at (congrArg _ (fin n (by have:=eV1;rw [e2] at this;exact this.symm) _)) ?_
      (conv=>whnf);refine ACalls.mono (discard_raw F.z0k (vw1.setV _) b (PM.ok pT1 b)) ?_
      rintro r H1 ⟨rfl,rfl⟩
      conv=>whnf
      refine ⟨1 - 1,by omega,Gp.keep rfl ?_ fun ρ1 h=>⟨1 + 1,by omega,rfl,h⟩⟩
      exact ⟨rfl,rfl,rfl,rfl,trivial⟩
   ·simp at hlt
    obtain rfl : k = 2:=by omega
    conv=>whnf
    exact ⟨rfl,_,_,_,hp2 _ _ hxa hxb,by subst hX;rfl⟩
  | some xb =>
   rw [eb] at hxb
   obtain ⟨i',kv',j1,j2,j3,j4⟩:=midxS ((fb xb).trans eb)
   obtain ⟨q',hq'⟩:=lenS _ i' kv' bs (hlm xb) j2
   (conv=>whnf);refine recO (hKs _) ?_
   (conv=>whnf);refine recO (hKs _) ?_
   (conv=>whnf);refine recO (hKs _) ?_
   (conv=>whnf);refine recO (hKb _) ?_
   (conv=>whnf);refine recT (pc0.ok b) ?_
   (conv=>whnf);refine recO eb ?_
   (conv=>whnf);refine recO (hKs _) ?_
   (conv=>whnf);refine recO (hKb _) ?_
   (conv=>whnf);refine recT (pc0.ok a) ?_
   (conv=>whnf);refine recO ea ?_
   (conv=>whnf);refine recO (hKb _) ?_
   (conv=>whnf);refine recT ((pc0.ok a)) ?_
   (conv=>whnf);refine recO (i1) ?_
   (conv=>whnf);refine recO (i2) ?_
   (conv=>whnf);refine recO (hq) ?_
   (conv=>whnf);refine recO (hKb _) ?_
   refine ⟨_,_,_,hq,rfl,i2,?_⟩
   refine setO_at ((List.set_set ..).trans (congrArg (fun l=>H.set z.b (AObj.bmap l _ _)) (i4 _).symm)) ?_
   (conv=>whnf);refine recO (hKb _) ?_
   (conv=>whnf);refine recT ((okb _)) ?_
   (conv=>whnf);refine recO (j1) ?_
   (conv=>whnf);refine recO (j2) ?_
   (conv=>whnf);refine recO (hq') ?_
   (conv=>whnf);refine recO (hKb _) ?_
   refine ⟨_,_,_,hq',rfl,j2,?_⟩
   refine setO_at ((List.set_set ..).trans (congrArg (fun l=>H.set z.b (AObj.bmap l _ _)) (j4 _).symm)) ?_
   conv=>whnf
   refine And.intro ?_ ?_
   ·(conv=>whnf);refine recO (hKb _) ?_
    (conv=>whnf);refine recT (pc0.ok b) ?_
    (conv=>whnf);refine recO eb ?_
    conv=>whnf
   conv=>whnf
   refine And.intro ?_ ?_
   ·(conv=>whnf);refine recO (hKs _) ?_
    conv=>whnf
   conv=>whnf
   generalize hX : H.set z.b (AObj.bmap _ _ _) = X
   have vw : Vw X s z (.list false 1 (bC σ.log)) z.T z.V:=by rw [← hX];exact vw0 _
   refine ⟨fun m ρ H1=>∃ k : Nat,k + m = 2 ∧ H1 = bmpK X z σ a b k ∧ Sv 53 [(0,.ptr s 1 0 0),(36,.list true 1 [[.str a],[.str b]]),(37,.int .i64 2),(38,.int .i64 k)] ρ,2,[],?_,?_⟩
   ·exact ⟨0,rfl,rfl,Sv.intro rfl ⟨rfl,rfl,rfl,rfl,trivial⟩⟩
   have vw1 : Vw (bumpH X z a (σ.vers a + 1)) s z (.list false 1 (bC σ.log)) (mdel 2 (.str a) z.T) (mput 2 (.str a) (.int .i64 (σ.vers a + 1)) z.V):=(vw.setV _).setT _
   have pV1:=h.pV.put (x:=.int .i64 (σ.vers a + 1)) (k:=a) h.sV (a:=σ.vers a + 1) rfl
   have sV1:=h.sV.ins a (σ.vers a + 1)
   have eV1 : σ.vers b = (kLk b (kIns a (σ.vers a + 1) z.cV)).getD 0:=by rw [kIns_lk h.sV,kEq_false (Ne.symm hne),if_neg Bool.false_ne_true];exact h.eV b
   have pT1:=h.pT.del h.sT a
   rintro m ρ H1 ⟨k,hk,rfl,d,rfl⟩
   (conv=>whnf);refine recA (fun hlt=>?_) (fun hlt=>?_)
   ·simp at hlt
    obtain rfl | rfl : k = 0 ∨ k = 1:=by omega
    ·(conv=>whnf);refine And.intro (by decide) ?_
     (conv=>whnf);refine recO (vw.hs) ?_
     (conv=>whnf);refine recO (vw.hv) ?_
     (conv=>whnf);refine recT (PM.ok h.pV a) ?_
     have w : IntKind.i64.wrap (σ.vers a + 1) = σ.vers a + 1:=wrapI _ (by have:=hv a;omega) (by have:=hv a;omega)
     have fin:=fun (n : Int) (hn : n = σ.vers a) (V : List (AVal × AVal))=>(show AObj.map (mput 2 (.str a) (.int .i64 (IntKind.i64.wrap (n + 1))) V) = .map (mput 2 (.str a) (.int .i64 (σ.vers a + 1)) V) by rw [hn,w])
     rcases PM.find h.pV h.sV a with ⟨e1,e2⟩ | ⟨y,n,e1,e2,rfl⟩
     ·(conv=>whnf);refine recN e1 ?_
      (conv=>whnf);refine recO (vw.hv) ?_
      (conv=>whnf);refine recT (PM.ok h.pV a) ?_
      (conv=>whnf)
      refine setO_at (congrArg _ (fin 0 (by have:=(h.eV a);rw [e2] at this;exact this.symm) _)) ?_
      (conv=>whnf);refine ACalls.mono (discard_raw F.z0k (vw.setV _) a (PM.ok h.pT a)) ?_
      rintro r H1 ⟨rfl,rfl⟩
      conv=>whnf
      refine ⟨1 - 0,by omega,Gp.keep rfl ?_ fun ρ1 h=>⟨0 + 1,by omega,rfl,h⟩⟩
      exact ⟨rfl,rfl,rfl,rfl,trivial⟩
     ·(conv=>whnf);refine recO (e1) ?_
      (conv=>whnf);refine recO (vw.hv) ?_
      (conv=>whnf);refine recT (PM.ok h.pV a) ?_
      (conv=>whnf)
      refine setO_at (congrArg _ (fin n (by have:=(h.eV a);rw [e2] at this;exact this.symm) _)) ?_
      (conv=>whnf);refine ACalls.mono (discard_raw F.z0k (vw.setV _) a (PM.ok h.pT a)) ?_
      rintro r H1 ⟨rfl,rfl⟩
      conv=>whnf
      refine ⟨1 - 0,by omega,Gp.keep rfl ?_ fun ρ1 h=>⟨0 + 1,by omega,rfl,h⟩⟩
      exact ⟨rfl,rfl,rfl,rfl,trivial⟩
    ·(conv=>whnf);refine And.intro (by decide) ?_
     (conv=>whnf);refine recO (vw1.hs) ?_
     (conv=>whnf);refine recO (vw1.hv) ?_
     (conv=>whnf);refine recT (PM.ok pV1 b) ?_
     have w : IntKind.i64.wrap (σ.vers b + 1) = σ.vers b + 1:=wrapI _ (by have:=hv b;omega) (by have:=hv b;omega)
     have fin:=fun (n : Int) (hn : n = σ.vers b) (V : List (AVal × AVal))=>(show AObj.map (mput 2 (.str b) (.int .i64 (IntKind.i64.wrap (n + 1))) V) = .map (mput 2 (.str b) (.int .i64 (σ.vers b + 1)) V) by rw [hn,w])
     rcases PM.find pV1 sV1 b with ⟨e1,e2⟩ | ⟨y,n,e1,e2,rfl⟩
     ·(conv=>whnf);refine recN e1 ?_
      (conv=>whnf);refine recO (vw1.hv) ?_
      (conv=>whnf);refine recT (PM.ok pV1 b) ?_
      (conv=>whnf)
      refine setO_at (congrArg _ (fin 0 (by have:=eV1;rw [e2] at this;exact this.symm) _)) ?_
      (conv=>whnf);refine ACalls.mono (discard_raw F.z0k (vw1.setV _) b (PM.ok pT1 b)) ?_
      rintro r H1 ⟨rfl,rfl⟩
      conv=>whnf
      refine ⟨1 - 1,by omega,Gp.keep rfl ?_ fun ρ1 h=>⟨1 + 1,by omega,rfl,h⟩⟩
      exact ⟨rfl,rfl,rfl,rfl,trivial⟩
     ·(conv=>whnf);refine recO (e1) ?_
      (conv=>whnf);refine recO (vw1.hv) ?_
      (conv=>whnf);refine recT (PM.ok pV1 b) ?_
      (conv=>whnf)
      refine setO_at (congrArg _ (fin n (by have:=eV1;rw [e2] at this;exact this.symm) _)) ?_
      (conv=>whnf);refine ACalls.mono (discard_raw F.z0k (vw1.setV _) b (PM.ok pT1 b)) ?_
      rintro r H1 ⟨rfl,rfl⟩
      conv=>whnf
      refine ⟨1 - 1,by omega,Gp.keep rfl ?_ fun ρ1 h=>⟨1 + 1,by omega,rfl,h⟩⟩
      exact ⟨rfl,rfl,rfl,rfl,trivial⟩
   ·simp at hlt
    obtain rfl : k = 2:=by omega
    conv=>whnf
    exact ⟨rfl,_,_,_,hp2 _ _ hxa hxb,by subst hX;rfl⟩
theorem swap_spec {P : Program} (F : F_z0z P) (h : RepP H s σ ro z) {a b : ByteArray} (hne : a ≠ b) (hv : ∀ e,-4000000 ≤ σ.vers e ∧ σ.vers e ≤ 4000000) :
  ACalls P F.id [.ptr s 1 0 0,.str a,.str b] H (fun r H'=>r = .tuple [] ∧ H' = swpH H z σ a b):=by
 refine ACalls.fg (swap_raw F h hne hv) ?_
 rintro r H1 ⟨rfl,kvs,bs,ck,hp,rfl⟩
 refine ⟨swpH H z σ a b,?_,rfl,rfl⟩
 have nbv : z.b ≠ z.v:=ro_ne h.rb h.rv (by simp)
 have nbt : z.b ≠ z.t:=ro_ne h.rb h.rt (by simp)
 have e : ∀ o o1 o2 o3 o4,((((H.set z.b o).set z.v o1).set z.t o2).set z.v o3).set z.t o4 = ((((H.set z.v o1).set z.t o2).set z.v o3).set z.t o4).set z.b o:=fun o o1 o2 o3 o4=>by
  rw [List.set_comm _ _ nbv,List.set_comm _ _ nbt,List.set_comm _ _ nbv,List.set_comm _ _ nbt]
 unfold swpH bumpH swp0
 simp only [SP.ver,SP.del]
 rw [e,e]
 have hl : ∀ o1 o2 o3 o4,z.b < ((((H.set z.v o1).set z.t o2).set z.v o3).set z.t o4).length:=fun _ _ _ _=>by simp only [List.length_set];exact h.lt _ h.nb
 have key : ∀ X : List AObj,z.b < X.length → ForgH (X.set z.b (.bmap kvs bs ck)) (X.set z.b (.map (mput 2 (.str b) (AW.xOf z a) (mput 2 (.str a) (AW.xOf z b) z.B)))):=fun X hX=>by
  have:=ForgH.one (List.getElem?_set_self hX) (Forg.mp kvs _ bs ck hp)
  rw [List.set_set] at this
  exact this
 exact key _ (hl _ _ _ _)
end
def asB_putText {P : Program} (F : F_z13 P) : F_z01 P:=⟨F.id,F.has⟩
def asB_take {P : Program} (F : F_z15 P) : F_z03 P:=⟨F.id,F.has⟩
def asB_number {P : Program} (F : F_z14 P) : F_z02 P:=⟨F.id,(asB_take F.z15),F.has⟩
def asB_text {P : Program} (F : F_z16 P) : F_z04 P:=⟨F.id,(asB_number F.z14),(asB_take F.z15),F.has⟩
theorem set_id {H : List AObj} {i : Nat} {o : AObj} (h : H[i]? = some o) : H.set i o = H:=by
 apply List.ext_getElem?
 intro j
 by_cases e : i = j
 ·subst e;rw [set_at h,h]
 ·rw [get_ne' e]
def bsl (id : Nat) (l : List Int) : AVal:=.sl id l.length 0 l.length
def bO (l : List Int) : AObj:=.arr 1 (bC l)
def txI (s : ByteArray) : List Int:=u8 s.size :: bytesI s
theorem sputText_spec {P : Program} (F : F_z13 P) (H : List AObj) (id : Nat) (l : List Int) (s : ByteArray) (ho : H[id]? = some (bO l)) (hl : l.length ≤ 100000) (hs : s.size ≤ 100000) :
  ACalls P F.id [bsl id l,.str s] H (fun r H'=>r = bsl id (l ++ txI s) ∧ H' = H.set id (bO (l ++ txI s))):=by
 have:=putText_spec (asB_putText F) H id (bC l) s ho (by rw [bC_length];exact hl) hs
 rw [← bC_append,bC_length,bC_length] at this
 exact this
set_option maxRecDepth 20000 in
theorem sputFlag_spec {P : Program} (F : F_z12 P) (H : List AObj) (id : Nat) (l : List Int) (t : Bool) (ho : H[id]? = some (bO l)) (hl : l.length ≤ 1000000) :
  ACalls P F.id [bsl id l,.bool t] H (fun r H'=>r = bsl id (l ++ [bif t then 1 else 0]) ∧ H' = H.set id (bO (l ++ [bif t then 1 else 0]))):=by
 have hl2:=bC_length l
 have hl3 : ∀ x,(bC l ++ [[AVal.int .u8 x]]).length = (l ++ [x]).length:=fun x=>by simp [bC_length]
 have hl4 : ∀ x,bC l ++ [[AVal.int .u8 x]] = bC (l ++ [x]):=fun x=>by simp [bC]
 refine acalls_of_body F.has ?_
 cases t with
 | true =>
  (conv=>whnf);refine recO (ho) ?_
  (conv=>whnf);refine recT (by rw [hl2];exact Nat.beq_refl _) ?_
  (conv=>whnf);refine And.intro (⟨roomB_le1 (by simp;omega),roomB_le (by simp;omega),rfl,by rw [hl2]⟩) ?_
  (conv=>whnf)
  refine setO_at (congrArg (fun e=>H.set id (AObj.arr 1 e)) (hl4 1)) ?_
  conv=>whnf
  exact ⟨by show AVal.sl id (bC l ++ [[AVal.int .u8 1]]).length 0 (bC l ++ [[AVal.int .u8 1]]).length = _;rw [hl3];rfl,rfl⟩
 | false =>
  (conv=>whnf);refine recO (ho) ?_
  (conv=>whnf);refine recT (by rw [hl2];exact Nat.beq_refl _) ?_
  (conv=>whnf);refine And.intro (⟨roomB_le1 (by simp;omega),roomB_le (by simp;omega),rfl,by rw [hl2]⟩) ?_
  (conv=>whnf)
  refine setO_at (congrArg (fun e=>H.set id (AObj.arr 1 e)) (hl4 0)) ?_
  conv=>whnf
  exact ⟨by show AVal.sl id (bC l ++ [[AVal.int .u8 0]]).length 0 (bC l ++ [[AVal.int .u8 0]]).length = _;rw [hl3];rfl,rfl⟩
set_option maxRecDepth 20000 in
theorem sput_spec {P : Program} (F : F_z11 P) (H : List AObj) (id : Nat) (l : List Int) (n : Nat) (x : Int) (ho : H[id]? = some (bO l)) (hl : l.length ≤ 90000000) (hn : n ≤ 4) (hx : 0 ≤ x) :
  ACalls P F.id [bsl id l,.int .i64 n,.int .i64 x] H (fun r H'=>r = bsl id (l ++ beN n x) ∧ H' = H.set id (bO (l ++ beN n x))):=by
 have hid:=(List.getElem?_eq_some_iff.1 ho).1
 have hw : ∀ m : Nat,m ≤ 4 → IntKind.i64.wrap ((m : Int) - 1) = (m : Int) - 1:=fun m h=>wrapI _ (by omega) (by omega)
 refine acalls_of_body F.has ?_
 conv=>whnf
 refine ⟨fun m ρ H1=>∃ d : List Int,m ≤ n ∧ d ++ beN m x = beN n x ∧ H1 = H.set id (bO (l ++ d)) ∧
  Sv 22 [(0,bsl id (l ++ d)),(1,.int .i64 ((m : Int) - 1)),(2,.int .i64 x)] ρ,n,[],?_,?_⟩
 ·refine ⟨[],Nat.le_refl _,rfl,?_,Sv.intro rfl ⟨?_,?_,rfl,trivial⟩⟩
  ·rw [List.append_nil]
   exact (set_id ho).symm
  ·rw [List.append_nil];rfl
  ·exact intEq (hw n hn)
 rintro m ρ H1 ⟨d,hm,hd,rfl,dd,rfl⟩
 (conv=>whnf);refine recA (fun hge=>?_) (fun hge=>?_)
 ·simp at hge
  obtain ⟨m,rfl⟩ : ∃ j,m = j + 1:=⟨m - 1,by omega⟩
  rw [beN_head] at hd
  have hdl : d.length ≤ 4:=by have:=congrArg List.length hd;rw [List.length_append,beN_length,List.length_cons] at this;omega
  have e8 : IntKind.i64.wrap (8 * ((m : Int))) = 8 * m:=wrapI _ (by omega) (by omega)
  have e9 : ((m + 1 : Nat) : Int) - 1 = m:=by omega
  have ebyte : u8 (x.fdiv (2 ^ (min (8 * (m : Int)).toNat 64))) = (x / 256 ^ m) % 256:=by
   rw [u8_eq,Int.fdiv_eq_ediv_of_nonneg _ (Int.pow_nonneg (by omega)),show min (8 * (m : Int)).toNat 64 = 8 * m by omega,Int.pow_mul];rfl
  have hl2 : (bC (l ++ d)).length = (l ++ d).length:=bC_length _
  have hl5 : (l ++ d).length ≤ 90000010:=by simp;omega
  rw [e9]
  (conv=>whnf)
  rw [e8]
  (conv=>whnf);refine And.intro (by omega) ?_
  (conv=>whnf);refine recO (set_at ho) ?_
  (conv=>whnf);refine recT (by rw [hl2];exact Nat.beq_refl _) ?_
  (conv=>whnf);refine And.intro (⟨roomB_le1 (by simp;omega),roomB_le (by simp;omega),rfl,by rw [hl2]⟩) ?_
  have hob : bC (l ++ d) ++ [[AVal.int .u8 (IntKind.u8.wrap (x.fdiv (2 ^ min (8 * (m : Int)).toNat IntKind.i64.bits)))]] = bC (l ++ (d ++ [(x / 256 ^ m) % 256])):=by
   rw [← ebyte,← List.append_assoc,bC_append (l ++ d)];rfl
  refine setO_at ((List.set_set ..).trans (congrArg (fun e=>H.set id (AObj.arr 1 e)) hob)) ?_
  (conv=>whnf)
  refine ⟨m,by omega,Gp.keep rfl ?_ fun ρ1 h=>⟨d ++ [(x / 256 ^ m) % 256],by omega,by rw [← hd];simp,rfl,h⟩⟩
  refine ⟨?_,intEq (hw m (by omega)),rfl,trivial⟩
  show AVal.sl id (bC (l ++ d) ++ [[AVal.int .u8 (IntKind.u8.wrap (x.fdiv (2 ^ min (8 * (m : Int)).toNat IntKind.i64.bits)))]]).length 0 (bC (l ++ d) ++ [[AVal.int .u8 (IntKind.u8.wrap (x.fdiv (2 ^ min (8 * (m : Int)).toNat IntKind.i64.bits)))]]).length = _
  rw [hob,bC_length];rfl
 ·simp at hge
  obtain rfl : m = 0:=by omega
  rw [beN,List.append_nil] at hd
  subst hd
  conv=>whnf
  exact ⟨rfl,rfl⟩
def entI (p : ByteArray × Chg) : List Int:=(bif p.2.rm then 1 else 0) :: (txI p.1 ++ bif p.2.rm then [] else beN 4 p.2.data.length ++ p.2.data)
def payI (env : ByteArray) (c : List (ByteArray × Chg)) : List Int:=1 :: txI env ++ beN 2 c.length ++ c.flatMap entI
def keyC {α : Type} (c : List (ByteArray × α)) : List (List AVal):=c.map fun p=>[.str p.1]
def SKeys (P : Program) (f k : FuncId) : Prop :=
 (∀ (H : List AObj) (box id : Nat) (kvs : List (AVal × AVal)) (ks : List ByteArray),H[box]? = some (.arr 1 [[.mp id]]) → H[id]? = some (.map kvs) → (kvs.map (·.1)).Perm (ks.map AVal.str) → ks.Pairwise (fun a b=>ltB a b = true) → ks.length ≤ 1000000 → (∀ k ∈ ks,k.size ≤ 1000000) →
  ACalls P f [.fn k [.ptr box 1 0 0]] H (fun r H'=>r = .list false 1 (ks.map fun k=>[AVal.str k]) ∧ H' = H)) ∧
 (∀ (H : List AObj) (box : Nat),H[box]? = some (.arr 1 [[.nilm]]) → ACalls P f [.fn k [.ptr box 1 0 0]] H (fun r H'=>r = .list false 1 [] ∧ H' = H))
theorem SKeys.pm {P : Program} {f k : FuncId} (h : SKeys P f k) {α : Type} {R : ByteArray → AVal → α → Prop} {H : List AObj} {box id : Nat} {kvs : List (AVal × AVal)} {c : List (ByteArray × α)} (h1 : H[box]? = some (.arr 1 [[.mp id]])) (h2 : H[id]? = some (.map kvs)) (pc : PM R kvs c) (sc : KSrt c) (hn : c.length ≤ 1000000) (hk : ∀ p ∈ c,p.1.size ≤ 1000000) :
  ACalls P f [.fn k [.ptr box 1 0 0]] H (fun r H'=>r = .list false 1 (keyC c) ∧ H' = H):=by
 have:=h.1 H box id kvs (c.map (·.1)) h1 h2 ?_ (List.pairwise_map.2 (show c.Pairwise (fun x y=>ltB x.1 y.1 = true) from sc)) (by rw [List.length_map];exact hn) (fun k hk2=>by obtain ⟨p,hp,rfl⟩:=List.mem_map.1 hk2;exact hk p hp)
 ·rw [List.map_map] at this;exact this
 ·obtain ⟨l,rfl,h3,_⟩:=pc
  rw [List.map_map,List.map_map]
  have:=h3.map fun p=>AVal.str p.1
  rw [List.map_map] at this
  exact this
theorem pay_small (env : ByteArray) (c : List (ByteArray × Chg)) : c.length ≤ (payI env c).length ∧ ∀ p ∈ c,p.1.size ≤ (payI env c).length:=by
 have h : c.length ≤ (c.flatMap entI).length ∧ ∀ p ∈ c,p.1.size ≤ (c.flatMap entI).length:=by
  induction c with
  | nil=>exact ⟨Nat.le_refl _,fun p hp=>by cases hp⟩
  | cons q l ih =>
   have hq : q.1.size + 1 ≤ (entI q).length:=by
    rw [entI,List.length_cons,List.length_append]
    have : (txI q.1).length = q.1.size + 1:=by simp [txI,bytesI_length]
    omega
   rw [List.flatMap_cons,List.length_append,List.length_cons]
   refine ⟨by omega,fun p hp=>?_⟩
   rcases List.mem_cons.1 hp with rfl | hp
   ·omega
   ·have:=ih.2 p hp;omega
 unfold payI
 rw [List.length_append]
 exact ⟨by omega,fun p hp=>by have:=h.2 p hp;omega⟩
theorem othH_self (ids : List Nat) : ∀ (pre xs : List AObj),othH ids (pre ++ xs) pre.length xs
 | _,[]=>trivial
 | pre,x :: xs=>by
  refine ⟨.inr (by simp),?_⟩
  have:=othH_self ids (pre ++ [x]) xs
  rw [List.append_assoc,List.length_append] at this
  exact this
theorem getC {G : List AObj} {a b o : AObj} : (a :: b :: (G ++ [o]))[2 + G.length]? = some o:=by
 rw [show 2 + G.length = G.length + 1 + 1 by omega];simp
theorem setC {G : List AObj} {a b o o' : AObj} : (a :: b :: (G ++ [o])).set (2 + G.length) o' = a :: b :: (G ++ [o']):=by
 rw [show 2 + G.length = G.length + 1 + 1 by omega];simp
set_option maxRecDepth 20000 in
theorem keys_raw {P : Program} (F : F_z0f P) (a b : AObj) : ACalls P F.id [.mp 0] [a,b] (fun r H'=>r = .fn F.maps_Keys_mapstringstorechange_string_storechange_1.id [.ptr 2 1 0 0] ∧ H' = [a,b,.arr 1 [[.mp 0]]]):=by
 refine acalls_of_body F.has ?_
 conv=>whnf
 exact ⟨rfl,rfl⟩
set_option maxRecDepth 20000 in
theorem pay_raw {P : Program} (F : F_z10 P) (hS : SKeys P F.slices_Sorted_string.id F.z0f.maps_Keys_mapstringstorechange_string_storechange_1.id)
  (env : ByteArray) {kvs : List (AVal × AVal)} {c : List (ByteArray × Chg)} (pc : PM RC kvs c) (sc : KSrt c) (hsz : (payI env c).length ≤ 90000) :
  ACalls P F.id [.str env,.mp 0] [.map kvs] (fun r H'=>r = bsl 1 (payI env c) ∧ ∃ G,H' = .map kvs :: bO (payI env c) :: G):=by
 have hlen : (payI env c).length = 1 + (1 + env.size) + 2 + (c.flatMap entI).length:=by
  unfold payI txI;simp [beN_length,bytesI_length];omega
 have hcl:=pc.len
 have hc16 : c.length ≤ 90000:=by
  have : ∀ d : List (ByteArray × Chg),d.length ≤ (d.flatMap entI).length:=by
   intro d
   induction d with
   | nil=>exact Nat.le_refl _
   | cons p d ih =>
    have h1 : 1 ≤ (entI p).length:=by rw [entI,List.length_cons];omega
    rw [List.flatMap_cons,List.length_append,List.length_cons];omega
  have:=this c;omega
 obtain ⟨hcn0,hck0⟩:=pay_small env c
 have hcn : c.length ≤ 1000000:=by omega
 have hck : ∀ p ∈ c,p.1.size ≤ 1000000:=fun p hp=>by have:=hck0 p hp;omega
 refine acalls_of_body F.has ?_
 (conv=>whnf);refine ACalls.mono (sputText_spec F.z13 [.map kvs,bO [1]] 1 [1] env rfl (by simp) (by omega)) ?_
 rintro r H1 ⟨rfl,rfl⟩
 conv=>whnf
 rw [hcl]
 (conv=>whnf);refine ACalls.mono (sput_spec F.z11 [.map kvs,bO ([1] ++ txI env)] 1 ([1] ++ txI env) 2 c.length rfl (by simp [txI,bytesI_length];omega) (by omega) (by omega)) ?_
 rintro r H1 ⟨rfl,rfl⟩
 (conv=>whnf);refine ACalls.mono (keys_raw F.z0f (.map kvs) (bO ([1] ++ txI env ++ beN 2 c.length))) ?_
 rintro r H1 ⟨rfl,rfl⟩
 (conv=>whnf);refine ACalls.use (hS.pm (H:=[.map kvs,bO ([1] ++ txI env ++ beN 2 c.length),.arr 1 [[.mp 0]]]) (box:=2) (id:=0) rfl rfl pc sc hcn hck) ?_
 conv=>whnf
 refine ⟨fun m ρ H1=>∃ (k : Nat) (l : List Int) (G : List AObj),k + m = c.length ∧ l ++ (c.drop k).flatMap entI = payI env c ∧ H1 = .map kvs :: bO l :: G ∧
  Sv 45 [(1,.mp 0),(5,bsl 1 l),(17,.list false 1 (keyC c)),(18,.int .i64 c.length),(19,.int .i64 k)] ρ,c.length,[],?_,?_⟩
 ·refine ⟨0,_,_,by omega,rfl,rfl,Sv.intro rfl ⟨rfl,rfl,rfl,?_,rfl,trivial⟩⟩
  exact intEq (by simp [keyC])
 rintro m ρ H1 ⟨k,l,G,hk,hl,rfl,d,rfl⟩
 (conv=>whnf);refine recA (fun hlt=>?_) (fun hlt=>?_)
 ·simp at hlt
  obtain ⟨⟨nm,rm,data⟩,hx,hd,hmem⟩:=get_drop hlt
  rw [hd,List.flatMap_cons] at hl
  have hll : l.length ≤ 1000000:=by have:=congrArg List.length hl;rw [List.length_append] at this;omega
  have hl3 : l.length + (entI (nm,⟨rm,data⟩)).length ≤ 90000:=by have:=congrArg List.length hl;rw [List.length_append,List.length_append] at this;omega
  have hl4 : nm.size + 2 ≤ (entI (nm,⟨rm,data⟩)).length:=by rw [entI,List.length_cons];cases rm <;> simp [txI,bytesI_length] <;> omega
  have hl5 : (txI nm).length = nm.size + 1:=by simp [txI,bytesI_length]
  have hkey : (keyC c)[k]? = some [AVal.str nm]:=by rw [keyC,List.getElem?_map,hx];rfl
  have hf : mfind 2 (.str nm) kvs = some (chgC ⟨rm,data⟩):=by
   rcases pc.find sc nm with ⟨_,e2⟩ | ⟨x,a,e1,e2,rfl⟩
   ·rw [(kLk_some sc).2 hmem] at e2;cases e2
   ·rw [(kLk_some sc).2 hmem] at e2;cases e2;exact e1
  (conv=>whnf);refine And.intro (by omega) ?_
  (conv=>whnf);refine recO (hkey) ?_
  (conv=>whnf);refine recT (pc.ok nm) ?_
  (conv=>whnf);refine recO (hf) ?_
  (conv=>whnf)
  refine snocK_to ?_
  (conv=>whnf);refine recO (getC) ?_
  cases rm with
  | true =>
   (conv=>whnf)
   refine setO_at setC ?_
   (conv=>whnf);refine recO (getC) ?_
   (conv=>whnf);refine ACalls.mono (sputFlag_spec F.z12 _ 1 l true rfl hll) ?_
   rintro r H1 ⟨rfl,rfl⟩
   (conv=>whnf);refine ACalls.mono (sputText_spec F.z13 _ 1 (l ++ [1]) nm rfl (by simp;omega) (by omega)) ?_
   rintro r H1 ⟨rfl,rfl⟩
   (conv=>whnf);refine recO (getC) ?_
   conv=>whnf
   refine ⟨m - 1,by omega,Gp.keep rfl ?_ fun ρ1 h=>⟨k + 1,l ++ [1] ++ txI nm,_,by omega,by rw [← hl,entI];simp,rfl,h⟩⟩
   exact ⟨rfl,rfl,rfl,rfl,intEq (wrapI ((k : Int) + 1) (by omega) (by omega)),trivial⟩
  | false =>
   (conv=>whnf)
   refine setO_at setC ?_
   (conv=>whnf);refine recO (getC) ?_
   (conv=>whnf);refine ACalls.mono (sputFlag_spec F.z12 _ 1 l false rfl hll) ?_
   rintro r H1 ⟨rfl,rfl⟩
   (conv=>whnf);refine ACalls.mono (sputText_spec F.z13 _ 1 (l ++ [0]) nm rfl (by simp;omega) (by omega)) ?_
   rintro r H1 ⟨rfl,rfl⟩
   (conv=>whnf);refine recO (getC) ?_
   (conv=>whnf);refine recO (getC) ?_
   (conv=>whnf);refine ⟨_,_,sput_spec F.z11 _ 1 (l ++ [0] ++ txI nm) 4 ((bC data).length : Nat) rfl (by simp;omega) (by omega) (by omega),?_⟩
   (conv=>whnf);refine recO (getC) ?_
   have hdl:=bC_length data
   have hdl2 : data.length ≤ 90000:=by rw [entI] at hl3;simp at hl3;omega
   (conv=>whnf);refine recT (by rw [bC_length (l ++ [0] ++ txI nm ++ beN 4 ((bC data).length : Nat))];exact Nat.beq_refl _) ?_
   (conv=>whnf);refine And.intro (⟨roomB_le1 (by simp [bC_length,beN_length,hl5];omega),roomB_le (by simp [bC_length,beN_length,hl5];omega),rfl,(bC_length _).symm⟩) ?_
   (conv=>whnf)
   refine And.intro ?_ ?_
   ·(conv=>whnf);refine recO (getC) ?_
    conv=>whnf
   conv=>whnf
   have eb : bC (l ++ [0] ++ txI nm ++ beN 4 ((bC data).length : Nat)) ++ bC data = bC (l ++ [0] ++ txI nm ++ beN 4 data.length ++ data):=by rw [hdl,← bC_append]
   refine ⟨m - 1,by omega,Gp.keep rfl ?_ fun ρ1 h=>⟨k + 1,l ++ [0] ++ txI nm ++ beN 4 data.length ++ data,_,by omega,by rw [← hl,entI];simp,congrArg (fun e=>AObj.map kvs :: AObj.arr 1 e :: _) eb,h⟩⟩
   ·refine ⟨rfl,?_,rfl,rfl,intEq (wrapI ((k : Int) + 1) (by omega) (by omega)),trivial⟩
    show AVal.sl 1 (bC (l ++ [0] ++ txI nm ++ beN 4 ((bC data).length : Nat)) ++ bC data).length 0 (bC (l ++ [0] ++ txI nm ++ beN 4 ((bC data).length : Nat)) ++ bC data).length = _
    rw [eb,bC_length];rfl
 ·simp at hlt
  rw [List.drop_eq_nil_of_le hlt,List.flatMap_nil,List.append_nil] at hl
  subst hl
  conv=>whnf
  exact ⟨rfl,_,rfl⟩
theorem pay_spec {P : Program} (F : F_z10 P) (hS : SKeys P F.slices_Sorted_string.id F.z0f.maps_Keys_mapstringstorechange_string_storechange_1.id)
  (env : ByteArray) {kvs : List (AVal × AVal)} {c : List (ByteArray × Chg)} (pc : PM RC kvs c) (sc : KSrt c) (hsz : (payI env c).length ≤ 90000) {H : List AObj} {idc : Nat} (hc : H[idc]? = some (.map kvs)) :
  ACalls P F.id [.str env,.mp idc] H (fun r H'=>r = .list false 1 (bC (payI env c)) ∧ H' = H):=by
 have hcl : kvs.all (fun kv=>kv.2.closed) = true:=by
  rw [List.all_eq_true]
  intro kv hkv
  obtain ⟨i,hi⟩:=List.getElem?_of_mem hkv
  obtain ⟨k,x,a,rfl,_,rfl⟩:=pc.get hi
  show (chgC a).closed = true
  obtain ⟨rm,data⟩:=a
  cases rm <;> rfl
 have h1 : ACalls P F.id [.str env,.mp 0] [.map kvs] (fun r H'=>r = .list false 1 (bC (payI env c)) ∧ H' = [.map kvs]):=by
  refine (pay_raw F hS env pc sc hsz).gp ?_
  rintro r H1 ⟨rfl,G,rfl⟩
  refine Gp.res (r':=.list false 1 (bC (payI env c))) (H1:=[.map kvs]) [0] (by simp) (keepB_one rfl rfl rfl) ⟨⟨_,rfl,.mpc _ hcl⟩,trivial⟩ (pubFI (by simp) rfl (bC_length _).symm (bC_length _).symm (pureEs_bC _)) ?_
  exact ⟨_,rfl,rfl,rfl⟩
 refine h1.frL [idc] (by simp) rfl ⟨⟨_,hc,?_⟩,trivial⟩ ⟨.closed _ rfl,.mp 0,trivial⟩ (.closed _ rfl) (by simp) ⟨⟨_,hc,?_⟩,trivial⟩ (othH_self [idc] [] H)
 all_goals
  refine RenNO.map kvs kvs rfl fun i e e1 h1 h2=>?_
  rw [h1] at h2
  cases h2
  exact ⟨rfl,.closed _ (List.all_eq_true.1 hcl _ (List.mem_of_getElem? h1))⟩
def comS (σ : Sto) (env : ByteArray) (d : List (ByteArray × List Int)) (l : List Int) : Sto:=mvS (vvS (vbS (lgS σ l) env d) env (σ.vers env + 1)) env
def commitR (env : ByteArray) (σ : Sto) : Int × Sto :=
 if nameB env = false then (4,σ) else if (σ.staged env).length = 0 then (13,σ)
 else if 256 < (afterL (σ.blobs env) (σ.staged env)).length then (2,σ)
 else if jFull σ.log (payI env (σ.staged env)) = true then (2,σ)
 else (0,comS σ env (afterL (σ.blobs env) (σ.staged env)) (σ.log ++ jEnt (payI env (σ.staged env))))
def spayI (a b : ByteArray) : List Int:=2 :: txI a ++ txI b
def swapR (a b : ByteArray) (σ : Sto) : Int × Sto :=
 if (nameB a && nameB b) = false then (4,σ) else if a = b then (6,σ)
 else if jFull σ.log (spayI a b) = true then (2,σ)
 else (0,swpS (lgS σ (σ.log ++ jEnt (spayI a b))) a b)
structure Sto.Fit (σ : Sto) : Prop where
 sb : ∀ e,KSrt (σ.blobs e)
 ss : ∀ e,KSrt (σ.staged e)
 vs : ∀ e,-4000000 ≤ σ.vers e ∧ σ.vers e ≤ 4000000
 pl : ∀ e,nameB e = true → (payI e (σ.staged e)).length ≤ 90000
 lg : σ.log.length ≤ 5000000
theorem Post.adopt {H H' : List AObj} {ro ro' : Nat → Option Role} (h : Post H H' ro ro') {i : Nat} (hi : H.length ≤ i) {r : Role} : Post H H' ro (updR ro' i r) :=
 ⟨h.1,fun j hj hr=>by
  obtain ⟨a,b⟩:=h.2 j hj hr
  exact ⟨by rw [updR_other _ _ (by omega)];exact a,b⟩⟩
section
variable {H : List AObj} {s : Nat} {σ : Sto} {ro : Nat → Option Role} {z : SP}
set_option maxRecDepth 20000 in
theorem Commit_spec {P : Program} (F : F_z0j P) (hCl : MClone P F.z0t.z0d.id)
  (hS : SKeys P F.z10.slices_Sorted_string.id F.z10.z0f.maps_Keys_mapstringstorechange_string_storechange_1.id)
  (h : RepP H s σ ro z) (env : ByteArray) (hf : σ.Fit) :
  Acts P F.id [.ptr s 1 0 0,.str env] H s ro (.int .i64 (commitR env σ).1) (commitR env σ).2:=by
 unfold commitR
 have he:=h.eT env
 cases h1 : nameB env with
 | false =>
  rw [if_pos rfl]
  refine ⟨.int .i64 4,H,?_,rfl,_,_,h,Post.refl _ _⟩
  refine acalls_of_body F.has ?_
  (conv=>whnf);refine recO (h.hs) ?_
  (conv=>whnf);refine recO (h.ht) ?_
  (conv=>whnf);refine recT (h.pT.ok env) ?_
  rcases h.pT.find h.sT env with ⟨e1,e2⟩ | ⟨x,c,e1,e2,hR⟩
  ·(conv=>whnf);refine recN e1 ?_
   (conv=>whnf);refine ACalls.use (schema_IsName_spec F.z0g env _) ?_
   (conv=>whnf);refine recT (by rw [h1];rfl) ?_
   conv=>whnf
   exact ⟨rfl,rfl⟩
  ·(conv=>whnf);refine recO (e1) ?_
   (conv=>whnf);refine ACalls.use (schema_IsName_spec F.z0g env _) ?_
   (conv=>whnf);refine recT (by rw [h1];rfl) ?_
   conv=>whnf
   exact ⟨rfl,rfl⟩
 | true =>
 rw [if_neg (by simp)]
 rcases h.pT.find h.sT env with ⟨e1,e2⟩ | ⟨x,c,e1,e2,id,kvs,rfl,h3,h4,h5⟩
 ·rw [e2] at he
  rw [if_pos (by rw [he];rfl)]
  refine ⟨.int .i64 13,H,?_,rfl,_,_,h,Post.refl _ _⟩
  refine acalls_of_body F.has ?_
  (conv=>whnf);refine recO (h.hs) ?_
  (conv=>whnf);refine recO (h.ht) ?_
  (conv=>whnf);refine recT (h.pT.ok env) ?_
  (conv=>whnf);refine recN e1 ?_
  (conv=>whnf);refine ACalls.use (schema_IsName_spec F.z0g env _) ?_
  (conv=>whnf);refine recF (by rw [h1];rfl) ?_
  conv=>whnf
  exact ⟨rfl,rfl⟩
 rw [e2] at he
 have he' : σ.staged env = c:=he
 have hkl:=h5.len
 have sc : KSrt c:=by rw [← he'];exact hf.ss env
 have hpl:=hf.pl env h1
 rw [he'] at hpl ⊢
 by_cases h6 : c.length = 0
 ·rw [if_pos h6]
  refine ⟨.int .i64 13,H,?_,rfl,_,_,h,Post.refl _ _⟩
  refine acalls_of_body F.has ?_
  (conv=>whnf);refine recO (h.hs) ?_
  (conv=>whnf);refine recO (h.ht) ?_
  (conv=>whnf);refine recT (h.pT.ok env) ?_
  (conv=>whnf);refine recO (e1) ?_
  (conv=>whnf);refine ACalls.use (schema_IsName_spec F.z0g env _) ?_
  (conv=>whnf);refine recF (by rw [h1];rfl) ?_
  (conv=>whnf);refine recO (h4) ?_
  (conv=>whnf);refine recT (by simp [hkl,h6]) ?_
  conv=>whnf
  exact ⟨rfl,rfl⟩
 rw [if_neg h6]
 have haf:=after_spec F.z0t hCl h env (hf.sb env) h4 h5 sc
 have h':=h.app (X:=[.map (canK rdF (afterL (σ.blobs env) c))])
 have hp':=Post.app H [.map (canK rdF (afterL (σ.blobs env) c))] ro
 by_cases h7 : 256 < (afterL (σ.blobs env) c).length
 ·rw [if_pos h7]
  unfold afterV at haf
  rw [if_neg (by omega)] at haf
  refine ⟨.int .i64 2,_,?_,rfl,_,_,h',hp'⟩
  refine acalls_of_body F.has ?_
  (conv=>whnf);refine recO (h.hs) ?_
  (conv=>whnf);refine recO (h.ht) ?_
  (conv=>whnf);refine recT (h.pT.ok env) ?_
  (conv=>whnf);refine recO (e1) ?_
  (conv=>whnf);refine ACalls.use (schema_IsName_spec F.z0g env _) ?_
  (conv=>whnf);refine recF (by rw [h1];rfl) ?_
  (conv=>whnf);refine recO (h4) ?_
  (conv=>whnf);refine recF (by simp [hkl,h6]) ?_
  (conv=>whnf);refine ACalls.mono (haf) ?_
  rintro r H1 ⟨rfl,rfl⟩
  conv=>whnf
  exact ⟨rfl,rfl⟩
 rw [if_neg h7]
 unfold afterV at haf
 rw [if_pos (by omega)] at haf
 have hap:=jAppend_spec F.z08 false false σ.log (payI env c) (by have:=hf.lg;omega) (by omega)
 have hpay:=pay_spec F.z10 hS env h5 sc hpl (at_old h4 (X:=[.map (canK rdF (afterL (σ.blobs env) c))]))
 unfold jApp at hap
 cases h8 : jFull σ.log (payI env c) with
 | true =>
  rw [if_pos rfl]
  rw [h8,if_pos rfl] at hap
  refine ⟨.int .i64 2,_,?_,rfl,_,_,h',hp'⟩
  refine acalls_of_body F.has ?_
  (conv=>whnf);refine recO (h.hs) ?_
  (conv=>whnf);refine recO (h.ht) ?_
  (conv=>whnf);refine recT (h.pT.ok env) ?_
  (conv=>whnf);refine recO (e1) ?_
  (conv=>whnf);refine ACalls.use (schema_IsName_spec F.z0g env _) ?_
  (conv=>whnf);refine recF (by rw [h1];rfl) ?_
  (conv=>whnf);refine recO (h4) ?_
  (conv=>whnf);refine recF (by simp [hkl,h6]) ?_
  (conv=>whnf);refine ACalls.mono (haf) ?_
  rintro r H1 ⟨rfl,rfl⟩
  (conv=>whnf);refine recO (h'.hs) ?_
  (conv=>whnf);refine ⟨_,hpay,?_⟩
  (conv=>whnf);refine ⟨_,hap _,?_⟩
  conv=>whnf
  exact ⟨rfl,rfl⟩
 | false =>
  rw [if_neg (by simp)]
  rw [h8,if_neg (by simp)] at hap
  have hro : ro H.length = none:=h.fresh (Nat.le_refl _)
  have h2:=(h'.adopt hro (by simp)).lg (σ.log ++ jEnt (payI env c))
  have hrb : RB ((H ++ [AObj.map (canK rdF (afterL (σ.blobs env) c))]).set s (.arr 4 [[.mp z.b,.mp z.t,.mp z.v,.list false 1 (bC (σ.log ++ jEnt (payI env c)))]])) (updR ro H.length .blob) env (.mp H.length) (afterL (σ.blobs env) c):=by
   refine .inr ⟨H.length,canK rdF (afterL (σ.blobs env) c),rfl,updR_same _ _ _,?_,PM.can (f:=rdF) _⟩
   rw [get_ne' (fun e=>by have:=h.lt _ h.ns;omega)];simp
  obtain ⟨h9,h10⟩:=h2.com env hrb (σ.vers env + 1)
  refine ⟨.int .i64 0,_,?_,rfl,_,_,h9,?_⟩
  ·refine acalls_of_body F.has ?_
   (conv=>whnf);refine recO (h.hs) ?_
   (conv=>whnf);refine recO (h.ht) ?_
   (conv=>whnf);refine recT (h.pT.ok env) ?_
   (conv=>whnf);refine recO (e1) ?_
   (conv=>whnf);refine ACalls.use (schema_IsName_spec F.z0g env _) ?_
   (conv=>whnf);refine recF (by rw [h1];rfl) ?_
   (conv=>whnf);refine recO (h4) ?_
   (conv=>whnf);refine recF (by simp [hkl,h6]) ?_
   (conv=>whnf);refine ACalls.mono (haf) ?_
   rintro r H1 ⟨rfl,rfl⟩
   (conv=>whnf);refine recO (h'.hs) ?_
   (conv=>whnf);refine ⟨_,hpay,?_⟩
   (conv=>whnf);refine ⟨_,hap _,?_⟩
   (conv=>whnf);refine recO (h'.hs) ?_
   (conv=>whnf)
   refine setO_at rfl ?_
   (conv=>whnf);refine ACalls.mono (commit_spec F.z0v h2 env hrb (hf.vs env)) ?_
   rintro r H1 ⟨rfl,rfl⟩
   conv=>whnf
   exact ⟨rfl,rfl⟩
  ·exact ((hp'.adopt (Nat.le_refl _)).set _ (.inl h.ns)).trans h10
end
set_option maxRecDepth 20000 in
theorem jApp_raw {P : Program} (F : F_z08 P) (e1 e2 : Bool) (zs p : List Int) (hz : zs.length ≤ 10000000) (hp : p.length ≤ 10000000) :
  ACalls P F.id [.list e1 1 (bC zs),.list e2 1 (bC p)] [] (fun r H'=>(jFull zs p = true ∧ r = .tuple [.nil,.int .i64 2] ∧ H' = []) ∨ (jFull zs p = false ∧ r = .tuple [bsl 0 (zs ++ jEnt p),.int .i64 0] ∧ H' = [bO (zs ++ jEnt p)])):=by
 have w1 : IntKind.i64.wrap (((bC zs).length : Int) + 8) = (zs.length : Int) + 8:=by rw [bC_length];exact wrapI _ (by omega) (by omega)
 have w2 : IntKind.i64.wrap ((zs.length : Int) + 8 + ((bC p).length : Int)) = (zs.length : Int) + 8 + p.length:=by rw [bC_length];exact wrapI _ (by omega) (by omega)
 have e3 : IntKind.u32.wrap ((bC p).length : Int) = p.length:=by rw [bC_length];exact u32_small (by omega)
 refine acalls_of_body F.has ?_
 conv=>whnf
 (conv=>whnf);refine recA (fun h1=>?_) (fun h1=>?_)
 ·have hf : jFull zs p = true:=by rw [bC_length] at h1;simp at h1;simp [jFull];omega
  conv=>whnf
  exact .inl ⟨hf,rfl,rfl⟩
 have h1' : ¬ 65536 < p.length:=by rw [bC_length] at h1;simp at h1;omega
 conv=>whnf
 rw [w1,w2]
 (conv=>whnf);refine recA (fun h2=>?_) (fun h2=>?_)
 ·have hf : jFull zs p = true:=by simp at h2;simp [jFull];omega
  conv=>whnf
  exact .inl ⟨hf,rfl,rfl⟩
 have hf : jFull zs p = false:=by simp at h2;simp [jFull];omega
 (conv=>whnf);refine ACalls.mono (bClone_raw F.z06 e1 zs (by omega)) ?_
 rintro r H1 (⟨rfl,h3,rfl⟩ | ⟨rfl,rfl⟩)
 ·subst h3
  conv=>whnf
  rw [e3]
  (conv=>whnf);refine ACalls.mono (jput4_nil F.z0b p.length) ?_
  rintro r H1 ⟨rfl,rfl⟩
  conv=>whnf
  (conv=>whnf);refine ACalls.use (jsum_spec F.z0c e2 p hp _) ?_
  (conv=>whnf);refine ACalls.mono (jput4_own2 F.z0b ([] ++ beN 4 (p.length : Int)) _ (fnv (jBody p)) (by simp [beN_length]) (fnv_bound _).1 (fnv_bound _).2 (by rw [List.length_append,beN_length];omega)) ?_
  rintro r H1 ⟨rfl,rfl⟩
  try ((conv=>whnf);refine recT (by rw [bC_length];simp [beN_length]) ?_)
  (conv=>whnf);refine And.intro (⟨roomB_le1 (by simp [bC_length,beN_length];omega),roomB_le (by simp [bC_length,beN_length];omega),rfl,by simp [bC_length,beN_length]⟩) ?_
  conv=>whnf
  have e5 : bC ([] ++ beN 4 (p.length : Int) ++ beN 4 (fnv (jBody p))) ++ bC p = bC ([] ++ jEnt p):=by rw [← bC_append,jEnt];simp only [List.append_assoc]
  refine .inr ⟨hf,?_,by rw [← show AObj.arr 1 (bC ([] ++ jEnt p)) = bO ([] ++ jEnt p) from rfl,← e5]⟩
  show AVal.tuple [.sl 0 (bC ([] ++ beN 4 (p.length : Int) ++ beN 4 (fnv (jBody p))) ++ bC p).length 0 (bC ([] ++ beN 4 (p.length : Int) ++ beN 4 (fnv (jBody p))) ++ bC p).length,.int .i64 0] = _
  rw [e5,bC_length];rfl
 ·conv=>whnf
  rw [e3]
  (conv=>whnf);refine ACalls.mono (jput4_own2 F.z0b zs _ p.length rfl (by omega) (by omega) (by omega)) ?_
  rintro r H1 ⟨rfl,rfl⟩
  conv=>whnf
  (conv=>whnf);refine ACalls.use (jsum_spec F.z0c e2 p hp _) ?_
  (conv=>whnf);refine ACalls.mono (jput4_own2 F.z0b (zs ++ beN 4 (p.length : Int)) _ (fnv (jBody p)) (by simp [beN_length]) (fnv_bound _).1 (fnv_bound _).2 (by rw [List.length_append,beN_length];omega)) ?_
  rintro r H1 ⟨rfl,rfl⟩
  try ((conv=>whnf);refine recT (by rw [bC_length];simp [beN_length]) ?_)
  (conv=>whnf);refine And.intro (⟨roomB_le1 (by simp [bC_length,beN_length];omega),roomB_le (by simp [bC_length,beN_length];omega),rfl,by simp [bC_length,beN_length]⟩) ?_
  conv=>whnf
  have e5 : bC (zs ++ beN 4 (p.length : Int) ++ beN 4 (fnv (jBody p))) ++ bC p = bC (zs ++ jEnt p):=by rw [← bC_append,jEnt];simp only [List.append_assoc]
  refine .inr ⟨hf,?_,by rw [← show AObj.arr 1 (bC (zs ++ jEnt p)) = bO (zs ++ jEnt p) from rfl,← e5]⟩
  show AVal.tuple [.sl 0 (bC (zs ++ beN 4 (p.length : Int) ++ beN 4 (fnv (jBody p))) ++ bC p).length 0 (bC (zs ++ beN 4 (p.length : Int) ++ beN 4 (fnv (jBody p))) ++ bC p).length,.int .i64 0] = _
  rw [e5,bC_length];rfl
theorem bO_lits (l : List Int) : (bO l).lits:=fun e he d hd=>by
 obtain ⟨n,_,rfl⟩:=List.mem_map.1 he
 simp at hd;subst hd;rfl
theorem jApp_own {P : Program} (F : F_z08 P) (zs p : List Int) (hz : zs.length ≤ 10000000) (hp : p.length ≤ 10000000) {H : List AObj} {id : Nat} (ho : H[id]? = some (bO p)) :
  ACalls P F.id [.list false 1 (bC zs),bsl id p] H (fun r H'=>r = jApp zs p ∧ H' = H):=by
 have h0:=jApp_raw F false false zs p hz hp
 have hlent : ∀ (i : Nat) (a b : AVal),[AVal.list false 1 (bC zs),bsl 0 p][i]? = some a → [AVal.list false 1 (bC zs),.list false 1 (bC p)][i]? = some b → Pub [bO p] 0 [] a b:=fun i a b ha hb=>by
  rcases i with _ | _ | i
  ·cases ha;cases hb;exact .closed _ rfl
  ·cases ha;cases hb
   exact pubFI (by simp) rfl (by rw [bC_length]) (by rw [bC_length]) (pureEs_bC _)
  ·simp at ha
 have h1 : ACalls P F.id [.list false 1 (bC zs),bsl 0 p] [bO p] (fun r H'=>r = jApp zs p ∧ H' = [bO p]):=by
  unfold jApp
  cases hf : jFull zs p with
  | true =>
   rw [if_pos rfl]
   have h2:=(h0.mono (Q':=fun r H'=>r = .tuple [.nil,.int .i64 2] ∧ H' = []) fun r H' h=>by
    rcases h with ⟨_,h1,h2⟩ | ⟨h3,_⟩
    ·exact ⟨h1,h2⟩
    ·rw [hf] at h3;cases h3).borG (args:=[.list false 1 (bC zs),bsl 0 p]) (H:=[bO p]) rfl hlent (.tuple _ _ rfl fun i v r hv hr=>by rw [hv] at hr;cases hr;rcases i with _ | _ | i <;> simp at hv <;> subst hv <;> exact .sc _ rfl) (fun o ho=>by simp at ho)
   simpa using h2
  | false =>
   rw [if_neg (by simp)]
   have h2:=(h0.mono (Q':=fun r H'=>r = .tuple [bsl 0 (zs ++ jEnt p),.int .i64 0] ∧ H' = [bO (zs ++ jEnt p)]) fun r H' h=>by
    rcases h with ⟨h3,_⟩ | ⟨_,h1,h2⟩
    ·rw [hf] at h3;cases h3
    ·exact ⟨h1,h2⟩).borG (args:=[.list false 1 (bC zs),bsl 0 p]) (H:=[bO p]) (R':=.tuple [bsl 1 (zs ++ jEnt p),.int .i64 0]) rfl hlent (.tuple _ _ rfl fun i v r hv hr=>by
     rcases i with _ | _ | i
     ·cases hv;cases hr;exact .sl 0 _ _ _
     ·cases hv;cases hr;exact .sc _ rfl
     ·simp at hv) (fun o ho=>by simp at ho;subst ho;exact bO_lits _)
   refine h2.gpI [0] (by simp) (keepB_one rfl rfl rfl) ⟨⟨_,rfl,.same _ _ (pureEs_bC _)⟩,trivial⟩ ?_
   refine .tuple _ _ rfl fun i v r hv hr=>?_
   rcases i with _ | _ | i
   ·cases hv;cases hr
    exact pubFI (by simp) rfl (bC_length _).symm (bC_length _).symm (pureEs_bC _)
   ·cases hv;cases hr;exact .closed _ rfl
   ·simp at hv
 refine h1.frL [id] (by simp) rfl ⟨⟨_,ho,.same (pureEs_bC _)⟩,trivial⟩ ⟨.closed _ rfl,.sl 0 _ _ _,trivial⟩ ?_ (by simp) ⟨⟨_,ho,.same (pureEs_bC _)⟩,trivial⟩ (othH_self [id] [] H)
 unfold jApp
 split
 ·exact .tuple _ _ rfl fun i v r hv hr=>by rw [hv] at hr;cases hr;rcases i with _ | _ | i <;> simp at hv <;> subst hv <;> exact .closed _ rfl
 ·exact .tuple _ _ rfl fun i v r hv hr=>by rw [hv] at hr;cases hr;rcases i with _ | _ | i <;> simp at hv <;> subst hv <;> exact .closed _ rfl
section
variable {H : List AObj} {s : Nat} {σ : Sto} {ro : Nat → Option Role} {z : SP}
theorem putSnoc {P : Program} (F : F_z13 P) (H : List AObj) (l : List Int) (s : ByteArray) (hl : l.length ≤ 100000) (hs : s.size ≤ 100000) :
  ACalls P F.id [bsl (0 + H.length) l,.str s] (H ++ [bO l]) (fun r H'=>r = bsl (0 + H.length) (l ++ txI s) ∧ H' = H ++ [bO (l ++ txI s)]):=by
 have:=sputText_spec F (H ++ [bO l]) (0 + H.length) l s (at_snoc H _) hl hs
 rw [set_snoc] at this
 exact this
theorem nameB_len {s : ByteArray} (h : nameB s = true) : s.size ≤ 255:=by
 simp [nameB] at h
 omega
set_option maxRecDepth 20000 in
theorem Swap_spec {P : Program} (F : F_z0r P) (h : RepP H s σ ro z) (a b : ByteArray) (hf : σ.Fit) :
  Acts P F.id [.ptr s 1 0 0,.str a,.str b] H s ro (.int .i64 (swapR a b σ).1) (swapR a b σ).2:=by
 unfold swapR
 cases h1 : nameB a with
 | false =>
  rw [if_pos (by rfl)]
  refine ⟨.int .i64 4,H,?_,rfl,_,_,h,Post.refl _ _⟩
  refine acalls_of_body F.has ?_
  (conv=>whnf);refine ACalls.use (schema_IsName_spec F.z0g a _) ?_
  (conv=>whnf);refine recT (by rw [h1];rfl) ?_
  conv=>whnf
  exact ⟨rfl,rfl⟩
 | true =>
 cases h2 : nameB b with
 | false =>
  rw [if_pos (by rfl)]
  refine ⟨.int .i64 4,H,?_,rfl,_,_,h,Post.refl _ _⟩
  refine acalls_of_body F.has ?_
  (conv=>whnf);refine ACalls.use (schema_IsName_spec F.z0g a _) ?_
  (conv=>whnf);refine recF (by rw [h1];rfl) ?_
  (conv=>whnf);refine ACalls.use (schema_IsName_spec F.z0g b _) ?_
  (conv=>whnf);refine recT (by rw [h2];rfl) ?_
  conv=>whnf
  exact ⟨rfl,rfl⟩
 | true =>
 rw [if_neg (by decide)]
 have l1:=nameB_len h1
 have l2:=nameB_len h2
 by_cases h3 : a = b
 ·rw [if_pos h3]
  refine ⟨.int .i64 6,H,?_,rfl,_,_,h,Post.refl _ _⟩
  refine acalls_of_body F.has ?_
  (conv=>whnf);refine ACalls.use (schema_IsName_spec F.z0g a _) ?_
  (conv=>whnf);refine recF (by rw [h1];rfl) ?_
  (conv=>whnf);refine ACalls.use (schema_IsName_spec F.z0g b _) ?_
  (conv=>whnf);refine recF (by rw [h2];rfl) ?_
  (conv=>whnf);refine recT (by subst h3;exact kEq_refl _) ?_
  conv=>whnf
  exact ⟨rfl,rfl⟩
 rw [if_neg h3]
 have h' : ∀ o,RepP (H ++ [o]) s σ ro z:=fun o=>h.app
 have htx : ∀ t : ByteArray,(txI t).length = t.size + 1:=fun t=>by simp [txI,bytesI_length]
 have e0 : [2] ++ txI a ++ txI b = spayI a b:=rfl
 have p1:=putSnoc F.z13 H [2] a (by simp) (by omega)
 have p2:=putSnoc F.z13 H ([2] ++ txI a) b (by simp [htx];omega) (by omega)
 have hlen : (spayI a b).length ≤ 100000:=by simp [spayI,htx];omega
 have hap:=jApp_own F.z08 σ.log (spayI a b) (by have:=hf.lg;omega) (by omega) (at_snoc H (bO (spayI a b)))
 unfold jApp at hap
 rw [e0] at p2
 have hp':=Post.app H [bO (spayI a b)] ro
 cases h8 : jFull σ.log (spayI a b) with
 | true =>
  rw [if_pos (by rfl)]
  rw [h8,if_pos (by rfl)] at hap
  refine ⟨.int .i64 2,_,?_,rfl,_,_,h' (bO (spayI a b)),hp'⟩
  refine acalls_of_body F.has ?_
  (conv=>whnf);refine ACalls.use (schema_IsName_spec F.z0g a _) ?_
  (conv=>whnf);refine recF (by rw [h1];rfl) ?_
  (conv=>whnf);refine ACalls.use (schema_IsName_spec F.z0g b _) ?_
  (conv=>whnf);refine recF (by rw [h2];rfl) ?_
  (conv=>whnf);refine recF (kEq_false h3) ?_
  (conv=>whnf);refine recO (h.hs) ?_
  (conv=>whnf);refine snocK_to ?_
  (conv=>whnf);refine ⟨_,_,p1,?_⟩
  (conv=>whnf);refine ⟨_,_,p2,?_⟩
  (conv=>whnf);refine ⟨_,hap,?_⟩
  conv=>whnf
  refine And.intro ?_ ?_
  ·(conv=>whnf);refine recO ((h' _).hs) ?_
   conv=>whnf
  conv=>whnf
  refine And.intro ?_ ?_
  ·(conv=>whnf);refine recO ((h' _).hs) ?_
   conv=>whnf
  conv=>whnf
  refine And.intro ?_ ?_
  ·(conv=>whnf);refine recO ((h' _).hs) ?_
   conv=>whnf
  conv=>whnf
  exact ⟨rfl,rfl⟩
 | false =>
  rw [if_neg (by decide)]
  rw [h8,if_neg (by decide)] at hap
  have h2':=(h' (bO (spayI a b))).lg (σ.log ++ jEnt (spayI a b))
  obtain ⟨h9,h10⟩:=h2'.swp h3
  refine ⟨.int .i64 0,_,?_,rfl,_,_,h9,?_⟩
  ·refine acalls_of_body F.has ?_
   (conv=>whnf);refine ACalls.use (schema_IsName_spec F.z0g a _) ?_
   (conv=>whnf);refine recF (by rw [h1];rfl) ?_
   (conv=>whnf);refine ACalls.use (schema_IsName_spec F.z0g b _) ?_
   (conv=>whnf);refine recF (by rw [h2];rfl) ?_
   (conv=>whnf);refine recF (kEq_false h3) ?_
   (conv=>whnf);refine recO (h.hs) ?_
   (conv=>whnf);refine snocK_to ?_
   (conv=>whnf);refine ⟨_,_,p1,?_⟩
   (conv=>whnf);refine ⟨_,_,p2,?_⟩
   (conv=>whnf);refine ⟨_,hap,?_⟩
   conv=>whnf
   refine And.intro ?_ ?_
   ·(conv=>whnf);refine recO ((h' _).hs) ?_
    conv=>whnf
   conv=>whnf
   refine And.intro ?_ ?_
   ·(conv=>whnf);refine recO ((h' _).hs) ?_
    conv=>whnf
   conv=>whnf
   refine And.intro ?_ ?_
   ·(conv=>whnf);refine recO ((h' _).hs) ?_
    conv=>whnf
   (conv=>whnf);refine recO ((h' _).hs) ?_
   (conv=>whnf)
   refine setO_at rfl ?_
   (conv=>whnf);refine ACalls.mono (swap_spec F.z0z h2' h3 hf.vs) ?_
   rintro r H1 ⟨rfl,rfl⟩
   conv=>whnf
   exact ⟨rfl,rfl⟩
  ·exact (hp'.set _ (.inl h.ns)).trans h10
end
theorem ACalls.cutC {P : Program} {f : FuncId} {args : List AVal} {H : List AObj} {R : AVal} (hR : Bel H.length R) (h : ACalls P f args H (fun r H'=>r = R ∧ ∃ G,H' = H ++ G)) : ACalls P f args H (fun r H'=>r = R ∧ H' = H):=by
 refine ACalls.cut (h.mono ?_)
 rintro r H1 ⟨rfl,G,rfl⟩
 exact ⟨H,G,rfl,⟨rfl,rfl⟩,Nat.le_refl _,hR,fun i o ho=>.inl ho⟩
set_option maxRecDepth 20000 in
theorem keysC_spec {P : Program} (F : F_z0f P) (H : List AObj) (m : AVal) (hm : m = .nilm ∨ ∃ id,m = .mp id) : ACalls P F.id [m] H (fun r H'=>r = .fn F.maps_Keys_mapstringstorechange_string_storechange_1.id [.ptr (0 + H.length) 1 0 0] ∧ H' = H ++ [.arr 1 [[m]]]):=by
 refine acalls_of_body F.has ?_
 rcases hm with rfl | ⟨id,rfl⟩
 all_goals
  (conv=>whnf)
  refine snocK_to ?_
  conv=>whnf
  exact ⟨rfl,rfl⟩
set_option maxRecDepth 20000 in
theorem keysB_spec {P : Program} (F : F_z0e P) (H : List AObj) (m : AVal) (hm : m = .nilm ∨ ∃ id,m = .mp id) : ACalls P F.id [m] H (fun r H'=>r = .fn F.maps_Keys_mapstringLbyte_string_Lbyte_1.id [.ptr (0 + H.length) 1 0 0] ∧ H' = H ++ [.arr 1 [[m]]]):=by
 refine acalls_of_body F.has ?_
 rcases hm with rfl | ⟨id,rfl⟩
 all_goals
  (conv=>whnf)
  refine snocK_to ?_
  conv=>whnf
  exact ⟨rfl,rfl⟩
section
variable {H : List AObj} {s : Nat} {σ : Sto} {ro : Nat → Option Role} {z : SP}
set_option maxRecDepth 20000 in
theorem Names_spec {P : Program} (F : F_z0m P) (hS : SKeys P F.slices_Sorted_string.id F.z0e.maps_Keys_mapstringLbyte_string_Lbyte_1.id) (h : RepP H s σ ro z) (hf : σ.Fit) (env : ByteArray) (hn : (σ.blobs env).length ≤ 1000000) (hk : ∀ p ∈ σ.blobs env,p.1.size ≤ 1000000) :
  ACalls P F.id [.ptr s 1 0 0,.str env] H (fun r H'=>r = .list false 1 (keyC (σ.blobs env)) ∧ H' = H):=by
 refine ACalls.cutC (.closed _ rfl) ?_
 have he:=h.eB env
 refine acalls_of_body F.has ?_
 (conv=>whnf);refine recO (h.hs) ?_
 (conv=>whnf);refine recO (h.hb) ?_
 (conv=>whnf);refine recT (h.pB.ok env) ?_
 rcases h.pB.find h.sB env with ⟨e1,e2⟩ | ⟨y,d,e1,e2,⟨rfl,rfl⟩ | ⟨id,kv,rfl,hr,hb,hp⟩⟩
 ·rw [e2] at he
  (conv=>whnf);refine recN e1 ?_
  (conv=>whnf);refine ACalls.mono (keysB_spec F.z0e _ _ (.inl rfl)) ?_
  rintro r H1 ⟨rfl,rfl⟩
  (conv=>whnf);refine ACalls.use (hS.2 _ _ (at_snoc H _)) ?_
  conv=>whnf
  rw [he]
  exact ⟨rfl,_,rfl⟩
 ·rw [e2] at he
  (conv=>whnf);refine recO (e1) ?_
  (conv=>whnf);refine ACalls.mono (keysB_spec F.z0e _ _ (.inl rfl)) ?_
  rintro r H1 ⟨rfl,rfl⟩
  (conv=>whnf);refine ACalls.use (hS.2 _ _ (at_snoc H _)) ?_
  conv=>whnf
  rw [he]
  exact ⟨rfl,_,rfl⟩
 ·rw [e2] at he
  (conv=>whnf);refine recO (e1) ?_
  (conv=>whnf);refine ACalls.mono (keysB_spec F.z0e _ _ (.inr ⟨_,rfl⟩)) ?_
  rintro r H1 ⟨rfl,rfl⟩
  have he' : σ.blobs env = d:=he
  (conv=>whnf);refine ACalls.use (hS.pm (at_snoc H _) (at_old hb) hp (by rw [← he'];exact hf.sb env) (by rw [← he'];exact hn) (by rw [← he'];exact hk)) ?_
  conv=>whnf
  rw [he']
  exact ⟨rfl,_,rfl⟩
set_option maxRecDepth 20000 in
theorem Staged_spec {P : Program} (F : F_z0q P) (hS : SKeys P F.slices_Sorted_string.id F.z0f.maps_Keys_mapstringstorechange_string_storechange_1.id) (h : RepP H s σ ro z) (hf : σ.Fit) (env : ByteArray) (hn : (σ.staged env).length ≤ 1000000) (hk : ∀ p ∈ σ.staged env,p.1.size ≤ 1000000) :
  ACalls P F.id [.ptr s 1 0 0,.str env] H (fun r H'=>r = .list false 1 (keyC (σ.staged env)) ∧ H' = H):=by
 refine ACalls.cutC (.closed _ rfl) ?_
 have he:=h.eT env
 refine acalls_of_body F.has ?_
 (conv=>whnf);refine recO (h.hs) ?_
 (conv=>whnf);refine recO (h.ht) ?_
 (conv=>whnf);refine recT (h.pT.ok env) ?_
 rcases h.pT.find h.sT env with ⟨e1,e2⟩ | ⟨y,d,e1,e2,id,kv,rfl,hr,hb,hp⟩
 ·rw [e2] at he
  (conv=>whnf);refine recN e1 ?_
  (conv=>whnf);refine ACalls.mono (keysC_spec F.z0f _ _ (.inl rfl)) ?_
  rintro r H1 ⟨rfl,rfl⟩
  (conv=>whnf);refine ACalls.use (hS.2 _ _ (at_snoc H _)) ?_
  conv=>whnf
  rw [he]
  exact ⟨rfl,_,rfl⟩
 ·rw [e2] at he
  (conv=>whnf);refine recO (e1) ?_
  (conv=>whnf);refine ACalls.mono (keysC_spec F.z0f _ _ (.inr ⟨_,rfl⟩)) ?_
  rintro r H1 ⟨rfl,rfl⟩
  have he' : σ.staged env = d:=he
  (conv=>whnf);refine ACalls.use (hS.pm (at_snoc H _) (at_old hb) hp (by rw [← he'];exact hf.ss env) (by rw [← he'];exact hn) (by rw [← he'];exact hk)) ?_
  conv=>whnf
  rw [he']
  exact ⟨rfl,_,rfl⟩
set_option maxRecDepth 20000 in
theorem Version_spec {P : Program} (F : F_z0s P) (h : RepP H s σ ro z) (env : ByteArray) :
  ACalls P F.id [.ptr s 1 0 0,.str env] H (fun r H'=>r = .int .i64 (σ.vers env) ∧ H' = H):=by
 have he:=h.eV env
 refine acalls_of_body F.has ?_
 (conv=>whnf);refine recO (h.hs) ?_
 (conv=>whnf);refine recO (h.hv) ?_
 (conv=>whnf);refine recT (h.pV.ok env) ?_
 rcases h.pV.find h.sV env with ⟨e1,e2⟩ | ⟨y,n,e1,e2,rfl⟩
 ·rw [e2] at he
  (conv=>whnf);refine recN e1 ?_
  conv=>whnf
  rw [he];exact ⟨rfl,rfl⟩
 ·rw [e2] at he
  (conv=>whnf);refine recO (e1) ?_
  conv=>whnf
  rw [he];exact ⟨rfl,rfl⟩
set_option maxRecDepth 20000 in
theorem Log_spec {P : Program} (F : F_z0l P) (h : RepP H s σ ro z) (hl : σ.log.length ≤ 90000000) :
  ACalls P F.id [.ptr s 1 0 0] H (fun r H'=>r = .list false 1 (bC σ.log) ∧ H' = H):=by
 refine acalls_of_body F.has ?_
 (conv=>whnf);refine recO (h.hs) ?_
 (conv=>whnf);refine ACalls.use (bClone_spec F.z06 false σ.log hl _) ?_
 conv=>whnf
 exact ⟨rfl,rfl⟩
def readV (σ : Sto) (env name : ByteArray) : List Int × Bool:=match kLk name (σ.blobs env) with
 | some d=>(d,true)
 | none=>([],false)
set_option maxRecDepth 20000 in
theorem Read_spec {P : Program} (F : F_z0n P) (h : RepP H s σ ro z) (hf : σ.Fit) (env name : ByteArray) (hd : ∀ d,kLk name (σ.blobs env) = some d → d.length ≤ 1000000) :
  ACalls P F.id [.ptr s 1 0 0,.str env,.str name] H (fun r H'=>r = .tuple [.list false 1 (bC (readV σ env name).1),.bool (readV σ env name).2] ∧ H' = H):=by
 have he:=h.eB env
 have hcn : ∀ H,ACalls P F.z06.id [.nil] H (fun r H'=>r = .list false 1 (bC []) ∧ H' = H):=fun H=>(bClone_spec F.z06 false [] (by simp) H).weakD (args:=[.nil]) (.cons (.nil _ _) .nil)
 unfold readV
 refine acalls_of_body F.has ?_
 (conv=>whnf);refine recO (h.hs) ?_
 (conv=>whnf);refine recO (h.hb) ?_
 (conv=>whnf);refine recT (h.pB.ok env) ?_
 rcases h.pB.find h.sB env with ⟨e1,e2⟩ | ⟨y,d,e1,e2,⟨rfl,rfl⟩ | ⟨id,kv,rfl,hr,hb,hp⟩⟩
 ·rw [e2] at he
  (conv=>whnf);refine recN e1 ?_
  (conv=>whnf);refine ACalls.use (hcn _) ?_
  conv=>whnf
  rw [he]
  exact ⟨rfl,rfl⟩
 ·rw [e2] at he
  (conv=>whnf);refine recO (e1) ?_
  (conv=>whnf);refine ACalls.use (hcn _) ?_
  conv=>whnf
  rw [he]
  exact ⟨rfl,rfl⟩
 ·rw [e2] at he
  have he' : σ.blobs env = d:=he
  rw [he'] at hd ⊢
  (conv=>whnf);refine recO (e1) ?_
  (conv=>whnf);refine recO (hb) ?_
  (conv=>whnf);refine recT (hp.ok name) ?_
  rcases hp.find (by rw [← he'];exact hf.sb env) name with ⟨g1,g2⟩ | ⟨y,dd,g1,g2,rfl⟩
  ·(conv=>whnf);refine recN g1 ?_
   (conv=>whnf);refine ACalls.use (hcn _) ?_
   conv=>whnf
   rw [g2]
   exact ⟨rfl,rfl⟩
  ·(conv=>whnf);refine recO (g1) ?_
   (conv=>whnf);refine ACalls.use (bClone_spec F.z06 false dd (by have:=hd dd g2;omega) _) ?_
   conv=>whnf
   rw [g2]
   exact ⟨rfl,rfl⟩
end
section
variable {H : List AObj} {s : Nat} {σ : Sto} {ro : Nat → Option Role} {z : SP}
theorem RepP.other (h : RepP H s σ ro z) {i : Nat} (hi : ro i = none) (o : AObj) : RepP (H.set i o) s σ ro z :=
 h.frame (fun j hj=>get_ne' (fun e=>by subst e;exact hj hi)) (by simp)
def rswapR (σ : Sto) (r : RdS) : Option (List Int × Sto) :=
 if (txS (txS r)).bad || !nameB (txV r) || !nameB (txV (txS r)) || kEq (txV r) (txV (txS r)) then none
 else some (spayI (txV r) (txV (txS r)),swpS σ (txV r) (txV (txS r)))
def Again (H0 : List AObj) (s : Nat) (ro : Nat → Option Role) (o : Option (List Int × Sto)) (v : AVal) (H' : List AObj) : Prop:=match o with
 | none=>v = .nil ∧ H0.length ≤ H'.length ∧ ∀ i,i < H0.length → H'[i]? = H0[i]?
 | some (pay,σ')=>(v = .list false 1 (bC pay) ∨ ∃ id,v = bsl id pay ∧ H'[id]? = some (bO pay)) ∧ ∃ ro' z',RepP H' s σ' ro' z' ∧ Post H0 H' ro ro'
set_option maxRecDepth 20000 in
theorem readSwap_spec {P : Program} (F : F_z0x P) (h : RepP H s σ ro z) {i : Nat} {r : RdS} (hi : H[i]? = some (rdO r)) (hr : ro i = none) (hb : Byt r.rest) (hv : ∀ e,-4000000 ≤ σ.vers e ∧ σ.vers e ≤ 4000000) :
  ACalls P F.id [.ptr s 1 0 0,.ptr i 1 0 0] H (fun v H'=>∃ o,Again (H.set i o) s ro (rswapR σ r) v H'):=by
 unfold rswapR
 have h2:=h.other hr (rdO (txS (txS r)))
 refine acalls_of_body F.has ?_
 (conv=>whnf);refine ACalls.mono (rtext_spec (asB_text F.z16) r hb H i hi) ?_
 rintro v H1 ⟨rfl,rfl⟩
 (conv=>whnf);refine ACalls.mono (rtext_spec (asB_text F.z16) (txS r) (txS_byt hb) (H.set i (rdO (txS r))) i (set_at hi)) ?_
 rintro v H1 ⟨rfl,rfl⟩
 conv=>whnf
 rw [List.set_set]
 (conv=>whnf);refine recO (set_at hi) ?_
 have bail : ∃ o,Again (H.set i o) s ro none .nil (H.set i (rdO (txS (txS r)))):=⟨_,rfl,Nat.le_refl _,fun _ _=>rfl⟩
 cases h1 : (txS (txS r)).bad with
 | true =>
  (conv=>whnf);refine recT (h1) ?_
  conv=>whnf
  exact bail
 | false =>
 cases h3 : nameB (txV r) with
 | false =>
  (conv=>whnf);refine recF (h1) ?_
  (conv=>whnf);refine ACalls.use (schema_IsName_spec F.z0g (txV r) _) ?_
  (conv=>whnf);refine recT (by rw [h3];rfl) ?_
  conv=>whnf
  exact bail
 | true =>
 cases h4 : nameB (txV (txS r)) with
 | false =>
  (conv=>whnf);refine recF (h1) ?_
  (conv=>whnf);refine ACalls.use (schema_IsName_spec F.z0g (txV r) _) ?_
  (conv=>whnf);refine recF (by rw [h3];rfl) ?_
  (conv=>whnf);refine ACalls.use (schema_IsName_spec F.z0g (txV (txS r)) _) ?_
  (conv=>whnf);refine recT (by rw [h4];rfl) ?_
  conv=>whnf
  exact bail
 | true =>
 cases h5 : kEq (txV r) (txV (txS r)) with
 | true =>
  (conv=>whnf);refine recF (h1) ?_
  (conv=>whnf);refine ACalls.use (schema_IsName_spec F.z0g (txV r) _) ?_
  (conv=>whnf);refine recF (by rw [h3];rfl) ?_
  (conv=>whnf);refine ACalls.use (schema_IsName_spec F.z0g (txV (txS r)) _) ?_
  (conv=>whnf);refine recF (by rw [h4];rfl) ?_
  (conv=>whnf);refine recT (h5) ?_
  conv=>whnf
  exact bail
 | false =>
  have hne : txV r ≠ txV (txS r):=fun e=>by rw [← e,kEq_refl] at h5;cases h5
  have l1:=nameB_len h3
  have l2:=nameB_len h4
  have htx : ∀ t : ByteArray,(txI t).length = t.size + 1:=fun t=>by simp [txI,bytesI_length]
  (conv=>whnf);refine recF (h1) ?_
  (conv=>whnf);refine ACalls.use (schema_IsName_spec F.z0g (txV r) _) ?_
  (conv=>whnf);refine recF (by rw [h3];rfl) ?_
  (conv=>whnf);refine ACalls.use (schema_IsName_spec F.z0g (txV (txS r)) _) ?_
  (conv=>whnf);refine recF (by rw [h4];rfl) ?_
  (conv=>whnf);refine recF (h5) ?_
  (conv=>whnf);refine ACalls.mono (swap_spec F.z0z h2 hne hv) ?_
  rintro v H1 ⟨rfl,rfl⟩
  (conv=>whnf);refine snocK_to ?_
  (conv=>whnf);refine ACalls.mono (putSnoc F.z13 _ [2] (txV r) (by simp) (by omega)) ?_
  rintro v H1 ⟨rfl,rfl⟩
  (conv=>whnf);refine ACalls.mono (putSnoc F.z13 _ ([2] ++ txI (txV r)) (txV (txS r)) (by simp [htx];omega) (by omega)) ?_
  rintro v H1 ⟨rfl,rfl⟩
  conv=>whnf
  obtain ⟨h9,h10⟩:=h2.swp hne
  exact ⟨_,.inr ⟨_,rfl,at_snoc _ _⟩,_,_,h9.app,h10.trans (Post.app _ _ _)⟩
end
end Go.AW
