/-
  An abstract machine over the model, the code of functions on it, and their contracts: what the claim needs.
  No condition: definitions, plain laws, contracts over any program that has this code.
-/
import Derived.Test.YtbjodpkinpnebaaGreatY9
set_option linter.all false
namespace Go.AW
variable [dK]
theorem eV.kept {W W' : World} {v : Value} {l : List Int} {row : Option Nat} (h : eV W v l) (hg : W.grownBy W' row) (hr : l ≠ [] → ∀ b, v.ownBlock = some b → some b ≠ row) : eV W' v l := by
  rcases h with h | ⟨h0, b, off, cap, rfl, hcap, hb, hc⟩
  · exact .inl h
  · refine .inr ⟨h0, b, off, cap, rfl, hcap, Nat.lt_of_lt_of_le hb hg.size, fun i x hx => ?_⟩
    rw [← hc i x hx]
    exact World.cell?_of_block (hg.block b hb (hr h0 b rfl))
theorem eV.rdC {C : Nat → Nat} {W : World} {v : Value} {l : List Int} (h : eV W v l) (hC : l ≠ [] → ∀ b i x, v.ownBlock = some b → W.cell? ⟨b, i, none⟩ = some x → i < C b) : Rd C W (.list false 1 (bC l)) v := by
  rcases h with ⟨rfl, a, cap, rfl⟩ | ⟨h0, b, off, cap, rfl, hcap, hb, hc⟩
  · exact .list0 _ _ _ _ (by simp)
  · have hl := aD l
    have hp := List.length_pos_iff.2 h0
    have hlast := hC h0 b _ _ rfl (hc (l.length - 1) _ (List.getElem?_eq_getElem (by omega)))
    have := Rd.list (C := C) (w := W) false 1 (bC l) b off cap (fun i _ => .int .u8 (l.getD i 0)) (by simp) (by rw [hl]; exact hcap) (fun e he => by
        rw [bC] at he
        obtain ⟨x, _, rfl⟩ := List.mem_map.1 he
        rfl) (by rw [hl, Nat.mul_one]; omega) (fun i j hi hj => by
        obtain rfl : j = 0 := by omega
        rw [hl] at hi
        rw [Nat.mul_one, Nat.add_zero, hc i l[i] (List.getElem?_eq_getElem hi), List.getD_eq_getElem?_getD, List.getElem?_eq_getElem hi]; rfl) (fun i j e d he hd => by
        rw [bC, List.getElem?_map] at he
        obtain ⟨x, _, rfl⟩ := Option.map_eq_some_iff.1 he
        rcases j with _ | j
        · cases hd; rfl
        · simp at hd) (fun i j e d he hd => by
        rw [bC, List.getElem?_map] at he
        obtain ⟨x, hx, rfl⟩ := Option.map_eq_some_iff.1 he
        rcases j with _ | j
        · cases hd
          rw [List.getD_eq_getElem?_getD, hx]
          exact .int _ _
        · simp at hd)
    rwa [hl] at this
end Go.AW
namespace Go.Proofs
open Go.RowKit Go.Shelf Go.AW
variable [dK]
set_option linter.all false
set_option maxRecDepth 100000
attribute [local go_sem] Oper.semAt_some
theorem toJ {f : FuncId} {vs : List a6} {H : List aB} {Q : a6 → List aB → Prop} (h : a7 pr f vs H Q) : a7 Tryz.prog f vs H Q := by rw [prE0] at h; exact h
set_option maxHeartbeats 1000000 in
theorem Tryz.entries_in (F : Fence) (n : Nat) (h5 : F.fn 109) (hro : F.round = none) (a : Option Addr) (len cap : Nat) (w : World) :
    CallsIn F n Tryz.prog 109 #[.slice a len cap] w fun e w' => e = .returned (.func (.func 158) #[] #[.pointer (some ⟨w.heap.size, 0, none⟩)]) ∧ w' = w.alloc (.cells #[.slice a len cap] 22) := by
  refine callsIn_of_wp Tryz.func109 rfl h5 ?_ hro
  simp only [Tryz.ntmps109, List.size_toArray, List.length_cons, List.length_nil, Nat.reduceAdd, Nat.reduceSub, Array.replicate_succ, Array.replicate_zero, List.push_toArray, List.append_toArray, List.nil_append, List.cons_append]
  gi_wp2
  go_ret
  exact ⟨rfl, rfl⟩
def offJ (off cap s : Nat) : Nat := if cap - s = 0 then off else off + s
def encJ (b off cap : Nat) (x : Nat × Nat) : Array Value := #[.slice (some ⟨b, offJ off cap x.1, none⟩) x.2 (cap - x.1), .int .i64 ((x.1 + x.2 : Nat) : Int)]
def LogAt (W : World) (Bs b off cap : Nat) (zs : List Int) : Prop :=
  W.cell? ⟨Bs, 0, none⟩ = some (.slice (some ⟨b, off, none⟩) zs.length cap) ∧ Bs < W.heap.size ∧ b < W.heap.size ∧ ∀ i x, zs[i]? = some x → W.cell? ⟨b, off + i, none⟩ = some (.int .u8 x)
def KeepJ (Bs b : Nat) (W W' : World) : Prop := W.heap.size ≤ W'.heap.size ∧ W'.heap[Bs]? = W.heap[Bs]? ∧ W'.heap[b]? = W.heap[b]?
theorem LogAt.kept {W W' : World} {Bs b off cap : Nat} {zs : List Int} (h : LogAt W Bs b off cap zs) (hk : KeepJ Bs b W W') : LogAt W' Bs b off cap zs := by
  obtain ⟨h1, h2, h3, h4⟩ := h
  obtain ⟨k1, k2, k3⟩ := hk
  exact ⟨by rw [World.cell?_of_block (w' := W') (a := ⟨Bs, 0, none⟩) k2]; exact h1, by omega, by omega, fun i x hx => by rw [World.cell?_of_block (w' := W') (a := ⟨b, off + i, none⟩) k3]; exact h4 i x hx⟩
theorem KeepJ.grown {Bs b : Nat} {W W' : World} (hg : W.grownBy W' none) (h1 : Bs < W.heap.size) (h2 : b < W.heap.size) : KeepJ Bs b W W' := ⟨hg.size, hg.block Bs h1 (by simp), hg.block b h2 (by simp)⟩
theorem LogAt.reads {W : World} {Bs b off cap : Nat} {zs : List Int} (h : LogAt W Bs b off cap zs) (hcap : zs.length ≤ cap) (s m : Nat) (hs : s + m ≤ zs.length) (c : Nat) (hc : m ≤ c) : eV W (.slice (some ⟨b, off + s, none⟩) m c) ((zs.drop s).take m) := by
  have hl : ((zs.drop s).take m).length = m := by rw [List.length_take, List.length_drop]; omega
  by_cases h0 : m = 0
  · subst h0; exact .inl ⟨rfl, _, _, rfl⟩
  · refine .inr ⟨fun e => h0 (by rw [e] at hl; exact hl.symm), b, off + s, c, by rw [hl], by omega, h.2.2.1, fun i x hx => ?_⟩
    have hi := (List.getElem?_eq_some_iff.1 hx).1
    rw [List.getElem?_take, if_pos (by omega), List.getElem?_drop] at hx
    rw [Nat.add_assoc]
    exact h.2.2.2 _ x hx
theorem LogAt.readsEnd {W : World} {Bs b off cap : Nat} {zs : List Int} (h : LogAt W Bs b off cap zs) (hcap : zs.length ≤ cap) (s : Nat) (hs : s ≤ zs.length) : eV W (.slice (some ⟨b, off + s, none⟩) (zs.length - s) (cap - s)) (zs.drop s) := by
  have := h.reads hcap s (zs.length - s) (by omega) (cap - s) (by omega)
  rwa [List.take_of_length_le (by rw [List.length_drop]; omega)] at this
theorem Tryz.number_calls {W : World} {v : Value} {l : List Int} (hr : eV W v l) (hl : 4 ≤ l.length) (hby : fI l) : Calls Tryz.prog 159 #[v] W fun e W' => e = .returned (.int .i64 (num (l.take 4))) ∧ W.grownBy W' none :=
  a7.int1 (f := 159) (enters_of Tryz.func159 (by kernel_rfl) rfl) ((toJ (G0 false l hl hby [])).mono fun _ _ h => h.1) hr
theorem Tryz.sum_calls {W : World} {v : Value} {l : List Int} (hr : eV W v l) (hl : l.length ≤ 10000000) : Calls Tryz.prog 156 #[v] W fun e W' => e = .returned (.int .u32 (RB (n7 l))) ∧ W.grownBy W' none :=
  a7.int1 (f := 156) (enters_of Tryz.func156 (by kernel_rfl) rfl) ((toJ (OY false l hl [])).mono fun _ _ h => h.1) hr
abbrev PosJ (zs : List Int) := {x : Nat × Nat // x.1 + x.2 ≤ zs.length}
set_option maxRecDepth 100000 in
set_option maxHeartbeats 2000000 in
theorem Tryz.ent1_in (n : Nat) (hn : 1 ≤ n) (l Bs b off cap : Nat) (zs : List Int) (hcap : zs.length ≤ cap) (hz : zs.length ≤ 10000000) (hby : fI zs) (J Jx : List (PosJ zs) → World → Prop)
    (hY : ∀ pre x W, J pre W → pre.length < zs.length + 1 → YieldAt Fence.wide (n - 1) Tryz.prog l (encJ b off cap x.1) W fun e W' =>
      (e = .returned (.bool true) ∧ J (pre ++ [x]) W' ∧ KeepJ Bs b W W') ∨ (e = .returned (.bool false) ∧ Jx (pre ++ [x]) W'))
    (W : World) (hJ : AbidesFrom W.heap.size J) (hL : LogAt W Bs b off cap zs) (h0 : J [] W) :
    CallsIn Fence.wide n Tryz.prog 158 #[.func (.yield l) #[] #[], .pointer (some ⟨Bs, 0, none⟩)] W fun e W' => (∃ v, e = .returned v) ∧
      ((∃ ys : List (PosJ zs), ys.map (fun x => x.1) = j6 zs 0 ∧ J ys W') ∨ (∃ pre, True ∧ Jx pre W')) := by
  refine callsIn_of_wp Tryz.func158 rfl trivial ?_ rfl
  simp only [Tryz.ntmps158, List.size_toArray, List.length_cons, List.length_nil, Nat.reduceAdd, Nat.reduceSub, Array.replicate_succ, Array.replicate_zero, List.push_toArray, List.append_toArray, List.nil_append, List.cons_append]
  gi_wp2
  gi_loopw [3] (fun i wr => ∃ (k : Nat) (pre : List (PosJ zs)), k ≤ zs.length ∧ i = .int .i64 k ∧ j6 zs 0 = pre.map (fun x => x.1) ++ j6 zs k ∧ pre.length ≤ k ∧ J pre wr ∧ LogAt wr Bs b off cap zs)
    (fun i _ => zs.length - (intOf i).toNat)
  case atStart => exact ⟨0, [], Nat.zero_le _, rfl, rfl, Nat.zero_le _, h0, hL⟩
  case round =>
    obtain ⟨k, pre, hk, rfl, hpre, hpl, hJs, hLw⟩ := hrel
    have hL1 := hLw.1
    by_cases h8 : k + 8 ≤ zs.length
    · gi_wp2
      refine ⟨trivial, ?_⟩
      refine (callsIn_wide.2 (Tryz.number_calls (hLw.readsEnd hcap k hk) (by rw [List.length_drop]; omega) (fun x hx => hby x (List.mem_of_mem_drop hx)))).mono ?_
      rintro e w1 ⟨rfl, hg1⟩
      have hJ1 : J pre w1 := hJ _ _ _ _ hJs hg1 (fun r e => by cases e)
      have hLw1 := hLw.kept (KeepJ.grown hg1 hLw.2.1 hLw.2.2.1)
      have hLc1 := hLw1.1
      clear hJs hLw hL1
      have hn0 := uP hby k
      obtain ⟨N, hN⟩ : ∃ N : Nat, r7 zs k = N := ⟨(r7 zs k).toNat, by omega⟩
      have hN' : num ((zs.drop k).take 4) = N := hN
      rw [hN']
      by_cases hA : 65536 < N
      · have hnil := kD (NW hN (.inl hA))
        gi_wp2
        refine bodyPost_ret (results_none rfl _ _ _) rfl ?_
        first
          | exact ⟨⟨_, rfl⟩, .inl hJ1⟩
          | exact ⟨⟨_, rfl⟩, .inl ⟨_, rfl, hJ1⟩⟩
          | exact ⟨⟨_, rfl⟩, .inl ⟨_, by rw [hpre, hnil, List.append_nil], hJ1⟩⟩
      by_cases hB : (zs.length : Int) - k - 8 < N
      · have hnil := kD (NW hN (.inr hB))
        gi_wp2
        refine bodyPost_ret (results_none rfl _ _ _) rfl ?_
        first
          | exact ⟨⟨_, rfl⟩, .inl hJ1⟩
          | exact ⟨⟨_, rfl⟩, .inl ⟨_, rfl, hJ1⟩⟩
          | exact ⟨⟨_, rfl⟩, .inl ⟨_, by rw [hpre, hnil, List.append_nil], hJ1⟩⟩
      have hok := U2 hN h8 hA hB
      by_cases hE : cap = k + 8
      · have hN0 : N = 0 := by omega
        subst hN0 hE
        have hrd1 : eV w1 (.slice (some ⟨b, off + (k + 4), none⟩) (zs.length - (k + 4)) 4) (zs.drop (k + 4)) := by
          have := hLw1.readsEnd hcap (k + 4) (by omega)
          rwa [show k + 8 - (k + 4) = 4 by omega] at this
        gi_wp2
        refine ⟨trivial, ?_⟩
        refine (callsIn_wide.2 (Tryz.number_calls hrd1 (by rw [List.length_drop]; omega) (fun x hx => hby x (List.mem_of_mem_drop hx)))).mono ?_
        rintro e w2 ⟨rfl, hg2⟩
        have hJ2 : J pre w2 := hJ _ _ _ _ hJ1 hg2 (fun r e => by cases e)
        have hLw2 := hLw1.kept (KeepJ.grown hg2 hLw1.2.1 hLw1.2.2.1)
        have hLc2 := hLw2.1
        clear hJ1 hLw1 hLc1
        have hrd2 : eV w2 (.slice (some ⟨b, off, none⟩) 0 0) ((zs.drop (k + 8)).take 0) := .inl ⟨rfl, _, _, rfl⟩
        gi_wp2
        refine ⟨trivial, ?_⟩
        refine (callsIn_wide.2 (Tryz.sum_calls hrd2 (by rw [List.length_take]; omega))).mono ?_
        rintro e w3 ⟨rfl, hg3⟩
        have hJ3 : J pre w3 := hJ _ _ _ _ hJ2 hg3 (fun r e => by cases e)
        have hLw3 := hLw2.kept (KeepJ.grown hg3 hLw2.2.1 hLw2.2.2.1)
        clear hJ2 hLw2 hLc2 hrd1 hrd2
        obtain ⟨T, hT⟩ : ∃ T, T = RB (n7 ((zs.drop (k + 8)).take 0)) := ⟨_, rfl⟩
        rw [← hT] at hok ⊢
        have hTn := E8 (n7 ((zs.drop (k + 8)).take 0))
        rw [← hT] at hTn
        clear hT
        obtain ⟨S, hS⟩ : ∃ S, S = r7 zs (k + 4) := ⟨_, rfl⟩
        have hS0 : 0 ≤ S := by rw [hS]; exact uP hby _
        have hS' : num ((zs.drop (k + 4)).take 4) = S := hS.symm
        rw [hS']
        rw [← hS, wM] at hok
        clear hS hS' hN'
        by_cases hC : S % 4294967296 = T
        · have hcons := sX (by rw [hok]; simpa using hC)
          rw [hN, Int.toNat_natCast] at hcons
          obtain ⟨fn, tmps, assign, body, hy, hR⟩ := hY pre ⟨(k + 8, 0), by simp only []; omega⟩ w3 hJ3 (by omega)
          have hcast : ((k + 8 + 0 : Nat) : Int) = (k : Int) + 8 := by omega
          simp only [encJ, offJ, Nat.sub_self, if_true, hcast] at hy
          clear hok hN
          gi_wp2
          refine hR.mono ?_
          rintro e W3 (⟨rfl, hJ4, hk4⟩ | ⟨rfl, hJx4⟩)
          · have hLw4 := hLw3.kept hk4
            clear hJ3 hLw3 hR
            gi_wp2
            go_roundw
            case rel => exact ⟨k + 8 + 0, pre ++ [⟨(k + 8, 0), by simp only []; omega⟩], by omega, by congr 1 <;> omega, by rw [hpre, hcons, List.map_append, List.append_assoc]; rfl, by simp; omega, hJ4, hLw4⟩
            case measure => simp [intOf]; omega
          · gi_wp2
            refine bodyPost_ret (results_none rfl _ _ _) rfl ?_
            first
              | exact ⟨⟨_, rfl⟩, .inr ⟨_, trivial, hJx4⟩⟩
              | exact ⟨⟨_, rfl⟩, .inr ⟨_, hJx4⟩⟩
        · have hnil := kD (by rw [hok]; simpa using hC)
          clear hok hN
          gi_wp2
          refine bodyPost_ret (results_none rfl _ _ _) rfl ?_
          first
            | exact ⟨⟨_, rfl⟩, .inl hJ3⟩
            | exact ⟨⟨_, rfl⟩, .inl ⟨_, rfl, hJ3⟩⟩
            | exact ⟨⟨_, rfl⟩, .inl ⟨_, by rw [hpre, hnil, List.append_nil], hJ3⟩⟩
      · have hE2 : ¬ cap - (k + 8) = 0 := by omega
        have hrd1 := hLw1.readsEnd hcap (k + 4) (by omega)
        gi_wp2
        refine ⟨trivial, ?_⟩
        refine (callsIn_wide.2 (Tryz.number_calls hrd1 (by rw [List.length_drop]; omega) (fun x hx => hby x (List.mem_of_mem_drop hx)))).mono ?_
        rintro e w2 ⟨rfl, hg2⟩
        have hJ2 : J pre w2 := hJ _ _ _ _ hJ1 hg2 (fun r e => by cases e)
        have hLw2 := hLw1.kept (KeepJ.grown hg2 hLw1.2.1 hLw1.2.2.1)
        have hLc2 := hLw2.1
        clear hJ1 hLw1 hLc1
        have hrd2 := hLw2.reads hcap (k + 8) N (by omega) (cap - (k + 8)) (by omega)
        gi_wp2
        refine ⟨trivial, ?_⟩
        refine (callsIn_wide.2 (Tryz.sum_calls hrd2 (by rw [List.length_take]; omega))).mono ?_
        rintro e w3 ⟨rfl, hg3⟩
        have hJ3 : J pre w3 := hJ _ _ _ _ hJ2 hg3 (fun r e => by cases e)
        have hLw3 := hLw2.kept (KeepJ.grown hg3 hLw2.2.1 hLw2.2.2.1)
        clear hJ2 hLw2 hLc2 hrd1 hrd2
        obtain ⟨T, hT⟩ : ∃ T, T = RB (n7 ((zs.drop (k + 8)).take N)) := ⟨_, rfl⟩
        rw [← hT] at hok ⊢
        have hTn := E8 (n7 ((zs.drop (k + 8)).take N))
        rw [← hT] at hTn
        clear hT
        obtain ⟨S, hS⟩ : ∃ S, S = r7 zs (k + 4) := ⟨_, rfl⟩
        have hS0 : 0 ≤ S := by rw [hS]; exact uP hby _
        have hS' : num ((zs.drop (k + 4)).take 4) = S := hS.symm
        rw [hS']
        rw [← hS, wM] at hok
        clear hS hS' hN'
        by_cases hC : S % 4294967296 = T
        · have hcons := sX (by rw [hok]; simpa using hC)
          rw [hN, Int.toNat_natCast] at hcons
          obtain ⟨fn, tmps, assign, body, hy, hR⟩ := hY pre ⟨(k + 8, N), by simp only []; omega⟩ w3 hJ3 (by omega)
          have hcast : ((k + 8 + N : Nat) : Int) = (k : Int) + (8 + (N : Int)) := by omega
          simp only [encJ, offJ, if_neg hE2, hcast] at hy
          clear hok hN
          gi_wp2
          refine hR.mono ?_
          rintro e W3 (⟨rfl, hJ4, hk4⟩ | ⟨rfl, hJx4⟩)
          · have hLw4 := hLw3.kept hk4
            clear hJ3 hLw3 hR
            gi_wp2
            go_roundw
            case rel => exact ⟨k + 8 + N, pre ++ [⟨(k + 8, N), by simp only []; omega⟩], by omega, by congr 1 <;> omega, by rw [hpre, hcons, List.map_append, List.append_assoc]; rfl, by simp; omega, hJ4, hLw4⟩
            case measure => simp [intOf]; omega
          · gi_wp2
            refine bodyPost_ret (results_none rfl _ _ _) rfl ?_
            first
              | exact ⟨⟨_, rfl⟩, .inr ⟨_, trivial, hJx4⟩⟩
              | exact ⟨⟨_, rfl⟩, .inr ⟨_, hJx4⟩⟩
        · have hnil := kD (by rw [hok]; simpa using hC)
          clear hok hN
          gi_wp2
          refine bodyPost_ret (results_none rfl _ _ _) rfl ?_
          first
            | exact ⟨⟨_, rfl⟩, .inl hJ3⟩
            | exact ⟨⟨_, rfl⟩, .inl ⟨_, rfl, hJ3⟩⟩
            | exact ⟨⟨_, rfl⟩, .inl ⟨_, by rw [hpre, hnil, List.append_nil], hJ3⟩⟩
    · have hnil := kD (xK h8)
      gi_wp2
      go_end0
      exact ⟨⟨_, rfl⟩, .inl ⟨_, by rw [hpre, hnil, List.append_nil], hJs⟩⟩
set_option maxRecDepth 100000 in
set_option maxHeartbeats 1000000 in
theorem Tryz.ent0_in (n : Nat) (l Bs : Nat) (a : Option Addr) (cap : Nat) {α : Type} (J : List α → World → Prop) (W : World) (hBs : W.cell? ⟨Bs, 0, none⟩ = some (.slice a 0 cap)) (h0 : J [] W) :
    CallsIn Fence.wide n Tryz.prog 158 #[.func (.yield l) #[] #[], .pointer (some ⟨Bs, 0, none⟩)] W fun e W' => (∃ v, e = .returned v) ∧ J [] W' := by
  refine callsIn_of_wp Tryz.func158 rfl trivial ?_ rfl
  simp only [Tryz.ntmps158, List.size_toArray, List.length_cons, List.length_nil, Nat.reduceAdd, Nat.reduceSub, Array.replicate_succ, Array.replicate_zero, List.push_toArray, List.append_toArray, List.nil_append, List.cons_append]
  gi_wp2
  gi_loopw [3] (fun i wr => i = .int .i64 0 ∧ J [] wr ∧ wr.cell? ⟨Bs, 0, none⟩ = some (.slice a 0 cap)) (fun _ _ => 0)
  case atStart => exact ⟨rfl, h0, hBs⟩
  case round =>
    obtain ⟨rfl, hJs, hc⟩ := hrel
    gi_wp2
    go_end0
    exact ⟨⟨_, rfl⟩, hJs⟩
theorem KeepJ.t {Bs b : Nat} {X Y Z : World} (h : KeepJ Bs b X Y) (k : KeepJ Bs b Y Z) : KeepJ Bs b X Z := ⟨Nat.le_trans h.1 k.1, k.2.1.trans h.2.1, k.2.2.trans h.2.2⟩
theorem KeepJ.of_below {Bs b n : Nat} {X Y : World} (h : Below n X Y) (h1 : Bs < n) (h2 : b < n) : KeepJ Bs b X Y := ⟨h.size, h.block Bs h1, h.block b h2⟩
theorem KeepJ.put {Bs b : Nat} {w : World} (h1 : Bs < w.heap.size) (h2 : b < w.heap.size) (W : World) (l : Nat) (o o' : Obj) (hl : w.heap.size ≤ l) (hlo : W.heap[l]? = some o) (_ : o.isCells = false) (_ : o.isWalk = false) : KeepJ Bs b W (W.putObj l o') := by
  have hg := grownBy_putObj' W l o'
  have hlt := (Array.getElem?_eq_some_iff.1 hlo).1
  exact ⟨hg.size, hg.block Bs (by omega) (by simp; omega), hg.block b (by omega) (by simp; omega)⟩
theorem Tryz.ent_stops (n : Nat) (hn : 1 ≤ n) (Bs b off cap : Nat) (zs : List Int) (hcap : zs.length ≤ cap) (hz : zs.length ≤ 10000000) (hby : fI zs) (w : World) (hL : LogAt w Bs b off cap zs) :
    SeqStopsK Fence.wide n Tryz.prog 158 #[.pointer (some ⟨Bs, 0, none⟩)] (fun x : PosJ zs => encJ b off cap x.1) (KeepJ Bs b) (fun ys => ys.map (fun x => x.1) = j6 zs 0) (fun _ => True) (zs.length + 1) w := fun l J Jx W hW hJ _ hY h0 =>
  Tryz.ent1_in n hn l Bs b off cap zs hcap hz hby J Jx hY W hJ (hL.kept (KeepJ.of_below hW hL.2.1 hL.2.2.1)) h0
theorem Tryz.ent_stops0 (n : Nat) (Bs b cap : Nat) (a : Option Addr) (w : World) (hBs : Bs < w.heap.size) (hc : w.cell? ⟨Bs, 0, none⟩ = some (.slice a 0 cap)) :
    SeqStopsK Fence.wide n Tryz.prog 158 #[.pointer (some ⟨Bs, 0, none⟩)] (fun x : PosJ [] => encJ b 0 cap x.1) (KeepJ Bs b) (fun ys => ys.map (fun x => x.1) = j6 [] 0) (fun _ => True) 1 w := fun l J Jx W hW hJ _ hY h0 =>
  (Tryz.ent0_in n l Bs a cap J W ((hW.cell (p := ⟨Bs, 0, none⟩) hBs).trans hc) h0).mono fun e W' ⟨he, hj⟩ => ⟨he, .inl ⟨[], (kD (xK (by simp))).symm, hj⟩⟩
end Go.Proofs
namespace Go.Proofs
open Go.RowKit Go.Shelf Go.AW
variable [dK]
set_option linter.all false
set_option maxRecDepth 100000
attribute [local go_sem] Oper.semAt_some
def appG (ts : Array TypeId) (ty : TypeId) (args : Array Value) : Sem Value := Builtin.append_ ts ty args
theorem appG_fold (ts : Array TypeId) (ty : TypeId) (args : Array Value) : Builtin.append_ ts ty args = appG ts ty args := rfl
attribute [local go_sem ↓] appG_fold
def Elems (N : Nat) (W : World) (B : List Nat) (us : List Value) (ps : List (List Int)) : Prop :=
  us.length = ps.length ∧ ∀ (i : Nat) (u : Value) (p : List Int), us[i]? = some u → ps[i]? = some p → eV W u p ∧ u.oneCell' = true ∧ (p ≠ [] → ∀ bb, u.ownBlock = some bb → bb ∉ B ∧ N ≤ bb)
theorem Tryz.infoB : (Tryz.prog.info? 22).map (fun i => (i.zero, i.size, i.bytes)) = some (some (.slice none 0 0), 1, 24) := by kernel_rfl
theorem Tryz.Clone_calls {W : World} {v : Value} {l : List Int} (hr : eV W v l) (hl : l.length ≤ 90000000) : Calls Tryz.prog 63 #[v] W fun e W' => ∃ a c, e = .returned (.slice a l.length c) ∧ eV W' (.slice a l.length c) l ∧ W.grownBy W' none ∧ (l ≠ [] → ∀ b, (Value.slice a l.length c).ownBlock = some b → W.heap.size ≤ b) :=
  a7.fresh1 (f := 63) (enters_of Tryz.func63 (by kernel_rfl) rfl) (toJ (L7 false l hl)) hr
theorem eV.block {W : World} {u : Value} {p : List Int} (h : eV W u p) (h0 : p ≠ []) {bb : Nat} (hb : u.ownBlock = some bb) : bb < W.heap.size ∧ ∃ o : Obj, W.heap[bb]? = some o ∧ o.isCells = true := by
  rcases h with ⟨e, _⟩ | ⟨_, b, off, cap, rfl, hcap, hlt, hc⟩
  · exact absurd e h0
  · cases hb
    refine ⟨hlt, ?_⟩
    obtain ⟨x, hx⟩ : ∃ x, p[0]? = some x := ⟨p[0]'(List.length_pos_iff.2 h0), List.getElem?_eq_getElem _⟩
    have := hc 0 x hx
    rw [World.cell?] at this
    cases ho : W.heap[b]? with
    | none => simp [ho] at this
    | some o =>
      refine ⟨o, rfl, ?_⟩
      cases o <;> simp_all [Obj.isCells]
theorem Elems.kept {N : Nat} {W W' : World} {B : List Nat} {us : List Value} {ps : List (List Int)} {row : Option Nat} (h : Elems N W B us ps) (hg : W.grownBy W' row) (hr : ∀ r, row = some r → r ∈ B ∨ ∃ o : Obj, W.heap[r]? = some o ∧ o.isCells = false) : Elems N W' B us ps := by
  refine ⟨h.1, fun i u p hu hp => ?_⟩
  obtain ⟨h1, h2, h3⟩ := h.2 i u p hu hp
  refine ⟨h1.kept hg fun h0 bb hb e => ?_, h2, h3⟩
  rcases hr bb e.symm with hB | ⟨o, ho, hc⟩
  · exact (h3 h0 bb hb).1 hB
  · obtain ⟨_, o', ho', hc'⟩ := eV.block h1 h0 hb
    rw [ho] at ho'; cases ho'
    rw [hc] at hc'; cases hc'
def IJ (n₀ b off cap : Nat) (zs : List Int) (w : World) (pre : List (PosJ zs)) (W : World) : Prop :=
  ((∃ v us, Boxed W n₀ 23 v ∧ W.ownsRow (n₀ + 3) 22 1 v pre.length us ∧ Elems n₀ W [n₀, n₀ + 1] us (pre.map fun x => oF zs x.1) ∧ ∀ g, v.ownBlock = some g → Elems n₀ W [g] us (pre.map fun x => oF zs x.1)) ∧
    Boxed W (n₀ + 1) 3 (.int .i64 (vS (pre.map fun x => x.1))) ∧ LogAt W (n₀ + 2) b off cap zs) ∧ Below n₀ w W
theorem IJ.own (n₀ b off cap : Nat) (zs : List Int) (w : World) (hb : b < n₀) : OwnFrom (n₀ + 3) (IJ n₀ b off cap zs w) := by
  rintro pre X Y row ⟨⟨⟨v, us, hv, hr, he, hg2⟩, h1, hL⟩, hB⟩ hg hrow
  have hbox : ∀ {B : Nat} {t : TypeId} {u : Value}, Boxed X B t u → some B ≠ row := fun {B t u} h e' => by
    obtain ⟨_, o, ho, hc⟩ := hrow B e'.symm
    rw [show X.heap[B]? = _ from h] at ho; cases ho; cases hc
  refine ⟨⟨⟨v, us, hv.kept hg (hbox hv), hr.kept hg ?_, he.kept hg fun r e => .inr (hrow r e).2, fun g hgv => (hg2 g hgv).kept hg fun r e => .inr (hrow r e).2⟩, h1.kept hg (hbox h1), hL.kept ⟨hg.size, hg.block _ hL.2.1 (fun e => by have := (hrow _ e.symm).1; omega), hg.block _ hL.2.2.1 (fun e => by have := (hrow _ e.symm).1; omega)⟩⟩, hB.grown hg ?_ fun k e => by have := (hrow k e).1; omega⟩
  · rcases hr.2 with ⟨rfl, _⟩ | ⟨g, cap, cur, rfl, _, hgb, _⟩
    · exact .inl rfl
    · refine .inr fun e' => ?_
      obtain ⟨_, o, ho, hc⟩ := hrow g (by simpa [Value.ownBlock] using e'.symm)
      rw [hgb] at ho; cases ho; cases hc
  · have := hL.2.1; omega
theorem ownsRow_grown0 {W W' : World} {base : Nat} {e : TypeId} {size : Nat} {v : Value} {k : Nat} {xs : List Value} (h : W.ownsRow base e size v k xs) (hg : W.grownBy W' none) : W'.ownsRow base e size v k xs :=
  h.kept hg (by
    rcases h.2 with ⟨rfl, _⟩ | ⟨g, _, _, rfl, _⟩
    · exact .inl rfl
    · exact .inr (by simp [Value.ownBlock]))
theorem Boxed.grown0 {W W' : World} {B : Nat} {t : TypeId} {v : Value} (h : Boxed W B t v) (hg : W.grownBy W' none) : Boxed W' B t v := h.kept hg (by simp)
theorem ownsRow_mono {W : World} {base base' : Nat} {e : TypeId} {size : Nat} {v : Value} {k : Nat} {xs : List Value} (h : W.ownsRow base e size v k xs) (hle : base' ≤ base) : W.ownsRow base' e size v k xs := by
  refine ⟨h.1, ?_⟩
  rcases h.2 with h | ⟨g, cap, cur, h1, h2, h3⟩
  · exact .inl h
  · exact .inr ⟨g, cap, cur, h1, by omega, h3⟩
theorem Elems.mono {N : Nat} {W : World} {B B' : List Nat} {us : List Value} {ps : List (List Int)} (h : Elems N W B us ps) (hs : ∀ x ∈ B', x ∈ B) : Elems N W B' us ps :=
  ⟨h.1, fun i u p hu hp => ⟨(h.2 i u p hu hp).1, (h.2 i u p hu hp).2.1, fun h0 bb hb => ⟨fun hm => ((h.2 i u p hu hp).2.2 h0 bb hb).1 (hs bb hm), ((h.2 i u p hu hp).2.2 h0 bb hb).2⟩⟩⟩
theorem Elems.join {N : Nat} {W : World} {B B' : List Nat} {us : List Value} {ps : List (List Int)} (h : Elems N W B us ps) (h' : Elems N W B' us ps) : Elems N W (B ++ B') us ps :=
  ⟨h.1, fun i u p hu hp => ⟨(h.2 i u p hu hp).1, (h.2 i u p hu hp).2.1, fun h0 bb hb => ⟨fun hm => (List.mem_append.1 hm).elim ((h.2 i u p hu hp).2.2 h0 bb hb).1 ((h'.2 i u p hu hp).2.2 h0 bb hb).1, ((h.2 i u p hu hp).2.2 h0 bb hb).2⟩⟩⟩
theorem Elems.add {N : Nat} {W : World} {B : List Nat} {us : List Value} {ps : List (List Int)} (h : Elems N W B us ps) {f : Nat} (hf : W.heap.size ≤ f) : Elems N W (f :: B) us ps :=
  ⟨h.1, fun i u p hu hp => ⟨(h.2 i u p hu hp).1, (h.2 i u p hu hp).2.1, fun h0 bb hb => ⟨fun hm => (List.mem_cons.1 hm).elim (fun e => by have := (eV.block (h.2 i u p hu hp).1 h0 hb).1; omega) ((h.2 i u p hu hp).2.2 h0 bb hb).1, ((h.2 i u p hu hp).2.2 h0 bb hb).2⟩⟩⟩
theorem Elems.snoc {N : Nat} {W : World} {B : List Nat} {us : List Value} {ps : List (List Int)} (h : Elems N W B us ps) {u : Value} {p : List Int} (hr : eV W u p) (h1 : u.oneCell' = true) (hd : p ≠ [] → ∀ bb, u.ownBlock = some bb → bb ∉ B ∧ N ≤ bb) : Elems N W B (us ++ [u]) (ps ++ [p]) := by
  refine ⟨by simp [h.1], fun i a q ha hq => ?_⟩
  by_cases hi : i < us.length
  · rw [List.getElem?_append_left hi] at ha
    rw [List.getElem?_append_left (by rw [← h.1]; exact hi)] at hq
    exact h.2 i a q ha hq
  · rw [List.getElem?_append_right (by omega)] at ha
    rw [List.getElem?_append_right (by rw [← h.1]; omega)] at hq
    have h0 : i - us.length = 0 := by
      have := (List.getElem?_eq_some_iff.1 ha).1
      simp at this; omega
    rw [← h.1, h0] at hq
    rw [h0] at ha
    cases ha; cases hq
    exact ⟨hr, h1, hd⟩
theorem IJ.next {n₀ b off cap B : Nat} {zs : List Int} {w W w' w1 : World} {pre : List (PosJ zs)} {x : PosJ zs} {v U V' : Value} {us : List Value} {E : Int} (hE : E = (x.1.1 : Int) + (x.1.2 : Int)) (hb : b < n₀) (hs : n₀ + 3 ≤ W.heap.size)
    (hv : Boxed W n₀ 23 v) (hrow : W.ownsRow (n₀ + 3) 22 1 v pre.length us) (hel : Elems n₀ W [n₀, n₀ + 1] us (pre.map fun x => oF zs x.1)) (hel2 : ∀ g, v.ownBlock = some g → Elems n₀ W [g] us (pre.map fun x => oF zs x.1)) (hEn : ∃ z, Boxed W (n₀ + 1) 3 z) (hL : LogAt W (n₀ + 2) b off cap zs) (hB : Below n₀ w W)
    (hu3 : W.grownBy w' none) (hu1 : U.oneCell' = true) (hu2 : eV w' U (oF zs x.1)) (hu4 : oF zs x.1 ≠ [] → ∀ bb, U.ownBlock = some bb → W.heap.size ≤ bb)
    (hgrow : (w'.alloc (.cells #[U] 22)).grownBy w1 v.ownBlock) (hown : w1.ownsRow (n₀ + 3) 22 1 V' (pre.length + 1) (us ++ [U])) (hblk : V'.ownBlock = v.ownBlock ∨ V'.ownBlock = some (w'.alloc (.cells #[U] 22)).heap.size) :
    KeepsFrom B W ((w1.setCell ⟨n₀, 0, none⟩ V').setCell ⟨n₀ + 1, 0, none⟩ (.int .i64 E)) ∧ KeepJ (n₀ + 2) b W ((w1.setCell ⟨n₀, 0, none⟩ V').setCell ⟨n₀ + 1, 0, none⟩ (.int .i64 E)) ∧ IJ n₀ b off cap zs w (pre ++ [x]) ((w1.setCell ⟨n₀, 0, none⟩ V').setCell ⟨n₀ + 1, 0, none⟩ (.int .i64 E)) := by
  have hsz := hu3.size
  have hal : (w'.alloc (.cells #[U] 22)).heap.size = w'.heap.size + 1 := by simp
  have hsz1 := hgrow.size
  have hrow3 := ownsRow_grown0 hrow hu3
  have hv3 := Boxed.grown0 hv hu3
  obtain ⟨hbx, hbx', hrow', hko, hbel⟩ := Boxed.appended hv3 (by decide) (ownsRow_mono hrow3 (by omega)) (by omega) (Nat.le_refl _) (ownsRow_mono hown (by omega : n₀ ≤ n₀ + 3)) hgrow
  have hvlt := hrow.lt
  have hV : ∀ g, V'.ownBlock = some g → n₀ + 3 ≤ g := fun g hg => (hown.lt g hg).1
  have hvb : ∀ k, k < n₀ + 3 → some k ≠ v.ownBlock := fun k hk e => by have := (hvlt k e.symm).1; omega
  have gS0 := grownBy_setCell' w1 n₀ V'
  have gS1 := grownBy_setCell' (w1.setCell ⟨n₀, 0, none⟩ V') (n₀ + 1) (.int .i64 E)
  have ht := World.grownBy_alloc w' (.cells #[U] 22) none
  have hKJ : KeepJ (n₀ + 2) b W ((w1.setCell ⟨n₀, 0, none⟩ V').setCell ⟨n₀ + 1, 0, none⟩ (.int .i64 E)) := by
    have keep : ∀ k, k < n₀ + 3 → k ≠ n₀ → k ≠ n₀ + 1 → ((w1.setCell ⟨n₀, 0, none⟩ V').setCell ⟨n₀ + 1, 0, none⟩ (.int .i64 E)).heap[k]? = W.heap[k]? := fun k hk h0 h1 => by
      have a1 := hu3.block k (by omega) (by simp)
      have a2 := ht.block k (by omega) (by simp)
      have a3 := hgrow.block k (by omega) (hvb k hk)
      have a4 := gS0.block k (by omega) (by simpa using h0)
      have a5 := gS1.block k (by have := gS0.size; omega) (by simpa using h1)
      rw [a5, a4, a3, a2, a1]
    exact ⟨by have := gS0.size; have := gS1.size; omega, keep _ (by omega) (by omega) (by omega), keep _ (by omega) (by omega) (by omega)⟩
  have hall := ((((hel.join (B' := (v.ownBlock).toList) (by
      cases hvo : v.ownBlock with
      | none => exact hel.mono (by simp)
      | some g => exact hel2 g hvo)).add (f := w'.heap.size + 1) (by omega)).kept hu3 (by simp)).kept ht (by simp)).kept hgrow (fun r hr => .inl (by simp [hr]))
  have hall' := (hall.kept gS0 (fun r hr => .inl (by simp at hr; simp [hr]))).kept gS1 (fun r hr => .inl (by simp at hr; simp [hr]))
  obtain ⟨hr', h1', hd'⟩ : eV ((w1.setCell ⟨n₀, 0, none⟩ V').setCell ⟨n₀ + 1, 0, none⟩ (.int .i64 E)) U (oF zs x.1) ∧ U.oneCell' = true ∧ (oF zs x.1 ≠ [] → ∀ bb, U.ownBlock = some bb → bb ∉ n₀ :: (n₀ + 1) :: (w'.heap.size + 1) :: v.ownBlock.toList ∧ n₀ ≤ bb) := by
    have hnot : oF zs x.1 ≠ [] → ∀ bb, U.ownBlock = some bb → bb ∉ n₀ :: (n₀ + 1) :: (w'.heap.size + 1) :: v.ownBlock.toList := by
      intro h0 bb hbb hm
      have hlt := (eV.block hu2 h0 hbb).1
      have hor := hu4 h0 bb hbb
      rcases List.mem_cons.1 hm with rfl | hm
      · omega
      rcases List.mem_cons.1 hm with rfl | hm
      · omega
      rcases List.mem_cons.1 hm with rfl | hm
      · omega
      · have hvo : v.ownBlock = some bb := by simpa using hm
        have := hvlt bb hvo
        omega
    refine ⟨(((hu2.kept ht (by simp)).kept hgrow ?_).kept gS0 ?_).kept gS1 ?_, hu1, fun h0 bb hbb => ⟨hnot h0 bb hbb, by have := hu4 h0 bb hbb; omega⟩⟩
    · intro h0 bb hbb e
      exact hnot h0 bb hbb (by simp [← e])
    · intro h0 bb hbb e
      exact hnot h0 bb hbb (by simp at e; simp [e])
    · intro h0 bb hbb e
      exact hnot h0 bb hbb (by simp at e; simp [e])
  refine ⟨((((KeepsOthers.of_grownBy hu3 fun j o ej => by simp at ej).trans hko).trans (KeepsOthers.setCell _ _ _)).from _), hKJ, ⟨⟨V', us ++ [U], ?_, ?_, ?_, ?_⟩, ?_, hL.kept hKJ⟩, ?_⟩
  · exact hbx'.kept gS1 (by simp)
  · rw [List.length_append]
    refine (hown.kept gS0 ?_).kept gS1 ?_
    · right; intro e; have := hV _ e; omega
    · right; intro e; have := hV _ e; omega
  · rw [List.map_append]
    exact (hall'.mono (by simp)).snoc hr' h1' fun h0 bb hbb => ⟨fun hm => (hd' h0 bb hbb).1 (by simp at hm; rcases hm with rfl | rfl <;> simp), (hd' h0 bb hbb).2⟩
  · intro g hg
    have hmem : g ∈ n₀ :: (n₀ + 1) :: (w'.heap.size + 1) :: v.ownBlock.toList := by
      rcases hblk with h | h
      · rw [hg] at h; simp [← h]
      · rw [hg, hal] at h
        obtain rfl := Option.some.inj h
        simp
    rw [List.map_append]
    refine (hall'.mono fun y hy => ?_).snoc hr' h1' fun h0 bb hbb => ⟨fun hm => (hd' h0 bb hbb).1 ?_, (hd' h0 bb hbb).2⟩
    · rw [List.mem_singleton] at hy
      subst hy
      rcases List.mem_cons.1 hmem with rfl | h
      · simp
      rcases List.mem_cons.1 h with rfl | h
      · simp
      rcases List.mem_cons.1 h with rfl | h
      · simp
      · simp at h; simp [h]
    · rw [List.mem_singleton] at hm
      subst hm
      exact hmem
  · obtain ⟨z, hz⟩ := hEn
    have := (((Boxed.grown0 hz hu3).alloc (.cells #[U] 22)).kept hgrow (hvb _ (by omega))).kept gS0 (by simp)
    have := this.set (.int .i64 E)
    rw [List.map_append]
    show Boxed _ _ _ (.int .i64 (vS (List.map (fun x => x.1) pre ++ [x.1])))
    rw [OM, show ((x.1.1 + x.1.2 : Nat) : Int) = E by omega]
    exact this
  · exact (((hB.grown hu3 (by omega) (by simp)).trans hbel)).setCell (p := ⟨n₀ + 1, 0, none⟩) (by simp) _
set_option maxRecDepth 100000 in
set_option maxHeartbeats 4000000 in
theorem Tryz.Read_in (n : Nat) (hn : 3 ≤ n) (b off cap : Nat) (zs : List Int) (hcap : zs.length ≤ cap) (hz : zs.length ≤ 10000000) (hby : fI zs) (w : World) (hb : b < w.heap.size) (hc : ∀ i x, zs[i]? = some x → w.cell? ⟨b, off + i, none⟩ = some (.int .u8 x)) :
    CallsIn Fence.wide n Tryz.prog 52 #[.slice (some ⟨b, off, none⟩) zs.length cap] w fun e W' => ∃ v us, e = .returned (.tuple #[v, .int .i64 (vS (j6 zs 0))]) ∧ W'.ownsRow w.heap.size 22 1 v (j6 zs 0).length us ∧ Elems w.heap.size W' [] us ((j6 zs 0).map fun x => oF zs x) ∧ Below w.heap.size w W' := by
  have h1 : 1 ≤ n := by omega
  obtain ⟨i0, hi, hz0, hz1, hz2⟩ := info_parts Tryz.infoB
  refine callsIn_of_wp_marks Tryz.func52 rfl trivial ?_ rfl
  simp only [Tryz.ntmps52, List.size_toArray, List.length_cons, List.length_nil, Nat.reduceAdd, Nat.reduceSub, Array.replicate_succ, Array.replicate_zero, List.push_toArray, List.append_toArray, List.nil_append, List.cons_append]
  gi_wp2_with (refine ⟨trivial, ?_⟩; gi_at_call 109; refine (Tryz.entries_in Fence.wide (n - 1) trivial rfl _ _ _ _).mono ?_; rintro e w' ⟨rfl, rfl⟩)
  have bO := Boxed.new w 23 (.slice none 0 0)
  have bN := Boxed.new (w.alloc (.cells #[.slice none 0 0] 23)) 3 (.int .i64 0)
  have bL := Boxed.new ((w.alloc (.cells #[.slice none 0 0] 23)).alloc (.cells #[.int .i64 0] 3)) 22 (.slice (some ⟨b, off, none⟩) zs.length cap)
  rw [World.size_alloc] at bN
  rw [World.size_alloc, World.size_alloc] at bL
  have hB0 : Below w.heap.size w (((w.alloc (.cells #[.slice none 0 0] 23)).alloc (.cells #[.int .i64 0] 3)).alloc (.cells #[.slice (some ⟨b, off, none⟩) zs.length cap] 22)) := (((Below.refl _ w).alloc (Nat.le_refl _) _).alloc (by simp) _).alloc (by simp; omega) _
  have bO2 := (bO.alloc (.cells #[.int .i64 0] 3)).alloc (.cells #[.slice (some ⟨b, off, none⟩) zs.length cap] 22)
  have bN2 := bN.alloc (.cells #[.slice (some ⟨b, off, none⟩) zs.length cap] 22)
  obtain ⟨W0, hW0⟩ : ∃ W0, ((w.alloc (.cells #[.slice none 0 0] 23)).alloc (.cells #[.int .i64 0] 3)).alloc (.cells #[.slice (some ⟨b, off, none⟩) zs.length cap] 22) = W0 := ⟨_, rfl⟩
  have hsz : W0.heap.size = w.heap.size + 3 := by rw [← hW0]; simp
  rw [hW0] at bL hB0 bO2 bN2 ⊢
  have hLog : LogAt W0 (w.heap.size + 2) b off cap zs := ⟨bL.cell, by omega, by omega, fun i x hx => by rw [hB0.cell (p := ⟨b, off + i, none⟩) hb]; exact hc i x hx⟩
  clear bO bN hW0
  refine wpIn_rangeFunc_ownG rfl h1 (gf := 158) (lb := #[.pointer (some ⟨w.heap.size + 1 + 1, 0, none⟩)]) rfl trivial (enters_of Tryz.func158 (by kernel_rfl) rfl)
    (Tryz.ent_stops (n - 1) (by omega) (w.heap.size + 2) b off cap zs hcap hz hby W0 hLog) KeepJ.t (KeepJ.put (by omega) (by omega)) (Below.refl _ _) (fun _ => rfl)
    (IJ w.heap.size b off cap zs w) (fun _ _ _ => False) (by rw [hsz]; exact IJ.own w.heap.size b off cap zs w hb) (fun _ _ _ _ _ hs _ _ => hs)
    ⟨⟨⟨.slice none 0 0, [], bO2, World.ownsRow_nil _ _ _ _, ⟨rfl, fun i u p hu => by simp at hu⟩, fun g hg => by simp [Value.ownBlock] at hg⟩, bN2, hLog⟩, hB0⟩
    (fun x => { tmps := #[.slice (some ⟨b, off, none⟩) zs.length cap, undef, .slice none 0 0, .int .i64 0, .pointer (some ⟨w.heap.size, 0, none⟩), .pointer (some ⟨w.heap.size + 1, 0, none⟩), .slice (some ⟨b, offJ off cap x.1.1, none⟩) x.1.2 (cap - x.1.1), .int .i64 ((x.1.1 : Int) + (x.1.2 : Int)),
      .slice (some ⟨b, off, none⟩) zs.length cap, .func (.func 158) #[] #[.pointer (some ⟨w.heap.size + 1 + 1, 0, none⟩)], .slice (some ⟨b, offJ off cap x.1.1, none⟩) x.1.2 (cap - x.1.1), .int .i64 ((x.1.1 : Int) + (x.1.2 : Int)), undef, undef, undef, undef, undef, undef, undef, undef], defers := [] }) ?assign ?body ?done ?UN
  case assign =>
    intro l x W K hK
    simp only [encJ]
    gi_wp2
    exact hK
  case UN =>
    rintro D c pre W _ _ h _
    exact h.elim
  case done =>
    rintro D ys W hD hys ⟨⟨⟨v, us, hv, hrow, hel, _⟩, hE, _⟩, hB⟩ hK
    have hcv := hv.cell
    have hce := hE.cell
    gi_wp2
    gi_region
    all_goals gi_wp2
    refine ⟨by simp, .inl ⟨_, _, rfl, run_takeDeferred (w := W.drew) hK, ?_⟩⟩
    have hKd : W.drew.heap[D]? = some (Obj.deferred (some [])) := hK
    refine ⟨_, results_tmp2 rfl _ _ _, v, us, ?_, ?_, ?_, ?_⟩
    · rw [← hys]
      rfl
    · rw [← hys, List.length_map]
      exact ownsRow_mono (ownsRow_putObj (W := W.drew) hrow _ hKd rfl) (by omega)
    · rw [← hys, List.map_map]
      exact (Elems.kept (W := W.drew) (show Elems _ W.drew _ _ _ from hel) (row := some D) (grownBy_putObj' W.drew D (.deferred none)) (fun r hr => .inr ⟨_, by cases hr; exact hKd, rfl⟩)).mono (by simp)
    · exact (hB.trans (show Below w.heap.size W W.drew from ⟨rfl, rfl, rfl, Nat.le_refl _, fun _ _ => rfl⟩)).trans (belowK_b (w := w) (Nat.le_refl _) W.drew D _ _ (by omega) hKd rfl rfl)
  case body =>
    rintro l pre x W ⟨⟨⟨v, us, hv, hrow, hel, hel2⟩, hE, hLW⟩, hB⟩ hlt
    have hd : 1 ≤ n - 1 - 1 := by omega
    have hmx : Tryz.prog.follows .mixedOrders = true := by kernel_rfl
    have hcv := hv.cell
    have hce := hE.cell
    have hx2 := x.2
    have hWs := hLW.2.1
    have hrp : eV W (.slice (some ⟨b, offJ off cap x.1.1, none⟩) x.1.2 (cap - x.1.1)) (oF zs x.1) := by
      unfold offJ oF
      by_cases h0 : cap - x.1.1 = 0
      · have : x.1.2 = 0 := by omega
        rw [this]; exact .inl ⟨rfl, _, _, rfl⟩
      · rw [if_neg h0]; exact hLW.reads hcap x.1.1 x.1.2 hx2 _ (by omega)
    have hpl : (oF zs x.1).length ≤ 90000000 := by rw [oF, List.length_take, List.length_drop]; omega
    gi_wp2
    have hle : w.heap.size ≤ w.heap.size := Nat.le_refl _
    have hbytes : pre.length + 1 ≤ 10000002 := by omega
    have hm1 : pre.length + 1 ≤ maxLen := Nat.le_trans hbytes (by decide)
    have hm2 : (pre.length + 1) * 24 ≤ 140737488355328 := by omega
    gi_region_with_o (first
      | (refine ⟨trivial, ?_⟩; gi_at_call 63; refine (CallsIn.inRound l (callsIn_wide.2 (Tryz.Clone_calls (W := W.drew) hrp hpl))).mono ?_; rintro e w' ⟨au, cu, rfl, hu2, hu3, hu4⟩; have hv3 := Boxed.grown0 (W := W.drew) hv hu3; have hrow3 := ownsRow_grown0 (W := W.drew) hrow hu3; have hcv3 := hv3.cell; have hcv4 := (hv3.alloc (.cells #[.slice au (oF zs x.1).length cu] 22)).cell)
      | (obtain ⟨v', w1, hr, hown', hgrow, _, hblk⟩ := run_append_own_at (P := Tryz.prog) (w'.alloc (.cells #[.slice au (oF zs x.1).length cu] 22)) (w.heap.size + 3) 23 23 22 i0 (.slice none 0 0) 1 24 Tryz.underlying23 hi hz0 hz1 hz2 rfl (by decide) v pre.length us (hrow3.alloc _) ⟨w'.heap.size, 0, none⟩ 1 1 [.slice au (oF zs x.1).length cu] rfl (cell_one_new _ _ _) (by simp [Value.oneCell']) hm1 hm2 (by have := hu3.size; simp at *; omega)
         rw [appG_fold] at hr
         rw [hr]; obtain ⟨g', cap', rfl⟩ := ownsRow_succ hown'
         obtain ⟨hbx, hbx', hrow', hko, hbel⟩ := Boxed.appended hv3 (by decide) (ownsRow_mono hrow3 (by omega : w.heap.size ≤ w.heap.size + 3)) (by have := hu3.size; simp at *; omega) (Nat.le_refl _) (ownsRow_mono hown' (by omega : w.heap.size ≤ w.heap.size + 3)) hgrow
         have hcx := hbx.cell
         have hfx := hbx.frozen
         have hE1 := (((Boxed.grown0 (W := W.drew) hE hu3).alloc (.cells #[.slice au (oF zs x.1).length cu] 22)).kept hgrow ((Boxed.grown0 (W := W.drew) hE hu3).not_row (by decide) hrow3))))
    all_goals (
      have hE' := hE1.kept (grownBy_setCell' w1 w.heap.size (.slice (some ⟨g', 0, none⟩) (pre.length + 1) cap')) (by simp)
      have hcE' := hE'.cell
      have hfE' := hE'.frozen
      have hcE1 := hE1.cell
      have hfE1 := hE1.frozen
      clear hr hcx hfx hm1 hm2
      gi_wp2)
    all_goals exact IJ.next rfl hb (by omega) hv hrow hel hel2 ⟨_, hE⟩ hLW hB (show W.grownBy w' none from ⟨hu3.os, hu3.tape, hu3.output, hu3.size, hu3.block⟩) rfl hu2 hu4 hgrow hown' hblk
end Go.Proofs
namespace Go.Proofs
open Go.RowKit Go.Shelf Go.AW
variable [dK]
set_option linter.all false
set_option maxRecDepth 100000
attribute [local go_sem] Oper.semAt_some
theorem Tryz.ent_stopsE (n : Nat) (Bs cap : Nat) (a : Option Addr) (w : World) (hBs : Bs < w.heap.size) (hc : w.cell? ⟨Bs, 0, none⟩ = some (.slice a 0 cap)) :
    SeqStopsK Fence.wide n Tryz.prog 158 #[.pointer (some ⟨Bs, 0, none⟩)] (fun x : Empty => #[.int .i64 0, .int .i64 0]) (fun W W' => Below w.heap.size W W') (fun ys => ys = []) (fun _ => True) 1 w := fun l J Jx W hW hJ _ hY h0 =>
  (Tryz.ent0_in n l Bs a cap J W ((hW.cell (p := ⟨Bs, 0, none⟩) hBs).trans hc) h0).mono fun e W' ⟨he, hj⟩ => ⟨he, .inl ⟨[], rfl, hj⟩⟩
set_option maxRecDepth 100000 in
set_option maxHeartbeats 4000000 in
theorem Tryz.Read0_in (n : Nat) (hn : 3 ≤ n) (ad : Option Addr) (cap : Nat) (w : World) :
    CallsIn Fence.wide n Tryz.prog 52 #[.slice ad 0 cap] w fun e W' => e = .returned (.tuple #[.slice none 0 0, .int .i64 0]) ∧ Below w.heap.size w W' := by
  have h1 : 1 ≤ n := by omega
  refine callsIn_of_wp_marks Tryz.func52 rfl trivial ?_ rfl
  simp only [Tryz.ntmps52, List.size_toArray, List.length_cons, List.length_nil, Nat.reduceAdd, Nat.reduceSub, Array.replicate_succ, Array.replicate_zero, List.push_toArray, List.append_toArray, List.nil_append, List.cons_append]
  gi_wp2_with (refine ⟨trivial, ?_⟩; gi_at_call 109; refine (Tryz.entries_in Fence.wide (n - 1) trivial rfl _ _ _ _).mono ?_; rintro e w' ⟨rfl, rfl⟩)
  have bO := Boxed.new w 23 (.slice none 0 0)
  have bN := Boxed.new (w.alloc (.cells #[.slice none 0 0] 23)) 3 (.int .i64 0)
  have bL := Boxed.new ((w.alloc (.cells #[.slice none 0 0] 23)).alloc (.cells #[.int .i64 0] 3)) 22 (.slice ad 0 cap)
  rw [World.size_alloc] at bN
  rw [World.size_alloc, World.size_alloc] at bL
  have hB0 : Below w.heap.size w (((w.alloc (.cells #[.slice none 0 0] 23)).alloc (.cells #[.int .i64 0] 3)).alloc (.cells #[.slice ad 0 cap] 22)) := (((Below.refl _ w).alloc (Nat.le_refl _) _).alloc (by simp) _).alloc (by simp; omega) _
  have bO2 := (bO.alloc (.cells #[.int .i64 0] 3)).alloc (.cells #[.slice ad 0 cap] 22)
  have bN2 := bN.alloc (.cells #[.slice ad 0 cap] 22)
  obtain ⟨W0, hW0⟩ : ∃ W0, ((w.alloc (.cells #[.slice none 0 0] 23)).alloc (.cells #[.int .i64 0] 3)).alloc (.cells #[.slice ad 0 cap] 22) = W0 := ⟨_, rfl⟩
  have hsz : W0.heap.size = w.heap.size + 3 := by rw [← hW0]; simp
  rw [hW0] at bL hB0 bO2 bN2 ⊢
  clear bO bN hW0
  refine wpIn_rangeFunc_ownG rfl h1 (gf := 158) (lb := #[.pointer (some ⟨w.heap.size + 1 + 1, 0, none⟩)]) rfl trivial (enters_of Tryz.func158 (by kernel_rfl) rfl)
    (Tryz.ent_stopsE (n - 1) (w.heap.size + 2) cap ad W0 (by omega) bL.cell) (fun h k => h.trans k) (belowK_b (Nat.le_refl _)) (Below.refl _ _) (fun _ => rfl)
    (fun _ W => (Boxed W w.heap.size 23 (.slice none 0 0) ∧ Boxed W (w.heap.size + 1) 3 (.int .i64 0)) ∧ Below w.heap.size w W) (fun _ _ _ => False) ?own (fun _ _ _ _ _ hs _ _ => hs)
    ⟨⟨bO2, bN2⟩, hB0⟩
    (fun x => { tmps := #[], defers := [] }) ?assign ?body ?done ?UN
  case own =>
    rintro pre X Y row ⟨⟨hv, hE⟩, hB⟩ hg hrow
    have hbox : ∀ {B : Nat} {t : TypeId} {u : Value}, Boxed X B t u → some B ≠ row := fun {B t u} h e' => by
      obtain ⟨_, o, ho, hc⟩ := hrow B e'.symm
      rw [show X.heap[B]? = _ from h] at ho; cases ho; cases hc
    exact ⟨⟨hv.kept hg (hbox hv), hE.kept hg (hbox hE)⟩, hB.grown hg hB.size fun k e => by have := (hrow k e).1; omega⟩
  case assign => intro l x; exact x.elim
  case body => intro l pre x; exact x.elim
  case UN =>
    rintro D c pre W _ _ h _
    exact h.elim
  case done =>
    rintro D ys W hD hys ⟨⟨hv, hE⟩, hB⟩ hK
    have hcv := hv.cell
    have hce := hE.cell
    gi_wp2
    gi_region
    all_goals gi_wp2
    refine ⟨by simp, .inl ⟨_, _, rfl, run_takeDeferred (w := W.drew) hK, ?_⟩⟩
    have hKd : W.drew.heap[D]? = some (Obj.deferred (some [])) := hK
    refine ⟨_, results_tmp2 rfl _ _ _, rfl, ?_⟩
    exact (hB.trans (show Below w.heap.size W W.drew from ⟨rfl, rfl, rfl, Nat.le_refl _, fun _ _ => rfl⟩)).trans (belowK_b (w := w) (Nat.le_refl _) W.drew D _ _ (by omega) hKd rfl rfl)
def Cnew (C : Nat → Nat) (w W' : World) (x : Nat) : Nat := if x < w.heap.size then C x else match W'.heap[x]? with
  | some (.cells cs _ _) => cs.size
  | _ => 0
theorem Cnew_lt {C : Nat → Nat} {w W' : World} (hw : w.heap.size ≤ W'.heap.size) (b : Nat) (h : 0 < Cnew C w W' b) : b < W'.heap.size := by
  unfold Cnew at h
  by_cases hb : b < w.heap.size
  · omega
  · rw [if_neg hb] at h
    by_cases hb2 : b < W'.heap.size
    · exact hb2
    · rw [Array.getElem?_eq_none (by omega)] at h; simp at h
theorem Cnew_cell {C : Nat → Nat} {w W' : World} {b i : Nat} {x : Value} (hb : w.heap.size ≤ b) (h : W'.cell? ⟨b, i, none⟩ = some x) : i < Cnew C w W' b := by
  unfold Cnew
  rw [if_neg (by omega)]
  unfold World.cell? at h
  split at h
  · rename_i c _ _ hc
    rw [hc]
    simp at h
    exact (Array.getElem?_eq_some_iff.1 h).1
  · cases h
theorem st_below (hup : ¬ dK.up) {C : Nat → Nat} {τ : Nat → Option Go.AW.Loc} {H : List aB} {w W' : World} (hw : WF C τ H w) (hB : Below w.heap.size w W') : St w (cX τ H w) (Cnew C w W') τ H W' ∧ cU C τ H w (Cnew C w W') τ H W' := by
  have s : cU C τ H w (Cnew C w W') τ H W' := by
    refine ⟨fun b => ?_, fun b i hi => ?_, fun id o h => ⟨o, h, o.after_refl _⟩, hB.size, fun b hb => by rw [Cnew, if_pos hb]⟩
    · by_cases hb : b < w.heap.size
      · rw [Cnew, if_pos hb]; exact Nat.le_refl _
      · have : C b = 0 := by
          rcases Nat.eq_zero_or_pos (C b) with h | h
          · exact h
          · exact absurd (hw.lt b h) hb
        omega
    · exact hB.cell (p := ⟨b, i, none⟩) (hw.lt b (by omega))
  refine ⟨⟨⟨hw.ok, hw.virt, fun id o l h1 h2 => (hw.objs id o l h1 h2).mono s (hB.block _ (hw.locLt (List.getElem?_eq_some_iff.1 h1).1 h2)), fun id l h1 h2 => ?_, hw.inj, fun b hb => Cnew_lt hB.size b hb⟩, ⟨hB.os, hB.tape, hB.output, hB.size, fun b hb => hB.block b hb.1, fun u => absurd u hup⟩, fun b ho hp => hp.2 ho, fun b hb => hb.1⟩, s⟩
  rw [Cnew, if_pos (hw.locLt h1 h2)]
  exact hw.comm id l h1 h2
theorem Tryz.Read_any (hup : ¬ dK.up) (zs : List Int) (hz : zs.length ≤ 10000000) (hby : fI zs) {C : Nat → Nat} {τ : Nat → Option Go.AW.Loc} {H : List aB} {w : World} {v : Value} (hw : WF C τ H w) (hreads : eV w v zs) :
    eS Tryz.prog 52 #[v] w fun e w' => ∃ v r C' τ' H', e = .returned v ∧ (r = .tuple [xN zs, .int .i64 (vS (j6 zs 0))] ∧ H' = H) ∧ bW C' w' τ' H' r v ∧ St w (cX τ H w) C' τ' H' w' ∧ cU C τ H w C' τ' H' w' := by
  unfold eS
  rw [enters_of Tryz.func52 (by kernel_rfl) rfl]
  rcases hreads with ⟨rfl, a, cap, rfl⟩ | ⟨h0, b, off, cap, rfl, hcap, hb, hc⟩
  · refine Calls.mono (callsIn_wide.1 (Tryz.Read0_in 3 (Nat.le_refl _) a cap w)) ?_
    rintro e W' ⟨rfl, hB⟩
    obtain ⟨h1, h2⟩ := st_below hup hw hB
    have hn : j6 [] 0 = [] := kD (xK (by simp))
    refine ⟨_, _, _, _, _, rfl, ⟨rfl, rfl⟩, ?_, h1, h2⟩
    unfold xN
    rw [hn]
    refine .tuple _ _ rfl fun i c v hc hv => ?_
    rcases i with _ | _ | i
    · cases hc; cases hv; exact .rd (.list0 _ _ _ _ (by simp))
    · cases hc; cases hv; exact .rd (.int _ _)
    · simp at hc
  · refine Calls.mono (callsIn_wide.1 (Tryz.Read_in 3 (Nat.le_refl _) b off cap zs hcap hz hby w hb hc)) ?_
    rintro e W' ⟨v, us, rfl, hrow, hel, hB⟩
    obtain ⟨h1, h2⟩ := st_below hup hw hB
    refine ⟨_, _, _, _, _, rfl, ⟨rfl, rfl⟩, ?_, h1, h2⟩
    have hlen : us.length = (j6 zs 0).length := by have := hel.1; simpa using this
    refine .tuple _ _ rfl fun i c u hc hu => ?_
    rcases i with _ | _ | i
    · cases hc; cases hu
      refine .rd ?_
      rcases hrow.2 with ⟨rfl, hn⟩ | ⟨g, cp, cur, rfl, hg, hgb, hncap, _, hcs, htake⟩
      · have : j6 zs 0 = [] := List.eq_nil_of_length_eq_zero hn
        unfold xN
        rw [this]
        exact .list0 _ _ _ _ (by simp)
      · have hcell : ∀ i, i < (j6 zs 0).length → W'.cell? ⟨g, i, none⟩ = some (us.getD i undef) := fun i hi => by
          have hj : us[i]? = some (us[i]'(by omega)) := List.getElem?_eq_getElem (by omega)
          have := hrow.cells (g := g) rfl i _ hj
          rw [Addr.add] at this
          simp only [Nat.zero_add] at this
          rw [show (if i = 0 then ({ block := g, off := 0 } : Addr) else { block := g, off := i }) = ⟨g, i, none⟩ by
            by_cases h : i = 0
            · rw [if_pos h, h]
            · rw [if_neg h]] at this
          rw [this, List.getD_eq_getElem?_getD, hj]; rfl
        have hel2 : ∀ (i : Nat) (e : List a6) (d : a6), ((j6 zs 0).map fun x => [a6.list false 1 (bC (oF zs x))])[i]? = some e → e[0]? = some d → Rd (Cnew C w W') W' d (us.getD i undef) := fun i e d he hd => by
          rw [List.getElem?_map] at he
          obtain ⟨x, hx, rfl⟩ := Option.map_eq_some_iff.1 he
          cases hd
          have hi := (List.getElem?_eq_some_iff.1 hx).1
          have hj : us[i]? = some (us[i]'(by omega)) := List.getElem?_eq_getElem (by omega)
          obtain ⟨e1, e2, e3⟩ := hel.2 i _ _ hj (by rw [List.getElem?_map, hx]; rfl)
          rw [List.getD_eq_getElem?_getD, hj]
          exact e1.rdC fun h0 b k y hb hk => Cnew_cell (e3 h0 b hb).2 hk
        unfold xN
        have := Rd.list (C := Cnew C w W') (w := W') false 1 ((j6 zs 0).map fun x => [a6.list false 1 (bC (oF zs x))]) g 0 cp (fun i _ => us.getD i undef) (by simp) (by rw [List.length_map]; exact hncap) (fun e he => by
          obtain ⟨x, _, rfl⟩ := List.mem_map.1 he
          rfl) (by
            rw [List.length_map, Nat.mul_one, Nat.zero_add]
            by_cases hz0 : (j6 zs 0).length = 0
            · omega
            · have := Cnew_cell (C := C) hg (hcell ((j6 zs 0).length - 1) (by omega))
              omega) (fun i j hi hj => by
            obtain rfl : j = 0 := by omega
            rw [List.length_map] at hi
            rw [Nat.mul_one, Nat.add_zero, Nat.zero_add]
            exact hcell i hi) (fun i j e d he hd => by
            rw [List.getElem?_map] at he
            obtain ⟨x, _, rfl⟩ := Option.map_eq_some_iff.1 he
            rcases j with _ | j
            · cases hd; rfl
            · simp at hd) (fun i j e d he hd => by
            have hj0 : j = 0 := by
              rw [List.getElem?_map] at he
              obtain ⟨x, _, rfl⟩ := Option.map_eq_some_iff.1 he
              rcases j with _ | j
              · rfl
              · simp at hd
            subst hj0
            exact hel2 i e d he hd)
        rwa [List.length_map] at this
    · cases hc; cases hu; exact .rd (.int _ _)
    · simp at hc
theorem Tryz.Read_acalls (hup : ¬ dK.up) (ex : Bool) (zs : List Int) (hz : zs.length ≤ 10000000) (hby : fI zs) (H : List aB) : a7 Tryz.prog 52 [.list ex 1 (bC zs)] H (fun r H' => r = .tuple [xN zs, .int .i64 (vS (j6 zs 0))] ∧ H' = H) := by
  intro C τ w vs hw hl hr
  obtain ⟨v, rfl⟩ : ∃ v, vs = #[v] := by
    obtain ⟨m⟩ := vs
    match m, hl with
    | [v], _ => exact ⟨v, rfl⟩
  have hrel := hr 0 _ v rfl rfl
  have hrd : Rd C w (.list ex 1 (bC zs)) v := by
    cases hrel with
    | rd h => exact h
  exact Tryz.Read_any hup zs hz hby hw (eV.of_rd hrd hw.lt).1
theorem Tryz.Read_own (hup : ¬ dK.up) (zs : List Int) (n : Nat) (hn : n = zs.length) (hz : zs.length ≤ 10000000) (hby : fI zs) (H : List aB) (id : Nat) (ho : H[id]? = some (.arr 1 (bC zs))) : a7 Tryz.prog 52 [.sl id n 0 n] H (fun r H' => r = .tuple [xN zs, .int .i64 (vS (j6 zs 0))] ∧ H' = H) := by
  subst hn
  intro C τ w vs hw hl hr
  obtain ⟨v, rfl⟩ : ∃ v, vs = #[v] := by
    obtain ⟨m⟩ := vs
    match m, hl with
    | [v], _ => exact ⟨v, rfl⟩
  have hrel := hr 0 _ v rfl rfl
  exact Tryz.Read_any hup zs hz hby hw (eV.of_sl hw ho hrel)
theorem Tryz.Read_part (hup : ¬ dK.up) (zs : List Int) (rest : List (List a6)) (ep n : Nat) (hep : ep = zs.length + rest.length) (hn : n = zs.length) (hz : zs.length ≤ 10000000) (hby : fI zs) (H : List aB) (id : Nat) (ho : H[id]? = some (.arr 1 (bC zs ++ rest))) : a7 Tryz.prog 52 [.sl id ep 0 n] H (fun r H' => r = .tuple [xN zs, .int .i64 (vS (j6 zs 0))] ∧ H' = H) := by
  subst hn
  intro C τ w vs hw hl hr
  obtain ⟨v, rfl⟩ : ∃ v, vs = #[v] := by
    obtain ⟨m⟩ := vs
    match m, hl with
    | [v], _ => exact ⟨v, rfl⟩
  have hrel := hr 0 _ v rfl rfl
  exact Tryz.Read_any hup zs hz hby hw (eV.of_slPart hw ho hep hrel)
theorem Tryz.jread (hup : ¬ dK.up) : HN Tryz.prog 52 := ⟨Tryz.Read_acalls hup, Tryz.Read_own hup, Tryz.Read_part hup⟩
end Go.Proofs


namespace Go.AW
variable [dK]
attribute [local irreducible] a7
section
variable (F:(jA→List a6→List aB→Prop)→List a6→List aB→Prop)(n0:List Nat)(Qe:Nat→List a6→List aB→Prop)(Qr:List a6→List aB→Prop)
def lpR(I:Nat→List a6→List aB→Prop)(n:Nat)(ρ:List a6)(H:List aB):Prop :=
 dL ρ fun ρ1=>F (fun e ρ' H'=>match e with
  |.normal=>∃m,m<n∧Gp n0 ρ' H' (I m)
  |.exit id=>Qe id ρ' H'
  |.ret=>Qr ρ' H') ρ1 H
def lpT:Nat→Nat→List a6→List aB→Prop
 |0,_=>fun _ _=>False
 |k+1,m=>if m<k then lpT k m else lpR F n0 Qe Qr (lpT k) m
def lpI(m:Nat):List a6→List aB→Prop:=lpT F n0 Qe Qr (m+1) m
theorem lpT_le:∀(k m:Nat),m<k→lpT F n0 Qe Qr k m=lpI F n0 Qe Qr m
 |0,m,h=>absurd h (Nat.not_lt_zero _)
 |k+1,m,h=>by
  by_cases e:m<k
  ·rw[lpT,if_pos e];exact lpT_le k m e
  ·have:m=k:=by omega
   subst this;rfl
theorem lpI_eq(m:Nat):lpI F n0 Qe Qr m=lpR F n0 Qe Qr (lpI F n0 Qe Qr) m:=by
 rw[lpI,lpT,if_neg (Nat.lt_irrefl m)]
 funext ρ H
 unfold lpR
 congr;funext ρ1;congr;funext e ρ' H'
 cases e<;>try rfl
 refine propext ⟨fun⟨k,h,g⟩=>⟨k,h,by rwa [lpT_le F n0 Qe Qr m k h]at g⟩,fun⟨k,h,g⟩=>⟨k,h,by rwa [lpT_le F n0 Qe Qr m k h]⟩⟩
theorem lpU(N:Nat){ρ:List a6}{H:List aB}(h:lpI F n0 Qe Qr N ρ H):∃(I:Nat→List a6→List aB→Prop) (n:Nat) (vs:List (Nat×Nat)),TB vs ρ H (I n)∧∀n1 ρ1 H1,I n1 ρ1 H1 →
  dL ρ1 fun ρ1=>F (fun e ρ' H'=>match e with
   |.normal=>∃m,m<n1∧Gp n0 ρ' H' (I m)
   |.exit id=>Qe id ρ' H'
   |.ret=>Qr ρ' H') ρ1 H1 :=
 ⟨lpI F n0 Qe Qr,N,[],h,fun n1 ρ1 H1 h1=>by rw[lpI_eq]at h1;exact h1⟩
theorem lpS{m:Nat}{ρ:List a6}{H:List aB}(h:dL ρ fun ρ1=>F (fun e ρ' H'=>match e with
   |.normal=>∃k,k<m∧Gp n0 ρ' H' (lpI F n0 Qe Qr k)
   |.exit id=>Qe id ρ' H'
   |.ret=>Qr ρ' H') ρ1 H):lpI F n0 Qe Qr m ρ H:=by rw[lpI_eq];exact h
theorem lpE{m:Nat}{ρ:List a6}{H:List aB}(h:lpI F n0 Qe Qr m ρ H):∃k,k<m+1∧Gp n0 ρ H (lpI F n0 Qe Qr k):=⟨m,Nat.lt_succ_self m,.inl h⟩
end
theorem nq0{p:a6×a6}{b:Nat}{G:a6×a6→Nat→Prop}{K:Prop}(h:G p b):(∀(i:Nat) (kv:a6×a6) (b1:Nat),[p][i]?=some kv→[b][i]?=some b1→b1∉([]:List Nat)→G kv b1)∧((∀x∈[b],x∈([]:List Nat))→K) :=
 ⟨fun i kv b1 h1 h2 _=>(by
  cases i with
  |zero=>cases h1;cases h2;exact h
  |succ i=>cases h1),fun h=>absurd (h b (List.mem_cons_self ..)) (by simp)⟩
theorem nq1{p:a6×a6}{b:Nat}{G:a6×a6→Nat→Prop}{K:Prop}(h:K):(∀(i:Nat) (kv:a6×a6) (b1:Nat),[p][i]?=some kv→[b][i]?=some b1→b1∉[b]→G kv b1)∧((∀x∈[b],x∈[b])→K) :=
 ⟨fun i kv b1 h1 h2 h3=>(by
  cases i with
  |zero=>cases h1;cases h2;exact absurd (List.mem_cons_self ..) h3
  |succ i=>cases h1),fun _=>h⟩
theorem fgC{a e:a6}{m:Nat}{H:List aB}{p:a6×a6}{R:a6}{o1:aB}{HF:Nat→Nat→List aB}{K:a6→List aB→Prop}(h:a7 pr 103 [a,e,.mp m] H (fun r H'=>∃b ck,r=R∧H'=HF b ck))(hm:H[m]?=some (.map [p]))
  (hs:∀b ck,(HF b ck).take (H.length+1)=(H++[o1]).set m (.bmap [p] [b] ck)) (hb:Bel (H.length+1) R) (ho:o1.Bel (H.length+1)) (hk:K R (H++[o1])):a7 pr 103 [a,e,.mp m] H K:=by
 have hlt:=(List.getElem?_eq_some_iff.1 hm).1
 refine(show a7 pr 103 [a,e,.mp m] H (fun r H'=>r=R∧H'=H++[o1])from a7.cut (a7.fg h ?_)).mono (by rintro r H' ⟨rfl,rfl⟩;exact hk)
 rintro r H1 ⟨b,ck,rfl,rfl⟩
 have hh:HF b ck=(H++[o1]).set m (.bmap [p] [b] ck)++(HF b ck).drop (H.length+1):=by rw[←hs,List.take_append_drop]
 refine⟨(H++[o1])++(HF b ck).drop (H.length+1),⟨by have:=congrArg List.length hh;simp at this ⊢;omega,fun i o o2 h1 h2=>?_⟩,H++[o1],_,rfl,⟨rfl,rfl⟩,by simp,by simpa using hb,fun i o h1=>?_⟩
 ·rw[hh]at h1
  by_cases hi:i<H.length+1
  ·rw[List.getElem?_append_left (by simpa using hi)]at h1 h2
   by_cases e:m=i
   ·subst e
    rw[List.getElem?_set_self (by simpa using hi)]at h1
    rw[List.getElem?_append_left hlt,hm]at h2
    cases h1;cases h2
    exact .mp _ _ _ _ (.refl _)
   ·rw[List.getElem?_set_ne e]at h1
    rw[h1]at h2;cases h2;exact .refl _
  ·rw[List.getElem?_append_right (by simp;omega)]at h1 h2
   simp only[List.length_set]at h1
   rw[h1]at h2;cases h2;exact .refl _
 ·by_cases hi:i<H.length
  ·rw[List.getElem?_append_left hi]at h1;exact .inl h1
  ·rw[List.getElem?_append_right (by omega)]at h1
   cases hj:i-H.length with
   |zero=>rw[hj]at h1;cases h1;exact .inr (by simpa using ho)
   |succ j=>rw[hj]at h1;cases h1
theorem belT{n:Nat}{a b:a6}(h1:Bel n a)(h2:Bel n b):Bel n (.tuple [a,b]):=.tuple _ fun c hc=>by
 simp at hc
 rcases hc with rfl|rfl
 ·exact h1
 ·exact h2
theorem belM{n:Nat}{kvs:List (a6×a6)}(h:kvs.all (fun kv=>kv.2.closed)=true):(aB.map kvs).Bel n:=fun kv hk=>.closed _ (List.all_eq_true.1 h kv hk)
theorem belS{n id a b c:Nat}{k:a6}(h:Nat.ble (id+1) n=true):(aB.map [(k,.sl id a b c)]).Bel n:=fun kv hk=>by
 simp at hk
 subst hk
 exact .sl _ _ _ _ (Nat.le_of_ble_eq_true h)
theorem gr1{n0:List Nat}{ρ:List a6}{H:List aB}{I:List a6→List aB→Prop}(id:Nat)(p:a6×a6)(ho:H[id]?=some (.map [p]))(h:∀b ck,I ρ (H.set id (.bmap [p] [b] ck))):DU n0 ρ H I:=.rev id [p] ho fun kvs0 bs ck hp hl hn hb=>by
 obtain rfl:=List.perm_singleton.1 hp
 obtain⟨b,rfl⟩:=List.length_eq_one_iff.1 hl
 exact h b ck
theorem drP{P:Program}{f:FuncId}{args:List a6}{H:List aB}{R:a6}{k:a6→Prop}(ha:args.all a6.closed=true)(h:a7 P f args [] (fun r H1=>dV H1 0 [] r R))(hk:k R):∃r,a7 P f args H (fun r' H'=>r'=r∧H'=H)∧k r:=⟨R,a7.pure ha h,hk⟩
theorem drQ{P:Program}{f:FuncId}{args args':List a6}{H:List aB}{R:a6}{k:a6→Prop}(e:args=args')(h:a7 P f args' H (fun r' H'=>r'=R∧H'=H))(hk:k R):∃r,a7 P f args H (fun r' H'=>r'=r∧H'=H)∧k r:=by subst e;exact⟨R,h,hk⟩
theorem usQ{P:Program}{f:FuncId}{args args':List a6}{H:List aB}{R:a6}{k:a6→List aB→Prop}(e:args=args')(h:a7 P f args' H (fun r' H'=>r'=R∧H'=H))(hk:k R H):a7 P f args H k:=by subst e;exact a7.use h hk
theorem ceA{P:Program}{f:FuncId}{vs:List a6}{H H1:List aB}{R:a6}{k:a6→List aB→Prop}(h:a7 P f vs H (fun r' H'=>r'=R∧H'=H1))(hk:k R H1):∃r H1,a7 P f vs H (fun r' H'=>r'=r∧H'=H1)∧k r H1:=⟨R,H1,h,hk⟩
theorem ceB{P:Program}{f:FuncId}{vs:List a6}{H H1:List aB}{R:a6}{k:a6→List aB→Prop}(h:a7 P f vs H (fun r' H'=>r'=R∧H'=H1))(hk:k R H1):∃r H1,k r H1∧a7 P f vs H (fun r' H'=>r'=r∧H'=H1):=⟨R,H1,hk,h⟩
end Go.AW

namespace Go.AW
variable [dK]
attribute [local irreducible] a7 lpI
set_option maxRecDepth 100000
set_option maxHeartbeats 2000000
def kP1:List Int:=[1,4,108,105,118,101,0,1,0,1,97,0,0,0,1,49]
def kP2:List Int:=[2,4,108,105,118,101,6,115,104,97,100,111,119]
def kLg:List Int:=[0,0,0,16,45,151,80,85,1,4,108,105,118,101,0,1,0,1,97,0,0,0,1,49,0,0,0,13,53,192,244,200,2,4,108,105,118,101,6,115,104,97,100,111,119]
def kLv:ByteArray:=bs [108,105,118,101]
def kA:ByteArray:=bs [97]
def kV:List (a6×a6):=[(.str kA,.agg [.bool false,.list false 1 [[.int .u8 49]]])]
theorem k105a(hS:oO pr 64 115):a7 pr 105 [.str kLv,.mp 0] [.map kV] (fun r H'=>r=.sl 1 16 0 16∧∃G,H'=.map kV::.arr 1 (bC kP1)::G):=by
 refine aA k105.has ?_
 repeat'(first
 |refine lpS _ _ _ _ ?_
 |refine lpE _ _ _ _ ?_
 |((conv=>whnf);first
  |exact⟨rfl,rfl⟩
  |exact⟨rfl,_,rfl⟩
  |refine b4 (Nat.beq_refl _) ?_
  |apply ceA
  |apply ceB
  |refine And.intro (by first|exact rfl|decide|omega) ?_
  |refine And.intro (fun h=>absurd (congrArg List.length h) (by decide)) ?_
  |refine lpU _ _ _ _ 60 ?_
  |refine b4 (by decide) ?_
  |refine s8 (by decide) ?_
  |refine b8 rfl ?_
  |refine a7.use (hS.1 _ _ _ kV [kA] rfl rfl (.refl _) (by simp) (by decide) (by decide)) ?_
  |refine aA k69.has ?_|refine aA k68.has ?_|refine aA k67.has ?_|refine aA k65.has ?_))
theorem k105b(hS:oO pr 64 115){H:List aB}{id:Nat}(hc:H[id]?=some (.map kV)):a7 pr 105 [.str kLv,.mp id] H (fun r H'=>r=.list false 1 (bC kP1)∧H'=H):=by
 have h1:a7 pr 105 [.str kLv,.mp 0] [.map kV] (fun r H'=>r=.list false 1 (bC kP1)∧H'=[.map kV]):=by
  refine(k105a hS).gp ?_
  rintro r H1 ⟨rfl,G,rfl⟩
  refine Gp.res (r':=.list false 1 (bC kP1)) (H1:=[.map kV]) [0] (by simp) (bY rfl rfl rfl) ⟨⟨_,rfl,.mpc _ rfl⟩,trivial⟩ (mG (by simp) rfl rfl rfl rfl) ?_
  exact⟨_,rfl,rfl,rfl⟩
 refine h1.frL [id] (by simp) rfl ⟨⟨_,hc,?_⟩,trivial⟩ ⟨.closed _ rfl,.mp 0,trivial⟩ (.closed _ rfl) (by simp) ⟨⟨_,hc,?_⟩,trivial⟩ (EK [id] [] H)
 all_goals
  refine eW.map kV kV rfl fun i e e1 h1 h2=>?_
  rw[h1]at h2
  cases h2
  exact⟨rfl,.closed _ (List.all_eq_true.1 (show kV.all (fun kv=>kv.2.closed)=true from rfl) _ (List.mem_of_getElem? h1))⟩
def kL1:List Int:=[0,0,0,16,45,151,80,85,1,4,108,105,118,101,0,1,0,1,97,0,0,0,1,49]
theorem k104a:a7 pr 104 [.list false 1 (bC kL1),.sl 0 13 0 13] [.arr 1 (bC kP2)] (fun r H'=>∃id G,r=.tuple [.sl (id+1) 45 0 45,.int .i64 0]∧H'=.arr 1 (bC kP2)::G∧G[id]?=some (.arr 1 (bC kLg))):=by
 refine aA k104.has ?_
 repeat'(first
 |refine lpS _ _ _ _ ?_
 |refine lpE _ _ _ _ ?_
 |((conv=>whnf);first
  |exact⟨rfl,rfl⟩
  |(refine⟨0,_,rfl,rfl,?_⟩;(conv=>lhs;reduce);(conv=>rhs;reduce);done)
  |(refine⟨1,_,rfl,rfl,?_⟩;(conv=>lhs;reduce);(conv=>rhs;reduce);done)
  |(refine⟨2,_,rfl,rfl,?_⟩;(conv=>lhs;reduce);(conv=>rhs;reduce);done)
  |refine b4 (Nat.beq_refl _) ?_
  |apply ceA
  |apply ceB
  |(apply drP;exact rfl)
  |exact .closed _ rfl
  |refine And.intro (by first|exact rfl|decide|omega) ?_
  |refine And.intro (fun h=>absurd (congrArg List.length h) (by decide)) ?_
  |refine lpU _ _ _ _ 60 ?_
  |refine b4 (by decide) ?_
  |refine s8 (by decide) ?_
  |refine b8 rfl ?_
  |refine aA k63.has ?_|refine aA k203.has ?_|refine aA k155.has ?_|refine aA k156.has ?_|refine aA k159.has ?_))
theorem k104b{H:List aB}{id:Nat}(ho:H[id]?=some (.arr 1 (bC kP2))):a7 pr 104 [.list false 1 (bC kL1),.sl id 13 0 13] H (fun r H'=>r=.tuple [.list false 1 (bC kLg),.int .i64 0]∧H'=H):=by
 have h1:a7 pr 104 [.list false 1 (bC kL1),.sl 0 13 0 13] [.arr 1 (bC kP2)] (fun r H'=>r=.tuple [.list false 1 (bC kLg),.int .i64 0]∧H'=[.arr 1 (bC kP2)]):=by
  refine k104a.gp ?_
  rintro r H1 ⟨j,G,rfl,rfl,hg⟩
  refine Gp.res (r':=.tuple [.list false 1 (bC kLg),.int .i64 0]) (H1:=[.arr 1 (bC kP2)]) [0] (by simp) (bY rfl rfl rfl) ⟨⟨_,rfl,.same _ _ rfl⟩,trivial⟩ (dP (mG (by simp) (by simpa using hg) rfl rfl rfl) (.closed _ rfl)) ?_
  exact⟨_,rfl,rfl,rfl⟩
 have:=h1.fr (args:=[.list false 1 (bC kL1),.sl id 13 0 13]) ho rfl rfl (.cl rfl (.sl trivial)) (.tuple _ _ rfl fun i v r h1 h2=>by
  rw[h1]at h2;cases h2
  rcases i with _|_|i<;>cases h1<;>exact .closed _ rfl)
 refine this.mono fun r H' hq=>⟨hq.1,?_⟩
 rw[hq.2]
 exact MM ho
theorem kPay:xN kLg=.list false 1 [[.list false 1 (bC kP1)],[.list false 1 (bC kP2)]]∧vS (j6 kLg 0)=45:=by
 have h:j6 kLg 0=[(8,16),(32,13)]:=by
  rw[sX (by decide),show(r7 kLg 0).toNat=16 by decide,sX (by decide),show(r7 kLg (0+8+16)).toNat=13 by decide,kD (by decide)]
 rw[xN,h]
 exact⟨rfl,rfl⟩
theorem kT(hS:oO pr 64 115)(hL:oO pr 64 157)(hR:HN pr 52):a7 pr 8 [] [] (fun r _=>r=.bool true):=by
 have jn:∀H,a7 pr 52 [.nil] H (fun r H'=>r=.tuple [.list false 1 [],.int .i64 0]∧H'=H):=fun H=>by
  have h:=(hR.pure false [] (by decide) (fun x hx=>by cases hx) H).weakD (args:=[.nil]) (.cons (.nil false 1) .nil)
  rw[xN,kD (by decide)]at h
  exact h
 have jo:∀H id,H[id]?=some (.arr 1 (bC kLg))→a7 pr 52 [.sl id 45 0 45] H (fun r H'=>r=.tuple [.list false 1 [[.list false 1 (bC kP1)],[.list false 1 (bC kP2)]],.int .i64 45]∧H'=H):=fun H id ho=>by
  have h:=hR.own kLg 45 rfl (by decide) (show ∀x∈kLg,0≤x∧x≤255 by decide) H id ho
  rw[kPay.1,kPay.2]at h
  exact h
 refine aA k8.has ?_
 repeat'(first
 |refine lpS _ _ _ _ ?_
 |refine lpE _ _ _ _ ?_
 |exact belM rfl
 |exact belS rfl
 |(intro kvs0 bs ck hp hl hn hb;change kvs0.Perm [_]at hp;obtain rfl:=List.perm_singleton.1 hp;obtain⟨b,rfl⟩:=List.length_eq_one_iff.1 hl)
 |((conv=>whnf);first
  |exact belT (.mp _ (Nat.le_refl _)) (.closed _ rfl)
  |(intro b ck;(conv=>lhs;reduce);(conv=>rhs;reduce);done)
  |exact belM rfl
  |exact belS rfl
  |(apply fgC;refine aA k103.has ?_)
  |exact rfl
  |exact fun _ _=>rfl
  |exact⟨b,ck,rfl,rfl⟩
  |exact⟨rfl,rfl⟩
  |(refine gr1 0 (.str kLv,.mp 8) rfl ?_;intro b ck)
  |(refine gr1 11 (.str kLv,.mp 20) rfl ?_;intro b ck)
  |refine b4 (Nat.beq_refl _) ?_
  |refine nq0 ?_
  |refine nq1 ?_
  |refine⟨0,_,b,rfl,rfl,rfl,?_⟩
  |refine⟨1,_,ck,rfl,rfl,rfl,?_⟩
  |refine And.intro (by first|exact rfl|decide|omega) ?_
  |refine And.intro (fun h=>absurd h (by decide)) ?_
  |refine⟨[108,105,118,101],by decide,?_⟩
  |refine⟨[115,104,97,100,111,119],by decide,?_⟩
  |refine⟨[97],by decide,?_⟩
  |refine⟨[49],by decide,?_⟩
  |refine⟨[1,4,108,105,118,101,0,1,0,1,97,0,0,0,1,49],by decide,?_⟩
  |refine⟨[2,4,108,105,118,101,6,115,104,97,100,111,119],by decide,?_⟩
  |refine And.intro (fun h=>absurd (congrArg List.length h) (by decide)) ?_
  |refine lpU _ _ _ _ 60 ?_
  |refine b4 (by decide) ?_
  |refine s8 (by decide) ?_
  |refine b8 rfl ?_
  |refine⟨_,k105b hS (by rfl),?_⟩
  |refine⟨_,OG [49] (by decide) _ _ _ (by rfl) (by rfl),?_⟩
  |(apply drP;exact rfl)
  |(refine drQ (args':=[.list false 1 (bC kL1),.sl 9 13 0 13]) ?_ (k104b ?_) ?_;all_goals(try(conv=>lhs;reduce));all_goals(try(conv=>rhs;reduce)))
  |exact dP (.frz _ _ _ _ _ _ rfl rfl rfl (by simp)) (.closed _ rfl)
  |apply ceA
  |apply ceB
  |exact .closed _ rfl
  |exact .frz _ _ _ _ _ _ rfl rfl rfl (by simp)
  |refine a7.use (jn _) ?_
  |(refine usQ (args':=[.sl 10 45 0 45]) ?_ (jo _ 10 ?_) ?_;all_goals(try(conv=>lhs;reduce));all_goals(try(conv=>rhs;reduce)))
  |refine aA k154.has ?_
  |refine a7.use (hS.1 _ _ _ _ [kA] rfl rfl (.refl _) (by simp) (by decide) (by decide)) ?_
  |refine a7.use (hL.1 _ _ _ _ [kA] rfl rfl (.refl _) (by simp) (by decide) (by decide)) ?_
  |refine aA k65.has ?_
  |refine aA k108.has ?_
  |(refine a7.use (hS.2 _ _ rfl) ?_)
  |(refine a7.use (hL.2 _ _ rfl) ?_)
  |refine a7.use (eI _ _) ?_
  |refine a7.use (jW _ (by decide) _) ?_
  |refine aA k203.has ?_|refine aA k63.has ?_|refine aA k77.has ?_|refine aA k104.has ?_|refine aA k51.has ?_|refine aA k159.has ?_|refine aA k155.has ?_|refine aA k156.has ?_|refine aA k18.has ?_|refine aA k37.has ?_|refine aA k23.has ?_|refine aA k40.has ?_|refine aA k36.has ?_|refine aA k35.has ?_|refine aA k38.has ?_|refine aA k39.has ?_|refine aA k53.has ?_|refine aA k106.has ?_|refine aA k111.has ?_|refine aA k112.has ?_|refine aA k102.has ?_|refine aA k107.has ?_|refine aA k105.has ?_|refine aA k62.has ?_|refine aA k69.has ?_|refine aA k68.has ?_|refine aA k67.has ?_|refine aA k110.has ?_|refine aA k131.has ?_|refine aA k129.has ?_|refine aA k153.has ?_|refine aA k201.has ?_|refine aA k249.has ?_ ))
theorem kK(hS:oO pr 64 115)(hL:oO pr 64 157)(hR:HN pr 52)(H:List aB):a7 pr 8 [] H (fun r H'=>r=.bool true∧H'=H) :=
 a7.pure rfl ((kT hS hL hR).mono fun r H1 h=>by subst h;exact .closed _ rfl)
end Go.AW

namespace Go.AW
variable [dK]
attribute [local irreducible] a7
theorem law_StoreTurned(hS:oO pr 64 115)(hL:oO pr 64 157)(hR:HN pr 52)(ds ls:List Int)(which at1 y1:Int):a7 pr 7 [.list false 1 (iC ds),.list false 1 (iC ls),.int .i64 which,.int .i64 at1,.int .u8 y1] [] (fun r _=>r=.bool true):=by
 obtain⟨v,H1,rfl,h⟩:=LZ (aC.of (kK hS hL hR)) false ds ls which at1 y1 (fun h=>R8 rfl (R7 rfl rfl rfl rfl false ds (Nat.le_trans h (by decide))))
 exact h.mono fun _ _ h=>h.1
end Go.AW

