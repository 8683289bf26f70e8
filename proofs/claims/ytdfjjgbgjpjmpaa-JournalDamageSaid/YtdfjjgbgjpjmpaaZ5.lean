/-
  An abstract machine over the model, the code of functions on it, and their contracts: what the claim needs.
  No condition: definitions, plain laws, contracts over any program that has this code.
-/
import Derived.Test.YtdfjjgbgjpjmpaaZ4
set_option linter.all false
namespace Go.Proofs
open Go.RowKit Go.Shelf Go.AW
variable [Draws]
set_option linter.all false
attribute [local go_sem] Oper.semAt_some
set_option maxHeartbeats 1000000 in
theorem Try.entries_in (F : Fence) (n : Nat) (h5 : F.fn 26) (hro : F.round = none) (a : Option Addr) (len cap : Nat) (w : World) :
    CallsIn F n Try.prog 26 #[.slice a len cap] w fun e w' => e = .returned (.func (.func 28) #[] #[.pointer (some ⟨w.heap.size, 0, none⟩)]) ∧ w' = w.alloc (.cells #[.slice a len cap] 22) := by
  refine callsIn_of_wp Try.func26 rfl h5 ?_ hro
  simp only [Try.ntmps26, List.size_toArray, List.length_cons, List.length_nil, Nat.reduceAdd, Nat.reduceSub, Array.replicate_succ, Array.replicate_zero, List.push_toArray, List.append_toArray, List.nil_append, List.cons_append]
  gi_wp2
  go_ret
  exact ⟨rfl, rfl⟩

def offJ (off cap s : Nat) : Nat := if cap - s = 0 then off else off + s

def encJ (b off cap : Nat) (x : Nat × Nat) : Array Value := #[.slice (some ⟨b, offJ off cap x.1, none⟩) x.2 (cap - x.1), .int .i64 ((x.1 + x.2 : Nat) : Int)]

def LogAt (W : World) (Bs b off cap : Nat) (zs : List Int) : Prop :=
  W.cell? ⟨Bs, 0, none⟩ = some (.slice (some ⟨b, off, none⟩) zs.length cap) ∧ Bs < W.heap.size ∧ b < W.heap.size ∧ ∀ i x, zs[i]? = some x → W.cell? ⟨b, off + i, none⟩ = some (.int .u8 x)

def KeepJ (Bs b : Nat) (W W' : World) : Prop := W.heap.size ≤ W'.heap.size ∧ W'.heap[Bs]? = W.heap[Bs]? ∧ W'.heap[b]? = W.heap[b]?

theorem LogAt.kept {W W' : World} {Bs b off cap : Nat} {zs : List Int} (h : LogAt W Bs b off cap zs) (hk : KeepJ Bs b W W') : LogAt W' Bs b off cap zs := by
  obtain ⟨h1, h2, h3, h4⟩ := h
  obtain ⟨k1, k2, k3⟩ := hk
  exact ⟨by rw [World.cell?_of_block (w' := W') (a := ⟨Bs, 0, none⟩) k2]; exact h1, by omega, by omega, fun i x hx => by rw [World.cell?_of_block (w' := W') (a := ⟨b, off + i, none⟩) k3]; exact h4 i x hx⟩

theorem KeepJ.grown {Bs b : Nat} {W W' : World} (hg : W.grownBy W' none) (h1 : Bs < W.heap.size) (h2 : b < W.heap.size) : KeepJ Bs b W W' := ⟨hg.size, hg.block Bs h1 (by simp), hg.block b h2 (by simp)⟩

theorem LogAt.reads {W : World} {Bs b off cap : Nat} {zs : List Int} (h : LogAt W Bs b off cap zs) (hcap : zs.length ≤ cap) (s m : Nat) (hs : s + m ≤ zs.length) (c : Nat) (hc : m ≤ c) : Reads W (.slice (some ⟨b, off + s, none⟩) m c) ((zs.drop s).take m) := by
  have hl : ((zs.drop s).take m).length = m := by rw [List.length_take, List.length_drop]; omega
  by_cases h0 : m = 0
  · subst h0; exact .inl ⟨rfl, _, _, rfl⟩
  · refine .inr ⟨fun e => h0 (by rw [e] at hl; exact hl.symm), b, off + s, c, by rw [hl], by omega, h.2.2.1, fun i x hx => ?_⟩
    have hi := (List.getElem?_eq_some_iff.1 hx).1
    rw [List.getElem?_take, if_pos (by omega), List.getElem?_drop] at hx
    rw [Nat.add_assoc]
    exact h.2.2.2 _ x hx

theorem LogAt.readsEnd {W : World} {Bs b off cap : Nat} {zs : List Int} (h : LogAt W Bs b off cap zs) (hcap : zs.length ≤ cap) (s : Nat) (hs : s ≤ zs.length) : Reads W (.slice (some ⟨b, off + s, none⟩) (zs.length - s) (cap - s)) (zs.drop s) := by
  have := h.reads hcap s (zs.length - s) (by omega) (cap - s) (by omega)
  rwa [List.take_of_length_le (by rw [List.length_drop]; omega)] at this

noncomputable def iPut4 : F_journal_put4 Try.prog := ⟨21, ⟨Try.f21, Try.f21.body.getD .skip, Try.func21, by kernel_rfl, by kernel_rfl, by kernel_rfl, by kernel_rfl, by kernel_rfl⟩⟩

noncomputable def iChecksum : F_batch_Checksum Try.prog := ⟨27, ⟨Try.f27, Try.f27.body.getD .skip, Try.func27, by kernel_rfl, by kernel_rfl, by kernel_rfl, by kernel_rfl, by kernel_rfl⟩⟩

noncomputable def iSum : F_journal_sum Try.prog := ⟨23, iPut4, iChecksum, ⟨Try.f23, Try.f23.body.getD .skip, Try.func23, by kernel_rfl, by kernel_rfl, by kernel_rfl, by kernel_rfl, by kernel_rfl⟩⟩

noncomputable def iClone : F_bytes_Clone Try.prog := ⟨22, ⟨Try.f22, Try.f22.body.getD .skip, Try.func22, by kernel_rfl, by kernel_rfl, by kernel_rfl, by kernel_rfl, by kernel_rfl⟩⟩

noncomputable def iNumber : F_journal_number Try.prog := ⟨29, ⟨Try.f29, Try.f29.body.getD .skip, Try.func29, by kernel_rfl, by kernel_rfl, by kernel_rfl, by kernel_rfl, by kernel_rfl⟩⟩

theorem Try.number_calls {W : World} {v : Value} {l : List Int} (hr : Reads W v l) (hl : 4 ≤ l.length) (hby : Byt l) : Calls Try.prog 29 #[v] W fun e W' => e = .returned (.int .i64 (num (l.take 4))) ∧ W.grownBy W' none :=
  ACalls.int1 (f := 29) (enters_of Try.func29 (by kernel_rfl) rfl) ((jnumber_spec iNumber false l hl hby []).mono fun _ _ h => h.1) hr

theorem Try.sum_calls {W : World} {v : Value} {l : List Int} (hr : Reads W v l) (hl : l.length ≤ 10000000) : Calls Try.prog 23 #[v] W fun e W' => e = .returned (.int .u32 (fnv (jBody l))) ∧ W.grownBy W' none :=
  ACalls.int1 (f := 23) (enters_of Try.func23 (by kernel_rfl) rfl) ((jsum_spec iSum false l hl []).mono fun _ _ h => h.1) hr

abbrev PosJ (zs : List Int) := {x : Nat × Nat // x.1 + x.2 ≤ zs.length}

set_option maxRecDepth 100000 in
set_option maxHeartbeats 2000000 in
theorem Try.ent1_in (n : Nat) (hn : 1 ≤ n) (l Bs b off cap : Nat) (zs : List Int) (hcap : zs.length ≤ cap) (hz : zs.length ≤ 10000000) (hby : Byt zs) (J Jx : List (PosJ zs) → World → Prop)
    (hY : ∀ pre x W, J pre W → pre.length < zs.length + 1 → YieldAt Fence.wide (n - 1) Try.prog l (encJ b off cap x.1) W fun e W' =>
      (e = .returned (.bool true) ∧ J (pre ++ [x]) W' ∧ KeepJ Bs b W W') ∨ (e = .returned (.bool false) ∧ Jx (pre ++ [x]) W'))
    (W : World) (hJ : AbidesFrom W.heap.size J) (hL : LogAt W Bs b off cap zs) (h0 : J [] W) :
    CallsIn Fence.wide n Try.prog 28 #[.func (.yield l) #[] #[], .pointer (some ⟨Bs, 0, none⟩)] W fun e W' => (∃ v, e = .returned v) ∧
      ((∃ ys : List (PosJ zs), ys.map (fun x => x.1) = entP zs 0 ∧ J ys W') ∨ (∃ pre, True ∧ Jx pre W')) := by
  refine callsIn_of_wp Try.func28 rfl trivial ?_ rfl
  simp only [Try.ntmps28, List.size_toArray, List.length_cons, List.length_nil, Nat.reduceAdd, Nat.reduceSub, Array.replicate_succ, Array.replicate_zero, List.push_toArray, List.append_toArray, List.nil_append, List.cons_append]
  gi_wp2
  gi_loopw [3] (fun i wr => ∃ (k : Nat) (pre : List (PosJ zs)), k ≤ zs.length ∧ i = .int .i64 k ∧ entP zs 0 = pre.map (fun x => x.1) ++ entP zs k ∧ pre.length ≤ k ∧ J pre wr ∧ LogAt wr Bs b off cap zs)
    (fun i _ => zs.length - (intOf i).toNat)
  case atStart => exact ⟨0, [], Nat.zero_le _, rfl, rfl, Nat.zero_le _, h0, hL⟩
  case round =>
    obtain ⟨k, pre, hk, rfl, hpre, hpl, hJs, hLw⟩ := hrel
    have hL1 := hLw.1
    by_cases h8 : k + 8 ≤ zs.length
    · gi_wp2
      refine ⟨trivial, ?_⟩
      refine (callsIn_wide.2 (Try.number_calls (hLw.readsEnd hcap k hk) (by rw [List.length_drop]; omega) (fun x hx => hby x (List.mem_of_mem_drop hx)))).mono ?_
      rintro e w1 ⟨rfl, hg1⟩
      have hJ1 : J pre w1 := hJ _ _ _ _ hJs hg1 (fun r e => by cases e)
      have hLw1 := hLw.kept (KeepJ.grown hg1 hLw.2.1 hLw.2.2.1)
      have hLc1 := hLw1.1
      clear hJs hLw hL1
      have hn0 := hdr_nonneg hby k
      obtain ⟨N, hN⟩ : ∃ N : Nat, hdr zs k = N := ⟨(hdr zs k).toNat, by omega⟩
      have hN' : num ((zs.drop k).take 4) = N := hN
      rw [hN']
      by_cases hA : 65536 < N
      · have hnil := entP_nil (okE_big hN (.inl hA))
        gi_wp2
        refine bodyPost_ret (results_none rfl _ _ _) rfl ?_
        first
          | exact ⟨⟨_, rfl⟩, .inl hJ1⟩
          | exact ⟨⟨_, rfl⟩, .inl ⟨_, rfl, hJ1⟩⟩
          | exact ⟨⟨_, rfl⟩, .inl ⟨_, by rw [hpre, hnil, List.append_nil], hJ1⟩⟩
      by_cases hB : (zs.length : Int) - k - 8 < N
      · have hnil := entP_nil (okE_big hN (.inr hB))
        gi_wp2
        refine bodyPost_ret (results_none rfl _ _ _) rfl ?_
        first
          | exact ⟨⟨_, rfl⟩, .inl hJ1⟩
          | exact ⟨⟨_, rfl⟩, .inl ⟨_, rfl, hJ1⟩⟩
          | exact ⟨⟨_, rfl⟩, .inl ⟨_, by rw [hpre, hnil, List.append_nil], hJ1⟩⟩
      have hok := okE_sum hN h8 hA hB
      by_cases hE : cap = k + 8
      · have hN0 : N = 0 := by omega
        subst hN0 hE
        have hrd1 : Reads w1 (.slice (some ⟨b, off + (k + 4), none⟩) (zs.length - (k + 4)) 4) (zs.drop (k + 4)) := by
          have := hLw1.readsEnd hcap (k + 4) (by omega)
          rwa [show k + 8 - (k + 4) = 4 by omega] at this
        gi_wp2
        refine ⟨trivial, ?_⟩
        refine (callsIn_wide.2 (Try.number_calls hrd1 (by rw [List.length_drop]; omega) (fun x hx => hby x (List.mem_of_mem_drop hx)))).mono ?_
        rintro e w2 ⟨rfl, hg2⟩
        have hJ2 : J pre w2 := hJ _ _ _ _ hJ1 hg2 (fun r e => by cases e)
        have hLw2 := hLw1.kept (KeepJ.grown hg2 hLw1.2.1 hLw1.2.2.1)
        have hLc2 := hLw2.1
        clear hJ1 hLw1 hLc1
        have hrd2 : Reads w2 (.slice (some ⟨b, off, none⟩) 0 0) ((zs.drop (k + 8)).take 0) := .inl ⟨rfl, _, _, rfl⟩
        gi_wp2
        refine ⟨trivial, ?_⟩
        refine (callsIn_wide.2 (Try.sum_calls hrd2 (by rw [List.length_take]; omega))).mono ?_
        rintro e w3 ⟨rfl, hg3⟩
        have hJ3 : J pre w3 := hJ _ _ _ _ hJ2 hg3 (fun r e => by cases e)
        have hLw3 := hLw2.kept (KeepJ.grown hg3 hLw2.2.1 hLw2.2.2.1)
        clear hJ2 hLw2 hLc2 hrd1 hrd2
        obtain ⟨T, hT⟩ : ∃ T, T = fnv (jBody ((zs.drop (k + 8)).take 0)) := ⟨_, rfl⟩
        rw [← hT] at hok ⊢
        have hTn := fnv_bound (jBody ((zs.drop (k + 8)).take 0))
        rw [← hT] at hTn
        clear hT
        obtain ⟨S, hS⟩ : ∃ S, S = hdr zs (k + 4) := ⟨_, rfl⟩
        have hS0 : 0 ≤ S := by rw [hS]; exact hdr_nonneg hby _
        have hS' : num ((zs.drop (k + 4)).take 4) = S := hS.symm
        rw [hS']
        rw [← hS, u32_wrap] at hok
        clear hS hS' hN'
        by_cases hC : S % 4294967296 = T
        · have hcons := entP_cons (by rw [hok]; simpa using hC)
          rw [hN, Int.toNat_natCast] at hcons
          obtain ⟨fn, tmps, assign, body, hy, hR⟩ := hY pre ⟨(k + 8, 0), by simp only []; omega⟩ w3 hJ3 (by omega)
          have hcast : ((k + 8 + 0 : Nat) : Int) = (k : Int) + 8 := by omega
          simp only [encJ, offJ, Nat.sub_self, if_true, hcast] at hy
          clear hok hN
          gi_wp2
          refine hR.mono ?_
          rintro e W3 (⟨rfl, hJ4, hk4⟩ | ⟨rfl, hJx4⟩)
          · have hLw4 := hLw3.kept hk4
            clear hJ3 hLw3 hR
            gi_wp2
            go_roundw
            case rel => exact ⟨k + 8 + 0, pre ++ [⟨(k + 8, 0), by simp only []; omega⟩], by omega, by congr 1 <;> omega, by rw [hpre, hcons, List.map_append, List.append_assoc]; rfl, by simp; omega, hJ4, hLw4⟩
            case measure => simp [intOf]; omega
          · gi_wp2
            refine bodyPost_ret (results_none rfl _ _ _) rfl ?_
            first
              | exact ⟨⟨_, rfl⟩, .inr ⟨_, trivial, hJx4⟩⟩
              | exact ⟨⟨_, rfl⟩, .inr ⟨_, hJx4⟩⟩
        · have hnil := entP_nil (by rw [hok]; simpa using hC)
          clear hok hN
          gi_wp2
          refine bodyPost_ret (results_none rfl _ _ _) rfl ?_
          first
            | exact ⟨⟨_, rfl⟩, .inl hJ3⟩
            | exact ⟨⟨_, rfl⟩, .inl ⟨_, rfl, hJ3⟩⟩
            | exact ⟨⟨_, rfl⟩, .inl ⟨_, by rw [hpre, hnil, List.append_nil], hJ3⟩⟩
      · have hE2 : ¬ cap - (k + 8) = 0 := by omega
        have hrd1 := hLw1.readsEnd hcap (k + 4) (by omega)
        gi_wp2
        refine ⟨trivial, ?_⟩
        refine (callsIn_wide.2 (Try.number_calls hrd1 (by rw [List.length_drop]; omega) (fun x hx => hby x (List.mem_of_mem_drop hx)))).mono ?_
        rintro e w2 ⟨rfl, hg2⟩
        have hJ2 : J pre w2 := hJ _ _ _ _ hJ1 hg2 (fun r e => by cases e)
        have hLw2 := hLw1.kept (KeepJ.grown hg2 hLw1.2.1 hLw1.2.2.1)
        have hLc2 := hLw2.1
        clear hJ1 hLw1 hLc1
        have hrd2 := hLw2.reads hcap (k + 8) N (by omega) (cap - (k + 8)) (by omega)
        gi_wp2
        refine ⟨trivial, ?_⟩
        refine (callsIn_wide.2 (Try.sum_calls hrd2 (by rw [List.length_take]; omega))).mono ?_
        rintro e w3 ⟨rfl, hg3⟩
        have hJ3 : J pre w3 := hJ _ _ _ _ hJ2 hg3 (fun r e => by cases e)
        have hLw3 := hLw2.kept (KeepJ.grown hg3 hLw2.2.1 hLw2.2.2.1)
        clear hJ2 hLw2 hLc2 hrd1 hrd2
        obtain ⟨T, hT⟩ : ∃ T, T = fnv (jBody ((zs.drop (k + 8)).take N)) := ⟨_, rfl⟩
        rw [← hT] at hok ⊢
        have hTn := fnv_bound (jBody ((zs.drop (k + 8)).take N))
        rw [← hT] at hTn
        clear hT
        obtain ⟨S, hS⟩ : ∃ S, S = hdr zs (k + 4) := ⟨_, rfl⟩
        have hS0 : 0 ≤ S := by rw [hS]; exact hdr_nonneg hby _
        have hS' : num ((zs.drop (k + 4)).take 4) = S := hS.symm
        rw [hS']
        rw [← hS, u32_wrap] at hok
        clear hS hS' hN'
        by_cases hC : S % 4294967296 = T
        · have hcons := entP_cons (by rw [hok]; simpa using hC)
          rw [hN, Int.toNat_natCast] at hcons
          obtain ⟨fn, tmps, assign, body, hy, hR⟩ := hY pre ⟨(k + 8, N), by simp only []; omega⟩ w3 hJ3 (by omega)
          have hcast : ((k + 8 + N : Nat) : Int) = (k : Int) + (8 + (N : Int)) := by omega
          simp only [encJ, offJ, if_neg hE2, hcast] at hy
          clear hok hN
          gi_wp2
          refine hR.mono ?_
          rintro e W3 (⟨rfl, hJ4, hk4⟩ | ⟨rfl, hJx4⟩)
          · have hLw4 := hLw3.kept hk4
            clear hJ3 hLw3 hR
            gi_wp2
            go_roundw
            case rel => exact ⟨k + 8 + N, pre ++ [⟨(k + 8, N), by simp only []; omega⟩], by omega, by congr 1 <;> omega, by rw [hpre, hcons, List.map_append, List.append_assoc]; rfl, by simp; omega, hJ4, hLw4⟩
            case measure => simp [intOf]; omega
          · gi_wp2
            refine bodyPost_ret (results_none rfl _ _ _) rfl ?_
            first
              | exact ⟨⟨_, rfl⟩, .inr ⟨_, trivial, hJx4⟩⟩
              | exact ⟨⟨_, rfl⟩, .inr ⟨_, hJx4⟩⟩
        · have hnil := entP_nil (by rw [hok]; simpa using hC)
          clear hok hN
          gi_wp2
          refine bodyPost_ret (results_none rfl _ _ _) rfl ?_
          first
            | exact ⟨⟨_, rfl⟩, .inl hJ3⟩
            | exact ⟨⟨_, rfl⟩, .inl ⟨_, rfl, hJ3⟩⟩
            | exact ⟨⟨_, rfl⟩, .inl ⟨_, by rw [hpre, hnil, List.append_nil], hJ3⟩⟩
    · have hnil := entP_nil (okE_short h8)
      gi_wp2
      go_end0
      exact ⟨⟨_, rfl⟩, .inl ⟨_, by rw [hpre, hnil, List.append_nil], hJs⟩⟩

set_option maxRecDepth 100000 in
set_option maxHeartbeats 1000000 in

theorem Try.ent0_in (n : Nat) (l Bs : Nat) (a : Option Addr) (cap : Nat) {α : Type} (J : List α → World → Prop) (W : World) (hBs : W.cell? ⟨Bs, 0, none⟩ = some (.slice a 0 cap)) (h0 : J [] W) :
    CallsIn Fence.wide n Try.prog 28 #[.func (.yield l) #[] #[], .pointer (some ⟨Bs, 0, none⟩)] W fun e W' => (∃ v, e = .returned v) ∧ J [] W' := by
  refine callsIn_of_wp Try.func28 rfl trivial ?_ rfl
  simp only [Try.ntmps28, List.size_toArray, List.length_cons, List.length_nil, Nat.reduceAdd, Nat.reduceSub, Array.replicate_succ, Array.replicate_zero, List.push_toArray, List.append_toArray, List.nil_append, List.cons_append]
  gi_wp2
  gi_loopw [3] (fun i wr => i = .int .i64 0 ∧ J [] wr ∧ wr.cell? ⟨Bs, 0, none⟩ = some (.slice a 0 cap)) (fun _ _ => 0)
  case atStart => exact ⟨rfl, h0, hBs⟩
  case round =>
    obtain ⟨rfl, hJs, hc⟩ := hrel
    gi_wp2
    go_end0
    exact ⟨⟨_, rfl⟩, hJs⟩

theorem KeepJ.t {Bs b : Nat} {X Y Z : World} (h : KeepJ Bs b X Y) (k : KeepJ Bs b Y Z) : KeepJ Bs b X Z := ⟨Nat.le_trans h.1 k.1, k.2.1.trans h.2.1, k.2.2.trans h.2.2⟩

theorem KeepJ.of_below {Bs b n : Nat} {X Y : World} (h : Below n X Y) (h1 : Bs < n) (h2 : b < n) : KeepJ Bs b X Y := ⟨h.size, h.block Bs h1, h.block b h2⟩

theorem KeepJ.put {Bs b : Nat} {w : World} (h1 : Bs < w.heap.size) (h2 : b < w.heap.size) (W : World) (l : Nat) (o o' : Obj) (hl : w.heap.size ≤ l) (hlo : W.heap[l]? = some o) (_ : o.isCells = false) (_ : o.isWalk = false) : KeepJ Bs b W (W.putObj l o') := by
  have hg := grownBy_putObj' W l o'
  have hlt := (Array.getElem?_eq_some_iff.1 hlo).1
  exact ⟨hg.size, hg.block Bs (by omega) (by simp; omega), hg.block b (by omega) (by simp; omega)⟩

theorem Try.ent_stops (n : Nat) (hn : 1 ≤ n) (Bs b off cap : Nat) (zs : List Int) (hcap : zs.length ≤ cap) (hz : zs.length ≤ 10000000) (hby : Byt zs) (w : World) (hL : LogAt w Bs b off cap zs) :
    SeqStopsK Fence.wide n Try.prog 28 #[.pointer (some ⟨Bs, 0, none⟩)] (fun x : PosJ zs => encJ b off cap x.1) (KeepJ Bs b) (fun ys => ys.map (fun x => x.1) = entP zs 0) (fun _ => True) (zs.length + 1) w := fun l J Jx W hW hJ _ hY h0 =>
  Try.ent1_in n hn l Bs b off cap zs hcap hz hby J Jx hY W hJ (hL.kept (KeepJ.of_below hW hL.2.1 hL.2.2.1)) h0

end Go.Proofs

namespace Go.Proofs
open Go.RowKit Go.Shelf Go.AW
variable [Draws]
set_option linter.all false
attribute [local go_sem] Oper.semAt_some
def appG (ts : Array TypeId) (ty : TypeId) (args : Array Value) : Sem Value := Builtin.append_ ts ty args

theorem appG_fold (ts : Array TypeId) (ty : TypeId) (args : Array Value) : Builtin.append_ ts ty args = appG ts ty args := rfl

attribute [local go_sem ↓] appG_fold
def Elems (N : Nat) (W : World) (B : List Nat) (us : List Value) (ps : List (List Int)) : Prop :=
  us.length = ps.length ∧ ∀ (i : Nat) (u : Value) (p : List Int), us[i]? = some u → ps[i]? = some p → Reads W u p ∧ u.oneCell' = true ∧ (p ≠ [] → ∀ bb, u.ownBlock = some bb → bb ∉ B ∧ N ≤ bb)

theorem Try.infoB : (Try.prog.info? 22).map (fun i => (i.zero, i.size, i.bytes)) = some (some (.slice none 0 0), 1, 24) := by kernel_rfl

theorem Try.Clone_calls {W : World} {v : Value} {l : List Int} (hr : Reads W v l) (hl : l.length ≤ 90000000) : Calls Try.prog 22 #[v] W fun e W' => ∃ a c, e = .returned (.slice a l.length c) ∧ Reads W' (.slice a l.length c) l ∧ W.grownBy W' none ∧ (l ≠ [] → ∀ b, (Value.slice a l.length c).ownBlock = some b → W.heap.size ≤ b) :=
  ACalls.fresh1 (f := 22) (enters_of Try.func22 (by kernel_rfl) rfl) (bClone_raw iClone false l hl) hr

theorem Reads.block {W : World} {u : Value} {p : List Int} (h : Reads W u p) (h0 : p ≠ []) {bb : Nat} (hb : u.ownBlock = some bb) : bb < W.heap.size ∧ ∃ o : Obj, W.heap[bb]? = some o ∧ o.isCells = true := by
  rcases h with ⟨e, _⟩ | ⟨_, b, off, cap, rfl, hcap, hlt, hc⟩
  · exact absurd e h0
  · cases hb
    refine ⟨hlt, ?_⟩
    obtain ⟨x, hx⟩ : ∃ x, p[0]? = some x := ⟨p[0]'(List.length_pos_iff.2 h0), List.getElem?_eq_getElem _⟩
    have := hc 0 x hx
    rw [World.cell?] at this
    cases ho : W.heap[b]? with
    | none => simp [ho] at this
    | some o =>
      refine ⟨o, rfl, ?_⟩
      cases o <;> simp_all [Obj.isCells]

theorem Elems.kept {N : Nat} {W W' : World} {B : List Nat} {us : List Value} {ps : List (List Int)} {row : Option Nat} (h : Elems N W B us ps) (hg : W.grownBy W' row) (hr : ∀ r, row = some r → r ∈ B ∨ ∃ o : Obj, W.heap[r]? = some o ∧ o.isCells = false) : Elems N W' B us ps := by
  refine ⟨h.1, fun i u p hu hp => ?_⟩
  obtain ⟨h1, h2, h3⟩ := h.2 i u p hu hp
  refine ⟨h1.kept hg fun h0 bb hb e => ?_, h2, h3⟩
  rcases hr bb e.symm with hB | ⟨o, ho, hc⟩
  · exact (h3 h0 bb hb).1 hB
  · obtain ⟨_, o', ho', hc'⟩ := Reads.block h1 h0 hb
    rw [ho] at ho'; cases ho'
    rw [hc] at hc'; cases hc'

def IJ (n₀ b off cap : Nat) (zs : List Int) (w : World) (pre : List (PosJ zs)) (W : World) : Prop :=
  ((∃ v us, Boxed W n₀ 28 v ∧ W.ownsRow (n₀ + 3) 22 1 v pre.length us ∧ Elems n₀ W [n₀, n₀ + 1] us (pre.map fun x => payP zs x.1) ∧ ∀ g, v.ownBlock = some g → Elems n₀ W [g] us (pre.map fun x => payP zs x.1)) ∧
    Boxed W (n₀ + 1) 3 (.int .i64 (endP (pre.map fun x => x.1))) ∧ LogAt W (n₀ + 2) b off cap zs) ∧ Below n₀ w W

theorem IJ.own (n₀ b off cap : Nat) (zs : List Int) (w : World) (hb : b < n₀) : OwnFrom (n₀ + 3) (IJ n₀ b off cap zs w) := by
  rintro pre X Y row ⟨⟨⟨v, us, hv, hr, he, hg2⟩, h1, hL⟩, hB⟩ hg hrow
  have hbox : ∀ {B : Nat} {t : TypeId} {u : Value}, Boxed X B t u → some B ≠ row := fun {B t u} h e' => by
    obtain ⟨_, o, ho, hc⟩ := hrow B e'.symm
    rw [show X.heap[B]? = _ from h] at ho; cases ho; cases hc
  refine ⟨⟨⟨v, us, hv.kept hg (hbox hv), hr.kept hg ?_, he.kept hg fun r e => .inr (hrow r e).2, fun g hgv => (hg2 g hgv).kept hg fun r e => .inr (hrow r e).2⟩, h1.kept hg (hbox h1), hL.kept ⟨hg.size, hg.block _ hL.2.1 (fun e => by have := (hrow _ e.symm).1; omega), hg.block _ hL.2.2.1 (fun e => by have := (hrow _ e.symm).1; omega)⟩⟩, hB.grown hg ?_ fun k e => by have := (hrow k e).1; omega⟩
  · rcases hr.2 with ⟨rfl, _⟩ | ⟨g, cap, cur, rfl, _, hgb, _⟩
    · exact .inl rfl
    · refine .inr fun e' => ?_
      obtain ⟨_, o, ho, hc⟩ := hrow g (by simpa [Value.ownBlock] using e'.symm)
      rw [hgb] at ho; cases ho; cases hc
  · have := hL.2.1; omega

theorem ownsRow_grown0 {W W' : World} {base : Nat} {e : TypeId} {size : Nat} {v : Value} {k : Nat} {xs : List Value} (h : W.ownsRow base e size v k xs) (hg : W.grownBy W' none) : W'.ownsRow base e size v k xs :=
  h.kept hg (by
    rcases h.2 with ⟨rfl, _⟩ | ⟨g, _, _, rfl, _⟩
    · exact .inl rfl
    · exact .inr (by simp [Value.ownBlock]))

theorem Boxed.grown0 {W W' : World} {B : Nat} {t : TypeId} {v : Value} (h : Boxed W B t v) (hg : W.grownBy W' none) : Boxed W' B t v := h.kept hg (by simp)

theorem ownsRow_mono {W : World} {base base' : Nat} {e : TypeId} {size : Nat} {v : Value} {k : Nat} {xs : List Value} (h : W.ownsRow base e size v k xs) (hle : base' ≤ base) : W.ownsRow base' e size v k xs := by
  refine ⟨h.1, ?_⟩
  rcases h.2 with h | ⟨g, cap, cur, h1, h2, h3⟩
  · exact .inl h
  · exact .inr ⟨g, cap, cur, h1, by omega, h3⟩

theorem Elems.mono {N : Nat} {W : World} {B B' : List Nat} {us : List Value} {ps : List (List Int)} (h : Elems N W B us ps) (hs : ∀ x ∈ B', x ∈ B) : Elems N W B' us ps :=
  ⟨h.1, fun i u p hu hp => ⟨(h.2 i u p hu hp).1, (h.2 i u p hu hp).2.1, fun h0 bb hb => ⟨fun hm => ((h.2 i u p hu hp).2.2 h0 bb hb).1 (hs bb hm), ((h.2 i u p hu hp).2.2 h0 bb hb).2⟩⟩⟩

theorem Elems.join {N : Nat} {W : World} {B B' : List Nat} {us : List Value} {ps : List (List Int)} (h : Elems N W B us ps) (h' : Elems N W B' us ps) : Elems N W (B ++ B') us ps :=
  ⟨h.1, fun i u p hu hp => ⟨(h.2 i u p hu hp).1, (h.2 i u p hu hp).2.1, fun h0 bb hb => ⟨fun hm => (List.mem_append.1 hm).elim ((h.2 i u p hu hp).2.2 h0 bb hb).1 ((h'.2 i u p hu hp).2.2 h0 bb hb).1, ((h.2 i u p hu hp).2.2 h0 bb hb).2⟩⟩⟩

theorem Elems.add {N : Nat} {W : World} {B : List Nat} {us : List Value} {ps : List (List Int)} (h : Elems N W B us ps) {f : Nat} (hf : W.heap.size ≤ f) : Elems N W (f :: B) us ps :=
  ⟨h.1, fun i u p hu hp => ⟨(h.2 i u p hu hp).1, (h.2 i u p hu hp).2.1, fun h0 bb hb => ⟨fun hm => (List.mem_cons.1 hm).elim (fun e => by have := (Reads.block (h.2 i u p hu hp).1 h0 hb).1; omega) ((h.2 i u p hu hp).2.2 h0 bb hb).1, ((h.2 i u p hu hp).2.2 h0 bb hb).2⟩⟩⟩

theorem Elems.snoc {N : Nat} {W : World} {B : List Nat} {us : List Value} {ps : List (List Int)} (h : Elems N W B us ps) {u : Value} {p : List Int} (hr : Reads W u p) (h1 : u.oneCell' = true) (hd : p ≠ [] → ∀ bb, u.ownBlock = some bb → bb ∉ B ∧ N ≤ bb) : Elems N W B (us ++ [u]) (ps ++ [p]) := by
  refine ⟨by simp [h.1], fun i a q ha hq => ?_⟩
  by_cases hi : i < us.length
  · rw [List.getElem?_append_left hi] at ha
    rw [List.getElem?_append_left (by rw [← h.1]; exact hi)] at hq
    exact h.2 i a q ha hq
  · rw [List.getElem?_append_right (by omega)] at ha
    rw [List.getElem?_append_right (by rw [← h.1]; omega)] at hq
    have h0 : i - us.length = 0 := by
      have := (List.getElem?_eq_some_iff.1 ha).1
      simp at this; omega
    rw [← h.1, h0] at hq
    rw [h0] at ha
    cases ha; cases hq
    exact ⟨hr, h1, hd⟩

theorem IJ.next {n₀ b off cap B : Nat} {zs : List Int} {w W w' w1 : World} {pre : List (PosJ zs)} {x : PosJ zs} {v U V' : Value} {us : List Value} {E : Int} (hE : E = (x.1.1 : Int) + (x.1.2 : Int)) (hb : b < n₀) (hs : n₀ + 3 ≤ W.heap.size)
    (hv : Boxed W n₀ 28 v) (hrow : W.ownsRow (n₀ + 3) 22 1 v pre.length us) (hel : Elems n₀ W [n₀, n₀ + 1] us (pre.map fun x => payP zs x.1)) (hel2 : ∀ g, v.ownBlock = some g → Elems n₀ W [g] us (pre.map fun x => payP zs x.1)) (hEn : ∃ z, Boxed W (n₀ + 1) 3 z) (hL : LogAt W (n₀ + 2) b off cap zs) (hB : Below n₀ w W)
    (hu3 : W.grownBy w' none) (hu1 : U.oneCell' = true) (hu2 : Reads w' U (payP zs x.1)) (hu4 : payP zs x.1 ≠ [] → ∀ bb, U.ownBlock = some bb → W.heap.size ≤ bb)
    (hgrow : (w'.alloc (.cells #[U] 22)).grownBy w1 v.ownBlock) (hown : w1.ownsRow (n₀ + 3) 22 1 V' (pre.length + 1) (us ++ [U])) (hblk : V'.ownBlock = v.ownBlock ∨ V'.ownBlock = some (w'.alloc (.cells #[U] 22)).heap.size) :
    KeepsFrom B W ((w1.setCell ⟨n₀, 0, none⟩ V').setCell ⟨n₀ + 1, 0, none⟩ (.int .i64 E)) ∧ KeepJ (n₀ + 2) b W ((w1.setCell ⟨n₀, 0, none⟩ V').setCell ⟨n₀ + 1, 0, none⟩ (.int .i64 E)) ∧ IJ n₀ b off cap zs w (pre ++ [x]) ((w1.setCell ⟨n₀, 0, none⟩ V').setCell ⟨n₀ + 1, 0, none⟩ (.int .i64 E)) := by
  have hsz := hu3.size
  have hal : (w'.alloc (.cells #[U] 22)).heap.size = w'.heap.size + 1 := by simp
  have hsz1 := hgrow.size
  have hrow3 := ownsRow_grown0 hrow hu3
  have hv3 := Boxed.grown0 hv hu3
  obtain ⟨hbx, hbx', hrow', hko, hbel⟩ := Boxed.appended hv3 (by decide) (ownsRow_mono hrow3 (by omega)) (by omega) (Nat.le_refl _) (ownsRow_mono hown (by omega : n₀ ≤ n₀ + 3)) hgrow
  have hvlt := hrow.lt
  have hV : ∀ g, V'.ownBlock = some g → n₀ + 3 ≤ g := fun g hg => (hown.lt g hg).1
  have hvb : ∀ k, k < n₀ + 3 → some k ≠ v.ownBlock := fun k hk e => by have := (hvlt k e.symm).1; omega
  have gS0 := grownBy_setCell' w1 n₀ V'
  have gS1 := grownBy_setCell' (w1.setCell ⟨n₀, 0, none⟩ V') (n₀ + 1) (.int .i64 E)
  have ht := World.grownBy_alloc w' (.cells #[U] 22) none
  have hKJ : KeepJ (n₀ + 2) b W ((w1.setCell ⟨n₀, 0, none⟩ V').setCell ⟨n₀ + 1, 0, none⟩ (.int .i64 E)) := by
    have keep : ∀ k, k < n₀ + 3 → k ≠ n₀ → k ≠ n₀ + 1 → ((w1.setCell ⟨n₀, 0, none⟩ V').setCell ⟨n₀ + 1, 0, none⟩ (.int .i64 E)).heap[k]? = W.heap[k]? := fun k hk h0 h1 => by
      have a1 := hu3.block k (by omega) (by simp)
      have a2 := ht.block k (by omega) (by simp)
      have a3 := hgrow.block k (by omega) (hvb k hk)
      have a4 := gS0.block k (by omega) (by simpa using h0)
      have a5 := gS1.block k (by have := gS0.size; omega) (by simpa using h1)
      rw [a5, a4, a3, a2, a1]
    exact ⟨by have := gS0.size; have := gS1.size; omega, keep _ (by omega) (by omega) (by omega), keep _ (by omega) (by omega) (by omega)⟩
  have hall := ((((hel.join (B' := (v.ownBlock).toList) (by
      cases hvo : v.ownBlock with
      | none => exact hel.mono (by simp)
      | some g => exact hel2 g hvo)).add (f := w'.heap.size + 1) (by omega)).kept hu3 (by simp)).kept ht (by simp)).kept hgrow (fun r hr => .inl (by simp [hr]))
  have hall' := (hall.kept gS0 (fun r hr => .inl (by simp at hr; simp [hr]))).kept gS1 (fun r hr => .inl (by simp at hr; simp [hr]))
  obtain ⟨hr', h1', hd'⟩ : Reads ((w1.setCell ⟨n₀, 0, none⟩ V').setCell ⟨n₀ + 1, 0, none⟩ (.int .i64 E)) U (payP zs x.1) ∧ U.oneCell' = true ∧ (payP zs x.1 ≠ [] → ∀ bb, U.ownBlock = some bb → bb ∉ n₀ :: (n₀ + 1) :: (w'.heap.size + 1) :: v.ownBlock.toList ∧ n₀ ≤ bb) := by
    have hnot : payP zs x.1 ≠ [] → ∀ bb, U.ownBlock = some bb → bb ∉ n₀ :: (n₀ + 1) :: (w'.heap.size + 1) :: v.ownBlock.toList := by
      intro h0 bb hbb hm
      have hlt := (Reads.block hu2 h0 hbb).1
      have hor := hu4 h0 bb hbb
      rcases List.mem_cons.1 hm with rfl | hm
      · omega
      rcases List.mem_cons.1 hm with rfl | hm
      · omega
      rcases List.mem_cons.1 hm with rfl | hm
      · omega
      · have hvo : v.ownBlock = some bb := by simpa using hm
        have := hvlt bb hvo
        omega
    refine ⟨(((hu2.kept ht (by simp)).kept hgrow ?_).kept gS0 ?_).kept gS1 ?_, hu1, fun h0 bb hbb => ⟨hnot h0 bb hbb, by have := hu4 h0 bb hbb; omega⟩⟩
    · intro h0 bb hbb e
      exact hnot h0 bb hbb (by simp [← e])
    · intro h0 bb hbb e
      exact hnot h0 bb hbb (by simp at e; simp [e])
    · intro h0 bb hbb e
      exact hnot h0 bb hbb (by simp at e; simp [e])
  refine ⟨((((KeepsOthers.of_grownBy hu3 fun j o ej => by simp at ej).trans hko).trans (KeepsOthers.setCell _ _ _)).from _), hKJ, ⟨⟨V', us ++ [U], ?_, ?_, ?_, ?_⟩, ?_, hL.kept hKJ⟩, ?_⟩
  · exact hbx'.kept gS1 (by simp)
  · rw [List.length_append]
    refine (hown.kept gS0 ?_).kept gS1 ?_
    · right; intro e; have := hV _ e; omega
    · right; intro e; have := hV _ e; omega
  · rw [List.map_append]
    exact (hall'.mono (by simp)).snoc hr' h1' fun h0 bb hbb => ⟨fun hm => (hd' h0 bb hbb).1 (by simp at hm; rcases hm with rfl | rfl <;> simp), (hd' h0 bb hbb).2⟩
  · intro g hg
    have hmem : g ∈ n₀ :: (n₀ + 1) :: (w'.heap.size + 1) :: v.ownBlock.toList := by
      rcases hblk with h | h
      · rw [hg] at h; simp [← h]
      · rw [hg, hal] at h
        obtain rfl := Option.some.inj h
        simp
    rw [List.map_append]
    refine (hall'.mono fun y hy => ?_).snoc hr' h1' fun h0 bb hbb => ⟨fun hm => (hd' h0 bb hbb).1 ?_, (hd' h0 bb hbb).2⟩
    · rw [List.mem_singleton] at hy
      subst hy
      rcases List.mem_cons.1 hmem with rfl | h
      · simp
      rcases List.mem_cons.1 h with rfl | h
      · simp
      rcases List.mem_cons.1 h with rfl | h
      · simp
      · simp at h; simp [h]
    · rw [List.mem_singleton] at hm
      subst hm
      exact hmem
  · obtain ⟨z, hz⟩ := hEn
    have := (((Boxed.grown0 hz hu3).alloc (.cells #[U] 22)).kept hgrow (hvb _ (by omega))).kept gS0 (by simp)
    have := this.set (.int .i64 E)
    rw [List.map_append]
    show Boxed _ _ _ (.int .i64 (endP (List.map (fun x => x.1) pre ++ [x.1])))
    rw [endP_snoc, show ((x.1.1 + x.1.2 : Nat) : Int) = E by omega]
    exact this
  · exact (((hB.grown hu3 (by omega) (by simp)).trans hbel)).setCell (p := ⟨n₀ + 1, 0, none⟩) (by simp) _

set_option maxRecDepth 100000 in
set_option maxHeartbeats 4000000 in
theorem Try.Read_in (n : Nat) (hn : 3 ≤ n) (b off cap : Nat) (zs : List Int) (hcap : zs.length ≤ cap) (hz : zs.length ≤ 10000000) (hby : Byt zs) (w : World) (hb : b < w.heap.size) (hc : ∀ i x, zs[i]? = some x → w.cell? ⟨b, off + i, none⟩ = some (.int .u8 x)) :
    CallsIn Fence.wide n Try.prog 15 #[.slice (some ⟨b, off, none⟩) zs.length cap] w fun e W' => ∃ v us, e = .returned (.tuple #[v, .int .i64 (endP (entP zs 0))]) ∧ W'.ownsRow w.heap.size 22 1 v (entP zs 0).length us ∧ Elems w.heap.size W' [] us ((entP zs 0).map fun x => payP zs x) ∧ Below w.heap.size w W' := by
  have h1 : 1 ≤ n := by omega
  obtain ⟨i0, hi, hz0, hz1, hz2⟩ := info_parts Try.infoB
  refine callsIn_of_wp_marks Try.func15 rfl trivial ?_ rfl
  simp only [Try.ntmps15, List.size_toArray, List.length_cons, List.length_nil, Nat.reduceAdd, Nat.reduceSub, Array.replicate_succ, Array.replicate_zero, List.push_toArray, List.append_toArray, List.nil_append, List.cons_append]
  gi_wp2_with (refine ⟨trivial, ?_⟩; gi_at_call 26; refine (Try.entries_in Fence.wide (n - 1) trivial rfl _ _ _ _).mono ?_; rintro e w' ⟨rfl, rfl⟩)
  have bO := Boxed.new w 28 (.slice none 0 0)
  have bN := Boxed.new (w.alloc (.cells #[.slice none 0 0] 28)) 3 (.int .i64 0)
  have bL := Boxed.new ((w.alloc (.cells #[.slice none 0 0] 28)).alloc (.cells #[.int .i64 0] 3)) 22 (.slice (some ⟨b, off, none⟩) zs.length cap)
  rw [World.size_alloc] at bN
  rw [World.size_alloc, World.size_alloc] at bL
  have hB0 : Below w.heap.size w (((w.alloc (.cells #[.slice none 0 0] 28)).alloc (.cells #[.int .i64 0] 3)).alloc (.cells #[.slice (some ⟨b, off, none⟩) zs.length cap] 22)) := (((Below.refl _ w).alloc (Nat.le_refl _) _).alloc (by simp) _).alloc (by simp; omega) _
  have bO2 := (bO.alloc (.cells #[.int .i64 0] 3)).alloc (.cells #[.slice (some ⟨b, off, none⟩) zs.length cap] 22)
  have bN2 := bN.alloc (.cells #[.slice (some ⟨b, off, none⟩) zs.length cap] 22)
  obtain ⟨W0, hW0⟩ : ∃ W0, ((w.alloc (.cells #[.slice none 0 0] 28)).alloc (.cells #[.int .i64 0] 3)).alloc (.cells #[.slice (some ⟨b, off, none⟩) zs.length cap] 22) = W0 := ⟨_, rfl⟩
  have hsz : W0.heap.size = w.heap.size + 3 := by rw [← hW0]; simp
  rw [hW0] at bL hB0 bO2 bN2 ⊢
  have hLog : LogAt W0 (w.heap.size + 2) b off cap zs := ⟨bL.cell, by omega, by omega, fun i x hx => by rw [hB0.cell (p := ⟨b, off + i, none⟩) hb]; exact hc i x hx⟩
  clear bO bN hW0
  refine wpIn_rangeFunc_ownG rfl h1 (gf := 28) (lb := #[.pointer (some ⟨w.heap.size + 1 + 1, 0, none⟩)]) rfl trivial (enters_of Try.func28 (by kernel_rfl) rfl)
    (Try.ent_stops (n - 1) (by omega) (w.heap.size + 2) b off cap zs hcap hz hby W0 hLog) KeepJ.t (KeepJ.put (by omega) (by omega)) (Below.refl _ _) (fun _ => rfl)
    (IJ w.heap.size b off cap zs w) (fun _ _ _ => False) (by rw [hsz]; exact IJ.own w.heap.size b off cap zs w hb) (fun _ _ _ _ _ hs _ _ => hs)
    ⟨⟨⟨.slice none 0 0, [], bO2, World.ownsRow_nil _ _ _ _, ⟨rfl, fun i u p hu => by simp at hu⟩, fun g hg => by simp [Value.ownBlock] at hg⟩, bN2, hLog⟩, hB0⟩
    (fun x => { tmps := #[.slice (some ⟨b, off, none⟩) zs.length cap, undef, .slice none 0 0, .int .i64 0, .pointer (some ⟨w.heap.size, 0, none⟩), .pointer (some ⟨w.heap.size + 1, 0, none⟩), .slice (some ⟨b, offJ off cap x.1.1, none⟩) x.1.2 (cap - x.1.1), .int .i64 ((x.1.1 : Int) + (x.1.2 : Int)),
      .slice (some ⟨b, off, none⟩) zs.length cap, .func (.func 28) #[] #[.pointer (some ⟨w.heap.size + 1 + 1, 0, none⟩)], .slice (some ⟨b, offJ off cap x.1.1, none⟩) x.1.2 (cap - x.1.1), .int .i64 ((x.1.1 : Int) + (x.1.2 : Int)), undef, undef, undef, undef, undef, undef, undef, undef], defers := [] }) ?assign ?body ?done ?stop
  case assign =>
    intro l x W K hK
    simp only [encJ]
    gi_wp2
    exact hK
  case stop =>
    rintro D c pre W _ _ h _
    exact h.elim
  case done =>
    rintro D ys W hD hys ⟨⟨⟨v, us, hv, hrow, hel, _⟩, hE, _⟩, hB⟩ hK
    have hcv := hv.cell
    have hce := hE.cell
    gi_wp2
    gi_region
    all_goals gi_wp2
    refine ⟨by simp, .inl ⟨_, _, rfl, run_takeDeferred (w := W.drew) hK, ?_⟩⟩
    have hKd : W.drew.heap[D]? = some (Obj.deferred (some [])) := hK
    refine ⟨_, results_tmp2 rfl _ _ _, v, us, ?_, ?_, ?_, ?_⟩
    · rw [← hys]
      rfl
    · rw [← hys, List.length_map]
      exact ownsRow_mono (ownsRow_putObj (W := W.drew) hrow _ hKd rfl) (by omega)
    · rw [← hys, List.map_map]
      exact (Elems.kept (W := W.drew) (show Elems _ W.drew _ _ _ from hel) (row := some D) (grownBy_putObj' W.drew D (.deferred none)) (fun r hr => .inr ⟨_, by cases hr; exact hKd, rfl⟩)).mono (by simp)
    · exact (hB.trans (show Below w.heap.size W W.drew from ⟨rfl, rfl, rfl, Nat.le_refl _, fun _ _ => rfl⟩)).trans (belowK_b (w := w) (Nat.le_refl _) W.drew D _ _ (by omega) hKd rfl rfl)
  case body =>
    rintro l pre x W ⟨⟨⟨v, us, hv, hrow, hel, hel2⟩, hE, hLW⟩, hB⟩ hlt
    have hd : 1 ≤ n - 1 - 1 := by omega
    have hmx : Try.prog.follows .mixedOrders = true := by kernel_rfl
    have hcv := hv.cell
    have hce := hE.cell
    have hx2 := x.2
    have hWs := hLW.2.1
    have hrp : Reads W (.slice (some ⟨b, offJ off cap x.1.1, none⟩) x.1.2 (cap - x.1.1)) (payP zs x.1) := by
      unfold offJ payP
      by_cases h0 : cap - x.1.1 = 0
      · have : x.1.2 = 0 := by omega
        rw [this]; exact .inl ⟨rfl, _, _, rfl⟩
      · rw [if_neg h0]; exact hLW.reads hcap x.1.1 x.1.2 hx2 _ (by omega)
    have hpl : (payP zs x.1).length ≤ 90000000 := by rw [payP, List.length_take, List.length_drop]; omega
    gi_wp2
    have hle : w.heap.size ≤ w.heap.size := Nat.le_refl _
    have hbytes : pre.length + 1 ≤ 10000002 := by omega
    have hm1 : pre.length + 1 ≤ maxLen := Nat.le_trans hbytes (by decide)
    have hm2 : (pre.length + 1) * 24 ≤ 140737488355328 := by omega
    gi_region_with_o (first
      | (refine ⟨trivial, ?_⟩; gi_at_call 22; refine (CallsIn.inRound l (callsIn_wide.2 (Try.Clone_calls (W := W.drew) hrp hpl))).mono ?_; rintro e w' ⟨au, cu, rfl, hu2, hu3, hu4⟩; have hv3 := Boxed.grown0 (W := W.drew) hv hu3; have hrow3 := ownsRow_grown0 (W := W.drew) hrow hu3; have hcv3 := hv3.cell; have hcv4 := (hv3.alloc (.cells #[.slice au (payP zs x.1).length cu] 22)).cell)
      | (obtain ⟨v', w1, hr, hown', hgrow, _, hblk⟩ := run_append_own_at (P := Try.prog) (w'.alloc (.cells #[.slice au (payP zs x.1).length cu] 22)) (w.heap.size + 3) 28 28 22 i0 (.slice none 0 0) 1 24 Try.underlying28 hi hz0 hz1 hz2 rfl (by decide) v pre.length us (hrow3.alloc _) ⟨w'.heap.size, 0, none⟩ 1 1 [.slice au (payP zs x.1).length cu] rfl (cell_one_new _ _ _) (by simp [Value.oneCell']) hm1 hm2 (by have := hu3.size; simp at *; omega)
         rw [appG_fold] at hr
         rw [hr]; obtain ⟨g', cap', rfl⟩ := ownsRow_succ hown'
         obtain ⟨hbx, hbx', hrow', hko, hbel⟩ := Boxed.appended hv3 (by decide) (ownsRow_mono hrow3 (by omega : w.heap.size ≤ w.heap.size + 3)) (by have := hu3.size; simp at *; omega) (Nat.le_refl _) (ownsRow_mono hown' (by omega : w.heap.size ≤ w.heap.size + 3)) hgrow
         have hcx := hbx.cell
         have hfx := hbx.frozen
         have hE1 := (((Boxed.grown0 (W := W.drew) hE hu3).alloc (.cells #[.slice au (payP zs x.1).length cu] 22)).kept hgrow ((Boxed.grown0 (W := W.drew) hE hu3).not_row (by decide) hrow3))))
    all_goals (
      have hE' := hE1.kept (grownBy_setCell' w1 w.heap.size (.slice (some ⟨g', 0, none⟩) (pre.length + 1) cap')) (by simp)
      have hcE' := hE'.cell
      have hfE' := hE'.frozen
      have hcE1 := hE1.cell
      have hfE1 := hE1.frozen
      clear hr hcx hfx hm1 hm2
      gi_wp2)
    all_goals exact IJ.next rfl hb (by omega) hv hrow hel hel2 ⟨_, hE⟩ hLW hB (show W.grownBy w' none from ⟨hu3.os, hu3.tape, hu3.output, hu3.size, hu3.block⟩) rfl hu2 hu4 hgrow hown' hblk

end Go.Proofs

namespace Go.Proofs
open Go.RowKit Go.Shelf Go.AW
variable [Draws]
set_option linter.all false
attribute [local go_sem] Oper.semAt_some
theorem Try.ent_stopsE (n : Nat) (Bs cap : Nat) (a : Option Addr) (w : World) (hBs : Bs < w.heap.size) (hc : w.cell? ⟨Bs, 0, none⟩ = some (.slice a 0 cap)) :
    SeqStopsK Fence.wide n Try.prog 28 #[.pointer (some ⟨Bs, 0, none⟩)] (fun x : Empty => #[.int .i64 0, .int .i64 0]) (fun W W' => Below w.heap.size W W') (fun ys => ys = []) (fun _ => True) 1 w := fun l J Jx W hW hJ _ hY h0 =>
  (Try.ent0_in n l Bs a cap J W ((hW.cell (p := ⟨Bs, 0, none⟩) hBs).trans hc) h0).mono fun e W' ⟨he, hj⟩ => ⟨he, .inl ⟨[], rfl, hj⟩⟩

set_option maxRecDepth 100000 in
set_option maxHeartbeats 4000000 in
theorem Try.Read0_in (n : Nat) (hn : 3 ≤ n) (ad : Option Addr) (cap : Nat) (w : World) :
    CallsIn Fence.wide n Try.prog 15 #[.slice ad 0 cap] w fun e W' => e = .returned (.tuple #[.slice none 0 0, .int .i64 0]) ∧ Below w.heap.size w W' := by
  have h1 : 1 ≤ n := by omega
  refine callsIn_of_wp_marks Try.func15 rfl trivial ?_ rfl
  simp only [Try.ntmps15, List.size_toArray, List.length_cons, List.length_nil, Nat.reduceAdd, Nat.reduceSub, Array.replicate_succ, Array.replicate_zero, List.push_toArray, List.append_toArray, List.nil_append, List.cons_append]
  gi_wp2_with (refine ⟨trivial, ?_⟩; gi_at_call 26; refine (Try.entries_in Fence.wide (n - 1) trivial rfl _ _ _ _).mono ?_; rintro e w' ⟨rfl, rfl⟩)
  have bO := Boxed.new w 28 (.slice none 0 0)
  have bN := Boxed.new (w.alloc (.cells #[.slice none 0 0] 28)) 3 (.int .i64 0)
  have bL := Boxed.new ((w.alloc (.cells #[.slice none 0 0] 28)).alloc (.cells #[.int .i64 0] 3)) 22 (.slice ad 0 cap)
  rw [World.size_alloc] at bN
  rw [World.size_alloc, World.size_alloc] at bL
  have hB0 : Below w.heap.size w (((w.alloc (.cells #[.slice none 0 0] 28)).alloc (.cells #[.int .i64 0] 3)).alloc (.cells #[.slice ad 0 cap] 22)) := (((Below.refl _ w).alloc (Nat.le_refl _) _).alloc (by simp) _).alloc (by simp; omega) _
  have bO2 := (bO.alloc (.cells #[.int .i64 0] 3)).alloc (.cells #[.slice ad 0 cap] 22)
  have bN2 := bN.alloc (.cells #[.slice ad 0 cap] 22)
  obtain ⟨W0, hW0⟩ : ∃ W0, ((w.alloc (.cells #[.slice none 0 0] 28)).alloc (.cells #[.int .i64 0] 3)).alloc (.cells #[.slice ad 0 cap] 22) = W0 := ⟨_, rfl⟩
  have hsz : W0.heap.size = w.heap.size + 3 := by rw [← hW0]; simp
  rw [hW0] at bL hB0 bO2 bN2 ⊢
  clear bO bN hW0
  refine wpIn_rangeFunc_ownG rfl h1 (gf := 28) (lb := #[.pointer (some ⟨w.heap.size + 1 + 1, 0, none⟩)]) rfl trivial (enters_of Try.func28 (by kernel_rfl) rfl)
    (Try.ent_stopsE (n - 1) (w.heap.size + 2) cap ad W0 (by omega) bL.cell) (fun h k => h.trans k) (belowK_b (Nat.le_refl _)) (Below.refl _ _) (fun _ => rfl)
    (fun _ W => (Boxed W w.heap.size 28 (.slice none 0 0) ∧ Boxed W (w.heap.size + 1) 3 (.int .i64 0)) ∧ Below w.heap.size w W) (fun _ _ _ => False) ?own (fun _ _ _ _ _ hs _ _ => hs)
    ⟨⟨bO2, bN2⟩, hB0⟩
    (fun x => { tmps := #[], defers := [] }) ?assign ?body ?done ?stop
  case own =>
    rintro pre X Y row ⟨⟨hv, hE⟩, hB⟩ hg hrow
    have hbox : ∀ {B : Nat} {t : TypeId} {u : Value}, Boxed X B t u → some B ≠ row := fun {B t u} h e' => by
      obtain ⟨_, o, ho, hc⟩ := hrow B e'.symm
      rw [show X.heap[B]? = _ from h] at ho; cases ho; cases hc
    exact ⟨⟨hv.kept hg (hbox hv), hE.kept hg (hbox hE)⟩, hB.grown hg hB.size fun k e => by have := (hrow k e).1; omega⟩
  case assign => intro l x; exact x.elim
  case body => intro l pre x; exact x.elim
  case stop =>
    rintro D c pre W _ _ h _
    exact h.elim
  case done =>
    rintro D ys W hD hys ⟨⟨hv, hE⟩, hB⟩ hK
    have hcv := hv.cell
    have hce := hE.cell
    gi_wp2
    gi_region
    all_goals gi_wp2
    refine ⟨by simp, .inl ⟨_, _, rfl, run_takeDeferred (w := W.drew) hK, ?_⟩⟩
    have hKd : W.drew.heap[D]? = some (Obj.deferred (some [])) := hK
    refine ⟨_, results_tmp2 rfl _ _ _, rfl, ?_⟩
    exact (hB.trans (show Below w.heap.size W W.drew from ⟨rfl, rfl, rfl, Nat.le_refl _, fun _ _ => rfl⟩)).trans (belowK_b (w := w) (Nat.le_refl _) W.drew D _ _ (by omega) hKd rfl rfl)

def Cnew (C : Nat → Nat) (w W' : World) (x : Nat) : Nat := if x < w.heap.size then C x else match W'.heap[x]? with
  | some (.cells cs _ _) => cs.size
  | _ => 0

theorem Cnew_lt {C : Nat → Nat} {w W' : World} (hw : w.heap.size ≤ W'.heap.size) (b : Nat) (h : 0 < Cnew C w W' b) : b < W'.heap.size := by
  unfold Cnew at h
  by_cases hb : b < w.heap.size
  · omega
  · rw [if_neg hb] at h
    by_cases hb2 : b < W'.heap.size
    · exact hb2
    · rw [Array.getElem?_eq_none (by omega)] at h; simp at h

theorem Cnew_cell {C : Nat → Nat} {w W' : World} {b i : Nat} {x : Value} (hb : w.heap.size ≤ b) (h : W'.cell? ⟨b, i, none⟩ = some x) : i < Cnew C w W' b := by
  unfold Cnew
  rw [if_neg (by omega)]
  unfold World.cell? at h
  split at h
  · rename_i c _ _ hc
    rw [hc]
    simp at h
    exact (Array.getElem?_eq_some_iff.1 h).1
  · cases h

theorem st_below (hup : ¬ Draws.up) {C : Nat → Nat} {τ : Nat → Option Go.AW.Loc} {H : List AObj} {w W' : World} (hw : WF C τ H w) (hB : Below w.heap.size w W') : St w (PrCall τ H w) (Cnew C w W') τ H W' ∧ Step C τ H w (Cnew C w W') τ H W' := by
  have s : Step C τ H w (Cnew C w W') τ H W' := by
    refine ⟨fun b => ?_, fun b i hi => ?_, fun id o h => ⟨o, h, o.after_refl _⟩, hB.size, fun b hb => by rw [Cnew, if_pos hb]⟩
    · by_cases hb : b < w.heap.size
      · rw [Cnew, if_pos hb]; exact Nat.le_refl _
      · have : C b = 0 := by
          rcases Nat.eq_zero_or_pos (C b) with h | h
          · exact h
          · exact absurd (hw.lt b h) hb
        omega
    · exact hB.cell (p := ⟨b, i, none⟩) (hw.lt b (by omega))
  refine ⟨⟨⟨hw.ok, hw.virt, fun id o l h1 h2 => (hw.objs id o l h1 h2).mono s (hB.block _ (hw.locLt (List.getElem?_eq_some_iff.1 h1).1 h2)), fun id l h1 h2 => ?_, hw.inj, fun b hb => Cnew_lt hB.size b hb⟩, ⟨hB.os, hB.tape, hB.output, hB.size, fun b hb => hB.block b hb.1, fun u => absurd u hup⟩, fun b ho hp => hp.2 ho, fun b hb => hb.1⟩, s⟩
  rw [Cnew, if_pos (hw.locLt h1 h2)]
  exact hw.comm id l h1 h2

theorem Try.Read_any (hup : ¬ Draws.up) (zs : List Int) (hz : zs.length ≤ 10000000) (hby : Byt zs) {C : Nat → Nat} {τ : Nat → Option Go.AW.Loc} {H : List AObj} {w : World} {v : Value} (hw : WF C τ H w) (hreads : Reads w v zs) :
    CallsX Try.prog 15 #[v] w fun e w' => ∃ v r C' τ' H', e = .returned v ∧ (r = .tuple [payL zs, .int .i64 (endP (entP zs 0))] ∧ H' = H) ∧ Rel C' w' τ' H' r v ∧ St w (PrCall τ H w) C' τ' H' w' ∧ Step C τ H w C' τ' H' w' := by
  unfold CallsX
  rw [enters_of Try.func15 (by kernel_rfl) rfl]
  rcases hreads with ⟨rfl, a, cap, rfl⟩ | ⟨h0, b, off, cap, rfl, hcap, hb, hc⟩
  · refine Calls.mono (callsIn_wide.1 (Try.Read0_in 3 (Nat.le_refl _) a cap w)) ?_
    rintro e W' ⟨rfl, hB⟩
    obtain ⟨h1, h2⟩ := st_below hup hw hB
    have hn : entP [] 0 = [] := entP_nil (okE_short (by simp))
    refine ⟨_, _, _, _, _, rfl, ⟨rfl, rfl⟩, ?_, h1, h2⟩
    unfold payL
    rw [hn]
    refine .tuple _ _ rfl fun i c v hc hv => ?_
    rcases i with _ | _ | i
    · cases hc; cases hv; exact .rd (.list0 _ _ _ _ (by simp))
    · cases hc; cases hv; exact .rd (.int _ _)
    · simp at hc
  · refine Calls.mono (callsIn_wide.1 (Try.Read_in 3 (Nat.le_refl _) b off cap zs hcap hz hby w hb hc)) ?_
    rintro e W' ⟨v, us, rfl, hrow, hel, hB⟩
    obtain ⟨h1, h2⟩ := st_below hup hw hB
    refine ⟨_, _, _, _, _, rfl, ⟨rfl, rfl⟩, ?_, h1, h2⟩
    have hlen : us.length = (entP zs 0).length := by have := hel.1; simpa using this
    refine .tuple _ _ rfl fun i c u hc hu => ?_
    rcases i with _ | _ | i
    · cases hc; cases hu
      refine .rd ?_
      rcases hrow.2 with ⟨rfl, hn⟩ | ⟨g, cp, cur, rfl, hg, hgb, hncap, _, hcs, htake⟩
      · have : entP zs 0 = [] := List.eq_nil_of_length_eq_zero hn
        unfold payL
        rw [this]
        exact .list0 _ _ _ _ (by simp)
      · have hcell : ∀ i, i < (entP zs 0).length → W'.cell? ⟨g, i, none⟩ = some (us.getD i undef) := fun i hi => by
          have hj : us[i]? = some (us[i]'(by omega)) := List.getElem?_eq_getElem (by omega)
          have := hrow.cells (g := g) rfl i _ hj
          rw [Addr.add] at this
          simp only [Nat.zero_add] at this
          rw [show (if i = 0 then ({ block := g, off := 0 } : Addr) else { block := g, off := i }) = ⟨g, i, none⟩ by
            by_cases h : i = 0
            · rw [if_pos h, h]
            · rw [if_neg h]] at this
          rw [this, List.getD_eq_getElem?_getD, hj]; rfl
        have hel2 : ∀ (i : Nat) (e : List AVal) (d : AVal), ((entP zs 0).map fun x => [AVal.list false 1 (bC (payP zs x))])[i]? = some e → e[0]? = some d → Rd (Cnew C w W') W' d (us.getD i undef) := fun i e d he hd => by
          rw [List.getElem?_map] at he
          obtain ⟨x, hx, rfl⟩ := Option.map_eq_some_iff.1 he
          cases hd
          have hi := (List.getElem?_eq_some_iff.1 hx).1
          have hj : us[i]? = some (us[i]'(by omega)) := List.getElem?_eq_getElem (by omega)
          obtain ⟨e1, e2, e3⟩ := hel.2 i _ _ hj (by rw [List.getElem?_map, hx]; rfl)
          rw [List.getD_eq_getElem?_getD, hj]
          exact e1.rdC fun h0 b k y hb hk => Cnew_cell (e3 h0 b hb).2 hk
        unfold payL
        have := Rd.list (C := Cnew C w W') (w := W') false 1 ((entP zs 0).map fun x => [AVal.list false 1 (bC (payP zs x))]) g 0 cp (fun i _ => us.getD i undef) (by simp) (by rw [List.length_map]; exact hncap) (fun e he => by
          obtain ⟨x, _, rfl⟩ := List.mem_map.1 he
          rfl) (by
            rw [List.length_map, Nat.mul_one, Nat.zero_add]
            by_cases hz0 : (entP zs 0).length = 0
            · omega
            · have := Cnew_cell (C := C) hg (hcell ((entP zs 0).length - 1) (by omega))
              omega) (fun i j hi hj => by
            obtain rfl : j = 0 := by omega
            rw [List.length_map] at hi
            rw [Nat.mul_one, Nat.add_zero, Nat.zero_add]
            exact hcell i hi) (fun i j e d he hd => by
            rw [List.getElem?_map] at he
            obtain ⟨x, _, rfl⟩ := Option.map_eq_some_iff.1 he
            rcases j with _ | j
            · cases hd; rfl
            · simp at hd) (fun i j e d he hd => by
            have hj0 : j = 0 := by
              rw [List.getElem?_map] at he
              obtain ⟨x, _, rfl⟩ := Option.map_eq_some_iff.1 he
              rcases j with _ | j
              · rfl
              · simp at hd
            subst hj0
            exact hel2 i e d he hd)
        rwa [List.length_map] at this
    · cases hc; cases hu; exact .rd (.int _ _)
    · simp at hc

theorem Try.Read_acalls (hup : ¬ Draws.up) (ex : Bool) (zs : List Int) (hz : zs.length ≤ 10000000) (hby : Byt zs) (H : List AObj) : ACalls Try.prog 15 [.list ex 1 (bC zs)] H (fun r H' => r = .tuple [payL zs, .int .i64 (endP (entP zs 0))] ∧ H' = H) := by
  intro C τ w vs hw hl hr
  obtain ⟨v, rfl⟩ : ∃ v, vs = #[v] := by
    obtain ⟨m⟩ := vs
    match m, hl with
    | [v], _ => exact ⟨v, rfl⟩
  have hrel := hr 0 _ v rfl rfl
  have hrd : Rd C w (.list ex 1 (bC zs)) v := by
    cases hrel with
    | rd h => exact h
  exact Try.Read_any hup zs hz hby hw (Reads.of_rd hrd hw.lt).1

theorem Try.Read_own (hup : ¬ Draws.up) (zs : List Int) (n : Nat) (hn : n = zs.length) (hz : zs.length ≤ 10000000) (hby : Byt zs) (H : List AObj) (id : Nat) (ho : H[id]? = some (.arr 1 (bC zs))) : ACalls Try.prog 15 [.sl id n 0 n] H (fun r H' => r = .tuple [payL zs, .int .i64 (endP (entP zs 0))] ∧ H' = H) := by
  subst hn
  intro C τ w vs hw hl hr
  obtain ⟨v, rfl⟩ : ∃ v, vs = #[v] := by
    obtain ⟨m⟩ := vs
    match m, hl with
    | [v], _ => exact ⟨v, rfl⟩
  have hrel := hr 0 _ v rfl rfl
  exact Try.Read_any hup zs hz hby hw (Reads.of_sl hw ho hrel)

theorem Try.jread (hup : ¬ Draws.up) : JRead Try.prog 15 := ⟨Try.Read_acalls hup, Try.Read_own hup⟩

end Go.Proofs

namespace Go.AW
variable [Draws]
attribute [local irreducible] ACalls
def LgSt (v : AVal) (zs : List Int) : Prop := (v = .nil ∧ zs = []) ∨ v = .list false 1 (bC zs)

theorem LgSt.wk {v : AVal} {zs : List Int} (h : LgSt v zs) : WkD v (.list false 1 (bC zs)) := by
  rcases h with ⟨rfl, rfl⟩ | rfl
  · exact .nil _ _
  · exact .refl _

theorem jApp_any {P : Program} (F : F_journal_Append P) {v : AVal} {zs : List Int} (h : LgSt v zs) (e2 : Bool) (p : List Int) (hz : zs.length ≤ 1000000) (hp : p.length ≤ 65536) (H : List AObj) :
    ACalls P F.id [v, .list e2 1 (bC p)] H (fun r H' => r = .tuple [.list false 1 (bC (zs ++ jEnt p)), .int .i64 0] ∧ H' = H) := by
  have := (jAppend_spec F false e2 zs p (by omega) (by omega) H).weakD (args := [v, .list e2 1 (bC p)]) (.cons h.wk (.cons (.refl _) .nil))
  rwa [jApp_ok (by simp [jFull]; omega)] at this

set_option maxRecDepth 20000 in
theorem law_JournalBack {P : Program} (F : F_warehouselaw35_JournalBack P) (hR : JRead P F.warehouselaw35_known.journal_Read.id) (hR2 : JRead P F.warehouselaw35_known.journal_Repair.journal_Read.id) (hR3 : JRead P F.journal_Read.id)
    (l : List (List Int)) (_ : l.length ≤ maxLen) (hw2 : ∀ p ∈ l, p.length ≤ maxLen ∧ ∀ x ∈ p, (Lit.int .u8 x).wf = true) :
    ACalls P F.id [.list false 1 (pL l)] [] (fun r _ => r = .bool true) := by
  have hl : ∀ p ∈ l, Byt p := fun p hp x hx => bounds_u8 ((hw2 p hp).2 x hx)
  have fin : ∀ H, ACalls P F.warehouselaw35_known.id [] H (fun r H' => r = .bool true ∧ H' = H) := known35_spec F.warehouselaw35_known hR hR2
  have lig : ∀ H, ACalls P F.warehouselaw35_light.id [.list false 1 (pL l)] H (fun r H' => r = .bool (light35 (l.map fun p => (false, p))) ∧ H' = H) := fun H => by
    rw [pL_q]; exact light35_spec F.warehouselaw35_light false _ H
  refine acalls_of_body F.has ?_
  (conv => whnf); refine ACalls.use (lig _) ?_
  (conv => whnf); refine recA (fun h2 => ?_) (fun h2 => ?_)
  · (conv => whnf); refine ACalls.use (fin _) ?_
    conv => whnf
  simp at h2
  obtain ⟨l20, l300⟩ := light_all h2
  have lb := jLog_bound l300
  have lby := jLog_byt hl
  conv => whnf
  refine ⟨fun m ρ H1 => ∃ (k : Nat) (v3 : AVal), k + m = l.length ∧ H1 = [] ∧ LgSt v3 (jLog (l.take k)) ∧
    Sv 48 [(0, .list false 1 (pL l)), (3, v3), (14, .int .i64 l.length), (15, .int .i64 k)] ρ, l.length, [], ?_, ?_⟩
  · exact ⟨0, .nil, by omega, rfl, .inl ⟨rfl, rfl⟩, Sv.intro rfl ⟨rfl, rfl, intEq (by rw [pL_length]), rfl, trivial⟩⟩
  rintro m ρ H1 ⟨k, v3, hk, rfl, hst, d, rfl⟩
  (conv => whnf); refine recA (fun hlt => ?_) (fun hlt => ?_)
  · simp at hlt
    obtain ⟨p, hp⟩ : ∃ p, l[k]? = some p := ⟨_, List.getElem?_eq_getElem hlt⟩
    have hpm := List.mem_of_getElem? hp
    have hp3 := l300 p hpm
    have hlb := jLog_bound (l := l.take k) fun q hq => l300 q (List.mem_of_mem_take hq)
    rw [List.length_take] at hlb
    have hnx : jLog (l.take (k + 1)) = jLog (l.take k) ++ jEnt p := by rw [take_snoc hp, jLog_snoc]
    (conv => whnf); refine And.intro (by omega) ?_
    (conv => whnf); refine recO (pL_get hp) ?_
    (conv => whnf); refine ACalls.use (jApp_any F.journal_Append hst false p (by omega) (by omega) _) ?_
    conv => whnf
    refine ⟨m - 1, by omega, Gp.keep rfl ?_ fun ρ1 h => ⟨k + 1, .list false 1 (bC (jLog (l.take (k + 1)))), by omega, rfl, .inr rfl, h⟩⟩
    exact ⟨rfl, by rw [hnx]; rfl, rfl, intEq (wrapI _ (by omega) (by omega)), trivial⟩
  simp at hlt
  rw [List.take_of_length_le (by omega)] at hst
  have hp := pays_log l [] (fun p hp => by have := l300 p hp; omega)
  rw [List.append_nil, pays_nil.1, pays_nil.2, List.append_nil, Nat.add_zero] at hp
  have hrd := fun H => (jread_pays hR3 false (jLog l) lby (by omega) H).weakD (args := [v3]) (.cons hst.wk .nil)
  rw [hp.1, hp.2] at hrd
  have same : ∀ H, ACalls P F.warehouselaw35_same.id [.list false 1 (pL l), .list false 1 (pL l)] H (fun r H' => r = .bool true ∧ H' = H) := fun H => by
    have := same35_pL F.warehouselaw35_same false false l l hl hl (by omega) H
    rwa [beq_self_eq_true] at this
  (conv => whnf); refine ACalls.use (hrd _) ?_
  rcases hst with ⟨rfl, h0⟩ | rfl
  · (conv => whnf); refine recT (by rw [h0]; rfl) ?_
    (conv => whnf); refine ACalls.use (same _) ?_
    (conv => whnf); refine ACalls.use (fin _) ?_
    conv => whnf
  · (conv => whnf); refine recT (by rw [bC_length]; simp) ?_
    (conv => whnf); refine ACalls.use (same _) ?_
    (conv => whnf); refine ACalls.use (fin _) ?_
    conv => whnf

end Go.AW

namespace Go.AW
variable [Draws]
attribute [local irreducible] ACalls
set_option maxRecDepth 20000 in
theorem law_JournalDamage {P : Program} (F : F_warehouselaw35_JournalDamage P) (hR : JRead P F.warehouselaw35_known.journal_Read.id) (hR2 : JRead P F.warehouselaw35_known.journal_Repair.journal_Read.id) (hR3 : JRead P F.journal_Read.id)
    (l : List (List Int)) (at1 by1 : Int) (_ : l.length ≤ maxLen) (hw2 : ∀ p ∈ l, p.length ≤ maxLen ∧ ∀ x ∈ p, (Lit.int .u8 x).wf = true) (hat : (Lit.int .i64 at1).wf = true) (hby : (Lit.int .u8 by1).wf = true) :
    ACalls P F.id [.list false 1 (pL l), .int .i64 at1, .int .u8 by1] [] (fun r _ => r = .bool true) := by
  have hl : ∀ p ∈ l, Byt p := fun p hp x hx => bounds_u8 ((hw2 p hp).2 x hx)
  have hbb := bounds_u8 hby
  have fin : ∀ H, ACalls P F.warehouselaw35_known.id [] H (fun r H' => r = .bool true ∧ H' = H) := known35_spec F.warehouselaw35_known hR hR2
  have lig : ∀ H, ACalls P F.warehouselaw35_light.id [.list false 1 (pL l)] H (fun r H' => r = .bool (light35 (l.map fun p => (false, p))) ∧ H' = H) := fun H => by
    rw [pL_q]; exact light35_spec F.warehouselaw35_light false _ H
  refine acalls_of_body F.has ?_
  (conv => whnf); refine ACalls.use (lig _) ?_
  (conv => whnf); refine recA (fun h2 => ?_) (fun h2 => ?_)
  · (conv => whnf); refine ACalls.use (fin _) ?_
    conv => whnf
  simp at h2
  obtain ⟨l20, l300⟩ := light_all h2
  conv => whnf
  (conv => whnf); refine recA (fun h3 => ?_) (fun h3 => ?_)
  · (conv => whnf); refine ACalls.use (fin _) ?_
    conv => whnf
  rw [pL_length] at h3
  simp at h3
  (conv => whnf); refine recA (fun h4 => ?_) (fun h4 => ?_)
  · (conv => whnf); refine ACalls.use (fin _) ?_
    conv => whnf
  have lb := jLog_bound l300
  have lby := jLog_byt hl
  conv => whnf
  refine ⟨fun m ρ H1 => ∃ (k : Nat) (v7 : AVal), k + m = l.length ∧ LogSt v7 H1 (jLog (l.take k)) ∧ (k = 0 ∨ v7 ≠ .nil) ∧
    Sv 116 [(0, .list false 1 (pL l)), (1, .int .i64 at1), (2, .int .u8 by1), (7, v7), (31, .int .i64 l.length), (32, .int .i64 k)] ρ, l.length, [], ?_, ?_⟩
  · exact ⟨0, .nil, by omega, .inl ⟨rfl, rfl, rfl⟩, .inl rfl, Sv.intro rfl ⟨rfl, rfl, rfl, rfl, intEq (by rw [pL_length]), rfl, trivial⟩⟩
  rintro m ρ H1 ⟨k, v7, hk, hst, hnn, d, rfl⟩
  (conv => whnf); refine recA (fun hlt => ?_) (fun hlt => ?_)
  · simp at hlt
    obtain ⟨p, hp⟩ : ∃ p, l[k]? = some p := ⟨_, List.getElem?_eq_getElem hlt⟩
    have hpm := List.mem_of_getElem? hp
    have hp3 := l300 p hpm
    have hlb := jLog_bound (l := l.take k) fun q hq => l300 q (List.mem_of_mem_take hq)
    rw [List.length_take] at hlb
    have hnx : jLog (l.take (k + 1)) = jLog (l.take k) ++ jEnt p := by rw [take_snoc hp, jLog_snoc]
    (conv => whnf); refine And.intro (by omega) ?_
    (conv => whnf); refine recO (pL_get hp) ?_
    (conv => whnf); refine ACalls.use (ref35_Entry_spec F.warehouseref35_Entry false p (by omega) (hl p hpm) _) ?_
    rcases hst with ⟨rfl, rfl, h0⟩ | ⟨rfl, rfl⟩
    · (conv => whnf); refine And.intro (⟨roomB_le1 (by simp [bC_length, jEnt_length]; omega), roomB_le (by simp [bC_length, jEnt_length]; omega)⟩) ?_
      conv => whnf
      refine ⟨m - 1, by omega, Gp.keep rfl ?_ fun ρ1 h => ⟨k + 1, .sl 0 (jLog (l.take (k + 1))).length 0 (jLog (l.take (k + 1))).length, by omega, .inr ⟨rfl, ?_⟩, .inr (by simp), h⟩⟩
      · exact ⟨rfl, rfl, rfl, slEq (by rw [hnx, h0, bC_length]; rfl) (by rw [hnx, h0, bC_length]; rfl), rfl, intEq (wrapI _ (by omega) (by omega)), trivial⟩
      · rw [hnx, h0]; rfl
    · (conv => whnf); refine recT (by rw [bC_length]; exact Nat.beq_refl _) ?_
      (conv => whnf); refine And.intro (⟨roomB_le1 (by simp [bC_length, jEnt_length]; omega), roomB_le (by simp [bC_length, jEnt_length]; omega), rfl, by rw [bC_length]⟩) ?_
      conv => whnf
      refine ⟨m - 1, by omega, Gp.keep rfl ?_ fun ρ1 h => ⟨k + 1, .sl 0 (jLog (l.take (k + 1))).length 0 (jLog (l.take (k + 1))).length, by omega, .inr ⟨rfl, ?_⟩, .inr (by simp), h⟩⟩
      · exact ⟨rfl, rfl, rfl, slEq (by rw [hnx]; simp [bC_length]) (by rw [hnx]; simp [bC_length]), rfl, intEq (wrapI _ (by omega) (by omega)), trivial⟩
      · rw [hnx, bC_append]
  simp at hlt
  have hk0 : k ≠ 0 := by
    intro e
    have : l.length = 0 := by omega
    exact h3 (List.eq_nil_of_length_eq_zero this)
  rw [List.take_of_length_le (by omega)] at hst
  rcases hst with ⟨rfl, _⟩ | ⟨rfl, rfl⟩
  · exact absurd rfl (hnn.resolve_left hk0)
  clear hk hnn
  have hL : 1 ≤ (jLog l).length := by
    match l, h3 with
    | p :: t, _ => rw [jLog_cons, List.length_append, jEnt_length]; omega
  have pl := fun H => Place_spec F.warehouseworld_Place at1 (jLog l).length (by omega) (by omega) H
  obtain ⟨K, hK⟩ : ∃ K : Nat, at1 % ((jLog l).length : Int) = K := ⟨(at1 % ((jLog l).length : Int)).toNat, by have := Int.emod_nonneg at1 (show ((jLog l).length : Int) ≠ 0 by omega); omega⟩
  have hKl : K < (jLog l).length := by have := Int.emod_lt_of_pos at1 (show (0 : Int) < ((jLog l).length : Int) by omega); omega
  rw [hK] at pl
  obtain ⟨b0, hb0⟩ : ∃ b, (jLog l)[K]? = some b := ⟨_, List.getElem?_eq_getElem hKl⟩
  have hb0b := lby b0 (List.mem_of_getElem? hb0)
  (conv => whnf); refine recT (by rw [bC_length]; exact Nat.beq_refl _) ?_
  (conv => whnf); refine ACalls.use (pl _) ?_
  have hbq : Nat.beq (jLog l).length (bC (jLog l)).length = true := by rw [bC_length]; exact Nat.beq_refl _
  have hg : (bC (jLog l))[0 + (K : Int).toNat]? = some [.int .u8 b0] := by rw [Nat.zero_add, Int.toNat_natCast]; exact bC_get hb0
  (conv => whnf); refine recT (hbq) ?_
  (conv => whnf); refine And.intro (⟨by omega, by omega⟩) ?_
  (conv => whnf); refine recT (hbq) ?_
  (conv => whnf); refine recO (hg) ?_
  (conv => whnf); refine recT (hbq) ?_
  (conv => whnf); refine And.intro (⟨by omega, by omega⟩) ?_
  (conv => whnf); refine recT (hbq) ?_
  (conv => whnf); refine recO (hg) ?_
  conv => whnf
  obtain ⟨v, hv⟩ : ∃ v, v = IntKind.u8.wrap ((BitVec.ofInt IntKind.u8.bits b0 ^^^ BitVec.ofInt IntKind.u8.bits by1).toNat : Int) := ⟨_, rfl⟩
  obtain ⟨dz, hdz⟩ : ∃ dz, dz = (jLog l).set K v := ⟨_, rfl⟩
  have hdb : Byt dz := by rw [hdz, hv]; exact set_byt lby _ (u8w_byt _)
  have hdl : dz.length = (jLog l).length := by rw [hdz, List.length_set]
  have hdE : setEs (bC (jLog l)) (0 + (K : Int).toNat) [.int .u8 (IntKind.u8.wrap ((BitVec.ofInt IntKind.u8.bits b0 ^^^ BitVec.ofInt IntKind.u8.bits by1).toNat : Int))] = bC dz := by
    rw [← hv, Nat.zero_add, Int.toNat_natCast, setEs_bC, hdz]
  rw [hdE]
  refine Ghost.none (n := 116) (live := [(0, .list false 1 (pL l)), (7, .list false 1 (bC dz)), (9, .int .i64 K)]) rfl ⟨.closed _ rfl, pubF rfl (by rw [bC_length, hdl]) (by rw [bC_length, hdl]) (pureEs_bC _), .closed _ rfl, trivial⟩ ?_
  rintro ρ1 ⟨d, rfl⟩
  (conv => whnf); refine ACalls.use (jread_pays hR3 false dz hdb (by omega) _) ?_
  (conv => whnf); refine ACalls.use (ref35_pays F.warehouseref35_Read false dz hdb (by omega) _) ?_
  conv => whnf
  refine ⟨fun m ρ H1 => ∃ k : Nat, k + m = l.length ∧ H1 = [] ∧ (jLog (l.take k)).length ≤ K ∧
    Sv 116 [(0, .list false 1 (pL l)), (9, .int .i64 K), (10, .list false 1 (pL (pays dz))), (11, .int .i64 (stop dz)), (12, .list false 1 (pL (pays dz))), (13, .int .i64 (stop dz)), (14, .int .i64 k), (15, .int .i64 (jLog (l.take k)).length), (65, .int .i64 l.length), (66, .int .i64 k)] ρ, l.length, [], ?_, ?_⟩
  · exact ⟨0, by omega, rfl, by simp [jLog], Sv.intro rfl ⟨rfl, rfl, rfl, rfl, rfl, rfl, rfl, rfl, intEq (by rw [pL_length]), rfl, trivial⟩⟩
  rintro m ρ H1 ⟨k, hk, rfl, hkK, d, rfl⟩
  have hlb := jLog_bound (l := l.take k) fun q hq => l300 q (List.mem_of_mem_take hq)
  rw [List.length_take] at hlb
  have hpays : (pays dz).take k = l.take k ∧ k ≤ (pays dz).length := by
    have e : dz = jLog (l.take k) ++ (jLog (l.drop k)).set (K - (jLog (l.take k)).length) v := by
      rw [hdz]
      have : jLog l = jLog (l.take k) ++ jLog (l.drop k) := by rw [jLog, jLog, jLog, ← List.flatMap_append, List.take_append_drop]
      rw [this, List.set_append, if_neg (by omega)]
    have hp := (pays_log (l.take k) ((jLog (l.drop k)).set (K - (jLog (l.take k)).length) v) (fun p hp => by have := l300 p (List.mem_of_mem_take hp); omega)).1
    rw [← e] at hp
    have hkl : (l.take k).length = k := by rw [List.length_take]; omega
    rw [hp]
    exact ⟨List.take_left' hkl, by rw [List.length_append, hkl]; omega⟩
  have same1 : ∀ H, ACalls P F.warehouselaw35_same.id [.list false 1 (pL (pays dz)), .list false 1 (pL (pays dz))] H (fun r H' => r = .bool true ∧ H' = H) := fun H => by
    have := same35_pL F.warehouselaw35_same false false (pays dz) (pays dz) (byt_stop hdb) (byt_stop hdb) (by have := pays_len dz; omega) H
    rwa [beq_self_eq_true] at this
  have same2 : ∀ e1 e2 H, ACalls P F.warehouselaw35_same.id [.list e1 1 (pL (l.take k)), .list e2 1 (pL (l.take k))] H (fun r H' => r = .bool true ∧ H' = H) := fun e1 e2 H => by
    have := same35_pL F.warehouselaw35_same e1 e2 (l.take k) (l.take k) (fun p hp => hl p (List.mem_of_mem_take hp)) (fun p hp => hl p (List.mem_of_mem_take hp)) (by rw [List.length_take]; omega) H
    rwa [beq_self_eq_true] at this
  have hs1 : List.drop 0 (List.take (k : Int).toNat (pL (pays dz))) = pL (l.take k) := by rw [List.drop_zero, Int.toNat_natCast, pL, ← List.map_take, hpays.1]; rfl
  have hs2 : List.drop 0 (List.take (k : Int).toNat (pL l)) = pL (l.take k) := by rw [List.drop_zero, Int.toNat_natCast, pL, ← List.map_take]; rfl
  (conv => whnf); refine recA (fun hlt => ?_) (fun hlt => ?_)
  · simp at hlt
    obtain ⟨p, hp⟩ : ∃ p, l[k]? = some p := ⟨_, List.getElem?_eq_getElem hlt⟩
    have hp3 := l300 p (List.mem_of_getElem? hp)
    have hnx : jLog (l.take (k + 1)) = jLog (l.take k) ++ jEnt p := by rw [take_snoc hp, jLog_snoc]
    (conv => whnf); refine And.intro (by omega) ?_
    (conv => whnf); refine recO (pL_get hp) ?_
    (conv => whnf); refine recA (fun hle => ?_) (fun hle => ?_)
    · (conv => whnf); refine And.intro (by omega) ?_
      (conv => whnf); refine recO (pL_get hp) ?_
      conv => whnf
      replace hle : decide (IntKind.i64.wrap (IntKind.i64.wrap (((jLog (l.take k)).length : Int) + 8) + ((bC p).length : Int)) ≤ (K : Int)) = true := hle
      rw [bC_length, wrapI (((jLog (l.take k)).length : Int) + 8) (by omega) (by omega), wrapI _ (by omega) (by omega)] at hle
      simp at hle
      refine ⟨m - 1, by omega, Gp.keep rfl ?_ fun ρ1 h => ⟨k + 1, by omega, rfl, by rw [hnx, List.length_append, jEnt_length]; omega, h⟩⟩
      refine ⟨rfl, rfl, rfl, rfl, rfl, rfl, intEq (wrapI _ (by omega) (by omega)), intEq ?_, rfl, intEq (wrapI _ (by omega) (by omega)), trivial⟩
      show IntKind.i64.wrap (((jLog (l.take k)).length : Int) + IntKind.i64.wrap (8 + ((bC p).length : Int))) = _
      rw [bC_length, wrapI (8 + (p.length : Int)) (by omega) (by omega), wrapI _ (by omega) (by omega), hnx, List.length_append, jEnt_length]
      omega
    · (conv => whnf); refine recT (by simp) ?_
      (conv => whnf); refine ⟨_, same1 _, ?_⟩
      (conv => whnf); refine recT (by rw [pL_length]; simp; exact hpays.2) ?_
      (conv => whnf); refine And.intro (⟨by omega, by show (k : Int) ≤ ((pL (pays dz)).length : Int); rw [pL_length]; have := hpays.2; omega⟩) ?_
      (conv => whnf); refine And.intro (⟨by omega, by show (k : Int) ≤ ((pL l).length : Int); rw [pL_length]; omega⟩) ?_
      conv => whnf
      rw [hs1, hs2]
      (conv => whnf); refine ⟨_, same2 _ _ _, ?_⟩
      (conv => whnf); refine ⟨_, fin _, ?_⟩
      repeat ((conv => whnf); refine And.intro rfl ?_)
      conv => whnf
  · (conv => whnf); refine recT (by simp) ?_
    (conv => whnf); refine ⟨_, same1 _, ?_⟩
    (conv => whnf); refine recT (by rw [pL_length]; simp; exact hpays.2) ?_
    (conv => whnf); refine And.intro (⟨by omega, by show (k : Int) ≤ ((pL (pays dz)).length : Int); rw [pL_length]; have := hpays.2; omega⟩) ?_
    (conv => whnf); refine And.intro (⟨by omega, by show (k : Int) ≤ ((pL l).length : Int); rw [pL_length]; omega⟩) ?_
    conv => whnf
    rw [hs1, hs2]
    (conv => whnf); refine ⟨_, same2 _ _ _, ?_⟩
    (conv => whnf); refine ⟨_, fin _, ?_⟩
    repeat ((conv => whnf); refine And.intro rfl ?_)
    conv => whnf

end Go.AW

namespace Go.AW
variable [Draws]
attribute [local irreducible] ACalls
def jEnds (l : List (List Int)) (k : Nat) : List Int := (List.range k).map fun i => ((jLog (l.take (i + 1))).length : Int)

theorem jEnds_length (l : List (List Int)) (k : Nat) : (jEnds l k).length = k := by simp [jEnds]

theorem jEnds_succ (l : List (List Int)) (k : Nat) : jEnds l (k + 1) = jEnds l k ++ [((jLog (l.take (k + 1))).length : Int)] := by simp [jEnds, List.range_succ]

theorem jEnds_get (l : List (List Int)) {k i : Nat} (h : i < k) : (jEnds l k)[i]? = some ((jLog (l.take (i + 1))).length : Int) := by
  rw [jEnds, List.getElem?_map, List.getElem?_range h]; rfl

theorem iC_get2 {l : List Int} {k : Nat} {x : Int} (h : l[k]? = some x) : (iC l)[k]? = some [.int .i64 x] := by rw [iC, List.getElem?_map, h]; rfl

theorem iC_snoc (l : List Int) (x : Int) : iC (l ++ [x]) = iC l ++ [[.int .i64 x]] := by simp [iC]

theorem jLog_mono (l : List (List Int)) {i j : Nat} (h : i ≤ j) : (jLog (l.take i)).length ≤ (jLog (l.take j)).length := by
  have : l.take j = l.take i ++ (l.take j).drop i := by
    have := (List.take_append_drop i (l.take j)).symm
    rwa [List.take_take, show min i j = i by omega] at this
  rw [this, jLog, jLog, List.flatMap_append, List.length_append]
  omega

theorem cut_pays {l : List (List Int)} (h : ∀ p ∈ l, p.length ≤ 65536) {w cut : Nat} (hw : w ≤ l.length) (h1 : (jLog (l.take w)).length ≤ cut) (h2 : w = l.length ∨ cut < (jLog (l.take (w + 1))).length) :
    pays ((jLog l).take cut) = l.take w ∧ stop ((jLog l).take cut) = (jLog (l.take w)).length ∧ ((jLog l).take cut).take (jLog (l.take w)).length = jLog (l.take w) := by
  have e0 : jLog l = jLog (l.take w) ++ jLog (l.drop w) := by rw [jLog, jLog, jLog, ← List.flatMap_append, List.take_append_drop]
  have e : (jLog l).take cut = jLog (l.take w) ++ (jLog (l.drop w)).take (cut - (jLog (l.take w)).length) := by
    rw [e0, List.take_append, List.take_of_length_le h1]
  have ht : pays ((jLog (l.drop w)).take (cut - (jLog (l.take w)).length)) = [] ∧ stop ((jLog (l.drop w)).take (cut - (jLog (l.take w)).length)) = 0 := by
    by_cases hwl : w < l.length
    · obtain ⟨p, hp⟩ : ∃ p, l[w]? = some p := ⟨_, List.getElem?_eq_getElem hwl⟩
      have hc := h2.resolve_left (by omega)
      rw [take_snoc hp, jLog_snoc, List.length_append, jEnt_length] at hc
      have hd : l.drop w = p :: l.drop (w + 1) := by
        have := List.drop_eq_getElem_cons hwl
        rw [this]
        congr 1
        have := List.getElem?_eq_getElem hwl
        rw [hp] at this
        exact (Option.some.inj this).symm
      rw [hd, jLog_cons, List.take_append, jEnt_length, show cut - (jLog (l.take w)).length - (8 + p.length) = 0 by omega, List.take_zero, List.append_nil]
      exact pays_cut p (h p (List.mem_of_getElem? hp)) _ (by omega)
    · rw [List.drop_eq_nil_of_le (by omega)]
      simp [jLog, pays_nil]
  have hp := pays_log (l.take w) ((jLog (l.drop w)).take (cut - (jLog (l.take w)).length)) fun p hp => h p (List.mem_of_mem_take hp)
  rw [← e, ht.1, ht.2, List.append_nil, Nat.add_zero] at hp
  exact ⟨hp.1, hp.2, by rw [e, List.take_left]⟩

def TrSt (v7 v8 : AVal) (H : List AObj) (l : List (List Int)) (k : Nat) : Prop :=
  (v7 = .nil ∧ v8 = .nil ∧ H = [] ∧ k = 0) ∨ (v7 = .sl 0 (jLog (l.take k)).length 0 (jLog (l.take k)).length ∧ v8 = .sl 1 k 0 k ∧ H = [.arr 1 (bC (jLog (l.take k))), .arr 1 (iC (jEnds l k))] ∧ 0 < k)

set_option maxRecDepth 20000 in
theorem law_JournalTears {P : Program} (F : F_warehouselaw35_JournalTears P) (hR : JRead P F.warehouselaw35_known.journal_Read.id) (hR2 : JRead P F.warehouselaw35_known.journal_Repair.journal_Read.id) (hR3 : JRead P F.journal_Read.id) (hR4 : JRead P F.journal_Repair.journal_Read.id)
    (l : List (List Int)) (at1 : Int) (more : List Int) (_ : l.length ≤ maxLen) (hw2 : ∀ p ∈ l, p.length ≤ maxLen ∧ ∀ x ∈ p, (Lit.int .u8 x).wf = true) (hat : (Lit.int .i64 at1).wf = true) (_ : more.length ≤ maxLen) (hw3 : ∀ x ∈ more, (Lit.int .u8 x).wf = true) :
    ACalls P F.id [.list false 1 (pL l), .int .i64 at1, .list false 1 (bC more)] [] (fun r _ => r = .bool true) := by
  have hl : ∀ p ∈ l, Byt p := fun p hp x hx => bounds_u8 ((hw2 p hp).2 x hx)
  have hm : Byt more := fun x hx => bounds_u8 (hw3 x hx)
  have fin : ∀ H, ACalls P F.warehouselaw35_known.id [] H (fun r H' => r = .bool true ∧ H' = H) := known35_spec F.warehouselaw35_known hR hR2
  have lig : ∀ H, ACalls P F.warehouselaw35_light.id [.list false 1 (pL l)] H (fun r H' => r = .bool (light35 (l.map fun p => (false, p))) ∧ H' = H) := fun H => by
    rw [pL_q]; exact light35_spec F.warehouselaw35_light false _ H
  refine acalls_of_body F.has ?_
  (conv => whnf); refine ACalls.use (lig _) ?_
  (conv => whnf); refine recA (fun h2 => ?_) (fun h2 => ?_)
  · (conv => whnf); refine ACalls.use (fin _) ?_
    conv => whnf
  simp at h2
  obtain ⟨l20, l300⟩ := light_all h2
  (conv => whnf); refine recA (fun h3 => ?_) (fun h3 => ?_)
  · (conv => whnf); refine ACalls.use (fin _) ?_
    conv => whnf
  rw [bC_length] at h3
  simp at h3
  have lb := jLog_bound l300
  have lby := jLog_byt hl
  conv => whnf
  refine ⟨fun m ρ H1 => ∃ (k : Nat) (v7 v8 : AVal), k + m = l.length ∧ TrSt v7 v8 H1 l k ∧
    Sv 116 [(0, .list false 1 (pL l)), (1, .int .i64 at1), (2, .list false 1 (bC more)), (7, v7), (8, v8), (31, .int .i64 l.length), (32, .int .i64 k)] ρ, l.length, [], ?_, ?_⟩
  · exact ⟨0, .nil, .nil, by omega, .inl ⟨rfl, rfl, rfl, rfl⟩, Sv.intro rfl ⟨rfl, rfl, rfl, rfl, rfl, intEq (by rw [pL_length]), rfl, trivial⟩⟩
  rintro m ρ H1 ⟨k, v7, v8, hk, hst, d, rfl⟩
  (conv => whnf); refine recA (fun hlt => ?_) (fun hlt => ?_)
  · simp at hlt
    obtain ⟨p, hp⟩ : ∃ p, l[k]? = some p := ⟨_, List.getElem?_eq_getElem hlt⟩
    have hpm := List.mem_of_getElem? hp
    have hp3 := l300 p hpm
    have hlb := jLog_bound (l := l.take k) fun q hq => l300 q (List.mem_of_mem_take hq)
    rw [List.length_take] at hlb
    have hnx : jLog (l.take (k + 1)) = jLog (l.take k) ++ jEnt p := by rw [take_snoc hp, jLog_snoc]
    (conv => whnf); refine And.intro (by omega) ?_
    (conv => whnf); refine recO (pL_get hp) ?_
    (conv => whnf); refine ACalls.use (ref35_Entry_spec F.warehouseref35_Entry false p (by omega) (hl p hpm) _) ?_
    rcases hst with ⟨rfl, rfl, rfl, rfl⟩ | ⟨rfl, rfl, rfl, hk0⟩
    · (conv => whnf); refine And.intro (⟨roomB_le1 (by simp [bC_length, jEnt_length]; omega), roomB_le (by simp [bC_length, jEnt_length]; omega)⟩) ?_
      try ((conv => whnf); refine recT (Nat.beq_refl _) ?_)
      (conv => whnf); refine And.intro (⟨roomMul (by simp) (by omega), roomB_le (by simp)⟩) ?_
      conv => whnf
      refine ⟨m - 1, by omega, Gp.keep rfl ?_ fun ρ1 h => ⟨1, .sl 0 (jLog (l.take 1)).length 0 (jLog (l.take 1)).length, .sl 1 1 0 1, by omega, .inr ⟨rfl, rfl, ?_, by omega⟩, h⟩⟩
      · exact ⟨rfl, rfl, rfl, slEq (by rw [hnx, bC_length]; rfl) (by rw [hnx, bC_length]; rfl), rfl, rfl, intEq (wrapI _ (by omega) (by omega)), trivial⟩
      · have e : jEnds l 1 = [((bC (jEnt p)).length : Int)] := by rw [jEnds_succ, hnx, bC_length]; rfl
        rw [e, hnx]; rfl
    · (conv => whnf); refine recT (by rw [bC_length]; exact Nat.beq_refl _) ?_
      (conv => whnf); refine And.intro (⟨roomB_le1 (by simp [bC_length, jEnt_length]; omega), roomB_le (by simp [bC_length, jEnt_length]; omega), rfl, by rw [bC_length]⟩) ?_
      try ((conv => whnf); refine recT (Nat.beq_refl _) ?_)
      (conv => whnf); refine recT (by rw [iC_length, jEnds_length]; exact Nat.beq_refl _) ?_
      (conv => whnf); refine And.intro (⟨roomMul (by simp; omega) (by omega), roomB_le (by simp; omega), rfl, by rw [iC_length, jEnds_length]⟩) ?_
      conv => whnf
      have e : bC (jLog (l.take (k + 1))) = bC (jLog (l.take k)) ++ bC (jEnt p) := by rw [hnx, bC_append]
      have e2 : iC (jEnds l (k + 1)) = iC (jEnds l k) ++ [[.int .i64 (((bC (jLog (l.take k)) ++ bC (jEnt p)).length : Nat) : Int)]] := by rw [jEnds_succ, iC_snoc, ← e, bC_length]
      refine ⟨m - 1, by omega, Gp.keep rfl ?_ fun ρ1 h => ⟨k + 1, .sl 0 (jLog (l.take (k + 1))).length 0 (jLog (l.take (k + 1))).length, .sl 1 (k + 1) 0 (k + 1), by omega, .inr ⟨rfl, rfl, ?_, by omega⟩, h⟩⟩
      · exact ⟨rfl, rfl, rfl, slEq (by rw [← e, bC_length]) (by rw [← e, bC_length]), slEq (by simp [iC_length, jEnds_length]) (by simp [iC_length, jEnds_length]), rfl, intEq (wrapI _ (by omega) (by omega)), trivial⟩
      · rw [e, e2]; rfl
  simp at hlt
  have hkl : k = l.length := by omega
  subst hkl
  obtain ⟨cut, hcut⟩ : ∃ cut : Nat, at1 % ((jLog l).length + 1 : Int) = cut := ⟨(at1 % ((jLog l).length + 1 : Int)).toNat, by have := Int.emod_nonneg at1 (show ((jLog l).length + 1 : Int) ≠ 0 by omega); omega⟩
  have hcl : cut ≤ (jLog l).length := by have := Int.emod_lt_of_pos at1 (show (0 : Int) < ((jLog l).length + 1 : Int) by omega); omega
  have pl := fun H => Place_spec F.warehouseworld_Place at1 ((jLog l).length + 1) (by omega) (by omega) H
  rw [hcut] at pl
  have w1 : IntKind.i64.wrap (((jLog l).length : Int) + 1) = (jLog l).length + 1 := wrapI _ (by omega) (by omega)
  rw [TrSt, List.take_of_length_le (Nat.le_refl _)] at hst
  rcases hst with ⟨rfl, rfl, rfl, h0⟩ | ⟨rfl, rfl, rfl, hk0⟩
  · have hn : l = [] := List.eq_nil_of_length_eq_zero h0
    have hn2 : (jLog l).length = 0 := by rw [hn]; rfl
    rw [hn2] at pl
    (conv => whnf); refine ACalls.use (pl _) ?_
    conv => whnf
    refine Ghost.none (n := 116) (live := [(0, .list false 1 (pL l)), (2, .list false 1 (bC more)), (7, .nil), (8, .nil), (10, .int .i64 cut)]) rfl ⟨.closed _ rfl, .closed _ rfl, .closed _ rfl, .closed _ rfl, .closed _ rfl, trivial⟩ ?_
    rintro ρ1 ⟨d, rfl⟩
    conv => whnf
    refine ⟨fun m ρ H1 => ∃ j w : Nat, j + m = l.length ∧ H1 = [] ∧ ((w = j ∧ (jLog (l.take w)).length ≤ cut) ∨ (w < j ∧ (jLog (l.take w)).length ≤ cut ∧ cut < (jLog (l.take (w + 1))).length)) ∧
      Sv 116 [(0, .list false 1 (pL l)), (2, .list false 1 (bC more)), (7, .nil), (10, .int .i64 cut), (11, .int .i64 w), (53, .nil), (54, .int .i64 l.length), (55, .int .i64 j)] ρ, l.length, [], ?_, ?_⟩
    · exact ⟨0, 0, by omega, rfl, .inl ⟨rfl, by simp [jLog]⟩, Sv.intro rfl ⟨rfl, rfl, rfl, rfl, rfl, rfl, intEq (by first | rw [iC_length, jEnds_length] | omega), rfl, trivial⟩⟩
    rintro m2 ρ H1 ⟨j, w, hj, rfl, hws, d, rfl⟩
    (conv => whnf); refine recA (fun hlt => ?_) (fun hlt => ?_)
    · simp at hlt
      omega
    simp at hlt
    have hjl : j = l.length := by omega
    subst hjl
    have hwl : w ≤ l.length := by omega
    have hwc : (jLog (l.take w)).length ≤ cut := by omega
    obtain ⟨hp1, hp2, hp3⟩ := cut_pays (l := l) (fun p hp => by have := l300 p hp; omega) hwl hwc (by omega)
    have hcb : Byt ((jLog l).take cut) := fun x hx => lby x (List.mem_of_mem_take hx)
    have hcl2 : ((jLog l).take cut).length ≤ 7000000 := by rw [List.length_take]; omega
    have hwlb := jLog_bound (l := l.take w) fun q hq => l300 q (List.mem_of_mem_take hq)
    rw [List.length_take] at hwlb
    have hwb : Byt (jLog (l.take w)) := jLog_byt fun p hp => hl p (List.mem_of_mem_take hp)
    have rd1 : ∀ v, LgSt v ((jLog l).take cut) → ∀ H, ACalls P F.journal_Read.id [v] H (fun r H' => r = .tuple [.list false 1 (pL (l.take w)), .int .i64 (jLog (l.take w)).length] ∧ H' = H) := fun v hv H => by
      have := (jread_pays hR3 false _ hcb hcl2 H).weakD (args := [v]) (.cons hv.wk .nil)
      rwa [hp1, hp2] at this
    have rp1 : ∀ v, LgSt v ((jLog l).take cut) → ∀ H, ACalls P F.journal_Repair.id [v] H (fun r H' => r = .list false 1 (bC (jLog (l.take w))) ∧ H' = H) := fun v hv H => by
      have := (jRepair_spec F.journal_Repair hR4 false _ hcl2 hcb H).weakD (args := [v]) (.cons hv.wk .nil)
      rwa [hp2, hp3] at this
    have hpl := pays_log (l.take w ++ [more]) [] (fun p hp => by
      rcases List.mem_append.1 hp with h | h
      · have := l300 p (List.mem_of_mem_take h); omega
      · rw [List.mem_singleton.1 h]; omega)
    rw [List.append_nil, jLog_snoc, pays_nil.1, pays_nil.2, List.append_nil, Nat.add_zero] at hpl
    have hnb : Byt (jLog (l.take w) ++ jEnt more) := byt_app hwb (jEnt_byt hm)
    have hnl : (jLog (l.take w) ++ jEnt more).length ≤ 7000000 := by rw [List.length_append, jEnt_length]; omega
    have ap1 := fun H => jApp_any F.journal_Append (v := .list false 1 (bC (jLog (l.take w)))) (zs := jLog (l.take w)) (.inr rfl) false more (by omega) (by omega) H
    have rd2 := fun H => jread_pays hR3 false (jLog (l.take w) ++ jEnt more) hnb hnl H
    rw [hpl.1, hpl.2] at rd2
    have same1 : ∀ e1 e2 H, ACalls P F.warehouselaw35_same.id [.list e1 1 (pL (l.take w)), .list e2 1 (pL (l.take w))] H (fun r H' => r = .bool true ∧ H' = H) := fun e1 e2 H => by
      have := same35_pL F.warehouselaw35_same e1 e2 (l.take w) (l.take w) (fun p hp => hl p (List.mem_of_mem_take hp)) (fun p hp => hl p (List.mem_of_mem_take hp)) (by rw [List.length_take]; omega) H
      rwa [beq_self_eq_true] at this
    have hbl : ∀ p ∈ l.take w ++ [more], Byt p := fun p hp => by
      rcases List.mem_append.1 hp with h | h
      · exact hl p (List.mem_of_mem_take h)
      · rw [List.mem_singleton.1 h]; exact hm
    have hs2 : List.drop 0 (List.take (w : Int).toNat (pL l)) = pL (l.take w) := by rw [List.drop_zero, Int.toNat_natCast, pL, ← List.map_take]; rfl
    (conv => whnf); refine And.intro (⟨by omega, by omega⟩) ?_
    (conv => whnf); refine ACalls.use (rd1 _ (.inl ⟨rfl, by rw [hn]; simp [jLog]⟩) _) ?_
    (conv => whnf); refine And.intro (⟨by omega, by omega⟩) ?_
    (conv => whnf); refine ACalls.use (rp1 _ (.inl ⟨rfl, by rw [hn]; simp [jLog]⟩) _) ?_
    (conv => whnf); refine ACalls.use (ap1 _) ?_
    (conv => whnf); refine ACalls.use (rd2 _) ?_
    (conv => whnf); refine And.intro (⟨by omega, by show (w : Int) ≤ ((pL l).length : Int); rw [pL_length]; omega⟩) ?_
    conv => whnf
    rw [hs2]
    (conv => whnf); refine ACalls.use (same1 _ _ _) ?_
    (conv => whnf); refine recT (by rw [bC_length]; simp) ?_
    (conv => whnf); refine And.intro (⟨by omega, by show (w : Int) ≤ ((pL l).length : Int); rw [pL_length]; omega⟩) ?_
    conv => whnf
    rw [hs2]
    (conv => whnf); refine And.intro (⟨roomMul (by rw [pL_length, List.length_take]; omega) (by omega), roomB_le (by rw [pL_length, List.length_take]; omega)⟩) ?_
    try ((conv => whnf); refine recT (Nat.beq_refl _) ?_)
    (conv => whnf); refine And.intro (⟨roomMul (by simp [pL_length]; omega) (by omega), roomB_le (by simp [pL_length]; omega), rfl, rfl⟩) ?_
    conv => whnf
    have hE : pL (l.take w) ++ [AVal.list false 1 (bC more)] :: List.replicate 0 [AVal.nil] = pL (l.take w ++ [more]) := by rw [pL_snoc]; rfl
    rw [hE]
    have same2 := ACalls.bor (P := P) (f := F.warehouselaw35_same.id) (H := [.arr 1 (pL (l.take w ++ [more]))]) (R := .bool true) (args := [.list false 1 (pL (l.take w ++ [more])), .sl 0 (pL (l.take w ++ [more])).length 0 (pL (l.take w ++ [more])).length]) (bs := [.list false 1 (pL (l.take w ++ [more])), .list false 1 (pL (l.take w ++ [more]))]) rfl (by
      have := same35_pL F.warehouselaw35_same false false (l.take w ++ [more]) (l.take w ++ [more]) hbl hbl (by rw [List.length_append, List.length_take, List.length_singleton]; omega) []
      rw [beq_self_eq_true] at this
      exact this.mono fun _ _ h => h.1) (.cons (.same _ rfl) (.cons (lentSl rfl rfl rfl (pureEs_pL _)) .nil))
    (conv => whnf); refine ACalls.use (same2) ?_
    (conv => whnf); refine ACalls.use (fin _) ?_
    conv => whnf
  · (conv => whnf); refine recT (by rw [bC_length]; exact Nat.beq_refl _) ?_
    conv => whnf
    rw [w1]
    (conv => whnf); refine ACalls.use (pl _) ?_
    conv => whnf
    refine Ghost.none (n := 116) (live := [(0, .list false 1 (pL l)), (2, .list false 1 (bC more)), (7, .list false 1 (bC (jLog l))), (8, .list false 1 (iC (jEnds l l.length))), (10, .int .i64 cut)]) rfl ⟨.closed _ rfl, .closed _ rfl, pubF rfl (by rw [bC_length]) (by rw [bC_length]) (pureEs_bC _), pubF rfl (by rw [iC_length, jEnds_length]) (by rw [iC_length, jEnds_length]) (pureEs_iC _), .closed _ rfl, trivial⟩ ?_
    rintro ρ1 ⟨d, rfl⟩
    conv => whnf
    refine ⟨fun m ρ H1 => ∃ j w : Nat, j + m = l.length ∧ H1 = [] ∧ ((w = j ∧ (jLog (l.take w)).length ≤ cut) ∨ (w < j ∧ (jLog (l.take w)).length ≤ cut ∧ cut < (jLog (l.take (w + 1))).length)) ∧
      Sv 116 [(0, .list false 1 (pL l)), (2, .list false 1 (bC more)), (7, (.list false 1 (bC (jLog l)))), (10, .int .i64 cut), (11, .int .i64 w), (53, (.list false 1 (iC (jEnds l l.length)))), (54, .int .i64 l.length), (55, .int .i64 j)] ρ, l.length, [], ?_, ?_⟩
    · exact ⟨0, 0, by omega, rfl, .inl ⟨rfl, by simp [jLog]⟩, Sv.intro rfl ⟨rfl, rfl, rfl, rfl, rfl, rfl, intEq (by first | rw [iC_length, jEnds_length] | omega), rfl, trivial⟩⟩
    rintro m2 ρ H1 ⟨j, w, hj, rfl, hws, d, rfl⟩
    (conv => whnf); refine recA (fun hlt => ?_) (fun hlt => ?_)
    · simp at hlt
      have hj : j < l.length := by omega
      (conv => whnf); refine And.intro (by omega) ?_
      (conv => whnf); refine recO (iC_get2 (jEnds_get l hj)) ?_
      (conv => whnf); refine recA (fun hc => ?_) (fun hc => ?_)
      · replace hc : decide (((jLog (l.take (j + 1))).length : Int) ≤ (cut : Int)) = true := hc
        simp at hc
        conv => whnf
        refine ⟨m2 - 1, by omega, Gp.keep rfl ?_ fun ρ1 h => ⟨j + 1, w + 1, by omega, rfl, ?_, h⟩⟩
        · exact ⟨rfl, rfl, rfl, rfl, intEq (wrapI _ (by omega) (by omega)), rfl, rfl, intEq (wrapI _ (by omega) (by omega)), trivial⟩
        · rcases hws with ⟨rfl, _⟩ | ⟨h1, h2, h4⟩
          · exact .inl ⟨rfl, hc⟩
          · have := jLog_mono l (show w + 1 ≤ j + 1 by omega)
            omega
      · replace hc : decide (((jLog (l.take (j + 1))).length : Int) ≤ (cut : Int)) = false := hc
        simp at hc
        conv => whnf
        refine ⟨m2 - 1, by omega, Gp.keep rfl ?_ fun ρ1 h => ⟨j + 1, w, by omega, rfl, ?_, h⟩⟩
        · exact ⟨rfl, rfl, rfl, rfl, rfl, rfl, rfl, intEq (wrapI _ (by omega) (by omega)), trivial⟩
        · rcases hws with ⟨rfl, hc2⟩ | ⟨h1, h2, h4⟩
          · exact .inr ⟨by omega, hc2, hc⟩
          · exact .inr ⟨by omega, h2, h4⟩
    simp at hlt
    have hjl : j = l.length := by omega
    subst hjl
    have hwl : w ≤ l.length := by omega
    have hwc : (jLog (l.take w)).length ≤ cut := by omega
    obtain ⟨hp1, hp2, hp3⟩ := cut_pays (l := l) (fun p hp => by have := l300 p hp; omega) hwl hwc (by omega)
    have hcb : Byt ((jLog l).take cut) := fun x hx => lby x (List.mem_of_mem_take hx)
    have hcl2 : ((jLog l).take cut).length ≤ 7000000 := by rw [List.length_take]; omega
    have hwlb := jLog_bound (l := l.take w) fun q hq => l300 q (List.mem_of_mem_take hq)
    rw [List.length_take] at hwlb
    have hwb : Byt (jLog (l.take w)) := jLog_byt fun p hp => hl p (List.mem_of_mem_take hp)
    have rd1 : ∀ v, LgSt v ((jLog l).take cut) → ∀ H, ACalls P F.journal_Read.id [v] H (fun r H' => r = .tuple [.list false 1 (pL (l.take w)), .int .i64 (jLog (l.take w)).length] ∧ H' = H) := fun v hv H => by
      have := (jread_pays hR3 false _ hcb hcl2 H).weakD (args := [v]) (.cons hv.wk .nil)
      rwa [hp1, hp2] at this
    have rp1 : ∀ v, LgSt v ((jLog l).take cut) → ∀ H, ACalls P F.journal_Repair.id [v] H (fun r H' => r = .list false 1 (bC (jLog (l.take w))) ∧ H' = H) := fun v hv H => by
      have := (jRepair_spec F.journal_Repair hR4 false _ hcl2 hcb H).weakD (args := [v]) (.cons hv.wk .nil)
      rwa [hp2, hp3] at this
    have hpl := pays_log (l.take w ++ [more]) [] (fun p hp => by
      rcases List.mem_append.1 hp with h | h
      · have := l300 p (List.mem_of_mem_take h); omega
      · rw [List.mem_singleton.1 h]; omega)
    rw [List.append_nil, jLog_snoc, pays_nil.1, pays_nil.2, List.append_nil, Nat.add_zero] at hpl
    have hnb : Byt (jLog (l.take w) ++ jEnt more) := byt_app hwb (jEnt_byt hm)
    have hnl : (jLog (l.take w) ++ jEnt more).length ≤ 7000000 := by rw [List.length_append, jEnt_length]; omega
    have ap1 := fun H => jApp_any F.journal_Append (v := .list false 1 (bC (jLog (l.take w)))) (zs := jLog (l.take w)) (.inr rfl) false more (by omega) (by omega) H
    have rd2 := fun H => jread_pays hR3 false (jLog (l.take w) ++ jEnt more) hnb hnl H
    rw [hpl.1, hpl.2] at rd2
    have same1 : ∀ e1 e2 H, ACalls P F.warehouselaw35_same.id [.list e1 1 (pL (l.take w)), .list e2 1 (pL (l.take w))] H (fun r H' => r = .bool true ∧ H' = H) := fun e1 e2 H => by
      have := same35_pL F.warehouselaw35_same e1 e2 (l.take w) (l.take w) (fun p hp => hl p (List.mem_of_mem_take hp)) (fun p hp => hl p (List.mem_of_mem_take hp)) (by rw [List.length_take]; omega) H
      rwa [beq_self_eq_true] at this
    have hbl : ∀ p ∈ l.take w ++ [more], Byt p := fun p hp => by
      rcases List.mem_append.1 hp with h | h
      · exact hl p (List.mem_of_mem_take h)
      · rw [List.mem_singleton.1 h]; exact hm
    have hs2 : List.drop 0 (List.take (w : Int).toNat (pL l)) = pL (l.take w) := by rw [List.drop_zero, Int.toNat_natCast, pL, ← List.map_take]; rfl
    (conv => whnf); refine And.intro (⟨by omega, by rw [bC_length]; omega⟩) ?_
    (conv => whnf); refine ACalls.use (rd1 _ (.inr (by rw [slice_bC]; rfl)) _) ?_
    (conv => whnf); refine And.intro (⟨by omega, by rw [bC_length]; omega⟩) ?_
    (conv => whnf); refine ACalls.use (rp1 _ (.inr (by rw [slice_bC]; rfl)) _) ?_
    (conv => whnf); refine ACalls.use (ap1 _) ?_
    (conv => whnf); refine ACalls.use (rd2 _) ?_
    (conv => whnf); refine And.intro (⟨by omega, by show (w : Int) ≤ ((pL l).length : Int); rw [pL_length]; omega⟩) ?_
    conv => whnf
    rw [hs2]
    (conv => whnf); refine ACalls.use (same1 _ _ _) ?_
    (conv => whnf); refine recT (by rw [bC_length]; simp) ?_
    (conv => whnf); refine And.intro (⟨by omega, by show (w : Int) ≤ ((pL l).length : Int); rw [pL_length]; omega⟩) ?_
    conv => whnf
    rw [hs2]
    (conv => whnf); refine And.intro (⟨roomMul (by rw [pL_length, List.length_take]; omega) (by omega), roomB_le (by rw [pL_length, List.length_take]; omega)⟩) ?_
    try ((conv => whnf); refine recT (Nat.beq_refl _) ?_)
    (conv => whnf); refine And.intro (⟨roomMul (by simp [pL_length]; omega) (by omega), roomB_le (by simp [pL_length]; omega), rfl, rfl⟩) ?_
    conv => whnf
    have hE : pL (l.take w) ++ [AVal.list false 1 (bC more)] :: List.replicate 0 [AVal.nil] = pL (l.take w ++ [more]) := by rw [pL_snoc]; rfl
    rw [hE]
    have same2 := ACalls.bor (P := P) (f := F.warehouselaw35_same.id) (H := [.arr 1 (pL (l.take w ++ [more]))]) (R := .bool true) (args := [.list false 1 (pL (l.take w ++ [more])), .sl 0 (pL (l.take w ++ [more])).length 0 (pL (l.take w ++ [more])).length]) (bs := [.list false 1 (pL (l.take w ++ [more])), .list false 1 (pL (l.take w ++ [more]))]) rfl (by
      have := same35_pL F.warehouselaw35_same false false (l.take w ++ [more]) (l.take w ++ [more]) hbl hbl (by rw [List.length_append, List.length_take, List.length_singleton]; omega) []
      rw [beq_self_eq_true] at this
      exact this.mono fun _ _ h => h.1) (.cons (.same _ rfl) (.cons (lentSl rfl rfl rfl (pureEs_pL _)) .nil))
    (conv => whnf); refine ACalls.use (same2) ?_
    (conv => whnf); refine ACalls.use (fin _) ?_
    conv => whnf

end Go.AW

