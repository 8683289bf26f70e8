/-
  An abstract machine over the model, the code of functions on it, and their contracts: what the claim needs.
  No condition: definitions, plain laws, contracts over any program that has this code.
-/
import Derived.Test.YtgmobjimfalhoaaGreatZ8
set_option linter.all false
namespace Go.AW
variable [Draws]
attribute [local irreducible] ACalls
section
variable {P : Program}
theorem applyE (F : F_window_Apply P) (hQ : SortW P F) (hS : SortL P F.bag_Normalize) (its : List Itm) (is asv : List Int) (b : List Ent) (he : ∀ x ∈ its, x.es = []) (hI : its.length ≤ 1000) (hi : is.length ≤ 10000) (hA : asv.length ≤ 1000000) (H : List AObj) :
    ACalls P F.id [.list false 5 (imN its), .list false 1 (iC is), .nil, .list false 1 (iC asv), .list false 2 (eC b)] H (fun r H' => r = rV (refP its is [] asv b) ∧ H' = H) :=
  ACalls.weakD (window_Apply_w F hQ hS false false false false false its is [] asv b hI hi (by simp) hA H)
    (.cons (wk_items _ _ he) (.cons (.refl _) (.cons (.nil _ _) (.cons (.refl _) (.cons (.refl _) .nil)))))

theorem applyR (F : F_warehouseref17_Apply P) (its : List Itm) (is asv : List Int) (b : List Ent) (he : ∀ x ∈ its, x.es = []) (hI : its.length ≤ 1000) (hi : is.length ≤ 10000) (hA : asv.length ≤ 1000000) (H : List AObj) :
    ACalls P F.id [.list false 5 (imN its), .list false 1 (iC is), .nil, .list false 1 (iC asv), .list false 2 (eC b)] H (fun r H' => r = rV (refP its is [] asv b) ∧ H' = H) :=
  ACalls.weakD (ref17_Apply_w F false false false false false its is [] asv b hI hi (by simp) hA H)
    (.cons (wk_items _ _ he) (.cons (.refl _) (.cons (.nil _ _) (.cons (.refl _) (.cons (.refl _) .nil)))))

end
theorem imN_length (l : List Itm) : (imN l).length = l.length := List.length_map ..

theorem pubFx {H1 : List AObj} {n : Nat} {id ep len sz : Nat} {es es' : List (List AVal)} (ho : H1[id]? = some (.arr sz es')) (hx : es' = es) (he : ep = es.length) (hl : len = es.length) (hp : pureEs es = true) : Pub H1 n [] (.sl id ep 0 len) (.list false sz es) := by
  subst hx; exact pubF ho he hl hp

theorem pubTk {H1 : List AObj} {n id c k : Nat} {l : List Int} (ho : H1[id]? = some (.arr 1 (iC l))) (hc : c = l.length) : Pub H1 n [] (.sl id c 0 k) (.list false 1 (iC (l.take k))) := by
  have hf := Pub.frz (H1 := H1) (n := n) (ids := []) id c 0 k 1 (iC l) ho (by rw [iC_length, hc]) (pureEs_iC _) (by simp)
  have e9 : ((iC l).drop 0).take k = iC (l.take k) := by rw [List.drop_zero, iC, iC, List.map_take]
  rw [e9] at hf
  exact hf

set_option maxHeartbeats 1000000 in
set_option maxRecDepth 20000 in
theorem law_WindowErrors {P : Program} (F : F_warehouselaw18_WindowErrors P) (hS : SortL P F.window_Apply.bag_Normalize) (hQ : SortW P F.window_Apply) (hS2 : SortL P F.warehouselaw18_known.window_Apply.bag_Normalize) (hQ2 : SortW P F.warehouselaw18_known.window_Apply)
    (l : List Int) (n m : Int) :
    ACalls P F.id [.list false 1 (iC l), .int .i64 n, .int .i64 m] [] (fun q _ => q = .bool true) := by
  have known := fun H => known18_spec F.warehouselaw18_known hS2 hQ2 H
  obtain ⟨k, hk, e7⟩ := and7 n
  have e8 : IntKind.i64.wrap (1 + and64 n 7) = ((k + 1 : Nat) : Int) := by rw [e7, wrapI _ (by omega) (by omega)]; omega
  have tb := fun H => table18_own F.warehouselaw18_table l (k + 1) (by omega) H
  rw [← e8] at tb
  have it := fun H => items18_own F.warehouselaw18_items m H
  have c3 := cnt18_le m
  have a1 := plc18_len (n.fdiv (2 ^ 10))
  have p10 := fun H => places18_spec F.warehouselaw18_places (n.fdiv (2 ^ 10)) H
  have hil := its18_length m
  have hal := ags18_length m
  have hie : ∀ x ∈ its18 m, x.es = [] := fun x hx => by obtain ⟨i, _, rfl⟩ := List.mem_map.1 hx; rfl
  have hne := tab18_ne l (n := k + 1) (by omega) (by omega)
  generalize htab : tab18 l (k + 1) = tab at *
  generalize hits : its18 m = its at *
  generalize hags : ags18 m = ags at *
  generalize hcnt : cnt18 m = c at *
  obtain ⟨x0, xs, rfl⟩ : ∃ x0 xs, its = x0 :: xs := by
    cases its with
    | nil => simp at hil; omega
    | cons x xs => exact ⟨x, xs, rfl⟩
  obtain ⟨a0, asv, rfl⟩ : ∃ a0 asv, ags = a0 :: asv := by
    cases ags with
    | nil => simp at hal; omega
    | cons x xs => exact ⟨x, xs, rfl⟩
  obtain ⟨t0, ts, rfl⟩ : ∃ t0 ts, tab = t0 :: ts := by
    cases tab with
    | nil => simp at hne
    | cons x xs => exact ⟨x, xs, rfl⟩
  rw [List.length_cons] at hil hal
  refine acalls_of_body F.has ?_
  conv => whnf
  refine ACalls.retH (tb _) ?_
  conv => whnf
  refine ACalls.retH (it _) ?_
  (conv => whnf); refine And.intro (by decide) ?_
  (conv => whnf); refine recA (fun h0 => ?_) (fun h0 => ?_)
  · (conv => whnf); refine And.intro (by decide) ?_
    (conv => whnf); refine recT (by rw [imN_length, List.length_cons, hil]; exact Nat.beq_refl _) ?_
    (conv => whnf); refine And.intro (by omega) ?_
    (conv => whnf); refine recT (by rw [imN_length, List.length_cons, hil]; exact Nat.beq_refl _) ?_
    conv => whnf
    refine Ghost.none (n := 114) (live := [(1, .int .i64 n), (7, .list false 2 (eC (t0 :: ts))), (8, .list false 5 (imN (⟨x0.nm, and64 (n.fdiv (2 ^ 6)) 15, x0.cl, x0.n, x0.ex, x0.z, x0.es⟩ :: xs))), (9, .list false 1 (iC (a0 :: asv)))]) rfl ⟨.closed _ rfl, ?_, ?_, ?_, trivial⟩ ?_
    · exact pubF rfl (eC_length _).symm (eC_length _).symm (pureEs_eC _)
    · exact pubFx rfl (by rw [setEs_eq]; rfl) (by rw [imN_length, List.length_cons, hil]) (by rw [imN_length, List.length_cons, hil]) (pureEs_imN _)
    · exact pubF rfl (by rw [iC_length, List.length_cons, hal]) (by rw [iC_length, List.length_cons, hal]) (pureEs_iC _)
    have hE : ∀ x ∈ ((⟨x0.nm, and64 (n.fdiv (2 ^ 6)) 15, x0.cl, x0.n, x0.ex, x0.z, x0.es⟩ : Itm) :: xs), x.es = [] := fun x hx => by
      rcases List.mem_cons.1 hx with rfl | hx
      · exact hie x0 (List.mem_cons_self ..)
      · exact hie x (List.mem_cons_of_mem _ hx)
    have hL1 : ((⟨x0.nm, and64 (n.fdiv (2 ^ 6)) 15, x0.cl, x0.n, x0.ex, x0.z, x0.es⟩ : Itm) :: xs).length ≤ 1000 := by rw [List.length_cons]; omega
    have hL2 : (a0 :: asv).length ≤ 1000000 := by rw [List.length_cons]; omega
    rintro ρ ⟨d, rfl⟩
    (conv => whnf); refine And.intro (by decide) ?_
    (conv => whnf); refine ACalls.use (p10 _) ?_
    (conv => whnf); refine ACalls.use (applyE F.window_Apply hQ hS (⟨x0.nm, and64 (n.fdiv (2 ^ 6)) 15, x0.cl, x0.n, x0.ex, x0.z, x0.es⟩ :: xs) (plc18 (n.fdiv (2 ^ 10))) (a0 :: asv) (t0 :: ts) hE hL1 (by omega) hL2 _) ?_
    (conv => whnf); refine And.intro (by decide) ?_
    (conv => whnf); refine ACalls.use (p10 _) ?_
    (conv => whnf); refine ACalls.use (applyR F.warehouseref17_Apply (⟨x0.nm, and64 (n.fdiv (2 ^ 6)) 15, x0.cl, x0.n, x0.ex, x0.z, x0.es⟩ :: xs) (plc18 (n.fdiv (2 ^ 10))) (a0 :: asv) (t0 :: ts) hE hL1 (by omega) hL2 _) ?_
    have hg := refP_good (⟨x0.nm, and64 (n.fdiv (2 ^ 6)) 15, x0.cl, x0.n, x0.ex, x0.z, x0.es⟩ :: xs) (plc18 (n.fdiv (2 ^ 10))) [] (a0 :: asv) (t0 :: ts)
    generalize refP (⟨x0.nm, and64 (n.fdiv (2 ^ 6)) 15, x0.cl, x0.n, x0.ex, x0.z, x0.es⟩ :: xs) (plc18 (n.fdiv (2 ^ 10))) [] (a0 :: asv) (t0 :: ts) = p at *
    have hbl := bag_len hg.1
    obtain ⟨o, e⟩ := p
    have hrows := fun x hx => (bag_rowOk hg.1 x hx).1
    simp only [] at hbl hrows
    (conv => whnf); refine ACalls.use (ref6_Same_spec F.warehouseref6_Same false false o o (by omega) (fun x hx => by have := hrows x hx; omega) _) ?_
    (conv => whnf); refine recT (eqD_true rfl) ?_
    (conv => whnf); refine recT (by simp) ?_
    (conv => whnf); refine ACalls.use (known _) ?_
    conv => whnf
  (conv => whnf); refine recA (fun h1 => ?_) (fun h1 => ?_)
  · (conv => whnf); refine And.intro (by decide) ?_
    (conv => whnf); refine recT (by rw [imN_length, List.length_cons, hil]; exact Nat.beq_refl _) ?_
    (conv => whnf); refine And.intro (by omega) ?_
    (conv => whnf); refine recT (by rw [imN_length, List.length_cons, hil]; exact Nat.beq_refl _) ?_
    conv => whnf
    refine Ghost.none (n := 114) (live := [(1, .int .i64 n), (7, .list false 2 (eC (t0 :: ts))), (8, .list false 5 (imN (⟨x0.nm, x0.f, x0.cl, IntKind.i64.wrap (and64 (n.fdiv (2 ^ 6)) 15 - 3), x0.ex, x0.z, x0.es⟩ :: xs))), (9, .list false 1 (iC (a0 :: asv)))]) rfl ⟨.closed _ rfl, ?_, ?_, ?_, trivial⟩ ?_
    · exact pubF rfl (eC_length _).symm (eC_length _).symm (pureEs_eC _)
    · exact pubFx rfl (by rw [setEs_eq]; rfl) (by rw [imN_length, List.length_cons, hil]) (by rw [imN_length, List.length_cons, hil]) (pureEs_imN _)
    · exact pubF rfl (by rw [iC_length, List.length_cons, hal]) (by rw [iC_length, List.length_cons, hal]) (pureEs_iC _)
    have hE : ∀ x ∈ (⟨x0.nm, x0.f, x0.cl, IntKind.i64.wrap (and64 (n.fdiv (2 ^ 6)) 15 - 3), x0.ex, x0.z, x0.es⟩ :: xs : List Itm), x.es = [] := fun x hx => by rcases List.mem_cons.1 hx with rfl | hx; exact hie x0 (List.mem_cons_self ..); exact hie x (List.mem_cons_of_mem _ hx)
    have hL1 : (⟨x0.nm, x0.f, x0.cl, IntKind.i64.wrap (and64 (n.fdiv (2 ^ 6)) 15 - 3), x0.ex, x0.z, x0.es⟩ :: xs : List Itm).length ≤ 1000 := by rw [List.length_cons]; omega
    have hL2 : (a0 :: asv : List Int).length ≤ 1000000 := by rw [List.length_cons]; omega
    rintro ρ ⟨d, rfl⟩
    (conv => whnf); refine And.intro (by decide) ?_
    (conv => whnf); refine ACalls.use (p10 _) ?_
    (conv => whnf); refine ACalls.use (applyE F.window_Apply hQ hS (⟨x0.nm, x0.f, x0.cl, IntKind.i64.wrap (and64 (n.fdiv (2 ^ 6)) 15 - 3), x0.ex, x0.z, x0.es⟩ :: xs) (plc18 (n.fdiv (2 ^ 10))) (a0 :: asv) (t0 :: ts) hE hL1 (by omega) hL2 _) ?_
    (conv => whnf); refine And.intro (by decide) ?_
    (conv => whnf); refine ACalls.use (p10 _) ?_
    (conv => whnf); refine ACalls.use (applyR F.warehouseref17_Apply (⟨x0.nm, x0.f, x0.cl, IntKind.i64.wrap (and64 (n.fdiv (2 ^ 6)) 15 - 3), x0.ex, x0.z, x0.es⟩ :: xs) (plc18 (n.fdiv (2 ^ 10))) (a0 :: asv) (t0 :: ts) hE hL1 (by omega) hL2 _) ?_
    have hg := refP_good (⟨x0.nm, x0.f, x0.cl, IntKind.i64.wrap (and64 (n.fdiv (2 ^ 6)) 15 - 3), x0.ex, x0.z, x0.es⟩ :: xs) (plc18 (n.fdiv (2 ^ 10))) [] (a0 :: asv) (t0 :: ts)
    generalize refP (⟨x0.nm, x0.f, x0.cl, IntKind.i64.wrap (and64 (n.fdiv (2 ^ 6)) 15 - 3), x0.ex, x0.z, x0.es⟩ :: xs) (plc18 (n.fdiv (2 ^ 10))) [] (a0 :: asv) (t0 :: ts) = p at *
    have hbl := bag_len hg.1
    obtain ⟨o, e⟩ := p
    have hrows := fun x hx => (bag_rowOk hg.1 x hx).1
    simp only [] at hbl hrows
    (conv => whnf); refine ACalls.use (ref6_Same_spec F.warehouseref6_Same false false o o (by omega) (fun x hx => by have := hrows x hx; omega) _) ?_
    (conv => whnf); refine recT (eqD_true rfl) ?_
    (conv => whnf); refine recT (by simp) ?_
    (conv => whnf); refine ACalls.use (known _) ?_
    conv => whnf
  (conv => whnf); refine recA (fun h2 => ?_) (fun h2 => ?_)
  · have ec1 : IntKind.i64.wrap ((c : Int) - 1) = ((c - 1 : Nat) : Int) := by rw [wrapI _ (by omega) (by omega)]; omega
    (conv => whnf); refine recT (by rw [iC_length, List.length_cons, hal]; exact Nat.beq_refl _) ?_
    conv => whnf
    rw [ec1]
    (conv => whnf); refine recT (by rw [iC_length, List.length_cons, hal]; exact Nat.beq_refl _) ?_
    (conv => whnf); refine And.intro (by omega) ?_
    conv => whnf
    refine Ghost.none (n := 114) (live := [(1, .int .i64 n), (7, .list false 2 (eC (t0 :: ts))), (8, .list false 5 (imN (x0 :: xs))), (9, .list false 1 (iC ((a0 :: asv).take (c - 1))))]) rfl ⟨.closed _ rfl, ?_, ?_, ?_, trivial⟩ ?_
    · exact pubF rfl (eC_length _).symm (eC_length _).symm (pureEs_eC _)
    · exact pubF rfl (by rw [imN_length, List.length_cons, hil]) (by rw [imN_length, List.length_cons, hil]) (pureEs_imN _)
    · exact pubTk (k := c - 1) rfl (by rw [List.length_cons, hal])
    have hE : ∀ x ∈ (x0 :: xs : List Itm), x.es = [] := fun x hx => hie x hx
    have hL1 : (x0 :: xs : List Itm).length ≤ 1000 := by rw [List.length_cons]; omega
    have hL2 : ((a0 :: asv).take (c - 1) : List Int).length ≤ 1000000 := by rw [List.length_take, List.length_cons]; omega
    rintro ρ ⟨d, rfl⟩
    (conv => whnf); refine And.intro (by decide) ?_
    (conv => whnf); refine ACalls.use (p10 _) ?_
    (conv => whnf); refine ACalls.use (applyE F.window_Apply hQ hS (x0 :: xs) (plc18 (n.fdiv (2 ^ 10))) ((a0 :: asv).take (c - 1)) (t0 :: ts) hE hL1 (by omega) hL2 _) ?_
    (conv => whnf); refine And.intro (by decide) ?_
    (conv => whnf); refine ACalls.use (p10 _) ?_
    (conv => whnf); refine ACalls.use (applyR F.warehouseref17_Apply (x0 :: xs) (plc18 (n.fdiv (2 ^ 10))) ((a0 :: asv).take (c - 1)) (t0 :: ts) hE hL1 (by omega) hL2 _) ?_
    have hg := refP_good (x0 :: xs) (plc18 (n.fdiv (2 ^ 10))) [] ((a0 :: asv).take (c - 1)) (t0 :: ts)
    generalize refP (x0 :: xs) (plc18 (n.fdiv (2 ^ 10))) [] ((a0 :: asv).take (c - 1)) (t0 :: ts) = p at *
    have hbl := bag_len hg.1
    obtain ⟨o, e⟩ := p
    have hrows := fun x hx => (bag_rowOk hg.1 x hx).1
    simp only [] at hbl hrows
    (conv => whnf); refine ACalls.use (ref6_Same_spec F.warehouseref6_Same false false o o (by omega) (fun x hx => by have := hrows x hx; omega) _) ?_
    (conv => whnf); refine recT (eqD_true rfl) ?_
    (conv => whnf); refine recT (by simp) ?_
    (conv => whnf); refine ACalls.use (known _) ?_
    conv => whnf
  (conv => whnf); refine recA (fun h3 => ?_) (fun h3 => ?_)
  · (conv => whnf); refine And.intro (by decide) ?_
    (conv => whnf); refine recT (by rw [iC_length, List.length_cons, hal]; exact Nat.beq_refl _) ?_
    (conv => whnf); refine And.intro (by omega) ?_
    (conv => whnf); refine recT (by rw [iC_length, List.length_cons, hal]; exact Nat.beq_refl _) ?_
    conv => whnf
    refine Ghost.none (n := 114) (live := [(1, .int .i64 n), (7, .list false 2 (eC (t0 :: ts))), (8, .list false 5 (imN (x0 :: xs))), (9, .list false 1 (iC (IntKind.i64.wrap (and64 (n.fdiv (2 ^ 6)) 3 - 1) :: asv)))]) rfl ⟨.closed _ rfl, ?_, ?_, ?_, trivial⟩ ?_
    · exact pubF rfl (eC_length _).symm (eC_length _).symm (pureEs_eC _)
    · exact pubF rfl (by rw [imN_length, List.length_cons, hil]) (by rw [imN_length, List.length_cons, hil]) (pureEs_imN _)
    · exact pubFx rfl (by rw [setEs_eq]; rfl) (by rw [iC_length, List.length_cons, hal]) (by rw [iC_length, List.length_cons, hal]) (pureEs_iC _)
    have hE : ∀ x ∈ (x0 :: xs : List Itm), x.es = [] := fun x hx => hie x hx
    have hL1 : (x0 :: xs : List Itm).length ≤ 1000 := by rw [List.length_cons]; omega
    have hL2 : (IntKind.i64.wrap (and64 (n.fdiv (2 ^ 6)) 3 - 1) :: asv : List Int).length ≤ 1000000 := by rw [List.length_cons]; omega
    rintro ρ ⟨d, rfl⟩
    (conv => whnf); refine And.intro (by decide) ?_
    (conv => whnf); refine ACalls.use (p10 _) ?_
    (conv => whnf); refine ACalls.use (applyE F.window_Apply hQ hS (x0 :: xs) (plc18 (n.fdiv (2 ^ 10))) (IntKind.i64.wrap (and64 (n.fdiv (2 ^ 6)) 3 - 1) :: asv) (t0 :: ts) hE hL1 (by omega) hL2 _) ?_
    (conv => whnf); refine And.intro (by decide) ?_
    (conv => whnf); refine ACalls.use (p10 _) ?_
    (conv => whnf); refine ACalls.use (applyR F.warehouseref17_Apply (x0 :: xs) (plc18 (n.fdiv (2 ^ 10))) (IntKind.i64.wrap (and64 (n.fdiv (2 ^ 6)) 3 - 1) :: asv) (t0 :: ts) hE hL1 (by omega) hL2 _) ?_
    have hg := refP_good (x0 :: xs) (plc18 (n.fdiv (2 ^ 10))) [] (IntKind.i64.wrap (and64 (n.fdiv (2 ^ 6)) 3 - 1) :: asv) (t0 :: ts)
    generalize refP (x0 :: xs) (plc18 (n.fdiv (2 ^ 10))) [] (IntKind.i64.wrap (and64 (n.fdiv (2 ^ 6)) 3 - 1) :: asv) (t0 :: ts) = p at *
    have hbl := bag_len hg.1
    obtain ⟨o, e⟩ := p
    have hrows := fun x hx => (bag_rowOk hg.1 x hx).1
    simp only [] at hbl hrows
    (conv => whnf); refine ACalls.use (ref6_Same_spec F.warehouseref6_Same false false o o (by omega) (fun x hx => by have := hrows x hx; omega) _) ?_
    (conv => whnf); refine recT (eqD_true rfl) ?_
    (conv => whnf); refine recT (by simp) ?_
    (conv => whnf); refine ACalls.use (known _) ?_
    conv => whnf
  (conv => whnf); refine recA (fun h4 => ?_) (fun h4 => ?_)
  · (conv => whnf); refine recT (by rw [eC_length]; exact Nat.beq_refl _) ?_
    (conv => whnf); refine And.intro (by rw [List.length_cons]; omega) ?_
    (conv => whnf); refine recT (by rw [eC_length]; exact Nat.beq_refl _) ?_
    conv => whnf
    refine Ghost.none (n := 114) (live := [(1, .int .i64 n), (7, .list false 2 (eC ((⟨t0.row, -1⟩ : Ent) :: ts))), (8, .list false 5 (imN (x0 :: xs))), (9, .list false 1 (iC (a0 :: asv)))]) rfl ⟨.closed _ rfl, ?_, ?_, ?_, trivial⟩ ?_
    · exact pubFx rfl (by rw [setEs_eq]; rfl) (eC_length _).symm (eC_length _).symm (pureEs_eC _)
    · exact pubF rfl (by rw [imN_length, List.length_cons, hil]) (by rw [imN_length, List.length_cons, hil]) (pureEs_imN _)
    · exact pubF rfl (by rw [iC_length, List.length_cons, hal]) (by rw [iC_length, List.length_cons, hal]) (pureEs_iC _)
    have hE : ∀ x ∈ (x0 :: xs : List Itm), x.es = [] := fun x hx => hie x hx
    have hL1 : (x0 :: xs : List Itm).length ≤ 1000 := by rw [List.length_cons]; omega
    have hL2 : (a0 :: asv : List Int).length ≤ 1000000 := by rw [List.length_cons]; omega
    rintro ρ ⟨d, rfl⟩
    (conv => whnf); refine And.intro (by decide) ?_
    (conv => whnf); refine ACalls.use (p10 _) ?_
    (conv => whnf); refine ACalls.use (applyE F.window_Apply hQ hS (x0 :: xs) (plc18 (n.fdiv (2 ^ 10))) (a0 :: asv) ((⟨t0.row, -1⟩ : Ent) :: ts) hE hL1 (by omega) hL2 _) ?_
    (conv => whnf); refine And.intro (by decide) ?_
    (conv => whnf); refine ACalls.use (p10 _) ?_
    (conv => whnf); refine ACalls.use (applyR F.warehouseref17_Apply (x0 :: xs) (plc18 (n.fdiv (2 ^ 10))) (a0 :: asv) ((⟨t0.row, -1⟩ : Ent) :: ts) hE hL1 (by omega) hL2 _) ?_
    have hg := refP_good (x0 :: xs) (plc18 (n.fdiv (2 ^ 10))) [] (a0 :: asv) ((⟨t0.row, -1⟩ : Ent) :: ts)
    generalize refP (x0 :: xs) (plc18 (n.fdiv (2 ^ 10))) [] (a0 :: asv) ((⟨t0.row, -1⟩ : Ent) :: ts) = p at *
    have hbl := bag_len hg.1
    obtain ⟨o, e⟩ := p
    have hrows := fun x hx => (bag_rowOk hg.1 x hx).1
    simp only [] at hbl hrows
    (conv => whnf); refine ACalls.use (ref6_Same_spec F.warehouseref6_Same false false o o (by omega) (fun x hx => by have := hrows x hx; omega) _) ?_
    (conv => whnf); refine recT (eqD_true rfl) ?_
    (conv => whnf); refine recT (by simp) ?_
    (conv => whnf); refine ACalls.use (known _) ?_
    conv => whnf
  (conv => whnf); refine recA (fun h5 => ?_) (fun h5 => ?_)
  · conv => whnf
    refine ⟨fun q ρ H1 => ∃ j : Nat, j + q = 10 ∧ H1 = [.arr 2 (eC (t0 :: ts)), .arr 5 (imN (x0 :: (xs ++ List.replicate j x0))), .arr 1 (iC (a0 :: (asv ++ List.replicate j a0)))] ∧ Sv 114 [(1, .int .i64 n), (7, .sl 0 (t0 :: ts).length 0 (t0 :: ts).length), (8, .sl 1 (c + j) 0 (c + j)), (9, .sl 2 (c + j) 0 (c + j)), (10, .int .i64 j)] ρ, 10, [], ?_, ?_⟩
    · exact ⟨0, rfl, by simp, Sv.intro rfl ⟨rfl, rfl, rfl, rfl, rfl, trivial⟩⟩
    rintro q ρ H1 ⟨j, hj, rfl, d, rfl⟩
    have hl1 : (imN (x0 :: (xs ++ List.replicate j x0))).length = c + j := by rw [imN_length, List.length_cons, List.length_append, List.length_replicate]; omega
    have hl2 : (iC (a0 :: (asv ++ List.replicate j a0))).length = c + j := by rw [iC_length, List.length_cons, List.length_append, List.length_replicate]; omega
    (conv => whnf); refine recA (fun hlt => ?_) (fun hlt => ?_)
    · simp at hlt
      (conv => whnf); refine recT (by rw [hl1]; exact Nat.beq_refl _) ?_
      (conv => whnf); refine And.intro (by omega) ?_
      (conv => whnf); refine recT (by rw [hl1]; exact Nat.beq_refl _) ?_
      (conv => whnf); refine recT (by rw [hl1]; exact Nat.beq_refl _) ?_
      (conv => whnf); refine And.intro (⟨roomMul (by simp; omega) (by omega), roomB_le (by simp; omega), rfl, hl1.symm⟩) ?_
      (conv => whnf); refine recT (by rw [hl2]; exact Nat.beq_refl _) ?_
      (conv => whnf); refine And.intro (by omega) ?_
      (conv => whnf); refine recT (by rw [hl2]; exact Nat.beq_refl _) ?_
      (conv => whnf); refine recT (by rw [hl2]; exact Nat.beq_refl _) ?_
      (conv => whnf); refine And.intro (⟨roomMul (by simp; omega) (by omega), roomB_le (by simp; omega), rfl, hl2.symm⟩) ?_
      conv => whnf
      refine And.intro ?_ ?_
      · (conv => whnf); refine recT (by rw [hl2]; exact Nat.beq_refl _) ?_
        rfl
      conv => whnf
      refine And.intro ?_ ?_
      · (conv => whnf); refine recT (by rw [hl2]; exact Nat.beq_refl _) ?_
        (conv => whnf); refine And.intro (by omega) ?_
        rfl
      conv => whnf
      have hr1 : imN (x0 :: (xs ++ List.replicate (j + 1) x0)) = imN (x0 :: (xs ++ List.replicate j x0)) ++ [itmN x0] := by
        rw [List.replicate_succ']; simp [imN]
      have hr2 : iC (a0 :: (asv ++ List.replicate (j + 1) a0)) = iC (a0 :: (asv ++ List.replicate j a0)) ++ [[.int .i64 a0]] := by
        rw [List.replicate_succ']; simp [iC]
      have hL3 : (imN (x0 :: (xs ++ List.replicate j x0)) ++ [itmN x0]).length = c + (j + 1) := by rw [List.length_append, hl1]; rfl
      have hL4 : (iC (a0 :: (asv ++ List.replicate j a0)) ++ [[AVal.int .i64 a0]]).length = c + (j + 1) := by rw [List.length_append, hl2]; rfl
      refine ⟨q - 1, by omega, Gp.keep rfl ?_ fun ρ1 h => ⟨j + 1, by omega, ?_, h⟩⟩
      · exact ⟨rfl, rfl, slEq hL3 hL3, slEq hL4 hL4, intEq (wrapI _ (by omega) (by omega)), trivial⟩
      · rw [hr1, hr2]; rfl
    · simp at hlt
      have hj10 : j = 10 := by omega
      conv => whnf
      refine Ghost.none (n := 114) (live := [(1, .int .i64 n), (7, .list false 2 (eC (t0 :: ts))), (8, .list false 5 (imN (x0 :: (xs ++ List.replicate j x0)))), (9, .list false 1 (iC (a0 :: (asv ++ List.replicate j a0))))]) rfl ⟨.closed _ rfl, ?_, ?_, ?_, trivial⟩ ?_
      · exact pubF rfl (eC_length _).symm (eC_length _).symm (pureEs_eC _)
      · exact pubF rfl hl1.symm hl1.symm (pureEs_imN _)
      · exact pubF rfl hl2.symm hl2.symm (pureEs_iC _)
      have hE : ∀ x ∈ (x0 :: (xs ++ List.replicate j x0) : List Itm), x.es = [] := fun x hx => by
        rcases List.mem_cons.1 hx with h | h
        · rw [h]; exact hie x0 (List.mem_cons_self ..)
        · rcases List.mem_append.1 h with h | h
          · exact hie x (List.mem_cons_of_mem _ h)
          · rw [(List.mem_replicate.1 h).2]; exact hie x0 (List.mem_cons_self ..)
      have hL1 : (x0 :: (xs ++ List.replicate j x0) : List Itm).length ≤ 1000 := by rw [List.length_cons, List.length_append, List.length_replicate]; omega
      have hL2 : (a0 :: (asv ++ List.replicate j a0) : List Int).length ≤ 1000000 := by rw [List.length_cons, List.length_append, List.length_replicate]; omega
      rintro ρ ⟨d, rfl⟩
      (conv => whnf); refine And.intro (by decide) ?_
      (conv => whnf); refine ACalls.use (p10 _) ?_
      (conv => whnf); refine ACalls.use (applyE F.window_Apply hQ hS (x0 :: (xs ++ List.replicate j x0)) (plc18 (n.fdiv (2 ^ 10))) (a0 :: (asv ++ List.replicate j a0)) (t0 :: ts) hE hL1 (by omega) hL2 _) ?_
      (conv => whnf); refine And.intro (by decide) ?_
      (conv => whnf); refine ACalls.use (p10 _) ?_
      (conv => whnf); refine ACalls.use (applyR F.warehouseref17_Apply (x0 :: (xs ++ List.replicate j x0)) (plc18 (n.fdiv (2 ^ 10))) (a0 :: (asv ++ List.replicate j a0)) (t0 :: ts) hE hL1 (by omega) hL2 _) ?_
      have hg := refP_good (x0 :: (xs ++ List.replicate j x0)) (plc18 (n.fdiv (2 ^ 10))) [] (a0 :: (asv ++ List.replicate j a0)) (t0 :: ts)
      generalize refP (x0 :: (xs ++ List.replicate j x0)) (plc18 (n.fdiv (2 ^ 10))) [] (a0 :: (asv ++ List.replicate j a0)) (t0 :: ts) = p at *
      have hbl := bag_len hg.1
      obtain ⟨o, e⟩ := p
      have hrows := fun x hx => (bag_rowOk hg.1 x hx).1
      simp only [] at hbl hrows
      (conv => whnf); refine ACalls.use (ref6_Same_spec F.warehouseref6_Same false false o o (by omega) (fun x hx => by have := hrows x hx; omega) _) ?_
      (conv => whnf); refine recT (eqD_true rfl) ?_
      (conv => whnf); refine recT (by simp) ?_
      (conv => whnf); refine ACalls.use (known _) ?_
      conv => whnf
  conv => whnf
  refine Ghost.none (n := 114) (live := [(1, .int .i64 n), (7, .list false 2 (eC (t0 :: ts))), (8, .list false 5 (imN (x0 :: xs))), (9, .list false 1 (iC (a0 :: asv)))]) rfl ⟨.closed _ rfl, ?_, ?_, ?_, trivial⟩ ?_
  · exact pubF rfl (eC_length _).symm (eC_length _).symm (pureEs_eC _)
  · exact pubF rfl (by rw [imN_length, List.length_cons, hil]) (by rw [imN_length, List.length_cons, hil]) (pureEs_imN _)
  · exact pubF rfl (by rw [iC_length, List.length_cons, hal]) (by rw [iC_length, List.length_cons, hal]) (pureEs_iC _)
  have hE : ∀ x ∈ (x0 :: xs : List Itm), x.es = [] := fun x hx => hie x hx
  have hL1 : (x0 :: xs : List Itm).length ≤ 1000 := by rw [List.length_cons]; omega
  have hL2 : (a0 :: asv : List Int).length ≤ 1000000 := by rw [List.length_cons]; omega
  rintro ρ ⟨d, rfl⟩
  (conv => whnf); refine And.intro (by decide) ?_
  (conv => whnf); refine ACalls.use (p10 _) ?_
  (conv => whnf); refine ACalls.use (applyE F.window_Apply hQ hS (x0 :: xs) (plc18 (n.fdiv (2 ^ 10))) (a0 :: asv) (t0 :: ts) hE hL1 (by omega) hL2 _) ?_
  (conv => whnf); refine And.intro (by decide) ?_
  (conv => whnf); refine ACalls.use (p10 _) ?_
  (conv => whnf); refine ACalls.use (applyR F.warehouseref17_Apply (x0 :: xs) (plc18 (n.fdiv (2 ^ 10))) (a0 :: asv) (t0 :: ts) hE hL1 (by omega) hL2 _) ?_
  have hg := refP_good (x0 :: xs) (plc18 (n.fdiv (2 ^ 10))) [] (a0 :: asv) (t0 :: ts)
  generalize refP (x0 :: xs) (plc18 (n.fdiv (2 ^ 10))) [] (a0 :: asv) (t0 :: ts) = p at *
  have hbl := bag_len hg.1
  obtain ⟨o, e⟩ := p
  have hrows := fun x hx => (bag_rowOk hg.1 x hx).1
  simp only [] at hbl hrows
  (conv => whnf); refine ACalls.use (ref6_Same_spec F.warehouseref6_Same false false o o (by omega) (fun x hx => by have := hrows x hx; omega) _) ?_
  (conv => whnf); refine recT (eqD_true rfl) ?_
  (conv => whnf); refine recT (by simp) ?_
  (conv => whnf); refine ACalls.use (known _) ?_
  conv => whnf

end Go.AW

namespace Go.AW
variable [Draws]
open Go.Sort
section
variable {P : Program} {β : Type}
structure El (C : Nat → Nat) (w : World) (k : Nat) (cells : β → List AVal) where
  vs : List Value
  x : β
  len : vs.length = k
  one : ∀ v ∈ vs, v.oneCell' = true
  rd : ∀ (j : Nat) (c : AVal) (v : Value), (cells x)[j]? = some c → vs[j]? = some v → Rd C w c v

theorem Rd.later {C : Nat → Nat} {w w' : World} {a : AVal} {v : Value} (h : Rd C w a v) (hc : ∀ b i, i < C b → w'.cell? ⟨b, i, none⟩ = w.cell? ⟨b, i, none⟩) : Rd C w' a v := by
  have s : Step C (fun _ => none) [] w C (fun _ => none) [] { w with heap := w.heap } := Step.refl
  induction h with
  | junk v h => exact .junk v h
  | bool b => exact .bool b
  | int k n => exact .int k n
  | str s => exact .str s
  | nil => exact .nil
  | list0 x sz a cap hx => exact .list0 x sz a cap hx
  | list x sz es b off cap vs hx hcap hsz hC hcell hp hrd ih =>
    refine .list x sz es b off cap vs hx hcap hsz hC (fun i j hi hj => ?_) hp fun i j e d he hd => ih i j e d he hd
    rw [hc b _ ?_, hcell i j hi hj]
    have : i * sz + sz ≤ es.length * sz := by
      have := Nat.mul_le_mul_right sz (show i + 1 ≤ es.length by omega)
      rwa [Nat.add_mul, Nat.one_mul] at this
    omega
  | cptr cs fld b off vs hC hcell hp hrd ih =>
    refine .cptr cs fld b off vs hC (fun j hj => ?_) hp fun j d hd => ih j d hd
    rw [hc b _ (by omega), hcell j hj]
  | fn f => exact .fn f

abbrev upD : Draws := ⟨True⟩

omit [Draws] in
attribute [local instance] upD in

theorem cmpLays_of {C : Nat → Nat} {w : World} {k : Nat} {cells : β → List AVal} (hk : ∀ x, (cells x).length = k) [Inhabited (El C w k cells)] {cmp : β → β → Int} {g : FuncId}
    (eg : ∀ args w, (callFunc g args).run P w = .ok (.enter g args) w)
    (hg : ∀ x y, @ACalls upD P g [.agg (cells x), .agg (cells y)] [] (fun r _ => r = .int .i64 (cmp x y)))
    {blk off size : Nat} (hlt : ∀ b, 0 < C b → b < w.heap.size) (hblk : C blk = 0) :
    Go.Proofs.CmpLays P g #[] (fun e : El C w k cells => e.vs) k (fun a b => cmp a.x b.x) blk off size w := by
  intro m os dk hs x y
  obtain ⟨W, hW⟩ : ∃ W, Go.Proofs.sortWorldK (fun e : El C w k cells => e.vs) k w blk off m dk os = W := ⟨_, rfl⟩
  rw [hW]
  have hcell : ∀ b i, i < C b → W.cell? ⟨b, i, none⟩ = w.cell? ⟨b, i, none⟩ := by
    intro b i hi
    have hb : b < w.heap.size := hlt b (by omega)
    have hbb : b ≠ blk := fun e => by rw [e, hblk] at hi; omega
    refine cell_heap ?_
    rw [← hW]
    unfold Go.Proofs.sortWorldK Go.Sort.putRowK putRow mapBlock grow Go.Sort.ahead
    simp only []
    rw [Array.getElem?_append_left (by simp; exact hb), Array.getElem?_modify, if_neg (Ne.symm hbb)]
  have hsz : w.heap.size ≤ W.heap.size := by rw [← hW]; exact Go.Proofs.size_sortWorldK_c _ _ _ _ _ _ _ _
  have hwf : WF C (fun _ => none) [] W := ⟨fun id o h => by simp at h, fun id o h => by simp at h, fun id o l h => by simp at h, fun id l h => by simp at h, fun i j li lj h => by simp at h, fun b hb => Nat.lt_of_lt_of_le (hlt b hb) hsz⟩
  have hrel : ∀ e : El C w k cells, Rel C W (fun _ => none) [] (.agg (cells e.x)) (.agg e.vs.toArray) := fun e => by
    refine .agg _ _ (by simp [hk, e.len]) fun i c v hc hv => .rd ((e.rd i c v hc ?_).later hcell)
    simpa using hv
  have h := hg x.x y.x C (fun _ => none) W #[.agg x.vs.toArray, .agg y.vs.toArray] hwf rfl fun i a v ha hv => by
    rcases i with _ | _ | i
    · cases ha; cases hv; exact hrel x
    · cases ha; cases hv; exact hrel y
    · simp at ha
  unfold CallsX at h
  rw [eg] at h
  refine Calls.mono h fun e w' => ?_
  rintro ⟨v, r, C', τ', H', rfl, rfl, hrv, hst, _⟩
  refine ⟨?_, w'.drawn - W.drawn, w'.heap.extract W.heap.size w'.heap.size, ?_⟩
  · cases hrv with
    | rd h => cases h; rfl
  · have f := hst.fr
    have hp : ∀ b, b < W.heap.size → w'.heap[b]? = W.heap[b]? := fun b hb => f.prot b ⟨hb, by rintro ⟨id, l, h, _⟩; simp at h⟩
    have hh : w'.heap = W.heap ++ w'.heap.extract W.heap.size w'.heap.size := by
      refine Array.ext_getElem? fun i => ?_
      by_cases hi : i < W.heap.size
      · rw [Array.getElem?_append_left hi]; exact hp i hi
      · rw [Array.getElem?_append_right (by omega), Array.getElem?_extract]
        by_cases hi2 : i < w'.heap.size
        · rw [if_pos (by omega)]; congr 1; omega
        · rw [if_neg (by omega)]; exact Array.getElem?_eq_none (by omega)
    have hd : w'.drawn = W.drawn + (w'.drawn - W.drawn) := by have := f.drawn trivial; omega
    obtain ⟨h1, h2, h3, h4, h5⟩ := w'
    unfold grow World.drewN
    simp only [World.mk.injEq]
    exact ⟨hh, f.tape, hd, f.os, f.output⟩

theorem St.grow {w0 w : World} {Pr : Nat → Prop} {C : Nat → Nat} {τ : Nat → Option Loc} {H : List AObj} (h : St w0 Pr C τ H w) : ∀ (os : List Obj), St w0 Pr C τ H (Go.Sort.grow w os.toArray) ∧ Step C τ H w C τ H (Go.Sort.grow w os.toArray) := by
  intro os
  induction os generalizing w with
  | nil => simpa using ⟨h, Step.refl⟩
  | cons o os ih =>
    obtain ⟨st, s⟩ := h.alloc_comm o 0
    have hCC : updF C w.heap.size (C w.heap.size + 0) = C := by
      funext b
      by_cases e : b = w.heap.size
      · subst e; rw [updF_same]; rfl
      · rw [updF_other _ _ e]
    rw [hCC] at st s
    obtain ⟨st2, s2⟩ := ih st
    have e : Go.Sort.grow (w.alloc o) os.toArray = Go.Sort.grow w (o :: os).toArray := by
      rw [alloc_eq_grow, grow_grow]
      congr 1
      simp
    rw [e] at st2 s2
    exact ⟨st2, s.trans s2⟩

theorem St.putRow {w0 w : World} {Pr : Nat → Prop} {C : Nat → Nat} {τ : Nat → Option Loc} {H : List AObj} {k : Nat} {cells : β → List AVal} (hk : ∀ x, (cells x).length = k) (hk0 : 0 < k) (hcl : ∀ x, ∀ c ∈ cells x, c.isCell = true) [Inhabited (El C w k cells)]
    (h : St w0 Pr C τ H w) {i0 : Nat} {es : List β} {l : Loc} (ho : H[i0]? = some (.arr k (es.map cells))) (hl : τ i0 = some l) (d : Array (El C w k cells)) (hd : d.size = es.length) :
    St w0 Pr C τ (H.set i0 (.arr k (d.toList.map fun e => cells e.x))) (putRowK (fun e : El C w k cells => e.vs) k w l.b 0 d) ∧ Step C τ H w C τ (H.set i0 (.arr k (d.toList.map fun e => cells e.x))) (putRowK (fun e : El C w k cells => e.vs) k w l.b 0 d) := by
  obtain ⟨hcap, cs, elem, fz, h1, h2, h3, _⟩ := h.wf.objs i0 _ l ho hl
  rw [List.length_map] at hcap
  have hw : (putRowK (fun e : El C w k cells => e.vs) k w l.b 0 d).heap[l.b]? = some (.cells (Go.Sort.putCells id 0 (flatK (fun e : El C w k cells => e.vs) k d) cs) elem fz) := by
    unfold putRowK Go.Sort.putRow mapBlock
    simp only [Array.getElem?_modify, if_true, h1, Option.map_some, onCells]
  refine h.set_obj (w' := putRowK (fun e : El C w k cells => e.vs) k w l.b 0 d) (o' := .arr k (d.toList.map fun e => cells e.x)) ho hl (fun b hb => ?_) (by simp [putRowK]) rfl rfl rfl rfl ⟨rfl, by simp; omega, fun _ => rfl⟩ (fun e he => ?_) fun C' τ' H' s => ?_
  · unfold putRowK Go.Sort.putRow mapBlock
    simp only [Array.getElem?_modify]
    rw [if_neg (Ne.symm hb)]
  · obtain ⟨x, _, rfl⟩ := List.mem_map.1 he
    exact ⟨hk x.x, hcl x.x⟩
  · refine ⟨by simp; omega, _, elem, fz, hw, by simp [Go.Sort.putCells, h2], by simpa [Go.Sort.putCells] using h3, fun i j e c he hc => ?_⟩
    rw [List.getElem?_map] at he
    obtain ⟨x, hx, rfl⟩ := Option.map_eq_some_iff.1 he
    have hi : i < d.size := by have := (List.getElem?_eq_some_iff.1 hx).1; simpa using this
    have hj : j < k := by have := (List.getElem?_eq_some_iff.1 hc).1; rwa [hk] at this
    have hxd : d[i]! = x := by
      rw [getElem!_pos d i hi]
      have := (List.getElem?_eq_some_iff.1 hx).2
      simpa using this
    have ht : i * k + j < d.size * k := by
      have := Nat.mul_le_mul_right k (show i + 1 ≤ d.size by omega)
      rw [Nat.add_mul, Nat.one_mul] at this
      omega
    have htc : i * k + j < cs.size := by
      have := Nat.mul_le_mul_right k (show d.size ≤ l.cap by omega)
      omega
    have hjv : j < x.vs.length := by rw [x.len]; exact hj
    refine ⟨x.vs[j], ?_, ?_⟩
    · unfold Go.Sort.putCells
      rw [Array.getElem?_mapIdx, Array.getElem?_eq_getElem htc]
      have hf := get_flatK (fun e : El C w k cells => e.vs) k d (i * k + j) ht
      have e1 : (i * k + j) / k = i := by rw [Nat.mul_comm, Nat.mul_add_div hk0, Nat.div_eq_of_lt hj, Nat.add_zero]
      have e2 : (i * k + j) % k = j := by rw [Nat.mul_comm, Nat.mul_add_mod, Nat.mod_eq_of_lt hj]
      rw [e1, e2, hxd] at hf
      simp only [Option.map_some, size_flatK, Nat.zero_le, true_and, Nat.zero_add, ht, if_true, Nat.sub_zero, hf]
      rw [getElem!_pos x.vs j hjv]
      rfl
    · exact (Rel.rd (x.rd j c _ hc (List.getElem?_eq_getElem hjv))).mono s

theorem row_of {w0 w : World} {Pr : Nat → Prop} {C : Nat → Nat} {τ : Nat → Option Loc} {H : List AObj} {k : Nat} {cells : β → List AVal} (hk : ∀ x, (cells x).length = k) (hk0 : 0 < k) (hpu : ∀ x, ∀ c ∈ cells x, c.isPure = true)
    (h : St w0 Pr C τ H w) {i0 : Nat} {es : List β} {l : Loc} (ho : H[i0]? = some (.arr k (es.map cells))) (hl : τ i0 = some l) :
    ∃ d : Array (El C w k cells), d.size = es.length ∧ d.toList.map (fun e => e.x) = es ∧ ∀ [Inhabited (El C w k cells)], HoldsK (fun e : El C w k cells => e.vs) k w l.b 0 d := by
  obtain ⟨hcap, cs, elem, fz, h1, h2, h3, h4⟩ := h.wf.objs i0 _ l ho hl
  rw [List.length_map] at hcap
  have hroom : es.length * k ≤ cs.size := by rw [h2]; exact Nat.mul_le_mul_right k hcap
  have get : ∀ (i j : Nat) (hi : i < es.length) (hj : j < k), i * k + j < cs.size := fun i j hi hj => by
    have := Nat.mul_le_mul_right k (show i + 1 ≤ es.length by omega)
    rw [Nat.add_mul, Nat.one_mul] at this
    omega
  have rel : ∀ (i j : Nat) (hi : i < es.length) (c : AVal) (v : Value), (cells es[i])[j]? = some c → cs[i * k + j]? = some v → Rd C w c v := fun i j hi c v hc hv => by
    obtain ⟨v', hv', hr⟩ := h4 i j (cells es[i]) c (by rw [List.getElem?_map, List.getElem?_eq_getElem hi]; rfl) hc
    rw [hv] at hv'
    cases hv'
    exact hr.pure (hpu _ c (List.mem_of_getElem? hc))
  have vget : ∀ (i j : Nat), ((cs.extract (i * k) (i * k + k)).toList)[j]? = if j < min (i * k + k) cs.size - i * k then cs[i * k + j]? else none := fun i j => by
    rw [Array.getElem?_toList, Array.getElem?_extract]
  have mk : ∀ i : Fin es.length, ∃ e : El C w k cells, e.vs = (cs.extract (i.1 * k) (i.1 * k + k)).toList ∧ e.x = es[i.1] := fun ⟨i, hi⟩ => by
    have hik := get i (k - 1) hi (by omega)
    have hlen : (cs.extract (i * k) (i * k + k)).size = k := by rw [Array.size_extract]; omega
    refine ⟨⟨(cs.extract (i * k) (i * k + k)).toList, es[i], by rw [Array.length_toList]; exact hlen, ?_, fun j c v hc hv => ?_⟩, rfl, rfl⟩
    · refine rel_cellsPlain (C := C) (w := w) (τ := τ) (H := H) (cs := cells es[i]) (by rw [hk, hlen]) (fun j c v hc hv => ?_) (List.all_eq_true.2 fun c hc => AVal.isCell_of_isPure (hpu _ c hc))
      have := vget i j
      rw [Array.getElem?_toList, hv] at this
      split at this
      · exact .rd (rel i j hi c v hc this.symm)
      · cases this
    · have := vget i j
      rw [hv] at this
      split at this
      · exact rel i j hi c v hc this.symm
      · cases this
  refine ⟨Array.ofFn fun i => (mk i).choose, by simp, ?_, ?_⟩
  · refine List.ext_getElem? fun i => ?_
    by_cases hi : i < es.length
    · rw [List.getElem?_map, Array.getElem?_toList, Array.getElem?_ofFn, dif_pos hi, List.getElem?_eq_getElem hi]
      show some ((mk ⟨i, hi⟩).choose).x = _
      rw [(mk ⟨i, hi⟩).choose_spec.2]
    · rw [List.getElem?_eq_none (by simp; omega), List.getElem?_eq_none (by omega)]
  · intro _ t ht
    rw [size_flatK, Array.size_ofFn] at ht
    have hi : t / k < es.length := Nat.div_lt_of_lt_mul (by rwa [Nat.mul_comm] at ht)
    have hj : t % k < k := Nat.mod_lt _ hk0
    have htk : t / k * k + t % k = t := by rw [Nat.mul_comm]; exact Nat.div_add_mod t k
    have htc := get _ _ hi hj
    rw [htk] at htc
    rw [get_flatK _ _ _ t (by rw [Array.size_ofFn]; exact ht), getElem!_pos _ (t / k) (by rw [Array.size_ofFn]; exact hi), Array.getElem_ofFn]
    have hv := vget (t / k) (t % k)
    rw [if_pos (by have := get (t / k) (k - 1) hi (by omega); omega), htk, Array.getElem?_eq_getElem htc, ← (mk ⟨t / k, hi⟩).choose_spec.1] at hv
    have hb := (List.getElem?_eq_some_iff.1 hv).1
    have hv2 := (List.getElem?_eq_some_iff.1 hv).2
    rw [getElem!_pos _ (t % k) hb]
    refine ⟨?_, ?_⟩
    · simp only [World.cell?, h1, Nat.zero_add]
      simp [Array.getElem?_eq_getElem htc, ← hv2]
    · simp only [World.frozen?, h1, Nat.zero_add]
      simp only [Bool.and_eq_false_iff, decide_eq_false_iff_not]
      omega

def Sorted (cmp : β → β → Int) (es es' : List β) : Prop := es'.Perm es ∧ ∀ (i j : Nat) (x y : β), i < j → es'[i]? = some x → es'[j]? = some y → 0 ≤ cmp y x

theorem sort_spec {ρ : Go.Shelf.Ren} (L : Go.Proofs.SlLaysF0.n6 P ρ) {k : Nat} (hk0 : 0 < k) (aE : ∀ w, (isAgg (ρ.t 24)).run P w = .ok true w) (zE : ∀ w, (Go.sizeOf (ρ.t 24)).run P w = .ok k w)
    {cells : β → List AVal} (hk : ∀ x, (cells x).length = k) (hpu : ∀ x, ∀ c ∈ cells x, c.isPure = true) {cmp : β → β → Int} (hO : SWO (Go.Proofs.ltOf cmp)) {g : FuncId}
    (eg : ∀ args w, (callFunc g args).run P w = .ok (.enter g args) w)
    (hg : ∀ x y, @ACalls upD P g [.agg (cells x), .agg (cells y)] [] (fun r _ => r = .int .i64 (cmp x y)))
    {es : List β} (hne : es ≠ []) (hlen : es.length ≤ 1000000) {H : List AObj} {i0 : Nat} (ho : H[i0]? = some (.arr k (es.map cells))) :
    ACalls P (ρ.f 6) [.sl i0 es.length 0 es.length, .fn g []] H (fun r H' => r = .tuple [] ∧ ∃ es', Sorted cmp es es' ∧ H' = H.set i0 (.arr k (es'.map cells))) := by
  intro C τ w vs hw hl hr
  obtain ⟨v0, v1, rfl⟩ : ∃ v0 v1, vs = #[v0, v1] := by
    obtain ⟨m⟩ := vs
    match m, hl with
    | [v0, v1], _ => exact ⟨v0, v1, rfl⟩
  have r0 := hr 0 _ v0 rfl rfl
  have r1 := hr 1 _ v1 rfl rfl
  have e1 : v1 = .func (.func g) #[] #[] := by
    cases r1 with
    | rd h => cases h; rfl
    | fn _ _ vs hl2 h =>
      have : vs = #[] := Array.eq_empty_of_size_eq_zero hl2.symm
      rw [this]
  subst e1
  have hpos : 0 < es.length := List.length_pos_iff.2 hne
  cases r0 with
  | rd h => cases h
  | sl _ _ _ _ a cap esz es0 ho' hep hcur =>
  rw [ho] at ho'
  cases ho'
  obtain ⟨_, hcap, hor⟩ := hcur (by simp)
  rcases hor with ⟨_, h0⟩ | ⟨l, hlt, hlc, ha⟩
  · omega
  have ha2 : a = some ⟨l.b, 0, none⟩ := by
    rcases ha with h0 | h0
    · omega
    · rw [h0, Nat.zero_mul]
  subst ha2
  have st := St.start hw
  obtain ⟨d, hd, hdx, hH⟩ := row_of hk hk0 hpu st ho hlt
  haveI : Inhabited (El C w k cells) := ⟨d[0]'(by omega)⟩
  have hid := (List.getElem?_eq_some_iff.1 ho).1
  have hcmp := cmpLays_of (P := P) (C := C) (w := w) hk eg hg (blk := l.b) (off := 0) (size := d.size) hw.lt (hw.comm i0 l hid hlt)
  have hO2 : SWO (Go.Proofs.ltOf fun a b : El C w k cells => cmp a.x b.x) := ⟨fun x => hO.irrefl x.x, fun x y z => hO.trans x.x y.x z.x, fun x y z => hO.ntrans x.x y.x z.x⟩
  have main := Go.Proofs.AnyQ.slices_SortFunc L k aE zE (fun e : El C w k cells => e.vs) (fun x => x.len) (fun x => x.one) (fun a b => cmp a.x b.x) hO2 g #[] l.b 0 cap d w eg hcmp hH (hw.locLt hid hlt) (by omega)
  rw [hd] at main
  unfold CallsX
  have en : ∀ args w, (callFunc (ρ.f 6) args).run P w = .ok (.enter (ρ.f 6) args) w := L.f6.enters rfl
  rw [en]
  refine Calls.mono main fun e w' => ?_
  rintro ⟨rfl, d', n, os, hp, hs, rfl⟩
  have hd's : d'.size = es.length := by have := hp.1; omega
  obtain ⟨st1, s1⟩ := st.putRow hk hk0 (fun x c hc => AVal.isCell_of_isPure (hpu x c hc)) ho hlt d' hd's
  obtain ⟨st2, s2⟩ := st1.same (w' := Go.Sort.ahead (putRowK (fun e : El C w k cells => e.vs) k w l.b 0 d') n) rfl rfl rfl rfl (Nat.le_add_right _ _)
  obtain ⟨st3, s3⟩ := st2.grow os.toList
  have ew : Go.Sort.grow (Go.Sort.ahead (putRowK (fun e : El C w k cells => e.vs) k w l.b 0 d') n) os.toList.toArray = Go.Proofs.sortWorldK (fun e : El C w k cells => e.vs) k w l.b 0 n d' os := by
    rw [Array.toArray_toList]; rfl
  rw [ew] at st3 s3
  refine ⟨.tuple #[], .tuple [], C, τ, _, rfl, ⟨rfl, d'.toList.map (fun e => e.x), ⟨?_, fun i j x y hij hx hy => ?_⟩, by rw [List.map_map]; rfl⟩, .tuple _ _ rfl fun i c v h => by simp at h, st3, (s1.trans s2).trans s3⟩
  · have h3 := hp.2.2
    have a1 : d'.extract 0 es.length = d' := by rw [← hd's]; simp
    have a2 : d.extract 0 es.length = d := by rw [← hd]; simp
    rw [a1, a2] at h3
    have := h3.map (fun e : El C w k cells => e.x)
    rwa [hdx] at this
  · rw [List.getElem?_map] at hx hy
    obtain ⟨ex, hx1, rfl⟩ := Option.map_eq_some_iff.1 hx
    obtain ⟨ey, hy1, rfl⟩ := Option.map_eq_some_iff.1 hy
    clear hx hy
    have hj := (List.getElem?_eq_some_iff.1 hy1).1
    rw [Array.length_toList, hd's] at hj
    have h4 := hs i j (Nat.zero_le _) hij hj
    have b1 : d'[i]! = ex := by
      rw [getElem!_pos d' i (by omega)]
      have := (List.getElem?_eq_some_iff.1 hx1).2
      simpa using this
    have b2 : d'[j]! = ey := by
      rw [getElem!_pos d' j (by omega)]
      have := (List.getElem?_eq_some_iff.1 hy1).2
      simpa using this
    rw [b1, b2] at h4
    unfold Go.Proofs.ltOf at h4
    simp at h4
    exact h4

end
end Go.AW

namespace Go.AW
variable [Draws]
open Go.Sort
attribute [local irreducible] ACalls
abbrev EntS := {e : Ent // e.row.length ≤ 1000}

def subL : (l : List Ent) → (∀ e ∈ l, e.row.length ≤ 1000) → List EntS
  | [], _ => []
  | e :: l, h => ⟨e, h e (List.mem_cons_self ..)⟩ :: subL l fun e he => h e (List.mem_cons_of_mem _ he)

theorem subL_map : ∀ (l : List Ent) (h : ∀ e ∈ l, e.row.length ≤ 1000), (subL l h).map (fun e => e.1) = l
  | [], _ => rfl
  | e :: l, h => by rw [subL, List.map_cons, subL_map l]

theorem swo_rows : SWO (Go.Proofs.ltOf fun a b : EntS => rowsCmp a.1.row b.1.row) where
  irrefl x := by simp [Go.Proofs.ltOf, (rowsCmp_zero x.1.row x.1.row).2 rfl]
  trans x y z h1 h2 := by
    simp [Go.Proofs.ltOf] at h1 h2 ⊢
    exact rowsCmp_trans _ _ _ h1 h2
  ntrans x y z h1 h2 := by
    simp [Go.Proofs.ltOf] at h1 h2 ⊢
    refine Int.not_lt.1 fun hn => ?_
    by_cases hz : rowsCmp y.1.row z.1.row = 0
    · rw [(rowsCmp_zero _ _).1 hz] at h1
      omega
    · have h3 : rowsCmp z.1.row y.1.row < 0 := by rw [rowsCmp_anti]; omega
      have := rowsCmp_trans _ _ _ hn h3
      omega

theorem sortE_of {P : Program} {ρ : Go.Shelf.Ren} (L : Go.Proofs.SlLaysF0.n6 P ρ) (aE : ∀ w, (isAgg (ρ.t 24)).run P w = .ok true w) (zE : ∀ w, (Go.sizeOf (ρ.t 24)).run P w = .ok 2 w) (F : F_bag_sum_1 P) :
    SortE P (ρ.f 6) F.id := by
  intro l hne hl hr H i0 ho
  have eg : ∀ args w, (callFunc F.id args).run P w = .ok (.enter F.id args) w := by
    obtain ⟨fn, c, h1, h2, h3, _⟩ := F.has
    exact Go.Proofs.enters_of h1 h2 h3
  have hm := subL_map l hr
  have hcells : (subL l hr).map (fun e => entC e.1) = eC l := by
    have := congrArg (List.map entC) hm
    rw [List.map_map] at this
    exact this
  have hlen : (subL l hr).length = l.length := by rw [← List.length_map (f := fun e : EntS => e.1), hm]
  have main := sort_spec (P := P) L (k := 2) (by decide) aE zE (cells := fun e : EntS => entC e.1) (fun _ => rfl) (fun x c hc => by
    simp [entC] at hc
    rcases hc with rfl | rfl
    · simp [AVal.isPure]
    · rfl) (cmp := fun a b => rowsCmp a.1.row b.1.row) swo_rows (g := F.id) eg (fun x y => by letI : Draws := upD; exact (bag_sum_1_spec F x.1 y.1 (by have := x.2; omega) []).mono fun _ _ h => h.1)
    (es := subL l hr) (fun h => by rw [h] at hm; exact hne hm.symm) (by omega) (i0 := i0) (by rw [hcells]; exact ho)
  rw [hlen] at main
  refine main.mono ?_
  rintro r H' ⟨rfl, es', ⟨hp, hs⟩, rfl⟩
  refine ⟨rfl, es'.map (fun e => e.1), by have := hp.map (fun e : EntS => e.1); rwa [hm] at this, ?_, ?_⟩
  · refine List.pairwise_iff_getElem.2 fun i j hi hj hij => ?_
    rw [List.length_map] at hi hj
    have := hs i j es'[i] es'[j] hij (List.getElem?_eq_getElem hi) (List.getElem?_eq_getElem hj)
    replace this : 0 ≤ rowsCmp (es'[j]).1.row (es'[i]).1.row := this
    rw [rowsCmp_anti] at this
    simp only [List.getElem_map]
    omega
  · rw [eC, List.map_map]; rfl

end Go.AW

namespace Go.AW
variable [Draws]
open Go.Sort
section
variable {P : Program} {β : Type}
structure El1 (C : Nat → Nat) (w : World) (cell : β → AVal) where
  v : Value
  x : β
  one : v.oneCell' = true
  rd : Rd C w (cell x) v

omit [Draws] in
attribute [local instance] upD in

theorem cmpLays1_of {C : Nat → Nat} {w : World} {cell : β → AVal} [Inhabited (El1 C w cell)] {cmp : β → β → Int} {g : FuncId} {caps : List AVal} {cb : Array Value}
    (hcl : caps.length = cb.size) (hcr : ∀ (i : Nat) (c : AVal) (v : Value), caps[i]? = some c → cb[i]? = some v → Rd C w c v)
    (eg : ∀ args w, (callFunc g args).run P w = .ok (.enter g args) w)
    (hg : ∀ x y, @ACalls upD P g ([cell x, cell y] ++ caps) [] (fun r _ => r = .int .i64 (cmp x y)))
    {blk off size : Nat} (hlt : ∀ b, 0 < C b → b < w.heap.size) (hblk : C blk = 0) :
    Go.Proofs.CmpLays1 P g cb (fun e : El1 C w cell => e.v) (fun a b => cmp a.x b.x) blk off size w := by
  intro m os dk hs x y
  obtain ⟨W, hW⟩ : ∃ W, Go.Proofs.sortWorld (fun e : El1 C w cell => e.v) w blk off m dk os = W := ⟨_, rfl⟩
  rw [hW]
  have hsz : w.heap.size ≤ W.heap.size := by
    rw [← hW]
    unfold Go.Proofs.sortWorld Go.Sort.putRow mapBlock Go.Sort.grow Go.Sort.ahead
    simp
  have hcell : ∀ b i, i < C b → W.cell? ⟨b, i, none⟩ = w.cell? ⟨b, i, none⟩ := by
    intro b i hi
    have hb : b < w.heap.size := hlt b (by omega)
    have hbb : b ≠ blk := fun e => by rw [e, hblk] at hi; omega
    refine cell_heap ?_
    rw [← hW]
    unfold Go.Proofs.sortWorld Go.Sort.putRow mapBlock Go.Sort.grow Go.Sort.ahead
    simp only []
    rw [Array.getElem?_append_left (by simp; exact hb), Array.getElem?_modify, if_neg (Ne.symm hbb)]
  have hwf : WF C (fun _ => none) [] W := ⟨fun id o h => by simp at h, fun id o h => by simp at h, fun id o l h => by simp at h, fun id l h => by simp at h, fun i j li lj h => by simp at h, fun b hb => Nat.lt_of_lt_of_le (hlt b hb) hsz⟩
  have h := hg x.x y.x C (fun _ => none) W (#[x.v, y.v] ++ cb) hwf (by simp [hcl]; omega) fun i a v ha hv => by
    rcases i with _ | _ | i
    · rw [Array.getElem?_append_left (by simp)] at hv
      simp at ha hv; subst ha hv; exact .rd (x.rd.later hcell)
    · rw [Array.getElem?_append_left (by simp)] at hv
      simp at ha hv; subst ha hv; exact .rd (y.rd.later hcell)
    · rw [Array.getElem?_append_right (by simp)] at hv
      exact .rd ((hcr i a v (by simpa using ha) (by simpa using hv)).later hcell)
  unfold CallsX at h
  rw [eg] at h
  refine Calls.mono h fun e w' => ?_
  rintro ⟨v, r, C', τ', H', rfl, rfl, hrv, hst, _⟩
  refine ⟨?_, w'.drawn - W.drawn, w'.heap.extract W.heap.size w'.heap.size, ?_⟩
  · cases hrv with
    | rd h => cases h; rfl
  · have f := hst.fr
    have hp : ∀ b, b < W.heap.size → w'.heap[b]? = W.heap[b]? := fun b hb => f.prot b ⟨hb, by rintro ⟨id, l, h, _⟩; simp at h⟩
    have hh : w'.heap = W.heap ++ w'.heap.extract W.heap.size w'.heap.size := by
      refine Array.ext_getElem? fun i => ?_
      by_cases hi : i < W.heap.size
      · rw [Array.getElem?_append_left hi]; exact hp i hi
      · rw [Array.getElem?_append_right (by omega), Array.getElem?_extract]
        by_cases hi2 : i < w'.heap.size
        · rw [if_pos (by omega)]; congr 1; omega
        · rw [if_neg (by omega)]; exact Array.getElem?_eq_none (by omega)
    have hd : w'.drawn = W.drawn + (w'.drawn - W.drawn) := by have := f.drawn trivial; omega
    obtain ⟨h1, h2, h3, h4, h5⟩ := w'
    unfold Go.Sort.grow World.drewN
    simp only [World.mk.injEq]
    exact ⟨hh, f.tape, hd, f.os, f.output⟩

theorem St.putRow1 {w0 w w1 : World} {Pr : Nat → Prop} {C : Nat → Nat} {τ : Nat → Option Loc} {H : List AObj} {cell : β → AVal} (hcl : ∀ x, (cell x).isCell = true) [Inhabited (El1 C w cell)]
    (h : St w0 Pr C τ H w1) (hw1 : w1.heap = w.heap) {i0 : Nat} {es : List β} {l : Loc} (ho : H[i0]? = some (.arr 1 (es.map fun x => [cell x]))) (hl : τ i0 = some l) (d : Array (El1 C w cell)) (hd : d.size = es.length) :
    St w0 Pr C τ (H.set i0 (.arr 1 (d.toList.map fun e => [cell e.x]))) (Go.Sort.putRow (fun e : El1 C w cell => e.v) w1 l.b 0 d) ∧ Step C τ H w1 C τ (H.set i0 (.arr 1 (d.toList.map fun e => [cell e.x]))) (Go.Sort.putRow (fun e : El1 C w cell => e.v) w1 l.b 0 d) := by
  obtain ⟨hcap, cs, elem, fz, h1, h2, h3, _⟩ := h.wf.objs i0 _ l ho hl
  rw [List.length_map] at hcap
  have hw : (Go.Sort.putRow (fun e : El1 C w cell => e.v) w1 l.b 0 d).heap[l.b]? = some (.cells (Go.Sort.putCells (fun e : El1 C w cell => e.v) 0 d cs) elem fz) := by
    unfold Go.Sort.putRow mapBlock
    simp only [Array.getElem?_modify, if_true, h1, Option.map_some, onCells]
  refine h.set_obj (w' := Go.Sort.putRow (fun e : El1 C w cell => e.v) w1 l.b 0 d) (o' := .arr 1 (d.toList.map fun e => [cell e.x])) ho hl (fun b hb => ?_) (by simp [Go.Sort.putRow, mapBlock]) rfl rfl rfl rfl ⟨rfl, by simp; omega, fun _ => rfl⟩ (fun e he => ?_) fun C' τ' H' s => ?_
  · unfold Go.Sort.putRow mapBlock
    simp only [Array.getElem?_modify]
    rw [if_neg (Ne.symm hb)]
  · obtain ⟨x, _, rfl⟩ := List.mem_map.1 he
    exact ⟨rfl, fun c hc => by rw [List.mem_singleton.1 hc]; exact hcl x.x⟩
  · refine ⟨by simp; omega, _, elem, fz, hw, by simp [Go.Sort.putCells, h2], by simpa [Go.Sort.putCells] using h3, fun i j e c he hc => ?_⟩
    rw [List.getElem?_map] at he
    obtain ⟨x, hx, rfl⟩ := Option.map_eq_some_iff.1 he
    have hi : i < d.size := by have := (List.getElem?_eq_some_iff.1 hx).1; simpa using this
    obtain rfl : j = 0 := by have := (List.getElem?_eq_some_iff.1 hc).1; simpa using this
    simp at hc
    subst hc
    have hxd : d[i]! = x := by
      rw [getElem!_pos d i hi]
      have := (List.getElem?_eq_some_iff.1 hx).2
      simpa using this
    have htc : i < cs.size := by omega
    refine ⟨x.v, ?_, ?_⟩
    · unfold Go.Sort.putCells
      rw [Nat.mul_one, Nat.add_zero, Array.getElem?_mapIdx, Array.getElem?_eq_getElem htc]
      simp only [Option.map_some, Nat.zero_le, true_and, Nat.zero_add, hi, if_true, Nat.sub_zero, hxd]
    · have hx1 : Rd C w1 (cell x.x) x.v := x.rd.later fun b i _ => cell_heap (by rw [hw1])
      exact (Rel.rd hx1).mono s

theorem row_of1 {w0 w : World} {Pr : Nat → Prop} {C : Nat → Nat} {τ : Nat → Option Loc} {H : List AObj} {cell : β → AVal} (hpu : ∀ x, (cell x).isPure = true)
    (h : St w0 Pr C τ H w) {i0 : Nat} {es : List β} {l : Loc} (ho : H[i0]? = some (.arr 1 (es.map fun x => [cell x]))) (hl : τ i0 = some l) :
    ∃ d : Array (El1 C w cell), d.size = es.length ∧ d.toList.map (fun e => e.x) = es ∧ ∀ [Inhabited (El1 C w cell)], Holds (fun e : El1 C w cell => e.v) w l.b 0 d := by
  obtain ⟨hcap, cs, elem, fz, h1, h2, h3, h4⟩ := h.wf.objs i0 _ l ho hl
  rw [List.length_map] at hcap
  have mk : ∀ i : Fin es.length, ∃ e : El1 C w cell, cs[i.1]? = some e.v ∧ e.x = es[i.1] := fun ⟨i, hi⟩ => by
    obtain ⟨v, hv, hr⟩ := h4 i 0 [cell es[i]] (cell es[i]) (by rw [List.getElem?_map, List.getElem?_eq_getElem hi]; rfl) rfl
    have hrd := hr.pure (hpu _)
    exact ⟨⟨v, es[i], hr.plain (AVal.isCell_of_isPure (hpu _)), hrd⟩, by simpa using hv, rfl⟩
  refine ⟨Array.ofFn fun i => (mk i).choose, by simp, ?_, ?_⟩
  · refine List.ext_getElem? fun i => ?_
    by_cases hi : i < es.length
    · rw [List.getElem?_map, Array.getElem?_toList, Array.getElem?_ofFn, dif_pos hi, List.getElem?_eq_getElem hi]
      show some ((mk ⟨i, hi⟩).choose).x = _
      rw [(mk ⟨i, hi⟩).choose_spec.2]
    · rw [List.getElem?_eq_none (by simp; omega), List.getElem?_eq_none (by omega)]
  · intro _ t ht
    rw [Array.size_ofFn] at ht
    have hs := (mk ⟨t, ht⟩).choose_spec.1
    have htc := (Array.getElem?_eq_some_iff.1 hs).1
    rw [getElem!_pos _ t (by rw [Array.size_ofFn]; exact ht), Array.getElem_ofFn]
    refine ⟨?_, ?_⟩
    · simp only [World.cell?, h1, Nat.zero_add]
      exact hs
    · simp only [World.frozen?, h1, Nat.zero_add]
      simp only [Bool.and_eq_false_iff, decide_eq_false_iff_not]
      simp only [] at htc
      omega

theorem sort1_spec {ρ : Go.Shelf.Ren} (L : Go.Proofs.SlLaysF.n6 P ρ)
    {cell : β → AVal} (hpu : ∀ x, (cell x).isPure = true) {cmp : β → β → Int} (hO : SWO (Go.Proofs.ltOf cmp)) {g : FuncId} {caps : List AVal} (hcp : caps.all AVal.isPure = true)
    (eg : ∀ args w, (callFunc g args).run P w = .ok (.enter g args) w)
    (hg : ∀ x y, @ACalls upD P g ([cell x, cell y] ++ caps) [] (fun r _ => r = .int .i64 (cmp x y)))
    {es : List β} (hne : es ≠ []) (hlen : es.length ≤ 1000000) {H : List AObj} {i0 : Nat} (ho : H[i0]? = some (.arr 1 (es.map fun x => [cell x]))) :
    ACalls P (ρ.f 6) [.sl i0 es.length 0 es.length, .fn g caps] H (fun r H' => r = .tuple [] ∧ ∃ es', Sorted cmp es es' ∧ H' = H.set i0 (.arr 1 (es'.map fun x => [cell x]))) := by
  intro C τ w vs hw hl hr
  obtain ⟨v0, v1, rfl⟩ : ∃ v0 v1, vs = #[v0, v1] := by
    obtain ⟨m⟩ := vs
    match m, hl with
    | [v0, v1], _ => exact ⟨v0, v1, rfl⟩
  have r0 := hr 0 _ v0 rfl rfl
  have r1 := hr 1 _ v1 rfl rfl
  obtain ⟨cb, hcl, hcr, e1⟩ : ∃ cb : Array Value, caps.length = cb.size ∧ (∀ (i : Nat) (c : AVal) (v : Value), caps[i]? = some c → cb[i]? = some v → Rd C w c v) ∧ v1 = .func (.func g) #[] cb := by
    cases r1 with
    | rd h => cases h; exact ⟨#[], rfl, fun i c v hc => by simp at hc, rfl⟩
    | fn _ _ vs hl2 h => exact ⟨vs, hl2, fun i c v hc hv => (h i c v hc hv).pure (List.all_eq_true.1 hcp c (List.mem_of_getElem? hc)), rfl⟩
  subst e1
  have hpos : 0 < es.length := List.length_pos_iff.2 hne
  cases r0 with
  | rd h => cases h
  | sl _ _ _ _ a cap esz es0 ho' hep hcur =>
  rw [ho] at ho'
  cases ho'
  obtain ⟨_, hcap, hor⟩ := hcur (by simp)
  rcases hor with ⟨_, h0⟩ | ⟨l, hlt, hlc, ha⟩
  · omega
  have ha2 : a = some ⟨l.b, 0, none⟩ := by
    rcases ha with h0 | h0
    · omega
    · rw [h0, Nat.zero_mul]
  subst ha2
  have st := St.start hw
  obtain ⟨d, hd, hdx, hH⟩ := row_of1 hpu st ho hlt
  haveI : Inhabited (El1 C w cell) := ⟨d[0]'(by omega)⟩
  have hid := (List.getElem?_eq_some_iff.1 ho).1
  have hcmp := cmpLays1_of (P := P) (C := C) (w := w) (cb := cb) hcl hcr eg hg (blk := l.b) (off := 0) (size := d.size) hw.lt (hw.comm i0 l hid hlt)
  have hO2 : SWO (Go.Proofs.ltOf fun a b : El1 C w cell => cmp a.x b.x) := ⟨fun x => hO.irrefl x.x, fun x y z => hO.trans x.x y.x z.x, fun x y z => hO.ntrans x.x y.x z.x⟩
  have main := Go.Proofs.Any.slices_SortFunc L (fun e : El1 C w cell => e.v) (fun x => x.one) (fun a b => cmp a.x b.x) hO2 g cb l.b 0 cap d w eg hcmp hH (hw.locLt hid hlt) (by omega)
  rw [hd] at main
  unfold CallsX
  have en : ∀ args w, (callFunc (ρ.f 6) args).run P w = .ok (.enter (ρ.f 6) args) w := L.f6.enters rfl
  rw [en]
  refine Calls.mono main fun e w' => ?_
  rintro ⟨rfl, d', n, os, hp, hs, rfl⟩
  have hd's : d'.size = es.length := by have := hp.1; omega
  obtain ⟨st1, s1⟩ := st.same (w' := Go.Sort.ahead w n) rfl rfl rfl rfl (Nat.le_add_right _ _)
  obtain ⟨st2, s2⟩ := st1.putRow1 (w := w) (fun x => AVal.isCell_of_isPure (hpu x)) rfl ho hlt d' hd's
  obtain ⟨st3, s3⟩ := st2.grow os.toList
  have ew : Go.Sort.grow (Go.Sort.putRow (fun e : El1 C w cell => e.v) (Go.Sort.ahead w n) l.b 0 d') os.toList.toArray = Go.Proofs.sortWorld (fun e : El1 C w cell => e.v) w l.b 0 n d' os := by
    rw [Array.toArray_toList]; rfl
  rw [ew] at st3 s3
  refine ⟨.tuple #[], .tuple [], C, τ, _, rfl, ⟨rfl, d'.toList.map (fun e => e.x), ⟨?_, fun i j x y hij hx hy => ?_⟩, by rw [List.map_map]; rfl⟩, .tuple _ _ rfl fun i c v h => by simp at h, st3, (s1.trans s2).trans s3⟩
  · have h3 := hp.2.2
    have a1 : d'.extract 0 es.length = d' := by rw [← hd's]; simp
    have a2 : d.extract 0 es.length = d := by rw [← hd]; simp
    rw [a1, a2] at h3
    have := h3.map (fun e : El1 C w cell => e.x)
    rwa [hdx] at this
  · rw [List.getElem?_map] at hx hy
    obtain ⟨ex, hx1, rfl⟩ := Option.map_eq_some_iff.1 hx
    obtain ⟨ey, hy1, rfl⟩ := Option.map_eq_some_iff.1 hy
    clear hx hy
    have hj := (List.getElem?_eq_some_iff.1 hy1).1
    rw [Array.length_toList, hd's] at hj
    have h4 := hs i j (Nat.zero_le _) hij hj
    have b1 : d'[i]! = ex := by
      rw [getElem!_pos d' i (by omega)]
      have := (List.getElem?_eq_some_iff.1 hx1).2
      simpa using this
    have b2 : d'[j]! = ey := by
      rw [getElem!_pos d' j (by omega)]
      have := (List.getElem?_eq_some_iff.1 hy1).2
      simpa using this
    rw [b1, b2] at h4
    unfold Go.Proofs.ltOf at h4
    simp at h4
    exact h4

end
end Go.AW

namespace Go.AW
variable [Draws]
open Go.Sort
attribute [local irreducible] ACalls
abbrev RowS := {r : List V // r.length ≤ 1000}

def subRw : (l : List (List V)) → (∀ r ∈ l, r.length ≤ 1000) → List RowS
  | [], _ => []
  | r :: l, h => ⟨r, h r (List.mem_cons_self ..)⟩ :: subRw l fun r hr => h r (List.mem_cons_of_mem _ hr)

theorem subRw_map : ∀ (l : List (List V)) (h : ∀ r ∈ l, r.length ≤ 1000), (subRw l h).map (fun e => e.1) = l
  | [], _ => rfl
  | e :: l, h => by rw [subRw, List.map_cons, subRw_map l]

theorem swo_O (is : List Int) : SWO (Go.Proofs.ltOf fun a b : RowS => cmpO is a.1 b.1) where
  irrefl x := by simp [Go.Proofs.ltOf, ((isCmp_O is).zero x.1 x.1).2 rfl]
  trans x y z h1 h2 := by
    simp [Go.Proofs.ltOf] at h1 h2 ⊢
    exact (isCmp_O is).trans _ _ _ h1 h2
  ntrans x y z h1 h2 := by
    simp [Go.Proofs.ltOf] at h1 h2 ⊢
    have a1 := (isCmp_O is).anti x.1 y.1
    have a2 := (isCmp_O is).anti y.1 z.1
    have a3 := (isCmp_O is).anti x.1 z.1
    have := (isCmp_O is).le_trans (x := z.1) (y := y.1) (z := x.1) (by omega) (by omega)
    omega

theorem sortR_of {P : Program} {ρ : Go.Shelf.Ren} (L : Go.Proofs.SlLaysF.n6 P ρ) (F : F_window_partitions_1 P) : SortR P (ρ.f 6) F.id := by
  intro e3 is l his hne hl hr H i0 ho
  have eg : ∀ args w, (callFunc F.id args).run P w = .ok (.enter F.id args) w := by
    obtain ⟨fn, c, h1, h2, h3, _⟩ := F.has
    exact Go.Proofs.enters_of h1 h2 h3
  have hm := subRw_map l hr
  have hcells : ((subRw l hr).map fun x => [AVal.list false 3 (vC x.1)]) = rwC l := by
    have := congrArg rwC hm
    rw [← this, rwC, rwA, List.map_map, List.map_map]; rfl
  have hlen : (subRw l hr).length = l.length := by rw [← List.length_map (f := fun e : RowS => e.1), hm]
  have main := sort1_spec (P := P) L (cell := fun e : RowS => AVal.list false 3 (vC e.1)) (fun _ => rfl) (cmp := fun a b => cmpO is a.1 b.1) (swo_O is) (g := F.id) (caps := [.cptr [.list e3 1 (iC is)] 0]) rfl eg
    (fun x y => @ACalls.mono upD P _ F.id _ _ _ (@partitions_1_spec upD P F false false e3 x.1 y.1 is (by have := x.2; omega) (by have := y.2; omega) his []) fun _ _ h => h.1)
    (es := subRw l hr) (fun h => by rw [h] at hm; exact hne hm.symm) (by omega) (H := H) (i0 := i0) (by rw [hcells]; exact ho)
  rw [hlen] at main
  refine main.mono ?_
  rintro r H' ⟨rfl, es', ⟨hp, hs⟩, rfl⟩
  refine ⟨rfl, ?_⟩
  have e : es'.map (fun e => e.1) = srtO is l := by
    refine srtC_eq (isCmp_O is) (List.pairwise_iff_getElem.2 fun i j hi hj hij => ?_) (by have := hp.map (fun e : RowS => e.1); rwa [hm] at this)
    rw [List.length_map] at hi hj
    have := hs i j es'[i] es'[j] hij (List.getElem?_eq_getElem hi) (List.getElem?_eq_getElem hj)
    replace this : 0 ≤ cmpO is (es'[j]).1 (es'[i]).1 := this
    rw [(isCmp_O is).anti] at this
    simp only [List.getElem_map]
    omega
  rw [← e, rwC, rwA, List.map_map, List.map_map]; rfl

end Go.AW

