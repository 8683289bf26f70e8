/-
  What a state leaves: objects that nobody names are dropped, others become lists that never change again.
  No condition: plain laws over any program.
-/
import Derived.Test.YtikifhfpiahnoaaAwCode
namespace Go.AW

section
variable {P : Program} {C C' : Nat → Nat} {τ τ' : Nat → Option Loc} {H H' : List AObj} {w w' : World}

theorem Rel.closed {d : AVal} {v : Value} (h : Rel C w τ H d v) (hd : d.closed = true) (hle : ∀ b, C b ≤ C' b) (hc : ∀ b i, i < C b → w'.cell? ⟨b, i, none⟩ = w.cell? ⟨b, i, none⟩) : Rel C' w' τ' H' d v := by
  cases d with
  | agg cs =>
    obtain ⟨vs, rfl, hl, hr⟩ := h.agg_inv
    refine .agg _ _ hl fun i c v h1 h2 => .rd (((hr i c v h1 h2).pure ?_).mono hle hc)
    exact List.all_eq_true.1 hd c (List.mem_of_getElem? h1)
  | undef => cases hd
  | tuple _ => cases hd
  | _ => exact .rd ((h.pure hd).mono hle hc)

theorem pureEs_get {es : List (List AVal)} (h : pureEs es = true) {i j : Nat} {e : List AVal} {d : AVal} (he : es[i]? = some e) (hd : e[j]? = some d) : d.isPure = true :=
  List.all_eq_true.1 (List.all_eq_true.1 h e (List.mem_of_getElem? he)) d (List.mem_of_getElem? hd)

open Classical in
/-- The commitment behind a call: the objects that are not handed over are committed. -/
noncomputable def commit (C : Nat → Nat) (τ : Nat → Option Loc) (H : List AObj) (ids : List Nat) (b : Nat) : Nat :=
  if h : ∃ id esz es l, id ∉ ids ∧ H[id]? = some (AObj.arr esz es) ∧ pureEs es = true ∧ τ id = some l ∧ l.b = b then
    (match H[h.choose]? with
     | some (.arr esz es) => es.length * esz
     | _ => 0)
  else C b

theorem commit_at (hw : WF C τ H w) {ids : List Nat} {id esz : Nat} {es : List (List AVal)} {l : Loc} (h1 : id ∉ ids) (h2 : H[id]? = some (.arr esz es)) (h3 : pureEs es = true) (h4 : τ id = some l) :
    commit C τ H ids l.b = es.length * esz := by
  have hex : ∃ id esz es l', id ∉ ids ∧ H[id]? = some (AObj.arr esz es) ∧ pureEs es = true ∧ τ id = some l' ∧ l'.b = l.b := ⟨id, esz, es, l, h1, h2, h3, h4, rfl⟩
  unfold commit
  rw [dif_pos hex]
  obtain ⟨esz', es', l', _, g2, _, g4, g5⟩ := hex.choose_spec
  have hi := (List.getElem?_eq_some_iff.1 h2).1
  have hi' := (List.getElem?_eq_some_iff.1 g2).1
  have e := hw.inj _ _ _ _ hi' hi g4 h4 g5
  rw [e, h2]

theorem commit_other {ids : List Nat} {b : Nat} (h : ∀ id l, id < H.length → id ∉ ids → τ id = some l → l.b ≠ b) : commit C τ H ids b = C b := by
  unfold commit
  rw [dif_neg]
  rintro ⟨id, esz, es, l, h1, h2, _, h4, h5⟩
  exact h id l (List.getElem?_eq_some_iff.1 h2).1 h1 h4 h5

theorem commit_le (hw : WF C τ H w) {ids : List Nat} (b : Nat) : C b ≤ commit C τ H ids b := by
  by_cases h : ∃ id l, id < H.length ∧ τ id = some l ∧ l.b = b
  · obtain ⟨id, l, h1, h2, rfl⟩ := h
    rw [hw.comm id l h1 h2]; exact Nat.zero_le _
  · rw [commit_other fun id l h1 _ h2 h3 => h ⟨id, l, h1, h2, h3⟩]; exact Nat.le_refl _

theorem pub_rel {n : Nat} {ids : List Nat} {τ1 τ2 : Nat → Option Loc} {H1 H2 : List AObj} (hw : WF C τ1 H1 w) (hkeep : ∀ k id, ids[k]? = some id → (∀ esz es, H1[id]? = some (.arr esz es) → ∃ es2, H2[n + k]? = some (.arr esz es2) ∧ es2.length = es.length) ∧ τ2 (n + k) = τ1 id) {v r : AVal} (hp : Pub H1 n ids v r) :
    ∀ {u : Value}, Rel C w τ1 H1 v u → Rel (commit C τ1 H1 ids) w τ2 H2 r u := by
  induction hp with
  | closed v h => intro u hr; exact hr.closed h (commit_le hw) (fun _ _ _ => rfl)
  | frz id ep off len esz es ho hep hp hid =>
    intro u hr
    obtain ⟨ad, cap, rfl, h1, h2, h3⟩ := hr.sl_inv ho hep
    have hlen : ((es.drop off).take len).length = len := by simp; omega
    by_cases hz : len = 0
    · subst hz
      rw [List.take_zero]
      exact .rd (.list0 _ _ _ _ fun e => by cases e)
    · rcases h3 with ⟨_, hc⟩ | ⟨l, hl, hl2, hl3⟩
      · omega
      · rcases hl3 with hc | rfl
        · omega
        · have hcm := commit_at hw (ids := ids) hid ho hp hl
          have hok := hw.ok id _ ho
          have get : ∀ i, ((es.drop off).take len)[i]? = if i < len then es[off + i]? else none := by
            intro i
            by_cases hi : i < len
            · rw [if_pos hi, List.getElem?_take_of_lt hi, List.getElem?_drop]
            · rw [if_neg hi, List.getElem?_eq_none (by simp; omega)]
          have cellv : ∀ i j, i < len → j < esz → ∃ v, w.cell? ⟨l.b, off * esz + i * esz + j, none⟩ = some v ∧ ∀ e d, es[off + i]? = some e → e[j]? = some d → Rel C w τ1 H1 d v := by
            intro i j hi hj
            have he : es[off + i]? = some es[off + i] := List.getElem?_eq_getElem (by omega)
            have hel := (hok _ (List.mem_of_getElem? he)).1
            have hd := List.getElem?_eq_getElem (show j < es[off + i].length by omega)
            obtain ⟨_, v, hv, hrv⟩ := hw.reads ho hl he j _ hd
            refine ⟨v, ?_, fun e d he' hd' => ?_⟩
            · rw [← Nat.add_mul]; exact hv
            · rw [he] at he'; cases he'
              rw [hd] at hd'; cases hd'; exact hrv
          have key := Rd.list (C := commit C τ1 H1 ids) (w := w) false esz ((es.drop off).take len) l.b (off * esz) cap
            (fun i j => (w.cell? ⟨l.b, off * esz + i * esz + j, none⟩).getD undef) (fun e => by cases e) (by omega) (fun e he => (hok e (List.mem_of_mem_drop (List.mem_of_mem_take he))).1)
            (by rw [hcm, hlen, ← Nat.add_mul]; exact Nat.mul_le_mul_right _ h1)
            (fun i j hi hj => by
              rw [hlen] at hi
              obtain ⟨v, hv, _⟩ := cellv i j hi hj
              rw [hv]; rfl)
            (fun i j e d he hd => by
              rw [get] at he
              split at he
              · exact (hok e (List.mem_of_getElem? he)).2 d (List.mem_of_getElem? hd)
              · cases he)
            (fun i j e d he hd => by
              rw [get] at he
              split at he
              · rename_i hi
                have hel := (hok e (List.mem_of_getElem? he)).1
                have hj := (List.getElem?_eq_some_iff.1 hd).1
                obtain ⟨v, hv, hrv⟩ := cellv i j hi (by omega)
                rw [hv]
                exact ((hrv e d he hd).pure (pureEs_get hp he hd)).mono (commit_le hw) (fun _ _ _ => rfl)
              · cases he)
          rw [hlen] at key
          exact .rd key
  | keep id ep off len k hk =>
    intro u hr
    obtain ⟨e1, e2⟩ := hkeep k id hk
    cases hr with
    | rd hr => cases hr
    | sl _ _ _ _ a cap esz es ho hep h =>
      obtain ⟨es1, g1, g2⟩ := e1 esz es ho
      refine .sl _ _ _ _ a cap esz es1 g1 (by omega) fun e => ?_
      rw [e2, g2]; exact h (by omega)
  | dead v => intro u _; exact .undef _
  | keepP id ep idx fld k hk =>
    intro u hr
    obtain ⟨e1, e2⟩ := hkeep k id hk
    cases hr with
    | rd hr => cases hr
    | ptr _ _ _ _ a esz es ho hep h =>
      obtain ⟨es1, g1, g2⟩ := e1 esz es ho
      refine .ptr _ _ _ _ a esz es1 g1 (by omega) fun e => ?_
      rw [e2]; exact h (by omega)
  | tuple vs rs hl h ih =>
    intro u hr
    obtain ⟨us, rfl, hl2, hr2⟩ := hr.tuple_inv
    refine .tuple _ _ (by omega) fun i c v hc hv => ?_
    have hi := (List.getElem?_eq_some_iff.1 hc).1
    have hvi : vs[i]? = some vs[i] := List.getElem?_eq_getElem (by omega)
    exact ih i _ c hvi hc (hr2 i _ v hvi hv)


theorem gpO_get {ids : List Nat} : ∀ {is : List Nat} {r : List AObj}, gpO H ids is r → is.length = r.length ∧ ∀ (k id : Nat), is[k]? = some id → ∃ o o1, H[id]? = some o ∧ r[k]? = some o1 ∧ ObP H ids o o1
  | [], [], _ => ⟨rfl, fun k id h => by simp at h⟩
  | x :: is, o1 :: r, h => by
    obtain ⟨⟨o, h1, h2⟩, h3⟩ := h
    obtain ⟨g1, g2⟩ := gpO_get h3
    refine ⟨by simp [g1], fun k id hk => ?_⟩
    cases k with
    | zero => simp at hk; subst hk; exact ⟨o, o1, h1, rfl, h2⟩
    | succ k => exact g2 k id (by simpa using hk)
  | [], _ :: _, h => h.elim
  | _ :: _, [], h => h.elim

theorem gpS_get {ids : List Nat} : ∀ {ρ ρ1 : List AVal}, gpS H ids ρ ρ1 → ρ1.length = ρ.length ∧ ∀ t, Pub H 0 ids (getT ρ t) (getT ρ1 t)
  | [], [], _ => ⟨rfl, fun t => by simp only [getT]; exact .dead _⟩
  | v :: vs, r :: rs, h => by
    obtain ⟨g1, g2⟩ := gpS_get h.2
    refine ⟨by simp [g1], fun t => ?_⟩
    cases t with
    | zero => exact h.1
    | succ t => exact g2 t
  | [], _ :: _, h => h.elim
  | _ :: _, [], h => h.elim

/-- **Objects are dropped, or become lists that never change again**: the state goes on. -/
theorem SA.regroup {E : Env} {ρ : List AVal} {a : Act} (hs : SA E C τ ρ H a w) {I : List AVal → List AObj → Prop} (hg : Gp E.H0.length ρ H I) : ∃ ρ1 H1 C1 τ1, I ρ1 H1 ∧ SA E C1 τ1 ρ1 H1 a w := by
  rcases hg with h | ⟨h0, ids, ρ1, H1, hnd, hO, hS, hI⟩
  · exact ⟨ρ, H, C, τ, h, hs⟩
  have hE : E.H0 = [] := List.length_eq_zero_iff.1 h0
  have hpr := E.hpr hE
  have hst := hs.st
  have hw := hst.wf
  obtain ⟨hlen, hobj⟩ := gpO_get hO
  obtain ⟨hρ, hslot⟩ := gpS_get hS
  let τ1 : Nat → Option Loc := fun i => match ids[i]? with
    | some id => τ id
    | none => none
  have hτ : ∀ k id, ids[k]? = some id → τ1 k = τ id := fun k id hk => by simp only [τ1, hk]
  have hidlt : ∀ k id, ids[k]? = some id → id < H.length := fun k id hk => by
    obtain ⟨o, _, h1, _⟩ := hobj k id hk
    exact (List.getElem?_eq_some_iff.1 h1).1
  have hid : ∀ i, i < H1.length → ∃ id, ids[i]? = some id := fun i hi => ⟨ids[i], List.getElem?_eq_getElem (by omega)⟩
  have hkeep : ∀ k id, ids[k]? = some id → (∀ esz es, H[id]? = some (.arr esz es) → ∃ es2, H1[0 + k]? = some (.arr esz es2) ∧ es2.length = es.length) ∧ τ1 (0 + k) = τ id := fun k id hk => by
    rw [Nat.zero_add]
    refine ⟨fun esz es he => ?_, hτ k id hk⟩
    obtain ⟨o, o1, h1, h2, h3⟩ := hobj k id hk
    rw [he] at h1; cases h1
    cases h3 with
    | same _ _ _ => exact ⟨es, h2, rfl⟩
    | map _ _ es1 hl _ _ => exact ⟨es1, h2, hl⟩
  have rel : ∀ {v r : AVal} {u : Value}, Pub H 0 ids v r → Rel C w τ H v u → Rel (commit C τ H ids) w τ1 H1 r u := fun hp hr => pub_rel hw hkeep hp hr
  refine ⟨ρ1, H1, commit C τ H ids, τ1, hI, ⟨⟨⟨?_, ?_, ?_, ?_, ?_, ?_⟩, hst.fr, ?_, hst.plt⟩, ⟨?_, fun b i hi => hs.step.cell b i hi, ?_, hs.step.grow, ?_⟩, fun t => rel (hslot t) (hs.tmps t), hρ.trans hs.size, hs.defers⟩⟩
  · intro i o1 ho
    obtain ⟨id, hk⟩ := hid i (List.getElem?_eq_some_iff.1 ho).1
    obtain ⟨o, o1', h1, h2, h3⟩ := hobj i id hk
    rw [ho] at h2; cases h2
    have hok := hw.ok id o h1
    cases h3 with
    | same _ _ _ => exact hok
    | iter _ _ => exact hok
    | map esz es es1 hl hl2 hp =>
      intro e1 he1
      obtain ⟨n, hn⟩ := List.getElem?_of_mem he1
      have hnl := (List.getElem?_eq_some_iff.1 hn).1
      have he : es[n]? = some es[n] := List.getElem?_eq_getElem (by omega)
      obtain ⟨g1, g2⟩ := hok _ (List.mem_of_getElem? he)
      refine ⟨(hl2 n _ _ he hn).trans g1, fun d1 hd1 => ?_⟩
      obtain ⟨j, hj⟩ := List.getElem?_of_mem hd1
      have hjl := (List.getElem?_eq_some_iff.1 hj).1
      have := hl2 n _ _ he hn
      exact (hp n j _ _ _ d1 he hn (List.getElem?_eq_getElem (by omega)) hj).2
  · intro i o1 ho ht
    obtain ⟨id, hk⟩ := hid i (List.getElem?_eq_some_iff.1 ho).1
    obtain ⟨o, o1', h1, h2, h3⟩ := hobj i id hk
    rw [ho] at h2; cases h2
    rw [hτ i id hk] at ht
    obtain ⟨esz, rfl⟩ := hw.virt id o h1 ht
    cases h3 with
    | same _ _ _ => exact ⟨esz, rfl⟩
    | map _ _ es1 hl _ _ =>
      have : es1 = [] := List.length_eq_zero_iff.1 hl
      subst this; exact ⟨esz, rfl⟩
  · intro i o1 l ho ht
    obtain ⟨id, hk⟩ := hid i (List.getElem?_eq_some_iff.1 ho).1
    obtain ⟨o, o1', h1, h2, h3⟩ := hobj i id hk
    rw [ho] at h2; cases h2
    rw [hτ i id hk] at ht
    have hat := hw.objs id o l h1 ht
    cases h3 with
    | iter _ _ => exact hat
    | same esz es hp =>
      obtain ⟨a1, cells, elem, fz, a2, a3, a4, a5⟩ := hat
      refine ⟨a1, cells, elem, fz, a2, a3, a4, fun i j e d hi hd => ?_⟩
      obtain ⟨x, hx1, hx2⟩ := a5 i j e d hi hd
      exact ⟨x, hx1, .rd ((hx2.pure (pureEs_get hp hi hd)).mono (commit_le hw) (fun _ _ _ => rfl))⟩
    | map esz es es1 hl hl2 hp =>
      obtain ⟨a1, cells, elem, fz, a2, a3, a4, a5⟩ := hat
      refine ⟨by omega, cells, elem, fz, a2, a3, a4, fun i j e1 d1 hi hd => ?_⟩
      have hil := (List.getElem?_eq_some_iff.1 hi).1
      have hjl := (List.getElem?_eq_some_iff.1 hd).1
      have he : es[i]? = some es[i] := List.getElem?_eq_getElem (by omega)
      have hl3 := hl2 i _ _ he hi
      have hd0 : es[i][j]? = some es[i][j] := List.getElem?_eq_getElem (by omega)
      obtain ⟨x, hx1, hx2⟩ := a5 i j _ _ he hd0
      exact ⟨x, hx1, rel (hp i j _ _ _ d1 he hi hd0 hd).1 hx2⟩
  · intro i l hi ht
    obtain ⟨id, hk⟩ := hid i hi
    rw [hτ i id hk] at ht
    have hlt := hidlt i id hk
    rw [commit_other fun id' l' h1 h2 h3 h4 => h2 (by
      have := hw.inj id' id l' l h1 hlt h3 ht h4
      subst this; exact List.mem_of_getElem? hk)]
    exact hw.comm id l hlt ht
  · intro i j li lj hi hj hti htj hb
    obtain ⟨id, hk⟩ := hid i hi
    obtain ⟨id', hk'⟩ := hid j hj
    rw [hτ i id hk] at hti; rw [hτ j id' hk'] at htj
    have e := hw.inj id id' li lj (hidlt i id hk) (hidlt j id' hk') hti htj hb
    subst e
    have hki := (List.getElem?_eq_some_iff.1 hk)
    have hki' := (List.getElem?_eq_some_iff.1 hk')
    have hne := List.pairwise_iff_getElem.1 hnd
    rcases Nat.lt_trichotomy i j with h3 | h3 | h3
    · exact absurd (hki.2.trans hki'.2.symm) (hne i j hki.1 hki'.1 h3)
    · exact h3
    · exact absurd (hki'.2.trans hki.2.symm) (hne j i hki'.1 hki.1 h3)
  · intro b hb
    by_cases h1 : ∃ id l, id < H.length ∧ τ id = some l ∧ l.b = b
    · obtain ⟨id, l, h1, h2, rfl⟩ := h1
      exact hw.locLt h1 h2
    · rw [commit_other fun id l g1 _ g2 g3 => h1 ⟨id, l, g1, g2, g3⟩] at hb
      exact hw.lt b hb
  · rintro b ⟨i, l, hi, ht, rfl⟩
    obtain ⟨id, hk⟩ := hid i hi
    rw [hτ i id hk] at ht
    exact hst.own _ ⟨id, l, hidlt i id hk, ht, rfl⟩
  · exact fun b => Nat.le_trans (hs.step.le b) (commit_le hw b)
  · intro id o ho
    rw [hE] at ho; simp at ho
  · intro b hb
    rw [commit_other fun id l h1 _ h2 h3 => hst.own b ⟨id, l, h1, h2, h3⟩ (hpr b hb)]
    exact hs.step.old b hb
theorem setT_len : ∀ (l : List AVal) (n : Nat) (v : AVal), (setT l n v).length = l.length
  | [], _, _ => rfl
  | _ :: _, 0, _ => rfl
  | _ :: xs, n + 1, v => by simp [setT, setT_len xs n v]

/-- **Nil slices become objects without elements.** -/
theorem SA.nv {E : Env} : ∀ (vs : List (Nat × Nat)) {C : Nat → Nat} {τ : Nat → Option Loc} {ρ : List AVal} {H : List AObj} {a : Act} {w : World} {k : List AVal → List AObj → Prop}, SA E C τ ρ H a w → nvK vs ρ H k → ∃ τ1 ρ1 H1, k ρ1 H1 ∧ SA E C τ1 ρ1 H1 a w
  | [], C, τ, ρ, H, a, w, k, hs, h => ⟨τ, ρ, H, h, hs⟩
  | (s, sz) :: vs, C, τ, ρ, H, a, w, k, hs, h => by
    rw [nvK_cons] at h
    simp only [getK_eq] at h
    split at h
    case h_2 => exact h.elim
    rename_i hv
    simp only [snocK_eq, setK_eq, Nat.zero_add] at h
    obtain ⟨st, s1⟩ := hs.st.virt sz
    have hs1 := hs.go st s1
    have hn : a.tmps.getD s undef = .slice none 0 0 := by
      have := hs.tmps s
      rw [hv] at this
      generalize a.tmps.getD s undef = z at this
      cases this with
      | rd h => cases h; rfl
    have hs2 : SA E C (updF τ H.length none) (setT ρ s (.sl H.length 0 0 0)) (H ++ [.arr sz []]) a w := by
      refine ⟨hs1.st, hs1.step, fun t => ?_, by rw [setT_len, hs1.size], hs1.defers⟩
      rw [getT_setT]
      split
      · rename_i ht
        rw [ht.1, hn]
        exact .sl _ _ _ _ _ _ sz [] (by simp) (Nat.le_refl _) fun _ => ⟨Nat.le_refl _, Nat.le_refl _, .inl ⟨updF_same _ _ _, rfl⟩⟩
      · exact hs1.tmps t
    exact SA.nv vs hs2 h
end
end Go.AW
