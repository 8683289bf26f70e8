/-
  An abstract machine over the model, the code of functions on it, and their contracts: what the claim needs.
  No condition: definitions, plain laws, contracts over any program that has this code.
-/
import Derived.Test.YtiigcfeklofcaaaZ4
set_option linter.all false
namespace Go.AW
attribute [local irreducible] ACalls
def zt (s : RdS) : ByteArray := strOf (tkZ (nbV 1 s) (tkS 1 s))

def zL (s : RdS) : List Int := tkZ (nbV 2 (tkS 4 (tkS 1 s))) (rq3 s)

def zrec (s : RdS) : Option Rec := (dcV (zL s)).map fun rs => ⟨nbV 1 s == 1, nbV 4 (tkS 1 s), rs⟩

def zlP : Nat → RdS → List Rec → Option (List Rec × RdS)
  | 0, s, L => some (L, s)
  | n + 1, s, L => if s.bad then some (L, s) else match zrec s with
    | none => none
    | some r => zlP n (rq4 s) (L ++ [r])

def z1 (l : List Int) : RdS := tkS 4 (dS l)

def z2 (l : List Int) : RdS := txS (z1 l)

def z3 (l : List Int) : RdS := txS (z2 l)

def z4 (l : List Int) : RdS := tkS 2 (z3 l)

def zN (l : List Int) : Int := nbV 2 (z3 l)

def zP (l : List Int) : Option (List Rec × RdS) := zlP (zN l).toNat (z4 l) []

def zF (l : List Int) (L : List Rec) : Fil := ⟨zt (z1 l), zt (z2 l), L⟩

def refFE (l : List Int) : Int :=
  if 65536 < l.length then 2 else if sumBad l then 12
  else match zP l with
    | none => 11
    | some (L, st) => if st.bad = true ∨ encFE (zF l L) ≠ 0 ∨ filB (zF l L) ≠ l then 11 else 0

def refFV (l : List Int) : Fil := if refFE l = 0 then (match zP l with | none => f0 | some (L, _) => zF l L) else f0

def RefRaw (l : List Int) (r : AVal) : Prop :=
  (refFE l ≠ 0 ∧ r = .tuple [.agg [.str (bs []), .str (bs []), .nil], .int .i64 (refFE l)]) ∨
  (refFE l = 0 ∧ ∃ c, (c = .list false 3 (rC (refFV l).recs) ∨ (c = .nil ∧ (refFV l).recs = [])) ∧ r = .tuple [.agg [.str (refFV l).id, .str (refFV l).src, c], .int .i64 0])

theorem RefRaw.wk {l : List Int} {r : AVal} (h : RefRaw l r) : WkD r (.tuple [.agg (fV (refFV l)), .int .i64 (refFE l)]) := by
  rcases h with ⟨h, rfl⟩ | ⟨h, c, hc, rfl⟩
  · rw [refFV, if_neg h]
    exact .tuples (.cons (.aggs (.cons (.refl _) (.cons (.refl _) (.cons (.nil false 3) .nil)))) (.cons (.refl _) .nil))
  · rw [h]
    refine .tuples (.cons (.aggs (.cons (.refl _) (.cons (.refl _) (.cons ?_ .nil)))) (.cons (.refl _) .nil))
    rcases hc with rfl | ⟨rfl, hc⟩
    · exact .refl _
    · rw [hc]; exact .nil false 3

theorem RefRaw.pub {l : List Int} {r : AVal} {H1 : List AObj} (h : RefRaw l r) : Pub H1 0 [] r r := by
  rcases h with ⟨h, rfl⟩ | ⟨h, c, hc, rfl⟩
  · exact pub2 (.closed _ rfl) (.closed _ rfl)
  · refine pub2 (.closed _ ?_) (.closed _ rfl)
    rcases hc with rfl | ⟨rfl, hc⟩ <;> rfl

def zobj (l : List Int) (c : AVal) : AObj := .arr 3 [[.str (zt (z1 l)), .str (zt (z2 l)), c]]

def zH (l : List Int) (st : RdS) (L : List Rec) (H : List AObj) : Prop :=
  (L = [] ∧ H = [resO, rdO st, zobj l .nil]) ∨ H = [resO, rdO st, zobj l (.sl 3 L.length 0 L.length), .arr 3 (rC L)]

theorem zt_size {s : RdS} (h : Byt s.rest) : (zt s).size ≤ 255 := by
  have h0 := tkZ_len (n := nbV 1 s) (s := tkS 1 s)
  have h1 := num_bnd _ (tkL_byt (n := 1) h)
  have h2 := tkL_len (n := 1) (s := s) (by omega)
  have h3 : nbV 1 s < 256 := by
    rw [nbV]
    have h4 : (tkL 1 s).length = 0 ∨ (tkL 1 s).length = 1 := by omega
    rcases h4 with h4 | h4 <;> rw [h4] at h1 <;> simp at h1 <;> omega
  rw [zt, strOf_size]; omega

theorem ob3 {H : List AObj} {ids : List Nat} {a b : ByteArray} {c c1 : AVal} (h : Pub H 0 ids c c1) (hc : c1.isCell = true) : ObP H ids (.arr 3 [[.str a, .str b, c]]) (.arr 3 [[.str a, .str b, c1]]) := by
  refine .map 3 _ _ rfl (fun i e e1 h1 h2 => ?_) (fun i j e e1 d d1 h1 h2 h3 h4 => ?_)
  · rcases i with _ | i
    · cases h1; cases h2; rfl
    · simp at h1
  · rcases i with _ | i
    · cases h1; cases h2
      rcases j with _ | _ | _ | j
      · cases h3; cases h4; exact ⟨.closed _ rfl, rfl⟩
      · cases h3; cases h4; exact ⟨.closed _ rfl, rfl⟩
      · cases h3; cases h4; exact ⟨h, hc⟩
      · simp at h3
    · simp at h1

set_option maxRecDepth 20000 in
theorem ref24_Decode_spec {P : Program} (F : F_warehouseref24_Decode P) (l : List Int) (hby : Byt l) (H : List AObj) :
    ACalls P F.id [.list false 1 (bC l)] H (fun r H' => r = .tuple [.agg (fV (refFV l)), .int .i64 (refFE l)] ∧ H' = H) := by
  refine ACalls.weakRD (Q := fun r H' => RefRaw l r ∧ H' = H) ?_ (by rintro r H' ⟨h, rfl⟩; exact ⟨_, h.wk, rfl, rfl⟩)
  refine ACalls.lift0 rfl (ACalls.mono (Q := fun r _ => RefRaw l r) ?_ fun r H1 h => ⟨r, h.pub, h⟩)
  refine acalls_of_body F.has ?_
  have nb1 : ∀ s : RdS, Byt s.rest → nbV 1 s ≤ 255 := fun s h => by
    have h1 := num_bnd _ (tkL_byt (n := 1) h)
    have h2 := tkL_len (n := 1) (s := s) (by omega)
    have h4 : (tkL 1 s).length = 0 ∨ (tkL 1 s).length = 1 := by omega
    show num (tkL 1 s) ≤ 255
    rcases h4 with h4 | h4 <;> rw [h4] at h1 <;> simp at h1 <;> omega
  have nb2 : ∀ s : RdS, Byt s.rest → nbV 2 s ≤ 65535 := fun s h => by
    have h1 := num_bnd _ (tkL_byt (n := 2) h)
    have h2 := tkL_len (n := 2) (s := s) (by omega)
    have h4 : (tkL 2 s).length = 0 ∨ (tkL 2 s).length = 1 ∨ (tkL 2 s).length = 2 := by omega
    show num (tkL 2 s) ≤ 65535
    rcases h4 with h4 | h4 | h4 <;> rw [h4] at h1 <;> simp at h1 <;> omega
  have bad : ∀ (e : Int), refFE l = e → e ≠ 0 → RefRaw l (.tuple [.agg [.str (bs []), .str (bs []), .nil], .int .i64 e]) := fun e h1 h2 => by
    subst h1; exact .inl ⟨h2, rfl⟩
  (conv => whnf); refine recA (fun h1 => ?_) (fun h1 => ?_)
  · simp [bC_length] at h1
    conv => whnf
    exact bad 2 (by rw [refFE, if_pos (by omega)]) (by decide)
  simp [bC_length] at h1
  (conv => whnf); refine recA (fun h2 => ?_) (fun h2 => ?_)
  · simp [bC_length] at h2
    conv => whnf
    exact bad 12 (by rw [refFE, if_neg (by omega), if_pos (by rw [sumBad, decide_eq_true (by omega)]; rfl)]) (by decide)
  simp [bC_length] at h2
  have ew : IntKind.i64.wrap (((bC l).length : Int) - 4) = ((l.length - 4 : Nat) : Int) := by rw [bC_length, wrapI _ (by omega) (by omega)]; omega
  have et : (IntKind.i64.wrap (((bC l).length : Int) - 4)).toNat = l.length - 4 := by rw [ew, Int.toNat_natCast]
  have es1 : List.drop (IntKind.i64.wrap (((bC l).length : Int) - 4)).toNat (List.take (bC l).length (bC l)) = bC (l.drop (l.length - 4)) := by rw [et, List.take_length, bC_drop]
  have es2 : List.drop 0 (List.take (IntKind.i64.wrap (((bC l).length : Int) - 4)).toNat (bC l)) = bC (l.take (l.length - 4)) := by rw [et, List.drop_zero, bC_take]
  have hbt : Byt (l.take (l.length - 4)) := fun x hx => hby x (List.mem_of_mem_take hx)
  have hbd : Byt (l.drop (l.length - 4)) := fun x hx => hby x (List.mem_of_mem_drop hx)
  have hlt : (l.take (l.length - 4)).length ≤ 65536 := by rw [List.length_take]; omega
  have fb := fnv_bound (l.take (l.length - 4))
  have ef : IntKind.i64.wrap (fnv (l.take (l.length - 4))) = fnv (l.take (l.length - 4)) := wrapI _ (by omega) (by omega)
  (conv => whnf); refine And.intro (by rw [ew, bC_length]; omega) ?_
  conv => whnf
  rw [es2]
  (conv => whnf); refine ⟨_, ref24_Checksum_spec F.warehouseref24_Checksum false (l.take (l.length - 4)) (by omega) hbt _, ?_⟩
  conv => whnf
  rw [ef]
  (conv => whnf); refine ⟨_, ref24_number_spec F.warehouseref24_number (fnv (l.take (l.length - 4))) 4 fb.1 (by omega) (by omega) _, ?_⟩
  (conv => whnf); refine ⟨_, bytesOf_bC _, ?_⟩
  (conv => whnf); refine And.intro (by rw [ew, bC_length]; omega) ?_
  conv => whnf
  rw [es1]
  (conv => whnf); refine ⟨_, bytesOf_bC _, ?_⟩
  have hsb0 : sumBad l = !(l.drop (l.length - 4) == beN 4 (fnv (l.take (l.length - 4)))) := by rw [sumBad, decide_eq_false (by omega), Bool.false_or]
  have hbq : ((beN 4 (fnv (l.take (l.length - 4)))).map (fun n => UInt8.ofNat n.toNat) == (l.drop (l.length - 4)).map (fun n => UInt8.ofNat n.toNat)) = (l.drop (l.length - 4) == beN 4 (fnv (l.take (l.length - 4)))) := by
    rw [byt_beq (beN_byt _ _) hbd, Bool.eq_iff_iff, beq_iff_eq, beq_iff_eq]; exact eq_comm
  (conv => whnf); refine recA (fun h3 => ?_) (fun h3 => ?_)
  · replace h3 : (!((beN 4 (fnv (l.take (l.length - 4)))).map (fun n => UInt8.ofNat n.toNat) == (l.drop (l.length - 4)).map (fun n => UInt8.ofNat n.toNat))) = true := h3
    rw [hbq] at h3
    conv => whnf
    exact bad 12 (by rw [refFE, if_neg (by omega), if_pos (by rw [hsb0]; exact h3)]) (by decide)
  replace h3 : (!((beN 4 (fnv (l.take (l.length - 4)))).map (fun n => UInt8.ofNat n.toNat) == (l.drop (l.length - 4)).map (fun n => UInt8.ofNat n.toNat))) = false := h3
  rw [hbq, ← hsb0] at h3
  have hsb : sumBad l = false := h3
  (conv => whnf); refine And.intro (by rw [ew, bC_length]; omega) ?_
  conv => whnf
  rw [es2]
  have d0 : Byt (dS l).rest := hbt
  have d1 : Byt (z1 l).rest := tkS_byt d0
  have d2 : Byt (z2 l).rest := txS_byt d1
  have d3 : Byt (z3 l).rest := txS_byt d2
  have d4 : Byt (z4 l).rest := tkS_byt d3
  (conv => whnf); refine ACalls.mono (ztake_spec F.warehouseref24_reader_take 4 (by omega) (by omega) (dS l) _ 1 rfl) ?_
  rintro r H' ⟨rfl, rfl⟩
  (conv => whnf); refine ACalls.mono (znumber_spec F.warehouseref24_reader_number 1 (by omega) (by omega) (z1 l) d1 _ 1 rfl) ?_
  rintro r H' ⟨rfl, rfl⟩
  have n1 := nb1 (z1 l) d1
  have n2 := nb1 (z2 l) d2
  (conv => whnf); refine ACalls.mono (ztake_spec F.warehouseref24_reader_take _ (nbV_bound (n := 1) (by omega) (by omega) d1).1 (by omega) (tkS 1 (z1 l)) _ 1 rfl) ?_
  rintro r H' ⟨rfl, rfl⟩
  (conv => whnf); refine ⟨_, bytesOf_bC _, ?_⟩
  (conv => whnf); refine ACalls.mono (znumber_spec F.warehouseref24_reader_number 1 (by omega) (by omega) (z2 l) d2 _ 1 rfl) ?_
  rintro r H' ⟨rfl, rfl⟩
  (conv => whnf); refine ACalls.mono (ztake_spec F.warehouseref24_reader_take _ (nbV_bound (n := 1) (by omega) (by omega) d2).1 (by omega) (tkS 1 (z2 l)) _ 1 rfl) ?_
  rintro r H' ⟨rfl, rfl⟩
  (conv => whnf); refine ⟨_, bytesOf_bC _, ?_⟩
  (conv => whnf); refine ACalls.mono (znumber_spec F.warehouseref24_reader_number 2 (by omega) (by omega) (z3 l) d3 _ 1 rfl) ?_
  rintro r H' ⟨rfl, rfl⟩
  have n3 := nb2 (z3 l) d3
  have n30 := (nbV_bound (n := 2) (by omega) (by omega) d3).1
  conv => whnf
  refine ⟨fun m ρ H1 => ∃ (k : Nat) (st : RdS) (L : List Rec), m = k ∧ zlP k st L = zP l ∧ L.length + k ≤ 65535 ∧ Byt st.rest ∧ zH l st L H1 ∧
    Sv 119 [(0, .list false 1 (bC l)), (2, .ptr 0 1 0 0), (4, .ptr 1 1 0 0), (5, .ptr 2 1 0 0), (6, .int .i64 k)] ρ, (zN l).toNat, [], ?_, ?_⟩
  · exact ⟨(zN l).toNat, z4 l, [], rfl, rfl, by simp; rw [zN]; omega, d4, .inl ⟨rfl, rfl⟩, Sv.intro rfl ⟨rfl, rfl, rfl, rfl, intEq (by show nbV 2 (z3 l) = _; rw [zN]; omega), trivial⟩⟩
  rintro m ρ H1 ⟨k, st, L, rfl, hr, hle, hb, hH, d, rfl⟩
  rcases hH with ⟨hL, rfl⟩ | rfl
  · (conv => whnf); refine recA (fun hlt => ?_) (fun hlt => ?_)
    · simp at hlt
      conv => whnf
      by_cases hbad : st.bad = false
      · refine ⟨Gp.keep (n := 119) (live := [(0, .list false 1 (bC l)), (2, .ptr 0 1 0 0), (4, .ptr 1 1 0 0), (5, .ptr 2 1 0 0), (6, .int .i64 m), (69, .bool true)]) rfl ⟨rfl, rfl, rfl, rfl, rfl, by show AVal.bool (!st.bad) = .bool true; rw [hbad]; rfl, trivial⟩ ?_⟩
        rintro ρ1 ⟨d, rfl⟩
        obtain ⟨k, rfl⟩ : ∃ j, m = j + 1 := ⟨m - 1, by omega⟩
        rw [zlP, if_neg (by simp [hbad])] at hr
        (conv => whnf); refine ACalls.mono (znumber_spec F.warehouseref24_reader_number 1 (by omega) (by omega) st hb _ 1 rfl) ?_
        rintro r H' ⟨rfl, rfl⟩
        (conv => whnf); refine ACalls.mono (znumber_spec F.warehouseref24_reader_number 4 (by omega) (by omega) (tkS 1 st) (tkS_byt hb) _ 1 rfl) ?_
        rintro r H' ⟨rfl, rfl⟩
        (conv => whnf); refine ACalls.mono (znumber_spec F.warehouseref24_reader_number 2 (by omega) (by omega) (tkS 4 (tkS 1 st)) (tkS_byt (tkS_byt hb)) _ 1 rfl) ?_
        rintro r H' ⟨rfl, rfl⟩
        have hnb := nbV_bound (n := 2) (s := tkS 4 (tkS 1 st)) (by omega) (by omega) (tkS_byt (tkS_byt hb))
        have hnb2 := nb2 (tkS 4 (tkS 1 st)) (tkS_byt (tkS_byt hb))
        (conv => whnf); refine ACalls.mono (ztake_spec F.warehouseref24_reader_take _ hnb.1 (by omega) (rq3 st) _ 1 rfl) ?_
        rintro r H' ⟨rfl, rfl⟩
        have hzl : (zL st).length ≤ 1000000 := by
          have := tkZ_len (n := nbV 2 (tkS 4 (tkS 1 st))) (s := rq3 st)
          rw [zL]; omega
        have hdec := fun H => ref1_Decode_spec F.warehouseref1_Decode false (zL st) (tkZ_byt (tkS_byt (tkS_byt (tkS_byt hb)))) hzl H
        rw [decR_eq] at hdec
        cases hc : dcV (zL st) with
        | none =>
          have hz : zrec st = none := by rw [zrec, hc]; rfl
          rw [hz] at hr
          have hE : refFE l = 11 := by
            rw [refFE, if_neg (by omega), if_neg (by rw [hsb]; simp), ← hr]
          rw [hc] at hdec
          (conv => whnf); refine ACalls.use (hdec _) ?_
          conv => whnf
          exact .inl ⟨by rw [hE]; decide, by rw [hE]; rfl⟩
        | some rs =>
          have hz : zrec st = some ⟨nbV 1 st == 1, nbV 4 (tkS 1 st), rs⟩ := by rw [zrec, hc]; rfl
          rw [hz] at hr
          rw [hc] at hdec
          (conv => whnf); refine ACalls.use (hdec _) ?_
          (conv => whnf); refine And.intro (⟨roomMul (by simp) (by omega), roomB_le (by simp)⟩) ?_
          conv => whnf
          subst hL
          refine ⟨k, by omega, Gp.some (n := 119) (live := [(0, .list false 1 (bC l)), (2, .ptr 0 1 0 0), (4, .ptr 1 1 0 0), (5, .ptr 2 1 0 0), (6, .int .i64 k)]) (H1 := [resO, rdO (rq4 st), zobj l (.sl 3 1 0 1), .arr 3 (rC [⟨nbV 1 st == 1, nbV 4 (tkS 1 st), rs⟩])]) [0, 1, 2, 4] (by simp)
            ⟨⟨_, rfl, .same _ _ rfl⟩, ⟨_, rfl, .same _ _ rfl⟩, ⟨_, rfl, ob3 (.keep 4 _ _ _ 3 rfl) rfl⟩, ⟨_, rfl, .same _ _ (by simp [pureEs, AVal.isPure])⟩, trivial⟩ rfl ?_ fun ρ1 h => ⟨k, rq4 st, [⟨nbV 1 st == 1, nbV 4 (tkS 1 st), rs⟩], rfl, hr, by simp; simp at hle; omega, tkS_byt (tkS_byt (tkS_byt (tkS_byt hb))), .inr rfl, h⟩⟩
          exact ⟨.closed _ rfl, .keepP 0 1 0 0 0 rfl, .keepP 1 1 0 0 1 rfl, .keepP 2 1 0 0 2 rfl, pub_int (by have := wrapI (((k + 1 : Nat) : Int) - 1) (by omega) (by omega); show IntKind.i64.wrap (((k + 1 : Nat) : Int) - 1) = _; omega), trivial⟩
      · simp at hbad
        have hzp : zP l = some (L, st) := by
          rw [← hr]
          cases m with
          | zero => rfl
          | succ j => rw [zlP, if_pos hbad]
        refine ⟨Gp.keep (n := 119) (live := [(0, .list false 1 (bC l)), (2, .ptr 0 1 0 0), (4, .ptr 1 1 0 0), (5, .ptr 2 1 0 0), (69, .bool false)]) rfl ⟨rfl, rfl, rfl, rfl, by first | rfl | (show AVal.bool (!st.bad) = .bool false; rw [hbad]; rfl), trivial⟩ ?_⟩
        rintro ρ1 ⟨d, rfl⟩
        have hcw : WkD .nil (.list false 3 (rC L)) := by rw [hL]; exact .nil false 3
        have hE : refFE l = if st.bad = true ∨ encFE (zF l L) ≠ 0 ∨ filB (zF l L) ≠ l then 11 else 0 := by
          rw [refFE, if_neg (by omega), if_neg (by rw [hsb]; simp), hzp]
        have hen := fun H => (ref24_Encode_spec F.warehouseref24_Encode (zF l L) (Nat.le_trans (zt_size d1) (by omega)) (Nat.le_trans (zt_size d2) (by omega)) H).weakD (args := [.agg [.str (zt (z1 l)), .str (zt (z2 l)), (.nil : AVal)]]) (.cons (.aggs (.cons (.refl _) (.cons (.refl _) (.cons hcw .nil)))) .nil)
        by_cases hz : encFE (zF l L) = 0
        · rw [encFR, if_pos hz] at hen
          (conv => whnf); refine ACalls.use (hen _) ?_
          (conv => whnf); refine recA (fun h6 => ?_) (fun h6 => ?_)
          · replace h6 : st.bad = true := h6
            conv => whnf
            exact bad 11 (by rw [hE, if_pos (.inl h6)]) (by decide)
          replace h6 : st.bad = false := h6
          (conv => whnf); refine ⟨_, bytesOf_bC _, ?_⟩
          (conv => whnf); refine ⟨_, bytesOf_bC _, ?_⟩
          (conv => whnf); refine recA (fun h7 => ?_) (fun h7 => ?_)
          · replace h7 : (!((filB (zF l L)).map (fun n => UInt8.ofNat n.toNat) == l.map (fun n => UInt8.ofNat n.toNat))) = true := h7
            rw [byt_beq (filB_byt _) hby] at h7
            simp at h7
            conv => whnf
            exact bad 11 (by rw [hE, if_pos (.inr (.inr h7))]) (by decide)
          · replace h7 : (!((filB (zF l L)).map (fun n => UInt8.ofNat n.toNat) == l.map (fun n => UInt8.ofNat n.toNat))) = false := h7
            rw [byt_beq (filB_byt _) hby] at h7
            simp at h7
            have hz0 : refFE l = 0 := by rw [hE, if_neg (by simp [h6, hz, h7])]
            have hv : refFV l = zF l L := by rw [refFV, if_pos hz0, hzp]
            conv => whnf
            exact .inr ⟨hz0, (.nil : AVal), by rw [hv]; exact (.inr ⟨rfl, hL⟩), by rw [hv]; rfl⟩
        · rw [encFR, if_neg hz] at hen
          (conv => whnf); refine ACalls.use (hen _) ?_
          (conv => whnf); refine recA (fun h6 => ?_) (fun h6 => ?_)
          · replace h6 : st.bad = true := h6
            conv => whnf
            exact bad 11 (by rw [hE, if_pos (.inl h6)]) (by decide)
          (conv => whnf); refine recT (by show (!(encFE (zF l L) == 0)) = true; simp [hz]) ?_
          conv => whnf
          exact bad 11 (by rw [hE, if_pos (.inr (.inl hz))]) (by decide)
    · simp at hlt
      have hm0 : m = 0 := by omega
      subst hm0
      have hzp : zP l = some (L, st) := hr.symm
      conv => whnf
      refine ⟨Gp.keep (n := 119) (live := [(0, .list false 1 (bC l)), (2, .ptr 0 1 0 0), (4, .ptr 1 1 0 0), (5, .ptr 2 1 0 0), (69, .bool false)]) rfl ⟨rfl, rfl, rfl, rfl, by first | rfl | (show AVal.bool (!st.bad) = .bool false; rw [hbad]; rfl), trivial⟩ ?_⟩
      rintro ρ1 ⟨d, rfl⟩
      have hcw : WkD .nil (.list false 3 (rC L)) := by rw [hL]; exact .nil false 3
      have hE : refFE l = if st.bad = true ∨ encFE (zF l L) ≠ 0 ∨ filB (zF l L) ≠ l then 11 else 0 := by
        rw [refFE, if_neg (by omega), if_neg (by rw [hsb]; simp), hzp]
      have hen := fun H => (ref24_Encode_spec F.warehouseref24_Encode (zF l L) (Nat.le_trans (zt_size d1) (by omega)) (Nat.le_trans (zt_size d2) (by omega)) H).weakD (args := [.agg [.str (zt (z1 l)), .str (zt (z2 l)), (.nil : AVal)]]) (.cons (.aggs (.cons (.refl _) (.cons (.refl _) (.cons hcw .nil)))) .nil)
      by_cases hz : encFE (zF l L) = 0
      · rw [encFR, if_pos hz] at hen
        (conv => whnf); refine ACalls.use (hen _) ?_
        (conv => whnf); refine recA (fun h6 => ?_) (fun h6 => ?_)
        · replace h6 : st.bad = true := h6
          conv => whnf
          exact bad 11 (by rw [hE, if_pos (.inl h6)]) (by decide)
        replace h6 : st.bad = false := h6
        (conv => whnf); refine ⟨_, bytesOf_bC _, ?_⟩
        (conv => whnf); refine ⟨_, bytesOf_bC _, ?_⟩
        (conv => whnf); refine recA (fun h7 => ?_) (fun h7 => ?_)
        · replace h7 : (!((filB (zF l L)).map (fun n => UInt8.ofNat n.toNat) == l.map (fun n => UInt8.ofNat n.toNat))) = true := h7
          rw [byt_beq (filB_byt _) hby] at h7
          simp at h7
          conv => whnf
          exact bad 11 (by rw [hE, if_pos (.inr (.inr h7))]) (by decide)
        · replace h7 : (!((filB (zF l L)).map (fun n => UInt8.ofNat n.toNat) == l.map (fun n => UInt8.ofNat n.toNat))) = false := h7
          rw [byt_beq (filB_byt _) hby] at h7
          simp at h7
          have hz0 : refFE l = 0 := by rw [hE, if_neg (by simp [h6, hz, h7])]
          have hv : refFV l = zF l L := by rw [refFV, if_pos hz0, hzp]
          conv => whnf
          exact .inr ⟨hz0, (.nil : AVal), by rw [hv]; exact (.inr ⟨rfl, hL⟩), by rw [hv]; rfl⟩
      · rw [encFR, if_neg hz] at hen
        (conv => whnf); refine ACalls.use (hen _) ?_
        (conv => whnf); refine recA (fun h6 => ?_) (fun h6 => ?_)
        · replace h6 : st.bad = true := h6
          conv => whnf
          exact bad 11 (by rw [hE, if_pos (.inl h6)]) (by decide)
        (conv => whnf); refine recT (by show (!(encFE (zF l L) == 0)) = true; simp [hz]) ?_
        conv => whnf
        exact bad 11 (by rw [hE, if_pos (.inr (.inl hz))]) (by decide)
  · (conv => whnf); refine recA (fun hlt => ?_) (fun hlt => ?_)
    · simp at hlt
      conv => whnf
      by_cases hbad : st.bad = false
      · refine ⟨Gp.keep (n := 119) (live := [(0, .list false 1 (bC l)), (2, .ptr 0 1 0 0), (4, .ptr 1 1 0 0), (5, .ptr 2 1 0 0), (6, .int .i64 m), (69, .bool true)]) rfl ⟨rfl, rfl, rfl, rfl, rfl, by show AVal.bool (!st.bad) = .bool true; rw [hbad]; rfl, trivial⟩ ?_⟩
        rintro ρ1 ⟨d, rfl⟩
        obtain ⟨k, rfl⟩ : ∃ j, m = j + 1 := ⟨m - 1, by omega⟩
        rw [zlP, if_neg (by simp [hbad])] at hr
        (conv => whnf); refine ACalls.mono (znumber_spec F.warehouseref24_reader_number 1 (by omega) (by omega) st hb _ 1 rfl) ?_
        rintro r H' ⟨rfl, rfl⟩
        (conv => whnf); refine ACalls.mono (znumber_spec F.warehouseref24_reader_number 4 (by omega) (by omega) (tkS 1 st) (tkS_byt hb) _ 1 rfl) ?_
        rintro r H' ⟨rfl, rfl⟩
        (conv => whnf); refine ACalls.mono (znumber_spec F.warehouseref24_reader_number 2 (by omega) (by omega) (tkS 4 (tkS 1 st)) (tkS_byt (tkS_byt hb)) _ 1 rfl) ?_
        rintro r H' ⟨rfl, rfl⟩
        have hnb := nbV_bound (n := 2) (s := tkS 4 (tkS 1 st)) (by omega) (by omega) (tkS_byt (tkS_byt hb))
        have hnb2 := nb2 (tkS 4 (tkS 1 st)) (tkS_byt (tkS_byt hb))
        (conv => whnf); refine ACalls.mono (ztake_spec F.warehouseref24_reader_take _ hnb.1 (by omega) (rq3 st) _ 1 rfl) ?_
        rintro r H' ⟨rfl, rfl⟩
        have hzl : (zL st).length ≤ 1000000 := by
          have := tkZ_len (n := nbV 2 (tkS 4 (tkS 1 st))) (s := rq3 st)
          rw [zL]; omega
        have hdec := fun H => ref1_Decode_spec F.warehouseref1_Decode false (zL st) (tkZ_byt (tkS_byt (tkS_byt (tkS_byt hb)))) hzl H
        rw [decR_eq] at hdec
        cases hc : dcV (zL st) with
        | none =>
          have hz : zrec st = none := by rw [zrec, hc]; rfl
          rw [hz] at hr
          have hE : refFE l = 11 := by
            rw [refFE, if_neg (by omega), if_neg (by rw [hsb]; simp), ← hr]
          rw [hc] at hdec
          (conv => whnf); refine ACalls.use (hdec _) ?_
          conv => whnf
          exact .inl ⟨by rw [hE]; decide, by rw [hE]; rfl⟩
        | some rs =>
          have hz : zrec st = some ⟨nbV 1 st == 1, nbV 4 (tkS 1 st), rs⟩ := by rw [zrec, hc]; rfl
          rw [hz] at hr
          rw [hc] at hdec
          (conv => whnf); refine ACalls.use (hdec _) ?_
          (conv => whnf); refine recT (by rw [rC_length]; exact Nat.beq_refl _) ?_
          (conv => whnf); refine And.intro (⟨roomMul (by simp; omega) (by omega), roomB_le (by simp; omega), rfl, by rw [rC_length]⟩) ?_
          conv => whnf
          have hcn : rC L ++ [recC ⟨nbV 1 st == 1, nbV 4 (tkS 1 st), rs⟩] = rC (L ++ [⟨nbV 1 st == 1, nbV 4 (tkS 1 st), rs⟩]) := by rw [rC_append]; rfl
          have hcl := (congrArg List.length hcn).trans (rC_length _)
          refine ⟨k, by omega, Gp.some (n := 119) (live := [(0, .list false 1 (bC l)), (2, .ptr 0 1 0 0), (4, .ptr 1 1 0 0), (5, .ptr 2 1 0 0), (6, .int .i64 k)]) (H1 := [resO, rdO (rq4 st), zobj l (.sl 3 (rC L ++ [recC ⟨nbV 1 st == 1, nbV 4 (tkS 1 st), rs⟩]).length 0 (rC L ++ [recC ⟨nbV 1 st == 1, nbV 4 (tkS 1 st), rs⟩]).length), .arr 3 (rC L ++ [recC ⟨nbV 1 st == 1, nbV 4 (tkS 1 st), rs⟩])]) [0, 1, 2, 3] (by simp)
            ⟨⟨_, rfl, .same _ _ rfl⟩, ⟨_, rfl, .same _ _ rfl⟩, ⟨_, rfl, ob3 (.keep 3 _ _ _ 3 rfl) rfl⟩, ⟨_, rfl, .same _ _ ((congrArg pureEs hcn).trans (pureEs_rC _))⟩, trivial⟩ rfl ?_ fun ρ1 h => ⟨k, rq4 st, L ++ [⟨nbV 1 st == 1, nbV 4 (tkS 1 st), rs⟩], rfl, hr, by simp; omega, tkS_byt (tkS_byt (tkS_byt (tkS_byt hb))), .inr (by rw [hcn, rC_length]), h⟩⟩
          exact ⟨.closed _ rfl, .keepP 0 1 0 0 0 rfl, .keepP 1 1 0 0 1 rfl, .keepP 2 1 0 0 2 rfl, pub_int (by have := wrapI (((k + 1 : Nat) : Int) - 1) (by omega) (by omega); show IntKind.i64.wrap (((k + 1 : Nat) : Int) - 1) = _; omega), trivial⟩
      · simp at hbad
        have hzp : zP l = some (L, st) := by
          rw [← hr]
          cases m with
          | zero => rfl
          | succ j => rw [zlP, if_pos hbad]
        refine Ghost.some (n := 119) (live := [(0, .list false 1 (bC l)), (2, .ptr 0 1 0 0), (4, .ptr 1 1 0 0), (5, .ptr 2 1 0 0), (69, .bool false)]) (H1 := [resO, rdO st, zobj l (.list false 3 (rC L))]) [0, 1, 2] (by simp)
          ⟨⟨_, rfl, .same _ _ rfl⟩, ⟨_, rfl, .same _ _ rfl⟩, ⟨_, rfl, ob3 ?_ rfl⟩, trivial⟩ rfl ⟨.closed _ rfl, .keepP 0 1 0 0 0 rfl, .keepP 1 1 0 0 1 rfl, .keepP 2 1 0 0 2 rfl, (by show Pub _ 0 [0, 1, 2] (.bool (!st.bad)) (.bool false); rw [hbad]; exact .closed _ rfl), trivial⟩ ?_
        · have := Pub.frz (H1 := [resO, rdO st, zobj l (.sl 3 L.length 0 L.length), .arr 3 (rC L)]) (n := 0) (ids := [0, 1, 2]) 3 L.length 0 L.length 3 (rC L) rfl (by rw [rC_length]) (pureEs_rC _) (by simp)
          have e : ((rC L).drop 0).take L.length = rC L := by rw [List.drop_zero, List.take_of_length_le (by rw [rC_length]; exact Nat.le_refl _)]
          rwa [e] at this
        rintro ρ1 ⟨d, rfl⟩
        have hcw : WkD (.list false 3 (rC L)) (.list false 3 (rC L)) := .refl _
        have hE : refFE l = if st.bad = true ∨ encFE (zF l L) ≠ 0 ∨ filB (zF l L) ≠ l then 11 else 0 := by
          rw [refFE, if_neg (by omega), if_neg (by rw [hsb]; simp), hzp]
        have hen := fun H => (ref24_Encode_spec F.warehouseref24_Encode (zF l L) (Nat.le_trans (zt_size d1) (by omega)) (Nat.le_trans (zt_size d2) (by omega)) H).weakD (args := [.agg [.str (zt (z1 l)), .str (zt (z2 l)), (.list false 3 (rC L))]]) (.cons (.aggs (.cons (.refl _) (.cons (.refl _) (.cons hcw .nil)))) .nil)
        by_cases hz : encFE (zF l L) = 0
        · rw [encFR, if_pos hz] at hen
          (conv => whnf); refine ACalls.use (hen _) ?_
          (conv => whnf); refine recA (fun h6 => ?_) (fun h6 => ?_)
          · replace h6 : st.bad = true := h6
            conv => whnf
            exact bad 11 (by rw [hE, if_pos (.inl h6)]) (by decide)
          replace h6 : st.bad = false := h6
          (conv => whnf); refine ⟨_, bytesOf_bC _, ?_⟩
          (conv => whnf); refine ⟨_, bytesOf_bC _, ?_⟩
          (conv => whnf); refine recA (fun h7 => ?_) (fun h7 => ?_)
          · replace h7 : (!((filB (zF l L)).map (fun n => UInt8.ofNat n.toNat) == l.map (fun n => UInt8.ofNat n.toNat))) = true := h7
            rw [byt_beq (filB_byt _) hby] at h7
            simp at h7
            conv => whnf
            exact bad 11 (by rw [hE, if_pos (.inr (.inr h7))]) (by decide)
          · replace h7 : (!((filB (zF l L)).map (fun n => UInt8.ofNat n.toNat) == l.map (fun n => UInt8.ofNat n.toNat))) = false := h7
            rw [byt_beq (filB_byt _) hby] at h7
            simp at h7
            have hz0 : refFE l = 0 := by rw [hE, if_neg (by simp [h6, hz, h7])]
            have hv : refFV l = zF l L := by rw [refFV, if_pos hz0, hzp]
            conv => whnf
            exact .inr ⟨hz0, (.list false 3 (rC L)), by rw [hv]; exact (.inl rfl), by rw [hv]; rfl⟩
        · rw [encFR, if_neg hz] at hen
          (conv => whnf); refine ACalls.use (hen _) ?_
          (conv => whnf); refine recA (fun h6 => ?_) (fun h6 => ?_)
          · replace h6 : st.bad = true := h6
            conv => whnf
            exact bad 11 (by rw [hE, if_pos (.inl h6)]) (by decide)
          (conv => whnf); refine recT (by show (!(encFE (zF l L) == 0)) = true; simp [hz]) ?_
          conv => whnf
          exact bad 11 (by rw [hE, if_pos (.inr (.inl hz))]) (by decide)
    · simp at hlt
      have hm0 : m = 0 := by omega
      subst hm0
      have hzp : zP l = some (L, st) := hr.symm
      conv => whnf
      refine Ghost.some (n := 119) (live := [(0, .list false 1 (bC l)), (2, .ptr 0 1 0 0), (4, .ptr 1 1 0 0), (5, .ptr 2 1 0 0), (69, .bool false)]) (H1 := [resO, rdO st, zobj l (.list false 3 (rC L))]) [0, 1, 2] (by simp)
        ⟨⟨_, rfl, .same _ _ rfl⟩, ⟨_, rfl, .same _ _ rfl⟩, ⟨_, rfl, ob3 ?_ rfl⟩, trivial⟩ rfl ⟨.closed _ rfl, .keepP 0 1 0 0 0 rfl, .keepP 1 1 0 0 1 rfl, .keepP 2 1 0 0 2 rfl, (.closed _ rfl), trivial⟩ ?_
      · have := Pub.frz (H1 := [resO, rdO st, zobj l (.sl 3 L.length 0 L.length), .arr 3 (rC L)]) (n := 0) (ids := [0, 1, 2]) 3 L.length 0 L.length 3 (rC L) rfl (by rw [rC_length]) (pureEs_rC _) (by simp)
        have e : ((rC L).drop 0).take L.length = rC L := by rw [List.drop_zero, List.take_of_length_le (by rw [rC_length]; exact Nat.le_refl _)]
        rwa [e] at this
      rintro ρ1 ⟨d, rfl⟩
      have hcw : WkD (.list false 3 (rC L)) (.list false 3 (rC L)) := .refl _
      have hE : refFE l = if st.bad = true ∨ encFE (zF l L) ≠ 0 ∨ filB (zF l L) ≠ l then 11 else 0 := by
        rw [refFE, if_neg (by omega), if_neg (by rw [hsb]; simp), hzp]
      have hen := fun H => (ref24_Encode_spec F.warehouseref24_Encode (zF l L) (Nat.le_trans (zt_size d1) (by omega)) (Nat.le_trans (zt_size d2) (by omega)) H).weakD (args := [.agg [.str (zt (z1 l)), .str (zt (z2 l)), (.list false 3 (rC L))]]) (.cons (.aggs (.cons (.refl _) (.cons (.refl _) (.cons hcw .nil)))) .nil)
      by_cases hz : encFE (zF l L) = 0
      · rw [encFR, if_pos hz] at hen
        (conv => whnf); refine ACalls.use (hen _) ?_
        (conv => whnf); refine recA (fun h6 => ?_) (fun h6 => ?_)
        · replace h6 : st.bad = true := h6
          conv => whnf
          exact bad 11 (by rw [hE, if_pos (.inl h6)]) (by decide)
        replace h6 : st.bad = false := h6
        (conv => whnf); refine ⟨_, bytesOf_bC _, ?_⟩
        (conv => whnf); refine ⟨_, bytesOf_bC _, ?_⟩
        (conv => whnf); refine recA (fun h7 => ?_) (fun h7 => ?_)
        · replace h7 : (!((filB (zF l L)).map (fun n => UInt8.ofNat n.toNat) == l.map (fun n => UInt8.ofNat n.toNat))) = true := h7
          rw [byt_beq (filB_byt _) hby] at h7
          simp at h7
          conv => whnf
          exact bad 11 (by rw [hE, if_pos (.inr (.inr h7))]) (by decide)
        · replace h7 : (!((filB (zF l L)).map (fun n => UInt8.ofNat n.toNat) == l.map (fun n => UInt8.ofNat n.toNat))) = false := h7
          rw [byt_beq (filB_byt _) hby] at h7
          simp at h7
          have hz0 : refFE l = 0 := by rw [hE, if_neg (by simp [h6, hz, h7])]
          have hv : refFV l = zF l L := by rw [refFV, if_pos hz0, hzp]
          conv => whnf
          exact .inr ⟨hz0, (.list false 3 (rC L)), by rw [hv]; exact (.inl rfl), by rw [hv]; rfl⟩
      · rw [encFR, if_neg hz] at hen
        (conv => whnf); refine ACalls.use (hen _) ?_
        (conv => whnf); refine recA (fun h6 => ?_) (fun h6 => ?_)
        · replace h6 : st.bad = true := h6
          conv => whnf
          exact bad 11 (by rw [hE, if_pos (.inl h6)]) (by decide)
        (conv => whnf); refine recT (by show (!(encFE (zF l L) == 0)) = true; simp [hz]) ?_
        conv => whnf
        exact bad 11 (by rw [hE, if_pos (.inr (.inl hz))]) (by decide)

end Go.AW

namespace Go.AW
theorem tk_app (x rest : List Int) (n : Int) (hn : n = x.length) : tkL n ⟨x ++ rest, false⟩ = x ∧ tkZ n ⟨x ++ rest, false⟩ = x ∧ tkS n ⟨x ++ rest, false⟩ = ⟨rest, false⟩ := by
  subst hn
  have h : tkB x.length ⟨x ++ rest, false⟩ = true := by simp [tkB]; omega
  refine ⟨?_, ?_, ?_⟩
  · rw [tkL, h, if_pos rfl]; simp
  · rw [tkZ, h, if_pos rfl]; simp
  · rw [tkS, h, if_pos rfl]; simp

theorem num_be : ∀ (k : Nat) (n : Int), 0 ≤ n → n < 256 ^ k → num (beN k n) = n
  | 0, n, h0, h1 => by simp at h1; rw [beN]; show (0 : Int) = n; omega
  | k + 1, n, h0, h1 => by
    rw [Int.pow_succ] at h1
    have ih := num_be k (n / 256) (by omega) (by omega)
    rw [num] at ih
    rw [beN, num, List.foldl_append, ih]
    show n / 256 * 256 + n % 256 = n
    omega

theorem nb_app (x rest : List Int) (n : Int) (hn : n = x.length) : nbV n ⟨x ++ rest, false⟩ = num x := by rw [nbV, (tk_app x rest n hn).1]

theorem text_app (s : ByteArray) (rest : List Int) (hs : s.size ≤ 255) :
    txV ⟨(u8 s.size :: bytesI s) ++ rest, false⟩ = s ∧ zt ⟨(u8 s.size :: bytesI s) ++ rest, false⟩ = s ∧ txS ⟨(u8 s.size :: bytesI s) ++ rest, false⟩ = ⟨rest, false⟩ := by
  have e1 : (u8 s.size :: bytesI s) ++ rest = [u8 s.size] ++ (bytesI s ++ rest) := rfl
  have hn : nbV 1 ⟨(u8 s.size :: bytesI s) ++ rest, false⟩ = s.size := by
    rw [e1, nb_app [u8 s.size] _ 1 rfl]
    show 0 * 256 + u8 s.size = _
    rw [u8_eq]; omega
  have ht : tkS 1 ⟨(u8 s.size :: bytesI s) ++ rest, false⟩ = ⟨bytesI s ++ rest, false⟩ := by
    rw [e1]; exact (tk_app [u8 s.size] _ 1 rfl).2.2
  have hb := tk_app (bytesI s) rest s.size (by rw [bytesI_length])
  rw [txV, zt, txS, hn, ht, hb.1, hb.2.1, hb.2.2, strOf_bytesI]
  exact ⟨rfl, rfl, rfl⟩

theorem valC_inj {a b : V} (h : valC a = valC b) : a = b := by
  cases a; cases b
  simp [valC] at h
  obtain ⟨rfl, rfl, rfl⟩ := h
  rfl

theorem vC_inj : ∀ {a b : List V}, vC a = vC b → a = b
  | [], [], _ => rfl
  | [], _ :: _, h => by simp [vC] at h
  | _ :: _, [], h => by simp [vC] at h
  | x :: a, y :: b, h => by
    simp only [vC, List.map_cons, List.cons.injEq] at h
    rw [valC_inj h.1, vC_inj (a := a) (b := b) h.2]

theorem dcV_enc {row : List V} (h : rowE row = 0) : dcV (encB row) = some row := by
  obtain ⟨h1, h2⟩ := rowE_zero h
  have h3 := decR_enc row h1 fun v hv => List.all_eq_true.1 h2 v hv
  rw [decR_eq] at h3
  cases hc : dcV (encB row) with
  | none => rw [hc] at h3; simp at h3
  | some rs =>
    rw [hc] at h3
    simp only [AVal.tuple.injEq, List.cons.injEq, AVal.list.injEq] at h3
    rw [vC_inj h3.1.2.2]

theorem rec_app {r : Rec} (h : recE r = 0) (rest : List Int) :
    recV ⟨recB r ++ rest, false⟩ = r ∧ recS ⟨recB r ++ rest, false⟩ = ⟨rest, false⟩ ∧ zrec ⟨recB r ++ rest, false⟩ = some r ∧ rq4 ⟨recB r ++ rest, false⟩ = ⟨rest, false⟩ := by
  obtain ⟨s0, s1, hr⟩ := recE_zero h
  have hel := encB_len hr
  have e1 : recB r ++ rest = [if r.del then 1 else 0] ++ (beN 4 r.seq ++ (beN 2 (encB r.row).length ++ (encB r.row ++ rest))) := by simp [recB]
  have t1 : tkS 1 ⟨recB r ++ rest, false⟩ = ⟨beN 4 r.seq ++ (beN 2 (encB r.row).length ++ (encB r.row ++ rest)), false⟩ := by rw [e1]; exact (tk_app [_] _ 1 rfl).2.2
  have t2 : tkS 4 (tkS 1 ⟨recB r ++ rest, false⟩) = ⟨beN 2 (encB r.row).length ++ (encB r.row ++ rest), false⟩ := by rw [t1]; exact (tk_app _ _ 4 (by rw [beN_length]; rfl)).2.2
  have t3 : rq3 ⟨recB r ++ rest, false⟩ = ⟨encB r.row ++ rest, false⟩ := by rw [rq3, t2]; exact (tk_app _ _ 2 (by rw [beN_length]; rfl)).2.2
  have n1 : nbV 1 ⟨recB r ++ rest, false⟩ = if r.del then 1 else 0 := by
    rw [e1, nb_app [_] _ 1 rfl]; show 0 * 256 + _ = _; omega
  have n2 : nbV 4 (tkS 1 ⟨recB r ++ rest, false⟩) = r.seq := by
    rw [t1, nb_app _ _ 4 (by rw [beN_length]; rfl), num_be 4 _ s0 (by omega)]
  have n3 : nbV 2 (tkS 4 (tkS 1 ⟨recB r ++ rest, false⟩)) = (encB r.row).length := by
    rw [t2, nb_app _ _ 2 (by rw [beN_length]; rfl), num_be 2 _ (by omega) (by omega)]
  have tl := tk_app (encB r.row) rest _ rfl
  have hL : rqL ⟨recB r ++ rest, false⟩ = encB r.row := by rw [rqL, n3, t3, tl.1]
  have hZ : zL ⟨recB r ++ rest, false⟩ = encB r.row := by rw [zL, n3, t3, tl.2.1]
  have h4 : rq4 ⟨recB r ++ rest, false⟩ = ⟨rest, false⟩ := by rw [rq4, n3, t3, tl.2.2]
  have hd : (!((if r.del then (1 : Int) else 0) == 0)) = r.del := by cases r.del <;> rfl
  have hd2 : ((if r.del then (1 : Int) else 0) == 1) = r.del := by cases r.del <;> rfl
  refine ⟨?_, ?_, ?_, h4⟩
  · rw [recV, n1, n2, hL, dcV_enc hr, hd]; rfl
  · rw [recS, hL, dcV_enc hr]; exact h4
  · rw [zrec, hZ, dcV_enc hr, n1, n2, hd2]; rfl

theorem recs_app : ∀ (l : List Rec), recsE l = 0 → ∀ (rest : List Int) (L : List Rec),
    flP l.length ⟨l.flatMap recB ++ rest, false⟩ L = (L ++ l, ⟨rest, false⟩) ∧ zlP l.length ⟨l.flatMap recB ++ rest, false⟩ L = some (L ++ l, ⟨rest, false⟩)
  | [], _, rest, L => by simp [flP, zlP]
  | r :: l, h, rest, L => by
    have hr := recsE_zero h r (List.mem_cons_self ..)
    have hl : recsE l = 0 := by rw [recsE, if_neg (by simp [hr])] at h; exact h
    obtain ⟨a1, a2, a3, a4⟩ := rec_app hr (l.flatMap recB ++ rest)
    have ih := recs_app l hl rest (L ++ [r])
    rw [List.flatMap_cons, List.append_assoc, List.length_cons, flP, if_neg (by simp), zlP, if_neg (by simp), a1, a2, a3, a4]
    simp only []
    rw [ih.1, ih.2, List.append_assoc]
    exact ⟨rfl, rfl⟩

theorem nameB_size {s : ByteArray} (h : nameB s = true) : s.size ≤ 24 := by
  simp only [nameB, Bool.and_eq_true, decide_eq_true_eq] at h; exact h.1

theorem qualB_size {s : ByteArray} (h : qualB s = true) : s.size ≤ 49 := by
  unfold qualB at h
  split at h
  · rename_i h0
    simp only [Bool.and_eq_true] at h
    have h1 := nameB_size h.1
    have h2 := nameB_size h.2
    have hd : dotAt s < s.size := by
      rcases ib_cases s.data.toList 46 with hx | ⟨i, hx, hl⟩
      · rw [dotAt, hx] at h0; omega
      · rw [dotAt, hx]
        have : s.data.toList.length = s.size := by simp
        omega
    rw [ByteArray.size_extract] at h1 h2
    omega
  · have := nameB_size h; omega

theorem parse_enc {f : Fil} (h : filE f = 0) : flV ⟨bodyB f, false⟩ = f ∧ flS ⟨bodyB f, false⟩ = ⟨[], false⟩ := by
  obtain ⟨h1, h2, h3, h4⟩ := filE_ok h
  have hi := nameB_size h3
  have hs := qualB_size h4
  have e0 : bodyB f = [87, 72, 70, 49] ++ ((u8 f.id.size :: bytesI f.id) ++ ((u8 f.src.size :: bytesI f.src) ++ (beN 2 f.recs.length ++ (f.recs.flatMap recB ++ [])))) := by
    simp [bodyB, headB]
  rw [e0]
  have hm : magic ⟨[87, 72, 70, 49] ++ ((u8 f.id.size :: bytesI f.id) ++ ((u8 f.src.size :: bytesI f.src) ++ (beN 2 f.recs.length ++ (f.recs.flatMap recB ++ [])))), false⟩ = true := by
    rw [magic, (tk_app _ _ 4 rfl).1]; rfl
  have f1 : fl1 ⟨[87, 72, 70, 49] ++ ((u8 f.id.size :: bytesI f.id) ++ ((u8 f.src.size :: bytesI f.src) ++ (beN 2 f.recs.length ++ (f.recs.flatMap recB ++ [])))), false⟩ = ⟨(u8 f.id.size :: bytesI f.id) ++ ((u8 f.src.size :: bytesI f.src) ++ (beN 2 f.recs.length ++ (f.recs.flatMap recB ++ []))), false⟩ := by
    rw [fl1, hm, if_pos rfl, (tk_app _ _ 4 rfl).2.2]
  have x1 := text_app f.id ((u8 f.src.size :: bytesI f.src) ++ (beN 2 f.recs.length ++ (f.recs.flatMap recB ++ []))) (by omega)
  have x2 := text_app f.src (beN 2 f.recs.length ++ (f.recs.flatMap recB ++ [])) (by omega)
  have x3 := recs_app f.recs h1 [] []
  have nn : nbV 2 ⟨beN 2 f.recs.length ++ (f.recs.flatMap recB ++ []), false⟩ = f.recs.length := by
    rw [nb_app _ _ 2 (by rw [beN_length]; rfl), num_be 2 _ (by omega) (by omega)]
  have ns : tkS 2 ⟨beN 2 f.recs.length ++ (f.recs.flatMap recB ++ []), false⟩ = ⟨f.recs.flatMap recB ++ [], false⟩ := (tk_app _ _ 2 (by rw [beN_length]; rfl)).2.2
  rw [flV, flS, flN, fl4, fl3, fl2, f1, x1.1, x1.2.2, x2.1, x2.2.2, nn, ns, Int.toNat_natCast, x3.1]
  exact ⟨rfl, rfl⟩

theorem zparse_enc {f : Fil} (h : filE f = 0) (l : List Int) (hl : dS l = ⟨bodyB f, false⟩) : zP l = some (f.recs, ⟨[], false⟩) ∧ zF l f.recs = f := by
  obtain ⟨h1, h2, h3, h4⟩ := filE_ok h
  have hi := nameB_size h3
  have hs := qualB_size h4
  have e0 : bodyB f = [87, 72, 70, 49] ++ ((u8 f.id.size :: bytesI f.id) ++ ((u8 f.src.size :: bytesI f.src) ++ (beN 2 f.recs.length ++ (f.recs.flatMap recB ++ [])))) := by
    simp [bodyB, headB]
  have f1 : z1 l = ⟨(u8 f.id.size :: bytesI f.id) ++ ((u8 f.src.size :: bytesI f.src) ++ (beN 2 f.recs.length ++ (f.recs.flatMap recB ++ []))), false⟩ := by
    rw [z1, hl, e0, (tk_app _ _ 4 rfl).2.2]
  have x1 := text_app f.id ((u8 f.src.size :: bytesI f.src) ++ (beN 2 f.recs.length ++ (f.recs.flatMap recB ++ []))) (by omega)
  have x2 := text_app f.src (beN 2 f.recs.length ++ (f.recs.flatMap recB ++ [])) (by omega)
  have x3 := recs_app f.recs h1 [] []
  have nn : nbV 2 ⟨beN 2 f.recs.length ++ (f.recs.flatMap recB ++ []), false⟩ = f.recs.length := by
    rw [nb_app _ _ 2 (by rw [beN_length]; rfl), num_be 2 _ (by omega) (by omega)]
  have ns : tkS 2 ⟨beN 2 f.recs.length ++ (f.recs.flatMap recB ++ []), false⟩ = ⟨f.recs.flatMap recB ++ [], false⟩ := (tk_app _ _ 2 (by rw [beN_length]; rfl)).2.2
  rw [zP, zF, zN, z4, z3, z2, f1, x1.2.1, x1.2.2, x2.2.1, x2.2.2, nn, ns, Int.toNat_natCast, x3.2]
  exact ⟨rfl, rfl⟩

theorem filB_split (f : Fil) : (filB f).length = (bodyB f).length + 4 ∧ dS (filB f) = ⟨bodyB f, false⟩ ∧ sumBad (filB f) = false := by
  have hl : (filB f).length = (bodyB f).length + 4 := by rw [filB, List.length_append, beN_length]
  have ht : (filB f).take ((filB f).length - 4) = bodyB f := by rw [hl, filB]; simp
  have hd : (filB f).drop ((filB f).length - 4) = beN 4 (fnv (bodyB f)) := by rw [hl, filB]; simp
  refine ⟨hl, by rw [dS, ht], ?_⟩
  rw [sumBad, ht, hd, decide_eq_false (by omega)]
  simp

theorem encFE_zero {f : Fil} (h : encFE f = 0) : filE f = 0 ∧ (filB f).length ≤ 65536 := by
  unfold encFE at h
  split at h
  · rename_i hx; exact absurd h hx
  · rename_i hx
    split at h
    · cases h
    · exact ⟨by simpa using hx, by omega⟩

theorem dec_enc {f : Fil} (h : encFE f = 0) : decFE (filB f) = 0 ∧ decFV (filB f) = f ∧ refFE (filB f) = 0 ∧ refFV (filB f) = f := by
  obtain ⟨h1, h2⟩ := encFE_zero h
  obtain ⟨_, s2, s3⟩ := filB_split f
  obtain ⟨p1, p2⟩ := parse_enc h1
  obtain ⟨q1, q2⟩ := zparse_enc h1 (filB f) s2
  have d : decFE (filB f) = 0 := by
    rw [decFE, if_neg (by omega), if_neg (by rw [s3]; simp), s2, p1, p2, if_neg (by simp), if_neg (by simp [h])]
  have r : refFE (filB f) = 0 := by
    rw [refFE, if_neg (by omega), if_neg (by rw [s3]; simp), q1]
    simp only []
    rw [q2, if_neg (by simp [h])]
  refine ⟨d, by rw [decFV, if_pos d, s2, p1], r, ?_⟩
  rw [refFV, if_pos r, q1]
  exact q2

theorem dec_same (l : List Int) : refFE l = decFE l ∧ refFV l = decFV l := by
  have d0 : decFE l = 0 → encFE (flV (dS l)) = 0 ∧ filB (flV (dS l)) = l := fun h => by
    unfold decFE at h
    split at h; · cases h
    split at h; · cases h
    split at h; · cases h
    split at h
    · cases h
    · rename_i hx; exact ⟨Classical.byContradiction fun hn => hx (.inl hn), Classical.byContradiction fun hn => hx (.inr hn)⟩
  by_cases hd : decFE l = 0
  · obtain ⟨e1, e2⟩ := d0 hd
    have := dec_enc e1
    rw [e2] at this
    exact ⟨this.2.2.1.trans hd.symm, this.2.2.2.trans this.2.1.symm⟩
  · have r0 : refFE l ≠ 0 := fun h => by
      have h' := h
      unfold refFE at h
      split at h; · cases h
      split at h; · cases h
      split at h
      · cases h
      · rename_i L st hz
        split at h
        · cases h
        · rename_i hx
          have e1 : encFE (zF l L) = 0 := Classical.byContradiction fun hn => hx (.inr (.inl hn))
          have e2 : filB (zF l L) = l := Classical.byContradiction fun hn => hx (.inr (.inr hn))
          have := dec_enc e1
          rw [e2] at this
          exact hd this.1
    refine ⟨?_, by rw [refFV, if_neg r0, decFV, if_neg hd]⟩
    unfold decFE at hd ⊢
    unfold refFE at r0 ⊢
    split
    · rfl
    · rename_i g1
      rw [if_neg g1] at hd r0
      split
      · rfl
      · rename_i g2
        rw [if_neg g2] at hd r0
        have a : (if (flS (dS l)).bad = true ∨ 0 < (flS (dS l)).rest.length then (11 : Int) else if encFE (flV (dS l)) ≠ 0 ∨ filB (flV (dS l)) ≠ l then 11 else 0) = 11 := by
          split
          · rfl
          · rename_i g3
            rw [if_neg g3] at hd
            split
            · rfl
            · rename_i g4; rw [if_neg g4] at hd; exact absurd rfl hd
        rw [a]
        revert r0
        cases zP l with
        | none => intro _; rfl
        | some p =>
          obtain ⟨L, st⟩ := p
          simp only []
          intro r0
          split
          · rfl
          · rename_i g5; rw [if_neg g5] at r0; exact absurd rfl r0

end Go.AW

namespace Go.AW
attribute [local irreducible] ACalls
set_option maxRecDepth 20000 in
theorem ref22_SameRow_refl {P : Program} (F : F_warehouseref22_SameRow P) (e1 e2 : Bool) (a : List V) (ha : a.length ≤ 1000000) (H : List AObj) :
    ACalls P F.id [.list e1 3 (vC a), .list e2 3 (vC a)] H (fun r H' => r = .bool true ∧ H' = H) := by
  refine ACalls.pure (by simp [AVal.closed, AVal.isPure]) (acalls_of_body F.has ?_)
  (conv => whnf); refine recF (by simp) ?_
  conv => whnf
  refine ⟨fun m ρ H => ∃ k : Nat, k + m = a.length ∧ H = [] ∧ Sv 26 [(0, .list e1 3 (vC a)), (1, .list e2 3 (vC a)), (5, .int .i64 k)] ρ, a.length, [], ?_, ?_⟩
  · exact ⟨0, by omega, rfl, Sv.intro rfl ⟨rfl, rfl, rfl, trivial⟩⟩
  rintro m ρ H ⟨k, hk, rfl, d, rfl⟩
  (conv => whnf); refine recA (fun hlt => ?_) (fun hlt => ?_)
  · simp [vC_length] at hlt
    obtain ⟨x, hx, _, _⟩ := get_drop hlt
    (conv => whnf); refine And.intro (by omega) ?_
    (conv => whnf); refine recO (vC_at hx) ?_
    (conv => whnf); refine And.intro (by omega) ?_
    (conv => whnf); refine recO (vC_at hx) ?_
    (conv => whnf); refine recF (by simp) ?_
    conv => whnf
    refine ⟨m - 1, by omega, Gp.keep rfl ?_ fun ρ1 h => ⟨k + 1, by omega, rfl, h⟩⟩
    exact ⟨rfl, rfl, intEq (wrapI ((k : Int) + 1) (by omega) (by omega)), trivial⟩
  · conv => whnf
    exact .closed _ rfl

theorem SameRecord_refl {P : Program} (F : F_warehouseref24_SameRecord P) (r : Rec) (ha : r.row.length ≤ 1000000) (H : List AObj) :
    ACalls P F.id [.agg (recC r), .agg (recC r)] H (fun q H' => q = .bool true ∧ H' = H) := by
  refine ACalls.pure (by simp [AVal.closed, recC, AVal.isPure]) (acalls_of_body F.has ?_)
  (conv => whnf); refine recT (by simp) ?_
  (conv => whnf); refine recT (by simp) ?_
  (conv => whnf); refine ACalls.use (ref22_SameRow_refl F.warehouseref22_SameRow false false r.row ha _) ?_
  conv => whnf
  exact .closed _ rfl

set_option maxRecDepth 20000 in
theorem SameFile_refl {P : Program} (F : F_warehouseref24_SameFile P) (f : Fil) (ha : f.recs.length ≤ 1000000) (hr : ∀ r ∈ f.recs, r.row.length ≤ 1000000) (H : List AObj) :
    ACalls P F.id [.agg (fV f), .agg (fV f)] H (fun q H' => q = .bool true ∧ H' = H) := by
  refine ACalls.pure (by simp [AVal.closed, fV, AVal.isPure]) (acalls_of_body F.has ?_)
  (conv => whnf); refine recF (by simp) ?_
  (conv => whnf); refine recF (by simp) ?_
  (conv => whnf); refine recF (by simp) ?_
  conv => whnf
  refine ⟨fun m ρ H => ∃ k : Nat, k + m = f.recs.length ∧ H = [.arr 3 [fV f], .arr 3 [fV f]] ∧ Sv 46 [(2, .ptr 0 1 0 0), (3, .ptr 1 1 0 0), (5, .int .i64 k)] ρ, f.recs.length, [], ?_, ?_⟩
  · exact ⟨0, by omega, rfl, Sv.intro rfl ⟨rfl, rfl, rfl, trivial⟩⟩
  rintro m ρ H ⟨k, hk, rfl, d, rfl⟩
  (conv => whnf); refine recA (fun hlt => ?_) (fun hlt => ?_)
  · simp [rC_length] at hlt
    obtain ⟨x, hx, _, hxm⟩ := get_drop hlt
    (conv => whnf); refine And.intro (by omega) ?_
    (conv => whnf); refine recO (rC_at hx) ?_
    (conv => whnf); refine And.intro (by omega) ?_
    (conv => whnf); refine recO (rC_at hx) ?_
    (conv => whnf); refine ⟨_, SameRecord_refl F.warehouseref24_SameRecord x (hr x hxm) _, ?_⟩
    conv => whnf
    refine ⟨m - 1, by omega, Gp.keep rfl ?_ fun ρ1 h => ⟨k + 1, by omega, rfl, h⟩⟩
    exact ⟨rfl, rfl, intEq (wrapI ((k : Int) + 1) (by omega) (by omega)), trivial⟩
  · conv => whnf
    exact .closed _ rfl

theorem filE_small {f : Fil} (h : filE f = 0) : f.recs.length ≤ 1000000 ∧ ∀ r ∈ f.recs, r.row.length ≤ 1000000 := by
  obtain ⟨h1, h2, _⟩ := filE_ok h
  exact ⟨by omega, fun r hr => by have := (rowE_zero (recE_zero (recsE_zero h1 r hr)).2.2).1; omega⟩

theorem decFV_small (l : List Int) : (decFV l).recs.length ≤ 1000000 ∧ ∀ r ∈ (decFV l).recs, r.row.length ≤ 1000000 := by
  by_cases h : decFE l = 0
  · have e : encFE (flV (dS l)) = 0 := by
      unfold decFE at h
      split at h; · cases h
      split at h; · cases h
      split at h; · cases h
      split at h
      · cases h
      · rename_i hx; exact Classical.byContradiction fun hn => hx (.inl hn)
    rw [decFV, if_pos h]
    exact filE_small (encFE_zero e).1
  · rw [decFV, if_neg h]
    exact ⟨by simp [f0], fun r hr => by simp [f0] at hr⟩

def fk : Fil := ⟨bs [97], bs [115], []⟩

theorem fk_E : encFE fk = 0 := by
  have h1 : filE fk = 0 := by kernel_rfl
  have h2 : (filB fk).length = 14 := by
    rw [filB, List.length_append, beN_length, bodyB]
    simp [headB, fk, bytesI_length, beN_length]; rfl
  rw [encFE, if_neg (by simp [h1]), if_neg (by omega)]

theorem fnv_a : fnv [97] = 3826002220 := by kernel_rfl

set_option maxRecDepth 20000 in
theorem known24_spec {P : Program} (F : F_warehouselaw24_known P) (H : List AObj) :
    ACalls P F.id [] H (fun r H' => r = .bool true ∧ H' = H) := by
  refine ACalls.pure rfl (acalls_of_body F.has ?_)
  have hen := fun H => (batch_Encode_spec F.batch_Encode fk (by decide) (by decide) H).weakD (args := [.agg [.str (bs [97]), .str (bs [115]), .nil]]) (.cons (.aggs (.cons (.refl _) (.cons (.refl _) (.cons (.nil false 3) .nil)))) .nil)
  rw [encFR, if_pos fk_E] at hen
  (conv => whnf); refine ACalls.use (hen _) ?_
  have hde := fun H => batch_Decode_spec F.batch_Decode (filB fk) (filB_byt _) H
  rw [(dec_enc fk_E).1, (dec_enc fk_E).2.1] at hde
  (conv => whnf); refine ACalls.use (hde _) ?_
  conv => whnf
  refine ACalls.use ((Checksum_spec F.batch_Checksum false [] (by simp) _).weak (.cons (.nil false 1) .nil)) ?_
  (conv => whnf); refine ACalls.use (Checksum_own F.batch_Checksum [97] (by simp) _ 1 rfl) ?_
  rw [fnv_a]
  conv => whnf
  exact .closed _ rfl

set_option maxRecDepth 20000 in
theorem law_BatchChecksum {P : Program} (F : F_warehouselaw24_BatchChecksum P) (b : List Int) (_ : b.length ≤ maxLen) (hw : ∀ x ∈ b, (Lit.int .u8 x).wf = true) :
    ACalls P F.id [.list false 1 (bC b)] [] (fun r _ => r = .bool true) := by
  have hb : Byt b := fun x hx => bounds_u8 (hw x hx)
  have fin : ∀ H, ACalls P F.warehouselaw24_known.id [] H (fun r H' => r = .bool true ∧ H' = H) := known24_spec F.warehouselaw24_known
  refine acalls_of_body F.has ?_
  (conv => whnf); refine recA (fun h0 => ?_) (fun h0 => ?_)
  · (conv => whnf); refine ACalls.use (fin _) ?_
    conv => whnf
  simp [bC_length] at h0
  (conv => whnf); refine ACalls.use (Checksum_spec F.batch_Checksum false b (by omega) _) ?_
  (conv => whnf); refine ACalls.use (ref24_Checksum_spec F.warehouseref24_Checksum false b (by omega) hb _) ?_
  (conv => whnf); refine recT (by simp) ?_
  (conv => whnf); refine ACalls.use (fin _) ?_
  conv => whnf

end Go.AW

namespace Go.AW
attribute [local irreducible] ACalls
theorem pubFI {H1 : List AObj} {n : Nat} {ids : List Nat} {id ep len sz : Nat} {es : List (List AVal)} (hid : id ∉ ids) (ho : H1[id]? = some (.arr sz es)) (he : ep = es.length) (hl : len = es.length) (hp : pureEs es = true) : Pub H1 n ids (.sl id ep 0 len) (.list false sz es) := by
  subst hl he
  have := Pub.frz (n := n) (ids := ids) id es.length 0 es.length sz es ho rfl hp hid
  rwa [List.drop_zero, List.take_length] at this

theorem ob1s {H : List AObj} {ids : List Nat} (xs ys : List AVal) (hl : xs.length = ys.length) (h : ∀ (i : Nat) (x y : AVal), xs[i]? = some x → ys[i]? = some y → Pub H 0 ids x y ∧ y.isCell = true) : ObP H ids (.arr 1 (xs.map fun x => [x])) (.arr 1 (ys.map fun x => [x])) := by
  refine .map 1 _ _ (by simp [hl]) (fun i e e1 h1 h2 => ?_) (fun i j e e1 d d1 h1 h2 h3 h4 => ?_)
  · rw [List.getElem?_map] at h1 h2
    obtain ⟨x, _, rfl⟩ := Option.map_eq_some_iff.1 h1
    obtain ⟨y, _, rfl⟩ := Option.map_eq_some_iff.1 h2
    rfl
  · rw [List.getElem?_map] at h1 h2
    obtain ⟨x, hx, rfl⟩ := Option.map_eq_some_iff.1 h1
    obtain ⟨y, hy, rfl⟩ := Option.map_eq_some_iff.1 h2
    rcases j with _ | j
    · cases h3; cases h4; exact h i _ _ hx hy
    · simp at h3

def sum4 (n : Int) : List Int := [u8 (n.fdiv (2 ^ 24)), u8 (n.fdiv (2 ^ 16)), u8 (n.fdiv (2 ^ 8)), u8 n]

theorem sum4_byt (n : Int) : Byt (sum4 n) := fun x hx => by
  have : ∀ m, 0 ≤ u8 m ∧ u8 m ≤ 255 := fun m => by rw [u8_eq]; omega
  simp [sum4] at hx
  rcases hx with rfl | rfl | rfl | rfl <;> exact this _

set_option maxRecDepth 20000 in
theorem law_BatchDecode {P : Program} (F : F_warehouselaw24_BatchDecode P) (b : List Int) (_ : b.length ≤ maxLen) (hw : ∀ x ∈ b, (Lit.int .u8 x).wf = true) :
    ACalls P F.id [.list false 1 (bC b)] [] (fun r _ => r = .bool true) := by
  have hb : Byt b := fun x hx => bounds_u8 (hw x hx)
  have fin : ∀ H, ACalls P F.warehouselaw24_known.id [] H (fun r H' => r = .bool true ∧ H' = H) := known24_spec F.warehouselaw24_known
  refine acalls_of_body F.has ?_
  (conv => whnf); refine recA (fun h0 => ?_) (fun h0 => ?_)
  · (conv => whnf); refine ACalls.use (fin _) ?_
    conv => whnf
  simp [bC_length] at h0
  (conv => whnf); refine ACalls.use (ref24_Checksum_spec F.warehouseref24_Checksum false b (by omega) hb _) ?_
  (conv => whnf); refine And.intro (⟨roomB_le1 (by rw [bC_length]; omega), roomB_le (by rw [bC_length]; omega)⟩) ?_
  (conv => whnf); refine And.intro (by decide) ?_
  (conv => whnf); refine And.intro (by decide) ?_
  (conv => whnf); refine And.intro (by decide) ?_
  try ((conv => whnf); refine recT (Nat.beq_refl _) ?_)
  (conv => whnf); refine And.intro (⟨roomB_le1 (by simp [bC_length]; omega), roomB_le (by simp [bC_length]; omega), rfl, rfl⟩) ?_
  conv => whnf
  have hB : bC b ++ bC (sum4 (fnv b)) = bC (b ++ sum4 (fnv b)) := (bC_append _ _).symm
  have hb2 : Byt (b ++ sum4 (fnv b)) := fun x hx => (List.mem_append.1 hx).elim (hb x) (sum4_byt _ x)
  refine Ghost.some (n := 59) (live := [(32, .sl 0 2 0 2), (33, .int .i64 2), (34, .int .i64 0)]) (H1 := [.arr 1 [[.list false 1 (bC b)], [.list false 1 (bC (b ++ sum4 (fnv b)))]]]) [1] (by simp) ⟨⟨_, rfl, ?_⟩, trivial⟩ rfl ⟨.keep 1 2 0 2 0 rfl, .closed _ rfl, .closed _ rfl, trivial⟩ ?_
  · refine ob1s [.list false 1 (bC b), _] [.list false 1 (bC b), .list false 1 (bC (b ++ sum4 (fnv b)))] rfl fun i x y h1 h2 => ?_
    rcases i with _ | _ | i
    · cases h1; cases h2; exact ⟨.closed _ rfl, rfl⟩
    · cases h1; cases h2
      refine ⟨?_, rfl⟩
      rw [← hB]
      exact pubFI (by simp) rfl rfl rfl (by rw [hB]; exact pureEs_bC _)
    · simp at h1
  rintro ρ1 ⟨d, rfl⟩
  conv => whnf
  refine ⟨fun m ρ H1 => ∃ k : Nat, k + m = 2 ∧ H1 = [.arr 1 [[.list false 1 (bC b)], [.list false 1 (bC (b ++ sum4 (fnv b)))]]] ∧ Sv 59 [(32, .sl 0 2 0 2), (33, .int .i64 2), (34, .int .i64 k)] ρ, 2, [], ?_, ?_⟩
  · exact ⟨0, by omega, rfl, Sv.intro rfl ⟨rfl, rfl, rfl, trivial⟩⟩
  rintro m ρ H1 ⟨k, hk, rfl, d, rfl⟩
  have hk3 : k = 0 ∨ k = 1 ∨ k = 2 := by omega
  rcases hk3 with rfl | rfl | rfl
  · (conv => whnf); refine And.intro (⟨by decide, by decide⟩) ?_
    (conv => whnf); refine ACalls.mono (batch_Decode_spec F.batch_Decode (b) (hb) _) ?_
    rintro r H' ⟨rfl, rfl⟩
    (conv => whnf); refine ACalls.mono (ref24_Decode_spec F.warehouseref24_Decode (b) (hb) _) ?_
    rintro r H' ⟨rfl, rfl⟩
    rw [(dec_same (b)).1, (dec_same (b)).2]
    (conv => whnf); refine recF (by simp) ?_
    (conv => whnf); refine ACalls.use (SameFile_refl F.warehouseref24_SameFile (decFV (b)) (decFV_small _).1 (decFV_small _).2 _) ?_
    conv => whnf
    refine ⟨m - 1, by omega, Gp.first 1 [.arr 1 [[.list false 1 (bC b)], [.list false 1 (bC (b ++ sum4 (fnv b)))]]] rfl rfl rfl rfl ?_ fun ρ1 h => ⟨1, by omega, rfl, h⟩⟩
    exact ⟨.keep 0 2 0 2 0 rfl, .closed _ rfl, .closed _ rfl, trivial⟩
  · (conv => whnf); refine And.intro (⟨by decide, by decide⟩) ?_
    (conv => whnf); refine ACalls.mono (batch_Decode_spec F.batch_Decode (b ++ sum4 (fnv b)) (hb2) _) ?_
    rintro r H' ⟨rfl, rfl⟩
    (conv => whnf); refine ACalls.mono (ref24_Decode_spec F.warehouseref24_Decode (b ++ sum4 (fnv b)) (hb2) _) ?_
    rintro r H' ⟨rfl, rfl⟩
    rw [(dec_same (b ++ sum4 (fnv b))).1, (dec_same (b ++ sum4 (fnv b))).2]
    (conv => whnf); refine recF (by simp) ?_
    (conv => whnf); refine ACalls.use (SameFile_refl F.warehouseref24_SameFile (decFV (b ++ sum4 (fnv b))) (decFV_small _).1 (decFV_small _).2 _) ?_
    conv => whnf
    refine ⟨m - 1, by omega, Gp.first 1 [.arr 1 [[.list false 1 (bC b)], [.list false 1 (bC (b ++ sum4 (fnv b)))]]] rfl rfl rfl rfl ?_ fun ρ1 h => ⟨2, by omega, rfl, h⟩⟩
    exact ⟨.keep 0 2 0 2 0 rfl, .closed _ rfl, .closed _ rfl, trivial⟩
  · (conv => whnf); refine ACalls.use (fin _) ?_
    conv => whnf

end Go.AW

