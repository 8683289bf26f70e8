/-
  Decoding undoes encoding: the plain law, and the law on round trips.
  No condition: contracts over any program that has this code.
-/
import Derived.Test.YtikifhfpiahnoaaWhLaw1b
namespace Go.AW
attribute [local irreducible] ACalls

theorem u8_eq (n : Int) : u8 n = n % 256 := by
  show IntKind.u8.wrap n = _
  simp [IntKind.wrap, IntKind.signed, IntKind.bits]

theorem num_w4 (x : Int) (h0 : 0 ≤ x) (h1 : x < 4294967296) : num (w4 x) = x := by
  simp only [num, w4, List.foldl_cons, List.foldl_nil, u8_eq]
  rw [Int.fdiv_eq_ediv_of_nonneg _ (by omega), Int.fdiv_eq_ediv_of_nonneg _ (by omega), Int.fdiv_eq_ediv_of_nonneg _ (by omega)]
  omega

theorem byt_u8 (n : Int) : 0 ≤ u8 n ∧ u8 n ≤ 255 := by rw [u8_eq]; omega

theorem byt_encV (v : V) : Byt (encV v) := by
  intro x hx
  unfold encV at hx
  rcases List.mem_cons.1 hx with rfl | hx
  · exact byt_u8 _
  · split at hx
    · rcases List.mem_singleton.1 hx with rfl; exact byt_u8 _
    split at hx
    · simp [w4] at hx; rcases hx with rfl | rfl | rfl | rfl <;> exact byt_u8 _
    split at hx
    · simp [w4] at hx; rcases hx with rfl | rfl | rfl | rfl <;> exact byt_u8 _
    split at hx
    · rcases List.mem_cons.1 hx with rfl | hx
      · exact byt_u8 _
      · obtain ⟨b, _, rfl⟩ := List.mem_map.1 hx
        have := b.toNat_lt
        omega
    · simp at hx

theorem byt_encB (rs : List V) : Byt (encB rs) := by
  intro x hx
  rcases List.mem_cons.1 hx with rfl | hx
  · exact byt_u8 _
  · obtain ⟨v, _, hv⟩ := List.mem_flatMap.1 hx
    exact byt_encV v x hv

theorem strOf_bytesI (s : ByteArray) : strOf (bytesI s) = s := by
  obtain ⟨⟨l⟩⟩ := s
  simp only [strOf, bytesI, List.map_map]
  congr
  rw [List.map_congr_left (g := id)]
  · simp
  · intro b _
    simp

theorem V.ext' {a b : V} (h1 : a.kind = b.kind) (h2 : a.num = b.num) (h3 : a.str = b.str) : a = b := by
  cases a; cases b; simp_all

theorem str_nil {s : ByteArray} (h : s.data.toList = []) : s = bs [] := by
  obtain ⟨⟨l⟩⟩ := s
  simp at h
  subst h; rfl

/-- **A value's encoding is read back.** -/
theorem decV_enc (v : V) (hv : validB v = true) (t : List Int) : decV (encV v ++ t) = (v, ((encV v).length : Int)) := by
  unfold validB at hv
  split at hv
  · rename_i hk
    simp at hv
    have hs := str_nil (show v.str.data.toList = [] by simp [hv.2])
    have e : encV v = [0] := by simp [encV, hk, u8_eq]
    rw [e]
    show decW ([0] ++ t) 0 _ = _
    rw [decW_0 (by simp)]
    rw [show v = ⟨0, 0, bs []⟩ from V.ext' hk hv.1 hs]; rfl
  split at hv
  · rename_i hk
    simp at hv
    have hs := str_nil (show v.str.data.toList = [] by simp [hv.2])
    have e : encV v = [1, v.num] := by
      have : u8 v.num = v.num := by rw [u8_eq]; omega
      simp [encV, hk, this, u8_eq]
    rw [e]
    show decW ([1, v.num] ++ t) 1 v.num = _
    rw [decW_1 (by simp)]
    rw [show v = ⟨1, v.num, bs []⟩ from V.ext' hk rfl hs]; rfl
  split at hv
  · rename_i hk
    simp at hv
    have hs := str_nil (show v.str.data.toList = [] by simp [hv.2])
    have e : encV v = 2 :: w4 (v.num + 1073741824) := by
      simp only [encV, hk]
      rw [if_neg (by decide), if_pos trivial, wrapI (v.num + 1073741824) (by omega) (by omega)]
      simp [u8_eq]
    rw [e]
    show decW ((2 :: w4 (v.num + 1073741824)) ++ t) 2 _ = _
    rw [decW_2 (by simp [w4])]
    have : (((2 :: w4 (v.num + 1073741824)) ++ t).take 5).drop 1 = w4 (v.num + 1073741824) := by simp [w4]
    rw [this, num_w4 _ (by omega) (by omega)]
    rw [show v = ⟨2, v.num, bs []⟩ from V.ext' hk rfl hs]
    simp [w4]
  split at hv
  · rename_i hk
    simp at hv
    have e : encV v = 3 :: (v.str.size : Int) :: bytesI v.str := by
      have : u8 (v.str.size : Int) = v.str.size := by rw [u8_eq]; omega
      simp only [encV, hk]
      rw [if_neg (by decide), if_neg (by decide), if_neg (by decide), if_pos trivial, this]
      simp [u8_eq]
    have hlen : (bytesI v.str).length = v.str.size := by simp [bytesI]
    rw [e]
    show decW ((3 :: (v.str.size : Int) :: bytesI v.str) ++ t) 3 (v.str.size : Int) = _
    rw [decW_3 (by simp) (by simp [hlen]; omega)]
    have : (((3 :: (v.str.size : Int) :: bytesI v.str) ++ t).take (2 + (v.str.size : Int)).toNat).drop 2 = bytesI v.str := by
      rw [show (2 + (v.str.size : Int)).toNat = v.str.size + 1 + 1 by omega]
      simp [← hlen]
    rw [this, strOf_bytesI]
    rw [show (⟨3, 0, v.str⟩ : V) = v from V.ext' hk.symm hv.1.symm rfl]
    simp [hlen]; omega
  split at hv
  · rename_i hk
    simp at hv
    have hs := str_nil (show v.str.data.toList = [] by simp [hv.2])
    have e : encV v = 4 :: w4 v.num := by
      simp only [encV, hk]
      rw [if_neg (by decide), if_neg (by decide), if_pos trivial]
      simp [u8_eq]
    rw [e]
    show decW ((4 :: w4 v.num) ++ t) 4 _ = _
    rw [decW_4 (by simp [w4])]
    have : (((4 :: w4 v.num) ++ t).take 5).drop 1 = w4 v.num := by simp [w4]
    rw [this, num_w4 _ (by omega) (by omega)]
    rw [show v = ⟨4, v.num, bs []⟩ from V.ext' hk rfl hs]
    simp [w4]
  · cases hv

theorem encV_pos (v : V) : 0 < (encV v).length := by simp [encV]

theorem decN_enc : ∀ (rs : List V) (t : List Int), (∀ v ∈ rs, validB v = true) → decN rs.length (rs.flatMap encV ++ t) = some (rs, t)
  | [], t, _ => rfl
  | v :: rs, t, h => by
    have hv := h v (by simp)
    have e : (v :: rs).flatMap encV ++ t = encV v ++ (rs.flatMap encV ++ t) := by simp
    rw [e, List.length_cons, decN_succ, decV_enc v hv]
    have := encV_pos v
    rw [if_neg (by rw [hv]; simp only [Bool.true_eq_false, or_false]; omega)]
    simp only [Int.toNat_natCast, List.drop_left]
    rw [decN_enc rs t fun w hw => h w (by simp [hw])]

theorem decR_enc (rs : List V) (hl : rs.length ≤ 12) (h : ∀ v ∈ rs, validB v = true) : decR (encB rs) = .tuple [.list false 3 (vC rs), .int .i64 0] := by
  have hu : u8 (rs.length : Int) = rs.length := by rw [u8_eq]; omega
  have e : encB rs = (rs.length : Int) :: rs.flatMap encV := by rw [encB, hu]
  rw [e]
  unfold decR
  rw [if_neg (by simp; omega)]
  have := decN_enc rs [] h
  rw [List.append_nil] at this
  simp [this]

/-- **No encoding is the beginning of another one.** -/
theorem encB_prefix {rs ss : List V} (hr : rs.length ≤ 12) (hs : ss.length ≤ 12) (hrv : ∀ v ∈ rs, validB v = true) (hsv : ∀ v ∈ ss, validB v = true) {t : List Int} (h : encB ss = encB rs ++ t) : rs = ss := by
  have e1 : u8 (rs.length : Int) = rs.length := by rw [u8_eq]; omega
  have e2 : u8 (ss.length : Int) = ss.length := by rw [u8_eq]; omega
  simp only [encB, e1, e2, List.cons_append, List.cons.injEq] at h
  obtain ⟨h1, h2⟩ := h
  have hl : ss.length = rs.length := by omega
  have d1 := decN_enc rs t hrv
  have d2 := decN_enc ss [] hsv
  rw [List.append_nil, h2, hl, d1] at d2
  simp at d2
  exact d2.1

theorem rowsCmp_zero : ∀ (a b : List V), rowsCmp a b = 0 ↔ a = b
  | [], [] => by simp [rowsCmp]
  | [], _ :: _ => by simp [rowsCmp]
  | _ :: _, [] => by simp [rowsCmp]
  | x :: a, y :: b => by
    have hz := isCmp_val.zero x y
    rw [rowsCmp]
    by_cases h : valCmp x y = 0
    · rw [if_pos h, rowsCmp_zero a b, hz.1 h]; simp
    · rw [if_neg h]
      constructor
      · intro h2; exact absurd h2 h
      · intro h2; simp at h2; exact absurd (hz.2 h2.1) h

/-- Bytes as the machine's strings have them. -/
def u8L (l : List Int) : List UInt8 := l.map fun n => UInt8.ofNat n.toNat
theorem u8L_inj : ∀ {l m : List Int}, Byt l → Byt m → u8L l = u8L m → l = m
  | [], [], _, _, _ => rfl
  | [], _ :: _, _, _, h => by simp [u8L] at h
  | _ :: _, [], _, _, h => by simp [u8L] at h
  | x :: l, y :: m, hl, hm, h => by
    simp only [u8L, List.map_cons, List.cons.injEq] at h
    have hx := hl x (by simp)
    have hy := hm y (by simp)
    have h1 := congrArg UInt8.toNat h.1
    simp only [UInt8.toNat_ofNat'] at h1
    rw [Nat.mod_eq_of_lt (by omega), Nat.mod_eq_of_lt (by omega)] at h1
    rw [show x = y by omega, u8L_inj (fun z hz => hl z (by simp [hz])) (fun z hz => hm z (by simp [hz])) h.2]

set_option maxRecDepth 20000 in
theorem law_ValueRoundTrips {P : Program} (F : F_warehouselaw1_ValueRoundTrips P) (l m : List Int) (n : Int) :
    ACalls P F.id [.list false 1 (iC l), .list false 1 (iC m), .int .i64 n] [] (fun r _ => r = .bool true) := by
  have e7 := and_7 n
  have e73 := and_7 (shrI n 3)
  refine acalls_of_body F.has ?_
  generalize hr : rowK l (and64 n 7).toNat = r
  generalize hs : rowK m (and64 (shrI n 3) 7).toNat = s
  have hrl : r.length ≤ 12 := by rw [← hr, rowK_length]; omega
  have hsl : s.length ≤ 12 := by rw [← hs, rowK_length]; omega
  have hrv : ∀ v ∈ r, validB v = true := by rw [← hr]; exact rowK_valid _ _
  have hsv : ∀ v ∈ s, validB v = true := by rw [← hs]; exact rowK_valid _ _
  have lr : (bC (encB r)).length ≤ 1000 := by
    rw [bC_length, encB, List.length_cons]
    have := encK_len r r.length (by rw [List.take_length]; simpa using hrv)
    simp only [encK, List.take_length, List.length_cons] at this
    omega
  (conv => whnf); refine ACalls.use (row_spec F.warehouselaw1_row false l (and64 n 7) (by omega) _) ?_
  rw [hr]
  (conv => whnf); refine And.intro (by decide) ?_
  (conv => whnf); refine ACalls.use (row_spec F.warehouselaw1_row false m (and64 (shrI n 3) 7) (by omega) _) ?_
  rw [hs]
  (conv => whnf); refine ACalls.use (encode_list F.value_Encode false r _) ?_
  rw [encR_valid hrl hrv]
  (conv => whnf); refine ACalls.use (encode_list F.value_Encode false s _) ?_
  rw [encR_valid hsl hsv]
  (conv => whnf); refine ACalls.use (value_Decode_spec F.value_Decode false (encB r) (byt_encB r) (by rw [bC_length] at lr; omega) _) ?_
  rw [decR_enc r hrl hrv]
  (conv => whnf); refine ACalls.use (value_CompareRows_spec F.value_CompareRows false false r r (by omega) _) ?_
  (conv => whnf); refine recF (by rw [(rowsCmp_zero r r).2 rfl]; rfl) ?_
  (conv => whnf); refine ACalls.use (value_CompareRows_spec F.value_CompareRows false false r s (by omega) _) ?_
  have hz := rowsCmp_zero r s
  have hu : ∀ t : List UInt8, (⟨t.toArray⟩ : ByteArray).data.toList = t := fun t => by simp
  have hsame : ((⟨(u8L (encB r)).toArray⟩ : ByteArray).data.toList == (⟨(u8L (encB s)).toArray⟩ : ByteArray).data.toList) = (rowsCmp r s == 0) := by
    rw [hu, hu, Bool.eq_iff_iff]
    simp only [beq_iff_eq]
    rw [hz]
    constructor
    · intro h
      have := u8L_inj (byt_encB r) (byt_encB s) h
      exact encB_prefix hrl hsl hrv hsv (t := []) (by rw [List.append_nil]; exact this.symm)
    · rintro rfl; rfl
  (conv => whnf); refine recA (fun hle => ?_) (fun hle => ?_)
  · simp [bC_length] at hle
    have hb : ((⟨(u8L ((encB s).take (encB r).length)).toArray⟩ : ByteArray).data.toList == (⟨(u8L (encB r)).toArray⟩ : ByteArray).data.toList) = (rowsCmp r s == 0) := by
      rw [hu, hu, Bool.eq_iff_iff]
      simp only [beq_iff_eq]
      rw [hz]
      constructor
      · intro h
        have := u8L_inj ((byt_encB s).take _) (byt_encB r) h
        exact encB_prefix hrl hsl hrv hsv (t := (encB s).drop (encB r).length) (by have := List.take_append_drop (encB r).length (encB s); rw [‹List.take _ _ = _›] at this; exact this.symm)
      · rintro rfl; rw [List.take_length]
    (conv => whnf); refine And.intro ⟨by omega, by rw [bC_length, bC_length]; omega⟩ ?_
    (conv => whnf); refine ⟨u8L ((encB s).take (encB r).length), ?_, ?_⟩
    · show bytesOf (((bC (encB s)).take (bC (encB r)).length).drop 0) = _
      rw [List.drop_zero, bC_length, bC_take]; exact bytesOf_bC _
    (conv => whnf); refine ⟨u8L (encB r), bytesOf_bC _, ?_⟩
    (conv => whnf); refine ⟨u8L (encB r), bytesOf_bC _, ?_⟩
    (conv => whnf); refine ⟨u8L (encB s), bytesOf_bC _, ?_⟩
    (conv => whnf); refine recT (by rw [hsame]; simp) ?_
    (conv => whnf); refine recT (by rw [hb]; simp) ?_
    (conv => whnf); refine ACalls.use (known_spec F.warehouselaw1_known _) ?_
    conv => whnf
  · simp [bC_length] at hle
    have hne : ¬ rowsCmp r s = 0 := by
      rw [hz]; rintro rfl; omega
    (conv => whnf); refine ⟨u8L (encB r), bytesOf_bC _, ?_⟩
    (conv => whnf); refine ⟨u8L (encB s), bytesOf_bC _, ?_⟩
    (conv => whnf); refine recT (by rw [hsame]; simp) ?_
    (conv => whnf); refine recT (by simp [hne]) ?_
    (conv => whnf); refine ACalls.use (known_spec F.warehouselaw1_known _) ?_
    conv => whnf
end Go.AW
