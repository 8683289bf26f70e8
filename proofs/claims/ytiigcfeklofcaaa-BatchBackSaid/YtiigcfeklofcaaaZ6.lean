/-
  An abstract machine over the model, the code of functions on it, and their contracts: what the claim needs.
  No condition: definitions, plain laws, contracts over any program that has this code.
-/
import Derived.Test.YtiigcfeklofcaaaZ5
set_option linter.all false
namespace Go.AW
attribute [local irreducible] ACalls
def dcV (l : List Int) : Option (List V) :=
  if l.length = 0 ∨ 12 < l.getD 0 0 then none else match decN (l.getD 0 0).toNat (l.drop 1) with
    | some (rs, []) => some rs
    | _ => none

theorem decR_eq (l : List Int) : decR l = match dcV l with | some rs => .tuple [.list false 3 (vC rs), .int .i64 0] | none => .tuple [.nil, .int .i64 11] := by
  unfold decR dcV decErr
  split
  · rfl
  · generalize decN (l.getD 0 0).toNat (List.drop 1 l) = o
    cases o with
    | none => rfl
    | some p =>
      obtain ⟨rs, r⟩ := p
      cases r <;> rfl

def rq3 (s : RdS) : RdS := tkS 2 (tkS 4 (tkS 1 s))

def rqL (s : RdS) : List Int := tkL (nbV 2 (tkS 4 (tkS 1 s))) (rq3 s)

def rq4 (s : RdS) : RdS := tkS (nbV 2 (tkS 4 (tkS 1 s))) (rq3 s)

def recV (s : RdS) : Rec := ⟨!(nbV 1 s == 0), nbV 4 (tkS 1 s), (dcV (rqL s)).getD []⟩

def recS (s : RdS) : RdS := match dcV (rqL s) with
  | some _ => rq4 s
  | none => ⟨(rq4 s).rest, true⟩

theorem recS_byt {s : RdS} (h : Byt s.rest) : Byt (recS s).rest := by
  have h4 : Byt (rq4 s).rest := tkS_byt (tkS_byt (tkS_byt (tkS_byt h)))
  unfold recS
  split
  · exact h4
  · exact h4

theorem recS_len (s : RdS) : (recS s).rest.length ≤ s.rest.length := by
  have h4 : (rq4 s).rest.length ≤ s.rest.length := Nat.le_trans (tkS_len _ _) (Nat.le_trans (tkS_len _ _) (Nat.le_trans (tkS_len _ _) (tkS_len _ _)))
  unfold recS
  split
  · exact h4
  · exact h4

set_option maxRecDepth 20000 in
theorem record_raw {P : Program} (F : F_batch_reader_record P) (s : RdS) (hby : Byt s.rest) (hl : s.rest.length ≤ 1000000) :
    ACalls P F.id [.ptr 0 1 0 0] [rdO s] (fun r H' => r = .agg (recC (recV s)) ∧ H' = [rdO (recS s)]) := by
  have b1 : Byt (tkS 1 s).rest := tkS_byt hby
  have b2 : Byt (tkS 4 (tkS 1 s)).rest := tkS_byt b1
  have b3 : Byt (rq3 s).rest := tkS_byt b2
  have hL : (rqL s).length ≤ 1000000 := Nat.le_trans (tkL_len2 _ _) (Nat.le_trans (Nat.le_trans (tkS_len _ _) (Nat.le_trans (tkS_len _ _) (tkS_len _ _))) hl)
  refine ACalls.weakR (Q := fun r H' => ∃ c0 : AVal, (c0 = .list false 3 (vC (recV s).row) ∨ (c0 = .nil ∧ (recV s).row = [])) ∧ r = .agg [.bool (recV s).del, .int .i64 (recV s).seq, c0] ∧ H' = [rdO (recS s)]) ?_ (by
    rintro r H' ⟨c0, hc, rfl, rfl⟩
    refine ⟨_, ?_, rfl, rfl⟩
    have : Wks [.bool (recV s).del, .int .i64 (recV s).seq, c0] (recC (recV s)) := .cons (.refl _) (.cons (.refl _) (.cons (by
      rcases hc with rfl | ⟨rfl, h⟩
      · exact .refl _
      · rw [h]; exact .nil false 3) .nil))
    exact .agg _ _ this.1 this.2)
  refine ACalls.gp (Q0 := fun r H' => ∃ c0 : AVal, (c0 = .list false 3 (vC (recV s).row) ∨ (c0 = .nil ∧ (recV s).row = [])) ∧ r = .agg [.bool (recV s).del, .int .i64 (recV s).seq, c0] ∧ ∃ x y, H' = [rdO (recS s), x, y]) ?_ (by
    rintro r H' ⟨c0, hc, rfl, x, y, rfl⟩
    refine Gp.res [0] (by simp) (keepB_one rfl rfl rfl) (H1 := [rdO (recS s)]) ⟨⟨_, rfl, .same _ _ rfl⟩, trivial⟩ (.closed (.agg [.bool (recV s).del, .int .i64 (recV s).seq, c0]) ?_) ⟨_, rfl, c0, hc, rfl, rfl⟩
    rcases hc with rfl | ⟨rfl, h⟩ <;> rfl)
  refine acalls_of_body F.has ?_
  (conv => whnf); refine ACalls.mono (rnumber_spec F.batch_reader_number 1 (by omega) (by omega) s hby _ 0 rfl) ?_
  rintro r H' ⟨rfl, rfl⟩
  (conv => whnf); refine ACalls.mono (rnumber_spec F.batch_reader_number 4 (by omega) (by omega) (tkS 1 s) b1 _ 0 rfl) ?_
  rintro r H' ⟨rfl, rfl⟩
  (conv => whnf); refine ACalls.mono (rnumber_spec F.batch_reader_number 2 (by omega) (by omega) (tkS 4 (tkS 1 s)) b2 _ 0 rfl) ?_
  rintro r H' ⟨rfl, rfl⟩
  (conv => whnf); refine ACalls.mono (take_spec F.batch_reader_take _ (nbV_bound (by omega) (by omega) b2).1 (rq3 s) _ 0 rfl) ?_
  rintro r H' ⟨rfl, rfl⟩
  have hd := fun H => value_Decode_spec F.value_Decode false (rqL s) (tkL_byt b3) hL H
  rw [decR_eq] at hd
  cases hc : dcV (rqL s) with
  | some rs =>
    rw [hc] at hd
    have e1 : (recV s).row = rs := by rw [recV, hc]; rfl
    have e2 : recS s = rq4 s := by rw [recS, hc]
    (conv => whnf); refine ACalls.use (hd _) ?_
    conv => whnf
    exact ⟨_, .inl (by rw [e1]), rfl, _, _, by rw [e2]; rfl⟩
  | none =>
    rw [hc] at hd
    have e1 : (recV s).row = [] := by rw [recV, hc]; rfl
    have e2 : recS s = ⟨(rq4 s).rest, true⟩ := by rw [recS, hc]
    (conv => whnf); refine ACalls.use (hd _) ?_
    conv => whnf
    exact ⟨_, .inr ⟨rfl, e1⟩, rfl, _, _, by rw [e2]; rfl⟩

theorem record_spec {P : Program} (F : F_batch_reader_record P) (s : RdS) (hby : Byt s.rest) (hl : s.rest.length ≤ 1000000) (H : List AObj) (id : Nat) (ho : H[id]? = some (rdO s)) :
    ACalls P F.id [.ptr id 1 0 0] H (fun r H' => r = .agg (recC (recV s)) ∧ H' = H.set id (rdO (recS s))) :=
  (record_raw F s hby hl).fr ho rfl rfl (.pt trivial) (.closed _ rfl)

def flP : Nat → RdS → List Rec → List Rec × RdS
  | 0, s, L => (L, s)
  | n + 1, s, L => if s.bad then (L, s) else flP n (recS s) (L ++ [recV s])

def magic (s : RdS) : Bool := (strOf (tkL 4 s)).data.toList == (bs [87, 72, 70, 49]).data.toList

def fl1 (s : RdS) : RdS := if magic s then tkS 4 s else ⟨(tkS 4 s).rest, true⟩

def fl2 (s : RdS) : RdS := txS (fl1 s)

def fl3 (s : RdS) : RdS := txS (fl2 s)

def flN (s : RdS) : Int := nbV 2 (fl3 s)

def fl4 (s : RdS) : RdS := tkS 2 (fl3 s)

def flV (s : RdS) : Fil := ⟨txV (fl1 s), txV (fl2 s), (flP (flN s).toNat (fl4 s) []).1⟩

def flS (s : RdS) : RdS := (flP (flN s).toNat (fl4 s) []).2

theorem txS_byt {s : RdS} (h : Byt s.rest) : Byt (txS s).rest := tkS_byt (tkS_byt h)

theorem txS_len (s : RdS) : (txS s).rest.length ≤ s.rest.length := Nat.le_trans (tkS_len _ _) (tkS_len _ _)

theorem fl1_byt {s : RdS} (h : Byt s.rest) : Byt (fl1 s).rest := by
  unfold fl1; split <;> exact tkS_byt (n := 4) h

theorem fl1_len (s : RdS) : (fl1 s).rest.length ≤ s.rest.length := by
  unfold fl1; split <;> exact tkS_len 4 s

def fobj (s : RdS) (c : AVal) : AObj := .arr 3 [[.str (txV (fl1 s)), .str (txV (fl2 s)), c]]

def recH (s0 s : RdS) (res : AObj) (L : List Rec) (c : AVal) (H : List AObj) : Prop :=
  (L = [] ∧ c = .nil ∧ H = [rdO s, res, fobj s0 .nil]) ∨ (c = .sl 3 L.length 0 L.length ∧ H = [rdO s, res, fobj s0 (.sl 3 L.length 0 L.length), .arr 3 (rC L)])

def resO : AObj := .arr 3 [[.str (bs []), .str (bs []), .nil]]

set_option maxRecDepth 20000 in
theorem file_raw {P : Program} (F : F_batch_reader_file P) (s : RdS) (hby : Byt s.rest) (hl : s.rest.length ≤ 1000000) :
    ACalls P F.id [.ptr 0 1 0 0] [rdO s] (fun r H' => ∃ c, r = .agg [.str (txV (fl1 s)), .str (txV (fl2 s)), c] ∧ ∃ res, recH s (flS s) res (flV s).recs c H') := by
  have b1 := fl1_byt hby
  have b2 : Byt (fl2 s).rest := txS_byt b1
  have b3 : Byt (fl3 s).rest := txS_byt b2
  have b4 : Byt (fl4 s).rest := tkS_byt b3
  have l4 : (fl4 s).rest.length ≤ s.rest.length := Nat.le_trans (tkS_len _ _) (Nat.le_trans (txS_len _) (Nat.le_trans (txS_len _) (fl1_len s)))
  have n0 := nbV_bound (n := 2) (by omega) (by omega) b3
  have nn : (flN s).toNat ≤ 65535 := by
    have h1 := num_bnd _ (tkL_byt (n := 2) b3)
    have h2 := tkL_len (n := 2) (s := fl3 s) (by omega)
    have h3 : (256 : Int) ^ (tkL 2 (fl3 s)).length ≤ 256 ^ 2 := by
      have : (256 : Nat) ^ (tkL 2 (fl3 s)).length ≤ 256 ^ 2 := Nat.pow_le_pow_right (by omega) (by omega)
      exact_mod_cast this
    have h4 : (256 : Int) ^ 2 = 65536 := by decide
    show (num (tkL 2 (fl3 s))).toNat ≤ 65535
    omega
  refine acalls_of_body F.has ?_
  (conv => whnf); refine ACalls.mono (take_spec F.batch_reader_take 4 (by omega) s _ 0 rfl) ?_
  rintro r H' ⟨rfl, rfl⟩
  (conv => whnf); refine ⟨_, bytesOf_bC _, ?_⟩
  (conv => whnf); refine recA (fun hm => ?_) (fun hm => ?_)
  · replace hm : (!((strOf (tkL 4 s)).data.toList == (bs [87, 72, 70, 49]).data.toList)) = true := hm
    have hf : fl1 s = ⟨(tkS 4 s).rest, true⟩ := by rw [fl1, if_neg (by rw [magic]; simpa using hm)]
    (conv => whnf); refine ACalls.mono (rtext_spec F.batch_reader_text (fl1 s) b1 _ 0 (by rw [hf]; rfl)) ?_
    rintro r H' ⟨rfl, rfl⟩
    (conv => whnf); refine ACalls.mono (rtext_spec F.batch_reader_text (fl2 s) b2 _ 0 rfl) ?_
    rintro r H' ⟨rfl, rfl⟩
    (conv => whnf); refine ACalls.mono (rnumber_spec F.batch_reader_number 2 (by omega) (by omega) (fl3 s) b3 _ 0 rfl) ?_
    rintro r H' ⟨rfl, rfl⟩
    conv => whnf
    refine ⟨fun m ρ H1 => ∃ (k : Nat) (st : RdS) (L : List Rec) (c : AVal), m = k ∧ flP k st L = flP (flN s).toNat (fl4 s) [] ∧ L.length + k ≤ 65535 ∧ Byt st.rest ∧ st.rest.length ≤ s.rest.length ∧ recH s st resO L c H1 ∧
      Sv 39 [(0, .ptr 0 1 0 0), (2, .ptr 1 1 0 0), (3, .ptr 2 1 0 0), (4, .int .i64 k)] ρ, (flN s).toNat, [], ?_, ?_⟩
    · exact ⟨(flN s).toNat, fl4 s, [], .nil, rfl, rfl, by simpa using nn, b4, l4, .inl ⟨rfl, rfl, rfl⟩, Sv.intro rfl ⟨rfl, rfl, rfl, intEq (by show nbV 2 (fl3 s) = _; rw [flN]; omega), trivial⟩⟩
    rintro m ρ H1 ⟨k, st, L, c, rfl, hr, hle, hb, hlr, hH, d, rfl⟩
    rcases hH with ⟨hL, rfl, rfl⟩ | ⟨rfl, rfl⟩
    · (conv => whnf); refine recA (fun hlt => ?_) (fun hlt => ?_)
      · simp at hlt
        obtain ⟨k, rfl⟩ : ∃ j, m = j + 1 := ⟨m - 1, by omega⟩
        (conv => whnf); refine recA (fun hbad => ?_) (fun hbad => ?_)
        · replace hbad : (!st.bad) = true := hbad
          simp at hbad
          rw [flP, if_neg (by simp [hbad])] at hr
          (conv => whnf); refine ⟨_, _, record_spec F.batch_reader_record st hb (by omega) _ 0 rfl, ?_⟩
          (conv => whnf); refine And.intro (⟨roomMul (by simp) (by omega), roomB_le (by simp)⟩) ?_
          repeat ((conv => whnf); refine And.intro rfl ?_)
          conv => whnf
          subst hL
          refine ⟨k, by omega, Gp.keep rfl ?_ fun ρ1 h => ⟨k, recS st, [] ++ [recV st], _, rfl, hr, by simp; simp at hle; omega, recS_byt hb, Nat.le_trans (recS_len st) hlr, .inr ⟨rfl, rfl⟩, h⟩⟩
          exact ⟨rfl, rfl, rfl, intEq (by have := wrapI (((k + 1 : Nat) : Int) - 1) (by omega) (by omega); show IntKind.i64.wrap (((k + 1 : Nat) : Int) - 1) = _; omega), trivial⟩
        · replace hbad : (!st.bad) = false := hbad
          simp at hbad
          have hv : (flV s).recs = L ∧ flS s = st := by
            rw [flV, flS, ← hr]
            (rw [flP, if_pos hbad]; exact ⟨rfl, rfl⟩)
          conv => whnf
          rw [hv.1, hv.2]
          exact ⟨_, rfl, _, .inl ⟨hL, rfl, rfl⟩⟩
      · simp at hlt
        have hk0 : m = 0 := by omega
        subst hk0
        have hv : (flV s).recs = L ∧ flS s = st := by
          rw [flV, flS, ← hr]
          exact ⟨rfl, rfl⟩
        conv => whnf
        rw [hv.1, hv.2]
        exact ⟨_, rfl, _, .inl ⟨hL, rfl, rfl⟩⟩
    · (conv => whnf); refine recA (fun hlt => ?_) (fun hlt => ?_)
      · simp at hlt
        obtain ⟨k, rfl⟩ : ∃ j, m = j + 1 := ⟨m - 1, by omega⟩
        (conv => whnf); refine recA (fun hbad => ?_) (fun hbad => ?_)
        · replace hbad : (!st.bad) = true := hbad
          simp at hbad
          rw [flP, if_neg (by simp [hbad])] at hr
          (conv => whnf); refine ⟨_, _, record_spec F.batch_reader_record st hb (by omega) _ 0 rfl, ?_⟩
          (conv => whnf); refine recT (by rw [rC_length]; exact Nat.beq_refl _) ?_
          (conv => whnf); refine And.intro (⟨roomMul (by simp; omega) (by omega), roomB_le (by simp; omega), rfl, by rw [rC_length]⟩) ?_
          repeat ((conv => whnf); refine And.intro rfl ?_)
          conv => whnf
          have hc : rC L ++ [recC (recV st)] = rC (L ++ [recV st]) := by rw [rC_append]; rfl
          have hcl : (rC L ++ [recC (recV st)]).length = (L ++ [recV st]).length := by rw [hc, rC_length]
          refine ⟨k, by omega, Gp.keep rfl ?_ fun ρ1 h => ⟨k, recS st, L ++ [recV st], _, rfl, hr, by simp; omega, recS_byt hb, Nat.le_trans (recS_len st) hlr, .inr ⟨rfl, ?_⟩, h⟩⟩
          · exact ⟨rfl, rfl, rfl, intEq (by have := wrapI (((k + 1 : Nat) : Int) - 1) (by omega) (by omega); show IntKind.i64.wrap (((k + 1 : Nat) : Int) - 1) = _; omega), trivial⟩
          · rw [← hc, ← hcl]; rfl
        · replace hbad : (!st.bad) = false := hbad
          simp at hbad
          have hv : (flV s).recs = L ∧ flS s = st := by
            rw [flV, flS, ← hr]
            (rw [flP, if_pos hbad]; exact ⟨rfl, rfl⟩)
          conv => whnf
          rw [hv.1, hv.2]
          exact ⟨_, rfl, _, .inr ⟨rfl, rfl⟩⟩
      · simp at hlt
        have hk0 : m = 0 := by omega
        subst hk0
        have hv : (flV s).recs = L ∧ flS s = st := by
          rw [flV, flS, ← hr]
          exact ⟨rfl, rfl⟩
        conv => whnf
        rw [hv.1, hv.2]
        exact ⟨_, rfl, _, .inr ⟨rfl, rfl⟩⟩
  · replace hm : (!((strOf (tkL 4 s)).data.toList == (bs [87, 72, 70, 49]).data.toList)) = false := hm
    have hf : fl1 s = tkS 4 s := by rw [fl1, if_pos (by rw [magic]; simpa using hm)]
    (conv => whnf); refine ACalls.mono (rtext_spec F.batch_reader_text (fl1 s) b1 _ 0 (by rw [hf]; rfl)) ?_
    rintro r H' ⟨rfl, rfl⟩
    (conv => whnf); refine ACalls.mono (rtext_spec F.batch_reader_text (fl2 s) b2 _ 0 rfl) ?_
    rintro r H' ⟨rfl, rfl⟩
    (conv => whnf); refine ACalls.mono (rnumber_spec F.batch_reader_number 2 (by omega) (by omega) (fl3 s) b3 _ 0 rfl) ?_
    rintro r H' ⟨rfl, rfl⟩
    conv => whnf
    refine ⟨fun m ρ H1 => ∃ (k : Nat) (st : RdS) (L : List Rec) (c : AVal), m = k ∧ flP k st L = flP (flN s).toNat (fl4 s) [] ∧ L.length + k ≤ 65535 ∧ Byt st.rest ∧ st.rest.length ≤ s.rest.length ∧ recH s st resO L c H1 ∧
      Sv 39 [(0, .ptr 0 1 0 0), (2, .ptr 1 1 0 0), (3, .ptr 2 1 0 0), (4, .int .i64 k)] ρ, (flN s).toNat, [], ?_, ?_⟩
    · exact ⟨(flN s).toNat, fl4 s, [], .nil, rfl, rfl, by simpa using nn, b4, l4, .inl ⟨rfl, rfl, rfl⟩, Sv.intro rfl ⟨rfl, rfl, rfl, intEq (by show nbV 2 (fl3 s) = _; rw [flN]; omega), trivial⟩⟩
    rintro m ρ H1 ⟨k, st, L, c, rfl, hr, hle, hb, hlr, hH, d, rfl⟩
    rcases hH with ⟨hL, rfl, rfl⟩ | ⟨rfl, rfl⟩
    · (conv => whnf); refine recA (fun hlt => ?_) (fun hlt => ?_)
      · simp at hlt
        obtain ⟨k, rfl⟩ : ∃ j, m = j + 1 := ⟨m - 1, by omega⟩
        (conv => whnf); refine recA (fun hbad => ?_) (fun hbad => ?_)
        · replace hbad : (!st.bad) = true := hbad
          simp at hbad
          rw [flP, if_neg (by simp [hbad])] at hr
          (conv => whnf); refine ⟨_, _, record_spec F.batch_reader_record st hb (by omega) _ 0 rfl, ?_⟩
          (conv => whnf); refine And.intro (⟨roomMul (by simp) (by omega), roomB_le (by simp)⟩) ?_
          repeat ((conv => whnf); refine And.intro rfl ?_)
          conv => whnf
          subst hL
          refine ⟨k, by omega, Gp.keep rfl ?_ fun ρ1 h => ⟨k, recS st, [] ++ [recV st], _, rfl, hr, by simp; simp at hle; omega, recS_byt hb, Nat.le_trans (recS_len st) hlr, .inr ⟨rfl, rfl⟩, h⟩⟩
          exact ⟨rfl, rfl, rfl, intEq (by have := wrapI (((k + 1 : Nat) : Int) - 1) (by omega) (by omega); show IntKind.i64.wrap (((k + 1 : Nat) : Int) - 1) = _; omega), trivial⟩
        · replace hbad : (!st.bad) = false := hbad
          simp at hbad
          have hv : (flV s).recs = L ∧ flS s = st := by
            rw [flV, flS, ← hr]
            (rw [flP, if_pos hbad]; exact ⟨rfl, rfl⟩)
          conv => whnf
          rw [hv.1, hv.2]
          exact ⟨_, rfl, _, .inl ⟨hL, rfl, rfl⟩⟩
      · simp at hlt
        have hk0 : m = 0 := by omega
        subst hk0
        have hv : (flV s).recs = L ∧ flS s = st := by
          rw [flV, flS, ← hr]
          exact ⟨rfl, rfl⟩
        conv => whnf
        rw [hv.1, hv.2]
        exact ⟨_, rfl, _, .inl ⟨hL, rfl, rfl⟩⟩
    · (conv => whnf); refine recA (fun hlt => ?_) (fun hlt => ?_)
      · simp at hlt
        obtain ⟨k, rfl⟩ : ∃ j, m = j + 1 := ⟨m - 1, by omega⟩
        (conv => whnf); refine recA (fun hbad => ?_) (fun hbad => ?_)
        · replace hbad : (!st.bad) = true := hbad
          simp at hbad
          rw [flP, if_neg (by simp [hbad])] at hr
          (conv => whnf); refine ⟨_, _, record_spec F.batch_reader_record st hb (by omega) _ 0 rfl, ?_⟩
          (conv => whnf); refine recT (by rw [rC_length]; exact Nat.beq_refl _) ?_
          (conv => whnf); refine And.intro (⟨roomMul (by simp; omega) (by omega), roomB_le (by simp; omega), rfl, by rw [rC_length]⟩) ?_
          repeat ((conv => whnf); refine And.intro rfl ?_)
          conv => whnf
          have hc : rC L ++ [recC (recV st)] = rC (L ++ [recV st]) := by rw [rC_append]; rfl
          have hcl : (rC L ++ [recC (recV st)]).length = (L ++ [recV st]).length := by rw [hc, rC_length]
          refine ⟨k, by omega, Gp.keep rfl ?_ fun ρ1 h => ⟨k, recS st, L ++ [recV st], _, rfl, hr, by simp; omega, recS_byt hb, Nat.le_trans (recS_len st) hlr, .inr ⟨rfl, ?_⟩, h⟩⟩
          · exact ⟨rfl, rfl, rfl, intEq (by have := wrapI (((k + 1 : Nat) : Int) - 1) (by omega) (by omega); show IntKind.i64.wrap (((k + 1 : Nat) : Int) - 1) = _; omega), trivial⟩
          · rw [← hc, ← hcl]; rfl
        · replace hbad : (!st.bad) = false := hbad
          simp at hbad
          have hv : (flV s).recs = L ∧ flS s = st := by
            rw [flV, flS, ← hr]
            (rw [flP, if_pos hbad]; exact ⟨rfl, rfl⟩)
          conv => whnf
          rw [hv.1, hv.2]
          exact ⟨_, rfl, _, .inr ⟨rfl, rfl⟩⟩
      · simp at hlt
        have hk0 : m = 0 := by omega
        subst hk0
        have hv : (flV s).recs = L ∧ flS s = st := by
          rw [flV, flS, ← hr]
          exact ⟨rfl, rfl⟩
        conv => whnf
        rw [hv.1, hv.2]
        exact ⟨_, rfl, _, .inr ⟨rfl, rfl⟩⟩

end Go.AW

namespace Go.AW
attribute [local irreducible] ACalls
theorem byt_inj : ∀ {a b : List Int}, Byt a → Byt b → (a.map fun n => UInt8.ofNat n.toNat) = (b.map fun n => UInt8.ofNat n.toNat) → a = b
  | [], [], _, _, _ => rfl
  | [], _ :: _, _, _, h => by simp at h
  | _ :: _, [], _, _, h => by simp at h
  | x :: a, y :: b, ha, hb, h => by
    rw [List.map_cons, List.map_cons, List.cons.injEq] at h
    have hx := ha x (List.mem_cons_self ..)
    have hy := hb y (List.mem_cons_self ..)
    have e1 : x = y := by
      have := congrArg UInt8.toNat h.1
      rw [UInt8.toNat_ofNat', UInt8.toNat_ofNat'] at this
      omega
    rw [e1, byt_inj (fun z hz => ha z (List.mem_cons_of_mem _ hz)) (fun z hz => hb z (List.mem_cons_of_mem _ hz)) h.2]

theorem byt_beq {a b : List Int} (ha : Byt a) (hb : Byt b) : ((a.map fun n => UInt8.ofNat n.toNat) == (b.map fun n => UInt8.ofNat n.toNat)) = (a == b) := by
  rw [Bool.eq_iff_iff, beq_iff_eq, beq_iff_eq]
  exact ⟨byt_inj ha hb, fun h => by rw [h]⟩

theorem bytesEqual_spec {P : Program} (F : F_bytes_Equal P) (e1 e2 : Bool) (a b : List Int) (ha : Byt a) (hb : Byt b) (H : List AObj) :
    ACalls P F.id [.list e1 1 (bC a), .list e2 1 (bC b)] H (fun r H' => r = .bool (a == b) ∧ H' = H) := by
  refine ACalls.pure rfl (acalls_of_body F.has ?_)
  (conv => whnf); refine ⟨_, bytesOf_bC _, ?_⟩
  (conv => whnf); refine ⟨_, bytesOf_bC _, ?_⟩
  conv => whnf
  exact pubB (byt_beq ha hb)

theorem file_spec0 {P : Program} (F : F_batch_reader_file P) (s : RdS) (hby : Byt s.rest) (hl : s.rest.length ≤ 1000000) :
    ACalls P F.id [.ptr 0 1 0 0] [rdO s] (fun r H' => r = .agg (fV (flV s)) ∧ H' = [rdO (flS s)]) := by
  refine ACalls.weakR (Q := fun r H' => ∃ c : AVal, (c = .list false 3 (rC (flV s).recs) ∨ (c = .nil ∧ (flV s).recs = [])) ∧ r = .agg [.str (txV (fl1 s)), .str (txV (fl2 s)), c] ∧ H' = [rdO (flS s)]) ?_ (by
    rintro r H' ⟨c, hc, rfl, rfl⟩
    refine ⟨_, ?_, rfl, rfl⟩
    have : Wks [.str (txV (fl1 s)), .str (txV (fl2 s)), c] (fV (flV s)) := .cons (.refl _) (.cons (.refl _) (.cons (by
      rcases hc with rfl | ⟨rfl, h⟩
      · exact .refl _
      · rw [h]; exact .nil false 3) .nil))
    exact .agg _ _ this.1 this.2)
  refine (file_raw F s hby hl).gp ?_
  rintro r H' ⟨c, rfl, res, ⟨h1, rfl, rfl⟩ | ⟨rfl, rfl⟩⟩
  · exact Gp.res [0] (by simp) (keepB_one rfl rfl rfl) (H1 := [rdO (flS s)]) ⟨⟨_, rfl, .same _ _ rfl⟩, trivial⟩ (.closed (.agg [.str (txV (fl1 s)), .str (txV (fl2 s)), .nil]) rfl) ⟨_, rfl, _, .inr ⟨rfl, h1⟩, rfl, rfl⟩
  · refine Gp.res [0] (by simp) (keepB_one rfl rfl rfl) (H1 := [rdO (flS s)]) (r' := .agg [.str (txV (fl1 s)), .str (txV (fl2 s)), .list false 3 (rC (flV s).recs)]) ⟨⟨_, rfl, .same _ _ rfl⟩, trivial⟩ ?_ ⟨_, rfl, _, .inl rfl, rfl, rfl⟩
    refine .agg _ _ rfl fun i v r h1 h2 => ?_
    rcases i with _ | _ | _ | i
    · cases h1; cases h2; exact .closed _ rfl
    · cases h1; cases h2; exact .closed _ rfl
    · cases h1; cases h2
      have := Pub.frz (H1 := [rdO (flS s), res, fobj s (.sl 3 (flV s).recs.length 0 (flV s).recs.length), .arr 3 (rC (flV s).recs)]) (n := 0) (ids := [0]) 3 (flV s).recs.length 0 (flV s).recs.length 3 (rC (flV s).recs) rfl (by rw [rC_length]) (pureEs_rC _) (by simp)
      have e : ((rC (flV s).recs).drop 0).take (flV s).recs.length = rC (flV s).recs := by rw [List.drop_zero, List.take_of_length_le (by rw [rC_length]; exact Nat.le_refl _)]
      rwa [e] at this
    · simp at h1

theorem file_spec {P : Program} (F : F_batch_reader_file P) (s : RdS) (hby : Byt s.rest) (hl : s.rest.length ≤ 1000000) (H : List AObj) (id : Nat) (ho : H[id]? = some (rdO s)) :
    ACalls P F.id [.ptr id 1 0 0] H (fun r H' => r = .agg (fV (flV s)) ∧ H' = H.set id (rdO (flS s))) :=
  (file_spec0 F s hby hl).fr ho rfl rfl (.pt trivial) (.closed _ rfl)

def f0 : Fil := ⟨bs [], bs [], []⟩

def dS (l : List Int) : RdS := ⟨l.take (l.length - 4), false⟩

def sumBad (l : List Int) : Bool := decide (l.length < 4) || !(l.drop (l.length - 4) == beN 4 (fnv (l.take (l.length - 4))))

def decFE (l : List Int) : Int :=
  if 65536 < l.length then 2 else if sumBad l then 12
  else if (flS (dS l)).bad = true ∨ 0 < (flS (dS l)).rest.length then 11 else if encFE (flV (dS l)) ≠ 0 ∨ filB (flV (dS l)) ≠ l then 11 else 0

def decFV (l : List Int) : Fil := if decFE l = 0 then flV (dS l) else f0

def decRaw (l : List Int) : AVal := if decFE l = 0 then .tuple [.agg (fV (flV (dS l))), .int .i64 0] else .tuple [.agg [.str (bs []), .str (bs []), .nil], .int .i64 (decFE l)]

theorem decRaw_wk (l : List Int) : WkD (decRaw l) (.tuple [.agg (fV (decFV l)), .int .i64 (decFE l)]) := by
  unfold decRaw decFV
  split
  · rename_i h; rw [h]; exact .refl _
  · exact .tuples (.cons (.aggs (.cons (.refl _) (.cons (.refl _) (.cons (.nil false 3) .nil)))) (.cons (.refl _) .nil))

theorem strOf_size (l : List Int) : (strOf l).size = l.length := by simp [strOf, ByteArray.size]

set_option maxRecDepth 20000 in
theorem txV_size {s : RdS} (h : Byt s.rest) : (txV s).size ≤ 255 := by
  rw [txV, strOf_size]
  have h1 := num_bnd _ (tkL_byt (n := 1) h)
  have h2 := tkL_len (n := 1) (s := s) (by omega)
  have h3 : (256 : Int) ^ (tkL 1 s).length ≤ 256 ^ 1 := by
    have : (256 : Nat) ^ (tkL 1 s).length ≤ 256 ^ 1 := Nat.pow_le_pow_right (by omega) (by omega)
    exact_mod_cast this
  have h4 := tkL_len (n := nbV 1 s) (s := tkS 1 s) h1.1
  have h5 : nbV 1 s < 256 := by rw [nbV]; omega
  omega

set_option maxRecDepth 20000 in
theorem batch_Decode_raw {P : Program} (F : F_batch_Decode P) (l : List Int) (hby : Byt l) (H : List AObj) :
    ACalls P F.id [.list false 1 (bC l)] H (fun r H' => r = decRaw l ∧ H' = H) := by
  refine ACalls.pure rfl (acalls_of_body F.has ?_)
  have bad : ∀ {H1 : List AObj} (e : Int), decFE l = e → e ≠ 0 → Pub H1 0 [] (.tuple [.agg [.str (bs []), .str (bs []), .nil], .int .i64 e]) (decRaw l) := fun e h1 h2 => by
    rw [decRaw, if_neg (by rw [h1]; exact h2), h1]
    exact pub2 (.closed _ rfl) (.closed _ rfl)
  (conv => whnf); refine recA (fun h1 => ?_) (fun h1 => ?_)
  · simp [bC_length] at h1
    conv => whnf
    exact bad 2 (by rw [decFE, if_pos (by omega)]) (by decide)
  simp [bC_length] at h1
  (conv => whnf); refine recA (fun h2 => ?_) (fun h2 => ?_)
  · simp [bC_length] at h2
    conv => whnf
    exact bad 12 (by rw [decFE, if_neg (by omega), if_pos (by rw [sumBad, decide_eq_true (by omega)]; rfl)]) (by decide)
  simp [bC_length] at h2
  have ew : IntKind.i64.wrap (((bC l).length : Int) - 4) = ((l.length - 4 : Nat) : Int) := by rw [bC_length, wrapI _ (by omega) (by omega)]; omega
  have et : (IntKind.i64.wrap (((bC l).length : Int) - 4)).toNat = l.length - 4 := by rw [ew, Int.toNat_natCast]
  have es1 : List.drop (IntKind.i64.wrap (((bC l).length : Int) - 4)).toNat (List.take (bC l).length (bC l)) = bC (l.drop (l.length - 4)) := by rw [et, List.take_length, bC_drop]
  have es2 : List.drop 0 (List.take (IntKind.i64.wrap (((bC l).length : Int) - 4)).toNat (bC l)) = bC (l.take (l.length - 4)) := by rw [et, List.drop_zero, bC_take]
  have hbt : Byt (l.take (l.length - 4)) := fun x hx => hby x (List.mem_of_mem_take hx)
  have hbd : Byt (l.drop (l.length - 4)) := fun x hx => hby x (List.mem_of_mem_drop hx)
  have hlt : (l.take (l.length - 4)).length ≤ 65536 := by rw [List.length_take]; omega
  (conv => whnf); refine And.intro (by rw [ew, bC_length]; omega) ?_
  (conv => whnf); refine And.intro (by rw [ew, bC_length]; omega) ?_
  conv => whnf
  rw [es1, es2]
  (conv => whnf); refine ⟨_, Checksum_spec F.batch_Checksum false (l.take (l.length - 4)) (by omega) _, ?_⟩
  (conv => whnf); refine ⟨_, put4_nil F.batch_put4 (fnv (l.take (l.length - 4))) _, ?_⟩
  conv => whnf
  rw [p4_eq _ (fnv_bound _).1 (fnv_bound _).2]
  (conv => whnf); refine ⟨_, bytesEqual_spec F.bytes_Equal false false (l.drop (l.length - 4)) (beN 4 (fnv (l.take (l.length - 4)))) hbd (beN_byt _ _) _, ?_⟩
  have hsb : sumBad l = !(l.drop (l.length - 4) == beN 4 (fnv (l.take (l.length - 4)))) := by rw [sumBad, decide_eq_false (by omega), Bool.false_or]
  (conv => whnf); refine recA (fun h3 => ?_) (fun h3 => ?_)
  · replace h3 : (!(l.drop (l.length - 4) == beN 4 (fnv (l.take (l.length - 4))))) = true := h3
    conv => whnf
    exact bad 12 (by rw [decFE, if_neg (by omega), if_pos (by rw [hsb]; exact h3)]) (by decide)
  replace h3 : (!(l.drop (l.length - 4) == beN 4 (fnv (l.take (l.length - 4))))) = false := h3
  have hE : decFE l = if (flS (dS l)).bad = true ∨ 0 < (flS (dS l)).rest.length then 11 else if encFE (flV (dS l)) ≠ 0 ∨ filB (flV (dS l)) ≠ l then 11 else 0 := by
    rw [decFE, if_neg (by omega), if_neg (by rw [hsb, h3]; simp)]
  (conv => whnf); refine And.intro (by rw [ew, bC_length]; omega) ?_
  conv => whnf
  rw [es2]
  (conv => whnf); refine ACalls.mono (file_spec F.batch_reader_file (dS l) hbt (by show (l.take (l.length - 4)).length ≤ 1000000; omega) _ 1 rfl) ?_
  rintro r H' ⟨rfl, rfl⟩
  (conv => whnf); refine recA (fun h4 => ?_) (fun h4 => ?_)
  · replace h4 : (flS (dS l)).bad = true := h4
    conv => whnf
    exact bad 11 (by rw [hE, if_pos (.inl h4)]) (by decide)
  replace h4 : (flS (dS l)).bad = false := h4
  (conv => whnf); refine recA (fun h5 => ?_) (fun h5 => ?_)
  · simp [bC_length] at h5
    conv => whnf
    exact bad 11 (by rw [hE, if_pos (.inr (by omega))]) (by decide)
  simp [bC_length] at h5
  have hE2 : decFE l = if encFE (flV (dS l)) ≠ 0 ∨ filB (flV (dS l)) ≠ l then 11 else 0 := by rw [hE, if_neg (by simp [h4, h5])]
  have z1 : (flV (dS l)).id.size ≤ 50000 := Nat.le_trans (txV_size (fl1_byt hbt)) (by omega)
  have z2 : (flV (dS l)).src.size ≤ 50000 := Nat.le_trans (txV_size (txS_byt (fl1_byt hbt))) (by omega)
  have hen := fun H => batch_Encode_spec F.batch_Encode (flV (dS l)) z1 z2 H
  by_cases hz : encFE (flV (dS l)) = 0
  · rw [encFR, if_pos hz] at hen
    (conv => whnf); refine ACalls.use (hen _) ?_
    conv => whnf
    (conv => whnf); refine ACalls.use (bytesEqual_spec F.bytes_Equal false false (filB (flV (dS l))) l (filB_byt _) hby _) ?_
    (conv => whnf); refine recA (fun h6 => ?_) (fun h6 => ?_)
    · replace h6 : (!(filB (flV (dS l)) == l)) = true := h6
      simp at h6
      conv => whnf
      exact bad 11 (by rw [hE2, if_pos (.inr h6)]) (by decide)
    · replace h6 : (!(filB (flV (dS l)) == l)) = false := h6
      simp at h6
      have hz0 : decFE l = 0 := by rw [hE2, if_neg (by simp [hz, h6])]
      conv => whnf
      rw [decRaw, if_pos hz0]
      exact pub2 (.closed _ rfl) (.closed _ rfl)
  · rw [encFR, if_neg hz] at hen
    (conv => whnf); refine ACalls.use (hen _) ?_
    (conv => whnf); refine recT (by show (!(encFE (flV (dS l)) == 0)) = true; simp [hz]) ?_
    conv => whnf
    exact bad 11 (by rw [hE2, if_pos (.inl hz)]) (by decide)

theorem batch_Decode_spec {P : Program} (F : F_batch_Decode P) (l : List Int) (hby : Byt l) (H : List AObj) :
    ACalls P F.id [.list false 1 (bC l)] H (fun r H' => r = .tuple [.agg (fV (decFV l)), .int .i64 (decFE l)] ∧ H' = H) :=
  ACalls.weakRD (batch_Decode_raw F l hby H) (by rintro r H' ⟨rfl, rfl⟩; exact ⟨_, decRaw_wk l, rfl, rfl⟩)

end Go.AW

namespace Go.AW
attribute [local irreducible] ACalls
def tkZ (n : Int) (s : RdS) : List Int := if tkB n s then s.rest.take n.toNat else List.replicate n.toNat 0

theorem tkZ_byt {n : Int} {s : RdS} (h : Byt s.rest) : Byt (tkZ n s) := by
  intro x hx
  unfold tkZ at hx
  split at hx
  · exact h x (List.mem_of_mem_take hx)
  · rw [List.eq_of_mem_replicate hx]; omega

theorem tkZ_len {n : Int} {s : RdS} : (tkZ n s).length ≤ n.toNat := by
  unfold tkZ
  split
  · rw [List.length_take]; omega
  · simp

theorem foldl_zero : ∀ (k : Nat), (List.replicate k (0 : Int)).foldl (fun n x => n * 256 + x) 0 = 0
  | 0 => rfl
  | k + 1 => by rw [List.replicate_succ, List.foldl_cons]; exact foldl_zero k

theorem num_tkZ (n : Int) (s : RdS) : num (tkZ n s) = nbV n s := by
  unfold nbV tkZ tkL
  split
  · rfl
  · exact foldl_zero _

theorem keepB_hd {a : Nat} {o : AObj} {G : List AObj} (h3 : o.olen = a) : keepB [a] [0] (o :: G) := keepB_one rfl rfl h3

set_option maxRecDepth 20000 in
theorem ztake_raw {P : Program} (F : F_warehouseref24_reader_take P) (n : Int) (hn : 0 ≤ n) (hn2 : n ≤ 1000000) (s : RdS) :
    ACalls P F.id [.ptr 0 1 0 0, .int .i64 n] [rdO s] (fun r H' => r = .list false 1 (bC (tkZ n s)) ∧ H' = [rdO (tkS n s)]) := by
  refine ACalls.gp (Q0 := fun r H' => (r = .sl 1 n.toNat 0 n.toNat ∧ tkB n s = false ∧ H' = [rdO (tkS n s), .arr 1 (bC (List.replicate n.toNat 0))]) ∨ (r = .list false 1 (bC (tkZ n s)) ∧ H' = [rdO (tkS n s)])) ?_ (by
    rintro r H' (⟨rfl, h, rfl⟩ | ⟨rfl, rfl⟩)
    · refine Gp.res [0] (by simp) (keepB_hd rfl) (H1 := [rdO (tkS n s)]) (r' := .list false 1 (bC (List.replicate n.toNat 0))) ⟨⟨_, rfl, .same _ _ rfl⟩, trivial⟩ ?_ ⟨_, rfl, by rw [tkZ, h]; rfl, rfl⟩
      have := Pub.frz (H1 := [rdO (tkS n s), .arr 1 (bC (List.replicate n.toNat 0))]) (n := 0) (ids := [0]) 1 n.toNat 0 n.toNat 1 (bC (List.replicate n.toNat 0)) rfl (by simp [bC_length]) (pureEs_bC _) (by simp)
      have e : ((bC (List.replicate n.toNat 0)).drop 0).take n.toNat = bC (List.replicate n.toNat 0) := by rw [List.drop_zero, List.take_of_length_le (by simp [bC_length])]
      rwa [e] at this
    · exact .inl ⟨_, rfl, rfl, rfl⟩)
  refine acalls_of_body F.has ?_
  (conv => whnf); refine recA (fun hb => ?_) (fun hb => ?_)
  · replace hb : s.bad = true := hb
    have ht : tkB n s = false := by rw [tkB, hb]; rfl
    (conv => whnf); refine And.intro (⟨by omega, by omega, by show n * ((1 : Nat) : Int) ≤ 1099511627776; omega, by show n ≤ 1099511627776; omega⟩) ?_
    conv => whnf
    exact .inl ⟨rfl, ht, by rw [tkS, ht]; simp [bC, rdO]; rfl⟩
  replace hb : s.bad = false := hb
  (conv => whnf); refine recA (fun hl => ?_) (fun hl => ?_)
  · simp [bC_length] at hl
    have ht : tkB n s = false := by rw [tkB, hb]; simp; omega
    (conv => whnf); refine And.intro (⟨by omega, by omega, by show n * ((1 : Nat) : Int) ≤ 1099511627776; omega, by show n ≤ 1099511627776; omega⟩) ?_
    conv => whnf
    exact .inl ⟨rfl, ht, by rw [tkS, ht]; simp [bC, rdO]; rfl⟩
  simp [bC_length] at hl
  have ht : tkB n s = true := by rw [tkB, hb]; simp; omega
  (conv => whnf); refine And.intro (⟨by omega, by rw [bC_length]; omega⟩) ?_
  (conv => whnf); refine And.intro (⟨by omega, by rw [bC_length]; omega⟩) ?_
  conv => whnf
  refine .inr ⟨?_, ?_⟩
  · rw [tkZ, ht, if_pos rfl, ← bC_take]; rfl
  · rw [tkS, ht, if_pos rfl, rdO]
    simp only [hb]
    rw [← bC_drop]
    show [AObj.arr 2 [[.list false 1 (((bC s.rest).take (bC s.rest).length).drop n.toNat), .bool false]]] = _
    rw [List.take_length]

theorem ztake_spec {P : Program} (F : F_warehouseref24_reader_take P) (n : Int) (hn : 0 ≤ n) (hn2 : n ≤ 1000000) (s : RdS) (H : List AObj) (id : Nat) (ho : H[id]? = some (rdO s)) :
    ACalls P F.id [.ptr id 1 0 0, .int .i64 n] H (fun r H' => r = .list false 1 (bC (tkZ n s)) ∧ H' = H.set id (rdO (tkS n s))) :=
  (ztake_raw F n hn hn2 s).fr ho rfl rfl (.pt (.cl rfl trivial)) (.closed _ rfl)

set_option maxRecDepth 20000 in
theorem znumber_raw {P : Program} (F : F_warehouseref24_reader_number P) (n : Int) (hn : 0 ≤ n) (hn6 : n ≤ 4) (s : RdS) (hby : Byt s.rest) :
    ACalls P F.id [.ptr 0 1 0 0, .int .i64 n] [rdO s] (fun r H' => r = .int .i64 (nbV n s) ∧ H' = [rdO (tkS n s)]) := by
  have hl := tkZ_len (n := n) (s := s)
  have hb := tkZ_byt (n := n) hby
  refine acalls_of_body F.has ?_
  (conv => whnf); refine ACalls.mono (ztake_raw F.warehouseref24_reader_take n hn (by omega) s) ?_
  rintro r H' ⟨rfl, rfl⟩
  conv => whnf
  refine ⟨fun m ρ H => ∃ (k : Nat) (acc : Int), k + m = (tkZ n s).length ∧ 0 ≤ acc ∧ acc < 256 ^ k ∧ ((tkZ n s).drop k).foldl (fun n x => n * 256 + x) acc = num (tkZ n s) ∧ H = [rdO (tkS n s)] ∧
    Sv 23 [(5, .int .i64 acc), (10, .list false 1 (bC (tkZ n s))), (11, .int .i64 (tkZ n s).length), (12, .int .i64 k)] ρ, (tkZ n s).length, [], ?_, ?_⟩
  · exact ⟨0, 0, by omega, by omega, by omega, rfl, rfl, Sv.intro rfl ⟨rfl, rfl, intEq (by rw [bC_length]), rfl, trivial⟩⟩
  rintro m ρ H ⟨k, acc, hk, h0, h1, hr, rfl, d, rfl⟩
  (conv => whnf); refine recA (fun hlt => ?_) (fun hlt => ?_)
  · simp at hlt
    obtain ⟨x, hx, hd, hmem⟩ := get_drop hlt
    have hxb := hb x hmem
    (conv => whnf); refine And.intro (by omega) ?_
    (conv => whnf); refine recO (bC_at hx) ?_
    conv => whnf
    have hp : (256 : Int) ^ k ≤ 256 ^ 4 := by
      have : (256 : Nat) ^ k ≤ 256 ^ 4 := Nat.pow_le_pow_right (by omega) (by omega)
      exact_mod_cast this
    have hp2 : (256 : Int) ^ (k + 1) = 256 ^ k * 256 := Int.pow_succ ..
    refine ⟨m - 1, by omega, Gp.keep rfl ?_ fun ρ1 h => ⟨k + 1, acc * 256 + x, by omega, by omega, by omega, ?_, rfl, h⟩⟩
    · refine ⟨intEq ?_, rfl, rfl, intEq (wrapI ((k : Int) + 1) (by omega) (by omega)), trivial⟩
      show IntKind.i64.wrap (IntKind.i64.wrap (acc * 256) + IntKind.i64.wrap x) = _
      have w1 := wrapI (acc * 256) (by omega) (by omega)
      have w2 := wrapI x (by omega) (by omega)
      rw [w1, w2, wrapI _ (by omega) (by omega)]
    · rw [← hr, hd]; rfl
  · simp at hlt
    conv => whnf
    rw [List.drop_eq_nil_of_le hlt] at hr
    exact ⟨intEq (by rw [← num_tkZ]; exact hr), rfl⟩

theorem znumber_spec {P : Program} (F : F_warehouseref24_reader_number P) (n : Int) (hn : 0 ≤ n) (hn6 : n ≤ 4) (s : RdS) (hby : Byt s.rest) (H : List AObj) (id : Nat) (ho : H[id]? = some (rdO s)) :
    ACalls P F.id [.ptr id 1 0 0, .int .i64 n] H (fun r H' => r = .int .i64 (nbV n s) ∧ H' = H.set id (rdO (tkS n s))) :=
  (znumber_raw F n hn hn6 s hby).fr ho rfl rfl (.pt (.cl rfl trivial)) (.closed _ rfl)

end Go.AW

namespace Go.AW
attribute [local irreducible] ACalls
def zt (s : RdS) : ByteArray := strOf (tkZ (nbV 1 s) (tkS 1 s))

def zL (s : RdS) : List Int := tkZ (nbV 2 (tkS 4 (tkS 1 s))) (rq3 s)

def zrec (s : RdS) : Option Rec := (dcV (zL s)).map fun rs => ⟨nbV 1 s == 1, nbV 4 (tkS 1 s), rs⟩

def zlP : Nat → RdS → List Rec → Option (List Rec × RdS)
  | 0, s, L => some (L, s)
  | n + 1, s, L => if s.bad then some (L, s) else match zrec s with
    | none => none
    | some r => zlP n (rq4 s) (L ++ [r])

def z1 (l : List Int) : RdS := tkS 4 (dS l)

def z2 (l : List Int) : RdS := txS (z1 l)

def z3 (l : List Int) : RdS := txS (z2 l)

def z4 (l : List Int) : RdS := tkS 2 (z3 l)

def zN (l : List Int) : Int := nbV 2 (z3 l)

def zP (l : List Int) : Option (List Rec × RdS) := zlP (zN l).toNat (z4 l) []

def zF (l : List Int) (L : List Rec) : Fil := ⟨zt (z1 l), zt (z2 l), L⟩

def refFE (l : List Int) : Int :=
  if 65536 < l.length then 2 else if sumBad l then 12
  else match zP l with
    | none => 11
    | some (L, st) => if st.bad = true ∨ encFE (zF l L) ≠ 0 ∨ filB (zF l L) ≠ l then 11 else 0

def refFV (l : List Int) : Fil := if refFE l = 0 then (match zP l with | none => f0 | some (L, _) => zF l L) else f0

def RefRaw (l : List Int) (r : AVal) : Prop :=
  (refFE l ≠ 0 ∧ r = .tuple [.agg [.str (bs []), .str (bs []), .nil], .int .i64 (refFE l)]) ∨
  (refFE l = 0 ∧ ∃ c, (c = .list false 3 (rC (refFV l).recs) ∨ (c = .nil ∧ (refFV l).recs = [])) ∧ r = .tuple [.agg [.str (refFV l).id, .str (refFV l).src, c], .int .i64 0])

theorem RefRaw.wk {l : List Int} {r : AVal} (h : RefRaw l r) : WkD r (.tuple [.agg (fV (refFV l)), .int .i64 (refFE l)]) := by
  rcases h with ⟨h, rfl⟩ | ⟨h, c, hc, rfl⟩
  · rw [refFV, if_neg h]
    exact .tuples (.cons (.aggs (.cons (.refl _) (.cons (.refl _) (.cons (.nil false 3) .nil)))) (.cons (.refl _) .nil))
  · rw [h]
    refine .tuples (.cons (.aggs (.cons (.refl _) (.cons (.refl _) (.cons ?_ .nil)))) (.cons (.refl _) .nil))
    rcases hc with rfl | ⟨rfl, hc⟩
    · exact .refl _
    · rw [hc]; exact .nil false 3

theorem RefRaw.pub {l : List Int} {r : AVal} {H1 : List AObj} (h : RefRaw l r) : Pub H1 0 [] r r := by
  rcases h with ⟨h, rfl⟩ | ⟨h, c, hc, rfl⟩
  · exact pub2 (.closed _ rfl) (.closed _ rfl)
  · refine pub2 (.closed _ ?_) (.closed _ rfl)
    rcases hc with rfl | ⟨rfl, hc⟩ <;> rfl

def zobj (l : List Int) (c : AVal) : AObj := .arr 3 [[.str (zt (z1 l)), .str (zt (z2 l)), c]]

def zH (l : List Int) (st : RdS) (L : List Rec) (H : List AObj) : Prop :=
  (L = [] ∧ H = [resO, rdO st, zobj l .nil]) ∨ H = [resO, rdO st, zobj l (.sl 3 L.length 0 L.length), .arr 3 (rC L)]

theorem zt_size {s : RdS} (h : Byt s.rest) : (zt s).size ≤ 255 := by
  have h0 := tkZ_len (n := nbV 1 s) (s := tkS 1 s)
  have h1 := num_bnd _ (tkL_byt (n := 1) h)
  have h2 := tkL_len (n := 1) (s := s) (by omega)
  have h3 : nbV 1 s < 256 := by
    rw [nbV]
    have h4 : (tkL 1 s).length = 0 ∨ (tkL 1 s).length = 1 := by omega
    rcases h4 with h4 | h4 <;> rw [h4] at h1 <;> simp at h1 <;> omega
  rw [zt, strOf_size]; omega

theorem ob3 {H : List AObj} {ids : List Nat} {a b : ByteArray} {c c1 : AVal} (h : Pub H 0 ids c c1) (hc : c1.isCell = true) : ObP H ids (.arr 3 [[.str a, .str b, c]]) (.arr 3 [[.str a, .str b, c1]]) := by
  refine .map 3 _ _ rfl (fun i e e1 h1 h2 => ?_) (fun i j e e1 d d1 h1 h2 h3 h4 => ?_)
  · rcases i with _ | i
    · cases h1; cases h2; rfl
    · simp at h1
  · rcases i with _ | i
    · cases h1; cases h2
      rcases j with _ | _ | _ | j
      · cases h3; cases h4; exact ⟨.closed _ rfl, rfl⟩
      · cases h3; cases h4; exact ⟨.closed _ rfl, rfl⟩
      · cases h3; cases h4; exact ⟨h, hc⟩
      · simp at h3
    · simp at h1

set_option maxRecDepth 20000 in
theorem ref24_Decode_spec {P : Program} (F : F_warehouseref24_Decode P) (l : List Int) (hby : Byt l) (H : List AObj) :
    ACalls P F.id [.list false 1 (bC l)] H (fun r H' => r = .tuple [.agg (fV (refFV l)), .int .i64 (refFE l)] ∧ H' = H) := by
  refine ACalls.weakRD (Q := fun r H' => RefRaw l r ∧ H' = H) ?_ (by rintro r H' ⟨h, rfl⟩; exact ⟨_, h.wk, rfl, rfl⟩)
  refine ACalls.lift0 rfl (ACalls.mono (Q := fun r _ => RefRaw l r) ?_ fun r H1 h => ⟨r, h.pub, h⟩)
  refine acalls_of_body F.has ?_
  have nb1 : ∀ s : RdS, Byt s.rest → nbV 1 s ≤ 255 := fun s h => by
    have h1 := num_bnd _ (tkL_byt (n := 1) h)
    have h2 := tkL_len (n := 1) (s := s) (by omega)
    have h4 : (tkL 1 s).length = 0 ∨ (tkL 1 s).length = 1 := by omega
    show num (tkL 1 s) ≤ 255
    rcases h4 with h4 | h4 <;> rw [h4] at h1 <;> simp at h1 <;> omega
  have nb2 : ∀ s : RdS, Byt s.rest → nbV 2 s ≤ 65535 := fun s h => by
    have h1 := num_bnd _ (tkL_byt (n := 2) h)
    have h2 := tkL_len (n := 2) (s := s) (by omega)
    have h4 : (tkL 2 s).length = 0 ∨ (tkL 2 s).length = 1 ∨ (tkL 2 s).length = 2 := by omega
    show num (tkL 2 s) ≤ 65535
    rcases h4 with h4 | h4 | h4 <;> rw [h4] at h1 <;> simp at h1 <;> omega
  have bad : ∀ (e : Int), refFE l = e → e ≠ 0 → RefRaw l (.tuple [.agg [.str (bs []), .str (bs []), .nil], .int .i64 e]) := fun e h1 h2 => by
    subst h1; exact .inl ⟨h2, rfl⟩
  (conv => whnf); refine recA (fun h1 => ?_) (fun h1 => ?_)
  · simp [bC_length] at h1
    conv => whnf
    exact bad 2 (by rw [refFE, if_pos (by omega)]) (by decide)
  simp [bC_length] at h1
  (conv => whnf); refine recA (fun h2 => ?_) (fun h2 => ?_)
  · simp [bC_length] at h2
    conv => whnf
    exact bad 12 (by rw [refFE, if_neg (by omega), if_pos (by rw [sumBad, decide_eq_true (by omega)]; rfl)]) (by decide)
  simp [bC_length] at h2
  have ew : IntKind.i64.wrap (((bC l).length : Int) - 4) = ((l.length - 4 : Nat) : Int) := by rw [bC_length, wrapI _ (by omega) (by omega)]; omega
  have et : (IntKind.i64.wrap (((bC l).length : Int) - 4)).toNat = l.length - 4 := by rw [ew, Int.toNat_natCast]
  have es1 : List.drop (IntKind.i64.wrap (((bC l).length : Int) - 4)).toNat (List.take (bC l).length (bC l)) = bC (l.drop (l.length - 4)) := by rw [et, List.take_length, bC_drop]
  have es2 : List.drop 0 (List.take (IntKind.i64.wrap (((bC l).length : Int) - 4)).toNat (bC l)) = bC (l.take (l.length - 4)) := by rw [et, List.drop_zero, bC_take]
  have hbt : Byt (l.take (l.length - 4)) := fun x hx => hby x (List.mem_of_mem_take hx)
  have hbd : Byt (l.drop (l.length - 4)) := fun x hx => hby x (List.mem_of_mem_drop hx)
  have hlt : (l.take (l.length - 4)).length ≤ 65536 := by rw [List.length_take]; omega
  have fb := fnv_bound (l.take (l.length - 4))
  have ef : IntKind.i64.wrap (fnv (l.take (l.length - 4))) = fnv (l.take (l.length - 4)) := wrapI _ (by omega) (by omega)
  (conv => whnf); refine And.intro (by rw [ew, bC_length]; omega) ?_
  conv => whnf
  rw [es2]
  (conv => whnf); refine ⟨_, ref24_Checksum_spec F.warehouseref24_Checksum false (l.take (l.length - 4)) (by omega) hbt _, ?_⟩
  conv => whnf
  rw [ef]
  (conv => whnf); refine ⟨_, ref24_number_spec F.warehouseref24_number (fnv (l.take (l.length - 4))) 4 fb.1 (by omega) (by omega) _, ?_⟩
  (conv => whnf); refine ⟨_, bytesOf_bC _, ?_⟩
  (conv => whnf); refine And.intro (by rw [ew, bC_length]; omega) ?_
  conv => whnf
  rw [es1]
  (conv => whnf); refine ⟨_, bytesOf_bC _, ?_⟩
  have hsb0 : sumBad l = !(l.drop (l.length - 4) == beN 4 (fnv (l.take (l.length - 4)))) := by rw [sumBad, decide_eq_false (by omega), Bool.false_or]
  have hbq : ((beN 4 (fnv (l.take (l.length - 4)))).map (fun n => UInt8.ofNat n.toNat) == (l.drop (l.length - 4)).map (fun n => UInt8.ofNat n.toNat)) = (l.drop (l.length - 4) == beN 4 (fnv (l.take (l.length - 4)))) := by
    rw [byt_beq (beN_byt _ _) hbd, Bool.eq_iff_iff, beq_iff_eq, beq_iff_eq]; exact eq_comm
  (conv => whnf); refine recA (fun h3 => ?_) (fun h3 => ?_)
  · replace h3 : (!((beN 4 (fnv (l.take (l.length - 4)))).map (fun n => UInt8.ofNat n.toNat) == (l.drop (l.length - 4)).map (fun n => UInt8.ofNat n.toNat))) = true := h3
    rw [hbq] at h3
    conv => whnf
    exact bad 12 (by rw [refFE, if_neg (by omega), if_pos (by rw [hsb0]; exact h3)]) (by decide)
  replace h3 : (!((beN 4 (fnv (l.take (l.length - 4)))).map (fun n => UInt8.ofNat n.toNat) == (l.drop (l.length - 4)).map (fun n => UInt8.ofNat n.toNat))) = false := h3
  rw [hbq, ← hsb0] at h3
  have hsb : sumBad l = false := h3
  (conv => whnf); refine And.intro (by rw [ew, bC_length]; omega) ?_
  conv => whnf
  rw [es2]
  have d0 : Byt (dS l).rest := hbt
  have d1 : Byt (z1 l).rest := tkS_byt d0
  have d2 : Byt (z2 l).rest := txS_byt d1
  have d3 : Byt (z3 l).rest := txS_byt d2
  have d4 : Byt (z4 l).rest := tkS_byt d3
  (conv => whnf); refine ACalls.mono (ztake_spec F.warehouseref24_reader_take 4 (by omega) (by omega) (dS l) _ 1 rfl) ?_
  rintro r H' ⟨rfl, rfl⟩
  (conv => whnf); refine ACalls.mono (znumber_spec F.warehouseref24_reader_number 1 (by omega) (by omega) (z1 l) d1 _ 1 rfl) ?_
  rintro r H' ⟨rfl, rfl⟩
  have n1 := nb1 (z1 l) d1
  have n2 := nb1 (z2 l) d2
  (conv => whnf); refine ACalls.mono (ztake_spec F.warehouseref24_reader_take _ (nbV_bound (n := 1) (by omega) (by omega) d1).1 (by omega) (tkS 1 (z1 l)) _ 1 rfl) ?_
  rintro r H' ⟨rfl, rfl⟩
  (conv => whnf); refine ⟨_, bytesOf_bC _, ?_⟩
  (conv => whnf); refine ACalls.mono (znumber_spec F.warehouseref24_reader_number 1 (by omega) (by omega) (z2 l) d2 _ 1 rfl) ?_
  rintro r H' ⟨rfl, rfl⟩
  (conv => whnf); refine ACalls.mono (ztake_spec F.warehouseref24_reader_take _ (nbV_bound (n := 1) (by omega) (by omega) d2).1 (by omega) (tkS 1 (z2 l)) _ 1 rfl) ?_
  rintro r H' ⟨rfl, rfl⟩
  (conv => whnf); refine ⟨_, bytesOf_bC _, ?_⟩
  (conv => whnf); refine ACalls.mono (znumber_spec F.warehouseref24_reader_number 2 (by omega) (by omega) (z3 l) d3 _ 1 rfl) ?_
  rintro r H' ⟨rfl, rfl⟩
  have n3 := nb2 (z3 l) d3
  have n30 := (nbV_bound (n := 2) (by omega) (by omega) d3).1
  conv => whnf
  refine ⟨fun m ρ H1 => ∃ (k : Nat) (st : RdS) (L : List Rec), m = k ∧ zlP k st L = zP l ∧ L.length + k ≤ 65535 ∧ Byt st.rest ∧ zH l st L H1 ∧
    Sv 119 [(0, .list false 1 (bC l)), (2, .ptr 0 1 0 0), (4, .ptr 1 1 0 0), (5, .ptr 2 1 0 0), (6, .int .i64 k)] ρ, (zN l).toNat, [], ?_, ?_⟩
  · exact ⟨(zN l).toNat, z4 l, [], rfl, rfl, by simp; rw [zN]; omega, d4, .inl ⟨rfl, rfl⟩, Sv.intro rfl ⟨rfl, rfl, rfl, rfl, intEq (by show nbV 2 (z3 l) = _; rw [zN]; omega), trivial⟩⟩
  rintro m ρ H1 ⟨k, st, L, rfl, hr, hle, hb, hH, d, rfl⟩
  rcases hH with ⟨hL, rfl⟩ | rfl
  · (conv => whnf); refine recA (fun hlt => ?_) (fun hlt => ?_)
    · simp at hlt
      conv => whnf
      by_cases hbad : st.bad = false
      · refine ⟨Gp.keep (n := 119) (live := [(0, .list false 1 (bC l)), (2, .ptr 0 1 0 0), (4, .ptr 1 1 0 0), (5, .ptr 2 1 0 0), (6, .int .i64 m), (69, .bool true)]) rfl ⟨rfl, rfl, rfl, rfl, rfl, by show AVal.bool (!st.bad) = .bool true; rw [hbad]; rfl, trivial⟩ ?_⟩
        rintro ρ1 ⟨d, rfl⟩
        obtain ⟨k, rfl⟩ : ∃ j, m = j + 1 := ⟨m - 1, by omega⟩
        rw [zlP, if_neg (by simp [hbad])] at hr
        (conv => whnf); refine ACalls.mono (znumber_spec F.warehouseref24_reader_number 1 (by omega) (by omega) st hb _ 1 rfl) ?_
        rintro r H' ⟨rfl, rfl⟩
        (conv => whnf); refine ACalls.mono (znumber_spec F.warehouseref24_reader_number 4 (by omega) (by omega) (tkS 1 st) (tkS_byt hb) _ 1 rfl) ?_
        rintro r H' ⟨rfl, rfl⟩
        (conv => whnf); refine ACalls.mono (znumber_spec F.warehouseref24_reader_number 2 (by omega) (by omega) (tkS 4 (tkS 1 st)) (tkS_byt (tkS_byt hb)) _ 1 rfl) ?_
        rintro r H' ⟨rfl, rfl⟩
        have hnb := nbV_bound (n := 2) (s := tkS 4 (tkS 1 st)) (by omega) (by omega) (tkS_byt (tkS_byt hb))
        have hnb2 := nb2 (tkS 4 (tkS 1 st)) (tkS_byt (tkS_byt hb))
        (conv => whnf); refine ACalls.mono (ztake_spec F.warehouseref24_reader_take _ hnb.1 (by omega) (rq3 st) _ 1 rfl) ?_
        rintro r H' ⟨rfl, rfl⟩
        have hzl : (zL st).length ≤ 1000000 := by
          have := tkZ_len (n := nbV 2 (tkS 4 (tkS 1 st))) (s := rq3 st)
          rw [zL]; omega
        have hdec := fun H => ref1_Decode_spec F.warehouseref1_Decode false (zL st) (tkZ_byt (tkS_byt (tkS_byt (tkS_byt hb)))) hzl H
        rw [decR_eq] at hdec
        cases hc : dcV (zL st) with
        | none =>
          have hz : zrec st = none := by rw [zrec, hc]; rfl
          rw [hz] at hr
          have hE : refFE l = 11 := by
            rw [refFE, if_neg (by omega), if_neg (by rw [hsb]; simp), ← hr]
          rw [hc] at hdec
          (conv => whnf); refine ACalls.use (hdec _) ?_
          conv => whnf
          exact .inl ⟨by rw [hE]; decide, by rw [hE]; rfl⟩
        | some rs =>
          have hz : zrec st = some ⟨nbV 1 st == 1, nbV 4 (tkS 1 st), rs⟩ := by rw [zrec, hc]; rfl
          rw [hz] at hr
          rw [hc] at hdec
          (conv => whnf); refine ACalls.use (hdec _) ?_
          (conv => whnf); refine And.intro (⟨roomMul (by simp) (by omega), roomB_le (by simp)⟩) ?_
          conv => whnf
          subst hL
          refine ⟨k, by omega, Gp.some (n := 119) (live := [(0, .list false 1 (bC l)), (2, .ptr 0 1 0 0), (4, .ptr 1 1 0 0), (5, .ptr 2 1 0 0), (6, .int .i64 k)]) (H1 := [resO, rdO (rq4 st), zobj l (.sl 3 1 0 1), .arr 3 (rC [⟨nbV 1 st == 1, nbV 4 (tkS 1 st), rs⟩])]) [0, 1, 2, 4] (by simp)
            ⟨⟨_, rfl, .same _ _ rfl⟩, ⟨_, rfl, .same _ _ rfl⟩, ⟨_, rfl, ob3 (.keep 4 _ _ _ 3 rfl) rfl⟩, ⟨_, rfl, .same _ _ (by simp [pureEs, AVal.isPure])⟩, trivial⟩ rfl ?_ fun ρ1 h => ⟨k, rq4 st, [⟨nbV 1 st == 1, nbV 4 (tkS 1 st), rs⟩], rfl, hr, by simp; simp at hle; omega, tkS_byt (tkS_byt (tkS_byt (tkS_byt hb))), .inr rfl, h⟩⟩
          exact ⟨.closed _ rfl, .keepP 0 1 0 0 0 rfl, .keepP 1 1 0 0 1 rfl, .keepP 2 1 0 0 2 rfl, pub_int (by have := wrapI (((k + 1 : Nat) : Int) - 1) (by omega) (by omega); show IntKind.i64.wrap (((k + 1 : Nat) : Int) - 1) = _; omega), trivial⟩
      · simp at hbad
        have hzp : zP l = some (L, st) := by
          rw [← hr]
          cases m with
          | zero => rfl
          | succ j => rw [zlP, if_pos hbad]
        refine ⟨Gp.keep (n := 119) (live := [(0, .list false 1 (bC l)), (2, .ptr 0 1 0 0), (4, .ptr 1 1 0 0), (5, .ptr 2 1 0 0), (69, .bool false)]) rfl ⟨rfl, rfl, rfl, rfl, by first | rfl | (show AVal.bool (!st.bad) = .bool false; rw [hbad]; rfl), trivial⟩ ?_⟩
        rintro ρ1 ⟨d, rfl⟩
        have hcw : WkD .nil (.list false 3 (rC L)) := by rw [hL]; exact .nil false 3
        have hE : refFE l = if st.bad = true ∨ encFE (zF l L) ≠ 0 ∨ filB (zF l L) ≠ l then 11 else 0 := by
          rw [refFE, if_neg (by omega), if_neg (by rw [hsb]; simp), hzp]
        have hen := fun H => (ref24_Encode_spec F.warehouseref24_Encode (zF l L) (Nat.le_trans (zt_size d1) (by omega)) (Nat.le_trans (zt_size d2) (by omega)) H).weakD (args := [.agg [.str (zt (z1 l)), .str (zt (z2 l)), (.nil : AVal)]]) (.cons (.aggs (.cons (.refl _) (.cons (.refl _) (.cons hcw .nil)))) .nil)
        by_cases hz : encFE (zF l L) = 0
        · rw [encFR, if_pos hz] at hen
          (conv => whnf); refine ACalls.use (hen _) ?_
          (conv => whnf); refine recA (fun h6 => ?_) (fun h6 => ?_)
          · replace h6 : st.bad = true := h6
            conv => whnf
            exact bad 11 (by rw [hE, if_pos (.inl h6)]) (by decide)
          replace h6 : st.bad = false := h6
          (conv => whnf); refine ⟨_, bytesOf_bC _, ?_⟩
          (conv => whnf); refine ⟨_, bytesOf_bC _, ?_⟩
          (conv => whnf); refine recA (fun h7 => ?_) (fun h7 => ?_)
          · replace h7 : (!((filB (zF l L)).map (fun n => UInt8.ofNat n.toNat) == l.map (fun n => UInt8.ofNat n.toNat))) = true := h7
            rw [byt_beq (filB_byt _) hby] at h7
            simp at h7
            conv => whnf
            exact bad 11 (by rw [hE, if_pos (.inr (.inr h7))]) (by decide)
          · replace h7 : (!((filB (zF l L)).map (fun n => UInt8.ofNat n.toNat) == l.map (fun n => UInt8.ofNat n.toNat))) = false := h7
            rw [byt_beq (filB_byt _) hby] at h7
            simp at h7
            have hz0 : refFE l = 0 := by rw [hE, if_neg (by simp [h6, hz, h7])]
            have hv : refFV l = zF l L := by rw [refFV, if_pos hz0, hzp]
            conv => whnf
            exact .inr ⟨hz0, (.nil : AVal), by rw [hv]; exact (.inr ⟨rfl, hL⟩), by rw [hv]; rfl⟩
        · rw [encFR, if_neg hz] at hen
          (conv => whnf); refine ACalls.use (hen _) ?_
          (conv => whnf); refine recA (fun h6 => ?_) (fun h6 => ?_)
          · replace h6 : st.bad = true := h6
            conv => whnf
            exact bad 11 (by rw [hE, if_pos (.inl h6)]) (by decide)
          (conv => whnf); refine recT (by show (!(encFE (zF l L) == 0)) = true; simp [hz]) ?_
          conv => whnf
          exact bad 11 (by rw [hE, if_pos (.inr (.inl hz))]) (by decide)
    · simp at hlt
      have hm0 : m = 0 := by omega
      subst hm0
      have hzp : zP l = some (L, st) := hr.symm
      conv => whnf
      refine ⟨Gp.keep (n := 119) (live := [(0, .list false 1 (bC l)), (2, .ptr 0 1 0 0), (4, .ptr 1 1 0 0), (5, .ptr 2 1 0 0), (69, .bool false)]) rfl ⟨rfl, rfl, rfl, rfl, by first | rfl | (show AVal.bool (!st.bad) = .bool false; rw [hbad]; rfl), trivial⟩ ?_⟩
      rintro ρ1 ⟨d, rfl⟩
      have hcw : WkD .nil (.list false 3 (rC L)) := by rw [hL]; exact .nil false 3
      have hE : refFE l = if st.bad = true ∨ encFE (zF l L) ≠ 0 ∨ filB (zF l L) ≠ l then 11 else 0 := by
        rw [refFE, if_neg (by omega), if_neg (by rw [hsb]; simp), hzp]
      have hen := fun H => (ref24_Encode_spec F.warehouseref24_Encode (zF l L) (Nat.le_trans (zt_size d1) (by omega)) (Nat.le_trans (zt_size d2) (by omega)) H).weakD (args := [.agg [.str (zt (z1 l)), .str (zt (z2 l)), (.nil : AVal)]]) (.cons (.aggs (.cons (.refl _) (.cons (.refl _) (.cons hcw .nil)))) .nil)
      by_cases hz : encFE (zF l L) = 0
      · rw [encFR, if_pos hz] at hen
        (conv => whnf); refine ACalls.use (hen _) ?_
        (conv => whnf); refine recA (fun h6 => ?_) (fun h6 => ?_)
        · replace h6 : st.bad = true := h6
          conv => whnf
          exact bad 11 (by rw [hE, if_pos (.inl h6)]) (by decide)
        replace h6 : st.bad = false := h6
        (conv => whnf); refine ⟨_, bytesOf_bC _, ?_⟩
        (conv => whnf); refine ⟨_, bytesOf_bC _, ?_⟩
        (conv => whnf); refine recA (fun h7 => ?_) (fun h7 => ?_)
        · replace h7 : (!((filB (zF l L)).map (fun n => UInt8.ofNat n.toNat) == l.map (fun n => UInt8.ofNat n.toNat))) = true := h7
          rw [byt_beq (filB_byt _) hby] at h7
          simp at h7
          conv => whnf
          exact bad 11 (by rw [hE, if_pos (.inr (.inr h7))]) (by decide)
        · replace h7 : (!((filB (zF l L)).map (fun n => UInt8.ofNat n.toNat) == l.map (fun n => UInt8.ofNat n.toNat))) = false := h7
          rw [byt_beq (filB_byt _) hby] at h7
          simp at h7
          have hz0 : refFE l = 0 := by rw [hE, if_neg (by simp [h6, hz, h7])]
          have hv : refFV l = zF l L := by rw [refFV, if_pos hz0, hzp]
          conv => whnf
          exact .inr ⟨hz0, (.nil : AVal), by rw [hv]; exact (.inr ⟨rfl, hL⟩), by rw [hv]; rfl⟩
      · rw [encFR, if_neg hz] at hen
        (conv => whnf); refine ACalls.use (hen _) ?_
        (conv => whnf); refine recA (fun h6 => ?_) (fun h6 => ?_)
        · replace h6 : st.bad = true := h6
          conv => whnf
          exact bad 11 (by rw [hE, if_pos (.inl h6)]) (by decide)
        (conv => whnf); refine recT (by show (!(encFE (zF l L) == 0)) = true; simp [hz]) ?_
        conv => whnf
        exact bad 11 (by rw [hE, if_pos (.inr (.inl hz))]) (by decide)
  · (conv => whnf); refine recA (fun hlt => ?_) (fun hlt => ?_)
    · simp at hlt
      conv => whnf
      by_cases hbad : st.bad = false
      · refine ⟨Gp.keep (n := 119) (live := [(0, .list false 1 (bC l)), (2, .ptr 0 1 0 0), (4, .ptr 1 1 0 0), (5, .ptr 2 1 0 0), (6, .int .i64 m), (69, .bool true)]) rfl ⟨rfl, rfl, rfl, rfl, rfl, by show AVal.bool (!st.bad) = .bool true; rw [hbad]; rfl, trivial⟩ ?_⟩
        rintro ρ1 ⟨d, rfl⟩
        obtain ⟨k, rfl⟩ : ∃ j, m = j + 1 := ⟨m - 1, by omega⟩
        rw [zlP, if_neg (by simp [hbad])] at hr
        (conv => whnf); refine ACalls.mono (znumber_spec F.warehouseref24_reader_number 1 (by omega) (by omega) st hb _ 1 rfl) ?_
        rintro r H' ⟨rfl, rfl⟩
        (conv => whnf); refine ACalls.mono (znumber_spec F.warehouseref24_reader_number 4 (by omega) (by omega) (tkS 1 st) (tkS_byt hb) _ 1 rfl) ?_
        rintro r H' ⟨rfl, rfl⟩
        (conv => whnf); refine ACalls.mono (znumber_spec F.warehouseref24_reader_number 2 (by omega) (by omega) (tkS 4 (tkS 1 st)) (tkS_byt (tkS_byt hb)) _ 1 rfl) ?_
        rintro r H' ⟨rfl, rfl⟩
        have hnb := nbV_bound (n := 2) (s := tkS 4 (tkS 1 st)) (by omega) (by omega) (tkS_byt (tkS_byt hb))
        have hnb2 := nb2 (tkS 4 (tkS 1 st)) (tkS_byt (tkS_byt hb))
        (conv => whnf); refine ACalls.mono (ztake_spec F.warehouseref24_reader_take _ hnb.1 (by omega) (rq3 st) _ 1 rfl) ?_
        rintro r H' ⟨rfl, rfl⟩
        have hzl : (zL st).length ≤ 1000000 := by
          have := tkZ_len (n := nbV 2 (tkS 4 (tkS 1 st))) (s := rq3 st)
          rw [zL]; omega
        have hdec := fun H => ref1_Decode_spec F.warehouseref1_Decode false (zL st) (tkZ_byt (tkS_byt (tkS_byt (tkS_byt hb)))) hzl H
        rw [decR_eq] at hdec
        cases hc : dcV (zL st) with
        | none =>
          have hz : zrec st = none := by rw [zrec, hc]; rfl
          rw [hz] at hr
          have hE : refFE l = 11 := by
            rw [refFE, if_neg (by omega), if_neg (by rw [hsb]; simp), ← hr]
          rw [hc] at hdec
          (conv => whnf); refine ACalls.use (hdec _) ?_
          conv => whnf
          exact .inl ⟨by rw [hE]; decide, by rw [hE]; rfl⟩
        | some rs =>
          have hz : zrec st = some ⟨nbV 1 st == 1, nbV 4 (tkS 1 st), rs⟩ := by rw [zrec, hc]; rfl
          rw [hz] at hr
          rw [hc] at hdec
          (conv => whnf); refine ACalls.use (hdec _) ?_
          (conv => whnf); refine recT (by rw [rC_length]; exact Nat.beq_refl _) ?_
          (conv => whnf); refine And.intro (⟨roomMul (by simp; omega) (by omega), roomB_le (by simp; omega), rfl, by rw [rC_length]⟩) ?_
          conv => whnf
          have hcn : rC L ++ [recC ⟨nbV 1 st == 1, nbV 4 (tkS 1 st), rs⟩] = rC (L ++ [⟨nbV 1 st == 1, nbV 4 (tkS 1 st), rs⟩]) := by rw [rC_append]; rfl
          have hcl := (congrArg List.length hcn).trans (rC_length _)
          refine ⟨k, by omega, Gp.some (n := 119) (live := [(0, .list false 1 (bC l)), (2, .ptr 0 1 0 0), (4, .ptr 1 1 0 0), (5, .ptr 2 1 0 0), (6, .int .i64 k)]) (H1 := [resO, rdO (rq4 st), zobj l (.sl 3 (rC L ++ [recC ⟨nbV 1 st == 1, nbV 4 (tkS 1 st), rs⟩]).length 0 (rC L ++ [recC ⟨nbV 1 st == 1, nbV 4 (tkS 1 st), rs⟩]).length), .arr 3 (rC L ++ [recC ⟨nbV 1 st == 1, nbV 4 (tkS 1 st), rs⟩])]) [0, 1, 2, 3] (by simp)
            ⟨⟨_, rfl, .same _ _ rfl⟩, ⟨_, rfl, .same _ _ rfl⟩, ⟨_, rfl, ob3 (.keep 3 _ _ _ 3 rfl) rfl⟩, ⟨_, rfl, .same _ _ ((congrArg pureEs hcn).trans (pureEs_rC _))⟩, trivial⟩ rfl ?_ fun ρ1 h => ⟨k, rq4 st, L ++ [⟨nbV 1 st == 1, nbV 4 (tkS 1 st), rs⟩], rfl, hr, by simp; omega, tkS_byt (tkS_byt (tkS_byt (tkS_byt hb))), .inr (by rw [hcn, rC_length]), h⟩⟩
          exact ⟨.closed _ rfl, .keepP 0 1 0 0 0 rfl, .keepP 1 1 0 0 1 rfl, .keepP 2 1 0 0 2 rfl, pub_int (by have := wrapI (((k + 1 : Nat) : Int) - 1) (by omega) (by omega); show IntKind.i64.wrap (((k + 1 : Nat) : Int) - 1) = _; omega), trivial⟩
      · simp at hbad
        have hzp : zP l = some (L, st) := by
          rw [← hr]
          cases m with
          | zero => rfl
          | succ j => rw [zlP, if_pos hbad]
        refine Ghost.some (n := 119) (live := [(0, .list false 1 (bC l)), (2, .ptr 0 1 0 0), (4, .ptr 1 1 0 0), (5, .ptr 2 1 0 0), (69, .bool false)]) (H1 := [resO, rdO st, zobj l (.list false 3 (rC L))]) [0, 1, 2] (by simp)
          ⟨⟨_, rfl, .same _ _ rfl⟩, ⟨_, rfl, .same _ _ rfl⟩, ⟨_, rfl, ob3 ?_ rfl⟩, trivial⟩ rfl ⟨.closed _ rfl, .keepP 0 1 0 0 0 rfl, .keepP 1 1 0 0 1 rfl, .keepP 2 1 0 0 2 rfl, (by show Pub _ 0 [0, 1, 2] (.bool (!st.bad)) (.bool false); rw [hbad]; exact .closed _ rfl), trivial⟩ ?_
        · have := Pub.frz (H1 := [resO, rdO st, zobj l (.sl 3 L.length 0 L.length), .arr 3 (rC L)]) (n := 0) (ids := [0, 1, 2]) 3 L.length 0 L.length 3 (rC L) rfl (by rw [rC_length]) (pureEs_rC _) (by simp)
          have e : ((rC L).drop 0).take L.length = rC L := by rw [List.drop_zero, List.take_of_length_le (by rw [rC_length]; exact Nat.le_refl _)]
          rwa [e] at this
        rintro ρ1 ⟨d, rfl⟩
        have hcw : WkD (.list false 3 (rC L)) (.list false 3 (rC L)) := .refl _
        have hE : refFE l = if st.bad = true ∨ encFE (zF l L) ≠ 0 ∨ filB (zF l L) ≠ l then 11 else 0 := by
          rw [refFE, if_neg (by omega), if_neg (by rw [hsb]; simp), hzp]
        have hen := fun H => (ref24_Encode_spec F.warehouseref24_Encode (zF l L) (Nat.le_trans (zt_size d1) (by omega)) (Nat.le_trans (zt_size d2) (by omega)) H).weakD (args := [.agg [.str (zt (z1 l)), .str (zt (z2 l)), (.list false 3 (rC L))]]) (.cons (.aggs (.cons (.refl _) (.cons (.refl _) (.cons hcw .nil)))) .nil)
        by_cases hz : encFE (zF l L) = 0
        · rw [encFR, if_pos hz] at hen
          (conv => whnf); refine ACalls.use (hen _) ?_
          (conv => whnf); refine recA (fun h6 => ?_) (fun h6 => ?_)
          · replace h6 : st.bad = true := h6
            conv => whnf
            exact bad 11 (by rw [hE, if_pos (.inl h6)]) (by decide)
          replace h6 : st.bad = false := h6
          (conv => whnf); refine ⟨_, bytesOf_bC _, ?_⟩
          (conv => whnf); refine ⟨_, bytesOf_bC _, ?_⟩
          (conv => whnf); refine recA (fun h7 => ?_) (fun h7 => ?_)
          · replace h7 : (!((filB (zF l L)).map (fun n => UInt8.ofNat n.toNat) == l.map (fun n => UInt8.ofNat n.toNat))) = true := h7
            rw [byt_beq (filB_byt _) hby] at h7
            simp at h7
            conv => whnf
            exact bad 11 (by rw [hE, if_pos (.inr (.inr h7))]) (by decide)
          · replace h7 : (!((filB (zF l L)).map (fun n => UInt8.ofNat n.toNat) == l.map (fun n => UInt8.ofNat n.toNat))) = false := h7
            rw [byt_beq (filB_byt _) hby] at h7
            simp at h7
            have hz0 : refFE l = 0 := by rw [hE, if_neg (by simp [h6, hz, h7])]
            have hv : refFV l = zF l L := by rw [refFV, if_pos hz0, hzp]
            conv => whnf
            exact .inr ⟨hz0, (.list false 3 (rC L)), by rw [hv]; exact (.inl rfl), by rw [hv]; rfl⟩
        · rw [encFR, if_neg hz] at hen
          (conv => whnf); refine ACalls.use (hen _) ?_
          (conv => whnf); refine recA (fun h6 => ?_) (fun h6 => ?_)
          · replace h6 : st.bad = true := h6
            conv => whnf
            exact bad 11 (by rw [hE, if_pos (.inl h6)]) (by decide)
          (conv => whnf); refine recT (by show (!(encFE (zF l L) == 0)) = true; simp [hz]) ?_
          conv => whnf
          exact bad 11 (by rw [hE, if_pos (.inr (.inl hz))]) (by decide)
    · simp at hlt
      have hm0 : m = 0 := by omega
      subst hm0
      have hzp : zP l = some (L, st) := hr.symm
      conv => whnf
      refine Ghost.some (n := 119) (live := [(0, .list false 1 (bC l)), (2, .ptr 0 1 0 0), (4, .ptr 1 1 0 0), (5, .ptr 2 1 0 0), (69, .bool false)]) (H1 := [resO, rdO st, zobj l (.list false 3 (rC L))]) [0, 1, 2] (by simp)
        ⟨⟨_, rfl, .same _ _ rfl⟩, ⟨_, rfl, .same _ _ rfl⟩, ⟨_, rfl, ob3 ?_ rfl⟩, trivial⟩ rfl ⟨.closed _ rfl, .keepP 0 1 0 0 0 rfl, .keepP 1 1 0 0 1 rfl, .keepP 2 1 0 0 2 rfl, (.closed _ rfl), trivial⟩ ?_
      · have := Pub.frz (H1 := [resO, rdO st, zobj l (.sl 3 L.length 0 L.length), .arr 3 (rC L)]) (n := 0) (ids := [0, 1, 2]) 3 L.length 0 L.length 3 (rC L) rfl (by rw [rC_length]) (pureEs_rC _) (by simp)
        have e : ((rC L).drop 0).take L.length = rC L := by rw [List.drop_zero, List.take_of_length_le (by rw [rC_length]; exact Nat.le_refl _)]
        rwa [e] at this
      rintro ρ1 ⟨d, rfl⟩
      have hcw : WkD (.list false 3 (rC L)) (.list false 3 (rC L)) := .refl _
      have hE : refFE l = if st.bad = true ∨ encFE (zF l L) ≠ 0 ∨ filB (zF l L) ≠ l then 11 else 0 := by
        rw [refFE, if_neg (by omega), if_neg (by rw [hsb]; simp), hzp]
      have hen := fun H => (ref24_Encode_spec F.warehouseref24_Encode (zF l L) (Nat.le_trans (zt_size d1) (by omega)) (Nat.le_trans (zt_size d2) (by omega)) H).weakD (args := [.agg [.str (zt (z1 l)), .str (zt (z2 l)), (.list false 3 (rC L))]]) (.cons (.aggs (.cons (.refl _) (.cons (.refl _) (.cons hcw .nil)))) .nil)
      by_cases hz : encFE (zF l L) = 0
      · rw [encFR, if_pos hz] at hen
        (conv => whnf); refine ACalls.use (hen _) ?_
        (conv => whnf); refine recA (fun h6 => ?_) (fun h6 => ?_)
        · replace h6 : st.bad = true := h6
          conv => whnf
          exact bad 11 (by rw [hE, if_pos (.inl h6)]) (by decide)
        replace h6 : st.bad = false := h6
        (conv => whnf); refine ⟨_, bytesOf_bC _, ?_⟩
        (conv => whnf); refine ⟨_, bytesOf_bC _, ?_⟩
        (conv => whnf); refine recA (fun h7 => ?_) (fun h7 => ?_)
        · replace h7 : (!((filB (zF l L)).map (fun n => UInt8.ofNat n.toNat) == l.map (fun n => UInt8.ofNat n.toNat))) = true := h7
          rw [byt_beq (filB_byt _) hby] at h7
          simp at h7
          conv => whnf
          exact bad 11 (by rw [hE, if_pos (.inr (.inr h7))]) (by decide)
        · replace h7 : (!((filB (zF l L)).map (fun n => UInt8.ofNat n.toNat) == l.map (fun n => UInt8.ofNat n.toNat))) = false := h7
          rw [byt_beq (filB_byt _) hby] at h7
          simp at h7
          have hz0 : refFE l = 0 := by rw [hE, if_neg (by simp [h6, hz, h7])]
          have hv : refFV l = zF l L := by rw [refFV, if_pos hz0, hzp]
          conv => whnf
          exact .inr ⟨hz0, (.list false 3 (rC L)), by rw [hv]; exact (.inl rfl), by rw [hv]; rfl⟩
      · rw [encFR, if_neg hz] at hen
        (conv => whnf); refine ACalls.use (hen _) ?_
        (conv => whnf); refine recA (fun h6 => ?_) (fun h6 => ?_)
        · replace h6 : st.bad = true := h6
          conv => whnf
          exact bad 11 (by rw [hE, if_pos (.inl h6)]) (by decide)
        (conv => whnf); refine recT (by show (!(encFE (zF l L) == 0)) = true; simp [hz]) ?_
        conv => whnf
        exact bad 11 (by rw [hE, if_pos (.inr (.inl hz))]) (by decide)

end Go.AW

namespace Go.AW
theorem tk_app (x rest : List Int) (n : Int) (hn : n = x.length) : tkL n ⟨x ++ rest, false⟩ = x ∧ tkZ n ⟨x ++ rest, false⟩ = x ∧ tkS n ⟨x ++ rest, false⟩ = ⟨rest, false⟩ := by
  subst hn
  have h : tkB x.length ⟨x ++ rest, false⟩ = true := by simp [tkB]; omega
  refine ⟨?_, ?_, ?_⟩
  · rw [tkL, h, if_pos rfl]; simp
  · rw [tkZ, h, if_pos rfl]; simp
  · rw [tkS, h, if_pos rfl]; simp

theorem num_be : ∀ (k : Nat) (n : Int), 0 ≤ n → n < 256 ^ k → num (beN k n) = n
  | 0, n, h0, h1 => by simp at h1; rw [beN]; show (0 : Int) = n; omega
  | k + 1, n, h0, h1 => by
    rw [Int.pow_succ] at h1
    have ih := num_be k (n / 256) (by omega) (by omega)
    rw [num] at ih
    rw [beN, num, List.foldl_append, ih]
    show n / 256 * 256 + n % 256 = n
    omega

theorem nb_app (x rest : List Int) (n : Int) (hn : n = x.length) : nbV n ⟨x ++ rest, false⟩ = num x := by rw [nbV, (tk_app x rest n hn).1]

theorem text_app (s : ByteArray) (rest : List Int) (hs : s.size ≤ 255) :
    txV ⟨(u8 s.size :: bytesI s) ++ rest, false⟩ = s ∧ zt ⟨(u8 s.size :: bytesI s) ++ rest, false⟩ = s ∧ txS ⟨(u8 s.size :: bytesI s) ++ rest, false⟩ = ⟨rest, false⟩ := by
  have e1 : (u8 s.size :: bytesI s) ++ rest = [u8 s.size] ++ (bytesI s ++ rest) := rfl
  have hn : nbV 1 ⟨(u8 s.size :: bytesI s) ++ rest, false⟩ = s.size := by
    rw [e1, nb_app [u8 s.size] _ 1 rfl]
    show 0 * 256 + u8 s.size = _
    rw [u8_eq]; omega
  have ht : tkS 1 ⟨(u8 s.size :: bytesI s) ++ rest, false⟩ = ⟨bytesI s ++ rest, false⟩ := by
    rw [e1]; exact (tk_app [u8 s.size] _ 1 rfl).2.2
  have hb := tk_app (bytesI s) rest s.size (by rw [bytesI_length])
  rw [txV, zt, txS, hn, ht, hb.1, hb.2.1, hb.2.2, strOf_bytesI]
  exact ⟨rfl, rfl, rfl⟩

theorem valC_inj {a b : V} (h : valC a = valC b) : a = b := by
  cases a; cases b
  simp [valC] at h
  obtain ⟨rfl, rfl, rfl⟩ := h
  rfl

theorem vC_inj : ∀ {a b : List V}, vC a = vC b → a = b
  | [], [], _ => rfl
  | [], _ :: _, h => by simp [vC] at h
  | _ :: _, [], h => by simp [vC] at h
  | x :: a, y :: b, h => by
    simp only [vC, List.map_cons, List.cons.injEq] at h
    rw [valC_inj h.1, vC_inj (a := a) (b := b) h.2]

theorem dcV_enc {row : List V} (h : rowE row = 0) : dcV (encB row) = some row := by
  obtain ⟨h1, h2⟩ := rowE_zero h
  have h3 := decR_enc row h1 fun v hv => List.all_eq_true.1 h2 v hv
  rw [decR_eq] at h3
  cases hc : dcV (encB row) with
  | none => rw [hc] at h3; simp at h3
  | some rs =>
    rw [hc] at h3
    simp only [AVal.tuple.injEq, List.cons.injEq, AVal.list.injEq] at h3
    rw [vC_inj h3.1.2.2]

theorem rec_app {r : Rec} (h : recE r = 0) (rest : List Int) :
    recV ⟨recB r ++ rest, false⟩ = r ∧ recS ⟨recB r ++ rest, false⟩ = ⟨rest, false⟩ ∧ zrec ⟨recB r ++ rest, false⟩ = some r ∧ rq4 ⟨recB r ++ rest, false⟩ = ⟨rest, false⟩ := by
  obtain ⟨s0, s1, hr⟩ := recE_zero h
  have hel := encB_len hr
  have e1 : recB r ++ rest = [if r.del then 1 else 0] ++ (beN 4 r.seq ++ (beN 2 (encB r.row).length ++ (encB r.row ++ rest))) := by simp [recB]
  have t1 : tkS 1 ⟨recB r ++ rest, false⟩ = ⟨beN 4 r.seq ++ (beN 2 (encB r.row).length ++ (encB r.row ++ rest)), false⟩ := by rw [e1]; exact (tk_app [_] _ 1 rfl).2.2
  have t2 : tkS 4 (tkS 1 ⟨recB r ++ rest, false⟩) = ⟨beN 2 (encB r.row).length ++ (encB r.row ++ rest), false⟩ := by rw [t1]; exact (tk_app _ _ 4 (by rw [beN_length]; rfl)).2.2
  have t3 : rq3 ⟨recB r ++ rest, false⟩ = ⟨encB r.row ++ rest, false⟩ := by rw [rq3, t2]; exact (tk_app _ _ 2 (by rw [beN_length]; rfl)).2.2
  have n1 : nbV 1 ⟨recB r ++ rest, false⟩ = if r.del then 1 else 0 := by
    rw [e1, nb_app [_] _ 1 rfl]; show 0 * 256 + _ = _; omega
  have n2 : nbV 4 (tkS 1 ⟨recB r ++ rest, false⟩) = r.seq := by
    rw [t1, nb_app _ _ 4 (by rw [beN_length]; rfl), num_be 4 _ s0 (by omega)]
  have n3 : nbV 2 (tkS 4 (tkS 1 ⟨recB r ++ rest, false⟩)) = (encB r.row).length := by
    rw [t2, nb_app _ _ 2 (by rw [beN_length]; rfl), num_be 2 _ (by omega) (by omega)]
  have tl := tk_app (encB r.row) rest _ rfl
  have hL : rqL ⟨recB r ++ rest, false⟩ = encB r.row := by rw [rqL, n3, t3, tl.1]
  have hZ : zL ⟨recB r ++ rest, false⟩ = encB r.row := by rw [zL, n3, t3, tl.2.1]
  have h4 : rq4 ⟨recB r ++ rest, false⟩ = ⟨rest, false⟩ := by rw [rq4, n3, t3, tl.2.2]
  have hd : (!((if r.del then (1 : Int) else 0) == 0)) = r.del := by cases r.del <;> rfl
  have hd2 : ((if r.del then (1 : Int) else 0) == 1) = r.del := by cases r.del <;> rfl
  refine ⟨?_, ?_, ?_, h4⟩
  · rw [recV, n1, n2, hL, dcV_enc hr, hd]; rfl
  · rw [recS, hL, dcV_enc hr]; exact h4
  · rw [zrec, hZ, dcV_enc hr, n1, n2, hd2]; rfl

theorem recs_app : ∀ (l : List Rec), recsE l = 0 → ∀ (rest : List Int) (L : List Rec),
    flP l.length ⟨l.flatMap recB ++ rest, false⟩ L = (L ++ l, ⟨rest, false⟩) ∧ zlP l.length ⟨l.flatMap recB ++ rest, false⟩ L = some (L ++ l, ⟨rest, false⟩)
  | [], _, rest, L => by simp [flP, zlP]
  | r :: l, h, rest, L => by
    have hr := recsE_zero h r (List.mem_cons_self ..)
    have hl : recsE l = 0 := by rw [recsE, if_neg (by simp [hr])] at h; exact h
    obtain ⟨a1, a2, a3, a4⟩ := rec_app hr (l.flatMap recB ++ rest)
    have ih := recs_app l hl rest (L ++ [r])
    rw [List.flatMap_cons, List.append_assoc, List.length_cons, flP, if_neg (by simp), zlP, if_neg (by simp), a1, a2, a3, a4]
    simp only []
    rw [ih.1, ih.2, List.append_assoc]
    exact ⟨rfl, rfl⟩

theorem nameB_size {s : ByteArray} (h : nameB s = true) : s.size ≤ 24 := by
  simp only [nameB, Bool.and_eq_true, decide_eq_true_eq] at h; exact h.1

theorem qualB_size {s : ByteArray} (h : qualB s = true) : s.size ≤ 49 := by
  unfold qualB at h
  split at h
  · rename_i h0
    simp only [Bool.and_eq_true] at h
    have h1 := nameB_size h.1
    have h2 := nameB_size h.2
    have hd : dotAt s < s.size := by
      rcases ib_cases s.data.toList 46 with hx | ⟨i, hx, hl⟩
      · rw [dotAt, hx] at h0; omega
      · rw [dotAt, hx]
        have : s.data.toList.length = s.size := by simp
        omega
    rw [ByteArray.size_extract] at h1 h2
    omega
  · have := nameB_size h; omega

theorem parse_enc {f : Fil} (h : filE f = 0) : flV ⟨bodyB f, false⟩ = f ∧ flS ⟨bodyB f, false⟩ = ⟨[], false⟩ := by
  obtain ⟨h1, h2, h3, h4⟩ := filE_ok h
  have hi := nameB_size h3
  have hs := qualB_size h4
  have e0 : bodyB f = [87, 72, 70, 49] ++ ((u8 f.id.size :: bytesI f.id) ++ ((u8 f.src.size :: bytesI f.src) ++ (beN 2 f.recs.length ++ (f.recs.flatMap recB ++ [])))) := by
    simp [bodyB, headB]
  rw [e0]
  have hm : magic ⟨[87, 72, 70, 49] ++ ((u8 f.id.size :: bytesI f.id) ++ ((u8 f.src.size :: bytesI f.src) ++ (beN 2 f.recs.length ++ (f.recs.flatMap recB ++ [])))), false⟩ = true := by
    rw [magic, (tk_app _ _ 4 rfl).1]; rfl
  have f1 : fl1 ⟨[87, 72, 70, 49] ++ ((u8 f.id.size :: bytesI f.id) ++ ((u8 f.src.size :: bytesI f.src) ++ (beN 2 f.recs.length ++ (f.recs.flatMap recB ++ [])))), false⟩ = ⟨(u8 f.id.size :: bytesI f.id) ++ ((u8 f.src.size :: bytesI f.src) ++ (beN 2 f.recs.length ++ (f.recs.flatMap recB ++ []))), false⟩ := by
    rw [fl1, hm, if_pos rfl, (tk_app _ _ 4 rfl).2.2]
  have x1 := text_app f.id ((u8 f.src.size :: bytesI f.src) ++ (beN 2 f.recs.length ++ (f.recs.flatMap recB ++ []))) (by omega)
  have x2 := text_app f.src (beN 2 f.recs.length ++ (f.recs.flatMap recB ++ [])) (by omega)
  have x3 := recs_app f.recs h1 [] []
  have nn : nbV 2 ⟨beN 2 f.recs.length ++ (f.recs.flatMap recB ++ []), false⟩ = f.recs.length := by
    rw [nb_app _ _ 2 (by rw [beN_length]; rfl), num_be 2 _ (by omega) (by omega)]
  have ns : tkS 2 ⟨beN 2 f.recs.length ++ (f.recs.flatMap recB ++ []), false⟩ = ⟨f.recs.flatMap recB ++ [], false⟩ := (tk_app _ _ 2 (by rw [beN_length]; rfl)).2.2
  rw [flV, flS, flN, fl4, fl3, fl2, f1, x1.1, x1.2.2, x2.1, x2.2.2, nn, ns, Int.toNat_natCast, x3.1]
  exact ⟨rfl, rfl⟩

theorem zparse_enc {f : Fil} (h : filE f = 0) (l : List Int) (hl : dS l = ⟨bodyB f, false⟩) : zP l = some (f.recs, ⟨[], false⟩) ∧ zF l f.recs = f := by
  obtain ⟨h1, h2, h3, h4⟩ := filE_ok h
  have hi := nameB_size h3
  have hs := qualB_size h4
  have e0 : bodyB f = [87, 72, 70, 49] ++ ((u8 f.id.size :: bytesI f.id) ++ ((u8 f.src.size :: bytesI f.src) ++ (beN 2 f.recs.length ++ (f.recs.flatMap recB ++ [])))) := by
    simp [bodyB, headB]
  have f1 : z1 l = ⟨(u8 f.id.size :: bytesI f.id) ++ ((u8 f.src.size :: bytesI f.src) ++ (beN 2 f.recs.length ++ (f.recs.flatMap recB ++ []))), false⟩ := by
    rw [z1, hl, e0, (tk_app _ _ 4 rfl).2.2]
  have x1 := text_app f.id ((u8 f.src.size :: bytesI f.src) ++ (beN 2 f.recs.length ++ (f.recs.flatMap recB ++ []))) (by omega)
  have x2 := text_app f.src (beN 2 f.recs.length ++ (f.recs.flatMap recB ++ [])) (by omega)
  have x3 := recs_app f.recs h1 [] []
  have nn : nbV 2 ⟨beN 2 f.recs.length ++ (f.recs.flatMap recB ++ []), false⟩ = f.recs.length := by
    rw [nb_app _ _ 2 (by rw [beN_length]; rfl), num_be 2 _ (by omega) (by omega)]
  have ns : tkS 2 ⟨beN 2 f.recs.length ++ (f.recs.flatMap recB ++ []), false⟩ = ⟨f.recs.flatMap recB ++ [], false⟩ := (tk_app _ _ 2 (by rw [beN_length]; rfl)).2.2
  rw [zP, zF, zN, z4, z3, z2, f1, x1.2.1, x1.2.2, x2.2.1, x2.2.2, nn, ns, Int.toNat_natCast, x3.2]
  exact ⟨rfl, rfl⟩

theorem filB_split (f : Fil) : (filB f).length = (bodyB f).length + 4 ∧ dS (filB f) = ⟨bodyB f, false⟩ ∧ sumBad (filB f) = false := by
  have hl : (filB f).length = (bodyB f).length + 4 := by rw [filB, List.length_append, beN_length]
  have ht : (filB f).take ((filB f).length - 4) = bodyB f := by rw [hl, filB]; simp
  have hd : (filB f).drop ((filB f).length - 4) = beN 4 (fnv (bodyB f)) := by rw [hl, filB]; simp
  refine ⟨hl, by rw [dS, ht], ?_⟩
  rw [sumBad, ht, hd, decide_eq_false (by omega)]
  simp

theorem encFE_zero {f : Fil} (h : encFE f = 0) : filE f = 0 ∧ (filB f).length ≤ 65536 := by
  unfold encFE at h
  split at h
  · rename_i hx; exact absurd h hx
  · rename_i hx
    split at h
    · cases h
    · exact ⟨by simpa using hx, by omega⟩

theorem dec_enc {f : Fil} (h : encFE f = 0) : decFE (filB f) = 0 ∧ decFV (filB f) = f ∧ refFE (filB f) = 0 ∧ refFV (filB f) = f := by
  obtain ⟨h1, h2⟩ := encFE_zero h
  obtain ⟨_, s2, s3⟩ := filB_split f
  obtain ⟨p1, p2⟩ := parse_enc h1
  obtain ⟨q1, q2⟩ := zparse_enc h1 (filB f) s2
  have d : decFE (filB f) = 0 := by
    rw [decFE, if_neg (by omega), if_neg (by rw [s3]; simp), s2, p1, p2, if_neg (by simp), if_neg (by simp [h])]
  have r : refFE (filB f) = 0 := by
    rw [refFE, if_neg (by omega), if_neg (by rw [s3]; simp), q1]
    simp only []
    rw [q2, if_neg (by simp [h])]
  refine ⟨d, by rw [decFV, if_pos d, s2, p1], r, ?_⟩
  rw [refFV, if_pos r, q1]
  exact q2

theorem dec_same (l : List Int) : refFE l = decFE l ∧ refFV l = decFV l := by
  have d0 : decFE l = 0 → encFE (flV (dS l)) = 0 ∧ filB (flV (dS l)) = l := fun h => by
    unfold decFE at h
    split at h; · cases h
    split at h; · cases h
    split at h; · cases h
    split at h
    · cases h
    · rename_i hx; exact ⟨Classical.byContradiction fun hn => hx (.inl hn), Classical.byContradiction fun hn => hx (.inr hn)⟩
  by_cases hd : decFE l = 0
  · obtain ⟨e1, e2⟩ := d0 hd
    have := dec_enc e1
    rw [e2] at this
    exact ⟨this.2.2.1.trans hd.symm, this.2.2.2.trans this.2.1.symm⟩
  · have r0 : refFE l ≠ 0 := fun h => by
      have h' := h
      unfold refFE at h
      split at h; · cases h
      split at h; · cases h
      split at h
      · cases h
      · rename_i L st hz
        split at h
        · cases h
        · rename_i hx
          have e1 : encFE (zF l L) = 0 := Classical.byContradiction fun hn => hx (.inr (.inl hn))
          have e2 : filB (zF l L) = l := Classical.byContradiction fun hn => hx (.inr (.inr hn))
          have := dec_enc e1
          rw [e2] at this
          exact hd this.1
    refine ⟨?_, by rw [refFV, if_neg r0, decFV, if_neg hd]⟩
    unfold decFE at hd ⊢
    unfold refFE at r0 ⊢
    split
    · rfl
    · rename_i g1
      rw [if_neg g1] at hd r0
      split
      · rfl
      · rename_i g2
        rw [if_neg g2] at hd r0
        have a : (if (flS (dS l)).bad = true ∨ 0 < (flS (dS l)).rest.length then (11 : Int) else if encFE (flV (dS l)) ≠ 0 ∨ filB (flV (dS l)) ≠ l then 11 else 0) = 11 := by
          split
          · rfl
          · rename_i g3
            rw [if_neg g3] at hd
            split
            · rfl
            · rename_i g4; rw [if_neg g4] at hd; exact absurd rfl hd
        rw [a]
        revert r0
        cases zP l with
        | none => intro _; rfl
        | some p =>
          obtain ⟨L, st⟩ := p
          simp only []
          intro r0
          split
          · rfl
          · rename_i g5; rw [if_neg g5] at r0; exact absurd rfl r0

end Go.AW

namespace Go.AW
attribute [local irreducible] ACalls
set_option maxRecDepth 20000 in
theorem ref22_SameRow_refl {P : Program} (F : F_warehouseref22_SameRow P) (e1 e2 : Bool) (a : List V) (ha : a.length ≤ 1000000) (H : List AObj) :
    ACalls P F.id [.list e1 3 (vC a), .list e2 3 (vC a)] H (fun r H' => r = .bool true ∧ H' = H) := by
  refine ACalls.pure (by simp [AVal.closed, AVal.isPure]) (acalls_of_body F.has ?_)
  (conv => whnf); refine recF (by simp) ?_
  conv => whnf
  refine ⟨fun m ρ H => ∃ k : Nat, k + m = a.length ∧ H = [] ∧ Sv 26 [(0, .list e1 3 (vC a)), (1, .list e2 3 (vC a)), (5, .int .i64 k)] ρ, a.length, [], ?_, ?_⟩
  · exact ⟨0, by omega, rfl, Sv.intro rfl ⟨rfl, rfl, rfl, trivial⟩⟩
  rintro m ρ H ⟨k, hk, rfl, d, rfl⟩
  (conv => whnf); refine recA (fun hlt => ?_) (fun hlt => ?_)
  · simp [vC_length] at hlt
    obtain ⟨x, hx, _, _⟩ := get_drop hlt
    (conv => whnf); refine And.intro (by omega) ?_
    (conv => whnf); refine recO (vC_at hx) ?_
    (conv => whnf); refine And.intro (by omega) ?_
    (conv => whnf); refine recO (vC_at hx) ?_
    (conv => whnf); refine recF (by simp) ?_
    conv => whnf
    refine ⟨m - 1, by omega, Gp.keep rfl ?_ fun ρ1 h => ⟨k + 1, by omega, rfl, h⟩⟩
    exact ⟨rfl, rfl, intEq (wrapI ((k : Int) + 1) (by omega) (by omega)), trivial⟩
  · conv => whnf
    exact .closed _ rfl

theorem SameRecord_refl {P : Program} (F : F_warehouseref24_SameRecord P) (r : Rec) (ha : r.row.length ≤ 1000000) (H : List AObj) :
    ACalls P F.id [.agg (recC r), .agg (recC r)] H (fun q H' => q = .bool true ∧ H' = H) := by
  refine ACalls.pure (by simp [AVal.closed, recC, AVal.isPure]) (acalls_of_body F.has ?_)
  (conv => whnf); refine recT (by simp) ?_
  (conv => whnf); refine recT (by simp) ?_
  (conv => whnf); refine ACalls.use (ref22_SameRow_refl F.warehouseref22_SameRow false false r.row ha _) ?_
  conv => whnf
  exact .closed _ rfl

set_option maxRecDepth 20000 in
theorem SameFile_refl {P : Program} (F : F_warehouseref24_SameFile P) (f : Fil) (ha : f.recs.length ≤ 1000000) (hr : ∀ r ∈ f.recs, r.row.length ≤ 1000000) (H : List AObj) :
    ACalls P F.id [.agg (fV f), .agg (fV f)] H (fun q H' => q = .bool true ∧ H' = H) := by
  refine ACalls.pure (by simp [AVal.closed, fV, AVal.isPure]) (acalls_of_body F.has ?_)
  (conv => whnf); refine recF (by simp) ?_
  (conv => whnf); refine recF (by simp) ?_
  (conv => whnf); refine recF (by simp) ?_
  conv => whnf
  refine ⟨fun m ρ H => ∃ k : Nat, k + m = f.recs.length ∧ H = [.arr 3 [fV f], .arr 3 [fV f]] ∧ Sv 46 [(2, .ptr 0 1 0 0), (3, .ptr 1 1 0 0), (5, .int .i64 k)] ρ, f.recs.length, [], ?_, ?_⟩
  · exact ⟨0, by omega, rfl, Sv.intro rfl ⟨rfl, rfl, rfl, trivial⟩⟩
  rintro m ρ H ⟨k, hk, rfl, d, rfl⟩
  (conv => whnf); refine recA (fun hlt => ?_) (fun hlt => ?_)
  · simp [rC_length] at hlt
    obtain ⟨x, hx, _, hxm⟩ := get_drop hlt
    (conv => whnf); refine And.intro (by omega) ?_
    (conv => whnf); refine recO (rC_at hx) ?_
    (conv => whnf); refine And.intro (by omega) ?_
    (conv => whnf); refine recO (rC_at hx) ?_
    (conv => whnf); refine ⟨_, SameRecord_refl F.warehouseref24_SameRecord x (hr x hxm) _, ?_⟩
    conv => whnf
    refine ⟨m - 1, by omega, Gp.keep rfl ?_ fun ρ1 h => ⟨k + 1, by omega, rfl, h⟩⟩
    exact ⟨rfl, rfl, intEq (wrapI ((k : Int) + 1) (by omega) (by omega)), trivial⟩
  · conv => whnf
    exact .closed _ rfl

theorem filE_small {f : Fil} (h : filE f = 0) : f.recs.length ≤ 1000000 ∧ ∀ r ∈ f.recs, r.row.length ≤ 1000000 := by
  obtain ⟨h1, h2, _⟩ := filE_ok h
  exact ⟨by omega, fun r hr => by have := (rowE_zero (recE_zero (recsE_zero h1 r hr)).2.2).1; omega⟩

theorem decFV_small (l : List Int) : (decFV l).recs.length ≤ 1000000 ∧ ∀ r ∈ (decFV l).recs, r.row.length ≤ 1000000 := by
  by_cases h : decFE l = 0
  · have e : encFE (flV (dS l)) = 0 := by
      unfold decFE at h
      split at h; · cases h
      split at h; · cases h
      split at h; · cases h
      split at h
      · cases h
      · rename_i hx; exact Classical.byContradiction fun hn => hx (.inl hn)
    rw [decFV, if_pos h]
    exact filE_small (encFE_zero e).1
  · rw [decFV, if_neg h]
    exact ⟨by simp [f0], fun r hr => by simp [f0] at hr⟩

def fk : Fil := ⟨bs [97], bs [115], []⟩

theorem fk_E : encFE fk = 0 := by
  have h1 : filE fk = 0 := by kernel_rfl
  have h2 : (filB fk).length = 14 := by
    rw [filB, List.length_append, beN_length, bodyB]
    simp [headB, fk, bytesI_length, beN_length]; rfl
  rw [encFE, if_neg (by simp [h1]), if_neg (by omega)]

theorem fnv_a : fnv [97] = 3826002220 := by kernel_rfl

set_option maxRecDepth 20000 in
theorem known24_spec {P : Program} (F : F_warehouselaw24_known P) (H : List AObj) :
    ACalls P F.id [] H (fun r H' => r = .bool true ∧ H' = H) := by
  refine ACalls.pure rfl (acalls_of_body F.has ?_)
  have hen := fun H => (batch_Encode_spec F.batch_Encode fk (by decide) (by decide) H).weakD (args := [.agg [.str (bs [97]), .str (bs [115]), .nil]]) (.cons (.aggs (.cons (.refl _) (.cons (.refl _) (.cons (.nil false 3) .nil)))) .nil)
  rw [encFR, if_pos fk_E] at hen
  (conv => whnf); refine ACalls.use (hen _) ?_
  have hde := fun H => batch_Decode_spec F.batch_Decode (filB fk) (filB_byt _) H
  rw [(dec_enc fk_E).1, (dec_enc fk_E).2.1] at hde
  (conv => whnf); refine ACalls.use (hde _) ?_
  conv => whnf
  refine ACalls.use ((Checksum_spec F.batch_Checksum false [] (by simp) _).weak (.cons (.nil false 1) .nil)) ?_
  (conv => whnf); refine ACalls.use (Checksum_own F.batch_Checksum [97] (by simp) _ 1 rfl) ?_
  rw [fnv_a]
  conv => whnf
  exact .closed _ rfl

end Go.AW

namespace Go.AW
attribute [local irreducible] ACalls
theorem pubFI {H1 : List AObj} {n : Nat} {ids : List Nat} {id ep len sz : Nat} {es : List (List AVal)} (hid : id ∉ ids) (ho : H1[id]? = some (.arr sz es)) (he : ep = es.length) (hl : len = es.length) (hp : pureEs es = true) : Pub H1 n ids (.sl id ep 0 len) (.list false sz es) := by
  subst hl he
  have := Pub.frz (n := n) (ids := ids) id es.length 0 es.length sz es ho rfl hp hid
  rwa [List.drop_zero, List.take_length] at this

theorem ob1s {H : List AObj} {ids : List Nat} (xs ys : List AVal) (hl : xs.length = ys.length) (h : ∀ (i : Nat) (x y : AVal), xs[i]? = some x → ys[i]? = some y → Pub H 0 ids x y ∧ y.isCell = true) : ObP H ids (.arr 1 (xs.map fun x => [x])) (.arr 1 (ys.map fun x => [x])) := by
  refine .map 1 _ _ (by simp [hl]) (fun i e e1 h1 h2 => ?_) (fun i j e e1 d d1 h1 h2 h3 h4 => ?_)
  · rw [List.getElem?_map] at h1 h2
    obtain ⟨x, _, rfl⟩ := Option.map_eq_some_iff.1 h1
    obtain ⟨y, _, rfl⟩ := Option.map_eq_some_iff.1 h2
    rfl
  · rw [List.getElem?_map] at h1 h2
    obtain ⟨x, hx, rfl⟩ := Option.map_eq_some_iff.1 h1
    obtain ⟨y, hy, rfl⟩ := Option.map_eq_some_iff.1 h2
    rcases j with _ | j
    · cases h3; cases h4; exact h i _ _ hx hy
    · simp at h3

end Go.AW

namespace Go.AW
attribute [local irreducible] ACalls
theorem place_eq (x k : Int) (hk : 1 ≤ k) (hk2 : k ≤ 1000000) : (IntKind.i64.wrap (x.tmod k + k)).tmod k = x % k := by
  have h1 := Int.tmod_lt_of_pos x (show 0 < k by omega)
  have h2 := Int.lt_tmod_of_pos x (show 0 < k by omega)
  rw [wrapI _ (by omega) (by omega), Int.tmod_eq_emod_of_nonneg (by omega), Int.add_emod_right, Int.tmod_def, Int.sub_mul_emod_self_left]

theorem Place_spec {P : Program} (F : F_warehouseworld_Place P) (x k : Int) (hk : 1 ≤ k) (hk2 : k ≤ 1000000) (H : List AObj) :
    ACalls P F.id [.int .i64 x, .int .i64 k] H (fun r H' => r = .int .i64 (x % k) ∧ H' = H) := by
  refine ACalls.pure rfl (acalls_of_body F.has ?_)
  (conv => whnf); refine recF (by simp; omega) ?_
  (conv => whnf); refine And.intro (by omega) ?_
  (conv => whnf); refine And.intro (by omega) ?_
  conv => whnf
  exact pub_int (place_eq x k hk hk2)

theorem SameBytes_spec {P : Program} (F : F_warehouseworld_SameBytes P) (e1 e2 : Bool) (a b : List Int) (ha : Byt a) (hb : Byt b) (H : List AObj) :
    ACalls P F.id [.list e1 1 (bC a), .list e2 1 (bC b)] H (fun r H' => r = .bool (a == b) ∧ H' = H) := by
  refine ACalls.pure rfl (acalls_of_body F.has ?_)
  (conv => whnf); refine ⟨_, bytesOf_bC _, ?_⟩
  (conv => whnf); refine ⟨_, bytesOf_bC _, ?_⟩
  conv => whnf
  exact pubB (byt_beq ha hb)

end Go.AW

namespace Go.AW
attribute [local irreducible] ACalls
def gO (l : List Int) (i : Nat) : AObj := .arr 2 [[.list false 1 (iC l), .int .i64 i]]

def nx (l : List Int) (i : Nat) (n : Int) : Int × Nat := if l.length ≤ i ∨ n < 1 then (0, i) else (l.getD i 0 % n, i + 1)

theorem nx_bnd (l : List Int) (i : Nat) (n : Int) (hn : 1 ≤ n) : 0 ≤ (nx l i n).1 ∧ (nx l i n).1 < n := by
  unfold nx
  split
  · exact ⟨by simp, by simp; omega⟩
  · exact ⟨Int.emod_nonneg _ (by omega), Int.emod_lt_of_pos _ (by omega)⟩

theorem nx_le (l : List Int) (i : Nat) (n : Int) (h : i ≤ l.length) : (nx l i n).2 ≤ l.length := by
  unfold nx
  split
  · exact h
  · rename_i h1
    show i + 1 ≤ _
    omega

set_option maxRecDepth 20000 in
theorem Next_raw {P : Program} (F : F_warehouseworld_Numbers_Next P) (l : List Int) (i : Nat) (n : Int) (hi : i ≤ l.length) (hl : l.length ≤ 1000000) (hn : n ≤ 1000000) :
    ACalls P F.id [.ptr 0 1 0 0, .int .i64 n] [gO l i] (fun r H' => r = .int .i64 (nx l i n).1 ∧ H' = [gO l (nx l i n).2]) := by
  refine acalls_of_body F.has ?_
  (conv => whnf); refine recA (fun h1 => ?_) (fun h1 => ?_)
  · simp [iC_length] at h1
    conv => whnf
    rw [nx, if_pos (.inl h1)]
    exact ⟨rfl, rfl⟩
  simp [iC_length] at h1
  (conv => whnf); refine recA (fun h2 => ?_) (fun h2 => ?_)
  · simp at h2
    conv => whnf
    rw [nx, if_pos (.inr h2)]
    exact ⟨rfl, rfl⟩
  simp at h2
  have e1 : IntKind.i64.wrap ((i : Int) + 1) = ((i + 1 : Nat) : Int) := by rw [wrapI _ (by omega) (by omega)]; omega
  have e2 : IntKind.i64.wrap (IntKind.i64.wrap ((i : Int) + 1) - 1) = i := by rw [e1, wrapI _ (by omega) (by omega)]; omega
  have e3 : (IntKind.i64.wrap (IntKind.i64.wrap ((i : Int) + 1) - 1)).toNat = i := by rw [e2, Int.toNat_natCast]
  have eg : (iC l)[i]? = some [.int .i64 (l.getD i 0)] := iC_get (by omega)
  (conv => whnf); refine And.intro (by rw [e2]; omega) ?_
  (conv => whnf); refine recO (by rw [e3]; exact eg) ?_
  (conv => whnf); refine ⟨_, Place_spec F.warehouseworld_Place (l.getD i 0) n (by omega) (by omega) _, ?_⟩
  conv => whnf
  rw [nx, if_neg (by omega)]
  refine ⟨rfl, ?_⟩
  show [AObj.arr 2 [[.list false 1 (iC l), .int .i64 (IntKind.i64.wrap ((i : Int) + 1))]]] = _
  rw [e1]; rfl

set_option maxRecDepth 20000 in
theorem wColumns_spec {P : Program} (F : F_warehouseworld_Columns P) (H : List AObj) :
    ACalls P F.id [.int .i64 0] H (fun r H' => r = .list true 3 (cC [⟨bs [105, 100], 2, false⟩, ⟨bs [110, 97, 109, 101], 3, true⟩, ⟨bs [97, 116], 4, false⟩]) ∧ H' = H) := by
  refine ACalls.pure rfl (acalls_of_body F.has ?_)
  (conv => whnf); refine ACalls.use (Place_spec F.warehouseworld_Place 0 3 (by decide) (by decide) _) ?_
  conv => whnf
  exact .closed _ rfl

def wnames : List ByteArray := [bs [102, 48], bs [102, 49], bs [102, 50], bs [102, 51], bs [102, 52], bs [102, 53], bs [102, 54], bs [102, 55], bs [102, 56], bs [102, 57], bs [103, 48], bs [103, 49]]

def wname (n : Int) : ByteArray := wnames.getD (n % 12).toNat (bs [])

theorem wName_spec {P : Program} (F : F_warehouseworld_Name P) (n : Int) (H : List AObj) :
    ACalls P F.id [.int .i64 n] H (fun r H' => r = .str (wname n) ∧ H' = H) := by
  refine ACalls.pure rfl (acalls_of_body F.has ?_)
  (conv => whnf); refine ACalls.use (Place_spec F.warehouseworld_Place n 12 (by decide) (by decide) _) ?_
  have h1 := Int.emod_nonneg n (show (12 : Int) ≠ 0 by decide)
  have h2 := Int.emod_lt_of_pos n (show (0 : Int) < 12 by decide)
  (conv => whnf); refine And.intro (h1) ?_
  (conv => whnf); refine recO (sC_at (l := wnames) (x := wname n) (by rw [wname, List.getD_eq_getElem?_getD, List.getElem?_eq_getElem (by show (n % 12).toNat < 12; omega)]; rfl)) ?_
  conv => whnf
  exact .closed _ rfl

def inB (l : List ByteArray) (s : ByteArray) : Bool := l.any fun x => eqS x s

theorem In_spec {P : Program} (F : F_warehouseref23_In P) (l : List ByteArray) (s : ByteArray) (hl : l.length ≤ 1000000) (H : List AObj) :
    ACalls P F.id [.list false 1 (sC l), .str s] H (fun r H' => r = .bool (inB l s) ∧ H' = H) := by
  refine ACalls.pure rfl (acalls_of_body F.has ?_)
  conv => whnf
  refine ⟨fun m ρ H1 => ∃ k : Nat, k + m = l.length ∧ inB l s = inB (l.drop k) s ∧ H1 = [] ∧ Sv 18 [(0, .list false 1 (sC l)), (1, .str s), (5, .int .i64 k)] ρ, l.length, [], ?_, ?_⟩
  · exact ⟨0, by omega, rfl, rfl, Sv.intro rfl ⟨rfl, rfl, rfl, trivial⟩⟩
  rintro m ρ H1 ⟨k, hk, hr, rfl, d, rfl⟩
  (conv => whnf); refine recA (fun hlt => ?_) (fun hlt => ?_)
  · simp [sC_length] at hlt
    have hx : l[k]? = some l[k] := List.getElem?_eq_getElem hlt
    replace hr : inB l s = (eqS l[k] s || inB (l.drop (k + 1)) s) := hr.trans (by rw [List.drop_eq_getElem_cons hlt]; rfl)
    (conv => whnf); refine And.intro (by omega) ?_
    (conv => whnf); refine recO (sC_at hx) ?_
    (conv => whnf); refine recA (fun h1 => ?_) (fun h1 => ?_)
    · replace h1 : eqS l[k] s = true := h1
      conv => whnf
      rw [hr, h1]
      exact pubB rfl
    · replace h1 : eqS l[k] s = false := h1
      rw [h1] at hr
      conv => whnf
      refine ⟨m - 1, by omega, Gp.none rfl ?_ fun ρ1 h => ⟨k + 1, by omega, hr, rfl, h⟩⟩
      exact ⟨.closed _ rfl, .closed _ rfl, pub_int (wrapI _ (by omega) (by omega)), trivial⟩
  · simp [sC_length] at hlt
    rw [List.drop_of_length_le (by omega)] at hr
    conv => whnf
    rw [hr]
    exact pubB rfl

theorem Next_spec {P : Program} (F : F_warehouseworld_Numbers_Next P) (l : List Int) (i : Nat) (n : Int) (hi : i ≤ l.length) (hl : l.length ≤ 1000000) (hn : n ≤ 1000000) (H : List AObj) (id : Nat) (ho : H[id]? = some (gO l i)) :
    ACalls P F.id [.ptr id 1 0 0, .int .i64 n] H (fun r H' => r = .int .i64 (nx l i n).1 ∧ H' = H.set id (gO l (nx l i n).2)) :=
  (Next_raw F l i n hi hl hn).fr ho rfl rfl (.pt (.cl rfl trivial)) (.closed _ rfl)

def inst0 : List Int := [0, 719, 1380, 1400, 1439, 1440, 1500, 2000, 2879, 2880, 4000, 4320, 5000, 7199, 7200, 9000]

def instK : Nat → List Int
  | 0 => inst0
  | k + 1 => (instK k).set k (IntKind.i64.wrap ((instK k).getD k 0 + 144000))

theorem instK_len : ∀ k, (instK k).length = 16
  | 0 => rfl
  | k + 1 => by rw [instK, List.length_set, instK_len k]

def instL : List Int := [144000, 144719, 145380, 145400, 145439, 145440, 145500, 146000, 146879, 146880, 148000, 148320, 149000, 151199, 151200, 153000]

theorem instK_16 : instK 16 = instL := by decide

theorem setEs_iC (l : List Int) (k : Nat) (v : Int) : setEs (iC l) k [.int .i64 v] = iC (l.set k v) := by rw [setEs_eq]; simp [iC]

set_option maxRecDepth 20000 in
theorem Instants_spec {P : Program} (F : F_warehouseworld_Instants P) (H : List AObj) :
    ACalls P F.id [] H (fun r H' => r = .list false 1 (iC instL) ∧ H' = H) := by
  refine ACalls.pure rfl (acalls_of_body F.has ?_)
  conv => whnf
  refine ⟨fun m ρ H1 => ∃ k : Nat, k + m = 16 ∧ H1 = [.arr 1 (iC (instK k))] ∧ Sv 17 [(1, .sl 0 16 0 16), (2, .int .i64 k)] ρ, 16, [], ?_, ?_⟩
  · exact ⟨0, by omega, rfl, Sv.intro rfl ⟨rfl, rfl, trivial⟩⟩
  rintro m ρ H1 ⟨k, hk, rfl, d, rfl⟩
  have hl := instK_len k
  (conv => whnf); refine recT (by rw [iC_length, hl]; rfl) ?_
  (conv => whnf); refine recA (fun hlt => ?_) (fun hlt => ?_)
  · simp at hlt
    have eg : (iC (instK k))[k]? = some [.int .i64 ((instK k).getD k 0)] := iC_get (by omega)
    have hb : Nat.beq 16 (iC (instK k)).length = true := by rw [iC_length, hl]; rfl
    have hidx : (iC (instK k))[0 + (k : Int).toNat]? = some [.int .i64 ((instK k).getD k 0)] := by rw [Nat.zero_add, Int.toNat_natCast]; exact eg
    (conv => whnf); refine recT (hb) ?_
    (conv => whnf); refine And.intro (⟨by omega, by omega⟩) ?_
    (conv => whnf); refine recT (hb) ?_
    (conv => whnf); refine recO (hidx) ?_
    (conv => whnf); refine recT (hb) ?_
    (conv => whnf); refine And.intro (⟨by omega, by omega⟩) ?_
    (conv => whnf); refine recT (hb) ?_
    (conv => whnf); refine recO (hidx) ?_
    conv => whnf
    refine ⟨m - 1, by omega, Gp.keep rfl ?_ fun ρ1 h => ⟨k + 1, by omega, ?_, h⟩⟩
    · exact ⟨rfl, intEq (wrapI _ (by omega) (by omega)), trivial⟩
    · show [AObj.arr 1 (setEs (iC (instK k)) (0 + (k : Int).toNat) [.int .i64 (IntKind.i64.wrap ((instK k).getD k 0 + 144000))])] = _
      rw [Nat.zero_add, Int.toNat_natCast, setEs_iC, instK]
  · simp at hlt
    have : k = 16 := by omega
    subst this
    rw [instK_16]
    conv => whnf
    exact pubF rfl rfl rfl (pureEs_iC _)

def wtexts : List ByteArray := [bs [], bs [97], bs [98], bs [105, 116, 39, 115], bs [122, 122]]

def wv1 (k : Int) (l : List Int) (i : Nat) : V × Nat :=
  if k = 1 then (⟨1, (nx l i 2).1, bs []⟩, (nx l i 2).2)
  else if k = 2 then (⟨2, (nx l i 7).1 - 1, bs []⟩, (nx l i 7).2)
  else if k = 3 then (⟨3, 0, wtexts.getD (nx l i 5).1.toNat (bs [])⟩, (nx l i 5).2)
  else (⟨4, instL.getD (nx l i 16).1.toNat 0, bs []⟩, (nx l i 16).2)

def wv (c : Col) (l : List Int) (i : Nat) : V × Nat :=
  if c.nul then (if (nx l i 5).1 = 0 then (zV, (nx l i 5).2) else wv1 c.kind l (nx l i 5).2) else wv1 c.kind l i

set_option maxRecDepth 20000 in
theorem Value_raw {P : Program} (F : F_warehouseworld_Value P) (c : Col) (l : List Int) (i : Nat) (hi : i ≤ l.length) (hl : l.length ≤ 1000000) :
    ACalls P F.id [.agg (colC c), .ptr 0 1 0 0] [gO l i] (fun r H' => r = .agg (valC (wv c l i).1) ∧ H' = [gO l (wv c l i).2]) := by
  refine ACalls.gp (Q0 := fun r H' => r = .agg (valC (wv c l i).1) ∧ ∃ x y, H' = [gO l (wv c l i).2, x, y]) ?_ (by
    rintro r H' ⟨rfl, x, y, rfl⟩
    exact Gp.res [0] (by simp) (keepB_one rfl rfl rfl) (H1 := [gO l (wv c l i).2]) ⟨⟨_, rfl, .same _ _ rfl⟩, trivial⟩ (.closed _ rfl) ⟨_, rfl, rfl, rfl⟩)
  refine acalls_of_body F.has ?_
  obtain ⟨nm, kd, nl⟩ := c
  cases nl with
  | true =>
    (conv => whnf); refine ACalls.mono (Next_spec F.warehouseworld_Numbers_Next l i 5 hi hl (by decide) _ 0 rfl) ?_
    rintro r H' ⟨rfl, rfl⟩
    have hj := nx_le l i 5 hi
    (conv => whnf); refine recA (fun h0 => ?_) (fun h0 => ?_)
    · simp at h0
      conv => whnf
      rw [wv, if_pos rfl, if_pos h0]
      exact ⟨rfl, _, _, rfl⟩
    simp at h0
    (conv => whnf); refine recA (fun k1 => ?_) (fun k1 => ?_)
    · simp at k1
      (conv => whnf); refine ACalls.mono (Next_spec F.warehouseworld_Numbers_Next l ((nx l i 5).2) 2 (hj) hl (by decide) _ 0 rfl) ?_
      rintro r H' ⟨rfl, rfl⟩
      conv => whnf
      rw [wv, if_pos rfl, if_neg h0]
      rw [wv1, if_pos k1]
      exact ⟨rfl, _, _, rfl⟩
    simp at k1
    (conv => whnf); refine recA (fun k2 => ?_) (fun k2 => ?_)
    · simp at k2
      (conv => whnf); refine ACalls.mono (Next_spec F.warehouseworld_Numbers_Next l ((nx l i 5).2) 7 (hj) hl (by decide) _ 0 rfl) ?_
      rintro r H' ⟨rfl, rfl⟩
      have hb := nx_bnd l ((nx l i 5).2) 7 (by decide)
      conv => whnf
      rw [wv, if_pos rfl, if_neg h0]
      rw [wv1, if_neg k1, if_pos k2]
      refine ⟨?_, _, _, rfl⟩
      show AVal.agg [.int .i64 2, .int .i64 (IntKind.i64.wrap ((nx l ((nx l i 5).2) 7).1 - 1)), .str (bs [])] = _
      rw [wrapI _ (by omega) (by omega)]
      rfl
    simp at k2
    (conv => whnf); refine recA (fun k3 => ?_) (fun k3 => ?_)
    · simp at k3
      (conv => whnf); refine ACalls.mono (Next_spec F.warehouseworld_Numbers_Next l ((nx l i 5).2) 5 (hj) hl (by decide) _ 0 rfl) ?_
      rintro r H' ⟨rfl, rfl⟩
      have hb := nx_bnd l ((nx l i 5).2) 5 (by decide)
      (conv => whnf); refine And.intro (hb.1) ?_
      (conv => whnf); refine recO (sC_at (l := wtexts) (x := wtexts.getD (nx l ((nx l i 5).2) 5).1.toNat (bs [])) (by rw [List.getD_eq_getElem?_getD, List.getElem?_eq_getElem (by show (nx l ((nx l i 5).2) 5).1.toNat < 5; omega)]; rfl)) ?_
      conv => whnf
      rw [wv, if_pos rfl, if_neg h0]
      rw [wv1, if_neg k1, if_neg k2, if_pos k3]
      exact ⟨rfl, _, _, rfl⟩
    simp at k3
    (conv => whnf); refine ACalls.use (Instants_spec F.warehouseworld_Instants _) ?_
    (conv => whnf); refine ACalls.mono (Next_spec F.warehouseworld_Numbers_Next l ((nx l i 5).2) 16 (hj) hl (by decide) _ 0 rfl) ?_
    rintro r H' ⟨rfl, rfl⟩
    have hb := nx_bnd l ((nx l i 5).2) 16 (by decide)
    (conv => whnf); refine And.intro (hb.1) ?_
    (conv => whnf); refine recO (iC_at (l := instL) (x := instL.getD (nx l ((nx l i 5).2) 16).1.toNat 0) (by rw [List.getD_eq_getElem?_getD, List.getElem?_eq_getElem (by show (nx l ((nx l i 5).2) 16).1.toNat < 16; omega)]; rfl)) ?_
    conv => whnf
    rw [wv, if_pos rfl, if_neg h0]
    rw [wv1, if_neg k1, if_neg k2, if_neg k3]
    exact ⟨rfl, _, _, rfl⟩
  | false =>
    (conv => whnf); refine recA (fun k1 => ?_) (fun k1 => ?_)
    · simp at k1
      (conv => whnf); refine ACalls.mono (Next_spec F.warehouseworld_Numbers_Next l (i) 2 (hi) hl (by decide) _ 0 rfl) ?_
      rintro r H' ⟨rfl, rfl⟩
      conv => whnf
      rw [wv, if_neg (by simp)]
      rw [wv1, if_pos k1]
      exact ⟨rfl, _, _, rfl⟩
    simp at k1
    (conv => whnf); refine recA (fun k2 => ?_) (fun k2 => ?_)
    · simp at k2
      (conv => whnf); refine ACalls.mono (Next_spec F.warehouseworld_Numbers_Next l (i) 7 (hi) hl (by decide) _ 0 rfl) ?_
      rintro r H' ⟨rfl, rfl⟩
      have hb := nx_bnd l (i) 7 (by decide)
      conv => whnf
      rw [wv, if_neg (by simp)]
      rw [wv1, if_neg k1, if_pos k2]
      refine ⟨?_, _, _, rfl⟩
      show AVal.agg [.int .i64 2, .int .i64 (IntKind.i64.wrap ((nx l (i) 7).1 - 1)), .str (bs [])] = _
      rw [wrapI _ (by omega) (by omega)]
      rfl
    simp at k2
    (conv => whnf); refine recA (fun k3 => ?_) (fun k3 => ?_)
    · simp at k3
      (conv => whnf); refine ACalls.mono (Next_spec F.warehouseworld_Numbers_Next l (i) 5 (hi) hl (by decide) _ 0 rfl) ?_
      rintro r H' ⟨rfl, rfl⟩
      have hb := nx_bnd l (i) 5 (by decide)
      (conv => whnf); refine And.intro (hb.1) ?_
      (conv => whnf); refine recO (sC_at (l := wtexts) (x := wtexts.getD (nx l (i) 5).1.toNat (bs [])) (by rw [List.getD_eq_getElem?_getD, List.getElem?_eq_getElem (by show (nx l (i) 5).1.toNat < 5; omega)]; rfl)) ?_
      conv => whnf
      rw [wv, if_neg (by simp)]
      rw [wv1, if_neg k1, if_neg k2, if_pos k3]
      exact ⟨rfl, _, _, rfl⟩
    simp at k3
    (conv => whnf); refine ACalls.use (Instants_spec F.warehouseworld_Instants _) ?_
    (conv => whnf); refine ACalls.mono (Next_spec F.warehouseworld_Numbers_Next l (i) 16 (hi) hl (by decide) _ 0 rfl) ?_
    rintro r H' ⟨rfl, rfl⟩
    have hb := nx_bnd l (i) 16 (by decide)
    (conv => whnf); refine And.intro (hb.1) ?_
    (conv => whnf); refine recO (iC_at (l := instL) (x := instL.getD (nx l (i) 16).1.toNat 0) (by rw [List.getD_eq_getElem?_getD, List.getElem?_eq_getElem (by show (nx l (i) 16).1.toNat < 16; omega)]; rfl)) ?_
    conv => whnf
    rw [wv, if_neg (by simp)]
    rw [wv1, if_neg k1, if_neg k2, if_neg k3]
    exact ⟨rfl, _, _, rfl⟩

end Go.AW

namespace Go.AW
attribute [local irreducible] ACalls
theorem wv1_le (k : Int) (l : List Int) (i : Nat) (h : i ≤ l.length) : (wv1 k l i).2 ≤ l.length := by
  unfold wv1
  repeat' split
  all_goals exact nx_le _ _ _ h

theorem wv_le (c : Col) (l : List Int) (i : Nat) (h : i ≤ l.length) : (wv c l i).2 ≤ l.length := by
  unfold wv
  repeat' split
  · exact nx_le _ _ _ h
  · exact wv1_le _ _ _ (nx_le _ _ _ h)
  · exact wv1_le _ _ _ h

theorem wValue_spec {P : Program} (F : F_warehouseworld_Value P) (c : Col) (l : List Int) (i : Nat) (hi : i ≤ l.length) (hl : l.length ≤ 1000000) (H : List AObj) (id : Nat) (ho : H[id]? = some (gO l i)) :
    ACalls P F.id [.agg (colC c), .ptr id 1 0 0] H (fun r H' => r = .agg (valC (wv c l i).1) ∧ H' = H.set id (gO l (wv c l i).2)) :=
  (Value_raw F c l i hi hl).fr ho rfl rfl (.cl rfl (.pt trivial)) (.closed _ rfl)

def wr (l : List Int) : List Col → Nat → List V → List V × Nat
  | [], i, out => (out, i)
  | c :: cs, i, out => wr l cs (wv c l i).2 (out ++ [(wv c l i).1])

theorem wr_len (l : List Int) : ∀ (cs : List Col) (i : Nat) (out : List V), (wr l cs i out).1.length = out.length + cs.length
  | [], _, _ => rfl
  | c :: cs, i, out => by rw [wr, wr_len l cs]; simp; omega

theorem wr_le (l : List Int) : ∀ (cs : List Col) (i : Nat) (out : List V), i ≤ l.length → (wr l cs i out).2 ≤ l.length
  | [], _, _, h => h
  | c :: cs, i, out, h => by rw [wr]; exact wr_le l cs _ _ (wv_le c l i h)

set_option maxRecDepth 20000 in
theorem Row_rawG {P : Program} (F : F_warehouseworld_Row P) (cs : List Col) (hc : cs ≠ []) (hcl : cs.length ≤ 1000) (l : List Int) (i : Nat) (hi : i ≤ l.length) (hl : l.length ≤ 1000000) :
    ACalls P F.id [.list false 3 (cC cs), .ptr 0 1 0 0] [gO l i] (fun r H' => r = .sl 1 cs.length 0 cs.length ∧ H' = [gO l (wr l cs i []).2, .arr 3 (vC (wr l cs i []).1)]) := by
  refine acalls_of_body F.has ?_
  conv => whnf
  refine ⟨fun m ρ H1 => ∃ (k j : Nat) (out : List V), k + m = cs.length ∧ j ≤ l.length ∧ out.length = k ∧ wr l (cs.drop k) j out = wr l cs i [] ∧
    ((k = 0 ∧ H1 = [gO l j] ∧ Sv 23 [(0, .list false 3 (cC cs)), (1, .ptr 0 1 0 0), (5, .nil), (6, .int .i64 0)] ρ) ∨
     (0 < k ∧ H1 = [gO l j, .arr 3 (vC out)] ∧ Sv 23 [(0, .list false 3 (cC cs)), (1, .ptr 0 1 0 0), (5, .sl 1 k 0 k), (6, .int .i64 k)] ρ)), cs.length, [], ?_, ?_⟩
  · exact ⟨0, i, [], by omega, hi, rfl, rfl, .inl ⟨rfl, rfl, Sv.intro rfl ⟨rfl, rfl, rfl, rfl, trivial⟩⟩⟩
  rintro m ρ H1 ⟨k, j, out, hk, hj, ho, hr, ⟨rfl, rfl, d, rfl⟩ | ⟨hk0, rfl, d, rfl⟩⟩
  · have hlt0 : 0 < cs.length := List.length_pos_iff.2 hc
    (conv => whnf); refine recT (by rw [cC_length]; simp; omega) ?_
    have hx : cs[0]? = some cs[0] := List.getElem?_eq_getElem hlt0
    have hdr : cs.drop 0 = cs[0] :: cs.drop 1 := List.drop_eq_getElem_cons hlt0
    have ho0 : out = [] := List.eq_nil_of_length_eq_zero (by omega)
    subst ho0
    rw [hdr, wr] at hr
    (conv => whnf); refine And.intro (by omega) ?_
    (conv => whnf); refine recO (cC_at hx) ?_
    (conv => whnf); refine ACalls.mono (wValue_spec F.warehouseworld_Value cs[0] l j hj hl _ 0 rfl) ?_
    rintro r H' ⟨rfl, rfl⟩
    (conv => whnf); refine And.intro (⟨roomMul (by simp) (by omega), roomB_le (by simp)⟩) ?_
    conv => whnf
    refine ⟨m - 1, by omega, Gp.keep (live := [(0, .list false 3 (cC cs)), (1, .ptr 0 1 0 0), (5, .sl 1 1 0 1), (6, .int .i64 (1 : Nat))]) rfl ?_ fun ρ1 h => ⟨1, (wv cs[0] l j).2, [(wv cs[0] l j).1], by omega, wv_le _ _ _ hj, rfl, hr, .inr ⟨by omega, rfl, h⟩⟩⟩
    exact ⟨rfl, rfl, rfl, rfl, trivial⟩
  · (conv => whnf); refine recA (fun hlt => ?_) (fun hlt => ?_)
    · simp [cC_length] at hlt
      have hx : cs[k]? = some cs[k] := List.getElem?_eq_getElem hlt
      rw [List.drop_eq_getElem_cons hlt, wr] at hr
      (conv => whnf); refine And.intro (by omega) ?_
      (conv => whnf); refine recO (cC_at hx) ?_
      (conv => whnf); refine ACalls.mono (wValue_spec F.warehouseworld_Value cs[k] l j hj hl _ 0 rfl) ?_
      rintro r H' ⟨rfl, rfl⟩
      (conv => whnf); refine recT (by rw [vC_length, ho]; exact Nat.beq_refl _) ?_
      (conv => whnf); refine And.intro (⟨roomMul (by simp; omega) (by omega), roomB_le (by simp; omega), rfl, by rw [vC_length, ho]⟩) ?_
      conv => whnf
      have hcn : vC out ++ [valC (wv cs[k] l j).1] = vC (out ++ [(wv cs[k] l j).1]) := by rw [vC_append]; rfl
      have hln : (vC out ++ [valC (wv cs[k] l j).1]).length = k + 1 := by rw [hcn, vC_length]; simp [ho]
      refine ⟨m - 1, by omega, Gp.keep (live := [(0, .list false 3 (cC cs)), (1, .ptr 0 1 0 0), (5, .sl 1 (k + 1) 0 (k + 1)), (6, .int .i64 (k + 1 : Nat))]) rfl ?_ fun ρ1 h => ⟨k + 1, (wv cs[k] l j).2, out ++ [(wv cs[k] l j).1], by omega, wv_le _ _ _ hj, by simp [ho], hr, .inr ⟨by omega, by rw [← hcn]; rfl, h⟩⟩⟩
      exact ⟨rfl, rfl, slEq hln hln, intEq (wrapI _ (by omega) (by omega)), trivial⟩
    · simp [cC_length] at hlt
      have hkl : k = cs.length := by omega
      rw [List.drop_of_length_le (by omega), wr] at hr
      conv => whnf
      subst hkl
      rw [← hr]
      exact ⟨rfl, rfl⟩

end Go.AW

namespace Go.AW
attribute [local irreducible] ACalls
theorem wRow_spec {P : Program} (F : F_warehouseworld_Row P) (cs : List Col) (hc : cs ≠ []) (hcl : cs.length ≤ 1000) (l : List Int) (i : Nat) (hi : i ≤ l.length) (hl : l.length ≤ 1000000) (H : List AObj) (id : Nat) (ho : H[id]? = some (gO l i)) :
    ACalls P F.id [.list false 3 (cC cs), .ptr id 1 0 0] H (fun r H' => r = .sl H.length cs.length 0 cs.length ∧ H' = H.set id (gO l (wr l cs i []).2) ++ [.arr 3 (vC (wr l cs i []).1)]) := by
  refine (Row_rawG F cs hc hcl l i hi hl).frG (G := [.arr 3 (vC (wr l cs i []).1)]) ho rfl rfl ?_ (.cl rfl (.pt trivial)) ?_
  · intro x hx
    rw [List.mem_singleton.1 hx]
    exact pureEs_vC _
  · exact .sl 1 cs.length 0 cs.length

structure Src where
  cols : List Col
  key : List ByteArray
  late : Int
  reopen : Int

def srcX (b c : Bool) (s : Src) : List AVal := [.str (bs [115, 104, 111, 112, 46, 111, 114, 100, 101, 114, 115]), .list b 3 (cC s.cols), .list c 1 (sC s.key), .str (bs [97, 116]), .str (bs [122]), .int .i64 s.late, .int .i64 s.reopen]

def srcC (s : Src) : List AVal := srcX false false s

def wcols : List Col := [⟨bs [105, 100], 2, false⟩, ⟨bs [110, 97, 109, 101], 3, true⟩, ⟨bs [97, 116], 4, false⟩]

def wpart (n : Int) : Bool := (IntKind.i64.wrap (n.tdiv 16)) % 2 == 1

def wsrc (n : Int) : Src := ⟨if wpart n then wcols ++ [⟨bs [112, 97, 114, 116], 3, false⟩] else wcols, if wpart n then [bs [112, 97, 114, 116], bs [105, 100]] else [bs [105, 100]],
  [0, 60, 1440, 3000].getD (n % 4).toNat 0, [0, 100, 1500, 5000].getD ((IntKind.i64.wrap (n.tdiv 4)) % 4).toNat 0⟩

set_option maxRecDepth 20000 in
theorem Source_raw {P : Program} (F : F_warehouseworld_Source P) (n : Int) (H : List AObj) :
    ACalls P F.id [.int .i64 n] H (fun r H' => r = .agg (srcX (!wpart n) true (wsrc n)) ∧ H' = H) := by
  have b4 : ∀ x : Int, 0 ≤ x % 4 ∧ x % 4 < 4 := fun x => ⟨Int.emod_nonneg _ (by decide), Int.emod_lt_of_pos _ (by decide)⟩
  refine ACalls.pure rfl (acalls_of_body F.has ?_)
  have o1 : (iC [0, 60, 1440, 3000])[(n % 4).toNat]? = some [.int .i64 ([0, 60, 1440, 3000].getD (n % 4).toNat 0)] := iC_at (by have := b4 n; rw [List.getD_eq_getElem?_getD, List.getElem?_eq_getElem (by show (n % 4).toNat < 4; omega)]; rfl)
  have o2 : (iC [0, 100, 1500, 5000])[((IntKind.i64.wrap (n.tdiv 4)) % 4).toNat]? = some [.int .i64 ([0, 100, 1500, 5000].getD ((IntKind.i64.wrap (n.tdiv 4)) % 4).toNat 0)] := iC_at (by have := b4 (IntKind.i64.wrap (n.tdiv 4)); rw [List.getD_eq_getElem?_getD, List.getElem?_eq_getElem (by show ((IntKind.i64.wrap (n.tdiv 4)) % 4).toNat < 4; omega)]; rfl)
  (conv => whnf); refine ⟨_, wColumns_spec F.warehouseworld_Columns _, ?_⟩
  (conv => whnf); refine ⟨_, Place_spec F.warehouseworld_Place n 4 (by decide) (by decide) _, ?_⟩
  (conv => whnf); refine And.intro ((b4 n).1) ?_
  (conv => whnf); refine recO (o1) ?_
  (conv => whnf); refine And.intro (by decide) ?_
  (conv => whnf); refine ⟨_, Place_spec F.warehouseworld_Place (IntKind.i64.wrap (n.tdiv 4)) 4 (by decide) (by decide) _, ?_⟩
  (conv => whnf); refine And.intro ((b4 _).1) ?_
  (conv => whnf); refine recO (o2) ?_
  (conv => whnf); refine And.intro (rfl) ?_
  (conv => whnf); refine And.intro (by (conv => whnf); refine And.intro (b4 _).1 ?_; (conv => whnf); refine recO o2 ?_; rfl) ?_
  (conv => whnf); refine And.intro (⟨_, Place_spec F.warehouseworld_Place (IntKind.i64.wrap (n.tdiv 4)) 4 (by decide) (by decide) _, rfl⟩) ?_
  (conv => whnf); refine And.intro (rfl) ?_
  (conv => whnf); refine And.intro (by (conv => whnf); refine And.intro (b4 _).1 ?_; (conv => whnf); refine recO o1 ?_; rfl) ?_
  (conv => whnf); refine And.intro (⟨_, Place_spec F.warehouseworld_Place n 4 (by decide) (by decide) _, rfl⟩) ?_
  (conv => whnf); refine And.intro (⟨_, wColumns_spec F.warehouseworld_Columns _, rfl⟩) ?_
  (conv => whnf); refine And.intro (by decide) ?_
  (conv => whnf); refine ACalls.use (Place_spec F.warehouseworld_Place (IntKind.i64.wrap (n.tdiv 16)) 2 (by decide) (by decide) _) ?_
  (conv => whnf); refine recA (fun h1 => ?_) (fun h1 => ?_)
  · replace h1 : wpart n = true := h1
    (conv => whnf); refine And.intro (by decide) ?_
    conv => whnf
    rw [h1, wsrc, h1]
    refine .agg _ _ rfl fun i v r h2 h3 => ?_
    rcases i with _ | _ | _ | _ | _ | _ | _ | i
    · cases h2; cases h3; exact .closed _ rfl
    · cases h2; cases h3
      exact pubFI (by simp) rfl rfl rfl (pureEs_cC _)
    · cases h2; cases h3; exact .closed _ rfl
    · cases h2; cases h3; exact .closed _ rfl
    · cases h2; cases h3; exact .closed _ rfl
    · cases h2; cases h3; exact .closed _ rfl
    · cases h2; cases h3; exact .closed _ rfl
    · simp at h2
  · replace h1 : wpart n = false := h1
    conv => whnf
    rw [h1, wsrc, h1]
    exact .closed _ rfl

theorem Source_spec {P : Program} (F : F_warehouseworld_Source P) (n : Int) (H : List AObj) :
    ACalls P F.id [.int .i64 n] H (fun r H' => r = .agg (srcC (wsrc n)) ∧ H' = H) :=
  ACalls.weakR (Source_raw F n H) (by
    rintro r H' ⟨rfl, rfl⟩
    refine ⟨.agg (srcC (wsrc n)), .agg _ _ rfl fun i a b h1 h2 => ?_, rfl, rfl⟩
    rcases i with _ | _ | _ | _ | _ | _ | _ | i
    · cases h1; cases h2; exact .refl _
    · cases h1; cases h2; exact .list _ _ _ _ (by simp)
    · cases h1; cases h2; exact .list _ _ _ _ (by simp)
    · cases h1; cases h2; exact .refl _
    · cases h1; cases h2; exact .refl _
    · cases h1; cases h2; exact .refl _
    · cases h1; cases h2; exact .refl _
    · simp [srcX] at h1)

end Go.AW

namespace Go.AW
attribute [local irreducible] ACalls
def sAt : ByteArray := bs [97, 116]

def keepC (key : List ByteArray) (c : Col) : Bool := inB key c.name || eqS c.name sAt

def delR (key : List ByteArray) : List Col → List V → List V
  | c :: cs, v :: vs => (if keepC key c then v else zV) :: delR key cs vs
  | _, _ => []

theorem delR_len (key : List ByteArray) : ∀ (cs : List Col) (vs : List V), vs.length = cs.length → (delR key cs vs).length = cs.length
  | [], [], _ => rfl
  | [], _ :: _, h => by simp at h
  | _ :: _, [], h => by simp at h
  | c :: cs, v :: vs, h => by rw [delR, List.length_cons, List.length_cons, delR_len key cs vs (by simpa using h)]

def delK (key : List ByteArray) (cs : List Col) (vs : List V) (k : Nat) : List V := delR key (cs.take k) (vs.take k)

theorem delK_succ (key : List ByteArray) : ∀ (cs : List Col) (vs : List V) (k : Nat) (c : Col) (v : V), cs[k]? = some c → vs[k]? = some v → delK key cs vs (k + 1) = delK key cs vs k ++ [if keepC key c then v else zV]
  | [], _, _, _, _, h, _ => by simp at h
  | _ :: _, [], _, _, _, _, h => by simp at h
  | c0 :: cs, v0 :: vs, 0, c, v, h1, h2 => by
    simp at h1 h2; subst h1 h2
    simp [delK, delR]
  | c0 :: cs, v0 :: vs, k + 1, c, v, h1, h2 => by
    have := delK_succ key cs vs k c v (by simpa using h1) (by simpa using h2)
    simp only [delK, List.take_succ_cons, delR] at this ⊢
    rw [this]; rfl

theorem delK_len (key : List ByteArray) (cs : List Col) (vs : List V) (k : Nat) (h : vs.length = cs.length) (hk : k ≤ cs.length) : (delK key cs vs k).length = k := by
  rw [delK, delR_len key _ _ (by simp; omega)]; simp; omega

def delO (s : Src) (r : Rec) (c : AVal) : List AObj := [.arr 7 [srcC s], .arr 3 [recC r], .arr 3 [[.bool false, .int .i64 0, .nil]], .arr 3 [[.bool true, .int .i64 r.seq, c]]]

theorem obR {H : List AObj} {ids : List Nat} {a : Bool} {b : Int} {c c1 : AVal} (h : Pub H 0 ids c c1) (hc : c1.isCell = true) : ObP H ids (.arr 3 [[.bool a, .int .i64 b, c]]) (.arr 3 [[.bool a, .int .i64 b, c1]]) := by
  refine .map 3 _ _ rfl (fun i e e1 h1 h2 => ?_) (fun i j e e1 d d1 h1 h2 h3 h4 => ?_)
  · rcases i with _ | i
    · cases h1; cases h2; rfl
    · simp at h1
  · rcases i with _ | i
    · cases h1; cases h2
      rcases j with _ | _ | _ | j
      · cases h3; cases h4; exact ⟨.closed _ rfl, rfl⟩
      · cases h3; cases h4; exact ⟨.closed _ rfl, rfl⟩
      · cases h3; cases h4; exact ⟨h, hc⟩
      · simp at h3
    · simp at h1

set_option maxRecDepth 20000 in
theorem Deletion_spec {P : Program} (F : F_warehouseworld_Deletion P) (s : Src) (r : Rec) (hr : r.row.length = s.cols.length) (hc : s.cols ≠ []) (hl : s.cols.length ≤ 1000) (hk : s.key.length ≤ 1000) (H : List AObj) :
    ACalls P F.id [.agg (srcC s), .agg (recC r)] H (fun x H' => x = .agg (recC ⟨true, r.seq, delR s.key s.cols r.row⟩) ∧ H' = H) := by
  refine ACalls.pure (by simp [AVal.closed, srcC, srcX, recC, AVal.isPure]) (acalls_of_body F.has ?_)
  have ps : pureEs [srcC s] = true := by simp [pureEs, srcC, srcX, AVal.isPure]
  have pr : pureEs [recC r] = true := by simp [pureEs, recC, AVal.isPure]
  conv => whnf
  refine ⟨fun m ρ H1 => ∃ k : Nat, k + m = s.cols.length ∧ ((k = 0 ∧ H1 = delO s r .nil) ∨ (0 < k ∧ H1 = delO s r (.sl 4 k 0 k) ++ [.arr 3 (vC (delK s.key s.cols r.row k))])) ∧
    Sv 51 [(2, .ptr 0 1 0 0), (3, .ptr 1 1 0 0), (4, .ptr 2 1 0 0), (5, .ptr 3 1 0 0), (6, .int .i64 k)] ρ, s.cols.length, [], ?_, ?_⟩
  · exact ⟨0, by omega, .inl ⟨rfl, rfl⟩, Sv.intro rfl ⟨rfl, rfl, rfl, rfl, rfl, trivial⟩⟩
  rintro m ρ H1 ⟨k, hkm, ⟨rfl, rfl⟩ | ⟨hk0, rfl⟩, d, rfl⟩
  · have hlt : 0 < s.cols.length := List.length_pos_iff.2 hc
    have hx : s.cols[0]? = some s.cols[0] := List.getElem?_eq_getElem hlt
    have hv : r.row[0]? = some r.row[0] := List.getElem?_eq_getElem (by omega)
    have hd0 := delK_succ s.key s.cols r.row 0 _ _ hx hv
    (conv => whnf); refine recT (by simp [cC_length]; omega) ?_
    (conv => whnf); refine And.intro (by omega) ?_
    (conv => whnf); refine recO (cC_at hx) ?_
    (conv => whnf); refine ⟨_, In_spec F.warehouseref23_In s.key s.cols[0].name (by omega) _, ?_⟩
    (conv => whnf); refine recA (fun hin => ?_) (fun hin => ?_)
    · have hkp : keepC s.key s.cols[0] = true := by rw [keepC, hin]; rfl
      have hd1 : delK s.key s.cols r.row 1 = [r.row[0]] := by rw [hd0, hkp]; rfl
      (conv => whnf); refine And.intro (by omega) ?_
      (conv => whnf); refine recO (vC_at hv) ?_
      (conv => whnf); refine And.intro (⟨roomMul (by simp) (by omega), roomB_le (by simp)⟩) ?_
      conv => whnf
      refine ⟨m - 1, by omega, Gp.some (n := 51) (live := [(2, .ptr 0 1 0 0), (3, .ptr 1 1 0 0), (4, .ptr 2 1 0 0), (5, .ptr 3 1 0 0), (6, .int .i64 (1 : Nat))]) (H1 := [.arr 7 [srcC s], .arr 3 [recC r], .arr 3 [[.bool false, .int .i64 0, .nil]], .arr 3 [[.bool true, .int .i64 r.seq, .sl 4 1 0 1]], .arr 3 [valC (r.row[0])]]) [0, 1, 2, 3, 5] (by simp)
        ⟨⟨_, rfl, .same _ _ ps⟩, ⟨_, rfl, .same _ _ pr⟩, ⟨_, rfl, .same _ _ rfl⟩, ⟨_, rfl, obR (.keep 5 _ _ _ 4 rfl) rfl⟩, ⟨_, rfl, .same _ _ rfl⟩, trivial⟩ rfl ?_ fun ρ1 h => ⟨1, by omega, .inr ⟨by omega, ?_⟩, h⟩⟩
      · exact ⟨.keepP 0 1 0 0 0 rfl, .keepP 1 1 0 0 1 rfl, .keepP 2 1 0 0 2 rfl, .keepP 3 1 0 0 3 rfl, .closed _ rfl, trivial⟩
      · rw [hd1]; rfl
    · (conv => whnf); refine And.intro (by omega) ?_
      (conv => whnf); refine recO (cC_at hx) ?_
      (conv => whnf); refine recA (fun heq => ?_) (fun heq => ?_)
      · have hkp : keepC s.key s.cols[0] = true := by rw [keepC, hin]; exact heq
        have hd1 : delK s.key s.cols r.row 1 = [r.row[0]] := by rw [hd0, hkp]; rfl
        (conv => whnf); refine And.intro (by omega) ?_
        (conv => whnf); refine recO (vC_at hv) ?_
        (conv => whnf); refine And.intro (⟨roomMul (by simp) (by omega), roomB_le (by simp)⟩) ?_
        conv => whnf
        refine ⟨m - 1, by omega, Gp.some (n := 51) (live := [(2, .ptr 0 1 0 0), (3, .ptr 1 1 0 0), (4, .ptr 2 1 0 0), (5, .ptr 3 1 0 0), (6, .int .i64 (1 : Nat))]) (H1 := [.arr 7 [srcC s], .arr 3 [recC r], .arr 3 [[.bool false, .int .i64 0, .nil]], .arr 3 [[.bool true, .int .i64 r.seq, .sl 4 1 0 1]], .arr 3 [valC (r.row[0])]]) [0, 1, 2, 3, 5] (by simp)
          ⟨⟨_, rfl, .same _ _ ps⟩, ⟨_, rfl, .same _ _ pr⟩, ⟨_, rfl, .same _ _ rfl⟩, ⟨_, rfl, obR (.keep 5 _ _ _ 4 rfl) rfl⟩, ⟨_, rfl, .same _ _ rfl⟩, trivial⟩ rfl ?_ fun ρ1 h => ⟨1, by omega, .inr ⟨by omega, ?_⟩, h⟩⟩
        · exact ⟨.keepP 0 1 0 0 0 rfl, .keepP 1 1 0 0 1 rfl, .keepP 2 1 0 0 2 rfl, .keepP 3 1 0 0 3 rfl, .closed _ rfl, trivial⟩
        · rw [hd1]; rfl
      · have hkp : keepC s.key s.cols[0] = false := by rw [keepC, hin]; exact heq
        have hd1 : delK s.key s.cols r.row 1 = [zV] := by rw [hd0, hkp]; rfl
        (conv => whnf); refine And.intro (⟨roomMul (by simp) (by omega), roomB_le (by simp)⟩) ?_
        conv => whnf
        refine ⟨m - 1, by omega, Gp.some (n := 51) (live := [(2, .ptr 0 1 0 0), (3, .ptr 1 1 0 0), (4, .ptr 2 1 0 0), (5, .ptr 3 1 0 0), (6, .int .i64 (1 : Nat))]) (H1 := [.arr 7 [srcC s], .arr 3 [recC r], .arr 3 [[.bool false, .int .i64 0, .nil]], .arr 3 [[.bool true, .int .i64 r.seq, .sl 4 1 0 1]], .arr 3 [valC (zV)]]) [0, 1, 2, 3, 5] (by simp)
          ⟨⟨_, rfl, .same _ _ ps⟩, ⟨_, rfl, .same _ _ pr⟩, ⟨_, rfl, .same _ _ rfl⟩, ⟨_, rfl, obR (.keep 5 _ _ _ 4 rfl) rfl⟩, ⟨_, rfl, .same _ _ rfl⟩, trivial⟩ rfl ?_ fun ρ1 h => ⟨1, by omega, .inr ⟨by omega, ?_⟩, h⟩⟩
        · exact ⟨.keepP 0 1 0 0 0 rfl, .keepP 1 1 0 0 1 rfl, .keepP 2 1 0 0 2 rfl, .keepP 3 1 0 0 3 rfl, .closed _ rfl, trivial⟩
        · rw [hd1]; rfl
  · (conv => whnf); refine recA (fun hlt => ?_) (fun hlt => ?_)
    · simp [cC_length] at hlt
      have hx : s.cols[k]? = some s.cols[k] := List.getElem?_eq_getElem hlt
      have hv : r.row[k]? = some (r.row[k]'(by omega)) := List.getElem?_eq_getElem (by omega)
      have hd0 := delK_succ s.key s.cols r.row k _ _ hx hv
      have hdl := delK_len s.key s.cols r.row k hr (by omega)
      (conv => whnf); refine And.intro (by omega) ?_
      (conv => whnf); refine recO (cC_at hx) ?_
      (conv => whnf); refine ⟨_, In_spec F.warehouseref23_In s.key s.cols[k].name (by omega) _, ?_⟩
      (conv => whnf); refine recA (fun hin => ?_) (fun hin => ?_)
      · have hkp : keepC s.key s.cols[k] = true := by rw [keepC, hin]; rfl
        have hd1v : vC (delK s.key s.cols r.row (k + 1)) = vC (delK s.key s.cols r.row k) ++ [valC (r.row[k]'(by omega))] := by rw [hd0, hkp, vC_append]; rfl
        (conv => whnf); refine And.intro (by omega) ?_
        (conv => whnf); refine recO (vC_at hv) ?_
        (conv => whnf); refine recT (by rw [vC_length, hdl]; exact Nat.beq_refl _) ?_
        (conv => whnf); refine And.intro (⟨roomMul (by simp; omega) (by omega), roomB_le (by simp; omega), rfl, by rw [vC_length, hdl]⟩) ?_
        conv => whnf
        have hln : (vC (delK s.key s.cols r.row k) ++ [valC ((r.row[k]'(by omega)))]).length = k + 1 := by simp [vC_length, hdl]
        refine ⟨m - 1, by omega, Gp.some (n := 51) (live := [(2, .ptr 0 1 0 0), (3, .ptr 1 1 0 0), (4, .ptr 2 1 0 0), (5, .ptr 3 1 0 0), (6, .int .i64 (k + 1 : Nat))]) (H1 := [.arr 7 [srcC s], .arr 3 [recC r], .arr 3 [[.bool false, .int .i64 0, .nil]], .arr 3 [[.bool true, .int .i64 r.seq, .sl 4 (vC (delK s.key s.cols r.row k) ++ [valC ((r.row[k]'(by omega)))]).length 0 (vC (delK s.key s.cols r.row k) ++ [valC ((r.row[k]'(by omega)))]).length]], .arr 3 (vC (delK s.key s.cols r.row k) ++ [valC ((r.row[k]'(by omega)))])]) [0, 1, 2, 3, 4] (by simp)
          ⟨⟨_, rfl, .same _ _ ps⟩, ⟨_, rfl, .same _ _ pr⟩, ⟨_, rfl, .same _ _ rfl⟩, ⟨_, rfl, obR (.keep 4 _ _ _ 4 rfl) rfl⟩, ⟨_, rfl, .same _ _ ((congrArg pureEs hd1v.symm).trans (pureEs_vC _))⟩, trivial⟩ rfl ?_ fun ρ1 h => ⟨k + 1, by omega, .inr ⟨by omega, ?_⟩, h⟩⟩
        · exact ⟨.keepP 0 1 0 0 0 rfl, .keepP 1 1 0 0 1 rfl, .keepP 2 1 0 0 2 rfl, .keepP 3 1 0 0 3 rfl, pub_int (wrapI _ (by omega) (by omega)), trivial⟩
        · rw [hln, hd1v]; rfl
      · (conv => whnf); refine And.intro (by omega) ?_
        (conv => whnf); refine recO (cC_at hx) ?_
        (conv => whnf); refine recA (fun heq => ?_) (fun heq => ?_)
        · have hkp : keepC s.key s.cols[k] = true := by rw [keepC, hin]; exact heq
          have hd1v : vC (delK s.key s.cols r.row (k + 1)) = vC (delK s.key s.cols r.row k) ++ [valC (r.row[k]'(by omega))] := by rw [hd0, hkp, vC_append]; rfl
          (conv => whnf); refine And.intro (by omega) ?_
          (conv => whnf); refine recO (vC_at hv) ?_
          (conv => whnf); refine recT (by rw [vC_length, hdl]; exact Nat.beq_refl _) ?_
          (conv => whnf); refine And.intro (⟨roomMul (by simp; omega) (by omega), roomB_le (by simp; omega), rfl, by rw [vC_length, hdl]⟩) ?_
          conv => whnf
          have hln : (vC (delK s.key s.cols r.row k) ++ [valC ((r.row[k]'(by omega)))]).length = k + 1 := by simp [vC_length, hdl]
          refine ⟨m - 1, by omega, Gp.some (n := 51) (live := [(2, .ptr 0 1 0 0), (3, .ptr 1 1 0 0), (4, .ptr 2 1 0 0), (5, .ptr 3 1 0 0), (6, .int .i64 (k + 1 : Nat))]) (H1 := [.arr 7 [srcC s], .arr 3 [recC r], .arr 3 [[.bool false, .int .i64 0, .nil]], .arr 3 [[.bool true, .int .i64 r.seq, .sl 4 (vC (delK s.key s.cols r.row k) ++ [valC ((r.row[k]'(by omega)))]).length 0 (vC (delK s.key s.cols r.row k) ++ [valC ((r.row[k]'(by omega)))]).length]], .arr 3 (vC (delK s.key s.cols r.row k) ++ [valC ((r.row[k]'(by omega)))])]) [0, 1, 2, 3, 4] (by simp)
            ⟨⟨_, rfl, .same _ _ ps⟩, ⟨_, rfl, .same _ _ pr⟩, ⟨_, rfl, .same _ _ rfl⟩, ⟨_, rfl, obR (.keep 4 _ _ _ 4 rfl) rfl⟩, ⟨_, rfl, .same _ _ ((congrArg pureEs hd1v.symm).trans (pureEs_vC _))⟩, trivial⟩ rfl ?_ fun ρ1 h => ⟨k + 1, by omega, .inr ⟨by omega, ?_⟩, h⟩⟩
          · exact ⟨.keepP 0 1 0 0 0 rfl, .keepP 1 1 0 0 1 rfl, .keepP 2 1 0 0 2 rfl, .keepP 3 1 0 0 3 rfl, pub_int (wrapI _ (by omega) (by omega)), trivial⟩
          · rw [hln, hd1v]; rfl
        · have hkp : keepC s.key s.cols[k] = false := by rw [keepC, hin]; exact heq
          have hd1v : vC (delK s.key s.cols r.row (k + 1)) = vC (delK s.key s.cols r.row k) ++ [valC zV] := by rw [hd0, hkp, vC_append]; rfl
          (conv => whnf); refine recT (by rw [vC_length, hdl]; exact Nat.beq_refl _) ?_
          (conv => whnf); refine And.intro (⟨roomMul (by simp; omega) (by omega), roomB_le (by simp; omega), rfl, by rw [vC_length, hdl]⟩) ?_
          conv => whnf
          have hln : (vC (delK s.key s.cols r.row k) ++ [valC (zV)]).length = k + 1 := by simp [vC_length, hdl]
          refine ⟨m - 1, by omega, Gp.some (n := 51) (live := [(2, .ptr 0 1 0 0), (3, .ptr 1 1 0 0), (4, .ptr 2 1 0 0), (5, .ptr 3 1 0 0), (6, .int .i64 (k + 1 : Nat))]) (H1 := [.arr 7 [srcC s], .arr 3 [recC r], .arr 3 [[.bool false, .int .i64 0, .nil]], .arr 3 [[.bool true, .int .i64 r.seq, .sl 4 (vC (delK s.key s.cols r.row k) ++ [valC (zV)]).length 0 (vC (delK s.key s.cols r.row k) ++ [valC (zV)]).length]], .arr 3 (vC (delK s.key s.cols r.row k) ++ [valC (zV)])]) [0, 1, 2, 3, 4] (by simp)
            ⟨⟨_, rfl, .same _ _ ps⟩, ⟨_, rfl, .same _ _ pr⟩, ⟨_, rfl, .same _ _ rfl⟩, ⟨_, rfl, obR (.keep 4 _ _ _ 4 rfl) rfl⟩, ⟨_, rfl, .same _ _ ((congrArg pureEs hd1v.symm).trans (pureEs_vC _))⟩, trivial⟩ rfl ?_ fun ρ1 h => ⟨k + 1, by omega, .inr ⟨by omega, ?_⟩, h⟩⟩
          · exact ⟨.keepP 0 1 0 0 0 rfl, .keepP 1 1 0 0 1 rfl, .keepP 2 1 0 0 2 rfl, .keepP 3 1 0 0 3 rfl, pub_int (wrapI _ (by omega) (by omega)), trivial⟩
          · rw [hln, hd1v]; rfl
    · simp [cC_length] at hlt
      have hkl : k = s.cols.length := by omega
      have hd2 : delK s.key s.cols r.row k = delR s.key s.cols r.row := by rw [delK, hkl, List.take_length, ← hr, List.take_length]
      have hdl := delK_len s.key s.cols r.row k hr (by omega)
      conv => whnf
      refine .agg _ _ rfl fun i v x h1 h2 => ?_
      rcases i with _ | _ | _ | i
      · cases h1; cases h2; exact .closed _ rfl
      · cases h1; cases h2; exact .closed _ rfl
      · cases h1; cases h2
        rw [← hd2]
        exact pubFI (by simp) rfl (by rw [vC_length, hdl]) (by rw [vC_length, hdl]) (pureEs_vC _)
      · simp at h1

end Go.AW

namespace Go.AW
attribute [local irreducible] ACalls
def wk (s : Src) (l : List Int) (i : Nat) : Int × Nat := nx l (wr l s.cols (nx l i 4).2 []).2 24

def wrow (s : Src) (l : List Int) (i : Nat) : List V := (wr l s.cols (nx l i 4).2 []).1

def wrec (s : Src) (l : List Int) (i : Nat) : Rec × Nat :=
  if (wk s l i).1 < 5 then (⟨true, (nx l i 4).1, delR s.key s.cols (wrow s l i)⟩, (wk s l i).2)
  else if (wk s l i).1 = 5 then (⟨true, (nx l i 4).1, wrow s l i⟩, (wk s l i).2)
  else if (wk s l i).1 = 6 then (⟨false, (nx l i 4).1, (wrow s l i).take (s.cols.length - 1)⟩, (wk s l i).2)
  else if (wk s l i).1 = 7 then (⟨false, (nx l i 4).1, (wrow s l i).set (nx l (wk s l i).2 s.cols.length).1.toNat ⟨1, 1, bs []⟩⟩, (nx l (wk s l i).2 s.cols.length).2)
  else if (wk s l i).1 = 8 then (⟨false, -1, wrow s l i⟩, (wk s l i).2)
  else (⟨false, (nx l i 4).1, wrow s l i⟩, (wk s l i).2)

theorem wrow_len (s : Src) (l : List Int) (i : Nat) : (wrow s l i).length = s.cols.length := by rw [wrow, wr_len]; simp

theorem wk_le (s : Src) (l : List Int) (i : Nat) (h : i ≤ l.length) : (wk s l i).2 ≤ l.length := nx_le _ _ _ (wr_le _ _ _ _ (nx_le _ _ _ h))

theorem wrec_le (s : Src) (l : List Int) (i : Nat) (h : i ≤ l.length) : (wrec s l i).2 ≤ l.length := by
  have := wk_le s l i h
  unfold wrec
  repeat' split
  all_goals first
    | exact this
    | exact nx_le _ _ _ this

def RecRaw (s : Src) (l : List Int) (i : Nat) (r : AVal) (H' : List AObj) : Prop :=
  ∃ c, r = .agg [.bool (wrec s l i).1.del, .int .i64 (wrec s l i).1.seq, c] ∧
    ((c = .list false 3 (vC (wrec s l i).1.row) ∧ ∃ t, H' = gO l (wrec s l i).2 :: t) ∨
     ∃ m R x y z, c = .sl 3 (vC R).length 0 m ∧ ((vC R).drop 0).take m = vC (wrec s l i).1.row ∧ H' = [gO l (wrec s l i).2, x, y, .arr 3 (vC R), z])

set_option maxRecDepth 20000 in
theorem Record_raw {P : Program} (F : F_warehouseworld_Record P) (s : Src) (hc : s.cols ≠ []) (hcl : s.cols.length ≤ 1000) (hk : s.key.length ≤ 1000) (l : List Int) (i : Nat) (hi : i ≤ l.length) (hl : l.length ≤ 1000000) :
    ACalls P F.id [.agg (srcC s), .ptr 0 1 0 0] [gO l i] (RecRaw s l i) := by
  have nk0 := fun H id ho => Next_spec F.warehouseworld_Numbers_Next l (wr l s.cols (nx l i 4).2 []).2 24 (wr_le _ _ _ _ (nx_le _ _ _ hi)) hl (by decide) H id ho
  have hkb := nx_bnd l (wr l s.cols (nx l i 4).2 []).2 24 (by decide)
  have hrl : (wrow s l i).length = s.cols.length := wrow_len s l i
  have hvl : (vC (wrow s l i)).length = s.cols.length := by rw [vC_length, hrl]
  have ps : pureEs [srcC s] = true := by simp [pureEs, srcC, srcX, AVal.isPure]
  have hcp : 0 < s.cols.length := List.length_pos_iff.2 hc
  have htk : ((vC (wrow s l i)).drop 0).take s.cols.length = vC (wrow s l i) := by rw [List.drop_zero, ← hvl, List.take_length]
  have hcs : (wk s l i).1 = 0 ∨ (wk s l i).1 = 1 ∨ (wk s l i).1 = 2 ∨ (wk s l i).1 = 3 ∨ (wk s l i).1 = 4 ∨ (wk s l i).1 = 5 ∨ (wk s l i).1 = 6 ∨ (wk s l i).1 = 7 ∨ (wk s l i).1 = 8 ∨ 9 ≤ (wk s l i).1 := by
    change 0 ≤ (wk s l i).1 ∧ _ at hkb
    omega
  rcases hcs with hz | hz | hz | hz | hz | hz | hz | hz | hz | hz
  · have nk := nk0
    rw [show (nx l (wr l s.cols (nx l i 4).2 []).2 24).1 = 0 from hz] at nk
    refine acalls_of_body F.has ?_
    (conv => whnf); refine ⟨_, _, Next_spec F.warehouseworld_Numbers_Next l i 4 hi hl (by decide) _ 0 rfl, ?_⟩
    (conv => whnf); refine ⟨_, _, wRow_spec F.warehouseworld_Row s.cols hc hcl l (nx l i 4).2 (nx_le _ _ _ hi) hl _ 0 rfl, ?_⟩
    (conv => whnf); refine And.intro (rfl) ?_
    (conv => whnf); refine ACalls.mono (nk _ 0 rfl) ?_
    rintro r H' ⟨rfl, rfl⟩
    conv => whnf
    refine ⟨Gp.keepL (n := 52) (live := [(1, .ptr 0 1 0 0), (2, .ptr 1 1 0 0), (4, .ptr 2 1 0 0), (5, .ptr 3 1 0 0), (14, .int .i64 (0))]) (H1 := [gO l (wk s l i).2, .arr 7 [srcC s], .arr 3 [[.bool false, .int .i64 0, .nil]], .arr 3 [recC ⟨false, (nx l i 4).1, wrow s l i⟩]]) [0, 1, 2, 4] (by simp) (keepB_one rfl rfl rfl)
      ⟨⟨_, rfl, .same _ _ rfl⟩, ⟨_, rfl, .same _ _ ps⟩, ⟨_, rfl, .same _ _ rfl⟩, ⟨_, rfl, obR (pubFI (by simp) rfl hvl.symm hvl.symm (pureEs_vC _)) rfl⟩, trivial⟩ rfl ⟨.keepP 0 1 0 0 0 rfl, .keepP 1 1 0 0 1 rfl, .keepP 2 1 0 0 2 rfl, .keepP 4 1 0 0 3 rfl, .closed _ rfl, trivial⟩ ?_⟩
    rintro ρ1 ⟨d, rfl⟩
    (conv => whnf); refine ACalls.use (Deletion_spec F.warehouseworld_Deletion s ⟨false, (nx l i 4).1, wrow s l i⟩ hrl hc hcl hk _) ?_
    conv => whnf
    have e : wrec s l i = (⟨true, (nx l i 4).1, delR s.key s.cols (wrow s l i)⟩, (wk s l i).2) := by rw [wrec, if_pos (by rw [hz]; decide)]
    show RecRaw s l i _ _
    unfold RecRaw
    rw [e]
    exact ⟨_, rfl, .inl ⟨rfl, _, rfl⟩⟩
  · have nk := nk0
    rw [show (nx l (wr l s.cols (nx l i 4).2 []).2 24).1 = 1 from hz] at nk
    refine acalls_of_body F.has ?_
    (conv => whnf); refine ⟨_, _, Next_spec F.warehouseworld_Numbers_Next l i 4 hi hl (by decide) _ 0 rfl, ?_⟩
    (conv => whnf); refine ⟨_, _, wRow_spec F.warehouseworld_Row s.cols hc hcl l (nx l i 4).2 (nx_le _ _ _ hi) hl _ 0 rfl, ?_⟩
    (conv => whnf); refine And.intro (rfl) ?_
    (conv => whnf); refine ACalls.mono (nk _ 0 rfl) ?_
    rintro r H' ⟨rfl, rfl⟩
    conv => whnf
    refine ⟨Gp.keepL (n := 52) (live := [(1, .ptr 0 1 0 0), (2, .ptr 1 1 0 0), (4, .ptr 2 1 0 0), (5, .ptr 3 1 0 0), (14, .int .i64 (1))]) (H1 := [gO l (wk s l i).2, .arr 7 [srcC s], .arr 3 [[.bool false, .int .i64 0, .nil]], .arr 3 [recC ⟨false, (nx l i 4).1, wrow s l i⟩]]) [0, 1, 2, 4] (by simp) (keepB_one rfl rfl rfl)
      ⟨⟨_, rfl, .same _ _ rfl⟩, ⟨_, rfl, .same _ _ ps⟩, ⟨_, rfl, .same _ _ rfl⟩, ⟨_, rfl, obR (pubFI (by simp) rfl hvl.symm hvl.symm (pureEs_vC _)) rfl⟩, trivial⟩ rfl ⟨.keepP 0 1 0 0 0 rfl, .keepP 1 1 0 0 1 rfl, .keepP 2 1 0 0 2 rfl, .keepP 4 1 0 0 3 rfl, .closed _ rfl, trivial⟩ ?_⟩
    rintro ρ1 ⟨d, rfl⟩
    (conv => whnf); refine ACalls.use (Deletion_spec F.warehouseworld_Deletion s ⟨false, (nx l i 4).1, wrow s l i⟩ hrl hc hcl hk _) ?_
    conv => whnf
    have e : wrec s l i = (⟨true, (nx l i 4).1, delR s.key s.cols (wrow s l i)⟩, (wk s l i).2) := by rw [wrec, if_pos (by rw [hz]; decide)]
    show RecRaw s l i _ _
    unfold RecRaw
    rw [e]
    exact ⟨_, rfl, .inl ⟨rfl, _, rfl⟩⟩
  · have nk := nk0
    rw [show (nx l (wr l s.cols (nx l i 4).2 []).2 24).1 = 2 from hz] at nk
    refine acalls_of_body F.has ?_
    (conv => whnf); refine ⟨_, _, Next_spec F.warehouseworld_Numbers_Next l i 4 hi hl (by decide) _ 0 rfl, ?_⟩
    (conv => whnf); refine ⟨_, _, wRow_spec F.warehouseworld_Row s.cols hc hcl l (nx l i 4).2 (nx_le _ _ _ hi) hl _ 0 rfl, ?_⟩
    (conv => whnf); refine And.intro (rfl) ?_
    (conv => whnf); refine ACalls.mono (nk _ 0 rfl) ?_
    rintro r H' ⟨rfl, rfl⟩
    conv => whnf
    refine ⟨Gp.keepL (n := 52) (live := [(1, .ptr 0 1 0 0), (2, .ptr 1 1 0 0), (4, .ptr 2 1 0 0), (5, .ptr 3 1 0 0), (14, .int .i64 (2))]) (H1 := [gO l (wk s l i).2, .arr 7 [srcC s], .arr 3 [[.bool false, .int .i64 0, .nil]], .arr 3 [recC ⟨false, (nx l i 4).1, wrow s l i⟩]]) [0, 1, 2, 4] (by simp) (keepB_one rfl rfl rfl)
      ⟨⟨_, rfl, .same _ _ rfl⟩, ⟨_, rfl, .same _ _ ps⟩, ⟨_, rfl, .same _ _ rfl⟩, ⟨_, rfl, obR (pubFI (by simp) rfl hvl.symm hvl.symm (pureEs_vC _)) rfl⟩, trivial⟩ rfl ⟨.keepP 0 1 0 0 0 rfl, .keepP 1 1 0 0 1 rfl, .keepP 2 1 0 0 2 rfl, .keepP 4 1 0 0 3 rfl, .closed _ rfl, trivial⟩ ?_⟩
    rintro ρ1 ⟨d, rfl⟩
    (conv => whnf); refine ACalls.use (Deletion_spec F.warehouseworld_Deletion s ⟨false, (nx l i 4).1, wrow s l i⟩ hrl hc hcl hk _) ?_
    conv => whnf
    have e : wrec s l i = (⟨true, (nx l i 4).1, delR s.key s.cols (wrow s l i)⟩, (wk s l i).2) := by rw [wrec, if_pos (by rw [hz]; decide)]
    show RecRaw s l i _ _
    unfold RecRaw
    rw [e]
    exact ⟨_, rfl, .inl ⟨rfl, _, rfl⟩⟩
  · have nk := nk0
    rw [show (nx l (wr l s.cols (nx l i 4).2 []).2 24).1 = 3 from hz] at nk
    refine acalls_of_body F.has ?_
    (conv => whnf); refine ⟨_, _, Next_spec F.warehouseworld_Numbers_Next l i 4 hi hl (by decide) _ 0 rfl, ?_⟩
    (conv => whnf); refine ⟨_, _, wRow_spec F.warehouseworld_Row s.cols hc hcl l (nx l i 4).2 (nx_le _ _ _ hi) hl _ 0 rfl, ?_⟩
    (conv => whnf); refine And.intro (rfl) ?_
    (conv => whnf); refine ACalls.mono (nk _ 0 rfl) ?_
    rintro r H' ⟨rfl, rfl⟩
    conv => whnf
    refine ⟨Gp.keepL (n := 52) (live := [(1, .ptr 0 1 0 0), (2, .ptr 1 1 0 0), (4, .ptr 2 1 0 0), (5, .ptr 3 1 0 0), (14, .int .i64 (3))]) (H1 := [gO l (wk s l i).2, .arr 7 [srcC s], .arr 3 [[.bool false, .int .i64 0, .nil]], .arr 3 [recC ⟨false, (nx l i 4).1, wrow s l i⟩]]) [0, 1, 2, 4] (by simp) (keepB_one rfl rfl rfl)
      ⟨⟨_, rfl, .same _ _ rfl⟩, ⟨_, rfl, .same _ _ ps⟩, ⟨_, rfl, .same _ _ rfl⟩, ⟨_, rfl, obR (pubFI (by simp) rfl hvl.symm hvl.symm (pureEs_vC _)) rfl⟩, trivial⟩ rfl ⟨.keepP 0 1 0 0 0 rfl, .keepP 1 1 0 0 1 rfl, .keepP 2 1 0 0 2 rfl, .keepP 4 1 0 0 3 rfl, .closed _ rfl, trivial⟩ ?_⟩
    rintro ρ1 ⟨d, rfl⟩
    (conv => whnf); refine ACalls.use (Deletion_spec F.warehouseworld_Deletion s ⟨false, (nx l i 4).1, wrow s l i⟩ hrl hc hcl hk _) ?_
    conv => whnf
    have e : wrec s l i = (⟨true, (nx l i 4).1, delR s.key s.cols (wrow s l i)⟩, (wk s l i).2) := by rw [wrec, if_pos (by rw [hz]; decide)]
    show RecRaw s l i _ _
    unfold RecRaw
    rw [e]
    exact ⟨_, rfl, .inl ⟨rfl, _, rfl⟩⟩
  · have nk := nk0
    rw [show (nx l (wr l s.cols (nx l i 4).2 []).2 24).1 = 4 from hz] at nk
    refine acalls_of_body F.has ?_
    (conv => whnf); refine ⟨_, _, Next_spec F.warehouseworld_Numbers_Next l i 4 hi hl (by decide) _ 0 rfl, ?_⟩
    (conv => whnf); refine ⟨_, _, wRow_spec F.warehouseworld_Row s.cols hc hcl l (nx l i 4).2 (nx_le _ _ _ hi) hl _ 0 rfl, ?_⟩
    (conv => whnf); refine And.intro (rfl) ?_
    (conv => whnf); refine ACalls.mono (nk _ 0 rfl) ?_
    rintro r H' ⟨rfl, rfl⟩
    conv => whnf
    refine ⟨Gp.keepL (n := 52) (live := [(1, .ptr 0 1 0 0), (2, .ptr 1 1 0 0), (4, .ptr 2 1 0 0), (5, .ptr 3 1 0 0), (14, .int .i64 (4))]) (H1 := [gO l (wk s l i).2, .arr 7 [srcC s], .arr 3 [[.bool false, .int .i64 0, .nil]], .arr 3 [recC ⟨false, (nx l i 4).1, wrow s l i⟩]]) [0, 1, 2, 4] (by simp) (keepB_one rfl rfl rfl)
      ⟨⟨_, rfl, .same _ _ rfl⟩, ⟨_, rfl, .same _ _ ps⟩, ⟨_, rfl, .same _ _ rfl⟩, ⟨_, rfl, obR (pubFI (by simp) rfl hvl.symm hvl.symm (pureEs_vC _)) rfl⟩, trivial⟩ rfl ⟨.keepP 0 1 0 0 0 rfl, .keepP 1 1 0 0 1 rfl, .keepP 2 1 0 0 2 rfl, .keepP 4 1 0 0 3 rfl, .closed _ rfl, trivial⟩ ?_⟩
    rintro ρ1 ⟨d, rfl⟩
    (conv => whnf); refine ACalls.use (Deletion_spec F.warehouseworld_Deletion s ⟨false, (nx l i 4).1, wrow s l i⟩ hrl hc hcl hk _) ?_
    conv => whnf
    have e : wrec s l i = (⟨true, (nx l i 4).1, delR s.key s.cols (wrow s l i)⟩, (wk s l i).2) := by rw [wrec, if_pos (by rw [hz]; decide)]
    show RecRaw s l i _ _
    unfold RecRaw
    rw [e]
    exact ⟨_, rfl, .inl ⟨rfl, _, rfl⟩⟩
  · have nk := nk0
    rw [show (nx l (wr l s.cols (nx l i 4).2 []).2 24).1 = 5 from hz] at nk
    refine acalls_of_body F.has ?_
    (conv => whnf); refine ⟨_, _, Next_spec F.warehouseworld_Numbers_Next l i 4 hi hl (by decide) _ 0 rfl, ?_⟩
    (conv => whnf); refine ⟨_, _, wRow_spec F.warehouseworld_Row s.cols hc hcl l (nx l i 4).2 (nx_le _ _ _ hi) hl _ 0 rfl, ?_⟩
    (conv => whnf); refine And.intro (rfl) ?_
    (conv => whnf); refine ACalls.mono (nk _ 0 rfl) ?_
    rintro r H' ⟨rfl, rfl⟩
    conv => whnf
    refine ⟨Gp.keep (n := 52) (live := [(1, .ptr 0 1 0 0), (2, .ptr 1 1 0 0), (4, .ptr 2 1 0 0), (5, .ptr 4 1 0 0), (14, .int .i64 (5))]) rfl ⟨rfl, rfl, rfl, rfl, rfl, trivial⟩ ?_⟩
    rintro ρ1 ⟨d, rfl⟩
    conv => whnf
    have e : wrec s l i = (⟨true, (nx l i 4).1, wrow s l i⟩, (wk s l i).2) := by rw [wrec, if_neg (by rw [hz]; decide), if_pos hz]
    show RecRaw s l i _ _
    unfold RecRaw
    rw [e]
    exact ⟨_, rfl, .inr ⟨s.cols.length, wrow s l i, _, _, _, by rw [hvl]; rfl, htk, rfl⟩⟩
  · have nk := nk0
    rw [show (nx l (wr l s.cols (nx l i 4).2 []).2 24).1 = 6 from hz] at nk
    refine acalls_of_body F.has ?_
    (conv => whnf); refine ⟨_, _, Next_spec F.warehouseworld_Numbers_Next l i 4 hi hl (by decide) _ 0 rfl, ?_⟩
    (conv => whnf); refine ⟨_, _, wRow_spec F.warehouseworld_Row s.cols hc hcl l (nx l i 4).2 (nx_le _ _ _ hi) hl _ 0 rfl, ?_⟩
    (conv => whnf); refine And.intro (rfl) ?_
    (conv => whnf); refine ACalls.mono (nk _ 0 rfl) ?_
    rintro r H' ⟨rfl, rfl⟩
    conv => whnf
    refine ⟨Gp.keep (n := 52) (live := [(1, .ptr 0 1 0 0), (2, .ptr 1 1 0 0), (4, .ptr 2 1 0 0), (5, .ptr 4 1 0 0), (14, .int .i64 (6))]) rfl ⟨rfl, rfl, rfl, rfl, rfl, trivial⟩ ?_⟩
    rintro ρ1 ⟨d, rfl⟩
    have ew : IntKind.i64.wrap ((s.cols.length : Int) - 1) = ((s.cols.length - 1 : Nat) : Int) := by rw [wrapI _ (by omega) (by omega)]; omega
    have hb : Nat.beq s.cols.length (vC (wrow s l i)).length = true := by rw [hvl]; exact Nat.beq_refl _
    (conv => whnf); refine recT (hb) ?_
    (conv => whnf); refine recT (hb) ?_
    (conv => whnf); refine And.intro (by rw [ew]; omega) ?_
    conv => whnf
    have e : wrec s l i = (⟨false, (nx l i 4).1, (wrow s l i).take (s.cols.length - 1)⟩, (wk s l i).2) := by rw [wrec, if_neg (by rw [hz]; decide), if_neg (by rw [hz]; decide), if_pos hz]
    show RecRaw s l i _ _
    unfold RecRaw
    rw [e]
    refine ⟨_, rfl, .inr ⟨s.cols.length - 1, wrow s l i, _, _, _, ?_, ?_, rfl⟩⟩
    · show AVal.sl 3 s.cols.length 0 ((IntKind.i64.wrap ((s.cols.length : Int) - 1)).toNat - 0) = _
      rw [ew, hvl, Int.toNat_natCast]; rfl
    · rw [List.drop_zero]; simp [vC, List.map_take]
  · have nk := nk0
    rw [show (nx l (wr l s.cols (nx l i 4).2 []).2 24).1 = 7 from hz] at nk
    refine acalls_of_body F.has ?_
    (conv => whnf); refine ⟨_, _, Next_spec F.warehouseworld_Numbers_Next l i 4 hi hl (by decide) _ 0 rfl, ?_⟩
    (conv => whnf); refine ⟨_, _, wRow_spec F.warehouseworld_Row s.cols hc hcl l (nx l i 4).2 (nx_le _ _ _ hi) hl _ 0 rfl, ?_⟩
    (conv => whnf); refine And.intro (rfl) ?_
    (conv => whnf); refine ACalls.mono (nk _ 0 rfl) ?_
    rintro r H' ⟨rfl, rfl⟩
    conv => whnf
    refine ⟨Gp.keep (n := 52) (live := [(1, .ptr 0 1 0 0), (2, .ptr 1 1 0 0), (4, .ptr 2 1 0 0), (5, .ptr 4 1 0 0), (14, .int .i64 (7))]) rfl ⟨rfl, rfl, rfl, rfl, rfl, trivial⟩ ?_⟩
    rintro ρ1 ⟨d, rfl⟩
    have hb : Nat.beq s.cols.length (vC (wrow s l i)).length = true := by rw [hvl]; exact Nat.beq_refl _
    have hn7 := nx_bnd l (wk s l i).2 s.cols.length (by omega)
    (conv => whnf); refine recT (hb) ?_
    (conv => whnf); refine ⟨_, _, Next_spec F.warehouseworld_Numbers_Next l (wk s l i).2 s.cols.length (wk_le s l i hi) hl (by omega) _ 0 rfl, ?_⟩
    (conv => whnf); refine recT (hb) ?_
    (conv => whnf); refine And.intro (hn7) ?_
    (conv => whnf); refine recT (hb) ?_
    (conv => whnf); refine recO (vC_at (l := wrow s l i) (k := 0 + (nx l (wk s l i).2 s.cols.length).1.toNat) (List.getElem?_eq_getElem (by omega))) ?_
    (conv => whnf); refine And.intro (rfl) ?_
    conv => whnf
    have e : wrec s l i = (⟨false, (nx l i 4).1, (wrow s l i).set (nx l (wk s l i).2 s.cols.length).1.toNat ⟨1, 1, bs []⟩⟩, (nx l (wk s l i).2 s.cols.length).2) := by rw [wrec, if_neg (by rw [hz]; decide), if_neg (by rw [hz]; decide), if_neg (by rw [hz]; decide), if_pos hz]
    show RecRaw s l i _ _
    unfold RecRaw
    rw [e]
    have ht : ∀ X : List (List AVal), X.length = s.cols.length → (X.drop 0).take s.cols.length = X := fun X h => by rw [List.drop_zero, ← h, List.take_length]
    have hsl : (vC ((wrow s l i).set (nx l (wk s l i).2 s.cols.length).1.toNat ⟨1, 1, bs []⟩)).length = s.cols.length := by rw [vC_length, List.length_set, hrl]
    have hset : setEs (vC (wrow s l i)) (0 + (nx l (wk s l i).2 s.cols.length).1.toNat) (valC ⟨1, 1, bs []⟩) = vC ((wrow s l i).set (nx l (wk s l i).2 s.cols.length).1.toNat ⟨1, 1, bs []⟩) := by rw [Nat.zero_add, setEs_vC]
    exact ⟨_, rfl, .inr ⟨s.cols.length, (wrow s l i).set (nx l (wk s l i).2 s.cols.length).1.toNat ⟨1, 1, bs []⟩, _, _, _, by rw [hsl]; rfl, ht _ hsl, (congrArg (fun X => [gO l (nx l (wk s l i).2 s.cols.length).2, _, _, AObj.arr 3 X, _]) hset)⟩⟩
  · have nk := nk0
    rw [show (nx l (wr l s.cols (nx l i 4).2 []).2 24).1 = 8 from hz] at nk
    refine acalls_of_body F.has ?_
    (conv => whnf); refine ⟨_, _, Next_spec F.warehouseworld_Numbers_Next l i 4 hi hl (by decide) _ 0 rfl, ?_⟩
    (conv => whnf); refine ⟨_, _, wRow_spec F.warehouseworld_Row s.cols hc hcl l (nx l i 4).2 (nx_le _ _ _ hi) hl _ 0 rfl, ?_⟩
    (conv => whnf); refine And.intro (rfl) ?_
    (conv => whnf); refine ACalls.mono (nk _ 0 rfl) ?_
    rintro r H' ⟨rfl, rfl⟩
    conv => whnf
    refine ⟨Gp.keep (n := 52) (live := [(1, .ptr 0 1 0 0), (2, .ptr 1 1 0 0), (4, .ptr 2 1 0 0), (5, .ptr 4 1 0 0), (14, .int .i64 (8))]) rfl ⟨rfl, rfl, rfl, rfl, rfl, trivial⟩ ?_⟩
    rintro ρ1 ⟨d, rfl⟩
    conv => whnf
    have e : wrec s l i = (⟨false, -1, wrow s l i⟩, (wk s l i).2) := by rw [wrec, if_neg (by rw [hz]; decide), if_neg (by rw [hz]; decide), if_neg (by rw [hz]; decide), if_neg (by rw [hz]; decide), if_pos hz]
    show RecRaw s l i _ _
    unfold RecRaw
    rw [e]
    exact ⟨_, rfl, .inr ⟨s.cols.length, wrow s l i, _, _, _, by rw [hvl]; rfl, htk, rfl⟩⟩
  · have nk := nk0
    rw [show (nx l (wr l s.cols (nx l i 4).2 []).2 24).1 = (wk s l i).1 from rfl] at nk
    refine acalls_of_body F.has ?_
    (conv => whnf); refine ⟨_, _, Next_spec F.warehouseworld_Numbers_Next l i 4 hi hl (by decide) _ 0 rfl, ?_⟩
    (conv => whnf); refine ⟨_, _, wRow_spec F.warehouseworld_Row s.cols hc hcl l (nx l i 4).2 (nx_le _ _ _ hi) hl _ 0 rfl, ?_⟩
    (conv => whnf); refine And.intro (rfl) ?_
    (conv => whnf); refine ACalls.mono (nk _ 0 rfl) ?_
    rintro r H' ⟨rfl, rfl⟩
    conv => whnf
    refine ⟨Gp.keep (n := 52) (live := [(1, .ptr 0 1 0 0), (2, .ptr 1 1 0 0), (4, .ptr 2 1 0 0), (5, .ptr 4 1 0 0), (14, .int .i64 ((wk s l i).1))]) rfl ⟨rfl, rfl, rfl, rfl, rfl, trivial⟩ ?_⟩
    rintro ρ1 ⟨d, rfl⟩
    have hne : ∀ z : Int, z < 9 → ((wk s l i).1 == z) = false := fun z hz => by simp; omega
    (conv => whnf); refine recF (hne 0 (by decide)) ?_
    (conv => whnf); refine recF (hne 1 (by decide)) ?_
    (conv => whnf); refine recF (hne 2 (by decide)) ?_
    (conv => whnf); refine recF (hne 3 (by decide)) ?_
    (conv => whnf); refine recF (hne 4 (by decide)) ?_
    (conv => whnf); refine recF (hne 5 (by decide)) ?_
    (conv => whnf); refine recF (hne 6 (by decide)) ?_
    (conv => whnf); refine recF (hne 7 (by decide)) ?_
    (conv => whnf); refine recF (hne 8 (by decide)) ?_
    conv => whnf
    have e : wrec s l i = (⟨false, (nx l i 4).1, wrow s l i⟩, (wk s l i).2) := by rw [wrec, if_neg (by omega), if_neg (by omega), if_neg (by omega), if_neg (by omega), if_neg (by omega)]
    show RecRaw s l i _ _
    unfold RecRaw
    rw [e]
    exact ⟨_, rfl, .inr ⟨s.cols.length, wrow s l i, _, _, _, by rw [hvl]; rfl, htk, rfl⟩⟩

theorem Record_spec0 {P : Program} (F : F_warehouseworld_Record P) (s : Src) (hc : s.cols ≠ []) (hcl : s.cols.length ≤ 1000) (hk : s.key.length ≤ 1000) (l : List Int) (i : Nat) (hi : i ≤ l.length) (hl : l.length ≤ 1000000) :
    ACalls P F.id [.agg (srcC s), .ptr 0 1 0 0] [gO l i] (fun r H' => r = .agg (recC (wrec s l i).1) ∧ H' = [gO l (wrec s l i).2]) := by
  refine (Record_raw F s hc hcl hk l i hi hl).gp ?_
  rintro r H' ⟨c, rfl, ⟨rfl, t, rfl⟩ | ⟨m, R, x, y, z, rfl, hR, rfl⟩⟩
  · exact Gp.res [0] (by simp) (keepB_hd rfl) (H1 := [gO l (wrec s l i).2]) ⟨⟨_, rfl, .same _ _ rfl⟩, trivial⟩ (.closed _ (by simp [AVal.closed, AVal.isPure])) ⟨_, rfl, rfl, rfl⟩
  · refine Gp.res [0] (by simp) (keepB_one rfl rfl rfl) (H1 := [gO l (wrec s l i).2]) (r' := .agg (recC (wrec s l i).1)) ⟨⟨_, rfl, .same _ _ rfl⟩, trivial⟩ ?_ ⟨_, rfl, rfl, rfl⟩
    refine .agg _ _ rfl fun i v r h1 h2 => ?_
    rcases i with _ | _ | _ | i
    · cases h1; cases h2; exact .closed _ rfl
    · cases h1; cases h2; exact .closed _ rfl
    · cases h1; cases h2
      have := Pub.frz (H1 := [gO l (wrec s l i).2, x, y, .arr 3 (vC R), z]) (n := 0) (ids := [0]) 3 (vC R).length 0 m 3 (vC R) rfl rfl (pureEs_vC _) (by simp)
      rwa [hR] at this
    · simp at h1

theorem Record_spec {P : Program} (F : F_warehouseworld_Record P) (s : Src) (hc : s.cols ≠ []) (hcl : s.cols.length ≤ 1000) (hk : s.key.length ≤ 1000) (l : List Int) (i : Nat) (hi : i ≤ l.length) (hl : l.length ≤ 1000000) (H : List AObj) (id : Nat) (ho : H[id]? = some (gO l i)) :
    ACalls P F.id [.agg (srcC s), .ptr id 1 0 0] H (fun r H' => r = .agg (recC (wrec s l i).1) ∧ H' = H.set id (gO l (wrec s l i).2)) :=
  (Record_spec0 F s hc hcl hk l i hi hl).fr ho rfl rfl (.cl (by simp [AVal.closed, srcC, srcX, AVal.isPure]) (.pt trivial)) (.closed _ (by simp [AVal.closed, recC, AVal.isPure]))

end Go.AW

namespace Go.AW
attribute [local irreducible] ACalls
def wf (s : Src) (l : List Int) : Nat → Nat → List Rec → List Rec × Nat
  | 0, i, L => (L, i)
  | k + 1, i, L => wf s l k (wrec s l i).2 (L ++ [(wrec s l i).1])

theorem wf_len (s : Src) (l : List Int) : ∀ (k i : Nat) (L : List Rec), (wf s l k i L).1.length = L.length + k
  | 0, _, _ => rfl
  | k + 1, i, L => by rw [wf, wf_len s l k]; simp; omega

def sName : ByteArray := bs [115, 104, 111, 112, 46, 111, 114, 100, 101, 114, 115]

def wfN (l : List Int) : Nat := (nx l 0 7).1.toNat

def wfR (s : Src) (l : List Int) : List Rec × Nat := wf s l (wfN l) (nx l 0 7).2 []

def fileH (s : Src) (id : ByteArray) (l : List Int) (L : List Rec) (j : Nat) (H : List AObj) : Prop :=
  (L = [] ∧ H = [gO l j, .arr 7 [srcC s], .arr 3 [[.str (bs []), .str (bs []), .nil]], .arr 3 [[.str id, .str sName, .nil]]]) ∨
  (L ≠ [] ∧ H = [gO l j, .arr 7 [srcC s], .arr 3 [[.str (bs []), .str (bs []), .nil]], .arr 3 [[.str id, .str sName, .sl 4 L.length 0 L.length]], .arr 3 (rC L)])

set_option maxRecDepth 20000 in
theorem File_raw {P : Program} (F : F_warehouseworld_File P) (id : ByteArray) (s : Src) (hc : s.cols ≠ []) (hcl : s.cols.length ≤ 1000) (hk : s.key.length ≤ 1000) (l : List Int) (hl : l.length ≤ 1000000) :
    ACalls P F.id [.str id, .agg (srcC s), .ptr 0 1 0 0, .int .i64 6] [gO l 0] (fun r H' => ∃ c x y z, r = .agg [.str id, .str sName, c] ∧
      (((wfR s l).1 = [] ∧ c = .nil ∧ H' = [gO l (wfR s l).2, x, y, z]) ∨ ((wfR s l).1 ≠ [] ∧ c = .sl 4 (wfR s l).1.length 0 (wfR s l).1.length ∧ H' = [gO l (wfR s l).2, x, y, z, .arr 3 (rC (wfR s l).1)]))) := by
  have ps : pureEs [srcC s] = true := by simp [pureEs, srcC, srcX, AVal.isPure]
  refine acalls_of_body F.has ?_
  (conv => whnf); refine ACalls.mono (Next_spec F.warehouseworld_Numbers_Next l 0 7 (by omega) hl (by decide) _ 0 rfl) ?_
  rintro r H' ⟨rfl, rfl⟩
  have hb := nx_bnd l 0 7 (by decide)
  have hj := nx_le l 0 7 (by omega)
  conv => whnf
  refine ⟨fun m ρ H1 => ∃ (k j : Nat) (L : List Rec), k = m ∧ j ≤ l.length ∧ L.length + k = wfN l ∧ wf s l k j L = wfR s l ∧ fileH s id l L j H1 ∧
    Sv 32 [(2, .ptr 0 1 0 0), (5, .ptr 1 1 0 0), (8, .ptr 2 1 0 0), (9, .ptr 3 1 0 0), (10, .int .i64 k)] ρ, wfN l, [], ?_, ?_⟩
  · exact ⟨wfN l, _, [], rfl, hj, by simp, rfl, .inl ⟨rfl, rfl⟩, Sv.intro rfl ⟨rfl, rfl, rfl, rfl, intEq (by rw [wfN]; omega), trivial⟩⟩
  have h7 : wfN l ≤ 6 := by rw [wfN]; omega
  rintro m ρ H1 ⟨k, j, L, rfl, hj, hlen, hr, ⟨rfl, rfl⟩ | ⟨hL, rfl⟩, d, rfl⟩
  · (conv => whnf); refine recA (fun hgt => ?_) (fun hgt => ?_)
    · simp at hgt
      obtain ⟨k, rfl⟩ : ∃ k', k = k' + 1 := ⟨k - 1, by omega⟩
      rw [wf] at hr
      (conv => whnf); refine ⟨_, _, Record_spec F.warehouseworld_Record s hc hcl hk l j hj hl _ 0 rfl, ?_⟩
      (conv => whnf); refine And.intro (⟨roomMul (by simp) (by omega), roomB_le (by simp)⟩) ?_
      (conv => whnf); refine And.intro (rfl) ?_
      conv => whnf
      refine ⟨k, by omega, Gp.keep (n := 32) (live := [(2, .ptr 0 1 0 0), (5, .ptr 1 1 0 0), (8, .ptr 2 1 0 0), (9, .ptr 3 1 0 0), (10, .int .i64 k)]) rfl ⟨rfl, rfl, rfl, rfl, intEq (by have := wrapI (((k + 1 : Nat) : Int) - 1) (by omega) (by omega); show IntKind.i64.wrap (((k + 1 : Nat) : Int) - 1) = _; omega), trivial⟩ fun ρ1 h => ⟨k, _, _, rfl, wrec_le s l j hj, by simp; simp at hlen; omega, hr, .inr ⟨by simp, rfl⟩, h⟩⟩
    · simp at hgt
      have hk0 : k = 0 := by omega
      subst hk0
      rw [wf] at hr
      conv => whnf
      rw [← hr]
      exact ⟨_, _, _, _, rfl, .inl ⟨rfl, rfl, rfl⟩⟩
  · have hrl := rC_length L
    (conv => whnf); refine recA (fun hgt => ?_) (fun hgt => ?_)
    · simp at hgt
      obtain ⟨k, rfl⟩ : ∃ k', k = k' + 1 := ⟨k - 1, by omega⟩
      rw [wf] at hr
      (conv => whnf); refine ⟨_, _, Record_spec F.warehouseworld_Record s hc hcl hk l j hj hl _ 0 rfl, ?_⟩
      (conv => whnf); refine recT (by rw [hrl]; exact Nat.beq_refl _) ?_
      (conv => whnf); refine And.intro (⟨roomMul (by simp; omega) (by omega), roomB_le (by simp; omega), rfl, by rw [hrl]⟩) ?_
      (conv => whnf); refine And.intro (rfl) ?_
      conv => whnf
      have hcn : rC L ++ [recC (wrec s l j).1] = rC (L ++ [(wrec s l j).1]) := by rw [rC_append]; rfl
      have hcl2 := (congrArg List.length hcn).trans (rC_length _)
      refine ⟨k, by omega, Gp.keep (n := 32) (live := [(2, .ptr 0 1 0 0), (5, .ptr 1 1 0 0), (8, .ptr 2 1 0 0), (9, .ptr 3 1 0 0), (10, .int .i64 k)]) rfl ⟨rfl, rfl, rfl, rfl, intEq (by have := wrapI (((k + 1 : Nat) : Int) - 1) (by omega) (by omega); show IntKind.i64.wrap (((k + 1 : Nat) : Int) - 1) = _; omega), trivial⟩ fun ρ1 h => ⟨k, _, L ++ [(wrec s l j).1], rfl, wrec_le s l j hj, by simp; omega, hr, .inr ⟨by simp, ?_⟩, h⟩⟩
      rw [← hcl2, ← hcn]
      rfl
    · simp at hgt
      have hk0 : k = 0 := by omega
      subst hk0
      rw [wf] at hr
      conv => whnf
      rw [← hr]
      exact ⟨_, _, _, _, rfl, .inr ⟨hL, rfl, rfl⟩⟩

end Go.AW

namespace Go.AW
attribute [local irreducible] ACalls
theorem File_nil {P : Program} (F : F_warehouseworld_File P) (id : ByteArray) (s : Src) (hc : s.cols ≠ []) (hcl : s.cols.length ≤ 1000) (hk : s.key.length ≤ 1000) (l : List Int) (hl : l.length ≤ 1000000) (hn : (wfR s l).1 = []) (H : List AObj) (g : Nat) (ho : H[g]? = some (gO l 0)) :
    ACalls P F.id [.str id, .agg (srcC s), .ptr g 1 0 0, .int .i64 6] H (fun r H' => r = .agg [.str id, .str sName, .nil] ∧ H' = H.set g (gO l (wfR s l).2)) := by
  refine ACalls.fr (args0 := [.str id, .agg (srcC s), .ptr 0 1 0 0, .int .i64 6]) (o1 := gO l (wfR s l).2) ?_ ho rfl rfl (.cl rfl (.cl (by simp [AVal.closed, srcC, srcX, AVal.isPure]) (.pt (.cl rfl trivial)))) (.closed _ rfl)
  refine (File_raw F id s hc hcl hk l hl).gp ?_
  rintro r H' ⟨c, x, y, z, rfl, ⟨_, rfl, rfl⟩ | ⟨h, _⟩⟩
  · exact Gp.res [0] (by simp) (keepB_hd rfl) (H1 := [gO l (wfR s l).2]) ⟨⟨_, rfl, .same _ _ rfl⟩, trivial⟩ (.closed _ rfl) ⟨_, rfl, rfl, rfl⟩
  · exact absurd hn h

theorem File_some {P : Program} (F : F_warehouseworld_File P) (id : ByteArray) (s : Src) (hc : s.cols ≠ []) (hcl : s.cols.length ≤ 1000) (hk : s.key.length ≤ 1000) (l : List Int) (hl : l.length ≤ 1000000) (hn : (wfR s l).1 ≠ []) (H : List AObj) (g : Nat) (ho : H[g]? = some (gO l 0)) :
    ACalls P F.id [.str id, .agg (srcC s), .ptr g 1 0 0, .int .i64 6] H (fun r H' => r = .agg [.str id, .str sName, .sl H.length (wfR s l).1.length 0 (wfR s l).1.length] ∧ H' = H.set g (gO l (wfR s l).2) ++ [.arr 3 (rC (wfR s l).1)]) := by
  refine ACalls.frG (args0 := [.str id, .agg (srcC s), .ptr 0 1 0 0, .int .i64 6]) (o1 := gO l (wfR s l).2) (G := [.arr 3 (rC (wfR s l).1)]) (R := .agg [.str id, .str sName, .sl 1 (wfR s l).1.length 0 (wfR s l).1.length]) ?_ ho rfl rfl ?_ (.cl rfl (.cl (by simp [AVal.closed, srcC, srcX, AVal.isPure]) (.pt (.cl rfl trivial)))) ?_
  · refine (File_raw F id s hc hcl hk l hl).gp ?_
    rintro r H' ⟨c, x, y, z, rfl, ⟨h, _⟩ | ⟨_, rfl, rfl⟩⟩
    · exact absurd h hn
    · refine Gp.res [0, 4] (by simp) (keepB_one rfl rfl rfl) (H1 := [gO l (wfR s l).2, .arr 3 (rC (wfR s l).1)]) (r' := .agg [.str id, .str sName, .sl 1 (wfR s l).1.length 0 (wfR s l).1.length]) ⟨⟨_, rfl, .same _ _ rfl⟩, ⟨_, rfl, .same _ _ (pureEs_rC _)⟩, trivial⟩ ?_ ⟨_, rfl, rfl, rfl⟩
      refine .agg _ _ rfl fun i v r h1 h2 => ?_
      rcases i with _ | _ | _ | i
      · cases h1; cases h2; exact .closed _ rfl
      · cases h1; cases h2; exact .closed _ rfl
      · cases h1; cases h2; exact .keep 4 _ _ _ 1 rfl
      · simp at h1
  · intro x hx
    rw [List.mem_singleton.1 hx]
    exact pureEs_rC _
  · refine .agg _ _ rfl fun i v r h1 h2 => ?_
    rcases i with _ | _ | _ | i
    · cases h1; cases h2; exact .closed _ rfl
    · cases h1; cases h2; exact .closed _ rfl
    · cases h1; cases h2; exact .sl 1 _ _ _
    · simp at h1

def fixR (r : Rec) : Rec := if r.seq < 0 then ⟨r.del, 1073741824, r.row⟩ else r

def fixK : Nat → List Rec → List Rec
  | 0, L => L
  | _ + 1, [] => []
  | k + 1, r :: L => fixR r :: fixK k L

theorem fixK_len : ∀ (k : Nat) (L : List Rec), (fixK k L).length = L.length
  | 0, _ => rfl
  | _ + 1, [] => rfl
  | k + 1, r :: L => by rw [fixK, List.length_cons, fixK_len k L]; rfl

theorem fixK_get : ∀ (k : Nat) (L : List Rec), (fixK k L)[k]? = L[k]?
  | 0, _ => rfl
  | _ + 1, [] => rfl
  | k + 1, r :: L => by simp [fixK, fixK_get k L]

theorem fixK_set : ∀ (k : Nat) (L : List Rec) (r : Rec), L[k]? = some r → fixK (k + 1) L = (fixK k L).set k (fixR r)
  | 0, [], _, h => by simp at h
  | 0, x :: L, r, h => by simp at h; subst h; rfl
  | k + 1, [], _, h => by simp at h
  | k + 1, x :: L, r, h => by
    have := fixK_set k L r (by simpa using h)
    rw [fixK, this, fixK]; rfl

theorem fixK_all : ∀ (L : List Rec), fixK L.length L = L.map fixR
  | [] => rfl
  | r :: L => by rw [List.length_cons, fixK, fixK_all L]; rfl

theorem setEs_rC (l : List Rec) (k : Nat) (r : Rec) : setEs (rC l) k (recC r) = rC (l.set k r) := by rw [setEs_eq]; simp [rC]

theorem set_same {α : Type} : ∀ (l : List α) (k : Nat) (x : α), l[k]? = some x → l.set k x = l
  | [], _, _, h => by simp at h
  | y :: l, 0, x, h => by simp at h; subst h; rfl
  | y :: l, k + 1, x, h => by rw [List.set_cons_succ, set_same l k x (by simpa using h)]

def fileV (l : List Int) (n : Int) : Fil := ⟨wname n, sName, (wfR (wsrc n) l).1.map fixR⟩

set_option maxRecDepth 20000 in
theorem file24_raw {P : Program} (F : F_warehouselaw24_file P) (l : List Int) (n : Int) (hl : l.length ≤ 1000000) (H : List AObj) :
    ACalls P F.id [.list false 1 (iC l), .int .i64 n] H (fun r H' => r = .agg [.str (wname n), .str sName, if (wfR (wsrc n) l).1 = [] then .nil else .list false 3 (rC ((wfR (wsrc n) l).1.map fixR))] ∧ H' = H) := by
  have hc : (wsrc n).cols ≠ [] := by
    rw [wsrc]
    show (if wpart n then _ else _) ≠ []
    split <;> simp [wcols]
  have hcl : (wsrc n).cols.length ≤ 1000 := by
    rw [wsrc]
    show (if wpart n then _ else _ : List Col).length ≤ 1000
    split <;> simp [wcols]
  have hk : (wsrc n).key.length ≤ 1000 := by
    rw [wsrc]
    show (if wpart n then _ else _ : List ByteArray).length ≤ 1000
    split <;> simp
  refine ACalls.pure rfl (acalls_of_body F.has ?_)
  (conv => whnf); refine ACalls.use (wName_spec F.warehouseworld_Name n _) ?_
  (conv => whnf); refine ACalls.use (Source_spec F.warehouseworld_Source n _) ?_
  by_cases hn : (wfR (wsrc n) l).1 = []
  · (conv => whnf); refine ACalls.mono (File_nil F.warehouseworld_File (wname n) (wsrc n) hc hcl hk l hl hn _ 1 rfl) ?_
    rintro r H' ⟨rfl, rfl⟩
    conv => whnf
    refine ⟨fun m ρ H1 => H1 = [.arr 3 [[.str (bs []), .str (bs []), .nil]], gO l (wfR (wsrc n) l).2, .arr 3 [[.str (wname n), .str sName, .nil]]] ∧ Sv 37 [(4, .ptr 0 1 0 0), (6, .ptr 2 1 0 0), (7, .int .i64 0)] ρ, 0, [], ?_, ?_⟩
    · exact ⟨rfl, Sv.intro rfl ⟨rfl, rfl, rfl, trivial⟩⟩
    rintro m ρ H1 ⟨rfl, d, rfl⟩
    conv => whnf
    rw [if_pos hn]
    exact .closed _ rfl
  · (conv => whnf); refine ACalls.mono (File_some F.warehouseworld_File (wname n) (wsrc n) hc hcl hk l hl hn _ 1 rfl) ?_
    rintro r H' ⟨rfl, rfl⟩
    obtain ⟨L, hL⟩ : ∃ L, (wfR (wsrc n) l).1 = L := ⟨_, rfl⟩
    have hL6 : L.length ≤ 6 := by
      have h6 := nx_bnd l 0 7 (by decide)
      rw [← hL, wfR, wf_len, wfN]
      simp; omega
    rw [hL] at hn
    rw [hL, if_neg hn]
    conv => whnf
    refine ⟨fun m ρ H1 => ∃ k : Nat, k + m = L.length ∧ H1 = [.arr 3 [[.str (bs []), .str (bs []), .nil]], gO l (wfR (wsrc n) l).2, .arr 3 (rC (fixK k L)), .arr 3 [[.str (wname n), .str sName, .sl 2 L.length 0 L.length]]] ∧ Sv 37 [(4, .ptr 0 1 0 0), (6, .ptr 3 1 0 0), (7, .int .i64 k)] ρ, L.length, [], ?_, ?_⟩
    · exact ⟨0, by omega, rfl, Sv.intro rfl ⟨rfl, rfl, rfl, trivial⟩⟩
    rintro m ρ H1 ⟨k, hkm, rfl, d, rfl⟩
    have hfl : (rC (fixK k L)).length = L.length := by rw [rC_length, fixK_len]
    have hb : Nat.beq L.length (rC (fixK k L)).length = true := by rw [hfl]; exact Nat.beq_refl _
    (conv => whnf); refine recT (hb) ?_
    (conv => whnf); refine recA (fun hlt => ?_) (fun hlt => ?_)
    · simp at hlt
      have hx : L[k]? = some L[k] := List.getElem?_eq_getElem hlt
      have hidx : (rC (fixK k L))[0 + (k : Int).toNat]? = some (recC L[k]) := by rw [Nat.zero_add, Int.toNat_natCast]; exact rC_at ((fixK_get k L).trans hx)
      (conv => whnf); refine recT (hb) ?_
      (conv => whnf); refine And.intro (by omega) ?_
      (conv => whnf); refine recT (hb) ?_
      (conv => whnf); refine recO (hidx) ?_
      (conv => whnf); refine recA (fun hneg => ?_) (fun hneg => ?_)
      · simp at hneg
        (conv => whnf); refine recT (hb) ?_
        (conv => whnf); refine And.intro (by omega) ?_
        (conv => whnf); refine recT (hb) ?_
        (conv => whnf); refine recO (hidx) ?_
        conv => whnf
        refine ⟨m - 1, by omega, Gp.keep (n := 37) (live := [(4, .ptr 0 1 0 0), (6, .ptr 3 1 0 0), (7, .int .i64 (k + 1 : Nat))]) rfl ⟨rfl, rfl, intEq (wrapI _ (by omega) (by omega)), trivial⟩ fun ρ1 h => ⟨k + 1, by omega, ?_, h⟩⟩
        rw [fixK_set k L _ hx, ← setEs_rC, fixR, if_pos hneg]
        show [AObj.arr 3 [[.str (bs []), .str (bs []), .nil]], gO l (wfR (wsrc n) l).2, .arr 3 (setEs (rC (fixK k L)) (0 + (k : Int).toNat) (recC ⟨L[k].del, 1073741824, L[k].row⟩)), .arr 3 [[.str (wname n), .str sName, .sl 2 L.length 0 L.length]]] = _
        rw [Nat.zero_add, Int.toNat_natCast]
      · simp at hneg
        conv => whnf
        refine ⟨m - 1, by omega, Gp.keep (n := 37) (live := [(4, .ptr 0 1 0 0), (6, .ptr 3 1 0 0), (7, .int .i64 (k + 1 : Nat))]) rfl ⟨rfl, rfl, intEq (wrapI _ (by omega) (by omega)), trivial⟩ fun ρ1 h => ⟨k + 1, by omega, ?_, h⟩⟩
        have : fixK (k + 1) L = fixK k L := by
          rw [fixK_set k L _ hx, fixR, if_neg (by omega)]
          exact set_same _ _ _ ((fixK_get k L).trans hx)
        rw [this]
    · simp at hlt
      have hkl : k = L.length := by omega
      subst hkl
      conv => whnf
      rw [← fixK_all]
      refine .agg _ _ rfl fun i v r h1 h2 => ?_
      rcases i with _ | _ | _ | i
      · cases h1; cases h2; exact .closed _ rfl
      · cases h1; cases h2; exact .closed _ rfl
      · cases h1; cases h2; exact pubFI (by simp) rfl hfl.symm hfl.symm (pureEs_rC _)
      · simp at h1

theorem file24_spec {P : Program} (F : F_warehouselaw24_file P) (l : List Int) (n : Int) (hl : l.length ≤ 1000000) (H : List AObj) :
    ACalls P F.id [.list false 1 (iC l), .int .i64 n] H (fun r H' => r = .agg (fV (fileV l n)) ∧ H' = H) :=
  ACalls.weakR (file24_raw F l n hl H) (by
    rintro r H' ⟨rfl, rfl⟩
    refine ⟨.agg (fV (fileV l n)), .agg _ _ rfl fun i a b h1 h2 => ?_, rfl, rfl⟩
    rcases i with _ | _ | _ | i
    · cases h1; cases h2; exact .refl _
    · cases h1; cases h2; exact .refl _
    · by_cases hn : (wfR (wsrc n) l).1 = []
      · rw [if_pos hn] at h1
        cases h1; cases h2
        rw [fileV, hn]
        exact .nil _ _
      · rw [if_neg hn] at h1
        cases h1; cases h2; exact .refl _
    · simp at h1)

end Go.AW

namespace Go.AW
attribute [local irreducible] ACalls
theorem wname_size (n : Int) : (wname n).size ≤ 2 := by
  have h1 := Int.emod_nonneg n (show (12 : Int) ≠ 0 by decide)
  have h2 := Int.emod_lt_of_pos n (show (0 : Int) < 12 by decide)
  have : ∀ k, k < 12 → (wnames.getD k (bs [])).size ≤ 2 := by decide
  exact this _ (by omega)

end Go.AW

namespace Go.AW
attribute [local irreducible] ACalls
noncomputable def eqD {α : Type} (a b : α) : Bool := @decide (a = b) (Classical.propDecidable _)

theorem eqD_true {α : Type} {a b : α} (h : a = b) : eqD a b = true := by simp [eqD, h]

theorem eqD_false {α : Type} {a b : α} (h : a ≠ b) : eqD a b = false := by simp [eqD, h]

theorem strEq_iff {s t : ByteArray} : (s.data.toList == t.data.toList) = true ↔ s = t := by
  rw [beq_iff_eq]
  constructor
  · intro h
    cases s; cases t
    simp only at h
    rw [Array.toList_inj] at h
    rw [h]
  · rintro rfl; rfl

theorem vEq_iff {x y : V} : (x.kind == y.kind && (x.num == y.num && (x.str.data.toList == y.str.data.toList && true))) = true ↔ x = y := by
  rw [Bool.and_eq_true, Bool.and_eq_true, Bool.and_true, strEq_iff, beq_iff_eq, beq_iff_eq]
  constructor
  · rintro ⟨h1, h2, h3⟩
    cases x; cases y
    simp only at h1 h2 h3
    rw [h1, h2, h3]
  · rintro rfl; exact ⟨rfl, rfl, rfl⟩

theorem take_more {α : Type} {a b : List α} {k : Nat} {x y : α} (ht : a.take k = b.take k) (hx : a[k]? = some x) (hy : b[k]? = some y) (h : x = y) : a.take (k + 1) = b.take (k + 1) := by
  rw [List.take_add_one, List.take_add_one, hx, hy, ht, h]

theorem get_ne {α : Type} {a b : List α} {k : Nat} {x y : α} (hx : a[k]? = some x) (hy : b[k]? = some y) (h : x ≠ y) : a ≠ b := fun e => by
  rw [e, hy] at hx
  cases hx
  exact h rfl

set_option maxRecDepth 20000 in
theorem ref22_SameRow_spec {P : Program} (F : F_warehouseref22_SameRow P) (e1 e2 : Bool) (a b : List V) (ha : a.length ≤ 1000000) (H : List AObj) :
    ACalls P F.id [.list e1 3 (vC a), .list e2 3 (vC b)] H (fun r H' => r = .bool (eqD a b) ∧ H' = H) := by
  refine ACalls.pure (by simp [AVal.closed, AVal.isPure]) (acalls_of_body F.has ?_)
  (conv => whnf); refine recA (fun hn => ?_) (fun hn => ?_)
  · simp [vC_length] at hn
    conv => whnf
    exact pubB (eqD_false (fun e => hn (by rw [e]))).symm
  simp [vC_length] at hn
  conv => whnf
  refine ⟨fun m ρ H => ∃ k : Nat, k + m = a.length ∧ a.take k = b.take k ∧ H = [] ∧ Sv 26 [(0, .list e1 3 (vC a)), (1, .list e2 3 (vC b)), (5, .int .i64 k)] ρ, a.length, [], ?_, ?_⟩
  · exact ⟨0, by omega, rfl, rfl, Sv.intro rfl ⟨rfl, rfl, rfl, trivial⟩⟩
  rintro m ρ H ⟨k, hk, ht, rfl, d, rfl⟩
  (conv => whnf); refine recA (fun hlt => ?_) (fun hlt => ?_)
  · simp [vC_length] at hlt
    have hx : a[k]? = some a[k] := List.getElem?_eq_getElem hlt
    have hy : b[k]? = some (b[k]'(by omega)) := List.getElem?_eq_getElem (by omega)
    (conv => whnf); refine And.intro (by omega) ?_
    (conv => whnf); refine recO (vC_at hx) ?_
    (conv => whnf); refine And.intro (by omega) ?_
    (conv => whnf); refine recO (vC_at hy) ?_
    (conv => whnf); refine recA (fun hne => ?_) (fun hne => ?_)
    · have hv : a[k] ≠ b[k]'(by omega) := fun e => by rw [vEq_iff.2 e] at hne; cases hne
      conv => whnf
      exact pubB (eqD_false (get_ne hx hy hv)).symm
    · have hv : a[k] = b[k]'(by omega) := vEq_iff.1 (by rw [Bool.not_eq_false'] at hne; exact hne)
      conv => whnf
      refine ⟨m - 1, by omega, Gp.keep rfl ?_ fun ρ1 h => ⟨k + 1, by omega, take_more ht hx hy hv, rfl, h⟩⟩
      exact ⟨rfl, rfl, intEq (wrapI ((k : Int) + 1) (by omega) (by omega)), trivial⟩
  · simp [vC_length] at hlt
    have : a = b := by
      rw [List.take_of_length_le (by omega), List.take_of_length_le (by omega)] at ht
      exact ht
    conv => whnf
    exact pubB (eqD_true this).symm

theorem SameRecord_spec {P : Program} (F : F_warehouseref24_SameRecord P) (r s : Rec) (ha : r.row.length ≤ 1000000) (H : List AObj) :
    ACalls P F.id [.agg (recC r), .agg (recC s)] H (fun q H' => q = .bool (eqD r s) ∧ H' = H) := by
  refine ACalls.pure (by simp [AVal.closed, recC, AVal.isPure]) (acalls_of_body F.has ?_)
  (conv => whnf); refine recA (fun h1 => ?_) (fun h1 => ?_)
  · replace h1 : (r.del == s.del) = true := h1
    (conv => whnf); refine recA (fun h2 => ?_) (fun h2 => ?_)
    · replace h2 : (r.seq == s.seq) = true := h2
      (conv => whnf); refine ACalls.use (ref22_SameRow_spec F.warehouseref22_SameRow false false r.row s.row ha _) ?_
      conv => whnf
      refine pubB ?_
      by_cases hr : r.row = s.row
      · rw [eqD_true hr, eqD_true]
        rw [beq_iff_eq] at h1 h2
        cases r; cases s
        simp only at h1 h2 hr
        rw [h1, h2, hr]
      · rw [eqD_false hr, eqD_false (fun e => hr (by rw [e]))]
    · replace h2 : (r.seq == s.seq) = false := h2
      conv => whnf
      exact pubB (eqD_false (fun e => by rw [e, beq_self_eq_true] at h2; cases h2)).symm
  · replace h1 : (r.del == s.del) = false := h1
    conv => whnf
    exact pubB (eqD_false (fun e => by rw [e, beq_self_eq_true] at h1; cases h1)).symm

set_option maxRecDepth 20000 in
theorem SameFile_spec {P : Program} (F : F_warehouseref24_SameFile P) (f g : Fil) (ha : f.recs.length ≤ 1000000) (hr : ∀ r ∈ f.recs, r.row.length ≤ 1000000) (H : List AObj) :
    ACalls P F.id [.agg (fV f), .agg (fV g)] H (fun q H' => q = .bool (eqD f g) ∧ H' = H) := by
  refine ACalls.pure (by simp [AVal.closed, fV, AVal.isPure]) (acalls_of_body F.has ?_)
  (conv => whnf); refine recA (fun h1 => ?_) (fun h1 => ?_)
  · replace h1 : (!(f.id.data.toList == g.id.data.toList)) = true := h1
    conv => whnf
    exact pubB (eqD_false (fun e => by rw [e, beq_self_eq_true] at h1; cases h1)).symm
  replace h1 : (!(f.id.data.toList == g.id.data.toList)) = false := h1
  rw [Bool.not_eq_false', strEq_iff] at h1
  (conv => whnf); refine recA (fun h2 => ?_) (fun h2 => ?_)
  · replace h2 : (!(f.src.data.toList == g.src.data.toList)) = true := h2
    conv => whnf
    exact pubB (eqD_false (fun e => by rw [e, beq_self_eq_true] at h2; cases h2)).symm
  replace h2 : (!(f.src.data.toList == g.src.data.toList)) = false := h2
  rw [Bool.not_eq_false', strEq_iff] at h2
  (conv => whnf); refine recA (fun h3 => ?_) (fun h3 => ?_)
  · simp [rC_length] at h3
    conv => whnf
    exact pubB (eqD_false (fun e => h3 (by rw [e]))).symm
  simp [rC_length] at h3
  conv => whnf
  refine ⟨fun m ρ H => ∃ k : Nat, k + m = f.recs.length ∧ f.recs.take k = g.recs.take k ∧ H = [.arr 3 [fV f], .arr 3 [fV g]] ∧ Sv 46 [(2, .ptr 0 1 0 0), (3, .ptr 1 1 0 0), (5, .int .i64 k)] ρ, f.recs.length, [], ?_, ?_⟩
  · exact ⟨0, by omega, rfl, rfl, Sv.intro rfl ⟨rfl, rfl, rfl, trivial⟩⟩
  rintro m ρ H ⟨k, hk, ht, rfl, d, rfl⟩
  (conv => whnf); refine recA (fun hlt => ?_) (fun hlt => ?_)
  · simp [rC_length] at hlt
    have hx : f.recs[k]? = some f.recs[k] := List.getElem?_eq_getElem hlt
    have hy : g.recs[k]? = some (g.recs[k]'(by omega)) := List.getElem?_eq_getElem (by omega)
    (conv => whnf); refine And.intro (by omega) ?_
    (conv => whnf); refine recO (rC_at hx) ?_
    (conv => whnf); refine And.intro (by omega) ?_
    (conv => whnf); refine recO (rC_at hy) ?_
    (conv => whnf); refine ⟨_, SameRecord_spec F.warehouseref24_SameRecord f.recs[k] (g.recs[k]'(by omega)) (hr _ (List.getElem_mem hlt)) _, ?_⟩
    (conv => whnf); refine recA (fun hne => ?_) (fun hne => ?_)
    · replace hne : (!(eqD f.recs[k] (g.recs[k]'(by omega)))) = true := hne
      have hv : f.recs[k] ≠ g.recs[k]'(by omega) := fun e => by rw [eqD_true e] at hne; cases hne
      conv => whnf
      exact pubB (eqD_false (fun e => get_ne hx hy hv (by rw [e]))).symm
    · replace hne : (!(eqD f.recs[k] (g.recs[k]'(by omega)))) = false := hne
      have hv : f.recs[k] = g.recs[k]'(by omega) := Classical.byContradiction fun hn => by rw [eqD_false hn] at hne; cases hne
      conv => whnf
      refine ⟨m - 1, by omega, Gp.keep rfl ?_ fun ρ1 h => ⟨k + 1, by omega, take_more ht hx hy hv, rfl, h⟩⟩
      exact ⟨rfl, rfl, intEq (wrapI ((k : Int) + 1) (by omega) (by omega)), trivial⟩
  · simp [rC_length] at hlt
    have : f.recs = g.recs := by
      rw [List.take_of_length_le (by omega), List.take_of_length_le (by omega)] at ht
      exact ht
    conv => whnf
    refine pubB (eqD_true ?_).symm
    cases f; cases g
    simp only at h1 h2 this
    rw [h1, h2, this]

end Go.AW

