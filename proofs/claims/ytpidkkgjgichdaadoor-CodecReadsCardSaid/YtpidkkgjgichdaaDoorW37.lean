/-
  The walks and the laws that the statement leans on, part 37.
-/
import Derived.Test.YtpidkkgjgichdaaDoorW36
namespace Go.Proofs.YtpidkkgjgichdaaDoor
open Go Wi
set_option linter.unusedVariables false
set_option linter.unusedSimpArgs false
theorem rdQ_sz {k m : Int} {zs r : List Int} {q : Gt} (hm : m ≤ 1000) (h : rdQ k m zs = some (q, r)) : q.S.size ≤ 1000 := by
  unfold rdQ at h
  split at h
  · cases e : fF zs with
    | none => rw [e] at h; cases h
    | some p => rw [e] at h; cases h; exact Nat.zero_le _
  · split at h
    · cases e : iF zs with
      | none => rw [e] at h; cases h
      | some p => rw [e] at h; cases h; exact Nat.zero_le _
    · split at h
      · cases e : nF zs with
        | none => rw [e] at h; cases h
        | some p => rw [e] at h; cases h; exact Nat.zero_le _
      · split at h
        · cases e : cF m zs with
          | none => rw [e] at h; cases h
          | some p => rw [e] at h; cases h; exact Nat.zero_le _
        · cases e : tF m zs with
          | none => rw [e] at h; cases h
          | some p =>
            obtain ⟨l, r'⟩ := p
            rw [e] at h
            cases h
            have := tF_len e
            rw [bstr_size]
            show l.length ≤ 1000
            omega
theorem gc_sz : ∀ (K : List (Int × Int)) (C : List Gt) (zs : List Int) (l : List Gt) (r : List Int), (∀ p ∈ K, p.2 ≤ 1000) → (∀ q ∈ C, q.S.size ≤ 1000) → gc K C zs = some (l, r) → ∀ q ∈ l, q.S.size ≤ 1000
  | [], C, zs, l, r, _, hC, h => by
    simp only [gc, Option.some.injEq, Prod.mk.injEq] at h
    obtain ⟨rfl, -⟩ := h
    exact hC
  | p :: K, C, zs, l, r, hK, hC, h => by
    rw [gc] at h
    cases e : rdQ p.1 p.2 zs with
    | none => rw [e] at h; cases h
    | some x =>
      obtain ⟨q, r'⟩ := x
      rw [e] at h
      refine gc_sz K (C ++ [q]) r' l r (fun y hy => hK y (List.mem_cons_of_mem _ hy)) (fun y hy => ?_) h
      rcases List.mem_append.1 hy with hy | hy
      · exact hC y hy
      · rw [List.mem_singleton.1 hy]; exact rdQ_sz (hK p (List.mem_cons_self ..)) e
def kgX (zs : List Int) : Option (Ky × List Int) :=
  match tF 96 zs with
  | none => none
  | some (g, z1) => match tF 96 z1 with
    | none => none
    | some (r, z2) => match fF z2 with
      | none => none
      | some (p, z3) => match nF z3 with
        | none => none
        | some (e, z4) => match fF z4 with
          | none => none
          | some (s, z5) => some (⟨bstr g, bstr r, p, (e : Nat), s⟩, z5)
def sgX (zs : List Int) : Option (Sl × List Int) :=
  match tF 160 zs with
  | none => none
  | some (g, z1) => match tF 160 z1 with
    | none => none
    | some (r, z2) => match iF z2 with
      | none => none
      | some (w, z3) => match iF z3 with
        | none => none
        | some (f, z4) => match iF z4 with
          | none => none
          | some (t, z5) => some (⟨bstr g, bstr r, w, f, t⟩, z5)
theorem rdQ_t (m : Int) (zs : List Int) : rdQ 2 m zs = (tF m zs).map fun p => (⟨0, 0, bstr p.1, false⟩, p.2) := rfl
theorem rdQ_f (m : Int) (zs : List Int) : rdQ 3 m zs = (fF zs).map fun p => (⟨0, 0, ⟨#[]⟩, p.1⟩, p.2) := rfl
theorem rdQ_i (m : Int) (zs : List Int) : rdQ 1 m zs = (iF zs).map fun p => (⟨0, p.1, ⟨#[]⟩, false⟩, p.2) := rfl
theorem rdQ_n (m : Int) (zs : List Int) : rdQ 0 m zs = (nF zs).map fun p => (⟨(p.1 : Nat), 0, ⟨#[]⟩, false⟩, p.2) := rfl
theorem rkA_X (zl : Nat) (zs : List Int) : rkA zl (gc rkK [] zs) = (match kgX zs with
    | none => .tup [kv k0, iv .i64 0, bv false]
    | some (k, r) => .tup [kv k, iv .i64 ((zl - r.length : Nat) : Int), bv (krB k)]) := by
  unfold kgX
  simp only [rkK, gc, rdQ_t, rdQ_f, rdQ_n]
  cases e1 : tF 96 zs with
  | none => rfl
  | some p =>
    obtain ⟨g, z1⟩ := p
    simp only [Option.map_some]
    cases e2 : tF 96 z1 with
    | none => rfl
    | some p =>
      obtain ⟨r, z2⟩ := p
      simp only [Option.map_some]
      cases e3 : fF z2 with
      | none => rfl
      | some p =>
        obtain ⟨p, z3⟩ := p
        simp only [Option.map_some]
        cases e4 : nF z3 with
        | none => rfl
        | some p =>
          obtain ⟨e, z4⟩ := p
          simp only [Option.map_some]
          cases e5 : fF z4 with
          | none => rfl
          | some p => rfl
theorem rsA_X (zl : Nat) (zs : List Int) : rsA zl (gc rsK [] zs) = (match sgX zs with
    | none => .tup [siv s0, iv .i64 0, bv false]
    | some (k, r) => .tup [siv k, iv .i64 ((zl - r.length : Nat) : Int), bv (srB k)]) := by
  unfold sgX
  simp only [rsK, gc, rdQ_t, rdQ_i]
  cases e1 : tF 160 zs with
  | none => rfl
  | some p =>
    obtain ⟨g, z1⟩ := p
    simp only [Option.map_some]
    cases e2 : tF 160 z1 with
    | none => rfl
    | some p =>
      obtain ⟨r, z2⟩ := p
      simp only [Option.map_some]
      cases e3 : iF z2 with
      | none => rfl
      | some p =>
        obtain ⟨p, z3⟩ := p
        simp only [Option.map_some]
        cases e4 : iF z3 with
        | none => rfl
        | some p =>
          obtain ⟨e, z4⟩ := p
          simp only [Option.map_some]
          cases e5 : iF z4 with
          | none => rfl
          | some p => rfl
theorem kgX_sf : SufF kgX := fun zs k r hb h => by
  unfold kgX at h
  split at h
  · cases h
  rename_i g z1 e1
  split at h
  · cases h
  rename_i rr z2 e2
  split at h
  · cases h
  rename_i p z3 e3
  split at h
  · cases h
  rename_i e z4 e4
  split at h
  · cases h
  rename_i s z5 e5
  cases h
  obtain ⟨k1, rfl⟩ := tF_sf 96 zs _ _ hb e1
  obtain ⟨k2, rfl⟩ := tF_sf 96 _ _ _ (hb.drop _) e2
  obtain ⟨k3, rfl⟩ := fF_sf _ _ _ ((hb.drop _).drop _) e3
  obtain ⟨k4, rfl⟩ := nF_sf _ _ _ (((hb.drop _).drop _).drop _) e4
  obtain ⟨k5, rfl⟩ := fF_sf _ _ _ ((((hb.drop _).drop _).drop _).drop _) e5
  exact ⟨k1 + k2 + k3 + k4 + k5, by simp only [List.drop_drop]⟩
theorem sgX_sf : SufF sgX := fun zs k r hb h => by
  unfold sgX at h
  split at h
  · cases h
  rename_i g z1 e1
  split at h
  · cases h
  rename_i rr z2 e2
  split at h
  · cases h
  rename_i p z3 e3
  split at h
  · cases h
  rename_i e z4 e4
  split at h
  · cases h
  rename_i s z5 e5
  cases h
  obtain ⟨k1, rfl⟩ := tF_sf 160 zs _ _ hb e1
  obtain ⟨k2, rfl⟩ := tF_sf 160 _ _ _ (hb.drop _) e2
  obtain ⟨k3, rfl⟩ := iF_sf _ _ _ ((hb.drop _).drop _) e3
  obtain ⟨k4, rfl⟩ := iF_sf _ _ _ (((hb.drop _).drop _).drop _) e4
  obtain ⟨k5, rfl⟩ := iF_sf _ _ _ ((((hb.drop _).drop _).drop _).drop _) e5
  exact ⟨k1 + k2 + k3 + k4 + k5, by simp only [List.drop_drop]⟩
noncomputable def rrK (n : Nat) (r : List Int) : Oq × Bool :=
  if n = 1 ∨ n = 6 ∨ n = 7 then (match tF 40000 r with
    | none => (o0, false)
    | some (l, z) => (⟨n, bstr l, 0, 0, 0, k0, s0⟩, decide (z = [])))
  else if n = 2 then (match tF 40000 r with
    | none => (o0, false)
    | some (l, z1) => match iF z1 with
      | none => (o0, false)
      | some (i, z2) => match nF z2 with
        | none => (o0, false)
        | some (g, z3) => match nF z3 with
          | none => (o0, false)
          | some (t, z) => (⟨2, bstr l, i, (g : Nat), (t : Nat), k0, s0⟩, decide (z = [])))
  else if n = 3 then (match iF r with
    | none => (o0, false)
    | some (i, z) => (⟨3, ⟨#[]⟩, i, 0, 0, k0, s0⟩, decide (z = [])))
  else if n = 4 then (match kgX r with
    | none => (o0, false)
    | some (k, z) => if krB k = true then (⟨4, ⟨#[]⟩, 0, 0, 0, k, s0⟩, decide (z = [])) else (o0, false))
  else if n = 5 then (match sgX r with
    | none => (o0, false)
    | some (s, z) => if srB s = true then (⟨5, ⟨#[]⟩, 0, 0, 0, k0, s⟩, decide (z = [])) else (o0, false))
  else (⟨n, ⟨#[]⟩, 0, 0, 0, k0, s0⟩, decide (r = []))
noncomputable def rrS (Z : List Int) : Oq × Bool :=
  match nF Z with
  | none => (o0, false)
  | some (n, r) => if n < 1 ∨ 9 < n then (o0, false) else rrK n r
theorem get_bad {Z : List Int} {A : Nat} {k m : Int} {r : List Int} (hA : A ≤ Z.length) (hb : Wi.By Z) (hz : Z.length ≤ 6000) (h1 : -9223372036854775808 ≤ m) (h2 : m ≤ 9223372036854775807) (hr : Z.drop A = r) (h : rdQ k m r = none) : GetBad Z A k m := by
  have c := refGet_ct Z A k m hA hb hz h1 h2
  rw [rdF_rdQ, hr, h] at c
  exact c
theorem get_good {Z : List Int} {A : Nat} {k m : Int} {r z : List Int} {q : Gt} (hA : A ≤ Z.length) (hb : Wi.By Z) (hz : Z.length ≤ 6000) (h1 : -9223372036854775808 ≤ m) (h2 : m ≤ 9223372036854775807) (hr : Z.drop A = r) (h : rdQ k m r = some (q, z)) :
    GetGood Z A k m q ((Z.length - z.length : Nat) : Int) ∧ Z.drop (Z.length - z.length) = z ∧ Z.length - z.length ≤ Z.length := by
  have c := refGet_ct Z A k m hA hb hz h1 h2
  rw [rdF_rdQ, hr, h] at c
  obtain ⟨j, hj⟩ := rdQ_sf k m r q z (hr ▸ hb.drop A) h
  rw [← hr] at hj
  exact ⟨c, drop_suf hj⟩
theorem num_bad' {Z : List Int} {A : Nat} {r : List Int} (hA : A ≤ Z.length) (hb : Wi.By Z) (hz : Z.length ≤ 6000) (hr : Z.drop A = r) (h : nF r = none) : NumBad Z A := number_bad Z A hA hb hz (by rw [hr]; exact h)
theorem num_good' {Z : List Int} {A n : Nat} {r z : List Int} (hA : A ≤ Z.length) (hb : Wi.By Z) (hz : Z.length ≤ 6000) (hr : Z.drop A = r) (h : nF r = some (n, z)) :
    NumGood Z A n ((Z.length - z.length : Nat) : Int) ∧ Z.drop (Z.length - z.length) = z ∧ Z.length - z.length ≤ Z.length := by
  obtain ⟨j, hj⟩ := nF_sf r n z (hr ▸ hb.drop A) h
  rw [← hr] at hj
  exact ⟨number_good Z z A n hA hb hz (by rw [hr]; exact h), drop_suf hj⟩
theorem end_dec {Z z : List Int} (h : Z.drop (Z.length - z.length) = z) : (((Z.length - z.length : Nat) : Int) == (Z.length : Int)) = decide (z = []) := by
  have hl : z.length ≤ Z.length := by rw [← h, List.length_drop]; omega
  rw [Bool.eq_iff_iff, beq_iff_eq, decide_eq_true_eq, ← List.length_eq_zero_iff]
  omega
theorem rread_ct (Z : List Int) (hb : Wi.By Z) (hz : Z.length ≤ 6000) : RdsTo Z (rrS Z).1 (rrS Z).2 := by
  unfold rrS
  cases h0 : nF Z with
  | none => exact rread_bad Z (num_bad' (A := 0) (Nat.zero_le _) hb hz rfl h0)
  | some p =>
    obtain ⟨n, r⟩ := p
    obtain ⟨c1, d1, b1⟩ := num_good' (A := 0) (Nat.zero_le _) hb hz rfl h0
    simp only
    by_cases hn : n < 1 ∨ 9 < n
    · rw [if_pos hn]
      exact rread_out Z n _ (by omega) c1
    rw [if_neg hn]
    have hn1 : 1 ≤ n ∧ n ≤ 9 := by omega
    clear hn h0
    obtain ⟨A0, hA0⟩ : ∃ A, A = Z.length - r.length := ⟨_, rfl⟩
    have e1 := end_dec d1
    rw [← hA0] at c1 d1 b1 e1
    have txt : ∀ (n : Nat), (∀ (tx : ByteArray) (A1 : Int) (f : Bool), NumGood Z 0 n A0 → GetGood Z A0 2 40000 ⟨0, 0, tx, false⟩ A1 → (A1 == (Z.length : Int)) = f → RdsTo Z ⟨n, tx, 0, 0, 0, k0, s0⟩ f) → (NumGood Z 0 n A0 → GetBad Z A0 2 40000 → RdsTo Z o0 false) → NumGood Z 0 n A0 →
        RdsTo Z (match tF 40000 r with | none => (o0, false) | some (l, z) => (⟨n, bstr l, 0, 0, 0, k0, s0⟩, decide (z = []))).1 (match tF 40000 r with | none => (o0, false) | some (l, z) => ((⟨n, bstr l, 0, 0, 0, k0, s0⟩ : Oq), decide (z = []))).2 := by
      intro n hg hbd c1
      cases h1 : tF 40000 r with
      | none => exact hbd c1 (get_bad b1 hb hz (by omega) (by omega) d1 (by rw [rdQ_t, h1]; rfl))
      | some p =>
        obtain ⟨l, z⟩ := p
        obtain ⟨c2, d2, b2⟩ := get_good b1 hb hz (by omega) (by omega) d1 (show rdQ 2 40000 r = some (⟨0, 0, bstr l, false⟩, z) by rw [rdQ_t, h1]; rfl)
        exact hg _ _ _ c1 c2 (end_dec d2)
    match n, hn1 with
    | 1, _ => exact txt 1 (fun tx A1 f a b c => rread_1 Z A0 A1 tx f a b c) (fun a b => rread_1f0 Z A0 a b) c1
    | 6, _ => exact txt 6 (fun tx A1 f a b c => rread_6 Z A0 A1 tx f a b c) (fun a b => rread_6f0 Z A0 a b) c1
    | 7, _ => exact txt 7 (fun tx A1 f a b c => rread_7 Z A0 A1 tx f a b c) (fun a b => rread_7f0 Z A0 a b) c1
    | 8, _ => exact rread_8 Z A0 _ c1 e1
    | 9, _ => exact rread_9 Z A0 _ c1 e1
    | 3, _ =>
      show RdsTo Z (match iF r with | none => (o0, false) | some (i, z) => (⟨3, ⟨#[]⟩, i, 0, 0, k0, s0⟩, decide (z = []))).1 (match iF r with | none => (o0, false) | some (i, z) => ((⟨3, ⟨#[]⟩, i, 0, 0, k0, s0⟩ : Oq), decide (z = []))).2
      cases h1 : iF r with
      | none => exact rread_3f0 Z A0 c1 (get_bad b1 hb hz (by omega) (by omega) d1 (by rw [rdQ_i, h1]; rfl))
      | some p =>
        obtain ⟨i, z⟩ := p
        obtain ⟨c2, d2, b2⟩ := get_good b1 hb hz (by omega) (by omega) d1 (show rdQ 1 0 r = some (⟨0, i, ⟨#[]⟩, false⟩, z) by rw [rdQ_i, h1]; rfl)
        exact rread_3 Z A0 _ i _ c1 c2 (end_dec d2)
    | 2, _ =>
      have e : rrK 2 r = (match tF 40000 r with
        | none => (o0, false)
        | some (l, z1) => match iF z1 with
          | none => (o0, false)
          | some (i, z2) => match nF z2 with
            | none => (o0, false)
            | some (g, z3) => match nF z3 with
              | none => (o0, false)
              | some (t, z) => (⟨2, bstr l, i, (g : Nat), (t : Nat), k0, s0⟩, decide (z = []))) := rfl
      rw [e]
      cases h1 : tF 40000 r with
      | none => exact rread_2f0 Z A0 c1 (get_bad b1 hb hz (by omega) (by omega) d1 (by rw [rdQ_t, h1]; rfl))
      | some p =>
        obtain ⟨l, z1⟩ := p
        obtain ⟨c2, d2, b2⟩ := get_good b1 hb hz (by omega) (by omega) d1 (show rdQ 2 40000 r = some (⟨0, 0, bstr l, false⟩, z1) by rw [rdQ_t, h1]; rfl)
        simp only
        cases h2 : iF z1 with
        | none => exact rread_2f1 Z A0 _ _ c1 c2 (get_bad b2 hb hz (by omega) (by omega) d2 (by rw [rdQ_i, h2]; rfl))
        | some p =>
          obtain ⟨i, z2⟩ := p
          obtain ⟨c3, d3, b3⟩ := get_good b2 hb hz (by omega) (by omega) d2 (show rdQ 1 0 z1 = some (⟨0, i, ⟨#[]⟩, false⟩, z2) by rw [rdQ_i, h2]; rfl)
          simp only
          cases h3 : nF z2 with
          | none => exact rread_2f2 Z A0 _ _ _ _ c1 c2 c3 (num_bad' b3 hb hz d3 h3)
          | some p =>
            obtain ⟨g, z3⟩ := p
            obtain ⟨c4, d4, b4⟩ := num_good' b3 hb hz d3 h3
            simp only
            cases h4 : nF z3 with
            | none => exact rread_2f3 Z A0 _ _ _ _ _ _ c1 c2 c3 c4 (num_bad' b4 hb hz d4 h4)
            | some p =>
              obtain ⟨t, z⟩ := p
              obtain ⟨c5, d5, b5⟩ := num_good' b4 hb hz d4 h4
              exact rread_2 Z A0 _ _ _ _ _ _ _ _ _ c1 c2 c3 c4 c5 (end_dec d5)
    | 4, _ =>
      have e : rrK 4 r = (match kgX r with
        | none => (o0, false)
        | some (k, z) => if krB k = true then (⟨4, ⟨#[]⟩, 0, 0, 0, k, s0⟩, decide (z = [])) else (o0, false)) := rfl
      rw [e]
      have c2 := rk_ct Z A0 b1 hb hz _ rfl (fun l z h => gc_sz rkK [] _ l z (by simp [rkK]) (fun q hq => by cases hq) h)
      rw [d1, rkA_X] at c2
      cases h1 : kgX r with
      | none =>
        rw [h1] at c2
        have := rread_4 Z A0 0 k0 false _ c1 c2 rfl
        rw [Bool.false_and] at this
        exact this
      | some p =>
        obtain ⟨k, z⟩ := p
        rw [h1] at c2
        obtain ⟨j, hj⟩ := kgX_sf r k z (d1 ▸ hb.drop A0) h1
        rw [← d1] at hj
        have d2 := (drop_suf hj).1
        have := rread_4 Z A0 _ k _ _ c1 c2 (end_dec d2)
        simp only
        cases hk : krB k with
        | true => rw [hk] at this; exact this
        | false => rw [hk] at this; rw [Bool.false_and] at this; exact this
    | 5, _ =>
      have e : rrK 5 r = (match sgX r with
        | none => (o0, false)
        | some (s, z) => if srB s = true then (⟨5, ⟨#[]⟩, 0, 0, 0, k0, s⟩, decide (z = [])) else (o0, false)) := rfl
      rw [e]
      have c2 := rs_ct Z A0 b1 hb hz _ rfl (fun l z h => gc_sz rsK [] _ l z (by simp [rsK]) (fun q hq => by cases hq) h)
      rw [d1, rsA_X] at c2
      cases h1 : sgX r with
      | none =>
        rw [h1] at c2
        have := rread_5 Z A0 0 s0 false _ c1 c2 rfl
        rw [Bool.false_and] at this
        exact this
      | some p =>
        obtain ⟨k, z⟩ := p
        rw [h1] at c2
        obtain ⟨j, hj⟩ := sgX_sf r k z (d1 ▸ hb.drop A0) h1
        rw [← d1] at hj
        have d2 := (drop_suf hj).1
        have := rread_5 Z A0 _ k _ _ c1 c2 (end_dec d2)
        simp only
        cases hk : srB k with
        | true => rw [hk] at this; exact this
        | false => rw [hk] at this; rw [Bool.false_and] at this; exact this
end Go.Proofs.YtpidkkgjgichdaaDoor
