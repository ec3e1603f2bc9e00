/-
  The walks and the laws that the statement leans on, part 21.
-/
import Derived.Test.YtpidkkgjgichdaaDoorZ20
namespace Go.Proofs.YtpidkkgjgichdaaDoor
open Go Wi
set_option linter.unusedVariables false
set_option linter.unusedSimpArgs false
theorem k0_z : Kz k0 := ⟨by decide, by decide⟩
theorem s0_z : Sz s0 := ⟨by decide, by decide⟩
def kgX (zs : List Int) : Option (Ky × List Int) :=
  match tF 96 zs with
  | none => none
  | some (g, z1) => match tF 96 z1 with
    | none => none
    | some (r, z2) => match fF z2 with
      | none => none
      | some (p, z3) => match nF z3 with
        | none => none
        | some (e, z4) => match fF z4 with
          | none => none
          | some (s, z5) => some (⟨bstr g, bstr r, p, (e : Nat), s⟩, z5)
def sgX (zs : List Int) : Option (Sl × List Int) :=
  match tF 160 zs with
  | none => none
  | some (g, z1) => match tF 160 z1 with
    | none => none
    | some (r, z2) => match iF z2 with
      | none => none
      | some (w, z3) => match iF z3 with
        | none => none
        | some (f, z4) => match iF z4 with
          | none => none
          | some (t, z5) => some (⟨bstr g, bstr r, w, f, t⟩, z5)
end Go.Proofs.YtpidkkgjgichdaaDoor
namespace Go.Proofs.YtpidkkgjgichdaaDoor.Wi
open Go
set_option linter.unusedVariables false
set_option linter.unusedSimpArgs false
theorem gF16_put (sg : Bool) (n : Nat) (rest : List Int) (hn : n < 18446744073709551616) : gF 16 (putL (if sg then 16 else 0) n ++ rest) = some (if sg then 16 else 0, n, rest) := by
  obtain ⟨k, hk, hk9, h0, h16⟩ := putL0 n hn
  have a := and16 k hk9
  have hlt : n < 256 ^ k := size_le.1 (Nat.le_of_eq hk.symm)
  have hlb := byteL_len n k
  have hz : ¬ (0 < k ∧ (byteL n k ++ rest).getD 0 0 = 0) := by
    rintro ⟨h0, h1⟩
    have e : (byteL n k ++ rest).getD 0 0 = ((n / 256 ^ (k - 1 - 0) % 256 : Nat) : Int) := by
      rw [← byteL_at n k 0 h0]
      simp only [List.getD_eq_getElem?_getD]
      rw [List.getElem?_append_left (by omega)]
    have hge : 256 ^ (k - 1) ≤ n := by
      apply Classical.byContradiction; intro hc
      have := size_le.2 (show n < 256 ^ (k - 1) by omega)
      omega
    have hne := byteL_hd (k := k - 1) (by rw [show k - 1 + 1 = k by omega]; exact hlt) hge
    rw [e, Nat.sub_zero] at h1
    exact hne (by exact_mod_cast h1)
  have hcond : ¬ (8 < k ∨ (byteL n k ++ rest).length < k ∨ 0 < k ∧ (byteL n k ++ rest).getD 0 0 = 0) := by
    rintro (h1 | h1 | h1)
    · omega
    · rw [List.length_append] at h1; omega
    · exact hz h1
  cases sg
  · simp only [Bool.false_eq_true, if_false]
    rw [h0, List.cons_append]
    simp only [gF, a.2.2.2.1, a.2.2.1, Int.toNat_natCast]
    rw [if_neg hcond, List.take_left' hlb, List.drop_left' hlb, valL_byteL, Nat.mod_eq_of_lt hlt]
  · simp only [if_true]
    rw [h16, List.cons_append]
    simp only [gF, a.2.1, a.1, Int.toNat_natCast]
    rw [if_neg hcond, List.take_left' hlb, List.drop_left' hlb, valL_byteL, Nat.mod_eq_of_lt hlt]
theorem iF_put (i : Int) (rest : List Int) (h1 : -9223372036854775808 ≤ i) (h2 : i ≤ 9223372036854775807) : iF (intL i ++ rest) = some (i, rest) := by
  unfold intL
  by_cases h : i < 0
  · rw [if_pos h]
    have e := gF16_put true (-i).toNat rest (by omega)
    simp only [if_true] at e
    unfold iF
    rw [e]
    simp only
    rw [if_neg (by omega), if_pos (by decide)]
    simp only [Option.some.injEq, Prod.mk.injEq, and_true]
    omega
  · rw [if_neg h]
    have e := gF16_put false i.toNat rest (by omega)
    simp only [Bool.false_eq_true, if_false] at e
    unfold iF
    rw [e]
    simp only
    rw [if_neg (by omega), if_neg (by decide)]
    simp only [Option.some.injEq, Prod.mk.injEq, and_true]
    omega
theorem cF_put (n m : Nat) (rest : List Int) (hn : n < 18446744073709551616) (hm : n ≤ m) : cF m (putL 0 n ++ rest) = some (n, rest) := by
  unfold cF
  rw [nF_put n rest hn]
  simp only
  rw [if_neg (by omega)]
theorem tF_put (s : ByteArray) (m : Nat) (rest : List Int) (hs : s.size ≤ m) (hm : m ≤ 1000000) : tF m (putL 0 s.size ++ strL s ++ rest) = some (strL s, rest) := by
  unfold tF
  rw [List.append_assoc, cF_put s.size m _ (by omega) hs]
  have hl := strL_len s
  simp only
  rw [if_neg (by rw [List.length_append]; omega), List.take_left' hl, List.drop_left' hl]
theorem fF_put (f : Bool) (rest : List Int) : fF ([if f then 1 else 0] ++ rest) = some (f, rest) := by
  cases f
  · show (if (1 : Int) < 0 then none else some (((0 : Int) == 1), rest)) = _
    rw [if_neg (by decide)]; rfl
  · show (if (1 : Int) < 1 then none else some (((1 : Int) == 1), rest)) = _
    rw [if_neg (by decide)]; rfl
end Go.Proofs.YtpidkkgjgichdaaDoor.Wi
namespace Go.Proofs.YtpidkkgjgichdaaDoor
open Go Wi
set_option linter.unusedVariables false
set_option linter.unusedSimpArgs false
theorem rF_size {zs : List Int} (hb : By zs) : ∀ d i, zs.length - i ≤ d → zs.length - i ≤ 4 * (rF zs i).length
  | 0, i, h => by omega
  | d + 1, i, h => by
    by_cases hi : i < zs.length
    · have h1 := elR_in hb hi
      have h2 := elR_w zs i
      rw [rF_step hi, List.length_cons]
      have := rF_size hb d (i + (elR zs i).2) (by omega)
      omega
    · omega
theorem rn_size {zs : List Int} (hb : By zs) : zs.length ≤ 4 * (rn zs).length := by
  have := rF_size hb zs.length 0 (by omega)
  rw [rF_zero] at this
  omega
theorem bs_len (s : ByteArray) : (bs s).length = s.size := by
  obtain ⟨e, hb⟩ := s_bstr s
  conv => rhs; rw [e, bstr_size]
open Classical in
theorem nmS_size {s : ByteArray} (h : nmS s = true) : s.size ≤ 96 := by
  obtain ⟨e, hb⟩ := s_bstr s
  have := rn_size hb
  have hl := bs_len s
  unfold nmS nmB at h
  have h := (of_decide_eq_true h).2.1
  have hl : (ub s.data.toList).length = s.size := hl
  omega
theorem glB_size {s : ByteArray} (h : glB s = true) : s.size ≤ 160 := by
  obtain ⟨e, hb⟩ := s_bstr s
  have := rn_size hb
  have hl : (ub s.data.toList).length = s.size := bs_len s
  unfold glB at h
  simp only [Bool.and_eq_true, decide_eq_true_eq] at h
  have h := h.2.2
  have h : ((rn (ub s.data.toList)).length : Int) ≤ 40 := h
  omega
theorem kr_bd {k : Ky} (h : krB k = true) : k.g.size ≤ 96 ∧ k.r.size ≤ 96 ∧ 0 < k.e ∧ k.e ≤ 4611686018427387904 := by
  unfold krB at h
  simp only [Bool.and_eq_true, decide_eq_true_eq] at h
  exact ⟨nmS_size h.1, nmS_size h.2.1, h.2.2.1, h.2.2.2⟩
theorem sr_bd {s : Sl} (h : srB s = true) : s.nm.size ≤ 96 ∧ s.gl.size ≤ 160 ∧ (0 ≤ s.w ∧ s.w ≤ 2) ∧ 0 ≤ s.f ∧ s.f < s.t ∧ s.t ≤ 253402300799 := by
  unfold srB at h
  simp only [Bool.and_eq_true, decide_eq_true_eq] at h
  exact ⟨nmS_size h.1, glB_size h.2.1, h.2.2.1, h.2.2.2.1, h.2.2.2.2.1, h.2.2.2.2.2⟩
theorem kgX_put {k : Ky} (h : krB k = true) (rest : List Int) : kgX (kL k ++ rest) = some (k, rest) := by
  obtain ⟨h1, h2, h3, h4⟩ := kr_bd h
  obtain ⟨g, r, p, e, s⟩ := k
  simp only at h1 h2 h3 h4
  obtain ⟨e, rfl⟩ := Int.eq_ofNat_of_zero_le (show 0 ≤ e by omega)
  have e0 : kL ⟨g, r, p, (e : Int), s⟩ ++ rest = putL 0 g.size ++ strL g ++ (putL 0 r.size ++ strL r ++ ([if p then 1 else 0] ++ (putL 0 e ++ ([if s then 1 else 0] ++ rest)))) := by simp [kL, txL]
  rw [e0]
  unfold kgX
  have p1 : ∀ X, tF 96 (putL 0 g.size ++ strL g ++ X) = some (strL g, X) := fun X => tF_put g 96 X h1 (by omega)
  have p2 : ∀ X, tF 96 (putL 0 r.size ++ strL r ++ X) = some (strL r, X) := fun X => tF_put r 96 X h2 (by omega)
  rw [p1]
  simp only
  rw [p2]
  simp only
  rw [fF_put]
  simp only
  rw [nF_put e _ (by omega)]
  simp only
  rw [fF_put]
  simp only [bstr_strL]
theorem sgX_put {k : Sl} (h : srB k = true) (rest : List Int) : sgX (sL k ++ rest) = some (k, rest) := by
  obtain ⟨h1, h2, h3, h4, h5, h6⟩ := sr_bd h
  obtain ⟨g, r, w, f, t⟩ := k
  simp only at h1 h2 h3 h4 h5 h6
  have e0 : sL ⟨g, r, w, f, t⟩ ++ rest = putL 0 g.size ++ strL g ++ (putL 0 r.size ++ strL r ++ (intL w ++ (intL f ++ (intL t ++ rest)))) := by simp [sL, txL]
  rw [e0]
  unfold sgX
  have p1 : ∀ X, tF 160 (putL 0 g.size ++ strL g ++ X) = some (strL g, X) := fun X => tF_put g 160 X (by omega) (by omega)
  have p2 : ∀ X, tF 160 (putL 0 r.size ++ strL r ++ X) = some (strL r, X) := fun X => tF_put r 160 X h2 (by omega)
  rw [p1]
  simp only
  rw [p2]
  simp only
  rw [iF_put w _ (by omega) (by omega)]
  simp only
  rw [iF_put f _ (by omega) (by omega)]
  simp only
  rw [iF_put t _ (by omega) (by omega)]
  simp only [bstr_strL]
noncomputable def rxK (n : Nat) (r : List Int) : Option (Oq × List Int) :=
  if n = 1 ∨ n = 6 ∨ n = 7 then (match tF 40000 r with
    | none => none
    | some (l, z) => some (⟨n, bstr l, 0, 0, 0, k0, s0⟩, z))
  else if n = 2 then (match tF 40000 r with
    | none => none
    | some (l, z1) => match iF z1 with
      | none => none
      | some (i, z2) => match nF z2 with
        | none => none
        | some (g, z3) => match nF z3 with
          | none => none
          | some (t, z) => some (⟨2, bstr l, i, (g : Nat), (t : Nat), k0, s0⟩, z))
  else if n = 3 then (match iF r with
    | none => none
    | some (i, z) => some (⟨3, ⟨#[]⟩, i, 0, 0, k0, s0⟩, z))
  else if n = 4 then (match kgX r with
    | none => none
    | some (k, z) => if krB k = true then some (⟨4, ⟨#[]⟩, 0, 0, 0, k, s0⟩, z) else none)
  else if n = 5 then (match sgX r with
    | none => none
    | some (s, z) => if srB s = true then some (⟨5, ⟨#[]⟩, 0, 0, 0, k0, s⟩, z) else none)
  else some (⟨n, ⟨#[]⟩, 0, 0, 0, k0, s0⟩, r)
noncomputable def rrX (Z : List Int) : Option (Oq × List Int) :=
  match nF Z with
  | none => none
  | some (n, r) => if n < 1 ∨ 9 < n then none else rxK n r
structure Om (o : Oq) : Prop where
  a : -9223372036854775808 ≤ o.a ∧ o.a ≤ 9223372036854775807
  g : 0 ≤ o.g ∧ o.g ≤ 18446744073709551615
  t : 0 ≤ o.t ∧ o.t ≤ 18446744073709551615
theorem gs_of {o : Oq} (h : gsB o = true) : (1 ≤ o.kd ∧ o.kd ≤ 9) ∧ usF o = o ∧ o.tx.size ≤ 40000 ∧ (o.kd = 4 → krB o.k = true) ∧ (o.kd = 5 → srB o.s = true) := by
  unfold gsB rtB at h
  simp only [Bool.and_eq_true, decide_eq_true_eq, Bool.or_eq_true, Bool.not_eq_true', beq_eq_false_iff_ne, oqB_iff] at h
  obtain ⟨⟨h1, h2, h3⟩, h4, h5, h6⟩ := h
  exact ⟨⟨h1, h2⟩, h3, h4, fun e => h5.resolve_left (fun h => h e), fun e => h6.resolve_left (fun h => h e)⟩
theorem rrX_put {o : Oq} (h : gsB o = true) (hm : Om o) (rest : List Int) : rrX (oL o ++ rest) = some (o, rest) := by
  obtain ⟨⟨h1, h2⟩, hu, h3, h4, h5⟩ := gs_of h
  obtain ⟨m1, m2, m3⟩ := hm
  obtain ⟨kd, tx, a, g, t, k, s⟩ := o
  simp only at h1 h2 h3 h4 h5 m1 m2 m3
  have key : ∀ (n : Nat) (X : List Int), n < 18446744073709551616 → 1 ≤ n ∧ n ≤ 9 → rrX (putL 0 n ++ X) = rxK n X := fun n X hn hn2 => by
    unfold rrX
    rw [nF_put n X hn]
    simp only
    rw [if_neg (by omega)]
  have ktx : ∀ X, tF 40000 (putL 0 tx.size ++ strL tx ++ X) = some (strL tx, X) := fun X => tF_put tx 40000 X h3 (by omega)
  have hk : kd = 1 ∨ kd = 2 ∨ kd = 3 ∨ kd = 4 ∨ kd = 5 ∨ kd = 6 ∨ kd = 7 ∨ kd = 8 ∨ kd = 9 := by omega
  have txt : ∀ n : Nat, (n = 1 ∨ n = 6 ∨ n = 7) → rrX (putL 0 n ++ (putL 0 tx.size ++ strL tx ++ rest)) = some (⟨n, tx, 0, 0, 0, k0, s0⟩, rest) := fun n hn => by
    rw [key n _ (by omega) (by omega)]
    unfold rxK
    rw [if_pos hn, ktx]
    simp only [bstr_strL]
  have e : ∀ (x y : Oq), x = y → rrX (oL x ++ rest) = some (x, rest) → rrX (oL y ++ rest) = some (y, rest) := fun x y hxy hx => by rw [← hxy]; exact hx
  rcases hk with rfl | rfl | rfl | rfl | rfl | rfl | rfl | rfl | rfl
  · refine e ⟨1, tx, 0, 0, 0, k0, s0⟩ _ hu ?_
    have := txt 1 (by omega)
    rw [show oL ⟨1, tx, 0, 0, 0, k0, s0⟩ ++ rest = putL 0 1 ++ (putL 0 tx.size ++ strL tx ++ rest) by simp [oL, txK, atK, txL]]
    exact this
  · refine e ⟨2, tx, a, g, t, k0, s0⟩ _ hu ?_
    obtain ⟨g, rfl⟩ := Int.eq_ofNat_of_zero_le m2.1
    obtain ⟨t, rfl⟩ := Int.eq_ofNat_of_zero_le m3.1
    rw [show oL ⟨2, tx, a, (g : Int), (t : Int), k0, s0⟩ ++ rest = putL 0 2 ++ (putL 0 tx.size ++ strL tx ++ (intL a ++ (putL 0 g ++ (putL 0 t ++ rest)))) by simp [oL, txK, atK, txL]]
    rw [key 2 _ (by omega) (by omega)]
    unfold rxK
    rw [if_neg (by decide), if_pos rfl, ktx]
    simp only
    rw [iF_put a _ m1.1 m1.2]
    simp only
    rw [nF_put g _ (by omega)]
    simp only
    rw [nF_put t _ (by omega)]
    simp only [bstr_strL]
  · refine e ⟨3, ⟨#[]⟩, a, 0, 0, k0, s0⟩ _ hu ?_
    rw [show oL ⟨3, ⟨#[]⟩, a, 0, 0, k0, s0⟩ ++ rest = putL 0 3 ++ (intL a ++ rest) by simp [oL, txK, atK]]
    rw [key 3 _ (by omega) (by omega)]
    show (match iF (intL a ++ rest) with | none => none | some (i, z) => some ((⟨3, ⟨#[]⟩, i, 0, 0, k0, s0⟩ : Oq), z)) = _
    rw [iF_put a _ m1.1 m1.2]
  · refine e ⟨4, ⟨#[]⟩, 0, 0, 0, k, s0⟩ _ hu ?_
    rw [show oL ⟨4, ⟨#[]⟩, 0, 0, 0, k, s0⟩ ++ rest = putL 0 4 ++ (kL k ++ rest) by simp [oL, txK, atK]]
    rw [key 4 _ (by omega) (by omega)]
    show (match kgX (kL k ++ rest) with | none => none | some (k, z) => if krB k = true then some ((⟨4, ⟨#[]⟩, 0, 0, 0, k, s0⟩ : Oq), z) else none) = _
    rw [kgX_put (h4 rfl)]
    simp only
    rw [if_pos (h4 rfl)]
  · refine e ⟨5, ⟨#[]⟩, 0, 0, 0, k0, s⟩ _ hu ?_
    rw [show oL ⟨5, ⟨#[]⟩, 0, 0, 0, k0, s⟩ ++ rest = putL 0 5 ++ (sL s ++ rest) by simp [oL, txK, atK]]
    rw [key 5 _ (by omega) (by omega)]
    show (match sgX (sL s ++ rest) with | none => none | some (k, z) => if srB k = true then some ((⟨5, ⟨#[]⟩, 0, 0, 0, k0, k⟩ : Oq), z) else none) = _
    rw [sgX_put (h5 rfl)]
    simp only
    rw [if_pos (h5 rfl)]
  · refine e ⟨6, tx, 0, 0, 0, k0, s0⟩ _ hu ?_
    have := txt 6 (by omega)
    rw [show oL ⟨6, tx, 0, 0, 0, k0, s0⟩ ++ rest = putL 0 6 ++ (putL 0 tx.size ++ strL tx ++ rest) by simp [oL, txK, atK, txL]]
    exact this
  · refine e ⟨7, tx, 0, 0, 0, k0, s0⟩ _ hu ?_
    have := txt 7 (by omega)
    rw [show oL ⟨7, tx, 0, 0, 0, k0, s0⟩ ++ rest = putL 0 7 ++ (putL 0 tx.size ++ strL tx ++ rest) by simp [oL, txK, atK, txL]]
    exact this
  · refine e ⟨8, ⟨#[]⟩, 0, 0, 0, k0, s0⟩ _ hu ?_
    rw [show oL ⟨8, ⟨#[]⟩, 0, 0, 0, k0, s0⟩ ++ rest = putL 0 8 ++ rest by simp [oL, txK, atK]]
    rw [key 8 _ (by omega) (by omega)]
    rfl
  · refine e ⟨9, ⟨#[]⟩, 0, 0, 0, k0, s0⟩ _ hu ?_
    rw [show oL ⟨9, ⟨#[]⟩, 0, 0, 0, k0, s0⟩ ++ rest = putL 0 9 ++ rest by simp [oL, txK, atK]]
    rw [key 9 _ (by omega) (by omega)]
    rfl
theorem gs_mk {o : Oq} (h1 : 1 ≤ o.kd ∧ o.kd ≤ 9) (h2 : usF o = o) (h3 : o.tx.size ≤ 40000) (h4 : o.kd = 4 → krB o.k = true) (h5 : o.kd = 5 → srB o.s = true) : gsB o = true := by
  unfold gsB rtB
  simp only [Bool.and_eq_true, decide_eq_true_eq, Bool.or_eq_true, Bool.not_eq_true', beq_eq_false_iff_ne, oqB_iff]
  refine ⟨⟨h1.1, h1.2, h2⟩, h3, ?_, ?_⟩
  · by_cases e : o.kd = 4
    · exact .inr (h4 e)
    · exact .inl e
  · by_cases e : o.kd = 5
    · exact .inr (h5 e)
    · exact .inl e
set_option linter.defProp false
def TFCoU :=
  And.intro (And.intro (And.intro (And.intro (And.intro tyc4 zmb4) (And.intro tyc5 zmb5)) (And.intro (And.intro tyc9 zmb9) (And.intro tyc30 foff30_0))) (And.intro (And.intro (And.intro fpart30_0 foff30_1) (And.intro fpart30_1 foff30_2)) (And.intro (And.intro fpart30_2 foff30_3) (And.intro fpart30_3 foff30_4)))) (And.intro (And.intro (And.intro (And.intro fpart30_4 foff30_5) (And.intro fpart30_5 zmb30)) (And.intro (And.intro bldT30 tyc33) (And.intro elt33 mkz33))) (And.intro (And.intro (And.intro apT33 elk33) (And.intro zmb33 Tryd.underlying4)) (And.intro (And.intro Tryd.underlying5 Tryd.underlying9) (And.intro Tryd.underlying30 Tryd.underlying33))))
theorem Y1CoU {G R : Prop} (r : R) (h : R → G := by intro r; first | (apply WP.region; exact rvc_sound _ _ (Sm.out r)) | exact WP.drawK rfl mixed (by decide +kernel) (Sm.out r) | (apply WP.block; exact r) | (apply WP.skip; exact Yq r) | (apply WP.exit; exact Yq r) | (apply WP.ret; exact Sm.out r) | exact WP.cond rfl (fun _ => r) (fun hg => absurd hg (by decide)) | exact WP.cond rfl (fun hg => absurd hg (by decide)) (fun _ => r) | exact Rt.mk (And.intro (fun _ => Sm.out r) fun hg => absurd hg (by decide)) | exact Rt.mk (And.intro (fun hg => absurd hg (by decide)) fun _ => Sm.out r)) : G := h r
theorem YzCoU {G R : Prop} (r : R) (h : R → G := by intro r; first | (apply ExG.no; exact Sm.out r) | (apply Or.inl; apply ExG.no; exact Sm.out r) | exact Or.inl (And.intro (fun hg => absurd hg (by decide)) (ExG.no (Sm.out r)))) : G := h r
theorem CallV.newR {P : Program} {f : FuncId} {args : List AV} {H F R : Hp} {F0 : Nat → Nat → Hp} {post : AV → Hp → Prop} {φ : Nat → Nat → Prop} {x : Nat → Nat → AV} {m : Nat → Nat → MB}
    (h : ACt P f args F (fun r F' => ∃ b c, φ b c ∧ r = x b c ∧ F' = (b, m b c) :: F0 b c)) (hP : H.Perm (F ++ R))
    (hp : Nu fun b => Nu fun c => Fr (φ b c ∧ fresh (F0 b c ++ R) b) (post (x b c) ((b, m b c) :: (F0 b c ++ R)))) : CallV P f args H post :=
  ⟨F, R, _, hP, h, fun r F' hr hn => by
    obtain ⟨b, c, e0, e1, e2⟩ := hr
    subst e1 e2
    refine ((hp.out b).out c).out ⟨e0, fun p hp' => ?_⟩
    simp only [List.cons_append, List.map_cons, List.nodup_cons] at hn
    have hne : p.1 ≠ b := fun he => hn.1 (List.mem_map.2 ⟨p, hp', he⟩)
    exact ⟨hne, fun he => hne he.symm⟩⟩
theorem unlike {a b : Oq} (ha : gsB a = true) (hb : gsB b = true) (ma : Om a) (mb : Om b) {rest : List Int} (h : oL b = oL a ++ rest) : a = b := by
  have h1 := rrX_put ha ma rest
  have h2 := rrX_put hb mb []
  rw [List.append_nil, h, h1] at h2
  simp only [Option.some.injEq, Prod.mk.injEq] at h2
  exact h2.1
abbrev RowT (L : List Int) (n0 n1 : Nat) (r : AV) (F' : Hp) : Prop := ∃ x c, (L.length ≤ c ∧ c ≤ 9223372036854775807) ∧ r = ms x 0 L.length c ∧ F' = (x, .zs .u8 L c 5) :: [(0, .zs .u8 fsZ 256 n0), (1, .zs .u8 acZ 32 n1)]
theorem cput_nil (n0 n1 : Nat) (o : Oq) (hg : gsB o = true) (hw : Ow o) : ACt Tryd.prog 9 [.lit (.slice none 0 0), ov o] [(0, .zs .u8 fsZ 256 n0), (1, .zs .u8 acZ 32 n1)] (RowT (oL o) n0 n1) := by
  have cG := goes_ct o n0 n1 (.inl hw.z)
  rw [hg] at cG
  obtain ⟨⟨h1, h2⟩, -⟩ := gs_of hg
  obtain ⟨hz, hx, -, ha, hG, hT, hK, hS⟩ := hw
  obtain ⟨kd, tx, a, g, t, k, s⟩ := o
  simp only at h1 h2 hx ha hG hT hK hS
  have hk : kd = 1 ∨ kd = 2 ∨ kd = 3 ∨ kd = 4 ∨ kd = 5 ∨ kd = 6 ∨ kd = 7 ∨ kd = 8 ∨ kd = 9 := by omega
  have e : ∀ {L M : List Int}, L = M → ∀ {r F'}, RowT M n0 n1 r F' → RowT L n0 n1 r F' := fun h _ _ h2 => by rw [h]; exact h2
  rcases hk with rfl | rfl | rfl | rfl | rfl | rfl | rfl | rfl | rfl
  · exact (cput_n1 n0 n1 fsZ acZ tx a g t k s hx cG).mono fun r F' h => e (by simp [oL, txK, atK]) h
  · obtain ⟨g, rfl⟩ := Int.eq_ofNat_of_zero_le hG.1
    obtain ⟨t, rfl⟩ := Int.eq_ofNat_of_zero_le hT.1
    exact (cput_n2 n0 n1 fsZ acZ tx a g t k s hx ha (by omega) (by omega) cG).mono fun r F' h => e (by simp [oL, txK, atK]) h
  · exact (cput_n3 n0 n1 fsZ acZ tx a g t k s ha cG).mono fun r F' h => e (by simp [oL, txK, atK]) h
  · exact (cput_n4 n0 n1 fsZ acZ tx a g t k s hK cG).mono fun r F' h => e (by simp [oL, txK, atK]) h
  · exact (cput_n5 n0 n1 fsZ acZ tx a g t k s hS cG).mono fun r F' h => e (by simp [oL, txK, atK]) h
  · exact (cput_n6 n0 n1 fsZ acZ tx a g t k s hx cG).mono fun r F' h => e (by simp [oL, txK, atK]) h
  · exact (cput_n7 n0 n1 fsZ acZ tx a g t k s hx cG).mono fun r F' h => e (by simp [oL, txK, atK]) h
  · exact (cput_n8 n0 n1 fsZ acZ tx a g t k s cG).mono fun r F' h => e (by simp [oL, txK, atK]) h
  · exact (cput_n9 n0 n1 fsZ acZ tx a g t k s cG).mono fun r F' h => e (by simp [oL, txK, atK]) h
theorem k0_b : Kb k0 := ⟨k0_z, by decide, by decide⟩
theorem s0_b : Sb s0 := ⟨s0_z, by decide, by decide, by decide⟩
set_option maxRecDepth 8000 in
theorem awake_ct (n0 n1 : Nat) : ACt Tryd.prog 6 [] [(0, .zs .u8 fsZ 256 n0), (1, .zs .u8 acZ 32 n1)] (fun x F => x = bv true ∧ F = [(0, .zs .u8 fsZ 256 n0), (1, .zs .u8 acZ 32 n1)]) := by
  have hg : gsB ⟨3, ⟨#[]⟩, 300, 0, 0, k0, s0⟩ = true := gs_mk (by simp) rfl (by simp only; decide) (fun e => by simp at e) (fun e => by simp at e)
  have c1 := cput_nil n0 n1 ⟨3, ⟨#[]⟩, 300, 0, 0, k0, s0⟩ hg ⟨⟨k0_z, s0_z⟩, by simp only; decide, by simp, by simp, by simp, by simp, k0_b, s0_b⟩
  have hL : oL ⟨3, ⟨#[]⟩, 300, 0, 0, k0, s0⟩ = [1, 3, 2, 1, 44] := by decide +kernel
  rw [hL] at c1
  obtain ⟨D, hD⟩ : ∃ D : List Int, D = [1, 3, 2, 1, 44] := ⟨_, rfl⟩
  have hl : D.length = 5 := by rw [hD]; rfl
  have tk : D.take 5 = D := by rw [hD]; rfl
  have hs : ((bstr D).toList == (⟨#[1, 3, 2, 1, 44]⟩ : ByteArray).toList) = true := by rw [hD]; decide +kernel
  rw [← hD] at c1
  unfold RowT at c1
  rw [hl] at c1
  obtain ⟨FZ, hFZ⟩ : ∃ FZ, FZ = fsZ := ⟨_, rfl⟩
  obtain ⟨AZ, hAZ⟩ : ∃ AZ, AZ = acZ := ⟨_, rfl⟩
  rw [← hFZ, ← hAZ] at c1 ⊢
  refine ACt.intro Tryd.func6 rfl (by kernel_rfl) (by simp [Tryd.ntmps6]) (fun cx => ?_)
  simp only [argE, Tryd.ntmps6, Tryd.results6]
  first | (have FRx := FR; clear FRx) | have FR := fr0S
  have FA := Sm.mk (And.intro TFCoU (And.intro hl (And.intro tk hs)))
  repeat' first | (apply Sm.mk; refine Ys ?_) | refine WP.seq fun K hK => ?_ | (apply Ob.mk; exact Yo) | refine And.intro (Ob.out ?_) ?_ | refine Y1CoU ?_ | (refine CallV.newR (c1) ((perm2 (by simp only [hget, hdel, ↓reduceIte, FR.out]; first | done | rfl) (by simp only [hget, hdel, ↓reduceIte, FR.out]; first | done | rfl))) (Sm.out ?_)) | refine YzCoU ?_ | (refine WP.cond rfl (fun hc => ?_) (fun hc => ?_) <;> (try simp only [ZC, reduceCtorEq, ZD] at hc) <;> (try exact absurd hc (by decide)) <;> (try (exfalso; omega))) | refine Rt.mk (And.intro (fun hg => Sm.out ?_) fun hg => Sm.out ?_) | (refine Nu.mk ?_; first | (fail_if_success have := nb1); intro nb1 | (fail_if_success have := nb2); intro nb2 | (fail_if_success have := nb3); intro nb3 | (fail_if_success have := nb4); intro nb4 | intro nbz) | (apply Yfr; refine Yf FR fun hFRb FR => ?_) | refine Two.mk ?_ ?_ | (apply Yxc; exact Yx) | refine Cs.mk fun hcs => Sm.out ?_ | go_step | omega | (simp only [maxLen_eq]; omega) | exact trivial
  (refine OutQ.drop _ _ (perm2 (by simp only [hget, hdel, ↓reduceIte, if_true, if_false, FR.out]; first | done | rfl) (by simp only [hget, hdel, ↓reduceIte, if_true, if_false, FR.out]; first | done | rfl)) (by simp only [resv, ZK, look, loadv, loadn, loadnm, load1, load1m, hget, ↓reduceIte, Nat.reduceEqDiff, Nat.reduceAdd, Nat.reduceMul, Nat.reduceLeDiff, Nat.reduceLT, reduceCtorEq, TFCoU, FR.out]) ⟨(by simp only [resv, resA, ZK, look, loadv, loadn, loadnm, load1, load1m, hget, ↓reduceIte, Nat.reduceEqDiff, Nat.reduceAdd, Nat.reduceMul, Nat.reduceLeDiff, Nat.reduceLT, reduceCtorEq, TFCoU, FR.out]; first | done | rfl), rfl⟩)
def TFCoV :=
  And.intro (And.intro (And.intro (And.intro (And.intro tyc0 tyc3) (And.intro zmb3 tyc4)) (And.intro (And.intro zmb4 tyc5) (And.intro zmb5 (And.intro tyc9 zmb9)))) (And.intro (And.intro (And.intro tyc30 foff30_0) (And.intro fpart30_0 foff30_1)) (And.intro (And.intro fpart30_1 foff30_2) (And.intro fpart30_2 (And.intro foff30_3 fpart30_3))))) (And.intro (And.intro (And.intro (And.intro foff30_4 fpart30_4) (And.intro foff30_5 fpart30_5)) (And.intro (And.intro zmb30 bldT30) (And.intro tyc33 (And.intro elt33 mkz33)))) (And.intro (And.intro (And.intro apT33 elk33) (And.intro zmb33 (And.intro Tryd.underlying0 Tryd.underlying3))) (And.intro (And.intro Tryd.underlying4 Tryd.underlying5) (And.intro Tryd.underlying9 (And.intro Tryd.underlying30 Tryd.underlying33)))))
theorem Y1CoV {G R : Prop} (r : R) (h : R → G := by intro r; first | (apply WP.region; exact rvc_sound _ _ (Sm.out r)) | exact WP.drawN (cs := [1,3]) (k := 4) (bs := [0, 1]) mixed (by decide +kernel) (by decide +kernel) (by decide +kernel) (by decide +kernel) (Sm.out r) | exact WP.drawK rfl mixed (by decide +kernel) (Sm.out r) | (apply WP.block; exact r) | (apply WP.skip; exact Yq r) | (apply WP.exit; exact Yq r) | (apply WP.ret; exact Sm.out r) | exact WP.cond rfl (fun _ => r) (fun hg => absurd hg (by decide)) | exact WP.cond rfl (fun hg => absurd hg (by decide)) (fun _ => r) | exact Rt.mk (And.intro (fun _ => Sm.out r) fun hg => absurd hg (by decide)) | exact Rt.mk (And.intro (fun hg => absurd hg (by decide)) fun _ => Sm.out r)) : G := h r
theorem YzCoV {G R : Prop} (r : R) (h : R → G := by intro r; first | (apply ExG.no; exact Sm.out r) | (apply Or.inl; apply ExG.no; exact Sm.out r) | exact Or.inl (And.intro (fun hg => absurd hg (by decide)) (ExG.no (Sm.out r)))) : G := h r
abbrev keyTy : Ty := .st [.str, .str, .bool, .int .u64, .bool]
abbrev silTy : Ty := .st [.str, .str, .int .i64, .int .i64, .int .i64]
abbrev opTy : Ty := .st [.int .i64, .str, .int .i64, .st [.int .u64, .int .u64], keyTy, silTy]
structure Oa (o : Oq) : Prop where
  kd : -9223372036854775808 ≤ o.kd ∧ o.kd ≤ 9223372036854775807
  a : -9223372036854775808 ≤ o.a ∧ o.a ≤ 9223372036854775807
  g : 0 ≤ o.g ∧ o.g ≤ 18446744073709551615
  t : 0 ≤ o.t ∧ o.t ≤ 18446744073709551615
  e : 0 ≤ o.k.e ∧ o.k.e ≤ 18446744073709551615
  w : -9223372036854775808 ≤ o.s.w ∧ o.s.w ≤ 9223372036854775807
  f : -9223372036854775808 ≤ o.s.f ∧ o.s.f ≤ 9223372036854775807
  t2 : -9223372036854775808 ≤ o.s.t ∧ o.s.t ≤ 9223372036854775807
theorem op_shp {xs : List AV} (h : Shp opTy xs) : ∃ o : Oq, xs = ocs o ∧ Oa o := by
  simp only [Shp, ShpL] at h
  obtain ⟨_, _, rfl, ⟨kd, rfl, h1⟩, _, _, rfl, ⟨tx, rfl, h2⟩, _, _, rfl, ⟨a, rfl, h3⟩, _, _, rfl, ⟨_, _, rfl, ⟨g, rfl, h4⟩, _, _, rfl, ⟨t, rfl, h5⟩, rfl⟩, _, _, rfl,
    ⟨_, _, rfl, ⟨kg, rfl, h6⟩, _, _, rfl, ⟨kr, rfl, h7⟩, _, _, rfl, ⟨kp, rfl⟩, _, _, rfl, ⟨ke, rfl, h8⟩, _, _, rfl, ⟨ks, rfl⟩, rfl⟩, _, _, rfl,
    ⟨_, _, rfl, ⟨nm, rfl, h9⟩, _, _, rfl, ⟨gl, rfl, h10⟩, _, _, rfl, ⟨w, rfl, h11⟩, _, _, rfl, ⟨f, rfl, h12⟩, _, _, rfl, ⟨t2, rfl, h13⟩, rfl⟩, rfl⟩ := h
  exact ⟨⟨kd, tx, a, g, t, ⟨kg, kr, kp, ke, ks⟩, ⟨nm, gl, w, f, t2⟩⟩, rfl, wf_i64 h1, wf_i64 h3, wf_u64 h4, wf_u64 h5, wf_u64 h8, wf_i64 h11, wf_i64 h12, wf_i64 h13⟩
theorem oh_bd {o : Oq} (h : ohB o = false) : o.tx.size ≤ 5000 ∧ o.k.g.size ≤ 500 ∧ o.k.r.size ≤ 500 ∧ o.s.nm.size ≤ 500 ∧ o.s.gl.size ≤ 500 := by
  unfold ohB hvB at h
  simp only [Bool.or_eq_false_iff, decide_eq_false_iff_not] at h
  omega
theorem ow_of {o : Oq} (ha : Oa o) (h : ohB o = false) : Ow o := by
  obtain ⟨h1, h2, h3, h4, h5⟩ := oh_bd h
  exact ⟨⟨⟨by omega, by omega⟩, ⟨by omega, by omega⟩⟩, h1, ha.kd, ha.a, ha.g, ha.t, ⟨⟨by omega, by omega⟩, ha.e.1, ha.e.2⟩, ⟨⟨by omega, by omega⟩, ha.w, ha.f, ha.t2⟩⟩
theorem om_of {o : Oq} (ha : Oa o) : Om o := ⟨ha.a, ha.g, ha.t⟩
theorem by_strL (s : ByteArray) : Wi.By (strL s) := fun x hx => by
  unfold strL at hx
  obtain ⟨b, _, rfl⟩ := List.mem_map.1 hx
  have := b.toNat_lt
  omega
theorem by_txL (s : ByteArray) (h : s.size ≤ 40000) : Wi.By (txL s) := (by_putL _ (by omega)).app (by_strL s)
theorem by_intL (i : Int) (h1 : -9223372036854775808 ≤ i) (h2 : i ≤ 9223372036854775807) : Wi.By (intL i) := by
  unfold intL
  split
  · obtain ⟨k, _, hk, _, h⟩ := putL0 (-i).toNat (by omega)
    rw [h]
    intro x hx
    rcases List.mem_cons.1 hx with rfl | hx
    · omega
    · exact by_byteL _ k x hx
  · exact by_putL _ (by omega)
theorem by_flL (f : Bool) : Wi.By (flL f) := fun x hx => by
  rw [List.mem_singleton.1 hx]
  cases f <;> simp
theorem by_nil : Wi.By [] := fun x hx => by cases hx
theorem by_oL {o : Oq} (hg : gsB o = true) (ha : Oa o) : Wi.By (oL o) := by
  obtain ⟨⟨h1, h2⟩, -, h3, h4, h5⟩ := gs_of hg
  have b0 := by_putL o.kd.toNat (by omega)
  unfold oL
  refine b0.app (Wi.By.app ?_ (Wi.By.app ?_ (Wi.By.app ?_ (Wi.By.app ?_ ?_))))
  · split
    · exact by_txL _ h3
    · exact by_nil
  · split
    · exact by_intL _ ha.a.1 ha.a.2
    · exact by_nil
  · split
    · exact (by_putL _ (by have := ha.g; omega)).app (by_putL _ (by have := ha.t; omega))
    · exact by_nil
  · split
    · rename_i h
      obtain ⟨q1, q2, q3, q4⟩ := kr_bd (h4 (beq_iff_eq.1 h))
      unfold kL
      exact (by_txL _ (by omega)).app ((by_txL _ (by omega)).app ((by_flL _).app ((by_putL _ (by omega)).app (by_flL _))))
    · exact by_nil
  · split
    · rename_i h
      obtain ⟨q1, q2, q3, q4, q5, q6⟩ := sr_bd (h5 (beq_iff_eq.1 h))
      unfold sL
      exact (by_txL _ (by omega)).app ((by_txL _ (by omega)).app ((by_intL _ ha.w.1 ha.w.2).app ((by_intL _ ha.f.1 ha.f.2).app (by_intL _ ha.t2.1 ha.t2.2))))
    · exact by_nil
theorem by_of {l : List Int} (h : Wi.By l) : By l := fun i hi => by
  rw [List.getD_eq_getElem?_getD, List.getElem?_eq_getElem hi, Option.getD_some]
  exact h _ (List.getElem_mem hi)
structure RG (n : Nat) where
  x : Nat
  c : Nat
  h1 : n ≤ c
  h2 : c ≤ 9223372036854775807
theorem cput_nilG (n0 n1 : Nat) (o : Oq) (hg : gsB o = true) (hw : Ow o) (L : List Int) (hL : oL o = L) (n : Nat) (hn : L.length = n) : ACt Tryd.prog 9 [.lit (.slice none 0 0), ov o] [(0, .zs .u8 fsZ 256 n0), (1, .zs .u8 acZ 32 n1)]
    (fun r F' => ∃ g : RG n, r = ms g.x 0 n g.c ∧ F' = [(g.x, .zs .u8 L g.c 5), (0, .zs .u8 fsZ 256 n0), (1, .zs .u8 acZ 32 n1)]) := by
  subst hL hn
  exact (cput_nil n0 n1 o hg hw).mono fun r F' ⟨x, c, ⟨h1, h2⟩, e1, e2⟩ => ⟨⟨x, c, h1, h2⟩, e1, e2⟩
theorem pmL {α : Type} (x : α) (H : List α) : (x :: H).Perm (H ++ [x]) := (List.perm_append_singleton x H).symm
theorem pmZ {α : Type} (H : List α) : H.Perm (H ++ []) := by rw [List.append_nil]
set_option maxRecDepth 8000 in
set_option maxHeartbeats 4000000 in
theorem unlike_main (a b : Oq) (n0 n1 : Nat) (FZ AZ LA LB : List Int) (na nb p q : Nat) (x y : Bool)
    (cA : ACt Tryd.prog 6 [] [(0, .zs .u8 FZ 256 n0), (1, .zs .u8 AZ 32 n1)] (fun x F => x = bv true ∧ F = [(0, .zs .u8 FZ 256 n0), (1, .zs .u8 AZ 32 n1)]))
    (h1 : ACt Tryd.prog 7 [ov a] [] (Fn (bv false))) (h2 : ACt Tryd.prog 7 [ov b] [] (Fn (bv false))) (g1 : ACt Tryd.prog 8 [ov a] [] (Fn (bv true))) (g2 : ACt Tryd.prog 8 [ov b] [] (Fn (bv true)))
    (c1 : ACt Tryd.prog 9 [.lit (.slice none 0 0), ov a] [(0, .zs .u8 FZ 256 n0), (1, .zs .u8 AZ 32 n1)] (fun r F' => ∃ g : RG na, r = ms g.x 0 na g.c ∧ F' = [(g.x, .zs .u8 LA g.c 5), (0, .zs .u8 FZ 256 n0), (1, .zs .u8 AZ 32 n1)]))
    (c2 : ACt Tryd.prog 9 [.lit (.slice none 0 0), ov b] [(0, .zs .u8 FZ 256 n0), (1, .zs .u8 AZ 32 n1)] (fun r F' => ∃ g : RG nb, r = ms g.x 0 nb g.c ∧ F' = [(g.x, .zs .u8 LB g.c 5), (0, .zs .u8 FZ 256 n0), (1, .zs .u8 AZ 32 n1)]))
    (la : LA.length = na) (lb : LB.length = nb) (hy : oqB a b = y) (hlt : nb < na → y = false) (hge : na ≤ nb → ((bstr (LB.take na)).toList == (bstr LA).toList) = y) :
    ACt Tryd.prog 3 [ov a, ov b] [(0, .zs .u8 FZ 256 n0), (1, .zs .u8 AZ 32 n1)] (fun x F => x = bv true ∧ F = [(0, .zs .u8 FZ 256 n0), (1, .zs .u8 AZ 32 n1)]) := by
  obtain ⟨kd, tx, a, g, t, ⟨kg, kr, kp, ke, ks⟩, ⟨nm, gl, w, f, t2⟩⟩ := a
  obtain ⟨d1, d2, d3, d4, d5, ⟨e1, e2, e3, e4, e5⟩, ⟨f1, f2, f3, f4, f5⟩⟩ := b
  unfold oqB at hy
  simp only at hy
  have hf := fe30
  have ta : LA.take na = LA := by rw [← la]; exact List.take_length
  refine ACt.intro Tryd.func3 rfl (by kernel_rfl) (by simp [Tryd.ntmps3]) (fun cx => ?_)
  simp only [argE, Tryd.ntmps3, Tryd.results3]
  have FR : Sm (¬ ((1 : Nat) = 0)) := Sm.mk Nat.one_ne_zero
  (refine WP.nd fun hnd => ?_; simp only [ndF, fresh_cons, fresh_nil, and_true, ne_eq] at hnd; replace FR := Sm.mk (And.intro hnd FR.out); clear hnd)
  first | (have FRx := FR; clear FRx) | have FR := fr0S
  have FA := Sm.mk (And.intro TFCoV (And.intro hy hf))
  repeat' first | (apply Sm.mk; refine Ys ?_) | refine WP.seq fun K hK => ?_ | (apply Ob.mk; exact Yo) | refine And.intro (Ob.out ?_) ?_ | ((fail_if_success (show WP _ _ _ (.region 6 _ _) _ _)); refine Y1CoV ?_) | (refine CallV.updM (cA) (perm2 (by simp only [hget, hdel, ↓reduceIte, FR.out, hy, hf]; first | done | rfl) (by simp only [hget, hdel, ↓reduceIte, FR.out, hy, hf]; first | done | rfl)) (Sm.out ?_)) | ((first | refine ExF.up ?_ (cA) (Sm.out ?_) | refine ExG.up ?_ (fun _ => cA) (Sm.out ?_) | refine ExG.upJ ?_ (fun _ => cA) (Sm.out ?_) | refine ExG.upI ?_ (fun _ => cA) (Ob.out ?_) (Sm.out ?_)); focus (exact ⟨_, (perm2 (by simp only [hget, hdel, ↓reduceIte, FR.out, hy, hf]; first | done | rfl) (by simp only [hget, hdel, ↓reduceIte, FR.out, hy, hf]; first | done | rfl))⟩)) | (first | refine CallV.fn (h1) (Sm.out ?_) | refine ExF.mk (h1) (Sm.out ?_) | refine ExG.mk (fun _ => h1) (Sm.out ?_) | refine ExG.mkJ (fun _ => h1) (Sm.out ?_) | refine ExG.mkI (Ob.out ?_) (fun _ => h1) (Sm.out ?_)) | (first | refine CallV.fn (h2) (Sm.out ?_) | refine ExF.mk (h2) (Sm.out ?_) | refine ExG.mk (fun _ => h2) (Sm.out ?_) | refine ExG.mkJ (fun _ => h2) (Sm.out ?_) | refine ExG.mkI (Ob.out ?_) (fun _ => h2) (Sm.out ?_)) | (first | refine CallV.fn (g1) (Sm.out ?_) | refine ExF.mk (g1) (Sm.out ?_) | refine ExG.mk (fun _ => g1) (Sm.out ?_) | refine ExG.mkJ (fun _ => g1) (Sm.out ?_) | refine ExG.mkI (Ob.out ?_) (fun _ => g1) (Sm.out ?_)) | (first | refine CallV.fn (g2) (Sm.out ?_) | refine ExF.mk (g2) (Sm.out ?_) | refine ExG.mk (fun _ => g2) (Sm.out ?_) | refine ExG.mkJ (fun _ => g2) (Sm.out ?_) | refine ExG.mkI (Ob.out ?_) (fun _ => g2) (Sm.out ?_)) | (refine CallV.exM (c1) (pmZ _) (fun ga => Sm.out ?_)) | (refine WCt.exM (c1) (pmZ _) (fun ga => Sm.out ?_)) | (refine CallV.exM (c2) (pmL _ _) (fun gb => Sm.out ?_)) | (refine WCt.exM (c2) (pmL _ _) (fun gb => Sm.out ?_)) | refine YzCoV ?_ | (refine WP.cond rfl (fun hc => ?_) (fun hc => ?_) <;> (try simp only [ZC, reduceCtorEq, ZD] at hc) <;> (try exact absurd hc (by decide)) <;> (try (exfalso; omega))) | refine Rt.mk (And.intro (fun hg => Sm.out ?_) fun hg => Sm.out ?_) | (refine Nu.mk ?_; first | (fail_if_success have := nb1); intro nb1 | (fail_if_success have := nb2); intro nb2 | (fail_if_success have := nb3); intro nb3 | (fail_if_success have := nb4); intro nb4 | (fail_if_success have := nb5); intro nb5 | (fail_if_success have := nb6); intro nb6 | intro nbz) | (apply Yfr; refine Yf FR fun hFRb FR => ?_) | refine Two.mk ?_ ?_ | (apply Yxc; exact Yx) | refine Cs.mk fun hcs => Sm.out ?_ | go_step | omega | (simp only [maxLen_eq]; omega) | exact trivial
  obtain ⟨x1, k1, p1, p2⟩ := ga
  obtain ⟨x2, k2, p3, p4⟩ := gb
  simp only
  (refine WP.nd fun hnd => ?_; simp only [ndF, fresh_cons, fresh_nil, and_true, ne_eq] at hnd; replace FR := Sm.mk (And.intro hnd FR.out); clear hnd)
  by_cases hc : nb < na
  · have k1 : decide ((na : Int) > (nb : Int)) = true := decide_eq_true (by omega)
    have hy2 := hlt hc
    subst hy2
    first | (have FRx := FR; clear FRx) | have FR := fr0S
    have FA := Sm.mk (And.intro TFCoV (And.intro k1 (And.intro hy hf)))
    repeat' first | (apply Sm.mk; refine Ys ?_) | refine WP.seq fun K hK => ?_ | (apply Ob.mk; exact Yo) | refine And.intro (Ob.out ?_) ?_ | refine Y1CoV ?_ | refine YzCoV ?_ | (refine WP.cond rfl (fun hc => ?_) (fun hc => ?_) <;> (try simp only [ZC, reduceCtorEq, ZD] at hc) <;> (try exact absurd hc (by decide)) <;> (try (exfalso; omega))) | refine Rt.mk (And.intro (fun hg => Sm.out ?_) fun hg => Sm.out ?_) | (refine Nu.mk ?_; first | (fail_if_success have := nb1); intro nb1 | (fail_if_success have := nb2); intro nb2 | (fail_if_success have := nb3); intro nb3 | (fail_if_success have := nb4); intro nb4 | (fail_if_success have := nb5); intro nb5 | (fail_if_success have := nb6); intro nb6 | intro nbz) | (apply Yfr; refine Yf FR fun hFRb FR => ?_) | refine Two.mk ?_ ?_ | (apply Yxc; exact Yx) | refine Cs.mk fun hcs => Sm.out ?_ | go_step | omega | (simp only [maxLen_eq]; omega) | exact trivial
    (refine OutQ.drop _ _ (perm2 (by simp only [hget, hdel, ↓reduceIte, if_true, if_false, FR.out]; first | done | rfl) (by simp only [hget, hdel, ↓reduceIte, if_true, if_false, FR.out]; first | done | rfl)) (by simp only [resv, ZK, look, loadv, loadn, loadnm, load1, load1m, hget, ↓reduceIte, Nat.reduceEqDiff, Nat.reduceAdd, Nat.reduceMul, Nat.reduceLeDiff, Nat.reduceLT, reduceCtorEq, TFCoV, FR.out]) ⟨(by simp only [resv, resA, ZK, look, loadv, loadn, loadnm, load1, load1m, hget, ↓reduceIte, Nat.reduceEqDiff, Nat.reduceAdd, Nat.reduceMul, Nat.reduceLeDiff, Nat.reduceLT, reduceCtorEq, TFCoV, FR.out]; first | done | rfl), rfl⟩)
  · have k1 : decide ((na : Int) > (nb : Int)) = false := decide_eq_false (by omega)
    have hs := hge (by omega)
    have i1 : na ≤ nb := by omega
    have kz : (if k2 = 0 then (0 : Nat) else 0) = 0 := by split <;> rfl
    have sz : ∀ n : Nat, n - 0 = n := fun n => rfl
    have az : ∀ n : Nat, 0 + n = n := fun n => Nat.zero_add n
    have dz : LB.drop 0 = LB := rfl
    have bq : (y == y) = true := by cases y <;> rfl
    first | (have FRx := FR; clear FRx) | have FR := fr0S
    have FA := Sm.mk (And.intro TFCoV (And.intro k1 (And.intro hy (And.intro hf (And.intro hs (And.intro la (And.intro lb (And.intro ta (And.intro i1 (And.intro kz (And.intro sz (And.intro az (And.intro dz bq)))))))))))))
    repeat' first | (apply Sm.mk; refine Ys ?_) | refine WP.seq fun K hK => ?_ | (apply Ob.mk; exact Yo) | refine And.intro (Ob.out ?_) ?_ | refine Y1CoV ?_ | refine YzCoV ?_ | (refine WP.cond rfl (fun hc => ?_) (fun hc => ?_) <;> (try simp only [ZC, reduceCtorEq, ZD] at hc) <;> (try exact absurd hc (by decide)) <;> (try (exfalso; omega))) | refine Rt.mk (And.intro (fun hg => Sm.out ?_) fun hg => Sm.out ?_) | (refine Nu.mk ?_; first | (fail_if_success have := nb1); intro nb1 | (fail_if_success have := nb2); intro nb2 | (fail_if_success have := nb3); intro nb3 | (fail_if_success have := nb4); intro nb4 | (fail_if_success have := nb5); intro nb5 | (fail_if_success have := nb6); intro nb6 | intro nbz) | (apply Yfr; refine Yf FR fun hFRb FR => ?_) | refine Two.mk ?_ ?_ | (apply Yxc; exact Yx) | refine Cs.mk fun hcs => Sm.out ?_ | go_step | omega | (simp only [maxLen_eq]; omega) | exact trivial
    (refine OutQ.drop _ _ (perm2 (by simp only [hget, hdel, ↓reduceIte, if_true, if_false, FR.out]; first | done | rfl) (by simp only [hget, hdel, ↓reduceIte, if_true, if_false, FR.out]; first | done | rfl)) (by simp only [resv, ZK, look, loadv, loadn, loadnm, load1, load1m, hget, ↓reduceIte, Nat.reduceEqDiff, Nat.reduceAdd, Nat.reduceMul, Nat.reduceLeDiff, Nat.reduceLT, reduceCtorEq, TFCoV, FR.out]) ⟨(by simp only [resv, resA, ZK, look, loadv, loadn, loadnm, load1, load1m, hget, ↓reduceIte, Nat.reduceEqDiff, Nat.reduceAdd, Nat.reduceMul, Nat.reduceLeDiff, Nat.reduceLT, reduceCtorEq, TFCoV, FR.out]; first | done | rfl), rfl⟩)
theorem unlike_ct (a b : Oq) (ha : Oa a) (hb : Oa b) (n0 n1 : Nat) : ACt Tryd.prog 3 [ov a, ov b] [(0, .zs .u8 fsZ 256 n0), (1, .zs .u8 acZ 32 n1)] (fun x F => x = bv true ∧ F = [(0, .zs .u8 fsZ 256 n0), (1, .zs .u8 acZ 32 n1)]) := by
  have cA := awake_ct n0 n1
  have h1 := oheavy_ct a
  have h2 := oheavy_ct b
  by_cases hgo : ohB a = false ∧ ohB b = false ∧ gsB a = true ∧ gsB b = true
  · obtain ⟨q1, q2, q3, q4⟩ := hgo
    have wa := ow_of ha q1
    have wb := ow_of hb q2
    have g1 := rgoes_ct a wa.z
    have g2 := rgoes_ct b wb.z
    rw [q1] at h1
    rw [q2] at h2
    rw [q3] at g1
    rw [q4] at g2
    obtain ⟨LA, hLA⟩ : ∃ L, oL a = L := ⟨_, rfl⟩
    obtain ⟨LB, hLB⟩ : ∃ L, oL b = L := ⟨_, rfl⟩
    have bA := by_of (by_oL q3 ha)
    have bB := by_of (by_oL q4 hb)
    rw [hLA] at bA
    rw [hLB] at bB
    refine unlike_main a b n0 n1 fsZ acZ LA LB LA.length LB.length 0 0 true (oqB a b) cA h1 h2 g1 g2 (cput_nilG n0 n1 a q3 wa LA hLA _ rfl) (cput_nilG n0 n1 b q4 wb LB hLB _ rfl) rfl rfl rfl (fun hlt => ?_) (fun hge => ?_)
    · cases h : oqB a b with
      | false => rfl
      | true =>
        have := (oqB_iff a b).1 h
        subst this
        rw [← hLA, ← hLB] at hlt
        omega
    · rw [str_eq _ _ (fun i hi => by
        rw [List.length_take] at hi
        have := bB i (by omega)
        simpa [List.getD_eq_getElem?_getD, List.getElem?_take, show i < LA.length by omega] using this) bA]
      cases h : oqB a b with
      | true =>
        have := (oqB_iff a b).1 h
        subst this
        rw [hLA] at hLB
        rw [← hLB, List.take_length, decide_eq_true rfl]
      | false =>
        refine decide_eq_false fun he => ?_
        have : a = b := unlike q3 q4 (om_of ha) (om_of hb) (rest := LB.drop LA.length) (by
          rw [hLA, hLB]
          conv => lhs; rw [← List.take_append_drop LA.length LB, he])
        rw [(oqB_iff a b).2 this] at h
        cases h
  · by_cases q1 : ohB a = true
    · rw [q1] at h1
      clear h2 hgo
      obtain ⟨kd, tx, a, g, t, ⟨kg, kr, kp, ke, ks⟩, ⟨nm, gl, w, f, t2⟩⟩ := a
      obtain ⟨d1, d2, d3, d4, d5, ⟨e1, e2, e3, e4, e5⟩, ⟨f1, f2, f3, f4, f5⟩⟩ := b
      obtain ⟨FZ, hFZ⟩ : ∃ FZ, FZ = fsZ := ⟨_, rfl⟩
      obtain ⟨AZ, hAZ⟩ : ∃ AZ, AZ = acZ := ⟨_, rfl⟩
      rw [← hFZ, ← hAZ] at cA ⊢
      refine ACt.intro Tryd.func3 rfl (by kernel_rfl) (by simp [Tryd.ntmps3]) (fun cx => ?_)
      simp only [argE, Tryd.ntmps3, Tryd.results3]
      first | (have FRx := FR; clear FRx) | have FR := fr0S
      have FA := Sm.mk (TFCoV)
      repeat' first | (apply Sm.mk; refine Ys ?_) | refine WP.seq fun K hK => ?_ | (apply Ob.mk; exact Yo) | refine And.intro (Ob.out ?_) ?_ | refine Y1CoV ?_ | refine Yl2 (c := cA) (r := ?_) | refine Yc (c := h1) (r := ?_) | refine YzCoV ?_ | (refine WP.cond rfl (fun hc => ?_) (fun hc => ?_) <;> (try simp only [ZC, reduceCtorEq, ZD] at hc) <;> (try exact absurd hc (by decide)) <;> (try (exfalso; omega))) | refine Rt.mk (And.intro (fun hg => Sm.out ?_) fun hg => Sm.out ?_) | (refine Nu.mk ?_; first | (fail_if_success have := nb1); intro nb1 | (fail_if_success have := nb2); intro nb2 | (fail_if_success have := nb3); intro nb3 | (fail_if_success have := nb4); intro nb4 | (fail_if_success have := nb5); intro nb5 | (fail_if_success have := nb6); intro nb6 | intro nbz) | (apply Yfr; refine Yf FR fun hFRb FR => ?_) | refine Two.mk ?_ ?_ | (apply Yxc; exact Yx) | refine Cs.mk fun hcs => Sm.out ?_ | go_step | omega | (simp only [maxLen_eq]; omega) | exact trivial
      (refine OutQ.drop _ _ (perm2 (by simp only [hget, hdel, ↓reduceIte, if_true, if_false, FR.out]; first | done | rfl) (by simp only [hget, hdel, ↓reduceIte, if_true, if_false, FR.out]; first | done | rfl)) (by simp only [resv, ZK, look, loadv, loadn, loadnm, load1, load1m, hget, ↓reduceIte, Nat.reduceEqDiff, Nat.reduceAdd, Nat.reduceMul, Nat.reduceLeDiff, Nat.reduceLT, reduceCtorEq, TFCoV, FR.out]) ⟨(by simp only [resv, resA, ZK, look, loadv, loadn, loadnm, load1, load1m, hget, ↓reduceIte, Nat.reduceEqDiff, Nat.reduceAdd, Nat.reduceMul, Nat.reduceLeDiff, Nat.reduceLT, reduceCtorEq, TFCoV, FR.out]; first | done | rfl), rfl⟩)
    have q1 : ohB a = false := by simpa using q1
    rw [q1] at h1
    have wa := ow_of ha q1
    have g1 := rgoes_ct a wa.z
    by_cases q2 : ohB b = true
    · rw [q2] at h2
      clear g1 wa hgo q1
      obtain ⟨kd, tx, a, g, t, ⟨kg, kr, kp, ke, ks⟩, ⟨nm, gl, w, f, t2⟩⟩ := a
      obtain ⟨d1, d2, d3, d4, d5, ⟨e1, e2, e3, e4, e5⟩, ⟨f1, f2, f3, f4, f5⟩⟩ := b
      obtain ⟨FZ, hFZ⟩ : ∃ FZ, FZ = fsZ := ⟨_, rfl⟩
      obtain ⟨AZ, hAZ⟩ : ∃ AZ, AZ = acZ := ⟨_, rfl⟩
      rw [← hFZ, ← hAZ] at cA ⊢
      refine ACt.intro Tryd.func3 rfl (by kernel_rfl) (by simp [Tryd.ntmps3]) (fun cx => ?_)
      simp only [argE, Tryd.ntmps3, Tryd.results3]
      first | (have FRx := FR; clear FRx) | have FR := fr0S
      have FA := Sm.mk (TFCoV)
      repeat' first | (apply Sm.mk; refine Ys ?_) | refine WP.seq fun K hK => ?_ | (apply Ob.mk; exact Yo) | refine And.intro (Ob.out ?_) ?_ | refine Y1CoV ?_ | refine Yl2 (c := cA) (r := ?_) | refine Yc (c := h1) (r := ?_) | refine Yc (c := h2) (r := ?_) | refine YzCoV ?_ | (refine WP.cond rfl (fun hc => ?_) (fun hc => ?_) <;> (try simp only [ZC, reduceCtorEq, ZD] at hc) <;> (try exact absurd hc (by decide)) <;> (try (exfalso; omega))) | refine Rt.mk (And.intro (fun hg => Sm.out ?_) fun hg => Sm.out ?_) | (refine Nu.mk ?_; first | (fail_if_success have := nb1); intro nb1 | (fail_if_success have := nb2); intro nb2 | (fail_if_success have := nb3); intro nb3 | (fail_if_success have := nb4); intro nb4 | (fail_if_success have := nb5); intro nb5 | (fail_if_success have := nb6); intro nb6 | intro nbz) | (apply Yfr; refine Yf FR fun hFRb FR => ?_) | refine Two.mk ?_ ?_ | (apply Yxc; exact Yx) | refine Cs.mk fun hcs => Sm.out ?_ | go_step | omega | (simp only [maxLen_eq]; omega) | exact trivial
      (refine OutQ.drop _ _ (perm2 (by simp only [hget, hdel, ↓reduceIte, if_true, if_false, FR.out]; first | done | rfl) (by simp only [hget, hdel, ↓reduceIte, if_true, if_false, FR.out]; first | done | rfl)) (by simp only [resv, ZK, look, loadv, loadn, loadnm, load1, load1m, hget, ↓reduceIte, Nat.reduceEqDiff, Nat.reduceAdd, Nat.reduceMul, Nat.reduceLeDiff, Nat.reduceLT, reduceCtorEq, TFCoV, FR.out]) ⟨(by simp only [resv, resA, ZK, look, loadv, loadn, loadnm, load1, load1m, hget, ↓reduceIte, Nat.reduceEqDiff, Nat.reduceAdd, Nat.reduceMul, Nat.reduceLeDiff, Nat.reduceLT, reduceCtorEq, TFCoV, FR.out]; first | done | rfl), rfl⟩)
    have q2 : ohB b = false := by simpa using q2
    rw [q2] at h2
    have wb := ow_of hb q2
    have g2 := rgoes_ct b wb.z
    have hgg : gsB a = false ∨ gsB a = true ∧ gsB b = false := by
      cases h1 : gsB a with
      | false => exact .inl rfl
      | true =>
        cases h2 : gsB b with
        | false => exact .inr ⟨rfl, rfl⟩
        | true => exact absurd ⟨q1, q2, h1, h2⟩ hgo
    clear hgo q1 q2 wa wb
    obtain ⟨FZ, hFZ⟩ : ∃ FZ, FZ = fsZ := ⟨_, rfl⟩
    obtain ⟨AZ, hAZ⟩ : ∃ AZ, AZ = acZ := ⟨_, rfl⟩
    rw [← hFZ, ← hAZ] at cA ⊢
    rcases hgg with q3 | ⟨q3, q4⟩
    · rw [q3] at g1
      clear g2 q3
      obtain ⟨kd, tx, a, g, t, ⟨kg, kr, kp, ke, ks⟩, ⟨nm, gl, w, f, t2⟩⟩ := a
      obtain ⟨d1, d2, d3, d4, d5, ⟨e1, e2, e3, e4, e5⟩, ⟨f1, f2, f3, f4, f5⟩⟩ := b
      refine ACt.intro Tryd.func3 rfl (by kernel_rfl) (by simp [Tryd.ntmps3]) (fun cx => ?_)
      simp only [argE, Tryd.ntmps3, Tryd.results3]
      first | (have FRx := FR; clear FRx) | have FR := fr0S
      have FA := Sm.mk (TFCoV)
      repeat' first | (apply Sm.mk; refine Ys ?_) | refine WP.seq fun K hK => ?_ | (apply Ob.mk; exact Yo) | refine And.intro (Ob.out ?_) ?_ | refine Y1CoV ?_ | refine Yl2 (c := cA) (r := ?_) | refine Yc (c := h1) (r := ?_) | refine Yc (c := h2) (r := ?_) | refine Yc (c := g1) (r := ?_) | refine YzCoV ?_ | (refine WP.cond rfl (fun hc => ?_) (fun hc => ?_) <;> (try simp only [ZC, reduceCtorEq, ZD] at hc) <;> (try exact absurd hc (by decide)) <;> (try (exfalso; omega))) | refine Rt.mk (And.intro (fun hg => Sm.out ?_) fun hg => Sm.out ?_) | (refine Nu.mk ?_; first | (fail_if_success have := nb1); intro nb1 | (fail_if_success have := nb2); intro nb2 | (fail_if_success have := nb3); intro nb3 | (fail_if_success have := nb4); intro nb4 | (fail_if_success have := nb5); intro nb5 | (fail_if_success have := nb6); intro nb6 | intro nbz) | (apply Yfr; refine Yf FR fun hFRb FR => ?_) | refine Two.mk ?_ ?_ | (apply Yxc; exact Yx) | refine Cs.mk fun hcs => Sm.out ?_ | go_step | omega | (simp only [maxLen_eq]; omega) | exact trivial
      (refine OutQ.drop _ _ (perm2 (by simp only [hget, hdel, ↓reduceIte, if_true, if_false, FR.out]; first | done | rfl) (by simp only [hget, hdel, ↓reduceIte, if_true, if_false, FR.out]; first | done | rfl)) (by simp only [resv, ZK, look, loadv, loadn, loadnm, load1, load1m, hget, ↓reduceIte, Nat.reduceEqDiff, Nat.reduceAdd, Nat.reduceMul, Nat.reduceLeDiff, Nat.reduceLT, reduceCtorEq, TFCoV, FR.out]) ⟨(by simp only [resv, resA, ZK, look, loadv, loadn, loadnm, load1, load1m, hget, ↓reduceIte, Nat.reduceEqDiff, Nat.reduceAdd, Nat.reduceMul, Nat.reduceLeDiff, Nat.reduceLT, reduceCtorEq, TFCoV, FR.out]; first | done | rfl), rfl⟩)
    · rw [q3] at g1
      rw [q4] at g2
      clear q3 q4
      obtain ⟨kd, tx, a, g, t, ⟨kg, kr, kp, ke, ks⟩, ⟨nm, gl, w, f, t2⟩⟩ := a
      obtain ⟨d1, d2, d3, d4, d5, ⟨e1, e2, e3, e4, e5⟩, ⟨f1, f2, f3, f4, f5⟩⟩ := b
      refine ACt.intro Tryd.func3 rfl (by kernel_rfl) (by simp [Tryd.ntmps3]) (fun cx => ?_)
      simp only [argE, Tryd.ntmps3, Tryd.results3]
      first | (have FRx := FR; clear FRx) | have FR := fr0S
      have FA := Sm.mk (TFCoV)
      repeat' first | (apply Sm.mk; refine Ys ?_) | refine WP.seq fun K hK => ?_ | (apply Ob.mk; exact Yo) | refine And.intro (Ob.out ?_) ?_ | refine Y1CoV ?_ | refine Yl2 (c := cA) (r := ?_) | refine Yc (c := h1) (r := ?_) | refine Yc (c := h2) (r := ?_) | refine Yc (c := g1) (r := ?_) | refine Yc (c := g2) (r := ?_) | refine YzCoV ?_ | (refine WP.cond rfl (fun hc => ?_) (fun hc => ?_) <;> (try simp only [ZC, reduceCtorEq, ZD] at hc) <;> (try exact absurd hc (by decide)) <;> (try (exfalso; omega))) | refine Rt.mk (And.intro (fun hg => Sm.out ?_) fun hg => Sm.out ?_) | (refine Nu.mk ?_; first | (fail_if_success have := nb1); intro nb1 | (fail_if_success have := nb2); intro nb2 | (fail_if_success have := nb3); intro nb3 | (fail_if_success have := nb4); intro nb4 | (fail_if_success have := nb5); intro nb5 | (fail_if_success have := nb6); intro nb6 | intro nbz) | (apply Yfr; refine Yf FR fun hFRb FR => ?_) | refine Two.mk ?_ ?_ | (apply Yxc; exact Yx) | refine Cs.mk fun hcs => Sm.out ?_ | go_step | omega | (simp only [maxLen_eq]; omega) | exact trivial
      (refine OutQ.drop _ _ (perm2 (by simp only [hget, hdel, ↓reduceIte, if_true, if_false, FR.out]; first | done | rfl) (by simp only [hget, hdel, ↓reduceIte, if_true, if_false, FR.out]; first | done | rfl)) (by simp only [resv, ZK, look, loadv, loadn, loadnm, load1, load1m, hget, ↓reduceIte, Nat.reduceEqDiff, Nat.reduceAdd, Nat.reduceMul, Nat.reduceLeDiff, Nat.reduceLT, reduceCtorEq, TFCoV, FR.out]) ⟨(by simp only [resv, resA, ZK, look, loadv, loadn, loadnm, load1, load1m, hget, ↓reduceIte, Nat.reduceEqDiff, Nat.reduceAdd, Nat.reduceMul, Nat.reduceLeDiff, Nat.reduceLT, reduceCtorEq, TFCoV, FR.out]; first | done | rfl), rfl⟩)
theorem unlike_law {xs ys : List AV} (hx : Shp opTy xs) (hy : Shp opTy ys) (n0 n1 : Nat) : ACt Tryd.prog 3 [.agg xs, .agg ys] [(0, .zs .u8 fsZ 256 n0), (1, .zs .u8 acZ 32 n1)] (fun x F => x = bv true ∧ F = [(0, .zs .u8 fsZ 256 n0), (1, .zs .u8 acZ 32 n1)]) := by
  obtain ⟨a, e1, ha⟩ := op_shp hx
  obtain ⟨b, e2, hb⟩ := op_shp hy
  rw [e1, e2]
  exact unlike_ct a b ha hb n0 n1
end Go.Proofs.YtpidkkgjgichdaaDoor
