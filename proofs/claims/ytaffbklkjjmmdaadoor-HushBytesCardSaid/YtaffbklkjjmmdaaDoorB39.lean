/-
  The walks and the laws that the statement leans on, part 39.
-/
import Derived.Test.YtaffbklkjjmmdaaDoorB12
import Derived.Test.YtaffbklkjjmmdaaDoorB15
namespace Go.Proofs.YtaffbklkjjmmdaaDoor.Wi
open Go
set_option linter.unusedVariables false
set_option linter.unusedSimpArgs false
def stM : Option (List Int) → MB
  | none => rdN
  | some zs => rd zs false
def okS : Option (List Int) → Prop
  | none => True
  | some zs => By zs ∧ zs.length ≤ 10000
def rS {α : Type} (d : α) (F : List Int → Option (α × List Int)) : Option (List Int) → α × Option (List Int)
  | none => (d, none)
  | some zs => match F zs with
    | none => (d, none)
    | some p => (p.1, some p.2)
theorem rS_bad {α : Type} {d : α} {F : List Int → Option (α × List Int)} {zs : List Int} (h : F zs = none) : rS d F (some zs) = (d, none) := by simp only [rS, h]
theorem rS_good {α : Type} {d x : α} {F : List Int → Option (α × List Int)} {zs r : List Int} (h : F zs = some (x, r)) : rS d F (some zs) = (x, some r) := by simp only [rS, h]
def SufF {α : Type} (F : List Int → Option (α × List Int)) : Prop := ∀ zs x r, By zs → F zs = some (x, r) → ∃ k, r = zs.drop k
theorem rS_ok {α : Type} {d : α} {F : List Int → Option (α × List Int)} (hF : SufF F) {o : Option (List Int)} (h : okS o) : okS (rS d F o).2 := by
  cases o with
  | none => exact trivial
  | some zs =>
    cases hn : F zs with
    | none => rw [rS_bad hn]; exact trivial
    | some p =>
      obtain ⟨x, r⟩ := p
      rw [rS_good hn]
      obtain ⟨k, rfl⟩ := hF zs x r h.1 hn
      exact ⟨h.1.drop k, by have := h.2; simp; omega⟩
theorem nF_sf : SufF nF := fun zs n r hb h => ⟨_, (nF_bd hb h).2.2.2⟩
theorem cF_sf (m : Int) : SufF (cF m) := fun zs n r hb h => ⟨_, (cF_bd hb h).2.2.2.2⟩
theorem tF_sf (m : Int) : SufF (tF m) := fun zs l r hb h => by
  unfold tF at h
  cases hg : cF m zs with
  | none => rw [hg] at h; cases h
  | some q =>
    obtain ⟨n, r'⟩ := q
    rw [hg] at h
    simp only at h
    split at h
    · cases h
    · cases h
      obtain ⟨k, rfl⟩ := cF_sf m zs n r' hb hg
      exact ⟨k + n, by rw [List.drop_drop]⟩
theorem iF_sf : SufF iF := fun zs i r hb h => by
  unfold iF at h
  cases hg : gF 16 zs with
  | none => rw [hg] at h; cases h
  | some q =>
    obtain ⟨s, n, r'⟩ := q
    rw [hg] at h
    simp only at h
    split at h
    · cases h
    · cases h; exact ⟨_, (gF_bd hb hg).2.2.2.2⟩
theorem fF_sf : SufF fF := fun zs f r hb h => by
  cases zs with
  | nil => cases h
  | cons c t =>
    simp only [fF] at h
    split at h
    · cases h
    · cases h; exact ⟨1, rfl⟩
abbrev cS (m : Int) := rS 0 (cF m)
abbrev tS (m : Int) := rS [] (tF m)
abbrev iS := rS 0 iF
theorem of_rS {α : Type} {f : FuncId} {b : Nat} {args : List AV} {d : α} {F : List Int → Option (α × List Int)} {dv : AV} {g : α → AV} {o : Option (List Int)} (hd : dv = g d)
    (hN : ACt Tryd.prog f args [(b, rdN)] (fun r F' => r = dv ∧ F' = [(b, rdN)]))
    (hX : ∀ zs, o = some zs → ACt Tryd.prog f args [(b, rd zs false)] (fun r F' => r = oE dv g (F zs) ∧ F' = [(b, rO (F zs))])) :
    ACt Tryd.prog f args [(b, stM o)] (fun r F' => r = g (rS d F o).1 ∧ F' = [(b, stM (rS d F o).2)]) := by
  subst hd
  cases o with
  | none => exact hN
  | some zs =>
    have c := hX zs rfl
    cases hn : F zs with
    | none => rw [rS_bad hn]; rw [hn] at c; exact c
    | some p => rw [rS_good hn]; rw [hn] at c; exact c
theorem countS (b : Nat) (m : Int) (h1 : -9223372036854775808 ≤ m) (h2 : m ≤ 9223372036854775807) (o : Option (List Int)) (h : okS o) : ACt Tryd.prog 52 [pt b 0, iv .i64 m] [(b, stM o)] (fun r F' => r = iv .i64 ((cS m o).1 : Int) ∧ F' = [(b, stM (cS m o).2)]) :=
  of_rS (g := fun n : Nat => iv .i64 (n : Int)) rfl (countN b m h1 h2) fun zs e => by subst e; exact countX b zs m h.1 h.2 h1 h2
theorem textS (b : Nat) (m : Int) (h1 : -9223372036854775808 ≤ m) (h2 : m ≤ 9223372036854775807) (o : Option (List Int)) (h : okS o) : ACt Tryd.prog 50 [pt b 0, iv .i64 m] [(b, stM o)] (fun r F' => r = .lit (.string (bstr (tS m o).1)) ∧ F' = [(b, stM (tS m o).2)]) :=
  of_rS (g := fun l => .lit (.string (bstr l))) rfl (textN b m h1 h2) fun zs e => by subst e; exact textX b zs m h.1 h.2 h1 h2
theorem intS (b : Nat) (o : Option (List Int)) (h : okS o) : ACt Tryd.prog 51 [pt b 0] [(b, stM o)] (fun r F' => r = iv .i64 (iS o).1 ∧ F' = [(b, stM (iS o).2)]) :=
  of_rS (g := fun i : Int => iv .i64 i) rfl (intN b) fun zs e => by subst e; exact intX b zs h.1 h.2
theorem badS (b : Nat) (o : Option (List Int)) : ACt Tryd.prog 29 [pt b 0] [(b, stM o)] (fun r F' => r = bv o.isNone ∧ F' = [(b, stM o)]) := by
  cases o with
  | none => exact bad_e b true
  | some zs => exact badR b zs false
theorem spoilS (b : Nat) (o : Option (List Int)) (h : okS o) : ACt Tryd.prog 52 [pt b 0, iv .i64 (-1)] [(b, stM o)] (fun r F' => r = iv .i64 0 ∧ F' = [(b, rdN)]) := by
  have c := countS b (-1) (by omega) (by omega) o h
  have e : cS (-1) o = (0, none) := by
    cases o with
    | none => rfl
    | some zs =>
      refine rS_bad ?_
      unfold cF
      split <;> simp
  rw [e] at c
  exact c
theorem gF16_put (sg : Bool) (n : Nat) (rest : List Int) (hn : n < 18446744073709551616) : gF 16 (putL (if sg then 16 else 0) n ++ rest) = some (if sg then 16 else 0, n, rest) := by
  obtain ⟨k, hk, hk9, h0, h16⟩ := putL0 n hn
  have a := and16 k hk9
  have hlt : n < 256 ^ k := size_le.1 (Nat.le_of_eq hk.symm)
  have hlb := byteL_len n k
  have hz : ¬ (0 < k ∧ (byteL n k ++ rest).getD 0 0 = 0) := by
    rintro ⟨h0, h1⟩
    have e : (byteL n k ++ rest).getD 0 0 = ((n / 256 ^ (k - 1 - 0) % 256 : Nat) : Int) := by
      rw [← byteL_at n k 0 h0]
      simp only [List.getD_eq_getElem?_getD]
      rw [List.getElem?_append_left (by omega)]
    have hge : 256 ^ (k - 1) ≤ n := by
      apply Classical.byContradiction; intro hc
      have := size_le.2 (show n < 256 ^ (k - 1) by omega)
      omega
    have hne := byteL_hd (k := k - 1) (by rw [show k - 1 + 1 = k by omega]; exact hlt) hge
    rw [e, Nat.sub_zero] at h1
    exact hne (by exact_mod_cast h1)
  have hcond : ¬ (8 < k ∨ (byteL n k ++ rest).length < k ∨ 0 < k ∧ (byteL n k ++ rest).getD 0 0 = 0) := by
    rintro (h1 | h1 | h1)
    · omega
    · rw [List.length_append] at h1; omega
    · exact hz h1
  cases sg
  · simp only [Bool.false_eq_true, if_false]
    rw [h0, List.cons_append]
    simp only [gF, a.2.2.2.1, a.2.2.1, Int.toNat_natCast]
    rw [if_neg hcond, List.take_left' hlb, List.drop_left' hlb, valL_byteL, Nat.mod_eq_of_lt hlt]
  · simp only [if_true]
    rw [h16, List.cons_append]
    simp only [gF, a.2.1, a.1, Int.toNat_natCast]
    rw [if_neg hcond, List.take_left' hlb, List.drop_left' hlb, valL_byteL, Nat.mod_eq_of_lt hlt]
theorem iF_put (i : Int) (rest : List Int) (h1 : -9223372036854775808 ≤ i) (h2 : i ≤ 9223372036854775807) : iF (intL i ++ rest) = some (i, rest) := by
  unfold intL
  by_cases h : i < 0
  · rw [if_pos h]
    have e := gF16_put true (-i).toNat rest (by omega)
    simp only [if_true] at e
    unfold iF
    rw [e]
    simp only
    rw [if_neg (by omega), if_pos (by decide)]
    simp only [Option.some.injEq, Prod.mk.injEq, and_true]
    omega
  · rw [if_neg h]
    have e := gF16_put false i.toNat rest (by omega)
    simp only [Bool.false_eq_true, if_false] at e
    unfold iF
    rw [e]
    simp only
    rw [if_neg (by omega), if_neg (by decide)]
    simp only [Option.some.injEq, Prod.mk.injEq, and_true]
    omega
theorem cF_put (n m : Nat) (rest : List Int) (hn : n < 18446744073709551616) (hm : n ≤ m) : cF m (putL 0 n ++ rest) = some (n, rest) := by
  unfold cF
  rw [nF_put n rest hn]
  simp only
  rw [if_neg (by omega)]
theorem tF_put (s : ByteArray) (m : Nat) (rest : List Int) (hs : s.size ≤ m) (hm : m ≤ 1000000) : tF m (putL 0 s.size ++ strL s ++ rest) = some (strL s, rest) := by
  unfold tF
  rw [List.append_assoc, cF_put s.size m _ (by omega) hs]
  have hl := strL_len s
  simp only
  rw [if_neg (by rw [List.length_append]; omega), List.take_left' hl, List.drop_left' hl]
theorem gF16_canon {zs r : List Int} {s : Int} {n : Nat} (hb : By zs) (h : gF 16 zs = some (s, n, r)) : (s = 0 ∨ s = 16) ∧ zs = putL s n ++ r := by
  cases zs with
  | nil => cases h
  | cons c t =>
    have hc := hb c (List.mem_cons_self ..)
    obtain ⟨m, rfl⟩ := Int.eq_ofNat_of_zero_le hc.1
    obtain ⟨k, s', hk, a1, a2, hke, hse, _, _⟩ := and256 m (by omega)
    simp only [gF, a1, a2, Int.toNat_natCast] at h
    split at h
    · cases h
    rename_i hg
    simp only [Option.some.injEq, Prod.mk.injEq] at h
    obtain ⟨rfl, rfl, rfl⟩ := h
    have hbt := hb.tail.take k
    have hlen : (t.take k).length = k := by simp; omega
    have hs := valL_size hbt (by
      by_cases h0 : k = 0
      · subst h0; left; rfl
      · right
        intro h1
        have : (t.take k).getD 0 0 = t.getD 0 0 := by
          simp only [List.getD_eq_getElem?_getD]
          rw [List.getElem?_take_of_lt (by omega)]
        rw [this] at h1
        exact hg (.inr (.inr ⟨by omega, h1⟩)))
    have hv := byteL_valL hbt
    rw [hlen] at hs hv
    by_cases hbit : m / 16 % 2 = 1
    · rw [if_pos hbit] at hke hse
      refine ⟨.inr (by rw [hse]; rfl), ?_⟩
      unfold putL
      rw [← hs, hv, hse]
      have := or16 k (by omega)
      rw [show ((16 : Nat) : Int) = 16 from rfl, this, List.cons_append, List.take_append_drop]
      congr 1
      omega
    · rw [if_neg hbit] at hke hse
      refine ⟨.inl (by rw [hse]; rfl), ?_⟩
      unfold putL
      rw [← hs, hv, hse]
      have := or0 k (by omega)
      rw [show ((0 : Nat) : Int) = 0 from rfl, this, List.cons_append, List.take_append_drop]
      congr 1
      omega
theorem iF_canon {zs r : List Int} {i : Int} (hb : By zs) (h : iF zs = some (i, r)) : zs = intL i ++ r := by
  unfold iF at h
  cases hg : gF 16 zs with
  | none => rw [hg] at h; cases h
  | some q =>
    obtain ⟨s, n, r'⟩ := q
    rw [hg] at h
    simp only at h
    split at h
    · cases h
    rename_i hc
    simp only [Option.some.injEq, Prod.mk.injEq] at h
    obtain ⟨rfl, rfl⟩ := h
    obtain ⟨hs, e⟩ := gF16_canon hb hg
    rw [e]
    congr 1
    unfold intL
    rcases hs with rfl | rfl
    · rw [if_neg (show ¬ ((0 : Int) ≠ 0) by decide), if_neg (by omega), Int.toNat_natCast]
    · rw [if_pos (show (16 : Int) ≠ 0 by decide), if_pos (by omega)]
      congr 1
      omega
theorem cF_canon {zs r : List Int} {m : Int} {n : Nat} (hb : By zs) (h : cF m zs = some (n, r)) : zs = putL 0 n ++ r ∧ (n : Int) ≤ m := by
  unfold cF at h
  cases hn : nF zs with
  | none => rw [hn] at h; cases h
  | some q =>
    obtain ⟨n', r'⟩ := q
    rw [hn] at h
    simp only at h
    split at h
    · cases h
    · cases h
      exact ⟨nF_canon hb hn, by omega⟩
theorem strL_bstr {l : List Int} (hb : By l) : strL (bstr l) = l := by
  unfold strL bstr
  simp only [List.map_map]
  have : l.map ((fun b : UInt8 => (b.toNat : Int)) ∘ fun n : Int => UInt8.ofNat n.toNat) = l.map id := List.map_congr_left fun x hx => by
    have := hb x hx
    simp only [Function.comp, id]
    rw [UInt8.toNat_ofNat', Nat.mod_eq_of_lt (by omega)]
    omega
  rw [this, List.map_id]
theorem tF_canon {zs l r : List Int} {m : Int} (hb : By zs) (h : tF m zs = some (l, r)) : zs = putL 0 (bstr l).size ++ strL (bstr l) ++ r ∧ ((bstr l).size : Int) ≤ m ∧ (bstr l).size ≤ zs.length ∧ By l := by
  unfold tF at h
  cases hn : cF m zs with
  | none => rw [hn] at h; cases h
  | some q =>
    obtain ⟨n, r'⟩ := q
    rw [hn] at h
    simp only at h
    split at h
    · cases h
    rename_i hlt
    cases h
    obtain ⟨e, hm⟩ := cF_canon hb hn
    have hb' : By r' := fun x hx => hb x (by rw [e]; exact List.mem_append_right _ hx)
    have hsz : (bstr (r'.take n)).size = n := by
      have : (bstr (r'.take n)).size = (r'.take n).length := by simp [bstr, ByteArray.size]
      rw [this, List.length_take]; omega
    refine ⟨?_, by rw [hsz]; exact hm, ?_, hb'.take n⟩
    · rw [hsz, strL_bstr (hb'.take n), List.append_assoc, List.take_append_drop]
      exact e
    · rw [hsz, e, List.length_append]; omega
end Go.Proofs.YtaffbklkjjmmdaaDoor.Wi
