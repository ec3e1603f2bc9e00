/-
  A reading by the reader and by the document, side by side.
-/
import Derived.Test.YtkfhekenaogceaaWiZA
namespace Go.Proofs.Ytkfhekenaogceaa
open Go
set_option linter.unusedVariables false
set_option linter.unusedSimpArgs false

def eB : ByteArray := ⟨#[]⟩
structure RdOk (rb : Nat) (kind most : Int) (RS RS' : MB) (N I : Int) (S : ByteArray) (F : Bool) : Prop where
  num : kind = 0 → ACt Try.prog 13 [pt rb 0] [(rb, RS)] (fun r F' => r = iv .u64 N ∧ F' = [(rb, RS')]) ∧ I = 0 ∧ S = eB ∧ F = false
  int : kind = 1 → ACt Try.prog 9 [pt rb 0] [(rb, RS)] (fun r F' => r = iv .i64 I ∧ F' = [(rb, RS')]) ∧ N = 0 ∧ S = eB ∧ F = false
  txt : kind = 2 → ACt Try.prog 10 [pt rb 0, iv .i64 most] [(rb, RS)] (fun r F' => r = .lit (.string S) ∧ F' = [(rb, RS')]) ∧ N = 0 ∧ I = 0 ∧ F = false
  flg : kind = 3 → ACt Try.prog 11 [pt rb 0] [(rb, RS)] (fun r F' => r = bv F ∧ F' = [(rb, RS')]) ∧ N = 0 ∧ I = 0 ∧ S = eB
  cnt : kind = 4 → ACt Try.prog 12 [pt rb 0, iv .i64 most] [(rb, RS)] (fun r F' => r = iv .i64 N ∧ F' = [(rb, RS')]) ∧ I = 0 ∧ S = eB ∧ F = false ∧ 0 ≤ N ∧ N ≤ 9223372036854775807
theorem rdOk_bad (rb : Nat) (kind most : Int) (h1 : -9223372036854775808 ≤ most) (h2 : most ≤ 9223372036854775807) : RdOk rb kind most rdN rdN 0 0 eB false :=
  ⟨fun _ => ⟨numN rb, rfl, rfl, rfl⟩, fun _ => ⟨intN rb, rfl, rfl, rfl⟩, fun _ => ⟨textN rb most h1 h2, rfl, rfl, rfl⟩, fun _ => ⟨flagN rb, rfl, rfl, rfl⟩, fun _ => ⟨countN rb most h1 h2, rfl, rfl, rfl, by omega, by omega⟩⟩
/-- a suffix -/
def Suf (r Z : List Int) : Prop := ∃ p, Z = p ++ r
theorem Suf.drop {r Z : List Int} (h : Suf r Z) : Z.drop (Z.length - r.length) = r ∧ r.length ≤ Z.length := by
  obtain ⟨p, rfl⟩ := h
  refine ⟨?_, by simp⟩
  rw [show (p ++ r).length - r.length = p.length by simp]
  exact List.drop_left' rfl
theorem Suf.trans {a b c : List Int} (h1 : Suf a b) (h2 : Suf b c) : Suf a c := by
  obtain ⟨p, rfl⟩ := h1
  obtain ⟨q, rfl⟩ := h2
  exact ⟨q ++ p, by rw [List.append_assoc]⟩
theorem Suf.of_drop (Z : List Int) (k : Nat) : Suf (Z.drop k) Z := ⟨Z.take k, (List.take_append_drop k Z).symm⟩
theorem gF_suf {sgn s : Int} {zs r : List Int} {n : Nat} (hb : By zs) (h : gF sgn zs = some (s, n, r)) : Suf r zs := by
  have := (gF_bd hb h).2.2.2.2
  rw [this]; exact Suf.of_drop _ _
theorem nF_suf {zs r : List Int} {n : Nat} (hb : By zs) (h : nF zs = some (n, r)) : Suf r zs := by
  have := (nF_bd hb h).2.2.2
  rw [this]; exact Suf.of_drop _ _
theorem cF_suf {zs r : List Int} {m : Int} {n : Nat} (hb : By zs) (h : cF m zs = some (n, r)) : Suf r zs := by
  have := (cF_bd hb h).2.2.2.2
  rw [this]; exact Suf.of_drop _ _
/-- What both make of it. -/
theorem rdOk_good (rb : Nat) (kind most : Int) (zs : List Int) (hb : By zs) (hz : zs.length ≤ 10000) (h1 : -9223372036854775808 ≤ most) (h2 : most ≤ 9223372036854775807) :
    (∃ N I S F r, rdF kind most zs = some (.agg [iv .u64 N, iv .i64 I, .lit (.string S), bv F], r) ∧ Suf r zs ∧ RdOk rb kind most (rd zs false) (rd r false) N I S F) ∨
    (rdF kind most zs = none ∧ RdOk rb kind most (rd zs false) rdN 0 0 eB false) := by
  have cn := numX rb zs hb hz
  have ci := intX rb zs hb hz
  have cc := countX rb zs most hb hz h1 h2
  have ct := textX rb zs most hb hz h1 h2
  have cf := flagX rb zs hz
  by_cases k3 : kind = 3
  · subst k3
    have hr : rdF 3 most zs = (fF zs).map fun p => (.agg [nu 0, iv .i64 0, eS, bv p.1], p.2) := rfl
    rw [hr]
    cases hf : fF zs with
    | none =>
      rw [hf] at cf
      exact .inr ⟨rfl, ⟨fun h => absurd h (by decide), fun h => absurd h (by decide), fun h => absurd h (by decide), fun _ => ⟨cf, rfl, rfl, rfl⟩, fun h => absurd h (by decide)⟩⟩
    | some p =>
      obtain ⟨b, r⟩ := p
      rw [hf] at cf
      refine .inl ⟨0, 0, eB, b, r, rfl, ?_, ⟨fun h => absurd h (by decide), fun h => absurd h (by decide), fun h => absurd h (by decide), fun _ => ⟨cf, rfl, rfl, rfl⟩, fun h => absurd h (by decide)⟩⟩
      cases zs with
      | nil => cases hf
      | cons c t =>
        simp only [fF] at hf
        split at hf
        · cases hf
        · cases hf; exact ⟨[c], rfl⟩
  by_cases k1 : kind = 1
  · subst k1
    have hr : rdF 1 most zs = (iF zs).map fun p => (.agg [nu 0, iv .i64 p.1, eS, bv false], p.2) := rfl
    rw [hr]
    cases hf : iF zs with
    | none =>
      rw [hf] at ci
      exact .inr ⟨rfl, ⟨fun h => absurd h (by decide), fun _ => ⟨ci, rfl, rfl, rfl⟩, fun h => absurd h (by decide), fun h => absurd h (by decide), fun h => absurd h (by decide)⟩⟩
    | some p =>
      obtain ⟨i, r⟩ := p
      rw [hf] at ci
      refine .inl ⟨0, i, eB, false, r, rfl, ?_, ⟨fun h => absurd h (by decide), fun _ => ⟨ci, rfl, rfl, rfl⟩, fun h => absurd h (by decide), fun h => absurd h (by decide), fun h => absurd h (by decide)⟩⟩
      unfold iF at hf
      cases hg : gF 16 zs with
      | none => rw [hg] at hf; cases hf
      | some q =>
        obtain ⟨s, n, r'⟩ := q
        rw [hg] at hf
        simp only at hf
        split at hf
        · cases hf
        · cases hf; exact gF_suf hb hg
  by_cases k0 : kind = 0
  · subst k0
    have hr : rdF 0 most zs = (nF zs).map fun p => (.agg [nu p.1, iv .i64 0, eS, bv false], p.2) := rfl
    rw [hr]
    cases hf : nF zs with
    | none =>
      rw [hf] at cn
      exact .inr ⟨rfl, ⟨fun _ => ⟨cn, rfl, rfl, rfl⟩, fun h => absurd h (by decide), fun h => absurd h (by decide), fun h => absurd h (by decide), fun h => absurd h (by decide)⟩⟩
    | some p =>
      obtain ⟨n, r⟩ := p
      rw [hf] at cn
      exact .inl ⟨n, 0, eB, false, r, rfl, nF_suf hb hf, ⟨fun _ => ⟨cn, rfl, rfl, rfl⟩, fun h => absurd h (by decide), fun h => absurd h (by decide), fun h => absurd h (by decide), fun h => absurd h (by decide)⟩⟩
  by_cases k4 : kind = 4
  · subst k4
    have hr : rdF 4 most zs = (cF most zs).map fun p => (.agg [nu p.1, iv .i64 0, eS, bv false], p.2) := rfl
    rw [hr]
    cases hf : cF most zs with
    | none =>
      rw [hf] at cc
      exact .inr ⟨rfl, ⟨fun h => absurd h (by decide), fun h => absurd h (by decide), fun h => absurd h (by decide), fun h => absurd h (by decide), fun _ => ⟨cc, rfl, rfl, rfl, by omega, by omega⟩⟩⟩
    | some p =>
      obtain ⟨n, r⟩ := p
      rw [hf] at cc
      have := cF_bd hb hf
      exact .inl ⟨n, 0, eB, false, r, rfl, cF_suf hb hf, ⟨fun h => absurd h (by decide), fun h => absurd h (by decide), fun h => absurd h (by decide), fun h => absurd h (by decide), fun _ => ⟨cc, rfl, rfl, rfl, by omega, by omega⟩⟩⟩
  have hr : rdF kind most zs = (tF most zs).map fun p => (.agg [nu 0, iv .i64 0, .lit (.string (bstr p.1)), bv false], p.2) := by
    unfold rdF; rw [if_neg k3, if_neg k1, if_neg k0, if_neg k4]
  rw [hr]
  cases hf : tF most zs with
  | none =>
    rw [hf] at ct
    exact .inr ⟨rfl, ⟨fun h => absurd h k0, fun h => absurd h k1, fun _ => ⟨ct, rfl, rfl, rfl⟩, fun h => absurd h k3, fun h => absurd h k4⟩⟩
  | some p =>
    obtain ⟨l, r⟩ := p
    rw [hf] at ct
    refine .inl ⟨0, 0, bstr l, false, r, rfl, ?_, ⟨fun h => absurd h k0, fun h => absurd h k1, fun _ => ⟨ct, rfl, rfl, rfl⟩, fun h => absurd h k3, fun h => absurd h k4⟩⟩
    unfold tF at hf
    cases hg : cF most zs with
    | none => rw [hg] at hf; cases hf
    | some q =>
      obtain ⟨n, r'⟩ := q
      rw [hg] at hf
      simp only at hf
      split at hf
      · cases hf
      · cases hf; exact (Suf.of_drop r' n).trans (cF_suf hb hg)
end Go.Proofs.Ytkfhekenaogceaa
