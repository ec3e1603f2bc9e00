/-
  The walks and the laws that the statement leans on, part 40.
-/
import Derived.Test.YtfknbndmabogjaaDoorE34
import Derived.Test.YtfknbndmabogjaaDoorE38
namespace Go.Proofs.YtfknbndmabogjaaDoor.Wi
open Go
set_option linter.unusedVariables false
set_option linter.unusedSimpArgs false
def stM : Option (List Int) → MB
  | none => rdN
  | some zs => rd zs false
def okS : Option (List Int) → Prop
  | none => True
  | some zs => By zs ∧ zs.length ≤ 100000
def rS {α : Type} (d : α) (F : List Int → Option (α × List Int)) : Option (List Int) → α × Option (List Int)
  | none => (d, none)
  | some zs => match F zs with
    | none => (d, none)
    | some p => (p.1, some p.2)
theorem rS_bad {α : Type} {d : α} {F : List Int → Option (α × List Int)} {zs : List Int} (h : F zs = none) : rS d F (some zs) = (d, none) := by simp only [rS, h]
theorem rS_good {α : Type} {d x : α} {F : List Int → Option (α × List Int)} {zs r : List Int} (h : F zs = some (x, r)) : rS d F (some zs) = (x, some r) := by simp only [rS, h]
def SufF {α : Type} (F : List Int → Option (α × List Int)) : Prop := ∀ zs x r, By zs → F zs = some (x, r) → ∃ k, r = zs.drop k
theorem rS_ok {α : Type} {d : α} {F : List Int → Option (α × List Int)} (hF : SufF F) {o : Option (List Int)} (h : okS o) : okS (rS d F o).2 := by
  cases o with
  | none => exact trivial
  | some zs =>
    cases hn : F zs with
    | none => rw [rS_bad hn]; exact trivial
    | some p =>
      obtain ⟨x, r⟩ := p
      rw [rS_good hn]
      obtain ⟨k, rfl⟩ := hF zs x r h.1 hn
      exact ⟨h.1.drop k, by have := h.2; simp; omega⟩
theorem nF_sf : SufF nF := fun zs n r hb h => ⟨_, (nF_bd hb h).2.2.2⟩
theorem cF_sf (m : Int) : SufF (cF m) := fun zs n r hb h => ⟨_, (cF_bd hb h).2.2.2.2⟩
theorem tF_sf (m : Int) : SufF (tF m) := fun zs l r hb h => by
  unfold tF at h
  cases hg : cF m zs with
  | none => rw [hg] at h; cases h
  | some q =>
    obtain ⟨n, r'⟩ := q
    rw [hg] at h
    simp only at h
    split at h
    · cases h
    · cases h
      obtain ⟨k, rfl⟩ := cF_sf m zs n r' hb hg
      exact ⟨k + n, by rw [List.drop_drop]⟩
theorem iF_sf : SufF iF := fun zs i r hb h => by
  unfold iF at h
  cases hg : gF 16 zs with
  | none => rw [hg] at h; cases h
  | some q =>
    obtain ⟨s, n, r'⟩ := q
    rw [hg] at h
    simp only at h
    split at h
    · cases h
    · cases h; exact ⟨_, (gF_bd hb hg).2.2.2.2⟩
theorem fF_sf : SufF fF := fun zs f r hb h => by
  cases zs with
  | nil => cases h
  | cons c t =>
    simp only [fF] at h
    split at h
    · cases h
    · cases h; exact ⟨1, rfl⟩
abbrev nS := rS 0 nF
abbrev cS (m : Int) := rS 0 (cF m)
abbrev tS (m : Int) := rS [] (tF m)
abbrev fS := rS false fF
theorem of_rS {α : Type} {f : FuncId} {b : Nat} {args : List AV} {d : α} {F : List Int → Option (α × List Int)} {dv : AV} {g : α → AV} {o : Option (List Int)} (hd : dv = g d)
    (hN : ACt Tryd.prog f args [(b, rdN)] (fun r F' => r = dv ∧ F' = [(b, rdN)]))
    (hX : ∀ zs, o = some zs → ACt Tryd.prog f args [(b, rd zs false)] (fun r F' => r = oE dv g (F zs) ∧ F' = [(b, rO (F zs))])) :
    ACt Tryd.prog f args [(b, stM o)] (fun r F' => r = g (rS d F o).1 ∧ F' = [(b, stM (rS d F o).2)]) := by
  subst hd
  cases o with
  | none => exact hN
  | some zs =>
    have c := hX zs rfl
    cases hn : F zs with
    | none => rw [rS_bad hn]; rw [hn] at c; exact c
    | some p => rw [rS_good hn]; rw [hn] at c; exact c
theorem numS (b : Nat) (o : Option (List Int)) (h : okS o) : ACt Tryd.prog 65 [pt b 0] [(b, stM o)] (fun r F' => r = iv .u64 ((nS o).1 : Int) ∧ F' = [(b, stM (nS o).2)]) :=
  of_rS (g := fun n : Nat => iv .u64 (n : Int)) rfl (numN b) fun zs e => by subst e; exact numX b zs h.1 h.2
theorem countS (b : Nat) (m : Int) (h1 : -9223372036854775808 ≤ m) (h2 : m ≤ 9223372036854775807) (o : Option (List Int)) (h : okS o) : ACt Tryd.prog 61 [pt b 0, iv .i64 m] [(b, stM o)] (fun r F' => r = iv .i64 ((cS m o).1 : Int) ∧ F' = [(b, stM (cS m o).2)]) :=
  of_rS (g := fun n : Nat => iv .i64 (n : Int)) rfl (countN b m h1 h2) fun zs e => by subst e; exact countX b zs m h.1 h.2 h1 h2
theorem textS (b : Nat) (m : Int) (h1 : -9223372036854775808 ≤ m) (h2 : m ≤ 9223372036854775807) (o : Option (List Int)) (h : okS o) : ACt Tryd.prog 87 [pt b 0, iv .i64 m] [(b, stM o)] (fun r F' => r = .lit (.string (bstr (tS m o).1)) ∧ F' = [(b, stM (tS m o).2)]) :=
  of_rS (g := fun l => .lit (.string (bstr l))) rfl (textN b m h1 h2) fun zs e => by subst e; exact textX b zs m h.1 h.2 h1 h2
theorem flagS (b : Nat) (o : Option (List Int)) (h : okS o) : ACt Tryd.prog 64 [pt b 0] [(b, stM o)] (fun r F' => r = bv (fS o).1 ∧ F' = [(b, stM (fS o).2)]) :=
  of_rS (g := fun f : Bool => bv f) rfl (flagN b) fun zs e => by subst e; exact flagX b zs h.2
theorem badS (b : Nat) (o : Option (List Int)) : ACt Tryd.prog 35 [pt b 0] [(b, stM o)] (fun r F' => r = bv o.isNone ∧ F' = [(b, stM o)]) := by
  cases o with
  | none => exact bad_e b true
  | some zs => exact badR b zs false
theorem spoilS (b : Nat) (o : Option (List Int)) (h : okS o) : ACt Tryd.prog 61 [pt b 0, iv .i64 (-1)] [(b, stM o)] (fun r F' => r = iv .i64 0 ∧ F' = [(b, rdN)]) := by
  have c := countS b (-1) (by omega) (by omega) o h
  have e : cS (-1) o = (0, none) := by
    cases o with
    | none => rfl
    | some zs =>
      refine rS_bad ?_
      unfold cF
      split <;> simp
  rw [e] at c
  exact c
end Go.Proofs.YtfknbndmabogjaaDoor.Wi
