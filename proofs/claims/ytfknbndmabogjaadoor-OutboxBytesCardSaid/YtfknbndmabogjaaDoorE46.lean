/-
  The walks and the laws that the statement leans on, part 46.
-/
import Derived.Test.YtfknbndmabogjaaDoorE45
namespace Go.Proofs.YtfknbndmabogjaaDoor
open Go Wi
set_option linter.unusedVariables false
set_option linter.unusedSimpArgs false
theorem rdQ_sz {k m : Int} {zs r : List Int} {q : Gt} (hm : m ≤ 1000) (h : rdQ k m zs = some (q, r)) : q.S.size ≤ 1000 := by
  unfold rdQ at h
  split at h
  · cases e : fF zs with
    | none => rw [e] at h; cases h
    | some p => rw [e] at h; cases h; exact Nat.zero_le _
  · split at h
    · cases e : iF zs with
      | none => rw [e] at h; cases h
      | some p => rw [e] at h; cases h; exact Nat.zero_le _
    · split at h
      · cases e : nF zs with
        | none => rw [e] at h; cases h
        | some p => rw [e] at h; cases h; exact Nat.zero_le _
      · split at h
        · cases e : cF m zs with
          | none => rw [e] at h; cases h
          | some p => rw [e] at h; cases h; exact Nat.zero_le _
        · cases e : tF m zs with
          | none => rw [e] at h; cases h
          | some p =>
            obtain ⟨l, r'⟩ := p
            rw [e] at h
            cases h
            have := tF_len e
            rw [bstr_size]
            show l.length ≤ 1000
            omega
theorem gc_sz : ∀ (K : List (Int × Int)) (C : List Gt) (zs : List Int) (l : List Gt) (r : List Int), (∀ p ∈ K, p.2 ≤ 1000) → (∀ q ∈ C, q.S.size ≤ 1000) → gc K C zs = some (l, r) → ∀ q ∈ l, q.S.size ≤ 1000
  | [], C, zs, l, r, _, hC, h => by
    simp only [gc, Option.some.injEq, Prod.mk.injEq] at h
    obtain ⟨rfl, -⟩ := h
    exact hC
  | p :: K, C, zs, l, r, hK, hC, h => by
    rw [gc] at h
    cases e : rdQ p.1 p.2 zs with
    | none => rw [e] at h; cases h
    | some x =>
      obtain ⟨q, r'⟩ := x
      rw [e] at h
      refine gc_sz K (C ++ [q]) r' l r (fun y hy => hK y (List.mem_cons_of_mem _ hy)) (fun y hy => ?_) h
      rcases List.mem_append.1 hy with hy | hy
      · exact hC y hy
      · rw [List.mem_singleton.1 hy]; exact rdQ_sz (hK p (List.mem_cons_self ..)) e
def kgX (zs : List Int) : Option (Ky × List Int) :=
  match tF 96 zs with
  | none => none
  | some (g, z1) => match tF 96 z1 with
    | none => none
    | some (r, z2) => match fF z2 with
      | none => none
      | some (p, z3) => match nF z3 with
        | none => none
        | some (e, z4) => match fF z4 with
          | none => none
          | some (s, z5) => some (⟨bstr g, bstr r, p, (e : Nat), s⟩, z5)
theorem rdQ_t (m : Int) (zs : List Int) : rdQ 2 m zs = (tF m zs).map fun p => (⟨0, 0, bstr p.1, false⟩, p.2) := rfl
theorem rdQ_f (m : Int) (zs : List Int) : rdQ 3 m zs = (fF zs).map fun p => (⟨0, 0, ⟨#[]⟩, p.1⟩, p.2) := rfl
theorem rdQ_n (m : Int) (zs : List Int) : rdQ 0 m zs = (nF zs).map fun p => (⟨(p.1 : Nat), 0, ⟨#[]⟩, false⟩, p.2) := rfl
theorem rkA_X (zl : Nat) (zs : List Int) : rkA zl (gc rkK [] zs) = (match kgX zs with
    | none => .tup [kv k0, iv .i64 0, bv false]
    | some (k, r) => .tup [kv k, iv .i64 ((zl - r.length : Nat) : Int), bv (krB k)]) := by
  unfold kgX
  simp only [rkK, gc, rdQ_t, rdQ_f, rdQ_n]
  cases e1 : tF 96 zs with
  | none => rfl
  | some p =>
    obtain ⟨g, z1⟩ := p
    simp only [Option.map_some]
    cases e2 : tF 96 z1 with
    | none => rfl
    | some p =>
      obtain ⟨r, z2⟩ := p
      simp only [Option.map_some]
      cases e3 : fF z2 with
      | none => rfl
      | some p =>
        obtain ⟨p, z3⟩ := p
        simp only [Option.map_some]
        cases e4 : nF z3 with
        | none => rfl
        | some p =>
          obtain ⟨e, z4⟩ := p
          simp only [Option.map_some]
          cases e5 : fF z4 with
          | none => rfl
          | some p => rfl
theorem kgX_sf : SufF kgX := fun zs k r hb h => by
  unfold kgX at h
  split at h
  · cases h
  rename_i g z1 e1
  split at h
  · cases h
  rename_i rr z2 e2
  split at h
  · cases h
  rename_i p z3 e3
  split at h
  · cases h
  rename_i e z4 e4
  split at h
  · cases h
  rename_i s z5 e5
  cases h
  obtain ⟨k1, rfl⟩ := tF_sf 96 zs _ _ hb e1
  obtain ⟨k2, rfl⟩ := tF_sf 96 _ _ _ (hb.drop _) e2
  obtain ⟨k3, rfl⟩ := fF_sf _ _ _ ((hb.drop _).drop _) e3
  obtain ⟨k4, rfl⟩ := nF_sf _ _ _ (((hb.drop _).drop _).drop _) e4
  obtain ⟨k5, rfl⟩ := fF_sf _ _ _ ((((hb.drop _).drop _).drop _).drop _) e5
  exact ⟨k1 + k2 + k3 + k4 + k5, by simp only [List.drop_drop]⟩
end Go.Proofs.YtfknbndmabogjaaDoor
