/-
  The walks and the laws that the statement leans on, part 32.
-/
import Derived.Test.YtmbecppmkglmhaaDoorC11
import Derived.Test.YtmbecppmkglmhaaDoorC31
namespace Go.Proofs.YtmbecppmkglmhaaDoor
open Go
set_option linter.unusedVariables false
set_option linter.unusedSimpArgs false
theorem ACt.sub {Γ : Type} {φ : Γ → Prop} {x : Γ → AV} {m : Γ → Hp} {P : Program} {f : FuncId} {args : List AV} {F : Hp} (h : ACt P f args F (fun r F' => ∃ g, φ g ∧ r = x g ∧ F' = m g)) : ACt P f args F (fun r F' => ∃ g : {g // φ g}, r = x g.1 ∧ F' = m g.1) :=
  h.mono fun r F' ⟨g, h1, h2, h3⟩ => ⟨⟨g, h1⟩, h2, h3⟩
theorem lift1 {Γ : Type} {f : FuncId} {args : List AV} {k0 : Nat × MB} {k1 : Γ → Nat × MB} {D : Hp} {v : Γ → AV} {D' : Γ → Hp} (K : Hp) (c : ACt Tryd.prog f args (k0 :: D) (fun r F' => ∃ g, r = v g ∧ F' = k1 g :: D' g)) :
    ACt Tryd.prog f args (k0 :: (K ++ D)) (fun r F' => ∃ g, r = v g ∧ F' = k1 g :: (K ++ D' g)) :=
  ACt.frm (R := K) c (.cons _ List.perm_append_comm) fun r F' hr _ => by
    obtain ⟨g, e1, e2⟩ := hr
    subst e1 e2
    exact ⟨k1 g :: (K ++ D' g), [], by rw [List.append_nil]; exact .cons _ List.perm_append_comm, g, rfl, rfl⟩
theorem lift0 {Γ : Type} {f : FuncId} {args : List AV} {D : Hp} {v : Γ → AV} {D' : Γ → Hp} (K : Hp) (c : ACt Tryd.prog f args D (fun r F' => ∃ g, r = v g ∧ F' = D' g)) :
    ACt Tryd.prog f args (K ++ D) (fun r F' => ∃ g, r = v g ∧ F' = K ++ D' g) :=
  ACt.frm (R := K) c List.perm_append_comm fun r F' hr _ => by
    obtain ⟨g, e1, e2⟩ := hr
    subst e1 e2
    exact ⟨K ++ D' g, [], by rw [List.append_nil]; exact List.perm_append_comm, g, rfl, rfl⟩
theorem look0 {f : FuncId} {args : List AV} {D : Hp} {v : AV} (K : Hp) (c : ACt Tryd.prog f args D (fun r F' => r = v ∧ F' = D)) : ACt Tryd.prog f args (K ++ D) (fun r F' => r = v ∧ F' = K ++ D) :=
  c.lookU (R := K) List.perm_append_comm
section
variable {c s n f m : Nat} {P Q : Bs} {M : List Bs} {a : DA} (b x mb b2 cap : Nat) (l : DL)
end
theorem rg_of {s n f m : Nat} {Z : Bs} {a : DA} (h : Stl s n (ub Z) a) (hZ : Z.length = n * s) (hfm : f + m ≤ n) : Rg s n f m (Z.take (f * s)) (Z.drop ((f + m) * s)) ((Z.drop (f * s)).take (m * s)) a := by
  have h1 := Nat.mul_le_mul_right s hfm
  rw [Nat.add_mul] at h1
  refine ⟨?_, by rw [List.length_take]; omega, by rw [List.length_take, List.length_drop]; omega⟩
  have e : Z.take (f * s) ++ ((Z.drop (f * s)).take (m * s) ++ Z.drop ((f + m) * s)) = Z := by
    rw [Nat.add_mul, ← List.drop_drop, List.take_append_drop, List.take_append_drop]
  rw [e]; exact h
end Go.Proofs.YtmbecppmkglmhaaDoor
