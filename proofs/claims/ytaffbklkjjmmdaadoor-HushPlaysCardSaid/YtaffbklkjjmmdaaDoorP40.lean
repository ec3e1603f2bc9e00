/-
  What a listed array of pairs holds.
-/
import Derived.Test.YtaffbklkjjmmdaaDoorP39
import Derived.OpenShut
import Derived.ChangeSame
namespace Go.Proofs.YtaffbklkjjmmdaaDoor
open Go
set_option linter.unusedVariables false
set_option linter.unusedSimpArgs false

theorem row2_of_trod {H : Type} {enc : TypeId × Value → H} {P : Program} {w : World} {base fuel : Nat} {sp : Nat → Bool} {held : Bool} {t e u : TypeId} {m : Nat} {k : IntKind} {cs : List Value} {prs : List (Int × Int)} {p : List MemPlace} {f0 f1 : Field}
    (ht : P.underlying t = some (.array m e)) (he : P.underlying e = some (.struct #[f0, f1])) (hf : f0.type = u ∧ f1.type = u ∧ f0.offset = 0 ∧ f1.offset = 1) (hu : P.underlying u = some (.int k)) (hc : P.cellsOf e = 2) (hcu : P.cellsOf u = 1)
    (h : DataW.trod enc P w base sp held fuel t cs = some (.agg (prs.map fun z => .agg [.lit (.int k z.1), .lit (.int k z.2)]), p)) (hl : cs.length = 2 * m) : cs = (prs.flatMap fun z => [z.1, z.2]).map (Value.int k) := by
  obtain ⟨f0t, f1t, f0o, f1o⟩ := hf
  obtain ⟨xs, n, rfl, hx, hlen, hxl, hel⟩ := DataW.trod_array ht h
  simp only [Prod.mk.injEq, DataW.agg.injEq] at hx
  have hzl : prs.length = m := by have := congrArg List.length hx.1; simpa [hxl] using this
  have key : ∀ i, i < m → ∃ a b, prs[i]? = some (a, b) ∧ (cs.drop (i * 2)).take 2 = [.int k a, .int k b] := fun i hi => by
    refine ⟨(prs[i]'(by omega)).1, (prs[i]'(by omega)).2, by rw [List.getElem?_eq_getElem (by omega)], ?_⟩
    have hh := hel i hi
    rw [hc, List.getElem?_eq_getElem (by omega)] at hh
    obtain ⟨y0, y1, n', e1, e2, e3, e4⟩ := Go.ChangeShapes.trod_struct2 he hh
    rw [f0t, f0o, hcu, List.drop_zero] at e3
    rw [f1t, f1o, hcu] at e4
    have hlen2 : ((cs.drop (i * 2)).take 2).length = 2 := by rw [List.length_take, List.length_drop]; omega
    match hd : (cs.drop (i * 2)).take 2, hlen2 with
    | [v0, v1], _ =>
      rw [hd] at e3 e4
      obtain ⟨z0, a1, a2, _⟩ := DataW.trod_int hu e3
      obtain ⟨z1, b1, b2, _⟩ := DataW.trod_int hu e4
      have c0 : v0 = .int k z0 := by simpa using a1
      have c1 : v1 = .int k z1 := by simpa using b1
      have e5 : (xs[i]'(by omega)).1 = .agg [.lit (.int k z0), .lit (.int k z1)] := by rw [e1]; simp only; rw [a2, b2]
      have e6 : (xs.map (·.1))[i]'(by simpa using (by omega : i < xs.length)) = (prs.map fun z => (DataW.agg [.lit (.int k z.1), .lit (.int k z.2)] : DataW H))[i]'(by simp; omega) := by simp only [hx.1]
      simp only [List.getElem_map] at e6
      rw [e5] at e6
      have e7 : z0 = (prs[i]'(by omega)).1 ∧ z1 = (prs[i]'(by omega)).2 := by
        injection e6 with e6
        injection e6 with g1 g2
        injection g2 with g2 _
        injection g1 with g1
        injection g2 with g2
        injection g1 with _ g1
        injection g2 with _ g2
        exact ⟨g1, g2⟩
      rw [c0, c1, e7.1, e7.2]
  clear hx hel h ht he hlen hxl
  induction m generalizing cs prs with
  | zero =>
    have : prs = [] := List.length_eq_zero_iff.1 hzl
    subst this
    have : cs = [] := List.length_eq_zero_iff.1 (by omega)
    subst this
    rfl
  | succ m ih =>
    cases prs with
    | nil => simp at hzl
    | cons q r =>
      obtain ⟨a0, b0, q0, h0⟩ := key 0 (by omega)
      simp only [Nat.zero_mul, List.drop_zero, List.getElem?_cons_zero, Option.some.injEq] at h0 q0
      subst q0
      have ih := ih (cs := cs.drop 2) (prs := r) (by rw [List.length_drop]; omega) (by simp at hzl; omega) (fun i hi => by
        obtain ⟨a, b, q1, q2⟩ := key (i + 1) (by omega)
        rw [List.getElem?_cons_succ] at q1
        exact ⟨a, b, q1, by rw [List.drop_drop, show 2 + i * 2 = (i + 1) * 2 by omega]; exact q2⟩)
      rw [List.flatMap_cons, List.map_append, ← ih, ← List.take_append_drop 2 cs, h0]
      simp
def acP : List (Int × Int) := [(128, 191), (160, 191), (128, 159), (144, 191), (128, 143), (0, 0), (0, 0), (0, 0), (0, 0), (0, 0), (0, 0), (0, 0), (0, 0), (0, 0), (0, 0), (0, 0)]
theorem acP_eq : (acP.flatMap fun z => [z.1, z.2]) = acZ := by decide +kernel
end Go.Proofs.YtaffbklkjjmmdaaDoor
