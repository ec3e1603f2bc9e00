/-
  The walks and the laws that the statement leans on, part 25.
-/
import Derived.Test.YteoajodoejoccaaP10
import Derived.Test.YteoajodoejoccaaP18
import Derived.Test.YteoajodoejoccaaP19
import Derived.Test.YteoajodoejoccaaP23
import Derived.Test.YteoajodoejoccaaP24
namespace Go.Proofs.Yteoajodoejoccaa
open Go
set_option linter.unusedVariables false
set_option linter.unusedSimpArgs false
set_option linter.defProp false
def TFSlA :=
  And.intro (And.intro (And.intro (And.intro (And.intro tyc0 tyc3) (And.intro zmb3 tyc4)) (And.intro (And.intro zmb4 tyc5) (And.intro zmb5 tyc36))) (And.intro (And.intro (And.intro elt36 mkz36) (And.intro apT36 elk36)) (And.intro (And.intro zmb36 tyc90) (And.intro mth90_68 mth90_61)))) (And.intro (And.intro (And.intro (And.intro mth90_67 con90) (And.intro zmb90 tyc100)) (And.intro (And.intro foff100_0 fpart100_0) (And.intro foff100_1 fpart100_1))) (And.intro (And.intro (And.intro zmb100 bldT100) (And.intro Try.underlying0 Try.underlying3)) (And.intro (And.intro Try.underlying4 Try.underlying5) (And.intro Try.underlying36 (And.intro Try.underlying90 Try.underlying100)))))
theorem Y1SlA {G R : Prop} (r : R) (h : R → G := by intro r; first | (apply WP.region; exact rvc_sound _ _ (Sm.out r)) | exact WP.drawK rfl mixed (by decide +kernel) (Sm.out r) | (apply WP.block; exact r) | (apply WP.skip; exact Yq r) | (apply WP.exit; exact Yq r) | (apply WP.ret; exact Sm.out r) | exact WP.cond rfl (fun _ => r) (fun hg => absurd hg (by decide)) | exact WP.cond rfl (fun hg => absurd hg (by decide)) (fun _ => r) | exact Rt.mk (And.intro (fun _ => Sm.out r) fun hg => absurd hg (by decide)) | exact Rt.mk (And.intro (fun hg => absurd hg (by decide)) fun _ => Sm.out r)) : G := h r
theorem YzSlA {G R : Prop} (r : R) (h : R → G := by intro r; first | (apply ExG.no; exact Sm.out r) | (apply Or.inl; apply ExG.no; exact Sm.out r) | exact Or.inl (And.intro (fun hg => absurd hg (by decide)) (ExG.no (Sm.out r)))) : G := h r
set_option maxRecDepth 20000 in
theorem new_cr (zs : List Int) : ACt Try.prog 50 [.slz .u8 zs] [] (fun r F' => ∃ x : Nat, r = pt x 0 ∧ F' = [(x, Wi.rd zs false)]) := by
  refine ACt.intro Try.func50 rfl (by kernel_rfl) (by simp [Try.ntmps50]) (fun cx => ?_)
  simp only [argE, Try.ntmps50, Try.results50]
  first | (have FRx := FR; clear FRx) | have FR := fr0S
  have FA := Sm.mk (TFSlA)
  repeat' first | (apply Sm.mk; refine Ys ?_) | refine WP.seq fun K hK => ?_ | (apply Ob.mk; exact Yo) | refine And.intro (Ob.out ?_) ?_ | refine Y1SlA ?_ | refine YzSlA ?_ | (refine WP.cond rfl (fun hc => ?_) (fun hc => ?_) <;> (try simp only [ZC, reduceCtorEq, ZD] at hc) <;> (try exact absurd hc (by decide)) <;> (try (exfalso; omega))) | refine Rt.mk (And.intro (fun hg => Sm.out ?_) fun hg => Sm.out ?_) | (refine Nu.mk ?_; first | (fail_if_success have := nb1); intro nb1 | (fail_if_success have := nb2); intro nb2 | (fail_if_success have := nb3); intro nb3 | (fail_if_success have := nb4); intro nb4 | (fail_if_success have := nb5); intro nb5 | (fail_if_success have := nb6); intro nb6 | intro nbz) | (apply Yfr; refine Yf FR fun hFRb FR => ?_) | refine Two.mk ?_ ?_ | (apply Yxc; exact Yx) | refine Cs.mk fun hcs => Sm.out ?_ | go_step | omega | (simp only [maxLen_eq]; omega) | exact trivial
  (refine OutQ.drop _ _ (perm1 (by simp only [hget, hdel, ↓reduceIte, if_true, if_false, FR.out]; first | done | rfl)) (by simp only [resv, ZK, look, loadv, loadn, loadnm, load1, load1m, hget, ↓reduceIte, Nat.reduceEqDiff, Nat.reduceAdd, Nat.reduceMul, Nat.reduceLeDiff, Nat.reduceLT, reduceCtorEq, TFSlA, FR.out]) ⟨nb1, (by simp only [resv, resA, ZK, look, loadv, loadn, loadnm, load1, load1m, hget, ↓reduceIte, Nat.reduceEqDiff, Nat.reduceAdd, Nat.reduceMul, Nat.reduceLeDiff, Nat.reduceLT, reduceCtorEq, TFSlA, FR.out]; first | done | rfl), rfl⟩)
set_option maxRecDepth 20000 in
theorem leftR (b : Nat) (zs : List Int) : ACt Try.prog 53 [pt b 0] [(b, Wi.rd zs false)] (fun r F' => r = iv .i64 (zs.length : Int) ∧ F' = [(b, Wi.rd zs false)]) := by
  have cB := Wi.badR b zs false
  refine ACt.intro Try.func53 rfl (by kernel_rfl) (by simp [Try.ntmps53]) (fun cx => ?_)
  simp only [argE, Try.ntmps53, Try.results53]
  first | (have FRx := FR; clear FRx) | have FR := fr0S
  have FA := Sm.mk (TFSlA)
  repeat' first | (apply Sm.mk; refine Ys ?_) | refine WP.seq fun K hK => ?_ | (apply Ob.mk; exact Yo) | refine And.intro (Ob.out ?_) ?_ | refine Y1SlA ?_ | refine Yl1 (c := cB) (r := ?_) | refine YzSlA ?_ | (refine WP.cond rfl (fun hc => ?_) (fun hc => ?_) <;> (try simp only [ZC, reduceCtorEq, ZD] at hc) <;> (try exact absurd hc (by decide)) <;> (try (exfalso; omega))) | refine Rt.mk (And.intro (fun hg => Sm.out ?_) fun hg => Sm.out ?_) | (refine Nu.mk ?_; first | (fail_if_success have := nb1); intro nb1 | (fail_if_success have := nb2); intro nb2 | (fail_if_success have := nb3); intro nb3 | (fail_if_success have := nb4); intro nb4 | (fail_if_success have := nb5); intro nb5 | (fail_if_success have := nb6); intro nb6 | intro nbz) | (apply Yfr; refine Yf FR fun hFRb FR => ?_) | refine Two.mk ?_ ?_ | (apply Yxc; exact Yx) | refine Cs.mk fun hcs => Sm.out ?_ | go_step | omega | (simp only [maxLen_eq]; omega) | exact trivial
  (refine OutQ.drop _ _ (perm1 (by simp only [hget, hdel, ↓reduceIte, if_true, if_false, FR.out]; first | done | rfl)) (by simp only [resv, ZK, look, loadv, loadn, loadnm, load1, load1m, hget, ↓reduceIte, Nat.reduceEqDiff, Nat.reduceAdd, Nat.reduceMul, Nat.reduceLeDiff, Nat.reduceLT, reduceCtorEq, TFSlA, FR.out]) ⟨(by simp only [resv, resA, ZK, look, loadv, loadn, loadnm, load1, load1m, hget, ↓reduceIte, Nat.reduceEqDiff, Nat.reduceAdd, Nat.reduceMul, Nat.reduceLeDiff, Nat.reduceLT, reduceCtorEq, TFSlA, FR.out]; first | done | rfl), rfl⟩)
def slV (D : List Int) (k : Nat) : Nat × List Int := match Wi.nF D with
  | none => (0, [])
  | some (n, q) => if n = 0 ∨ n % 2 ≠ k then (0, []) else (n, q)
def slF (R : Bs) (k : Nat) : Nat × List Int := if IsF R then slV (ub (bodyB R)) k else (0, [])
theorem by_ub (bs : List UInt8) : Wi.By (ub bs) := by
  intro x hx
  unfold ub at hx
  obtain ⟨b, _, rfl⟩ := List.mem_map.1 hx
  have := b.toNat_lt
  omega
end Go.Proofs.Yteoajodoejoccaa
