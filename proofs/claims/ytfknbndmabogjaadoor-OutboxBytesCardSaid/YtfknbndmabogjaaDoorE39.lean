/-
  The walks and the laws that the statement leans on, part 39.
-/
import Derived.Test.YtfknbndmabogjaaDoorE9
import Derived.Test.YtfknbndmabogjaaDoorE10
import Derived.Test.YtfknbndmabogjaaDoorE38
namespace Go.Proofs.YtfknbndmabogjaaDoor.Wi
open Go
set_option linter.unusedVariables false
set_option linter.unusedSimpArgs false
set_option linter.defProp false
def TFRhC :=
  And.intro (And.intro (And.intro (And.intro (And.intro tyc0 tyc3) (And.intro zmb3 (And.intro tyc4 zmb4))) (And.intro (And.intro tyc5 (And.intro zmb5 tyc25)) (And.intro zmb25 (And.intro tyc53 elt53)))) (And.intro (And.intro (And.intro mkz53 apT53) (And.intro elk53 (And.intro zmb53 tyc125))) (And.intro (And.intro foff125_0 (And.intro fpart125_0 foff125_1)) (And.intro fpart125_1 (And.intro foff125_2 fpart125_2))))) (And.intro (And.intro (And.intro (And.intro foff125_3 fpart125_3) (And.intro fe125 (And.intro zmb125 bldT125))) (And.intro (And.intro tyc126 (And.intro tyc129 foff129_0)) (And.intro fpart129_0 (And.intro foff129_1 fpart129_1)))) (And.intro (And.intro (And.intro fe129 (And.intro zmb129 bldT129)) (And.intro Tryd.underlying0 (And.intro Tryd.underlying3 Tryd.underlying4))) (And.intro (And.intro Tryd.underlying5 (And.intro Tryd.underlying25 Tryd.underlying53)) (And.intro Tryd.underlying125 (And.intro Tryd.underlying126 Tryd.underlying129)))))
theorem Y1RhC {G R : Prop} (r : R) (h : R → G := by intro r; first | (apply WP.region; exact rvc_sound _ _ (Sm.out r)) | exact WP.drawK rfl mixed (by decide +kernel) (Sm.out r) | (apply WP.block; exact r) | (apply WP.skip; exact Yq r) | (apply WP.exit; exact Yq r) | (apply WP.ret; exact Sm.out r) | exact WP.cond rfl (fun _ => r) (fun hg => absurd hg (by decide)) | exact WP.cond rfl (fun hg => absurd hg (by decide)) (fun _ => r) | exact Rt.mk (And.intro (fun _ => Sm.out r) fun hg => absurd hg (by decide)) | exact Rt.mk (And.intro (fun hg => absurd hg (by decide)) fun _ => Sm.out r)) : G := h r
theorem YzRhC {G R : Prop} (r : R) (h : R → G := by intro r; first | (apply ExG.no; exact Sm.out r) | (apply Or.inl; apply ExG.no; exact Sm.out r) | exact Or.inl (And.intro (fun hg => absurd hg (by decide)) (ExG.no (Sm.out r)))) : G := h r
set_option maxRecDepth 8000 in
theorem number_good (Z r : List Int) (at_ n : Nat) (hat : at_ ≤ Z.length) (hb : By Z) (hz : Z.length ≤ 60000) (h : nF (Z.drop at_) = some (n, r)) :
    ACt Tryd.prog 68 [.slz .u8 Z, iv .i64 (at_ : Int)] [] (Fn (.tup [nu n, iv .i64 ((Z.length - r.length : Nat) : Int), bv true])) := by
  have c := refGet_ct Z at_ 0 0 hat hb hz (by omega) (by omega)
  have e : rdF 0 0 (Z.drop at_) = some (.agg [nu n, iv .i64 0, eS, bv false], r) := by
    show (nF (Z.drop at_)).map _ = _
    rw [h]; rfl
  rw [e] at c
  have c1 : ACt Tryd.prog 92 [.slz .u8 Z, iv .i64 (at_ : Int), .agg [iv .i64 0, iv .i64 0]] [] (Fn (.tup [.agg [nu n, iv .i64 0, eS, bv false], iv .i64 ((Z.length - r.length : Nat) : Int), bv true])) := c
  refine ACt.intro Tryd.func68 rfl (by kernel_rfl) (by simp [Tryd.ntmps68]) (fun cx => ?_)
  simp only [argE, Tryd.ntmps68, Tryd.results68]
  first | (have FRx := FR; clear FRx) | have FR := fr0
  have FA := Sm.mk (TFRhC)
  repeat' first | (apply Sm.mk; refine Ysn ?_) | refine WP.seq fun K hK => ?_ | (apply Ob.mk; exact Yo) | refine And.intro (Ob.out ?_) ?_ | refine Y1RhC ?_ | refine Yc (c := c1) (r := ?_) | refine YzRhC ?_ | (refine WP.cond rfl (fun hc => ?_) (fun hc => ?_) <;> (try simp only [ZC, reduceCtorEq, ZD] at hc) <;> (try exact absurd hc (by decide)) <;> (try (exfalso; omega))) | refine Rt.mk (And.intro (fun hg => Sm.out ?_) fun hg => Sm.out ?_) | (refine Nu.mk ?_; first | (fail_if_success have := nb1); intro nb1 | (fail_if_success have := nb2); intro nb2 | (fail_if_success have := nb3); intro nb3 | intro nbz) | (refine Fr.mk ?_; intro hfr; replace FR := And.intro hfr FR; clear hfr; refine Sm.out ?_) | refine Two.mk ?_ ?_ | (apply Yxc; exact Yx) | refine Cs.mk fun hcs => Sm.out ?_ | (apply Yog; refine Ygn ?_; exact trivial) | go_step | omega | (simp only [maxLen_eq]; omega) | exact trivial
theorem pmn {α : Type} (H : List α) : H.Perm ([] ++ H) := .refl _
set_option maxRecDepth 8000 in
theorem number_bad (Z : List Int) (at_ : Nat) (hat : at_ ≤ Z.length) (hb : By Z) (hz : Z.length ≤ 60000) (h : nF (Z.drop at_) = none) :
    ACt Tryd.prog 68 [.slz .u8 Z, iv .i64 (at_ : Int)] [] (fun r F' => ∃ g : Int × Int, r = .tup [iv .u64 g.1, iv .i64 g.2, bv false] ∧ F' = []) := by
  have c := refGet_ct Z at_ 0 0 hat hb hz (by omega) (by omega)
  have e : rdF 0 0 (Z.drop at_) = none := by
    show (nF (Z.drop at_)).map _ = _
    rw [h]; rfl
  rw [e] at c
  have c1 : ACt Tryd.prog 92 [.slz .u8 Z, iv .i64 (at_ : Int), .agg [iv .i64 0, iv .i64 0]] [] (fun r F' => ∃ g, r = gt3 g ∧ F' = []) := c
  refine ACt.intro Tryd.func68 rfl (by kernel_rfl) (by simp [Tryd.ntmps68]) (fun cx => ?_)
  simp only [argE, Tryd.ntmps68, Tryd.results68]
  first | (have FRx := FR; clear FRx) | have FR := fr0
  have FA := Sm.mk (TFRhC)
  repeat' first | (apply Sm.mk; refine Ysn ?_) | refine WP.seq fun K hK => ?_ | (apply Ob.mk; exact Yo) | refine And.intro (Ob.out ?_) ?_ | refine Y1RhC ?_ | (refine CallV.ex (F := []) (List.Perm.refl _) (c1) (fun g => Sm.out ?_)) | refine YzRhC ?_ | (refine WP.cond rfl (fun hc => ?_) (fun hc => ?_) <;> (try simp only [ZC, reduceCtorEq, ZD] at hc) <;> (try exact absurd hc (by decide)) <;> (try (exfalso; omega))) | refine Rt.mk (And.intro (fun hg => Sm.out ?_) fun hg => Sm.out ?_) | (refine Nu.mk ?_; first | (fail_if_success have := nb1); intro nb1 | (fail_if_success have := nb2); intro nb2 | (fail_if_success have := nb3); intro nb3 | intro nbz) | (refine Fr.mk ?_; intro hfr; replace FR := And.intro hfr FR; clear hfr; refine Sm.out ?_) | refine Two.mk ?_ ?_ | (apply Yxc; exact Yx) | refine Cs.mk fun hcs => Sm.out ?_ | go_step | omega | (simp only [maxLen_eq]; omega) | exact trivial
  (refine OutQ.drop _ _ (pmn _) (by simp only [resv, ZK, look, loadv, loadn, loadnm, load1, load1m, hget, ↓reduceIte, Nat.reduceEqDiff, Nat.reduceAdd, Nat.reduceMul, Nat.reduceLeDiff, Nat.reduceLT, reduceCtorEq, TFRhC, FR]) ⟨(g.1, g.2.2.2.2), (by simp only [resv, resA, ZK, look, loadv, loadn, loadnm, load1, load1m, hget, ↓reduceIte, Nat.reduceEqDiff, Nat.reduceAdd, Nat.reduceMul, Nat.reduceLeDiff, Nat.reduceLT, reduceCtorEq, TFRhC, FR]; first | done | rfl), rfl⟩)
end Go.Proofs.YtfknbndmabogjaaDoor.Wi
