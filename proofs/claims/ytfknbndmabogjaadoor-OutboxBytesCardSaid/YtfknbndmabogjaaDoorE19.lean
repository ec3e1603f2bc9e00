/-
  The walks and the laws that the statement leans on, part 19.
-/
import Derived.Test.YtfknbndmabogjaaDoorE10
import Derived.Test.YtfknbndmabogjaaDoorE18
namespace Go.Proofs.YtfknbndmabogjaaDoor
open Go
set_option linter.unusedVariables false
set_option linter.unusedSimpArgs false
set_option linter.defProp false
def TFOuF :=
  And.intro (And.intro (And.intro (And.intro (And.intro (And.intro tyc0 tyc3) (And.intro zmb3 tyc4)) (And.intro (And.intro zmb4 tyc23) (And.intro foff23_0 fpart23_0))) (And.intro (And.intro (And.intro foff23_1 fpart23_1) (And.intro foff23_2 fpart23_2)) (And.intro (And.intro foff23_3 fpart23_3) (And.intro foff23_4 (And.intro fpart23_4 fe23))))) (And.intro (And.intro (And.intro (And.intro zmb23 bldT23) (And.intro tyc24 elt24)) (And.intro (And.intro mkz24 mkc24) (And.intro apT24 (And.intro elk24 zmb24)))) (And.intro (And.intro (And.intro tyc25 zmb25) (And.intro tyc27 foff27_0)) (And.intro (And.intro fpart27_0 foff27_1) (And.intro fpart27_1 (And.intro zmb27 bldT27)))))) (And.intro (And.intro (And.intro (And.intro (And.intro tyc29 foff29_0) (And.intro fpart29_0 foff29_1)) (And.intro (And.intro fpart29_1 foff29_2) (And.intro fpart29_2 (And.intro foff29_3 fpart29_3)))) (And.intro (And.intro (And.intro foff29_4 fpart29_4) (And.intro fe29 zmb29)) (And.intro (And.intro bldT29 tyc38) (And.intro foff38_0 (And.intro fpart38_0 foff38_1))))) (And.intro (And.intro (And.intro (And.intro fpart38_1 foff38_2) (And.intro fpart38_2 foff38_3)) (And.intro (And.intro fpart38_3 foff38_4) (And.intro fpart38_4 (And.intro zmb38 bldT38)))) (And.intro (And.intro (And.intro Tryd.underlying0 Tryd.underlying3) (And.intro Tryd.underlying4 Tryd.underlying23)) (And.intro (And.intro Tryd.underlying24 Tryd.underlying25) (And.intro Tryd.underlying27 (And.intro Tryd.underlying29 Tryd.underlying38))))))
theorem Y1OuF {G R : Prop} (r : R) (h : R → G := by intro r; first | (apply WP.region; exact rvc_sound _ _ (Sm.out r)) | exact WP.drawN (cs := [0,3]) (k := 6) (bs := []) mixed (by decide +kernel) (by decide +kernel) (by decide +kernel) (by decide +kernel) (Sm.out r) | exact WP.drawK rfl mixed (by decide +kernel) (Sm.out r) | (apply WP.block; exact r) | (apply WP.skip; exact Yq r) | (apply WP.exit; exact Yq r) | (apply WP.ret; exact Sm.out r) | exact WP.cond rfl (fun _ => r) (fun hg => absurd hg (by decide)) | exact WP.cond rfl (fun hg => absurd hg (by decide)) (fun _ => r) | exact Rt.mk (And.intro (fun _ => Sm.out r) fun hg => absurd hg (by decide)) | exact Rt.mk (And.intro (fun hg => absurd hg (by decide)) fun _ => Sm.out r)) : G := h r
theorem YzOuF {G R : Prop} (r : R) (h : R → G := by intro r; first | (apply ExG.no; exact Sm.out r) | (apply Or.inl; apply ExG.no; exact Sm.out r) | exact Or.inl (And.intro (fun hg => absurd hg (by decide)) (ExG.no (Sm.out r)))) : G := h r
theorem rep_sl0 {w : World} {I : Nat → Prop} {v : Value} {a : Option Addr} {cap : Nat} (hm : cap ≤ maxLen) (h : Rep w I v (.lit (.slice a 0 cap))) : Rep w I v (.sl 0 []) := by
  have := h.lit_inv
  subst this
  exact .sl a 0 cap [] (fun _ => undef) (Nat.zero_le _) hm (.inl rfl) (fun i hi => absurd hi (Nat.not_lt_zero _))
theorem vw_box {x n c s ty : Nat} {C : List AV} {d : Int} (h2 : n ≤ c) (h3 : c ≤ 9223372036854775807) : Vw [(x, .cells C s ty)] (.agg [ms x 0 n c, iv .u64 d]) (.agg [.sl n C, iv .u64 d]) :=
  .agg rfl fun i hi => by
    match i, hi with
    | 0, _ =>
      refine .rowc (sz := s) (ty := ty) (cs := C) (by simp [hget]) (by omega) h2 (by rw [maxLen_eq]; omega) fun i hi => ?_
      rw [Nat.zero_add, List.getD_eq_getElem?_getD, List.getElem?_eq_getElem hi, Option.getD_some]
      exact .same _
    | 1, _ => exact .same _
abbrev nsl : AV := .lit (.slice none 0 0)
def rmI (n : Nt) (k : Ky) : Int := if k.p then n.room else IntKind.i64.wrap (n.room - n.res)
theorem room_ct (n : Nt) (b : Bx) (k : Ky) (m : Nat) : ACt Tryd.prog 45 [ntv n, .agg [.sl m (ecs b.l), iv .u64 b.d], kv k] [] (Fn (bv (decide ((m : Int) < rmI n k)))) := by
  obtain ⟨l, d⟩ := b
  obtain ⟨ro, re, fi, ca, rp⟩ := n
  obtain ⟨kg, kr, kp, ke, ks⟩ := k
  obtain ⟨C, hC⟩ : ∃ C, C = ecs l := ⟨_, rfl⟩
  unfold rmI
  simp only
  rw [← hC]
  refine ACt.intro Tryd.func45 rfl (by kernel_rfl) (by simp [Tryd.ntmps45]) (fun cx => ?_)
  simp only [argE, Tryd.ntmps45, Tryd.results45]
  cases kp with
  | true =>
    first | (have FRx := FR; clear FRx) | have FR := fr0S
    have FA := Sm.mk (TFOuF)
    repeat' first | (apply Sm.mk; refine Ys ?_) | refine WP.seq fun K hK => ?_ | (apply Ob.mk; exact Yo) | refine And.intro (Ob.out ?_) ?_ | refine Y1OuF ?_ | refine YzOuF ?_ | (refine WP.cond rfl (fun hc => ?_) (fun hc => ?_) <;> (try simp only [ZC, reduceCtorEq, ZD] at hc) <;> (try exact absurd hc (by decide)) <;> (try (exfalso; omega))) | refine Rt.mk (And.intro (fun hg => Sm.out ?_) fun hg => Sm.out ?_) | (refine Nu.mk ?_; first | (fail_if_success have := nb1); intro nb1 | (fail_if_success have := nb2); intro nb2 | (fail_if_success have := nb3); intro nb3 | (fail_if_success have := nb4); intro nb4 | (fail_if_success have := nb5); intro nb5 | (fail_if_success have := nb6); intro nb6 | intro nbz) | (apply Yfr; refine Yf FR fun hFRb FR => ?_) | refine Two.mk ?_ ?_ | (apply Yxc; exact Yx) | refine Cs.mk fun hcs => Sm.out ?_ | go_step | omega | (simp only [maxLen_eq]; omega) | exact trivial
    (refine OutQ.all ?_ ?_; (focus (simp only [resv, ZK, look, loadv, loadn, loadnm, load1, load1m, hget, ↓reduceIte, Nat.reduceEqDiff, Nat.reduceAdd, Nat.reduceMul, Nat.reduceLeDiff, Nat.reduceLT, reduceCtorEq, TFOuF, if_true])); (try simp only [resv, resA, Fn, ZK, look, loadv, loadn, loadnm, load1, load1m, hget, ↓reduceIte, Nat.reduceEqDiff, Nat.reduceAdd, Nat.reduceMul, Nat.reduceLeDiff, Nat.reduceLT, reduceCtorEq, TFOuF, if_true]); (try simp [resA, Fn, look, if_true]))
  | false =>
    first | (have FRx := FR; clear FRx) | have FR := fr0S
    have FA := Sm.mk (TFOuF)
    repeat' first | (apply Sm.mk; refine Ys ?_) | refine WP.seq fun K hK => ?_ | (apply Ob.mk; exact Yo) | refine And.intro (Ob.out ?_) ?_ | refine Y1OuF ?_ | refine YzOuF ?_ | (refine WP.cond rfl (fun hc => ?_) (fun hc => ?_) <;> (try simp only [ZC, reduceCtorEq, ZD] at hc) <;> (try exact absurd hc (by decide)) <;> (try (exfalso; omega))) | refine Rt.mk (And.intro (fun hg => Sm.out ?_) fun hg => Sm.out ?_) | (refine Nu.mk ?_; first | (fail_if_success have := nb1); intro nb1 | (fail_if_success have := nb2); intro nb2 | (fail_if_success have := nb3); intro nb3 | (fail_if_success have := nb4); intro nb4 | (fail_if_success have := nb5); intro nb5 | (fail_if_success have := nb6); intro nb6 | intro nbz) | (apply Yfr; refine Yf FR fun hFRb FR => ?_) | refine Two.mk ?_ ?_ | (apply Yxc; exact Yx) | refine Cs.mk fun hcs => Sm.out ?_ | go_step | omega | (simp only [maxLen_eq]; omega) | exact trivial
    (refine OutQ.all ?_ ?_; (focus (simp only [resv, ZK, look, loadv, loadn, loadnm, load1, load1m, hget, ↓reduceIte, Nat.reduceEqDiff, Nat.reduceAdd, Nat.reduceMul, Nat.reduceLeDiff, Nat.reduceLT, reduceCtorEq, TFOuF, Bool.false_eq_true, if_false])); (try simp only [resv, resA, Fn, ZK, look, loadv, loadn, loadnm, load1, load1m, hget, ↓reduceIte, Nat.reduceEqDiff, Nat.reduceAdd, Nat.reduceMul, Nat.reduceLeDiff, Nat.reduceLT, reduceCtorEq, TFOuF, Bool.false_eq_true, if_false]); (try simp [resA, Fn, look, Bool.false_eq_true, if_false]))
end Go.Proofs.YtfknbndmabogjaaDoor
