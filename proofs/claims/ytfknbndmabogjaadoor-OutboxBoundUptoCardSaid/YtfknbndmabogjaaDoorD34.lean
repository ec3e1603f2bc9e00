/-
  The walks and the laws that the statement leans on, part 34.
-/
import Derived.Test.YtfknbndmabogjaaDoorD9
import Derived.Test.YtfknbndmabogjaaDoorD33
namespace Go.Proofs.YtfknbndmabogjaaDoor
open Go
set_option linter.unusedVariables false
set_option linter.unusedSimpArgs false
set_option linter.defProp false
def TFOuZA :=
  And.intro (And.intro (And.intro (And.intro (And.intro tyc0 tyc2) (And.intro zmb2 tyc4)) (And.intro (And.intro zmb4 tyc23) (And.intro foff23_0 (And.intro fpart23_0 foff23_1)))) (And.intro (And.intro (And.intro fpart23_1 foff23_2) (And.intro fpart23_2 foff23_3)) (And.intro (And.intro fpart23_3 foff23_4) (And.intro fpart23_4 (And.intro fe23 zmb23))))) (And.intro (And.intro (And.intro (And.intro bldT23 tyc38) (And.intro foff38_0 fpart38_0)) (And.intro (And.intro foff38_1 fpart38_1) (And.intro foff38_2 (And.intro fpart38_2 foff38_3)))) (And.intro (And.intro (And.intro fpart38_3 foff38_4) (And.intro fpart38_4 (And.intro zmb38 bldT38))) (And.intro (And.intro Tryd.underlying0 Tryd.underlying2) (And.intro Tryd.underlying4 (And.intro Tryd.underlying23 Tryd.underlying38)))))
theorem Y1OuZA {G R : Prop} (r : R) (h : R → G := by intro r; first | (apply WP.region; exact rvc_sound _ _ (Sm.out r)) | exact WP.drawK rfl mixed (by decide +kernel) (Sm.out r) | (apply WP.block; exact r) | (apply WP.skip; exact Yq r) | (apply WP.exit; exact Yq r) | (apply WP.ret; exact Sm.out r) | exact WP.cond rfl (fun _ => r) (fun hg => absurd hg (by decide)) | exact WP.cond rfl (fun hg => absurd hg (by decide)) (fun _ => r) | exact Rt.mk (And.intro (fun _ => Sm.out r) fun hg => absurd hg (by decide)) | exact Rt.mk (And.intro (fun hg => absurd hg (by decide)) fun _ => Sm.out r)) : G := h r
theorem YzOuZA {G R : Prop} (r : R) (h : R → G := by intro r; first | (apply ExG.no; exact Sm.out r) | (apply Or.inl; apply ExG.no; exact Sm.out r) | exact Or.inl (And.intro (fun hg => absurd hg (by decide)) (ExG.no (Sm.out r)))) : G := h r
def dueB (n : Nt) (e : En) (now : Int) : Bool := decide (e.n ≤ now) && (!e.a || decide (0 < n.rep))
theorem due_ct (n : Nt) (e : En) (now : Int) : ACt Tryd.prog 55 [ntv n, ev e, iv .i64 now] [] (Fn (bv (dueB n e now))) := by
  unfold dueB
  obtain ⟨x, hx⟩ : ∃ x, decide (e.n ≤ now) = x := ⟨_, rfl⟩
  obtain ⟨y, hy⟩ : ∃ y, decide (n.rep > 0) = y := ⟨_, rfl⟩
  have hy2 : decide (0 < n.rep) = y := hy
  rw [hx, hy2]
  obtain ⟨ro, re, fi, ca, rp⟩ := n
  obtain ⟨⟨vg, vr, vp, ve, vs⟩, eb, en, et, ea⟩ := e
  simp only at hx hy
  refine ACt.intro Tryd.func55 rfl (by kernel_rfl) (by simp [Tryd.ntmps55]) (fun cx => ?_)
  simp only [argE, Tryd.ntmps55, Tryd.results55]
  first | (have FRx := FR; clear FRx) | have FR := fr0S
  have FA := Sm.mk (And.intro TFOuZA (And.intro hx hy))
  repeat' first | (apply Sm.mk; refine Ys ?_) | refine WP.seq fun K hK => ?_ | (apply Ob.mk; exact Yo) | refine And.intro (Ob.out ?_) ?_ | refine Y1OuZA ?_ | refine YzOuZA ?_ | (refine WP.cond rfl (fun hc => ?_) (fun hc => ?_) <;> (try simp only [ZC, reduceCtorEq, ZD] at hc) <;> (try exact absurd hc (by decide)) <;> (try (exfalso; omega))) | refine Rt.mk (And.intro (fun hg => Sm.out ?_) fun hg => Sm.out ?_) | (refine Nu.mk ?_; first | (fail_if_success have := nb1); intro nb1 | (fail_if_success have := nb2); intro nb2 | (fail_if_success have := nb3); intro nb3 | (fail_if_success have := nb4); intro nb4 | intro nbz) | (apply Yfr; refine Yf FR fun hFRb FR => ?_) | refine Two.mk ?_ ?_ | (apply Yxc; exact Yx) | refine Cs.mk fun hcs => Sm.out ?_ | go_step | omega | (simp only [maxLen_eq]; omega) | exact trivial
  (refine Yg ?_; try exact trivial)
def wtN (n : Nt) (e : En) : Int := if e.a then n.rep else ((waitN n.first.toNat n.cap.toNat ((if e.t < 1000000 then e.t + 1 else e.t).toNat - 1) : Nat) : Int)
def snE (n : Nt) (now : Int) (e : En) : En := ⟨e.k, e.b, now + wtN n e, if e.t < 1000000 then e.t + 1 else e.t, e.a⟩
noncomputable def gsB (n : Nt) (now : Int) (hs : List Ky) (e : En) : Bool := dueB n e now && !hasB hs e.k
noncomputable def snB (n : Nt) (b : Bx) (now : Int) (hs : List Ky) : Bx := if ntB n && bxB b && tkB now then ⟨b.l.map fun e => if gsB n now hs e then snE n now e else e, b.d⟩ else b
noncomputable def snK (n : Nt) (b : Bx) (now : Int) (hs : List Ky) : List Ky := if ntB n && bxB b && tkB now then (b.l.filter fun e => gsB n now hs e).map (·.k) else []
end Go.Proofs.YtfknbndmabogjaaDoor
