/-
  The walks and the laws that the statement leans on, part 29.
-/
import Derived.Test.YtpidkkgjgichdaaDoorW10
import Derived.Test.YtpidkkgjgichdaaDoorW26
namespace Go.Proofs.YtpidkkgjgichdaaDoor
open Go
set_option linter.unusedVariables false
set_option linter.unusedSimpArgs false
set_option linter.defProp false
def TFCoG :=
  And.intro (And.intro (And.intro (And.intro (And.intro (And.intro tyc0 tyc2) (And.intro zmb2 tyc3)) (And.intro (And.intro zmb3 tyc4) (And.intro zmb4 tyc9))) (And.intro (And.intro (And.intro zmb9 tyc24) (And.intro foff24_0 fpart24_0)) (And.intro (And.intro foff24_1 fpart24_1) (And.intro fe24 (And.intro zmb24 bldT24))))) (And.intro (And.intro (And.intro (And.intro tyc26 foff26_0) (And.intro fpart26_0 foff26_1)) (And.intro (And.intro fpart26_1 foff26_2) (And.intro fpart26_2 foff26_3))) (And.intro (And.intro (And.intro fpart26_3 foff26_4) (And.intro fpart26_4 fe26)) (And.intro (And.intro zmb26 bldT26) (And.intro tyc28 (And.intro foff28_0 fpart28_0)))))) (And.intro (And.intro (And.intro (And.intro (And.intro foff28_1 fpart28_1) (And.intro foff28_2 fpart28_2)) (And.intro (And.intro foff28_3 fpart28_3) (And.intro foff28_4 fpart28_4))) (And.intro (And.intro (And.intro fe28 zmb28) (And.intro bldT28 tyc30)) (And.intro (And.intro foff30_0 fpart30_0) (And.intro foff30_1 (And.intro fpart30_1 foff30_2))))) (And.intro (And.intro (And.intro (And.intro fpart30_2 foff30_3) (And.intro fpart30_3 foff30_4)) (And.intro (And.intro fpart30_4 foff30_5) (And.intro fpart30_5 (And.intro zmb30 bldT30)))) (And.intro (And.intro (And.intro Tryd.underlying0 Tryd.underlying2) (And.intro Tryd.underlying3 Tryd.underlying4)) (And.intro (And.intro Tryd.underlying9 Tryd.underlying24) (And.intro Tryd.underlying26 (And.intro Tryd.underlying28 Tryd.underlying30))))))
theorem Y1CoG {G R : Prop} (r : R) (h : R → G := by intro r; first | (apply WP.region; exact rvc_sound _ _ (Sm.out r)) | exact WP.drawC (c := 7) (ws := [5]) (ls := []) (bs := [nb3]) mixed (by decide +kernel) (by decide +kernel) (by decide +kernel) (Sm.out r) | exact WP.drawK rfl mixed (by decide +kernel) (Sm.out r) | (apply WP.block; exact r) | (apply WP.skip; exact Yq r) | (apply WP.exit; exact Yq r) | (apply WP.ret; exact Sm.out r) | exact WP.cond rfl (fun _ => r) (fun hg => absurd hg (by decide)) | exact WP.cond rfl (fun hg => absurd hg (by decide)) (fun _ => r) | exact Rt.mk (And.intro (fun _ => Sm.out r) fun hg => absurd hg (by decide)) | exact Rt.mk (And.intro (fun hg => absurd hg (by decide)) fun _ => Sm.out r)) : G := h r
theorem YzCoG {G R : Prop} (r : R) (h : R → G := by intro r; first | (apply ExG.no; exact Sm.out r) | (apply Or.inl; apply ExG.no; exact Sm.out r) | exact Or.inl (And.intro (fun hg => absurd hg (by decide)) (ExG.no (Sm.out r)))) : G := h r
structure Oq where
  kd : Int
  tx : ByteArray
  a : Int
  g : Int
  t : Int
  k : Ky
  s : Sl
abbrev ocs (o : Oq) : List AV := [iv .i64 o.kd, .lit (.string o.tx), iv .i64 o.a, iv .u64 o.g, iv .u64 o.t, .lit (.string o.k.g), .lit (.string o.k.r), bv o.k.p, iv .u64 o.k.e, bv o.k.s, .lit (.string o.s.nm), .lit (.string o.s.gl), iv .i64 o.s.w, iv .i64 o.s.f, iv .i64 o.s.t]
abbrev ov (o : Oq) : AV := .agg (ocs o)
abbrev k0 : Ky := ⟨⟨#[]⟩, ⟨#[]⟩, false, 0, false⟩
abbrev s0 : Sl := ⟨⟨#[]⟩, ⟨#[]⟩, 0, 0, 0⟩
abbrev o0 : Oq := ⟨0, ⟨#[]⟩, 0, 0, 0, k0, s0⟩
theorem fe30 : flatEq Tryd.prog 30 [1, 3, 1, 1, 1, 3, 3, 2, 1, 2, 3, 3, 1, 1, 1] := flatEq_of2 (by kernel_rfl)
def oqB (x y : Oq) : Bool := x.kd == y.kd && (x.tx == y.tx && (x.a == y.a && (x.g == y.g && (x.t == y.t && (x.k.g == y.k.g && (x.k.r == y.k.r && (x.k.p == y.k.p && (x.k.e == y.k.e && (x.k.s == y.k.s && (x.s.nm == y.s.nm && (x.s.gl == y.s.gl && (x.s.w == y.s.w && (x.s.f == y.s.f && x.s.t == y.s.t)))))))))))))
theorem oqB_iff (x y : Oq) : oqB x y = true ↔ x = y := by
  obtain ⟨a1, a2, a3, a4, a5, ⟨b1, b2, b3, b4, b5⟩, ⟨c1, c2, c3, c4, c5⟩⟩ := x
  obtain ⟨d1, d2, d3, d4, d5, ⟨e1, e2, e3, e4, e5⟩, ⟨f1, f2, f3, f4, f5⟩⟩ := y
  simp only [oqB, Bool.and_eq_true, beq_iff_eq, ba_iff, Oq.mk.injEq, Ky.mk.injEq, Sl.mk.injEq]
  constructor
  · rintro ⟨h1, h2, h3, h4, h5, h6, h7, h8, h9, h10, h11, h12, h13, h14, h15⟩
    exact ⟨h1, h2, h3, h4, h5, ⟨h6, h7, h8, h9, h10⟩, ⟨h11, h12, h13, h14, h15⟩⟩
  · rintro ⟨h1, h2, h3, h4, h5, ⟨h6, h7, h8, h9, h10⟩, ⟨h11, h12, h13, h14, h15⟩⟩
    exact ⟨h1, h2, h3, h4, h5, h6, h7, h8, h9, h10, h11, h12, h13, h14, h15⟩
def txK (n : Int) : Bool := n == 1 || (n == 2 || (n == 6 || n == 7))
def atK (n : Int) : Bool := n == 2 || n == 3
def usF (o : Oq) : Oq := ⟨o.kd, if txK o.kd then o.tx else ⟨#[]⟩, if atK o.kd then o.a else 0, if o.kd == 2 then o.g else 0, if o.kd == 2 then o.t else 0, if o.kd == 4 then o.k else k0, if o.kd == 5 then o.s else s0⟩
theorem rtext_ct (n : Int) : ACt Tryd.prog 25 [iv .i64 n] [] (Fn (bv (txK n))) := by
  unfold txK
  obtain ⟨x1, h1⟩ : ∃ x, (n == 1) = x := ⟨_, rfl⟩
  obtain ⟨x2, h2⟩ : ∃ x, (n == 2) = x := ⟨_, rfl⟩
  obtain ⟨x6, h6⟩ : ∃ x, (n == 6) = x := ⟨_, rfl⟩
  obtain ⟨x7, h7⟩ : ∃ x, (n == 7) = x := ⟨_, rfl⟩
  rw [h1, h2, h6, h7]
  simp only [← Bool.and_assoc, ← Bool.or_assoc]
  refine ACt.intro Tryd.func25 rfl (by kernel_rfl) (by simp [Tryd.ntmps25]) (fun cx => ?_)
  simp only [argE, Tryd.ntmps25, Tryd.results25]
  first | (have FRx := FR; clear FRx) | have FR := fr0S
  have FA := Sm.mk (And.intro TFCoG (And.intro h1 (And.intro h2 (And.intro h6 h7))))
  repeat' first | (apply Sm.mk; refine Ys ?_) | refine WP.seq fun K hK => ?_ | (apply Ob.mk; exact Yo) | refine And.intro (Ob.out ?_) ?_ | refine Y1CoG ?_ | refine YzCoG ?_ | (refine WP.cond rfl (fun hc => ?_) (fun hc => ?_) <;> (try simp only [ZC, reduceCtorEq, ZD] at hc) <;> (try exact absurd hc (by decide)) <;> (try (exfalso; omega))) | refine Rt.mk (And.intro (fun hg => Sm.out ?_) fun hg => Sm.out ?_) | (refine Nu.mk ?_; first | (fail_if_success have := nb1); intro nb1 | (fail_if_success have := nb2); intro nb2 | (fail_if_success have := nb3); intro nb3 | (fail_if_success have := nb4); intro nb4 | intro nbz) | (apply Yfr; refine Yf FR fun hFRb FR => ?_) | refine Two.mk ?_ ?_ | (apply Yxc; exact Yx) | refine Cs.mk fun hcs => Sm.out ?_ | go_step | omega | (simp only [maxLen_eq]; omega) | exact trivial
  (refine Yg ?_; try exact trivial)
theorem rat_ct (n : Int) : ACt Tryd.prog 26 [iv .i64 n] [] (Fn (bv (atK n))) := by
  unfold atK
  obtain ⟨x2, h2⟩ : ∃ x, (n == 2) = x := ⟨_, rfl⟩
  obtain ⟨x3, h3⟩ : ∃ x, (n == 3) = x := ⟨_, rfl⟩
  rw [h2, h3]
  refine ACt.intro Tryd.func26 rfl (by kernel_rfl) (by simp [Tryd.ntmps26]) (fun cx => ?_)
  simp only [argE, Tryd.ntmps26, Tryd.results26]
  first | (have FRx := FR; clear FRx) | have FR := fr0S
  have FA := Sm.mk (And.intro TFCoG (And.intro h2 h3))
  repeat' first | (apply Sm.mk; refine Ys ?_) | refine WP.seq fun K hK => ?_ | (apply Ob.mk; exact Yo) | refine And.intro (Ob.out ?_) ?_ | refine Y1CoG ?_ | refine YzCoG ?_ | (refine WP.cond rfl (fun hc => ?_) (fun hc => ?_) <;> (try simp only [ZC, reduceCtorEq, ZD] at hc) <;> (try exact absurd hc (by decide)) <;> (try (exfalso; omega))) | refine Rt.mk (And.intro (fun hg => Sm.out ?_) fun hg => Sm.out ?_) | (refine Nu.mk ?_; first | (fail_if_success have := nb1); intro nb1 | (fail_if_success have := nb2); intro nb2 | (fail_if_success have := nb3); intro nb3 | (fail_if_success have := nb4); intro nb4 | intro nbz) | (apply Yfr; refine Yf FR fun hFRb FR => ?_) | refine Two.mk ?_ ?_ | (apply Yxc; exact Yx) | refine Cs.mk fun hcs => Sm.out ?_ | go_step | omega | (simp only [maxLen_eq]; omega) | exact trivial
  (refine Yg ?_; try exact trivial)
set_option maxRecDepth 8000 in
set_option maxHeartbeats 4000000 in
theorem used_ct (o : Oq) : ACt Tryd.prog 24 [ov o] [] (Fn (ov (usF o))) := by
  obtain ⟨kd, tx, a, g, t, ⟨kg, kr, kp, ke, ks⟩, ⟨nm, gl, w, f, t2⟩⟩ := o
  have hk : kd = 1 ∨ kd = 2 ∨ kd = 3 ∨ kd = 4 ∨ kd = 5 ∨ kd = 6 ∨ kd = 7 ∨ (kd ≠ 1 ∧ kd ≠ 2 ∧ kd ≠ 3 ∧ kd ≠ 4 ∧ kd ≠ 5 ∧ kd ≠ 6 ∧ kd ≠ 7) := by omega
  rcases hk with rfl | rfl | rfl | rfl | rfl | rfl | rfl | ⟨n1, n2, n3, n4, n5, n6, n7⟩
  · have e : usF ⟨1, tx, a, g, t, ⟨kg, kr, kp, ke, ks⟩, ⟨nm, gl, w, f, t2⟩⟩ = ⟨1, tx, 0, 0, 0, k0, s0⟩ := rfl
    rw [e]
    have y2 : ((1 : Int) == 2) = false := rfl
    have y1 : ((1 : Int) == 1) = true := rfl
    have y6 : ((1 : Int) == 6) = false := rfl
    have y7 : ((1 : Int) == 7) = false := rfl
    have y3 : ((1 : Int) == 3) = false := rfl
    have y4 : ((1 : Int) == 4) = false := rfl
    have y5 : ((1 : Int) == 5) = false := rfl
    refine ACt.intro Tryd.func24 rfl (by kernel_rfl) (by simp [Tryd.ntmps24]) (fun cx => ?_)
    simp only [argE, Tryd.ntmps24, Tryd.results24]
    first | (have FRx := FR; clear FRx) | have FR := fr0S
    have FA := Sm.mk (And.intro TFCoG (And.intro y1 (And.intro y2 (And.intro y3 (And.intro y4 (And.intro y5 (And.intro y6 y7)))))))
    repeat' first | (apply Sm.mk; refine Ys ?_) | refine WP.seq fun K hK => ?_ | (apply Ob.mk; exact Yo) | refine And.intro (Ob.out ?_) ?_ | refine Y1CoG ?_ | refine YzCoG ?_ | (refine WP.cond rfl (fun hc => ?_) (fun hc => ?_) <;> (try simp only [ZC, reduceCtorEq, ZD] at hc) <;> (try exact absurd hc (by decide)) <;> (try (exfalso; omega))) | refine Rt.mk (And.intro (fun hg => Sm.out ?_) fun hg => Sm.out ?_) | (refine Nu.mk ?_; first | (fail_if_success have := nb1); intro nb1 | (fail_if_success have := nb2); intro nb2 | (fail_if_success have := nb3); intro nb3 | (fail_if_success have := nb4); intro nb4 | intro nbz) | (apply Yfr; refine Yf FR fun hFRb FR => ?_) | refine Two.mk ?_ ?_ | (apply Yxc; exact Yx) | refine Cs.mk fun hcs => Sm.out ?_ | go_step | omega | (simp only [maxLen_eq]; omega) | exact trivial
    (refine Yg ?_; try exact trivial)
  · have e : usF ⟨2, tx, a, g, t, ⟨kg, kr, kp, ke, ks⟩, ⟨nm, gl, w, f, t2⟩⟩ = ⟨2, tx, a, g, t, k0, s0⟩ := rfl
    rw [e]
    have y2 : ((2 : Int) == 2) = true := rfl
    have y1 : ((2 : Int) == 1) = false := rfl
    have y6 : ((2 : Int) == 6) = false := rfl
    have y7 : ((2 : Int) == 7) = false := rfl
    have y3 : ((2 : Int) == 3) = false := rfl
    have y4 : ((2 : Int) == 4) = false := rfl
    have y5 : ((2 : Int) == 5) = false := rfl
    refine ACt.intro Tryd.func24 rfl (by kernel_rfl) (by simp [Tryd.ntmps24]) (fun cx => ?_)
    simp only [argE, Tryd.ntmps24, Tryd.results24]
    first | (have FRx := FR; clear FRx) | have FR := fr0S
    have FA := Sm.mk (And.intro TFCoG (And.intro y1 (And.intro y2 (And.intro y3 (And.intro y4 (And.intro y5 (And.intro y6 y7)))))))
    repeat' first | (apply Sm.mk; refine Ys ?_) | refine WP.seq fun K hK => ?_ | (apply Ob.mk; exact Yo) | refine And.intro (Ob.out ?_) ?_ | refine Y1CoG ?_ | refine YzCoG ?_ | (refine WP.cond rfl (fun hc => ?_) (fun hc => ?_) <;> (try simp only [ZC, reduceCtorEq, ZD] at hc) <;> (try exact absurd hc (by decide)) <;> (try (exfalso; omega))) | refine Rt.mk (And.intro (fun hg => Sm.out ?_) fun hg => Sm.out ?_) | (refine Nu.mk ?_; first | (fail_if_success have := nb1); intro nb1 | (fail_if_success have := nb2); intro nb2 | (fail_if_success have := nb3); intro nb3 | (fail_if_success have := nb4); intro nb4 | intro nbz) | (apply Yfr; refine Yf FR fun hFRb FR => ?_) | refine Two.mk ?_ ?_ | (apply Yxc; exact Yx) | refine Cs.mk fun hcs => Sm.out ?_ | go_step | omega | (simp only [maxLen_eq]; omega) | exact trivial
    (refine Yg ?_; try exact trivial)
  · have e : usF ⟨3, tx, a, g, t, ⟨kg, kr, kp, ke, ks⟩, ⟨nm, gl, w, f, t2⟩⟩ = ⟨3, ⟨#[]⟩, a, 0, 0, k0, s0⟩ := rfl
    rw [e]
    have y2 : ((3 : Int) == 2) = false := rfl
    have y1 : ((3 : Int) == 1) = false := rfl
    have y6 : ((3 : Int) == 6) = false := rfl
    have y7 : ((3 : Int) == 7) = false := rfl
    have y3 : ((3 : Int) == 3) = true := rfl
    have y4 : ((3 : Int) == 4) = false := rfl
    have y5 : ((3 : Int) == 5) = false := rfl
    refine ACt.intro Tryd.func24 rfl (by kernel_rfl) (by simp [Tryd.ntmps24]) (fun cx => ?_)
    simp only [argE, Tryd.ntmps24, Tryd.results24]
    first | (have FRx := FR; clear FRx) | have FR := fr0S
    have FA := Sm.mk (And.intro TFCoG (And.intro y1 (And.intro y2 (And.intro y3 (And.intro y4 (And.intro y5 (And.intro y6 y7)))))))
    repeat' first | (apply Sm.mk; refine Ys ?_) | refine WP.seq fun K hK => ?_ | (apply Ob.mk; exact Yo) | refine And.intro (Ob.out ?_) ?_ | refine Y1CoG ?_ | refine YzCoG ?_ | (refine WP.cond rfl (fun hc => ?_) (fun hc => ?_) <;> (try simp only [ZC, reduceCtorEq, ZD] at hc) <;> (try exact absurd hc (by decide)) <;> (try (exfalso; omega))) | refine Rt.mk (And.intro (fun hg => Sm.out ?_) fun hg => Sm.out ?_) | (refine Nu.mk ?_; first | (fail_if_success have := nb1); intro nb1 | (fail_if_success have := nb2); intro nb2 | (fail_if_success have := nb3); intro nb3 | (fail_if_success have := nb4); intro nb4 | intro nbz) | (apply Yfr; refine Yf FR fun hFRb FR => ?_) | refine Two.mk ?_ ?_ | (apply Yxc; exact Yx) | refine Cs.mk fun hcs => Sm.out ?_ | go_step | omega | (simp only [maxLen_eq]; omega) | exact trivial
    (refine Yg ?_; try exact trivial)
  · have e : usF ⟨4, tx, a, g, t, ⟨kg, kr, kp, ke, ks⟩, ⟨nm, gl, w, f, t2⟩⟩ = ⟨4, ⟨#[]⟩, 0, 0, 0, ⟨kg, kr, kp, ke, ks⟩, s0⟩ := rfl
    rw [e]
    have y2 : ((4 : Int) == 2) = false := rfl
    have y1 : ((4 : Int) == 1) = false := rfl
    have y6 : ((4 : Int) == 6) = false := rfl
    have y7 : ((4 : Int) == 7) = false := rfl
    have y3 : ((4 : Int) == 3) = false := rfl
    have y4 : ((4 : Int) == 4) = true := rfl
    have y5 : ((4 : Int) == 5) = false := rfl
    refine ACt.intro Tryd.func24 rfl (by kernel_rfl) (by simp [Tryd.ntmps24]) (fun cx => ?_)
    simp only [argE, Tryd.ntmps24, Tryd.results24]
    first | (have FRx := FR; clear FRx) | have FR := fr0S
    have FA := Sm.mk (And.intro TFCoG (And.intro y1 (And.intro y2 (And.intro y3 (And.intro y4 (And.intro y5 (And.intro y6 y7)))))))
    repeat' first | (apply Sm.mk; refine Ys ?_) | refine WP.seq fun K hK => ?_ | (apply Ob.mk; exact Yo) | refine And.intro (Ob.out ?_) ?_ | refine Y1CoG ?_ | refine YzCoG ?_ | (refine WP.cond rfl (fun hc => ?_) (fun hc => ?_) <;> (try simp only [ZC, reduceCtorEq, ZD] at hc) <;> (try exact absurd hc (by decide)) <;> (try (exfalso; omega))) | refine Rt.mk (And.intro (fun hg => Sm.out ?_) fun hg => Sm.out ?_) | (refine Nu.mk ?_; first | (fail_if_success have := nb1); intro nb1 | (fail_if_success have := nb2); intro nb2 | (fail_if_success have := nb3); intro nb3 | (fail_if_success have := nb4); intro nb4 | intro nbz) | (apply Yfr; refine Yf FR fun hFRb FR => ?_) | refine Two.mk ?_ ?_ | (apply Yxc; exact Yx) | refine Cs.mk fun hcs => Sm.out ?_ | go_step | omega | (simp only [maxLen_eq]; omega) | exact trivial
    (refine Yg ?_; try exact trivial)
  · have e : usF ⟨5, tx, a, g, t, ⟨kg, kr, kp, ke, ks⟩, ⟨nm, gl, w, f, t2⟩⟩ = ⟨5, ⟨#[]⟩, 0, 0, 0, k0, ⟨nm, gl, w, f, t2⟩⟩ := rfl
    rw [e]
    have y2 : ((5 : Int) == 2) = false := rfl
    have y1 : ((5 : Int) == 1) = false := rfl
    have y6 : ((5 : Int) == 6) = false := rfl
    have y7 : ((5 : Int) == 7) = false := rfl
    have y3 : ((5 : Int) == 3) = false := rfl
    have y4 : ((5 : Int) == 4) = false := rfl
    have y5 : ((5 : Int) == 5) = true := rfl
    refine ACt.intro Tryd.func24 rfl (by kernel_rfl) (by simp [Tryd.ntmps24]) (fun cx => ?_)
    simp only [argE, Tryd.ntmps24, Tryd.results24]
    first | (have FRx := FR; clear FRx) | have FR := fr0S
    have FA := Sm.mk (And.intro TFCoG (And.intro y1 (And.intro y2 (And.intro y3 (And.intro y4 (And.intro y5 (And.intro y6 y7)))))))
    repeat' first | (apply Sm.mk; refine Ys ?_) | refine WP.seq fun K hK => ?_ | (apply Ob.mk; exact Yo) | refine And.intro (Ob.out ?_) ?_ | refine Y1CoG ?_ | refine YzCoG ?_ | (refine WP.cond rfl (fun hc => ?_) (fun hc => ?_) <;> (try simp only [ZC, reduceCtorEq, ZD] at hc) <;> (try exact absurd hc (by decide)) <;> (try (exfalso; omega))) | refine Rt.mk (And.intro (fun hg => Sm.out ?_) fun hg => Sm.out ?_) | (refine Nu.mk ?_; first | (fail_if_success have := nb1); intro nb1 | (fail_if_success have := nb2); intro nb2 | (fail_if_success have := nb3); intro nb3 | (fail_if_success have := nb4); intro nb4 | intro nbz) | (apply Yfr; refine Yf FR fun hFRb FR => ?_) | refine Two.mk ?_ ?_ | (apply Yxc; exact Yx) | refine Cs.mk fun hcs => Sm.out ?_ | go_step | omega | (simp only [maxLen_eq]; omega) | exact trivial
    (refine Yg ?_; try exact trivial)
  · have e : usF ⟨6, tx, a, g, t, ⟨kg, kr, kp, ke, ks⟩, ⟨nm, gl, w, f, t2⟩⟩ = ⟨6, tx, 0, 0, 0, k0, s0⟩ := rfl
    rw [e]
    have y2 : ((6 : Int) == 2) = false := rfl
    have y1 : ((6 : Int) == 1) = false := rfl
    have y6 : ((6 : Int) == 6) = true := rfl
    have y7 : ((6 : Int) == 7) = false := rfl
    have y3 : ((6 : Int) == 3) = false := rfl
    have y4 : ((6 : Int) == 4) = false := rfl
    have y5 : ((6 : Int) == 5) = false := rfl
    refine ACt.intro Tryd.func24 rfl (by kernel_rfl) (by simp [Tryd.ntmps24]) (fun cx => ?_)
    simp only [argE, Tryd.ntmps24, Tryd.results24]
    first | (have FRx := FR; clear FRx) | have FR := fr0S
    have FA := Sm.mk (And.intro TFCoG (And.intro y1 (And.intro y2 (And.intro y3 (And.intro y4 (And.intro y5 (And.intro y6 y7)))))))
    repeat' first | (apply Sm.mk; refine Ys ?_) | refine WP.seq fun K hK => ?_ | (apply Ob.mk; exact Yo) | refine And.intro (Ob.out ?_) ?_ | refine Y1CoG ?_ | refine YzCoG ?_ | (refine WP.cond rfl (fun hc => ?_) (fun hc => ?_) <;> (try simp only [ZC, reduceCtorEq, ZD] at hc) <;> (try exact absurd hc (by decide)) <;> (try (exfalso; omega))) | refine Rt.mk (And.intro (fun hg => Sm.out ?_) fun hg => Sm.out ?_) | (refine Nu.mk ?_; first | (fail_if_success have := nb1); intro nb1 | (fail_if_success have := nb2); intro nb2 | (fail_if_success have := nb3); intro nb3 | (fail_if_success have := nb4); intro nb4 | intro nbz) | (apply Yfr; refine Yf FR fun hFRb FR => ?_) | refine Two.mk ?_ ?_ | (apply Yxc; exact Yx) | refine Cs.mk fun hcs => Sm.out ?_ | go_step | omega | (simp only [maxLen_eq]; omega) | exact trivial
    (refine Yg ?_; try exact trivial)
  · have e : usF ⟨7, tx, a, g, t, ⟨kg, kr, kp, ke, ks⟩, ⟨nm, gl, w, f, t2⟩⟩ = ⟨7, tx, 0, 0, 0, k0, s0⟩ := rfl
    rw [e]
    have y2 : ((7 : Int) == 2) = false := rfl
    have y1 : ((7 : Int) == 1) = false := rfl
    have y6 : ((7 : Int) == 6) = false := rfl
    have y7 : ((7 : Int) == 7) = true := rfl
    have y3 : ((7 : Int) == 3) = false := rfl
    have y4 : ((7 : Int) == 4) = false := rfl
    have y5 : ((7 : Int) == 5) = false := rfl
    refine ACt.intro Tryd.func24 rfl (by kernel_rfl) (by simp [Tryd.ntmps24]) (fun cx => ?_)
    simp only [argE, Tryd.ntmps24, Tryd.results24]
    first | (have FRx := FR; clear FRx) | have FR := fr0S
    have FA := Sm.mk (And.intro TFCoG (And.intro y1 (And.intro y2 (And.intro y3 (And.intro y4 (And.intro y5 (And.intro y6 y7)))))))
    repeat' first | (apply Sm.mk; refine Ys ?_) | refine WP.seq fun K hK => ?_ | (apply Ob.mk; exact Yo) | refine And.intro (Ob.out ?_) ?_ | refine Y1CoG ?_ | refine YzCoG ?_ | (refine WP.cond rfl (fun hc => ?_) (fun hc => ?_) <;> (try simp only [ZC, reduceCtorEq, ZD] at hc) <;> (try exact absurd hc (by decide)) <;> (try (exfalso; omega))) | refine Rt.mk (And.intro (fun hg => Sm.out ?_) fun hg => Sm.out ?_) | (refine Nu.mk ?_; first | (fail_if_success have := nb1); intro nb1 | (fail_if_success have := nb2); intro nb2 | (fail_if_success have := nb3); intro nb3 | (fail_if_success have := nb4); intro nb4 | intro nbz) | (apply Yfr; refine Yf FR fun hFRb FR => ?_) | refine Two.mk ?_ ?_ | (apply Yxc; exact Yx) | refine Cs.mk fun hcs => Sm.out ?_ | go_step | omega | (simp only [maxLen_eq]; omega) | exact trivial
    (refine Yg ?_; try exact trivial)
  · have y1 : (kd == 1) = false := beq_eq_false_iff_ne.2 n1
    have y2 : (kd == 2) = false := beq_eq_false_iff_ne.2 n2
    have y3 : (kd == 3) = false := beq_eq_false_iff_ne.2 n3
    have y4 : (kd == 4) = false := beq_eq_false_iff_ne.2 n4
    have y5 : (kd == 5) = false := beq_eq_false_iff_ne.2 n5
    have y6 : (kd == 6) = false := beq_eq_false_iff_ne.2 n6
    have y7 : (kd == 7) = false := beq_eq_false_iff_ne.2 n7
    have e : usF ⟨kd, tx, a, g, t, ⟨kg, kr, kp, ke, ks⟩, ⟨nm, gl, w, f, t2⟩⟩ = ⟨kd, ⟨#[]⟩, 0, 0, 0, k0, s0⟩ := by
      simp only [usF, txK, atK, y1, y2, y3, y4, y5, y6, y7, Bool.or_false, Bool.false_eq_true, if_false]
    rw [e]
    refine ACt.intro Tryd.func24 rfl (by kernel_rfl) (by simp [Tryd.ntmps24]) (fun cx => ?_)
    simp only [argE, Tryd.ntmps24, Tryd.results24]
    first | (have FRx := FR; clear FRx) | have FR := fr0S
    have FA := Sm.mk (And.intro TFCoG (And.intro y1 (And.intro y2 (And.intro y3 (And.intro y4 (And.intro y5 (And.intro y6 y7)))))))
    repeat' first | (apply Sm.mk; refine Ys ?_) | refine WP.seq fun K hK => ?_ | (apply Ob.mk; exact Yo) | refine And.intro (Ob.out ?_) ?_ | refine Y1CoG ?_ | refine YzCoG ?_ | (refine WP.cond rfl (fun hc => ?_) (fun hc => ?_) <;> (try simp only [ZC, reduceCtorEq, ZD] at hc) <;> (try exact absurd hc (by decide)) <;> (try (exfalso; omega))) | refine Rt.mk (And.intro (fun hg => Sm.out ?_) fun hg => Sm.out ?_) | (refine Nu.mk ?_; first | (fail_if_success have := nb1); intro nb1 | (fail_if_success have := nb2); intro nb2 | (fail_if_success have := nb3); intro nb3 | (fail_if_success have := nb4); intro nb4 | intro nbz) | (apply Yfr; refine Yf FR fun hFRb FR => ?_) | refine Two.mk ?_ ?_ | (apply Yxc; exact Yx) | refine Cs.mk fun hcs => Sm.out ?_ | go_step | omega | (simp only [maxLen_eq]; omega) | exact trivial
    (refine Yg ?_; try exact trivial)
def rtB (o : Oq) : Bool := decide (o.kd ≥ 1) && (decide (o.kd ≤ 9) && oqB (usF o) o)
theorem right_ct (o : Oq) : ACt Tryd.prog 10 [ov o] [] (Fn (bv (rtB o))) := by
  have c1 := used_ct o
  unfold rtB
  obtain ⟨U, hU⟩ : ∃ U, U = usF o := ⟨_, rfl⟩
  rw [← hU] at c1 ⊢
  clear hU
  obtain ⟨kd, tx, a, g, t, ⟨kg, kr, kp, ke, ks⟩, ⟨nm, gl, w, f, t2⟩⟩ := o
  obtain ⟨d1, d2, d3, d4, d5, ⟨e1, e2, e3, e4, e5⟩, ⟨f1, f2, f3, f4, f5⟩⟩ := U
  simp only at c1 ⊢
  obtain ⟨x1, h1⟩ : ∃ x, decide (kd ≥ 1) = x := ⟨_, rfl⟩
  obtain ⟨x2, h2⟩ : ∃ x, decide (kd ≤ 9) = x := ⟨_, rfl⟩
  unfold oqB
  simp only
  obtain ⟨x3, h3⟩ : ∃ x, (d1 == kd && (d2 == tx && (d3 == a && (d4 == g && (d5 == t && (e1 == kg && (e2 == kr && (e3 == kp && (e4 == ke && (e5 == ks && (f1 == nm && (f2 == gl && (f3 == w && (f4 == f && f5 == t2)))))))))))))) = x := ⟨_, rfl⟩
  rw [h1, h2, h3]
  have hf := fe30
  simp only [← Bool.and_assoc, ← Bool.or_assoc]
  refine ACt.intro Tryd.func10 rfl (by kernel_rfl) (by simp [Tryd.ntmps10]) (fun cx => ?_)
  simp only [argE, Tryd.ntmps10, Tryd.results10]
  first | (have FRx := FR; clear FRx) | have FR := fr0S
  have FA := Sm.mk (And.intro TFCoG (And.intro h1 (And.intro h2 (And.intro h3 hf))))
  repeat' first | (apply Sm.mk; refine Ys ?_) | refine WP.seq fun K hK => ?_ | (apply Ob.mk; exact Yo) | refine And.intro (Ob.out ?_) ?_ | refine Y1CoG ?_ | refine Yc (c := c1) (r := ?_) | refine YzCoG ?_ | (refine WP.cond rfl (fun hc => ?_) (fun hc => ?_) <;> (try simp only [ZC, reduceCtorEq, ZD] at hc) <;> (try exact absurd hc (by decide)) <;> (try (exfalso; omega))) | refine Rt.mk (And.intro (fun hg => Sm.out ?_) fun hg => Sm.out ?_) | (refine Nu.mk ?_; first | (fail_if_success have := nb1); intro nb1 | (fail_if_success have := nb2); intro nb2 | (fail_if_success have := nb3); intro nb3 | (fail_if_success have := nb4); intro nb4 | intro nbz) | (apply Yfr; refine Yf FR fun hFRb FR => ?_) | refine Two.mk ?_ ?_ | (apply Yxc; exact Yx) | refine Cs.mk fun hcs => Sm.out ?_ | go_step | omega | (simp only [maxLen_eq]; omega) | exact trivial
  (refine Yg ?_; try exact trivial)
theorem neI (x y : Int) : (x != y) = !(x == y) := rfl
end Go.Proofs.YtpidkkgjgichdaaDoor
