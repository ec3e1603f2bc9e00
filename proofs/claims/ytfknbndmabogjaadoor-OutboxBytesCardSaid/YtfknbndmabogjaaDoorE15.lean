/-
  The walks and the laws that the statement leans on, part 15.
-/
import Derived.Test.YtfknbndmabogjaaDoorE10
import Derived.Test.YtfknbndmabogjaaDoorE14
namespace Go.Proofs.YtfknbndmabogjaaDoor
open Go
set_option linter.unusedVariables false
set_option linter.unusedSimpArgs false
set_option linter.defProp false
def TFOuA :=
  And.intro (And.intro (And.intro (And.intro (And.intro tyc0 tyc3) (And.intro zmb3 (And.intro tyc4 zmb4))) (And.intro (And.intro tyc9 (And.intro zmb9 tyc21)) (And.intro zmb21 (And.intro tyc25 zmb25)))) (And.intro (And.intro (And.intro tyc29 (And.intro foff29_0 fpart29_0)) (And.intro foff29_1 (And.intro fpart29_1 foff29_2))) (And.intro (And.intro fpart29_2 (And.intro foff29_3 fpart29_3)) (And.intro foff29_4 (And.intro fpart29_4 fe29))))) (And.intro (And.intro (And.intro (And.intro zmb29 (And.intro bldT29 tyc43)) (And.intro elt43 (And.intro mkz43 mkc43))) (And.intro (And.intro apT43 (And.intro elk43 zmb43)) (And.intro tyc132 (And.intro elt132 mkz132)))) (And.intro (And.intro (And.intro apT132 (And.intro elk132 zmb132)) (And.intro Tryd.underlying0 (And.intro Tryd.underlying3 Tryd.underlying4))) (And.intro (And.intro Tryd.underlying9 (And.intro Tryd.underlying21 Tryd.underlying25)) (And.intro Tryd.underlying29 (And.intro Tryd.underlying43 Tryd.underlying132)))))
theorem Y1OuA {G R : Prop} (r : R) (h : R → G := by intro r; first | (apply WP.region; exact rvc_sound _ _ (Sm.out r)) | exact WP.drawK rfl mixed (by decide +kernel) (Sm.out r) | (apply WP.block; exact r) | (apply WP.skip; exact Yq r) | (apply WP.exit; exact Yq r) | (apply WP.ret; exact Sm.out r) | exact WP.cond rfl (fun _ => r) (fun hg => absurd hg (by decide)) | exact WP.cond rfl (fun hg => absurd hg (by decide)) (fun _ => r) | exact Rt.mk (And.intro (fun _ => Sm.out r) fun hg => absurd hg (by decide)) | exact Rt.mk (And.intro (fun hg => absurd hg (by decide)) fun _ => Sm.out r)) : G := h r
theorem YzOuA {G R : Prop} (r : R) (h : R → G := by intro r; first | (apply ExG.no; exact Sm.out r) | (apply Or.inl; apply ExG.no; exact Sm.out r) | exact Or.inl (And.intro (fun hg => absurd hg (by decide)) (ExG.no (Sm.out r)))) : G := h r
structure Ky where
  g : ByteArray
  r : ByteArray
  p : Bool
  e : Int
  s : Bool
abbrev kv (k : Ky) : AV := .agg [.lit (.string k.g), .lit (.string k.r), bv k.p, iv .u64 k.e, bv k.s]
abbrev kb (k : Ky) : MB := .cells [.lit (.string k.g), .lit (.string k.r), bv k.p, iv .u64 k.e, bv k.s] 5 29
theorem ba_iff (s t : ByteArray) : (s == t) = true ↔ s = t := by
  obtain ⟨a⟩ := s
  obtain ⟨b⟩ := t
  show (a == b) = true ↔ _
  simp
def keqB (a b : Ky) : Bool := a.g == b.g && (a.r == b.r && (a.p == b.p && (a.e == b.e && a.s == b.s)))
theorem keqB_iff (a b : Ky) : keqB a b = true ↔ a = b := by
  obtain ⟨ag, ar, ap, ae, aS⟩ := a
  obtain ⟨bg, br, bp, be, bs⟩ := b
  simp [keqB, ba_iff]
theorem s_bstr (s : ByteArray) : s = bstr (ub s.data.toList) ∧ By (ub s.data.toList) := by
  constructor
  · apply ByteArray.ext
    apply Array.ext'
    simp only [bstr, ub, List.map_map]
    have e2 : s.data.toList.map ((fun n : Int => UInt8.ofNat n.toNat) ∘ fun b : UInt8 => (b.toNat : Int)) = s.data.toList.map id := List.map_congr_left fun b _ => by simp
    rw [e2, List.map_id]
  · intro i hi
    rw [ub_getD]
    have := ((s.data.toList).getD i 0).toNat_lt
    omega
noncomputable def nmS (s : ByteArray) : Bool := nmB (rn (ub s.data.toList))
theorem rname_s (s : ByteArray) (h : s.size ≤ 2000000) : ACt Tryd.prog 70 [.lit (.string s)] [] (Fn (bv (nmS s))) := by
  obtain ⟨e, hb⟩ := s_bstr s
  have hl : (ub s.data.toList).length ≤ 2000000 := by rw [e, bstr_size] at h; exact h
  have := rname_ct _ hb hl
  unfold stz at this
  rw [← e] at this
  exact this
theorem name_s (s : ByteArray) (h : s.size ≤ 1000) : ACt Tryd.prog 78 [.lit (.string s)] [] (Fn (bv (nmS s))) := by
  obtain ⟨e, hb⟩ := s_bstr s
  have hl : (ub s.data.toList).length ≤ 1000 := by rw [e, bstr_size] at h; exact h
  have := name_ct _ hb hl
  unfold stz at this
  rw [← e] at this
  exact this
structure Kz (k : Ky) : Prop where
  g : k.g.size ≤ 1000
  r : k.r.size ≤ 1000
noncomputable def krB (k : Ky) : Bool := nmS k.g && (nmS k.r && (decide (0 < k.e) && decide (k.e ≤ 4611686018427387904)))
theorem kright_ct (k : Ky) (hz : Kz k) : ACt Tryd.prog 43 [kv k] [] (Fn (bv (krB k))) := by
  have c1 := name_s k.g hz.g
  have c2 := name_s k.r hz.r
  unfold krB
  obtain ⟨a, ha⟩ : ∃ a, a = nmS k.g := ⟨_, rfl⟩
  obtain ⟨b, hb⟩ : ∃ b, b = nmS k.r := ⟨_, rfl⟩
  rw [← ha] at c1 ⊢
  rw [← hb] at c2 ⊢
  obtain ⟨x, hx⟩ : ∃ x, x = decide (0 < k.e) := ⟨_, rfl⟩
  have hx' : decide (k.e ≥ 1) = x := by rw [hx]; exact decide_eq_decide.2 (by omega)
  rw [← hx]
  obtain ⟨y, hy⟩ : ∃ y, decide (k.e ≤ 4611686018427387904) = y := ⟨_, rfl⟩
  rw [hy]
  clear ha hb hx
  obtain ⟨kg, kr, kp, ke, ks⟩ := k
  simp only at c1 c2 hx' hy
  cases a
  · refine ACt.intro Tryd.func43 rfl (by kernel_rfl) (by simp [Tryd.ntmps43]) (fun cx => ?_)
    simp only [argE, Tryd.ntmps43, Tryd.results43]
    first | (have FRx := FR; clear FRx) | have FR := fr0S
    have FA := Sm.mk (TFOuA)
    repeat' first | (apply Sm.mk; refine Ys ?_) | refine WP.seq fun K hK => ?_ | (apply Ob.mk; exact Yo) | refine And.intro (Ob.out ?_) ?_ | refine Y1OuA ?_ | refine Yc (c := c1) (r := ?_) | refine Yc (c := c2) (r := ?_) | refine YzOuA ?_ | (refine WP.cond rfl (fun hc => ?_) (fun hc => ?_) <;> (try simp only [ZC, reduceCtorEq, ZD] at hc) <;> (try exact absurd hc (by decide)) <;> (try (exfalso; omega))) | refine Rt.mk (And.intro (fun hg => Sm.out ?_) fun hg => Sm.out ?_) | (refine Nu.mk ?_; first | (fail_if_success have := nb1); intro nb1 | (fail_if_success have := nb2); intro nb2 | (fail_if_success have := nb3); intro nb3 | (fail_if_success have := nb4); intro nb4 | intro nbz) | (apply Yfr; refine Yf FR fun hFRb FR => ?_) | refine Two.mk ?_ ?_ | (apply Yxc; exact Yx) | refine Cs.mk fun hcs => Sm.out ?_ | go_step | omega | (simp only [maxLen_eq]; omega) | exact trivial
    (refine Yg ?_; try exact trivial)
  · cases b
    · refine ACt.intro Tryd.func43 rfl (by kernel_rfl) (by simp [Tryd.ntmps43]) (fun cx => ?_)
      simp only [argE, Tryd.ntmps43, Tryd.results43]
      first | (have FRx := FR; clear FRx) | have FR := fr0S
      have FA := Sm.mk (TFOuA)
      repeat' first | (apply Sm.mk; refine Ys ?_) | refine WP.seq fun K hK => ?_ | (apply Ob.mk; exact Yo) | refine And.intro (Ob.out ?_) ?_ | refine Y1OuA ?_ | refine Yc (c := c1) (r := ?_) | refine Yc (c := c2) (r := ?_) | refine YzOuA ?_ | (refine WP.cond rfl (fun hc => ?_) (fun hc => ?_) <;> (try simp only [ZC, reduceCtorEq, ZD] at hc) <;> (try exact absurd hc (by decide)) <;> (try (exfalso; omega))) | refine Rt.mk (And.intro (fun hg => Sm.out ?_) fun hg => Sm.out ?_) | (refine Nu.mk ?_; first | (fail_if_success have := nb1); intro nb1 | (fail_if_success have := nb2); intro nb2 | (fail_if_success have := nb3); intro nb3 | (fail_if_success have := nb4); intro nb4 | intro nbz) | (apply Yfr; refine Yf FR fun hFRb FR => ?_) | refine Two.mk ?_ ?_ | (apply Yxc; exact Yx) | refine Cs.mk fun hcs => Sm.out ?_ | go_step | omega | (simp only [maxLen_eq]; omega) | exact trivial
      (refine Yg ?_; try exact trivial)
    · cases x
      · refine ACt.intro Tryd.func43 rfl (by kernel_rfl) (by simp [Tryd.ntmps43]) (fun cx => ?_)
        simp only [argE, Tryd.ntmps43, Tryd.results43]
        first | (have FRx := FR; clear FRx) | have FR := fr0S
        have FA := Sm.mk (And.intro TFOuA hx')
        repeat' first | (apply Sm.mk; refine Ys ?_) | refine WP.seq fun K hK => ?_ | (apply Ob.mk; exact Yo) | refine And.intro (Ob.out ?_) ?_ | refine Y1OuA ?_ | refine Yc (c := c1) (r := ?_) | refine Yc (c := c2) (r := ?_) | refine YzOuA ?_ | (refine WP.cond rfl (fun hc => ?_) (fun hc => ?_) <;> (try simp only [ZC, reduceCtorEq, ZD] at hc) <;> (try exact absurd hc (by decide)) <;> (try (exfalso; omega))) | refine Rt.mk (And.intro (fun hg => Sm.out ?_) fun hg => Sm.out ?_) | (refine Nu.mk ?_; first | (fail_if_success have := nb1); intro nb1 | (fail_if_success have := nb2); intro nb2 | (fail_if_success have := nb3); intro nb3 | (fail_if_success have := nb4); intro nb4 | intro nbz) | (apply Yfr; refine Yf FR fun hFRb FR => ?_) | refine Two.mk ?_ ?_ | (apply Yxc; exact Yx) | refine Cs.mk fun hcs => Sm.out ?_ | go_step | omega | (simp only [maxLen_eq]; omega) | exact trivial
        (refine Yg ?_; try exact trivial)
      · refine ACt.intro Tryd.func43 rfl (by kernel_rfl) (by simp [Tryd.ntmps43]) (fun cx => ?_)
        simp only [argE, Tryd.ntmps43, Tryd.results43]
        first | (have FRx := FR; clear FRx) | have FR := fr0S
        have FA := Sm.mk (And.intro TFOuA (And.intro hx' hy))
        repeat' first | (apply Sm.mk; refine Ys ?_) | refine WP.seq fun K hK => ?_ | (apply Ob.mk; exact Yo) | refine And.intro (Ob.out ?_) ?_ | refine Y1OuA ?_ | refine Yc (c := c1) (r := ?_) | refine Yc (c := c2) (r := ?_) | refine YzOuA ?_ | (refine WP.cond rfl (fun hc => ?_) (fun hc => ?_) <;> (try simp only [ZC, reduceCtorEq, ZD] at hc) <;> (try exact absurd hc (by decide)) <;> (try (exfalso; omega))) | refine Rt.mk (And.intro (fun hg => Sm.out ?_) fun hg => Sm.out ?_) | (refine Nu.mk ?_; first | (fail_if_success have := nb1); intro nb1 | (fail_if_success have := nb2); intro nb2 | (fail_if_success have := nb3); intro nb3 | (fail_if_success have := nb4); intro nb4 | intro nbz) | (apply Yfr; refine Yf FR fun hFRb FR => ?_) | refine Two.mk ?_ ?_ | (apply Yxc; exact Yx) | refine Cs.mk fun hcs => Sm.out ?_ | go_step | omega | (simp only [maxLen_eq]; omega) | exact trivial
        (have FA := Sm.mk (And.intro hy FA.out); refine Yg ?_; try exact trivial)
theorem rkright_w (k : Ky) (z1 : k.g.size ≤ 2000000) (z2 : k.r.size ≤ 2000000) : ACt Tryd.prog 37 [kv k] [] (Fn (bv (krB k))) := by
  have c1 := rname_s k.g z1
  have c2 := rname_s k.r z2
  unfold krB
  obtain ⟨a, ha⟩ : ∃ a, a = nmS k.g := ⟨_, rfl⟩
  obtain ⟨b, hb⟩ : ∃ b, b = nmS k.r := ⟨_, rfl⟩
  rw [← ha] at c1 ⊢
  rw [← hb] at c2 ⊢
  obtain ⟨x, hx⟩ : ∃ x, x = decide (0 < k.e) := ⟨_, rfl⟩
  have hx' : decide (k.e > 0) = x := by rw [hx]
  rw [← hx]
  obtain ⟨y, hy⟩ : ∃ y, decide (k.e ≤ 4611686018427387904) = y := ⟨_, rfl⟩
  rw [hy]
  clear ha hb hx
  obtain ⟨kg, kr, kp, ke, ks⟩ := k
  simp only at c1 c2 hx' hy
  cases a
  · refine ACt.intro Tryd.func37 rfl (by kernel_rfl) (by simp [Tryd.ntmps37]) (fun cx => ?_)
    simp only [argE, Tryd.ntmps37, Tryd.results37]
    first | (have FRx := FR; clear FRx) | have FR := fr0S
    have FA := Sm.mk (TFOuA)
    repeat' first | (apply Sm.mk; refine Ys ?_) | refine WP.seq fun K hK => ?_ | (apply Ob.mk; exact Yo) | refine And.intro (Ob.out ?_) ?_ | refine Y1OuA ?_ | refine Yc (c := c1) (r := ?_) | refine Yc (c := c2) (r := ?_) | refine YzOuA ?_ | (refine WP.cond rfl (fun hc => ?_) (fun hc => ?_) <;> (try simp only [ZC, reduceCtorEq, ZD] at hc) <;> (try exact absurd hc (by decide)) <;> (try (exfalso; omega))) | refine Rt.mk (And.intro (fun hg => Sm.out ?_) fun hg => Sm.out ?_) | (refine Nu.mk ?_; first | (fail_if_success have := nb1); intro nb1 | (fail_if_success have := nb2); intro nb2 | (fail_if_success have := nb3); intro nb3 | (fail_if_success have := nb4); intro nb4 | intro nbz) | (apply Yfr; refine Yf FR fun hFRb FR => ?_) | refine Two.mk ?_ ?_ | (apply Yxc; exact Yx) | refine Cs.mk fun hcs => Sm.out ?_ | go_step | omega | (simp only [maxLen_eq]; omega) | exact trivial
    (refine Yg ?_; try exact trivial)
  · cases b
    · refine ACt.intro Tryd.func37 rfl (by kernel_rfl) (by simp [Tryd.ntmps37]) (fun cx => ?_)
      simp only [argE, Tryd.ntmps37, Tryd.results37]
      first | (have FRx := FR; clear FRx) | have FR := fr0S
      have FA := Sm.mk (TFOuA)
      repeat' first | (apply Sm.mk; refine Ys ?_) | refine WP.seq fun K hK => ?_ | (apply Ob.mk; exact Yo) | refine And.intro (Ob.out ?_) ?_ | refine Y1OuA ?_ | refine Yc (c := c1) (r := ?_) | refine Yc (c := c2) (r := ?_) | refine YzOuA ?_ | (refine WP.cond rfl (fun hc => ?_) (fun hc => ?_) <;> (try simp only [ZC, reduceCtorEq, ZD] at hc) <;> (try exact absurd hc (by decide)) <;> (try (exfalso; omega))) | refine Rt.mk (And.intro (fun hg => Sm.out ?_) fun hg => Sm.out ?_) | (refine Nu.mk ?_; first | (fail_if_success have := nb1); intro nb1 | (fail_if_success have := nb2); intro nb2 | (fail_if_success have := nb3); intro nb3 | (fail_if_success have := nb4); intro nb4 | intro nbz) | (apply Yfr; refine Yf FR fun hFRb FR => ?_) | refine Two.mk ?_ ?_ | (apply Yxc; exact Yx) | refine Cs.mk fun hcs => Sm.out ?_ | go_step | omega | (simp only [maxLen_eq]; omega) | exact trivial
      (refine Yg ?_; try exact trivial)
    · cases x
      · refine ACt.intro Tryd.func37 rfl (by kernel_rfl) (by simp [Tryd.ntmps37]) (fun cx => ?_)
        simp only [argE, Tryd.ntmps37, Tryd.results37]
        first | (have FRx := FR; clear FRx) | have FR := fr0S
        have FA := Sm.mk (And.intro TFOuA hx')
        repeat' first | (apply Sm.mk; refine Ys ?_) | refine WP.seq fun K hK => ?_ | (apply Ob.mk; exact Yo) | refine And.intro (Ob.out ?_) ?_ | refine Y1OuA ?_ | refine Yc (c := c1) (r := ?_) | refine Yc (c := c2) (r := ?_) | refine YzOuA ?_ | (refine WP.cond rfl (fun hc => ?_) (fun hc => ?_) <;> (try simp only [ZC, reduceCtorEq, ZD] at hc) <;> (try exact absurd hc (by decide)) <;> (try (exfalso; omega))) | refine Rt.mk (And.intro (fun hg => Sm.out ?_) fun hg => Sm.out ?_) | (refine Nu.mk ?_; first | (fail_if_success have := nb1); intro nb1 | (fail_if_success have := nb2); intro nb2 | (fail_if_success have := nb3); intro nb3 | (fail_if_success have := nb4); intro nb4 | intro nbz) | (apply Yfr; refine Yf FR fun hFRb FR => ?_) | refine Two.mk ?_ ?_ | (apply Yxc; exact Yx) | refine Cs.mk fun hcs => Sm.out ?_ | go_step | omega | (simp only [maxLen_eq]; omega) | exact trivial
        (refine Yg ?_; try exact trivial)
      · refine ACt.intro Tryd.func37 rfl (by kernel_rfl) (by simp [Tryd.ntmps37]) (fun cx => ?_)
        simp only [argE, Tryd.ntmps37, Tryd.results37]
        first | (have FRx := FR; clear FRx) | have FR := fr0S
        have FA := Sm.mk (And.intro TFOuA (And.intro hx' hy))
        repeat' first | (apply Sm.mk; refine Ys ?_) | refine WP.seq fun K hK => ?_ | (apply Ob.mk; exact Yo) | refine And.intro (Ob.out ?_) ?_ | refine Y1OuA ?_ | refine Yc (c := c1) (r := ?_) | refine Yc (c := c2) (r := ?_) | refine YzOuA ?_ | (refine WP.cond rfl (fun hc => ?_) (fun hc => ?_) <;> (try simp only [ZC, reduceCtorEq, ZD] at hc) <;> (try exact absurd hc (by decide)) <;> (try (exfalso; omega))) | refine Rt.mk (And.intro (fun hg => Sm.out ?_) fun hg => Sm.out ?_) | (refine Nu.mk ?_; first | (fail_if_success have := nb1); intro nb1 | (fail_if_success have := nb2); intro nb2 | (fail_if_success have := nb3); intro nb3 | (fail_if_success have := nb4); intro nb4 | intro nbz) | (apply Yfr; refine Yf FR fun hFRb FR => ?_) | refine Two.mk ?_ ?_ | (apply Yxc; exact Yx) | refine Cs.mk fun hcs => Sm.out ?_ | go_step | omega | (simp only [maxLen_eq]; omega) | exact trivial
        (have FA := Sm.mk (And.intro hy FA.out); refine Yg ?_; try exact trivial)
theorem rkright_ct (k : Ky) (hz : Kz k) : ACt Tryd.prog 37 [kv k] [] (Fn (bv (krB k))) := rkright_w k (by have := hz.g; omega) (by have := hz.r; omega)
def hvB (k : Ky) : Bool := decide ((k.g.size : Int) > 500) || decide ((k.r.size : Int) > 500)
theorem heavy_ct (k : Ky) : ACt Tryd.prog 10 [kv k] [] (Fn (bv (hvB k))) := by
  unfold hvB
  obtain ⟨x, hx⟩ : ∃ x, decide ((k.g.size : Int) > 500) = x := ⟨_, rfl⟩
  obtain ⟨y, hy⟩ : ∃ y, decide ((k.r.size : Int) > 500) = y := ⟨_, rfl⟩
  rw [hx, hy]
  obtain ⟨kg, kr, kp, ke, ks⟩ := k
  simp only at hx hy
  cases x
  · refine ACt.intro Tryd.func10 rfl (by kernel_rfl) (by simp [Tryd.ntmps10]) (fun cx => ?_)
    simp only [argE, Tryd.ntmps10, Tryd.results10]
    first | (have FRx := FR; clear FRx) | have FR := fr0S
    have FA := Sm.mk (And.intro TFOuA (And.intro hx hy))
    repeat' first | (apply Sm.mk; refine Ys ?_) | refine WP.seq fun K hK => ?_ | (apply Ob.mk; exact Yo) | refine And.intro (Ob.out ?_) ?_ | refine Y1OuA ?_ | refine YzOuA ?_ | (refine WP.cond rfl (fun hc => ?_) (fun hc => ?_) <;> (try simp only [ZC, reduceCtorEq, ZD] at hc) <;> (try exact absurd hc (by decide)) <;> (try (exfalso; omega))) | refine Rt.mk (And.intro (fun hg => Sm.out ?_) fun hg => Sm.out ?_) | (refine Nu.mk ?_; first | (fail_if_success have := nb1); intro nb1 | (fail_if_success have := nb2); intro nb2 | (fail_if_success have := nb3); intro nb3 | (fail_if_success have := nb4); intro nb4 | intro nbz) | (apply Yfr; refine Yf FR fun hFRb FR => ?_) | refine Two.mk ?_ ?_ | (apply Yxc; exact Yx) | refine Cs.mk fun hcs => Sm.out ?_ | go_step | omega | (simp only [maxLen_eq]; omega) | exact trivial
    (have FA := Sm.mk (And.intro hy FA.out); refine Yg ?_; try exact trivial)
  · refine ACt.intro Tryd.func10 rfl (by kernel_rfl) (by simp [Tryd.ntmps10]) (fun cx => ?_)
    simp only [argE, Tryd.ntmps10, Tryd.results10]
    first | (have FRx := FR; clear FRx) | have FR := fr0S
    have FA := Sm.mk (And.intro TFOuA (And.intro hx hy))
    repeat' first | (apply Sm.mk; refine Ys ?_) | refine WP.seq fun K hK => ?_ | (apply Ob.mk; exact Yo) | refine And.intro (Ob.out ?_) ?_ | refine Y1OuA ?_ | refine YzOuA ?_ | (refine WP.cond rfl (fun hc => ?_) (fun hc => ?_) <;> (try simp only [ZC, reduceCtorEq, ZD] at hc) <;> (try exact absurd hc (by decide)) <;> (try (exfalso; omega))) | refine Rt.mk (And.intro (fun hg => Sm.out ?_) fun hg => Sm.out ?_) | (refine Nu.mk ?_; first | (fail_if_success have := nb1); intro nb1 | (fail_if_success have := nb2); intro nb2 | (fail_if_success have := nb3); intro nb3 | (fail_if_success have := nb4); intro nb4 | intro nbz) | (apply Yfr; refine Yf FR fun hFRb FR => ?_) | refine Two.mk ?_ ?_ | (apply Yxc; exact Yx) | refine Cs.mk fun hcs => Sm.out ?_ | go_step | omega | (simp only [maxLen_eq]; omega) | exact trivial
    (have FA := Sm.mk (And.intro hx FA.out); refine Yg ?_; try exact trivial)
end Go.Proofs.YtfknbndmabogjaaDoor
