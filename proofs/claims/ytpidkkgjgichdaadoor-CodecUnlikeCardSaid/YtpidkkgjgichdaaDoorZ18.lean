/-
  The walks and the laws that the statement leans on, part 18.
-/
import Derived.Test.YtpidkkgjgichdaaDoorZ17
namespace Go.Proofs.YtpidkkgjgichdaaDoor
open Go
set_option linter.unusedVariables false
set_option linter.unusedSimpArgs false
set_option linter.defProp false
def TFCoB :=
  And.intro (And.intro (And.intro (And.intro (And.intro tyc0 tyc2) (And.intro zmb2 tyc3)) (And.intro (And.intro zmb3 tyc4) (And.intro zmb4 (And.intro tyc9 zmb9)))) (And.intro (And.intro (And.intro tyc21 zmb21) (And.intro tyc28 (And.intro foff28_0 fpart28_0))) (And.intro (And.intro foff28_1 fpart28_1) (And.intro foff28_2 (And.intro fpart28_2 foff28_3))))) (And.intro (And.intro (And.intro (And.intro fpart28_3 foff28_4) (And.intro fpart28_4 (And.intro fe28 zmb28))) (And.intro (And.intro bldT28 tyc90) (And.intro elt90 (And.intro mkz90 apT90)))) (And.intro (And.intro (And.intro elk90 zmb90) (And.intro Tryd.underlying0 (And.intro Tryd.underlying2 Tryd.underlying3))) (And.intro (And.intro Tryd.underlying4 Tryd.underlying9) (And.intro Tryd.underlying21 (And.intro Tryd.underlying28 Tryd.underlying90)))))
theorem Y1CoB {G R : Prop} (r : R) (h : R → G := by intro r; first | (apply WP.region; exact rvc_sound _ _ (Sm.out r)) | exact WP.drawK rfl mixed (by decide +kernel) (Sm.out r) | (apply WP.block; exact r) | (apply WP.skip; exact Yq r) | (apply WP.exit; exact Yq r) | (apply WP.ret; exact Sm.out r) | exact WP.cond rfl (fun _ => r) (fun hg => absurd hg (by decide)) | exact WP.cond rfl (fun hg => absurd hg (by decide)) (fun _ => r) | exact Rt.mk (And.intro (fun _ => Sm.out r) fun hg => absurd hg (by decide)) | exact Rt.mk (And.intro (fun hg => absurd hg (by decide)) fun _ => Sm.out r)) : G := h r
theorem YzCoB {G R : Prop} (r : R) (h : R → G := by intro r; first | (apply ExG.no; exact Sm.out r) | (apply Or.inl; apply ExG.no; exact Sm.out r) | exact Or.inl (And.intro (fun hg => absurd hg (by decide)) (ExG.no (Sm.out r)))) : G := h r
noncomputable def glB (s : ByteArray) : Bool := decide (s.size ≠ 0) && (gdB (bs s) && decide (((rn (bs s)).length : Int) ≤ 40))
theorem glob_ct (s : ByteArray) (h : s.size ≤ 5000) (n0 n1 : Nat) : ACt Tryd.prog 51 [.lit (.string s)] [(0, .zs .u8 fsZ 256 n0), (1, .zs .u8 acZ 32 n1)] (fun r F' => r = bv (glB s) ∧ F' = [(0, .zs .u8 fsZ 256 n0), (1, .zs .u8 acZ 32 n1)]) := by
  obtain ⟨e, hb⟩ := s_bstr s
  have hl : (bs s).length = s.size := by conv => rhs; rw [e, bstr_size]
  have c1 := goodT_ct (bs s) hb (by omega) n0 n1
  have c2 := cnt_ct (bs s) hb (by omega)
  unfold stz at c1 c2
  rw [← e] at c1 c2
  have hE := str_empty s
  unfold glB
  obtain ⟨a, ha⟩ : ∃ a, decide (s.size = 0) = a := ⟨_, rfl⟩
  have ha2 : decide (s.size ≠ 0) = !a := by rw [← ha, decide_not]
  rw [ha] at hE
  rw [ha2]
  obtain ⟨b, hb2⟩ : ∃ b, gdB (bs s) = b := ⟨_, rfl⟩
  rw [hb2] at c1 ⊢
  obtain ⟨N, hN⟩ : ∃ N, (rn (bs s)).length = N := ⟨_, rfl⟩
  rw [hN] at c2 ⊢
  obtain ⟨c, hc0⟩ : ∃ c, decide ((N : Int) ≤ 40) = c := ⟨_, rfl⟩
  rw [hc0]
  obtain ⟨FZ, hFZ⟩ : ∃ FZ, FZ = fsZ := ⟨_, rfl⟩
  obtain ⟨AZ, hAZ⟩ : ∃ AZ, AZ = acZ := ⟨_, rfl⟩
  rw [← hFZ, ← hAZ] at c1 ⊢
  simp only [← Bool.and_assoc, ← Bool.or_assoc]
  refine ACt.intro Tryd.func51 rfl (by kernel_rfl) (by simp [Tryd.ntmps51]) (fun cx => ?_)
  simp only [argE, Tryd.ntmps51, Tryd.results51]
  first | (have FRx := FR; clear FRx) | have FR := fr0S
  have FA := Sm.mk (And.intro TFCoB (And.intro hE hc0))
  repeat' first | (apply Sm.mk; refine Ys ?_) | refine WP.seq fun K hK => ?_ | (apply Ob.mk; exact Yo) | refine And.intro (Ob.out ?_) ?_ | refine Y1CoB ?_ | refine Yl2 (c := c1) (r := ?_) | refine Yc (c := c2) (r := ?_) | refine YzCoB ?_ | (refine WP.cond rfl (fun hc => ?_) (fun hc => ?_) <;> (try simp only [ZC, reduceCtorEq, ZD] at hc) <;> (try exact absurd hc (by decide)) <;> (try (exfalso; omega))) | refine Rt.mk (And.intro (fun hg => Sm.out ?_) fun hg => Sm.out ?_) | (refine Nu.mk ?_; first | (fail_if_success have := nb1); intro nb1 | (fail_if_success have := nb2); intro nb2 | (fail_if_success have := nb3); intro nb3 | (fail_if_success have := nb4); intro nb4 | intro nbz) | (apply Yfr; refine Yf FR fun hFRb FR => ?_) | refine Two.mk ?_ ?_ | (apply Yxc; exact Yx) | refine Cs.mk fun hcs => Sm.out ?_ | go_step | omega | (simp only [maxLen_eq]; omega) | exact trivial
  (refine OutQ.drop _ _ (perm2 (by simp only [hget, hdel, ↓reduceIte, if_true, if_false, FR.out]; first | done | rfl) (by simp only [hget, hdel, ↓reduceIte, if_true, if_false, FR.out]; first | done | rfl)) (by simp only [resv, ZK, look, loadv, loadn, loadnm, load1, load1m, hget, ↓reduceIte, Nat.reduceEqDiff, Nat.reduceAdd, Nat.reduceMul, Nat.reduceLeDiff, Nat.reduceLT, reduceCtorEq, TFCoB, FR.out]) ⟨(by simp only [resv, resA, ZK, look, loadv, loadn, loadnm, load1, load1m, hget, ↓reduceIte, Nat.reduceEqDiff, Nat.reduceAdd, Nat.reduceMul, Nat.reduceLeDiff, Nat.reduceLT, reduceCtorEq, TFCoB, FR.out]; first | done | rfl), rfl⟩)
theorem rglob_ct (s : ByteArray) (h : s.size ≤ 5000) : ACt Tryd.prog 47 [.lit (.string s)] [] (Fn (bv (glB s))) := by
  obtain ⟨e, hb⟩ := s_bstr s
  have hl : (bs s).length = s.size := by conv => rhs; rw [e, bstr_size]
  have c1 := rgood_ct (bs s) hb (by omega)
  have c2 := ACt.fzRow (runes_ct (bs s) hb (by omega))
  unfold stz at c1 c2
  rw [← e] at c1 c2
  unfold glB
  obtain ⟨b, hb2⟩ : ∃ b, gdB (bs s) = b := ⟨_, rfl⟩
  rw [hb2] at c1 ⊢
  have hz : s.size = 0 ↔ (rn (bs s)).length = 0 := by
    rw [← hl]
    constructor
    · intro h0
      have := rnF_len (bs s) (bs s).length 0
      unfold rn; omega
    · intro h0
      apply Classical.byContradiction; intro hn
      have := rF_step (zs := bs s) (i := 0) (by omega)
      rw [rF_zero] at this
      rw [this] at h0
      simp at h0
  obtain ⟨L, hL⟩ : ∃ L, L = rn (bs s) := ⟨_, rfl⟩
  rw [← hL] at c2 hz ⊢
  have ha : decide (s.size ≠ 0) = decide ((L.length : Int) ≥ 1) := decide_eq_decide.2 (by rw [ne_eq, hz]; omega)
  rw [ha]
  obtain ⟨a, ha⟩ : ∃ a, decide ((L.length : Int) ≥ 1) = a := ⟨_, rfl⟩
  rw [ha]
  obtain ⟨c, hc0⟩ : ∃ c, decide ((L.length : Int) ≤ 40) = c := ⟨_, rfl⟩
  rw [hc0]
  simp only [← Bool.and_assoc, ← Bool.or_assoc]
  refine ACt.intro Tryd.func47 rfl (by kernel_rfl) (by simp [Tryd.ntmps47]) (fun cx => ?_)
  simp only [argE, Tryd.ntmps47, Tryd.results47]
  first | (have FRx := FR; clear FRx) | have FR := fr0S
  have FA := Sm.mk (And.intro TFCoB (And.intro ha hc0))
  repeat' first | (apply Sm.mk; refine Ys ?_) | refine WP.seq fun K hK => ?_ | (apply Ob.mk; exact Yo) | refine And.intro (Ob.out ?_) ?_ | refine Y1CoB ?_ | refine Yc (c := c1) (r := ?_) | refine Yc (c := c2) (r := ?_) | refine YzCoB ?_ | (refine WP.cond rfl (fun hc => ?_) (fun hc => ?_) <;> (try simp only [ZC, reduceCtorEq, ZD] at hc) <;> (try exact absurd hc (by decide)) <;> (try (exfalso; omega))) | refine Rt.mk (And.intro (fun hg => Sm.out ?_) fun hg => Sm.out ?_) | (refine Nu.mk ?_; first | (fail_if_success have := nb1); intro nb1 | (fail_if_success have := nb2); intro nb2 | (fail_if_success have := nb3); intro nb3 | (fail_if_success have := nb4); intro nb4 | intro nbz) | (apply Yfr; refine Yf FR fun hFRb FR => ?_) | refine Two.mk ?_ ?_ | (apply Yxc; exact Yx) | refine Cs.mk fun hcs => Sm.out ?_ | go_step | omega | (simp only [maxLen_eq]; omega) | exact trivial
  (refine Yg ?_; try exact trivial)
  cases a <;> cases b <;> cases c <;> rfl
noncomputable def srB (s : Sl) : Bool := nmS s.nm && (glB s.gl && (decide (0 ≤ s.w ∧ s.w ≤ 2) && (decide (0 ≤ s.f) && (decide (s.f < s.t) && decide (s.t ≤ 253402300799)))))
structure Sz (s : Sl) : Prop where
  n : s.nm.size ≤ 1000
  g : s.gl.size ≤ 1000
theorem sright_ct (s : Sl) (hz : Sz s) (n0 n1 : Nat) : ACt Tryd.prog 28 [siv s] [(0, .zs .u8 fsZ 256 n0), (1, .zs .u8 acZ 32 n1)] (fun r F' => r = bv (srB s) ∧ F' = [(0, .zs .u8 fsZ 256 n0), (1, .zs .u8 acZ 32 n1)]) := by
  have c1 := name_s s.nm hz.n
  have c2 := glob_ct s.gl (by have := hz.g; omega) n0 n1
  unfold srB
  obtain ⟨sn, sg, w, f, t⟩ := s
  simp only at c1 c2 ⊢
  obtain ⟨a, ha⟩ : ∃ a, nmS sn = a := ⟨_, rfl⟩
  rw [ha] at c1 ⊢
  obtain ⟨b, hb⟩ : ∃ b, glB sg = b := ⟨_, rfl⟩
  rw [hb] at c2 ⊢
  obtain ⟨x0, h0⟩ : ∃ x, (w == 0) = x := ⟨_, rfl⟩
  obtain ⟨x1, h1⟩ : ∃ x, (w == 1) = x := ⟨_, rfl⟩
  obtain ⟨x2, h2⟩ : ∃ x, (w == 2) = x := ⟨_, rfl⟩
  have hw : decide (0 ≤ w ∧ w ≤ 2) = (x0 || (x1 || x2)) := by
    rw [← h0, ← h1, ← h2, Bool.eq_iff_iff]; simp; omega
  rw [hw]
  obtain ⟨y0, g0⟩ : ∃ x, decide (f ≥ 0) = x := ⟨_, rfl⟩
  have g0' : decide (0 ≤ f) = y0 := g0
  obtain ⟨y1, g1⟩ : ∃ x, decide (t > f) = x := ⟨_, rfl⟩
  have g1' : decide (f < t) = y1 := g1
  obtain ⟨y2, g2⟩ : ∃ x, decide (t ≤ 253402300799) = x := ⟨_, rfl⟩
  rw [g0', g1', g2]
  obtain ⟨FZ, hFZ⟩ : ∃ FZ, FZ = fsZ := ⟨_, rfl⟩
  obtain ⟨AZ, hAZ⟩ : ∃ AZ, AZ = acZ := ⟨_, rfl⟩
  rw [← hFZ, ← hAZ] at c2 ⊢
  clear ha hb hw hz g0' g1' hFZ hAZ
  have hT : (a && (b && ((x0 || (x1 || x2)) && (y0 && (y1 && y2))))) = ((x0 || x1 || x2) && a && b && y0 && y1 && y2) := by ac_rfl
  rw [hT]
  refine ACt.intro Tryd.func28 rfl (by kernel_rfl) (by simp [Tryd.ntmps28]) (fun cx => ?_)
  simp only [argE, Tryd.ntmps28, Tryd.results28]
  first | (have FRx := FR; clear FRx) | have FR := fr0S
  have FA := Sm.mk (And.intro TFCoB (And.intro h0 (And.intro h1 (And.intro h2 (And.intro g0 (And.intro g1 g2))))))
  repeat' first | (apply Sm.mk; refine Ys ?_) | refine WP.seq fun K hK => ?_ | (apply Ob.mk; exact Yo) | refine And.intro (Ob.out ?_) ?_ | refine Y1CoB ?_ | refine Yc (c := c1) (r := ?_) | refine Yl2 (c := c2) (r := ?_) | refine YzCoB ?_ | (refine WP.cond rfl (fun hc => ?_) (fun hc => ?_) <;> (try simp only [ZC, reduceCtorEq, ZD] at hc) <;> (try exact absurd hc (by decide)) <;> (try (exfalso; omega))) | refine Rt.mk (And.intro (fun hg => Sm.out ?_) fun hg => Sm.out ?_) | (refine Nu.mk ?_; first | (fail_if_success have := nb1); intro nb1 | (fail_if_success have := nb2); intro nb2 | (fail_if_success have := nb3); intro nb3 | (fail_if_success have := nb4); intro nb4 | intro nbz) | (apply Yfr; refine Yf FR fun hFRb FR => ?_) | refine Two.mk ?_ ?_ | (apply Yxc; exact Yx) | refine Cs.mk fun hcs => Sm.out ?_ | go_step | omega | (simp only [maxLen_eq]; omega) | exact trivial
  (refine OutQ.drop _ _ (perm2 (by simp only [hget, hdel, ↓reduceIte, if_true, if_false, FR.out]; first | done | rfl) (by simp only [hget, hdel, ↓reduceIte, if_true, if_false, FR.out]; first | done | rfl)) (by simp only [resv, ZK, look, loadv, loadn, loadnm, load1, load1m, hget, ↓reduceIte, Nat.reduceEqDiff, Nat.reduceAdd, Nat.reduceMul, Nat.reduceLeDiff, Nat.reduceLT, reduceCtorEq, TFCoB, FR.out]) ⟨(by simp only [resv, resA, ZK, look, loadv, loadn, loadnm, load1, load1m, hget, ↓reduceIte, Nat.reduceEqDiff, Nat.reduceAdd, Nat.reduceMul, Nat.reduceLeDiff, Nat.reduceLT, reduceCtorEq, TFCoB, FR.out]; first | done | rfl), rfl⟩)
theorem rsright_ct (s : Sl) (hz : Sz s) : ACt Tryd.prog 18 [siv s] [] (Fn (bv (srB s))) := by
  have c1 := rname_s s.nm hz.n
  have c2 := rglob_ct s.gl (by have := hz.g; omega)
  unfold srB
  obtain ⟨sn, sg, w, f, t⟩ := s
  simp only at c1 c2 ⊢
  obtain ⟨a, ha⟩ : ∃ a, nmS sn = a := ⟨_, rfl⟩
  rw [ha] at c1 ⊢
  obtain ⟨b, hb⟩ : ∃ b, glB sg = b := ⟨_, rfl⟩
  rw [hb] at c2 ⊢
  obtain ⟨x0, h0⟩ : ∃ x, decide (w ≥ 0) = x := ⟨_, rfl⟩
  obtain ⟨x1, h1⟩ : ∃ x, decide (w ≤ 2) = x := ⟨_, rfl⟩
  have hw : decide (0 ≤ w ∧ w ≤ 2) = (x0 && x1) := by
    rw [← h0, ← h1, Bool.eq_iff_iff]; simp
  rw [hw]
  obtain ⟨y0, g0⟩ : ∃ x, decide (f ≥ 0) = x := ⟨_, rfl⟩
  have g0' : decide (0 ≤ f) = y0 := g0
  obtain ⟨y1, g1⟩ : ∃ x, decide (f < t) = x := ⟨_, rfl⟩
  obtain ⟨y2, g2⟩ : ∃ x, decide (t ≤ 253402300799) = x := ⟨_, rfl⟩
  rw [g0', g1, g2]
  clear ha hb hw hz g0'
  simp only [← Bool.and_assoc, ← Bool.or_assoc]
  refine ACt.intro Tryd.func18 rfl (by kernel_rfl) (by simp [Tryd.ntmps18]) (fun cx => ?_)
  simp only [argE, Tryd.ntmps18, Tryd.results18]
  first | (have FRx := FR; clear FRx) | have FR := fr0S
  have FA := Sm.mk (And.intro TFCoB (And.intro h0 (And.intro h1 (And.intro g0 (And.intro g1 g2)))))
  repeat' first | (apply Sm.mk; refine Ys ?_) | refine WP.seq fun K hK => ?_ | (apply Ob.mk; exact Yo) | refine And.intro (Ob.out ?_) ?_ | refine Y1CoB ?_ | refine Yc (c := c1) (r := ?_) | refine Yc (c := c2) (r := ?_) | refine YzCoB ?_ | (refine WP.cond rfl (fun hc => ?_) (fun hc => ?_) <;> (try simp only [ZC, reduceCtorEq, ZD] at hc) <;> (try exact absurd hc (by decide)) <;> (try (exfalso; omega))) | refine Rt.mk (And.intro (fun hg => Sm.out ?_) fun hg => Sm.out ?_) | (refine Nu.mk ?_; first | (fail_if_success have := nb1); intro nb1 | (fail_if_success have := nb2); intro nb2 | (fail_if_success have := nb3); intro nb3 | (fail_if_success have := nb4); intro nb4 | intro nbz) | (apply Yfr; refine Yf FR fun hFRb FR => ?_) | refine Two.mk ?_ ?_ | (apply Yxc; exact Yx) | refine Cs.mk fun hcs => Sm.out ?_ | go_step | omega | (simp only [maxLen_eq]; omega) | exact trivial
  (refine Yg ?_; try exact trivial)
open Go Wi
def TFCoD :=
  And.intro (And.intro (And.intro (And.intro (And.intro tyc0 (And.intro tyc2 zmb2)) (And.intro (And.intro tyc3 zmb3) (And.intro tyc4 zmb4))) (And.intro (And.intro tyc5 (And.intro zmb5 tyc9)) (And.intro (And.intro zmb9 tyc22) (And.intro zmb22 tyc26)))) (And.intro (And.intro (And.intro foff26_0 (And.intro fpart26_0 foff26_1)) (And.intro (And.intro fpart26_1 foff26_2) (And.intro fpart26_2 foff26_3))) (And.intro (And.intro fpart26_3 (And.intro foff26_4 fpart26_4)) (And.intro (And.intro fe26 zmb26) (And.intro bldT26 tyc28))))) (And.intro (And.intro (And.intro (And.intro foff28_0 (And.intro fpart28_0 foff28_1)) (And.intro (And.intro fpart28_1 foff28_2) (And.intro fpart28_2 foff28_3))) (And.intro (And.intro fpart28_3 (And.intro foff28_4 fpart28_4)) (And.intro (And.intro fe28 zmb28) (And.intro bldT28 tyc33)))) (And.intro (And.intro (And.intro elt33 (And.intro mkz33 apT33)) (And.intro (And.intro elk33 zmb33) (And.intro Tryd.underlying0 Tryd.underlying2))) (And.intro (And.intro (And.intro Tryd.underlying3 Tryd.underlying4) (And.intro Tryd.underlying5 Tryd.underlying9)) (And.intro (And.intro Tryd.underlying22 Tryd.underlying26) (And.intro Tryd.underlying28 Tryd.underlying33)))))
theorem Y1CoD {G R : Prop} (r : R) (h : R → G := by intro r; first | (apply WP.region; exact rvc_sound _ _ (Sm.out r)) | exact WP.drawN (cs := [3,6]) (k := 7) (bs := [nb6]) mixed (by decide +kernel) (by decide +kernel) (by decide +kernel) (by decide +kernel) (Sm.out r) | exact WP.drawN (cs := [3,6,9]) (k := 10) (bs := [nb4]) mixed (by decide +kernel) (by decide +kernel) (by decide +kernel) (by decide +kernel) (Sm.out r) | exact WP.drawN (cs := [3,6]) (k := 7) (bs := [b]) mixed (by decide +kernel) (by decide +kernel) (by decide +kernel) (by decide +kernel) (Sm.out r) | exact WP.drawN (cs := [3,6,9]) (k := 10) (bs := [b]) mixed (by decide +kernel) (by decide +kernel) (by decide +kernel) (by decide +kernel) (Sm.out r) | exact WP.drawK rfl mixed (by decide +kernel) (Sm.out r) | (apply WP.block; exact r) | (apply WP.skip; exact Yq r) | (apply WP.exit; exact Yq r) | (apply WP.ret; exact Sm.out r) | exact WP.cond rfl (fun _ => r) (fun hg => absurd hg (by decide)) | exact WP.cond rfl (fun hg => absurd hg (by decide)) (fun _ => r) | exact Rt.mk (And.intro (fun _ => Sm.out r) fun hg => absurd hg (by decide)) | exact Rt.mk (And.intro (fun hg => absurd hg (by decide)) fun _ => Sm.out r)) : G := h r
theorem YzCoD {G R : Prop} (r : R) (h : R → G := by intro r; first | (apply ExG.no; exact Sm.out r) | (apply Or.inl; apply ExG.no; exact Sm.out r) | exact Or.inl (And.intro (fun hg => absurd hg (by decide)) (ExG.no (Sm.out r)))) : G := h r
def txL (s : ByteArray) : List Int := putL 0 s.size ++ strL s
theorem txL_len (s : ByteArray) (h : s.size ≤ 10000) : (txL s).length ≤ s.size + 9 := by
  have := putL_len 0 s.size (by omega)
  unfold txL; rw [List.length_append, strL_len]; omega
theorem intL_len (i : Int) (h1 : -9223372036854775808 ≤ i) (h2 : i ≤ 9223372036854775807) : (intL i).length ≤ 9 := by
  unfold intL
  split
  · exact putL_len _ _ (by omega)
  · exact putL_len _ _ (by omega)
abbrev flL (f : Bool) : List Int := [if f then 1 else 0]
theorem tx_ct (b cap : Nat) (zs : List Int) (s : ByteArray) (hz : zs.length ≤ 10000) (h1 : zs.length ≤ cap) (h2 : cap ≤ 9223372036854775807) (hs : s.size ≤ 10000) :
    ACt Tryd.prog 20 [ms b 0 zs.length cap, .lit (.string s)] [(b, .zs .u8 zs cap 5)] (Row .u8 5 (zs ++ txL s)) := by
  have := text_ct b cap zs s hz h1 h2 hs
  rw [List.append_assoc] at this
  exact this
def kL (k : Ky) : List Int := txL k.g ++ (txL k.r ++ (flL k.p ++ (putL 0 k.e.toNat ++ flL k.s)))
structure Kb (k : Ky) : Prop where
  z : Kz k
  e0 : 0 ≤ k.e
  e1 : k.e ≤ 18446744073709551615
set_option maxRecDepth 8000 in
set_option maxHeartbeats 2000000 in
theorem kput_ct (b cap : Nat) (zs : List Int) (k : Ky) (hk : Kb k) (hz : zs.length ≤ 5000) (h1 : zs.length ≤ cap) (h2 : cap ≤ 9223372036854775807) :
    ACt Tryd.prog 22 [ms b 0 zs.length cap, kv k] [(b, .zs .u8 zs cap 5)] (Row .u8 5 (zs ++ kL k)) := by
  have l1 := txL_len k.g (by have := hk.z.g; omega)
  have l2 := txL_len k.r (by have := hk.z.r; omega)
  have m1 := hk.z.g
  have m2 := hk.z.r
  have m3 := hk.e0
  have m4 := hk.e1
  have l4 := putL_len 0 k.e.toNat (by omega)
  obtain ⟨kg, kr, kp, ke, ks⟩ := k
  simp only at l1 l2 m1 m2 m3 m4 l4
  obtain ⟨e, rfl⟩ := Int.eq_ofNat_of_zero_le m3
  have hT : zs ++ kL ⟨kg, kr, kp, (e : Int), ks⟩ = zs ++ txL kg ++ txL kr ++ flL kp ++ putL 0 e ++ flL ks := by simp [kL]
  rw [hT]
  rw [Int.toNat_natCast] at l4
  have c1 := tx_ct b cap zs kg (by omega) h1 h2 (by omega)
  have c2 := fun b' cap' h h' => tx_ct b' cap' (zs ++ txL kg) kr (by rw [List.length_append]; omega) h h' (by omega)
  have c3 := fun b' cap' h h' => flag_ct b' cap' (zs ++ txL kg ++ txL kr) kp (by simp only [List.length_append]; omega) h h'
  have c4 := fun b' cap' h h' => num_ct b' cap' (zs ++ txL kg ++ txL kr ++ flL kp) e (by simp only [List.length_append, List.length_cons, List.length_nil]; omega) h h' (by omega)
  have c5 := fun b' cap' h h' => flag_ct b' cap' (zs ++ txL kg ++ txL kr ++ flL kp ++ putL 0 e) ks (by simp only [List.length_append, List.length_cons, List.length_nil]; omega) h h'
  obtain ⟨D1, hD1⟩ : ∃ D1, D1 = zs ++ txL kg := ⟨_, rfl⟩
  rw [← hD1] at c1 c2 c3 c4 c5 ⊢
  obtain ⟨D2, hD2⟩ : ∃ D2, D2 = D1 ++ txL kr := ⟨_, rfl⟩
  rw [← hD2] at c2 c3 c4 c5 ⊢
  obtain ⟨D3, hD3⟩ : ∃ D3, D3 = D2 ++ flL kp := ⟨_, rfl⟩
  rw [← hD3] at c3 c4 c5 ⊢
  obtain ⟨D4, hD4⟩ : ∃ D4, D4 = D3 ++ putL 0 e := ⟨_, rfl⟩
  rw [← hD4] at c4 c5 ⊢
  obtain ⟨D5, hD5⟩ : ∃ D5, D5 = D4 ++ flL ks := ⟨_, rfl⟩
  rw [← hD5] at c5 ⊢
  refine ACt.intro Tryd.func22 rfl (by kernel_rfl) (by simp [Tryd.ntmps22]) (fun cx => ?_)
  simp only [argE, Tryd.ntmps22, Tryd.results22]
  first | (have FRx := FR; clear FRx) | have FR := fr0S
  have FA := Sm.mk (TFCoD)
  repeat' first | (apply Sm.mk; refine Ys ?_) | refine WP.seq fun K hK => ?_ | (apply Ob.mk; exact Yo) | refine And.intro (Ob.out ?_) ?_ | refine Y1CoD ?_ | (refine WCt.row (by simp only [hget, ↓reduceIte, FR.out]; first | done | rfl) (c1) (Sm.out ?_)) | (refine WCt.mkrow (c1) (Sm.out ?_)) | (refine CallV.row (by simp only [hget, ↓reduceIte, FR.out]; first | done | rfl) (c1) (Sm.out ?_)) | refine CallV.mkrow (c1) (Sm.out ?_) | (refine CallV.upd (by simp only [hget, ↓reduceIte, FR.out]; first | done | rfl) (c1) (Sm.out ?_)) | refine CallV.mkobj (c1) (Sm.out ?_) | (first | refine CallV.fn (c1) (Sm.out ?_) | refine ExF.mk (c1) (Sm.out ?_) | refine ExG.mk (fun _ => c1) (Sm.out ?_) | refine ExG.mkJ (fun _ => c1) (Sm.out ?_) | refine ExG.mkI (Ob.out ?_) (fun _ => c1) (Sm.out ?_)) | (refine WCt.row (by simp only [hget, ↓reduceIte, FR.out]; first | done | rfl) (c2 nb2 nb3 (by omega) (by omega)) (Sm.out ?_)) | (refine WCt.mkrow (c2 nb2 nb3 (by omega) (by omega)) (Sm.out ?_)) | (refine CallV.row (by simp only [hget, ↓reduceIte, FR.out]; first | done | rfl) (c2 nb2 nb3 (by omega) (by omega)) (Sm.out ?_)) | refine CallV.mkrow (c2 nb2 nb3 (by omega) (by omega)) (Sm.out ?_) | (refine CallV.upd (by simp only [hget, ↓reduceIte, FR.out]; first | done | rfl) (c2 nb2 nb3 (by omega) (by omega)) (Sm.out ?_)) | refine CallV.mkobj (c2 nb2 nb3 (by omega) (by omega)) (Sm.out ?_) | (first | refine CallV.fn (c2 nb2 nb3 (by omega) (by omega)) (Sm.out ?_) | refine ExF.mk (c2 nb2 nb3 (by omega) (by omega)) (Sm.out ?_) | refine ExG.mk (fun _ => c2 nb2 nb3 (by omega) (by omega)) (Sm.out ?_) | refine ExG.mkJ (fun _ => c2 nb2 nb3 (by omega) (by omega)) (Sm.out ?_) | refine ExG.mkI (Ob.out ?_) (fun _ => c2 nb2 nb3 (by omega) (by omega)) (Sm.out ?_)) | (refine WCt.row (by simp only [hget, ↓reduceIte, FR.out]; first | done | rfl) (c3 nb4 nb5 (by omega) (by omega)) (Sm.out ?_)) | (refine WCt.mkrow (c3 nb4 nb5 (by omega) (by omega)) (Sm.out ?_)) | (refine CallV.row (by simp only [hget, ↓reduceIte, FR.out]; first | done | rfl) (c3 nb4 nb5 (by omega) (by omega)) (Sm.out ?_)) | refine CallV.mkrow (c3 nb4 nb5 (by omega) (by omega)) (Sm.out ?_) | (refine CallV.upd (by simp only [hget, ↓reduceIte, FR.out]; first | done | rfl) (c3 nb4 nb5 (by omega) (by omega)) (Sm.out ?_)) | refine CallV.mkobj (c3 nb4 nb5 (by omega) (by omega)) (Sm.out ?_) | (first | refine CallV.fn (c3 nb4 nb5 (by omega) (by omega)) (Sm.out ?_) | refine ExF.mk (c3 nb4 nb5 (by omega) (by omega)) (Sm.out ?_) | refine ExG.mk (fun _ => c3 nb4 nb5 (by omega) (by omega)) (Sm.out ?_) | refine ExG.mkJ (fun _ => c3 nb4 nb5 (by omega) (by omega)) (Sm.out ?_) | refine ExG.mkI (Ob.out ?_) (fun _ => c3 nb4 nb5 (by omega) (by omega)) (Sm.out ?_)) | (refine WCt.row (by simp only [hget, ↓reduceIte, FR.out]; first | done | rfl) (c4 nb6 nb7 (by omega) (by omega)) (Sm.out ?_)) | (refine WCt.mkrow (c4 nb6 nb7 (by omega) (by omega)) (Sm.out ?_)) | (refine CallV.row (by simp only [hget, ↓reduceIte, FR.out]; first | done | rfl) (c4 nb6 nb7 (by omega) (by omega)) (Sm.out ?_)) | refine CallV.mkrow (c4 nb6 nb7 (by omega) (by omega)) (Sm.out ?_) | (refine CallV.upd (by simp only [hget, ↓reduceIte, FR.out]; first | done | rfl) (c4 nb6 nb7 (by omega) (by omega)) (Sm.out ?_)) | refine CallV.mkobj (c4 nb6 nb7 (by omega) (by omega)) (Sm.out ?_) | (first | refine CallV.fn (c4 nb6 nb7 (by omega) (by omega)) (Sm.out ?_) | refine ExF.mk (c4 nb6 nb7 (by omega) (by omega)) (Sm.out ?_) | refine ExG.mk (fun _ => c4 nb6 nb7 (by omega) (by omega)) (Sm.out ?_) | refine ExG.mkJ (fun _ => c4 nb6 nb7 (by omega) (by omega)) (Sm.out ?_) | refine ExG.mkI (Ob.out ?_) (fun _ => c4 nb6 nb7 (by omega) (by omega)) (Sm.out ?_)) | (refine WCt.row (by simp only [hget, ↓reduceIte, FR.out]; first | done | rfl) (c5 nb8 nb9 (by omega) (by omega)) (Sm.out ?_)) | (refine WCt.mkrow (c5 nb8 nb9 (by omega) (by omega)) (Sm.out ?_)) | (refine CallV.row (by simp only [hget, ↓reduceIte, FR.out]; first | done | rfl) (c5 nb8 nb9 (by omega) (by omega)) (Sm.out ?_)) | refine CallV.mkrow (c5 nb8 nb9 (by omega) (by omega)) (Sm.out ?_) | (refine CallV.upd (by simp only [hget, ↓reduceIte, FR.out]; first | done | rfl) (c5 nb8 nb9 (by omega) (by omega)) (Sm.out ?_)) | refine CallV.mkobj (c5 nb8 nb9 (by omega) (by omega)) (Sm.out ?_) | (first | refine CallV.fn (c5 nb8 nb9 (by omega) (by omega)) (Sm.out ?_) | refine ExF.mk (c5 nb8 nb9 (by omega) (by omega)) (Sm.out ?_) | refine ExG.mk (fun _ => c5 nb8 nb9 (by omega) (by omega)) (Sm.out ?_) | refine ExG.mkJ (fun _ => c5 nb8 nb9 (by omega) (by omega)) (Sm.out ?_) | refine ExG.mkI (Ob.out ?_) (fun _ => c5 nb8 nb9 (by omega) (by omega)) (Sm.out ?_)) | refine YzCoD ?_ | (refine WP.cond rfl (fun hc => ?_) (fun hc => ?_) <;> (try simp only [ZC, reduceCtorEq, ZD] at hc) <;> (try exact absurd hc (by decide)) <;> (try (exfalso; omega))) | refine Rt.mk (And.intro (fun hg => Sm.out ?_) fun hg => Sm.out ?_) | (refine Nu.mk ?_; first | (fail_if_success have := nb1); intro nb1 | (fail_if_success have := nb2); intro nb2 | (fail_if_success have := nb3); intro nb3 | (fail_if_success have := nb4); intro nb4 | (fail_if_success have := nb5); intro nb5 | (fail_if_success have := nb6); intro nb6 | (fail_if_success have := nb7); intro nb7 | (fail_if_success have := nb8); intro nb8 | (fail_if_success have := nb9); intro nb9 | (fail_if_success have := nb10); intro nb10 | (fail_if_success have := nb11); intro nb11 | (fail_if_success have := nb12); intro nb12 | intro nbz) | (apply Yfr; refine Yf FR fun hFRb FR => ?_) | refine Two.mk ?_ ?_ | (apply Yxc; exact Yx) | refine Cs.mk fun hcs => Sm.out ?_ | go_step | omega | (simp only [maxLen_eq]; omega) | exact trivial | refine Or.inr (Rt.mk (And.intro (fun hg => Sm.out ?_) fun hg => Sm.out ?_))
  (refine OutQ.row (by simp only [resv, ZK, look, loadv, loadn, loadnm, load1, load1m, hget, ↓reduceIte, Nat.reduceEqDiff, Nat.reduceAdd, Nat.reduceMul, Nat.reduceLeDiff, Nat.reduceLT, reduceCtorEq, TFCoD, FR.out]) (by simp only [resv, resA, ZK, look, loadv, loadn, loadnm, load1, load1m, hget, ↓reduceIte, Nat.reduceEqDiff, Nat.reduceAdd, Nat.reduceMul, Nat.reduceLeDiff, Nat.reduceLT, reduceCtorEq, TFCoD, FR.out]; first | done | rfl) (by simp only [hget, ↓reduceIte, if_true, if_false, FR.out]; first | done | rfl) ?_ ?_ ?_ ?_ <;> first | omega | (simp only [maxLen_eq]; omega) | skip)
  all_goals rfl
def sL (s : Sl) : List Int := txL s.nm ++ (txL s.gl ++ (intL s.w ++ (intL s.f ++ intL s.t)))
structure Sb (s : Sl) : Prop where
  z : Sz s
  w : -9223372036854775808 ≤ s.w ∧ s.w ≤ 9223372036854775807
  f : -9223372036854775808 ≤ s.f ∧ s.f ≤ 9223372036854775807
  t : -9223372036854775808 ≤ s.t ∧ s.t ≤ 9223372036854775807
set_option maxRecDepth 8000 in
set_option maxHeartbeats 2000000 in
theorem sput_ct (b cap : Nat) (zs : List Int) (s : Sl) (hs : Sb s) (hz : zs.length ≤ 5000) (h1 : zs.length ≤ cap) (h2 : cap ≤ 9223372036854775807) :
    ACt Tryd.prog 23 [ms b 0 zs.length cap, siv s] [(b, .zs .u8 zs cap 5)] (Row .u8 5 (zs ++ sL s)) := by
  have l1 := txL_len s.nm (by have := hs.z.n; omega)
  have l2 := txL_len s.gl (by have := hs.z.g; omega)
  have m1 := hs.z.n
  have m2 := hs.z.g
  have mw := hs.w
  have mf := hs.f
  have mt := hs.t
  have l3 := intL_len s.w mw.1 mw.2
  have l4 := intL_len s.f mf.1 mf.2
  obtain ⟨sn, sg, w, f, t⟩ := s
  simp only at l1 l2 m1 m2 mw mf mt l3 l4
  have hT : zs ++ sL ⟨sn, sg, w, f, t⟩ = zs ++ txL sn ++ txL sg ++ intL w ++ intL f ++ intL t := by simp [sL]
  rw [hT]
  have c1 := tx_ct b cap zs sn (by omega) h1 h2 (by omega)
  have c2 := fun b' cap' h h' => tx_ct b' cap' (zs ++ txL sn) sg (by rw [List.length_append]; omega) h h' (by omega)
  have c3 := fun b' cap' h h' => int_ct b' cap' (zs ++ txL sn ++ txL sg) w (by simp only [List.length_append]; omega) h h' mw.1 mw.2
  have c4 := fun b' cap' h h' => int_ct b' cap' (zs ++ txL sn ++ txL sg ++ intL w) f (by simp only [List.length_append]; omega) h h' mf.1 mf.2
  have c5 := fun b' cap' h h' => int_ct b' cap' (zs ++ txL sn ++ txL sg ++ intL w ++ intL f) t (by simp only [List.length_append]; omega) h h' mt.1 mt.2
  obtain ⟨D1, hD1⟩ : ∃ D1, D1 = zs ++ txL sn := ⟨_, rfl⟩
  rw [← hD1] at c1 c2 c3 c4 c5 ⊢
  obtain ⟨D2, hD2⟩ : ∃ D2, D2 = D1 ++ txL sg := ⟨_, rfl⟩
  rw [← hD2] at c2 c3 c4 c5 ⊢
  obtain ⟨D3, hD3⟩ : ∃ D3, D3 = D2 ++ intL w := ⟨_, rfl⟩
  rw [← hD3] at c3 c4 c5 ⊢
  obtain ⟨D4, hD4⟩ : ∃ D4, D4 = D3 ++ intL f := ⟨_, rfl⟩
  rw [← hD4] at c4 c5 ⊢
  obtain ⟨D5, hD5⟩ : ∃ D5, D5 = D4 ++ intL t := ⟨_, rfl⟩
  rw [← hD5] at c5 ⊢
  refine ACt.intro Tryd.func23 rfl (by kernel_rfl) (by simp [Tryd.ntmps23]) (fun cx => ?_)
  simp only [argE, Tryd.ntmps23, Tryd.results23]
  first | (have FRx := FR; clear FRx) | have FR := fr0S
  have FA := Sm.mk (TFCoD)
  repeat' first | (apply Sm.mk; refine Ys ?_) | refine WP.seq fun K hK => ?_ | (apply Ob.mk; exact Yo) | refine And.intro (Ob.out ?_) ?_ | refine Y1CoD ?_ | (refine WCt.row (by simp only [hget, ↓reduceIte, FR.out]; first | done | rfl) (c1) (Sm.out ?_)) | (refine WCt.mkrow (c1) (Sm.out ?_)) | (refine CallV.row (by simp only [hget, ↓reduceIte, FR.out]; first | done | rfl) (c1) (Sm.out ?_)) | refine CallV.mkrow (c1) (Sm.out ?_) | (refine CallV.upd (by simp only [hget, ↓reduceIte, FR.out]; first | done | rfl) (c1) (Sm.out ?_)) | refine CallV.mkobj (c1) (Sm.out ?_) | (first | refine CallV.fn (c1) (Sm.out ?_) | refine ExF.mk (c1) (Sm.out ?_) | refine ExG.mk (fun _ => c1) (Sm.out ?_) | refine ExG.mkJ (fun _ => c1) (Sm.out ?_) | refine ExG.mkI (Ob.out ?_) (fun _ => c1) (Sm.out ?_)) | (refine WCt.row (by simp only [hget, ↓reduceIte, FR.out]; first | done | rfl) (c2 nb2 nb3 (by omega) (by omega)) (Sm.out ?_)) | (refine WCt.mkrow (c2 nb2 nb3 (by omega) (by omega)) (Sm.out ?_)) | (refine CallV.row (by simp only [hget, ↓reduceIte, FR.out]; first | done | rfl) (c2 nb2 nb3 (by omega) (by omega)) (Sm.out ?_)) | refine CallV.mkrow (c2 nb2 nb3 (by omega) (by omega)) (Sm.out ?_) | (refine CallV.upd (by simp only [hget, ↓reduceIte, FR.out]; first | done | rfl) (c2 nb2 nb3 (by omega) (by omega)) (Sm.out ?_)) | refine CallV.mkobj (c2 nb2 nb3 (by omega) (by omega)) (Sm.out ?_) | (first | refine CallV.fn (c2 nb2 nb3 (by omega) (by omega)) (Sm.out ?_) | refine ExF.mk (c2 nb2 nb3 (by omega) (by omega)) (Sm.out ?_) | refine ExG.mk (fun _ => c2 nb2 nb3 (by omega) (by omega)) (Sm.out ?_) | refine ExG.mkJ (fun _ => c2 nb2 nb3 (by omega) (by omega)) (Sm.out ?_) | refine ExG.mkI (Ob.out ?_) (fun _ => c2 nb2 nb3 (by omega) (by omega)) (Sm.out ?_)) | (refine WCt.row (by simp only [hget, ↓reduceIte, FR.out]; first | done | rfl) (c3 nb4 nb5 (by omega) (by omega)) (Sm.out ?_)) | (refine WCt.mkrow (c3 nb4 nb5 (by omega) (by omega)) (Sm.out ?_)) | (refine CallV.row (by simp only [hget, ↓reduceIte, FR.out]; first | done | rfl) (c3 nb4 nb5 (by omega) (by omega)) (Sm.out ?_)) | refine CallV.mkrow (c3 nb4 nb5 (by omega) (by omega)) (Sm.out ?_) | (refine CallV.upd (by simp only [hget, ↓reduceIte, FR.out]; first | done | rfl) (c3 nb4 nb5 (by omega) (by omega)) (Sm.out ?_)) | refine CallV.mkobj (c3 nb4 nb5 (by omega) (by omega)) (Sm.out ?_) | (first | refine CallV.fn (c3 nb4 nb5 (by omega) (by omega)) (Sm.out ?_) | refine ExF.mk (c3 nb4 nb5 (by omega) (by omega)) (Sm.out ?_) | refine ExG.mk (fun _ => c3 nb4 nb5 (by omega) (by omega)) (Sm.out ?_) | refine ExG.mkJ (fun _ => c3 nb4 nb5 (by omega) (by omega)) (Sm.out ?_) | refine ExG.mkI (Ob.out ?_) (fun _ => c3 nb4 nb5 (by omega) (by omega)) (Sm.out ?_)) | (refine WCt.row (by simp only [hget, ↓reduceIte, FR.out]; first | done | rfl) (c4 nb6 nb7 (by omega) (by omega)) (Sm.out ?_)) | (refine WCt.mkrow (c4 nb6 nb7 (by omega) (by omega)) (Sm.out ?_)) | (refine CallV.row (by simp only [hget, ↓reduceIte, FR.out]; first | done | rfl) (c4 nb6 nb7 (by omega) (by omega)) (Sm.out ?_)) | refine CallV.mkrow (c4 nb6 nb7 (by omega) (by omega)) (Sm.out ?_) | (refine CallV.upd (by simp only [hget, ↓reduceIte, FR.out]; first | done | rfl) (c4 nb6 nb7 (by omega) (by omega)) (Sm.out ?_)) | refine CallV.mkobj (c4 nb6 nb7 (by omega) (by omega)) (Sm.out ?_) | (first | refine CallV.fn (c4 nb6 nb7 (by omega) (by omega)) (Sm.out ?_) | refine ExF.mk (c4 nb6 nb7 (by omega) (by omega)) (Sm.out ?_) | refine ExG.mk (fun _ => c4 nb6 nb7 (by omega) (by omega)) (Sm.out ?_) | refine ExG.mkJ (fun _ => c4 nb6 nb7 (by omega) (by omega)) (Sm.out ?_) | refine ExG.mkI (Ob.out ?_) (fun _ => c4 nb6 nb7 (by omega) (by omega)) (Sm.out ?_)) | (refine WCt.row (by simp only [hget, ↓reduceIte, FR.out]; first | done | rfl) (c5 nb8 nb9 (by omega) (by omega)) (Sm.out ?_)) | (refine WCt.mkrow (c5 nb8 nb9 (by omega) (by omega)) (Sm.out ?_)) | (refine CallV.row (by simp only [hget, ↓reduceIte, FR.out]; first | done | rfl) (c5 nb8 nb9 (by omega) (by omega)) (Sm.out ?_)) | refine CallV.mkrow (c5 nb8 nb9 (by omega) (by omega)) (Sm.out ?_) | (refine CallV.upd (by simp only [hget, ↓reduceIte, FR.out]; first | done | rfl) (c5 nb8 nb9 (by omega) (by omega)) (Sm.out ?_)) | refine CallV.mkobj (c5 nb8 nb9 (by omega) (by omega)) (Sm.out ?_) | (first | refine CallV.fn (c5 nb8 nb9 (by omega) (by omega)) (Sm.out ?_) | refine ExF.mk (c5 nb8 nb9 (by omega) (by omega)) (Sm.out ?_) | refine ExG.mk (fun _ => c5 nb8 nb9 (by omega) (by omega)) (Sm.out ?_) | refine ExG.mkJ (fun _ => c5 nb8 nb9 (by omega) (by omega)) (Sm.out ?_) | refine ExG.mkI (Ob.out ?_) (fun _ => c5 nb8 nb9 (by omega) (by omega)) (Sm.out ?_)) | refine YzCoD ?_ | (refine WP.cond rfl (fun hc => ?_) (fun hc => ?_) <;> (try simp only [ZC, reduceCtorEq, ZD] at hc) <;> (try exact absurd hc (by decide)) <;> (try (exfalso; omega))) | refine Rt.mk (And.intro (fun hg => Sm.out ?_) fun hg => Sm.out ?_) | (refine Nu.mk ?_; first | (fail_if_success have := nb1); intro nb1 | (fail_if_success have := nb2); intro nb2 | (fail_if_success have := nb3); intro nb3 | (fail_if_success have := nb4); intro nb4 | (fail_if_success have := nb5); intro nb5 | (fail_if_success have := nb6); intro nb6 | (fail_if_success have := nb7); intro nb7 | (fail_if_success have := nb8); intro nb8 | (fail_if_success have := nb9); intro nb9 | (fail_if_success have := nb10); intro nb10 | (fail_if_success have := nb11); intro nb11 | (fail_if_success have := nb12); intro nb12 | intro nbz) | (apply Yfr; refine Yf FR fun hFRb FR => ?_) | refine Two.mk ?_ ?_ | (apply Yxc; exact Yx) | refine Cs.mk fun hcs => Sm.out ?_ | go_step | omega | (simp only [maxLen_eq]; omega) | exact trivial | refine Or.inr (Rt.mk (And.intro (fun hg => Sm.out ?_) fun hg => Sm.out ?_))
  (refine OutQ.row (by simp only [resv, ZK, look, loadv, loadn, loadnm, load1, load1m, hget, ↓reduceIte, Nat.reduceEqDiff, Nat.reduceAdd, Nat.reduceMul, Nat.reduceLeDiff, Nat.reduceLT, reduceCtorEq, TFCoD, FR.out]) (by simp only [resv, resA, ZK, look, loadv, loadn, loadnm, load1, load1m, hget, ↓reduceIte, Nat.reduceEqDiff, Nat.reduceAdd, Nat.reduceMul, Nat.reduceLeDiff, Nat.reduceLT, reduceCtorEq, TFCoD, FR.out]; first | done | rfl) (by simp only [hget, ↓reduceIte, if_true, if_false, FR.out]; first | done | rfl) ?_ ?_ ?_ ?_ <;> first | omega | (simp only [maxLen_eq]; omega) | skip)
  all_goals rfl
def TFCoG :=
  And.intro (And.intro (And.intro (And.intro (And.intro (And.intro tyc0 tyc2) (And.intro zmb2 tyc3)) (And.intro (And.intro zmb3 tyc4) (And.intro zmb4 tyc9))) (And.intro (And.intro (And.intro zmb9 tyc24) (And.intro foff24_0 fpart24_0)) (And.intro (And.intro foff24_1 fpart24_1) (And.intro fe24 (And.intro zmb24 bldT24))))) (And.intro (And.intro (And.intro (And.intro tyc26 foff26_0) (And.intro fpart26_0 foff26_1)) (And.intro (And.intro fpart26_1 foff26_2) (And.intro fpart26_2 foff26_3))) (And.intro (And.intro (And.intro fpart26_3 foff26_4) (And.intro fpart26_4 fe26)) (And.intro (And.intro zmb26 bldT26) (And.intro tyc28 (And.intro foff28_0 fpart28_0)))))) (And.intro (And.intro (And.intro (And.intro (And.intro foff28_1 fpart28_1) (And.intro foff28_2 fpart28_2)) (And.intro (And.intro foff28_3 fpart28_3) (And.intro foff28_4 fpart28_4))) (And.intro (And.intro (And.intro fe28 zmb28) (And.intro bldT28 tyc30)) (And.intro (And.intro foff30_0 fpart30_0) (And.intro foff30_1 (And.intro fpart30_1 foff30_2))))) (And.intro (And.intro (And.intro (And.intro fpart30_2 foff30_3) (And.intro fpart30_3 foff30_4)) (And.intro (And.intro fpart30_4 foff30_5) (And.intro fpart30_5 (And.intro zmb30 bldT30)))) (And.intro (And.intro (And.intro Tryd.underlying0 Tryd.underlying2) (And.intro Tryd.underlying3 Tryd.underlying4)) (And.intro (And.intro Tryd.underlying9 Tryd.underlying24) (And.intro Tryd.underlying26 (And.intro Tryd.underlying28 Tryd.underlying30))))))
theorem Y1CoG {G R : Prop} (r : R) (h : R → G := by intro r; first | (apply WP.region; exact rvc_sound _ _ (Sm.out r)) | exact WP.drawC (c := 7) (ws := [5]) (ls := []) (bs := [nb3]) mixed (by decide +kernel) (by decide +kernel) (by decide +kernel) (Sm.out r) | exact WP.drawK rfl mixed (by decide +kernel) (Sm.out r) | (apply WP.block; exact r) | (apply WP.skip; exact Yq r) | (apply WP.exit; exact Yq r) | (apply WP.ret; exact Sm.out r) | exact WP.cond rfl (fun _ => r) (fun hg => absurd hg (by decide)) | exact WP.cond rfl (fun hg => absurd hg (by decide)) (fun _ => r) | exact Rt.mk (And.intro (fun _ => Sm.out r) fun hg => absurd hg (by decide)) | exact Rt.mk (And.intro (fun hg => absurd hg (by decide)) fun _ => Sm.out r)) : G := h r
theorem YzCoG {G R : Prop} (r : R) (h : R → G := by intro r; first | (apply ExG.no; exact Sm.out r) | (apply Or.inl; apply ExG.no; exact Sm.out r) | exact Or.inl (And.intro (fun hg => absurd hg (by decide)) (ExG.no (Sm.out r)))) : G := h r
structure Oq where
  kd : Int
  tx : ByteArray
  a : Int
  g : Int
  t : Int
  k : Ky
  s : Sl
abbrev ocs (o : Oq) : List AV := [iv .i64 o.kd, .lit (.string o.tx), iv .i64 o.a, iv .u64 o.g, iv .u64 o.t, .lit (.string o.k.g), .lit (.string o.k.r), bv o.k.p, iv .u64 o.k.e, bv o.k.s, .lit (.string o.s.nm), .lit (.string o.s.gl), iv .i64 o.s.w, iv .i64 o.s.f, iv .i64 o.s.t]
abbrev ov (o : Oq) : AV := .agg (ocs o)
abbrev k0 : Ky := ⟨⟨#[]⟩, ⟨#[]⟩, false, 0, false⟩
abbrev s0 : Sl := ⟨⟨#[]⟩, ⟨#[]⟩, 0, 0, 0⟩
theorem fe30 : flatEq Tryd.prog 30 [1, 3, 1, 1, 1, 3, 3, 2, 1, 2, 3, 3, 1, 1, 1] := flatEq_of2 (by kernel_rfl)
def oqB (x y : Oq) : Bool := x.kd == y.kd && (x.tx == y.tx && (x.a == y.a && (x.g == y.g && (x.t == y.t && (x.k.g == y.k.g && (x.k.r == y.k.r && (x.k.p == y.k.p && (x.k.e == y.k.e && (x.k.s == y.k.s && (x.s.nm == y.s.nm && (x.s.gl == y.s.gl && (x.s.w == y.s.w && (x.s.f == y.s.f && x.s.t == y.s.t)))))))))))))
theorem oqB_iff (x y : Oq) : oqB x y = true ↔ x = y := by
  obtain ⟨a1, a2, a3, a4, a5, ⟨b1, b2, b3, b4, b5⟩, ⟨c1, c2, c3, c4, c5⟩⟩ := x
  obtain ⟨d1, d2, d3, d4, d5, ⟨e1, e2, e3, e4, e5⟩, ⟨f1, f2, f3, f4, f5⟩⟩ := y
  simp only [oqB, Bool.and_eq_true, beq_iff_eq, ba_iff, Oq.mk.injEq, Ky.mk.injEq, Sl.mk.injEq]
  constructor
  · rintro ⟨h1, h2, h3, h4, h5, h6, h7, h8, h9, h10, h11, h12, h13, h14, h15⟩
    exact ⟨h1, h2, h3, h4, h5, ⟨h6, h7, h8, h9, h10⟩, ⟨h11, h12, h13, h14, h15⟩⟩
  · rintro ⟨h1, h2, h3, h4, h5, ⟨h6, h7, h8, h9, h10⟩, ⟨h11, h12, h13, h14, h15⟩⟩
    exact ⟨h1, h2, h3, h4, h5, h6, h7, h8, h9, h10, h11, h12, h13, h14, h15⟩
def txK (n : Int) : Bool := n == 1 || (n == 2 || (n == 6 || n == 7))
def atK (n : Int) : Bool := n == 2 || n == 3
def usF (o : Oq) : Oq := ⟨o.kd, if txK o.kd then o.tx else ⟨#[]⟩, if atK o.kd then o.a else 0, if o.kd == 2 then o.g else 0, if o.kd == 2 then o.t else 0, if o.kd == 4 then o.k else k0, if o.kd == 5 then o.s else s0⟩
theorem rtext_ct (n : Int) : ACt Tryd.prog 25 [iv .i64 n] [] (Fn (bv (txK n))) := by
  unfold txK
  obtain ⟨x1, h1⟩ : ∃ x, (n == 1) = x := ⟨_, rfl⟩
  obtain ⟨x2, h2⟩ : ∃ x, (n == 2) = x := ⟨_, rfl⟩
  obtain ⟨x6, h6⟩ : ∃ x, (n == 6) = x := ⟨_, rfl⟩
  obtain ⟨x7, h7⟩ : ∃ x, (n == 7) = x := ⟨_, rfl⟩
  rw [h1, h2, h6, h7]
  simp only [← Bool.and_assoc, ← Bool.or_assoc]
  refine ACt.intro Tryd.func25 rfl (by kernel_rfl) (by simp [Tryd.ntmps25]) (fun cx => ?_)
  simp only [argE, Tryd.ntmps25, Tryd.results25]
  first | (have FRx := FR; clear FRx) | have FR := fr0S
  have FA := Sm.mk (And.intro TFCoG (And.intro h1 (And.intro h2 (And.intro h6 h7))))
  repeat' first | (apply Sm.mk; refine Ys ?_) | refine WP.seq fun K hK => ?_ | (apply Ob.mk; exact Yo) | refine And.intro (Ob.out ?_) ?_ | refine Y1CoG ?_ | refine YzCoG ?_ | (refine WP.cond rfl (fun hc => ?_) (fun hc => ?_) <;> (try simp only [ZC, reduceCtorEq, ZD] at hc) <;> (try exact absurd hc (by decide)) <;> (try (exfalso; omega))) | refine Rt.mk (And.intro (fun hg => Sm.out ?_) fun hg => Sm.out ?_) | (refine Nu.mk ?_; first | (fail_if_success have := nb1); intro nb1 | (fail_if_success have := nb2); intro nb2 | (fail_if_success have := nb3); intro nb3 | (fail_if_success have := nb4); intro nb4 | intro nbz) | (apply Yfr; refine Yf FR fun hFRb FR => ?_) | refine Two.mk ?_ ?_ | (apply Yxc; exact Yx) | refine Cs.mk fun hcs => Sm.out ?_ | go_step | omega | (simp only [maxLen_eq]; omega) | exact trivial
  (refine Yg ?_; try exact trivial)
theorem rat_ct (n : Int) : ACt Tryd.prog 26 [iv .i64 n] [] (Fn (bv (atK n))) := by
  unfold atK
  obtain ⟨x2, h2⟩ : ∃ x, (n == 2) = x := ⟨_, rfl⟩
  obtain ⟨x3, h3⟩ : ∃ x, (n == 3) = x := ⟨_, rfl⟩
  rw [h2, h3]
  refine ACt.intro Tryd.func26 rfl (by kernel_rfl) (by simp [Tryd.ntmps26]) (fun cx => ?_)
  simp only [argE, Tryd.ntmps26, Tryd.results26]
  first | (have FRx := FR; clear FRx) | have FR := fr0S
  have FA := Sm.mk (And.intro TFCoG (And.intro h2 h3))
  repeat' first | (apply Sm.mk; refine Ys ?_) | refine WP.seq fun K hK => ?_ | (apply Ob.mk; exact Yo) | refine And.intro (Ob.out ?_) ?_ | refine Y1CoG ?_ | refine YzCoG ?_ | (refine WP.cond rfl (fun hc => ?_) (fun hc => ?_) <;> (try simp only [ZC, reduceCtorEq, ZD] at hc) <;> (try exact absurd hc (by decide)) <;> (try (exfalso; omega))) | refine Rt.mk (And.intro (fun hg => Sm.out ?_) fun hg => Sm.out ?_) | (refine Nu.mk ?_; first | (fail_if_success have := nb1); intro nb1 | (fail_if_success have := nb2); intro nb2 | (fail_if_success have := nb3); intro nb3 | (fail_if_success have := nb4); intro nb4 | intro nbz) | (apply Yfr; refine Yf FR fun hFRb FR => ?_) | refine Two.mk ?_ ?_ | (apply Yxc; exact Yx) | refine Cs.mk fun hcs => Sm.out ?_ | go_step | omega | (simp only [maxLen_eq]; omega) | exact trivial
  (refine Yg ?_; try exact trivial)
def ohB (o : Oq) : Bool := decide ((o.tx.size : Int) > 5000) || (hvB o.k || (decide ((o.s.nm.size : Int) > 500) || decide ((o.s.gl.size : Int) > 500)))
theorem oheavy_ct (o : Oq) : ACt Tryd.prog 7 [ov o] [] (Fn (bv (ohB o))) := by
  have c1 := heavy_ct o.k
  unfold ohB
  obtain ⟨kd, tx, a, g, t, ⟨kg, kr, kp, ke, ks⟩, ⟨nm, gl, w, f, t2⟩⟩ := o
  simp only at c1 ⊢
  obtain ⟨x0, h0⟩ : ∃ x, decide ((tx.size : Int) > 5000) = x := ⟨_, rfl⟩
  obtain ⟨x1, h1⟩ : ∃ x, hvB ⟨kg, kr, kp, ke, ks⟩ = x := ⟨_, rfl⟩
  obtain ⟨x2, h2⟩ : ∃ x, decide ((nm.size : Int) > 500) = x := ⟨_, rfl⟩
  obtain ⟨x3, h3⟩ : ∃ x, decide ((gl.size : Int) > 500) = x := ⟨_, rfl⟩
  rw [h0, h1, h2, h3]
  rw [h1] at c1
  clear h1
  simp only [← Bool.and_assoc, ← Bool.or_assoc]
  refine ACt.intro Tryd.func7 rfl (by kernel_rfl) (by simp [Tryd.ntmps7]) (fun cx => ?_)
  simp only [argE, Tryd.ntmps7, Tryd.results7]
  first | (have FRx := FR; clear FRx) | have FR := fr0S
  have FA := Sm.mk (And.intro TFCoG (And.intro h0 (And.intro h2 h3)))
  repeat' first | (apply Sm.mk; refine Ys ?_) | refine WP.seq fun K hK => ?_ | (apply Ob.mk; exact Yo) | refine And.intro (Ob.out ?_) ?_ | refine Y1CoG ?_ | refine Yc (c := c1) (r := ?_) | refine YzCoG ?_ | (refine WP.cond rfl (fun hc => ?_) (fun hc => ?_) <;> (try simp only [ZC, reduceCtorEq, ZD] at hc) <;> (try exact absurd hc (by decide)) <;> (try (exfalso; omega))) | refine Rt.mk (And.intro (fun hg => Sm.out ?_) fun hg => Sm.out ?_) | (refine Nu.mk ?_; first | (fail_if_success have := nb1); intro nb1 | (fail_if_success have := nb2); intro nb2 | (fail_if_success have := nb3); intro nb3 | (fail_if_success have := nb4); intro nb4 | intro nbz) | (apply Yfr; refine Yf FR fun hFRb FR => ?_) | refine Two.mk ?_ ?_ | (apply Yxc; exact Yx) | refine Cs.mk fun hcs => Sm.out ?_ | go_step | omega | (simp only [maxLen_eq]; omega) | exact trivial
  (refine Yg ?_; try exact trivial)
set_option maxRecDepth 8000 in
set_option maxHeartbeats 4000000 in
theorem used_ct (o : Oq) : ACt Tryd.prog 24 [ov o] [] (Fn (ov (usF o))) := by
  obtain ⟨kd, tx, a, g, t, ⟨kg, kr, kp, ke, ks⟩, ⟨nm, gl, w, f, t2⟩⟩ := o
  have hk : kd = 1 ∨ kd = 2 ∨ kd = 3 ∨ kd = 4 ∨ kd = 5 ∨ kd = 6 ∨ kd = 7 ∨ (kd ≠ 1 ∧ kd ≠ 2 ∧ kd ≠ 3 ∧ kd ≠ 4 ∧ kd ≠ 5 ∧ kd ≠ 6 ∧ kd ≠ 7) := by omega
  rcases hk with rfl | rfl | rfl | rfl | rfl | rfl | rfl | ⟨n1, n2, n3, n4, n5, n6, n7⟩
  · have e : usF ⟨1, tx, a, g, t, ⟨kg, kr, kp, ke, ks⟩, ⟨nm, gl, w, f, t2⟩⟩ = ⟨1, tx, 0, 0, 0, k0, s0⟩ := rfl
    rw [e]
    have y2 : ((1 : Int) == 2) = false := rfl
    have y1 : ((1 : Int) == 1) = true := rfl
    have y6 : ((1 : Int) == 6) = false := rfl
    have y7 : ((1 : Int) == 7) = false := rfl
    have y3 : ((1 : Int) == 3) = false := rfl
    have y4 : ((1 : Int) == 4) = false := rfl
    have y5 : ((1 : Int) == 5) = false := rfl
    refine ACt.intro Tryd.func24 rfl (by kernel_rfl) (by simp [Tryd.ntmps24]) (fun cx => ?_)
    simp only [argE, Tryd.ntmps24, Tryd.results24]
    first | (have FRx := FR; clear FRx) | have FR := fr0S
    have FA := Sm.mk (And.intro TFCoG (And.intro y1 (And.intro y2 (And.intro y3 (And.intro y4 (And.intro y5 (And.intro y6 y7)))))))
    repeat' first | (apply Sm.mk; refine Ys ?_) | refine WP.seq fun K hK => ?_ | (apply Ob.mk; exact Yo) | refine And.intro (Ob.out ?_) ?_ | refine Y1CoG ?_ | refine YzCoG ?_ | (refine WP.cond rfl (fun hc => ?_) (fun hc => ?_) <;> (try simp only [ZC, reduceCtorEq, ZD] at hc) <;> (try exact absurd hc (by decide)) <;> (try (exfalso; omega))) | refine Rt.mk (And.intro (fun hg => Sm.out ?_) fun hg => Sm.out ?_) | (refine Nu.mk ?_; first | (fail_if_success have := nb1); intro nb1 | (fail_if_success have := nb2); intro nb2 | (fail_if_success have := nb3); intro nb3 | (fail_if_success have := nb4); intro nb4 | intro nbz) | (apply Yfr; refine Yf FR fun hFRb FR => ?_) | refine Two.mk ?_ ?_ | (apply Yxc; exact Yx) | refine Cs.mk fun hcs => Sm.out ?_ | go_step | omega | (simp only [maxLen_eq]; omega) | exact trivial
    (refine Yg ?_; try exact trivial)
  · have e : usF ⟨2, tx, a, g, t, ⟨kg, kr, kp, ke, ks⟩, ⟨nm, gl, w, f, t2⟩⟩ = ⟨2, tx, a, g, t, k0, s0⟩ := rfl
    rw [e]
    have y2 : ((2 : Int) == 2) = true := rfl
    have y1 : ((2 : Int) == 1) = false := rfl
    have y6 : ((2 : Int) == 6) = false := rfl
    have y7 : ((2 : Int) == 7) = false := rfl
    have y3 : ((2 : Int) == 3) = false := rfl
    have y4 : ((2 : Int) == 4) = false := rfl
    have y5 : ((2 : Int) == 5) = false := rfl
    refine ACt.intro Tryd.func24 rfl (by kernel_rfl) (by simp [Tryd.ntmps24]) (fun cx => ?_)
    simp only [argE, Tryd.ntmps24, Tryd.results24]
    first | (have FRx := FR; clear FRx) | have FR := fr0S
    have FA := Sm.mk (And.intro TFCoG (And.intro y1 (And.intro y2 (And.intro y3 (And.intro y4 (And.intro y5 (And.intro y6 y7)))))))
    repeat' first | (apply Sm.mk; refine Ys ?_) | refine WP.seq fun K hK => ?_ | (apply Ob.mk; exact Yo) | refine And.intro (Ob.out ?_) ?_ | refine Y1CoG ?_ | refine YzCoG ?_ | (refine WP.cond rfl (fun hc => ?_) (fun hc => ?_) <;> (try simp only [ZC, reduceCtorEq, ZD] at hc) <;> (try exact absurd hc (by decide)) <;> (try (exfalso; omega))) | refine Rt.mk (And.intro (fun hg => Sm.out ?_) fun hg => Sm.out ?_) | (refine Nu.mk ?_; first | (fail_if_success have := nb1); intro nb1 | (fail_if_success have := nb2); intro nb2 | (fail_if_success have := nb3); intro nb3 | (fail_if_success have := nb4); intro nb4 | intro nbz) | (apply Yfr; refine Yf FR fun hFRb FR => ?_) | refine Two.mk ?_ ?_ | (apply Yxc; exact Yx) | refine Cs.mk fun hcs => Sm.out ?_ | go_step | omega | (simp only [maxLen_eq]; omega) | exact trivial
    (refine Yg ?_; try exact trivial)
  · have e : usF ⟨3, tx, a, g, t, ⟨kg, kr, kp, ke, ks⟩, ⟨nm, gl, w, f, t2⟩⟩ = ⟨3, ⟨#[]⟩, a, 0, 0, k0, s0⟩ := rfl
    rw [e]
    have y2 : ((3 : Int) == 2) = false := rfl
    have y1 : ((3 : Int) == 1) = false := rfl
    have y6 : ((3 : Int) == 6) = false := rfl
    have y7 : ((3 : Int) == 7) = false := rfl
    have y3 : ((3 : Int) == 3) = true := rfl
    have y4 : ((3 : Int) == 4) = false := rfl
    have y5 : ((3 : Int) == 5) = false := rfl
    refine ACt.intro Tryd.func24 rfl (by kernel_rfl) (by simp [Tryd.ntmps24]) (fun cx => ?_)
    simp only [argE, Tryd.ntmps24, Tryd.results24]
    first | (have FRx := FR; clear FRx) | have FR := fr0S
    have FA := Sm.mk (And.intro TFCoG (And.intro y1 (And.intro y2 (And.intro y3 (And.intro y4 (And.intro y5 (And.intro y6 y7)))))))
    repeat' first | (apply Sm.mk; refine Ys ?_) | refine WP.seq fun K hK => ?_ | (apply Ob.mk; exact Yo) | refine And.intro (Ob.out ?_) ?_ | refine Y1CoG ?_ | refine YzCoG ?_ | (refine WP.cond rfl (fun hc => ?_) (fun hc => ?_) <;> (try simp only [ZC, reduceCtorEq, ZD] at hc) <;> (try exact absurd hc (by decide)) <;> (try (exfalso; omega))) | refine Rt.mk (And.intro (fun hg => Sm.out ?_) fun hg => Sm.out ?_) | (refine Nu.mk ?_; first | (fail_if_success have := nb1); intro nb1 | (fail_if_success have := nb2); intro nb2 | (fail_if_success have := nb3); intro nb3 | (fail_if_success have := nb4); intro nb4 | intro nbz) | (apply Yfr; refine Yf FR fun hFRb FR => ?_) | refine Two.mk ?_ ?_ | (apply Yxc; exact Yx) | refine Cs.mk fun hcs => Sm.out ?_ | go_step | omega | (simp only [maxLen_eq]; omega) | exact trivial
    (refine Yg ?_; try exact trivial)
  · have e : usF ⟨4, tx, a, g, t, ⟨kg, kr, kp, ke, ks⟩, ⟨nm, gl, w, f, t2⟩⟩ = ⟨4, ⟨#[]⟩, 0, 0, 0, ⟨kg, kr, kp, ke, ks⟩, s0⟩ := rfl
    rw [e]
    have y2 : ((4 : Int) == 2) = false := rfl
    have y1 : ((4 : Int) == 1) = false := rfl
    have y6 : ((4 : Int) == 6) = false := rfl
    have y7 : ((4 : Int) == 7) = false := rfl
    have y3 : ((4 : Int) == 3) = false := rfl
    have y4 : ((4 : Int) == 4) = true := rfl
    have y5 : ((4 : Int) == 5) = false := rfl
    refine ACt.intro Tryd.func24 rfl (by kernel_rfl) (by simp [Tryd.ntmps24]) (fun cx => ?_)
    simp only [argE, Tryd.ntmps24, Tryd.results24]
    first | (have FRx := FR; clear FRx) | have FR := fr0S
    have FA := Sm.mk (And.intro TFCoG (And.intro y1 (And.intro y2 (And.intro y3 (And.intro y4 (And.intro y5 (And.intro y6 y7)))))))
    repeat' first | (apply Sm.mk; refine Ys ?_) | refine WP.seq fun K hK => ?_ | (apply Ob.mk; exact Yo) | refine And.intro (Ob.out ?_) ?_ | refine Y1CoG ?_ | refine YzCoG ?_ | (refine WP.cond rfl (fun hc => ?_) (fun hc => ?_) <;> (try simp only [ZC, reduceCtorEq, ZD] at hc) <;> (try exact absurd hc (by decide)) <;> (try (exfalso; omega))) | refine Rt.mk (And.intro (fun hg => Sm.out ?_) fun hg => Sm.out ?_) | (refine Nu.mk ?_; first | (fail_if_success have := nb1); intro nb1 | (fail_if_success have := nb2); intro nb2 | (fail_if_success have := nb3); intro nb3 | (fail_if_success have := nb4); intro nb4 | intro nbz) | (apply Yfr; refine Yf FR fun hFRb FR => ?_) | refine Two.mk ?_ ?_ | (apply Yxc; exact Yx) | refine Cs.mk fun hcs => Sm.out ?_ | go_step | omega | (simp only [maxLen_eq]; omega) | exact trivial
    (refine Yg ?_; try exact trivial)
  · have e : usF ⟨5, tx, a, g, t, ⟨kg, kr, kp, ke, ks⟩, ⟨nm, gl, w, f, t2⟩⟩ = ⟨5, ⟨#[]⟩, 0, 0, 0, k0, ⟨nm, gl, w, f, t2⟩⟩ := rfl
    rw [e]
    have y2 : ((5 : Int) == 2) = false := rfl
    have y1 : ((5 : Int) == 1) = false := rfl
    have y6 : ((5 : Int) == 6) = false := rfl
    have y7 : ((5 : Int) == 7) = false := rfl
    have y3 : ((5 : Int) == 3) = false := rfl
    have y4 : ((5 : Int) == 4) = false := rfl
    have y5 : ((5 : Int) == 5) = true := rfl
    refine ACt.intro Tryd.func24 rfl (by kernel_rfl) (by simp [Tryd.ntmps24]) (fun cx => ?_)
    simp only [argE, Tryd.ntmps24, Tryd.results24]
    first | (have FRx := FR; clear FRx) | have FR := fr0S
    have FA := Sm.mk (And.intro TFCoG (And.intro y1 (And.intro y2 (And.intro y3 (And.intro y4 (And.intro y5 (And.intro y6 y7)))))))
    repeat' first | (apply Sm.mk; refine Ys ?_) | refine WP.seq fun K hK => ?_ | (apply Ob.mk; exact Yo) | refine And.intro (Ob.out ?_) ?_ | refine Y1CoG ?_ | refine YzCoG ?_ | (refine WP.cond rfl (fun hc => ?_) (fun hc => ?_) <;> (try simp only [ZC, reduceCtorEq, ZD] at hc) <;> (try exact absurd hc (by decide)) <;> (try (exfalso; omega))) | refine Rt.mk (And.intro (fun hg => Sm.out ?_) fun hg => Sm.out ?_) | (refine Nu.mk ?_; first | (fail_if_success have := nb1); intro nb1 | (fail_if_success have := nb2); intro nb2 | (fail_if_success have := nb3); intro nb3 | (fail_if_success have := nb4); intro nb4 | intro nbz) | (apply Yfr; refine Yf FR fun hFRb FR => ?_) | refine Two.mk ?_ ?_ | (apply Yxc; exact Yx) | refine Cs.mk fun hcs => Sm.out ?_ | go_step | omega | (simp only [maxLen_eq]; omega) | exact trivial
    (refine Yg ?_; try exact trivial)
  · have e : usF ⟨6, tx, a, g, t, ⟨kg, kr, kp, ke, ks⟩, ⟨nm, gl, w, f, t2⟩⟩ = ⟨6, tx, 0, 0, 0, k0, s0⟩ := rfl
    rw [e]
    have y2 : ((6 : Int) == 2) = false := rfl
    have y1 : ((6 : Int) == 1) = false := rfl
    have y6 : ((6 : Int) == 6) = true := rfl
    have y7 : ((6 : Int) == 7) = false := rfl
    have y3 : ((6 : Int) == 3) = false := rfl
    have y4 : ((6 : Int) == 4) = false := rfl
    have y5 : ((6 : Int) == 5) = false := rfl
    refine ACt.intro Tryd.func24 rfl (by kernel_rfl) (by simp [Tryd.ntmps24]) (fun cx => ?_)
    simp only [argE, Tryd.ntmps24, Tryd.results24]
    first | (have FRx := FR; clear FRx) | have FR := fr0S
    have FA := Sm.mk (And.intro TFCoG (And.intro y1 (And.intro y2 (And.intro y3 (And.intro y4 (And.intro y5 (And.intro y6 y7)))))))
    repeat' first | (apply Sm.mk; refine Ys ?_) | refine WP.seq fun K hK => ?_ | (apply Ob.mk; exact Yo) | refine And.intro (Ob.out ?_) ?_ | refine Y1CoG ?_ | refine YzCoG ?_ | (refine WP.cond rfl (fun hc => ?_) (fun hc => ?_) <;> (try simp only [ZC, reduceCtorEq, ZD] at hc) <;> (try exact absurd hc (by decide)) <;> (try (exfalso; omega))) | refine Rt.mk (And.intro (fun hg => Sm.out ?_) fun hg => Sm.out ?_) | (refine Nu.mk ?_; first | (fail_if_success have := nb1); intro nb1 | (fail_if_success have := nb2); intro nb2 | (fail_if_success have := nb3); intro nb3 | (fail_if_success have := nb4); intro nb4 | intro nbz) | (apply Yfr; refine Yf FR fun hFRb FR => ?_) | refine Two.mk ?_ ?_ | (apply Yxc; exact Yx) | refine Cs.mk fun hcs => Sm.out ?_ | go_step | omega | (simp only [maxLen_eq]; omega) | exact trivial
    (refine Yg ?_; try exact trivial)
  · have e : usF ⟨7, tx, a, g, t, ⟨kg, kr, kp, ke, ks⟩, ⟨nm, gl, w, f, t2⟩⟩ = ⟨7, tx, 0, 0, 0, k0, s0⟩ := rfl
    rw [e]
    have y2 : ((7 : Int) == 2) = false := rfl
    have y1 : ((7 : Int) == 1) = false := rfl
    have y6 : ((7 : Int) == 6) = false := rfl
    have y7 : ((7 : Int) == 7) = true := rfl
    have y3 : ((7 : Int) == 3) = false := rfl
    have y4 : ((7 : Int) == 4) = false := rfl
    have y5 : ((7 : Int) == 5) = false := rfl
    refine ACt.intro Tryd.func24 rfl (by kernel_rfl) (by simp [Tryd.ntmps24]) (fun cx => ?_)
    simp only [argE, Tryd.ntmps24, Tryd.results24]
    first | (have FRx := FR; clear FRx) | have FR := fr0S
    have FA := Sm.mk (And.intro TFCoG (And.intro y1 (And.intro y2 (And.intro y3 (And.intro y4 (And.intro y5 (And.intro y6 y7)))))))
    repeat' first | (apply Sm.mk; refine Ys ?_) | refine WP.seq fun K hK => ?_ | (apply Ob.mk; exact Yo) | refine And.intro (Ob.out ?_) ?_ | refine Y1CoG ?_ | refine YzCoG ?_ | (refine WP.cond rfl (fun hc => ?_) (fun hc => ?_) <;> (try simp only [ZC, reduceCtorEq, ZD] at hc) <;> (try exact absurd hc (by decide)) <;> (try (exfalso; omega))) | refine Rt.mk (And.intro (fun hg => Sm.out ?_) fun hg => Sm.out ?_) | (refine Nu.mk ?_; first | (fail_if_success have := nb1); intro nb1 | (fail_if_success have := nb2); intro nb2 | (fail_if_success have := nb3); intro nb3 | (fail_if_success have := nb4); intro nb4 | intro nbz) | (apply Yfr; refine Yf FR fun hFRb FR => ?_) | refine Two.mk ?_ ?_ | (apply Yxc; exact Yx) | refine Cs.mk fun hcs => Sm.out ?_ | go_step | omega | (simp only [maxLen_eq]; omega) | exact trivial
    (refine Yg ?_; try exact trivial)
  · have y1 : (kd == 1) = false := beq_eq_false_iff_ne.2 n1
    have y2 : (kd == 2) = false := beq_eq_false_iff_ne.2 n2
    have y3 : (kd == 3) = false := beq_eq_false_iff_ne.2 n3
    have y4 : (kd == 4) = false := beq_eq_false_iff_ne.2 n4
    have y5 : (kd == 5) = false := beq_eq_false_iff_ne.2 n5
    have y6 : (kd == 6) = false := beq_eq_false_iff_ne.2 n6
    have y7 : (kd == 7) = false := beq_eq_false_iff_ne.2 n7
    have e : usF ⟨kd, tx, a, g, t, ⟨kg, kr, kp, ke, ks⟩, ⟨nm, gl, w, f, t2⟩⟩ = ⟨kd, ⟨#[]⟩, 0, 0, 0, k0, s0⟩ := by
      simp only [usF, txK, atK, y1, y2, y3, y4, y5, y6, y7, Bool.or_false, Bool.false_eq_true, if_false]
    rw [e]
    refine ACt.intro Tryd.func24 rfl (by kernel_rfl) (by simp [Tryd.ntmps24]) (fun cx => ?_)
    simp only [argE, Tryd.ntmps24, Tryd.results24]
    first | (have FRx := FR; clear FRx) | have FR := fr0S
    have FA := Sm.mk (And.intro TFCoG (And.intro y1 (And.intro y2 (And.intro y3 (And.intro y4 (And.intro y5 (And.intro y6 y7)))))))
    repeat' first | (apply Sm.mk; refine Ys ?_) | refine WP.seq fun K hK => ?_ | (apply Ob.mk; exact Yo) | refine And.intro (Ob.out ?_) ?_ | refine Y1CoG ?_ | refine YzCoG ?_ | (refine WP.cond rfl (fun hc => ?_) (fun hc => ?_) <;> (try simp only [ZC, reduceCtorEq, ZD] at hc) <;> (try exact absurd hc (by decide)) <;> (try (exfalso; omega))) | refine Rt.mk (And.intro (fun hg => Sm.out ?_) fun hg => Sm.out ?_) | (refine Nu.mk ?_; first | (fail_if_success have := nb1); intro nb1 | (fail_if_success have := nb2); intro nb2 | (fail_if_success have := nb3); intro nb3 | (fail_if_success have := nb4); intro nb4 | intro nbz) | (apply Yfr; refine Yf FR fun hFRb FR => ?_) | refine Two.mk ?_ ?_ | (apply Yxc; exact Yx) | refine Cs.mk fun hcs => Sm.out ?_ | go_step | omega | (simp only [maxLen_eq]; omega) | exact trivial
    (refine Yg ?_; try exact trivial)
def rtB (o : Oq) : Bool := decide (o.kd ≥ 1) && (decide (o.kd ≤ 9) && oqB (usF o) o)
theorem right_ct (o : Oq) : ACt Tryd.prog 10 [ov o] [] (Fn (bv (rtB o))) := by
  have c1 := used_ct o
  unfold rtB
  obtain ⟨U, hU⟩ : ∃ U, U = usF o := ⟨_, rfl⟩
  rw [← hU] at c1 ⊢
  clear hU
  obtain ⟨kd, tx, a, g, t, ⟨kg, kr, kp, ke, ks⟩, ⟨nm, gl, w, f, t2⟩⟩ := o
  obtain ⟨d1, d2, d3, d4, d5, ⟨e1, e2, e3, e4, e5⟩, ⟨f1, f2, f3, f4, f5⟩⟩ := U
  simp only at c1 ⊢
  obtain ⟨x1, h1⟩ : ∃ x, decide (kd ≥ 1) = x := ⟨_, rfl⟩
  obtain ⟨x2, h2⟩ : ∃ x, decide (kd ≤ 9) = x := ⟨_, rfl⟩
  unfold oqB
  simp only
  obtain ⟨x3, h3⟩ : ∃ x, (d1 == kd && (d2 == tx && (d3 == a && (d4 == g && (d5 == t && (e1 == kg && (e2 == kr && (e3 == kp && (e4 == ke && (e5 == ks && (f1 == nm && (f2 == gl && (f3 == w && (f4 == f && f5 == t2)))))))))))))) = x := ⟨_, rfl⟩
  rw [h1, h2, h3]
  have hf := fe30
  simp only [← Bool.and_assoc, ← Bool.or_assoc]
  refine ACt.intro Tryd.func10 rfl (by kernel_rfl) (by simp [Tryd.ntmps10]) (fun cx => ?_)
  simp only [argE, Tryd.ntmps10, Tryd.results10]
  first | (have FRx := FR; clear FRx) | have FR := fr0S
  have FA := Sm.mk (And.intro TFCoG (And.intro h1 (And.intro h2 (And.intro h3 hf))))
  repeat' first | (apply Sm.mk; refine Ys ?_) | refine WP.seq fun K hK => ?_ | (apply Ob.mk; exact Yo) | refine And.intro (Ob.out ?_) ?_ | refine Y1CoG ?_ | refine Yc (c := c1) (r := ?_) | refine YzCoG ?_ | (refine WP.cond rfl (fun hc => ?_) (fun hc => ?_) <;> (try simp only [ZC, reduceCtorEq, ZD] at hc) <;> (try exact absurd hc (by decide)) <;> (try (exfalso; omega))) | refine Rt.mk (And.intro (fun hg => Sm.out ?_) fun hg => Sm.out ?_) | (refine Nu.mk ?_; first | (fail_if_success have := nb1); intro nb1 | (fail_if_success have := nb2); intro nb2 | (fail_if_success have := nb3); intro nb3 | (fail_if_success have := nb4); intro nb4 | intro nbz) | (apply Yfr; refine Yf FR fun hFRb FR => ?_) | refine Two.mk ?_ ?_ | (apply Yxc; exact Yx) | refine Cs.mk fun hcs => Sm.out ?_ | go_step | omega | (simp only [maxLen_eq]; omega) | exact trivial
  (refine Yg ?_; try exact trivial)
end Go.Proofs.YtpidkkgjgichdaaDoor
