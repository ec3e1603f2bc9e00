/-
  The walks and the laws that the statement leans on, part 43.
-/
import Derived.Test.YtpidkkgjgichdaaDoorW10
import Derived.Test.YtpidkkgjgichdaaDoorW41
namespace Go.Proofs.YtpidkkgjgichdaaDoor
open Go Wi
set_option linter.unusedVariables false
set_option linter.unusedSimpArgs false
set_option linter.defProp false
def TFCoY :=
  And.intro (And.intro (And.intro (And.intro (And.intro tyc0 tyc3) (And.intro zmb3 (And.intro tyc4 zmb4))) (And.intro (And.intro tyc5 (And.intro zmb5 tyc9)) (And.intro zmb9 (And.intro tyc30 foff30_0)))) (And.intro (And.intro (And.intro fpart30_0 foff30_1) (And.intro fpart30_1 (And.intro foff30_2 fpart30_2))) (And.intro (And.intro foff30_3 (And.intro fpart30_3 foff30_4)) (And.intro fpart30_4 (And.intro foff30_5 fpart30_5))))) (And.intro (And.intro (And.intro (And.intro zmb30 bldT30) (And.intro tyc33 (And.intro elt33 mkz33))) (And.intro (And.intro apT33 (And.intro elk33 zmb33)) (And.intro tyc36 (And.intro zmb36 tyc37)))) (And.intro (And.intro (And.intro tyc40 Tryd.underlying0) (And.intro Tryd.underlying3 (And.intro Tryd.underlying4 Tryd.underlying5))) (And.intro (And.intro Tryd.underlying9 (And.intro Tryd.underlying30 Tryd.underlying33)) (And.intro Tryd.underlying36 (And.intro Tryd.underlying37 Tryd.underlying40)))))
theorem Y1CoY {G R : Prop} (r : R) (h : R → G := by intro r; first | (apply WP.region; exact rvc_sound _ _ (Sm.out r)) | exact WP.drawK rfl mixed (by decide +kernel) (Sm.out r) | (apply WP.block; exact r) | (apply WP.skip; exact Yq r) | (apply WP.exit; exact Yq r) | (apply WP.ret; exact Sm.out r) | exact WP.cond rfl (fun _ => r) (fun hg => absurd hg (by decide)) | exact WP.cond rfl (fun hg => absurd hg (by decide)) (fun _ => r) | exact Rt.mk (And.intro (fun _ => Sm.out r) fun hg => absurd hg (by decide)) | exact Rt.mk (And.intro (fun hg => absurd hg (by decide)) fun _ => Sm.out r)) : G := h r
theorem YzCoY {G R : Prop} (r : R) (h : R → G := by intro r; first | (apply ExG.no; exact Sm.out r) | (apply Or.inl; apply ExG.no; exact Sm.out r) | exact Or.inl (And.intro (fun hg => absurd hg (by decide)) (ExG.no (Sm.out r)))) : G := h r
theorem by_ub (bs : List UInt8) : Wi.By (ub bs) := by
  intro x hx
  unfold ub at hx
  obtain ⟨b, _, rfl⟩ := List.mem_map.1 hx
  have := b.toNat_lt
  omega
theorem oq_refl (o : Oq) : oqB o o = true := (oqB_iff o o).2 rfl
theorem cput_fz (n0 n1 : Nat) (o : Oq) (hg : gsB o = true) (hw : Ow o) (L : List Int) (hL : oL o = L) : ACt Tryd.prog 9 [.lit (.slice none 0 0), ov o] [(0, .ro .u8 fsZ 256 n0), (1, .ro .u8 acZ 32 n1)] (fun r F' => r = .slz .u8 L ∧ F' = [(0, .ro .u8 fsZ 256 n0), (1, .ro .u8 acZ 32 n1)]) := by
  subst hL
  refine ACt.fz (ty := 5) ((cput_nil n0 n1 o hg hw).mono ?_)
  rintro r F' ⟨x, c, h, e1, e2⟩
  exact ⟨⟨(x, c), h⟩, e1, e2⟩
set_option maxRecDepth 8000 in
set_option maxHeartbeats 4000000 in
theorem reads_bad (Z : List Int) (n0 n1 : Nat) (FZ AZ : List Int) (o : Oq) (hl : Z.length ≤ 3000)
    (cA : ACt Tryd.prog 6 [] [(0, .ro .u8 FZ 256 n0), (1, .ro .u8 AZ 32 n1)] (fun x F => x = bv true ∧ F = [(0, .ro .u8 FZ 256 n0), (1, .ro .u8 AZ 32 n1)]))
    (c1 : ACt Tryd.prog 13 [.slz .u8 Z] [(0, .ro .u8 FZ 256 n0), (1, .ro .u8 AZ 32 n1)] (fun x F => x = .tup [ov o0, iv .i64 10] ∧ F = [(0, .ro .u8 FZ 256 n0), (1, .ro .u8 AZ 32 n1)]))
    (c2 : RdsTo Z o false) :
    ACt Tryd.prog 5 [.slz .u8 Z] [(0, .ro .u8 FZ 256 n0), (1, .ro .u8 AZ 32 n1)] (fun x F => x = bv true ∧ F = [(0, .ro .u8 FZ 256 n0), (1, .ro .u8 AZ 32 n1)]) := by
  obtain ⟨d1, d2, d3, d4, d5, ⟨e1, e2, e3, e4, e5⟩, ⟨f1, f2, f3, f4, f5⟩⟩ := o
  have hf := fe30
  have k1 : decide ((Z.length : Int) > 3000) = false := decide_eq_false (by omega)
  have hy : ((0 : Int) == 0 && ((⟨#[]⟩ : ByteArray) == ⟨#[]⟩ && ((0 : Int) == 0 && ((0 : Int) == 0 && ((0 : Int) == 0 && ((⟨#[]⟩ : ByteArray) == ⟨#[]⟩ && ((⟨#[]⟩ : ByteArray) == ⟨#[]⟩ && (false == false && ((0 : Int) == 0 && (false == false && ((⟨#[]⟩ : ByteArray) == ⟨#[]⟩ && ((⟨#[]⟩ : ByteArray) == ⟨#[]⟩ && ((0 : Int) == 0 && ((0 : Int) == 0 && (0 : Int) == 0)))))))))))))) = true := oq_refl o0
  have z0 : ((0 : Int) == 0) = true := rfl
  have zs : ((⟨#[]⟩ : ByteArray) == (⟨#[]⟩ : ByteArray)) = true := (ba_iff _ _).2 rfl
  have zb : (false == false) = true := rfl
  have zt : ((10 : Int) == 10) = true := rfl
  refine ACt.intro Tryd.func5 rfl (by kernel_rfl) (by simp [Tryd.ntmps5]) (fun cx => ?_)
  simp only [argE, Tryd.ntmps5, Tryd.results5]
  first | (have FRx := FR; clear FRx) | have FR := fr0S
  have FA := Sm.mk (And.intro TFCoY (And.intro hf (And.intro k1 (And.intro hy (And.intro z0 (And.intro zs (And.intro zb zt)))))))
  repeat' first | (apply Sm.mk; refine Ys ?_) | refine WP.seq fun K hK => ?_ | (apply Ob.mk; exact Yo) | refine And.intro (Ob.out ?_) ?_ | refine Y1CoY ?_ | refine Yl2 (c := cA) (r := ?_) | refine Yl2 (c := c1) (r := ?_) | refine Yc (c := c2) (r := ?_) | refine YzCoY ?_ | (refine WP.cond rfl (fun hc => ?_) (fun hc => ?_) <;> (try simp only [ZC, reduceCtorEq, ZD] at hc) <;> (try exact absurd hc (by decide)) <;> (try (exfalso; omega))) | refine Rt.mk (And.intro (fun hg => Sm.out ?_) fun hg => Sm.out ?_) | (refine Nu.mk ?_; first | (fail_if_success have := nb1); intro nb1 | (fail_if_success have := nb2); intro nb2 | (fail_if_success have := nb3); intro nb3 | (fail_if_success have := nb4); intro nb4 | (fail_if_success have := nb5); intro nb5 | (fail_if_success have := nb6); intro nb6 | intro nbz) | (apply Yfr; refine Yf FR fun hFRb FR => ?_) | refine Two.mk ?_ ?_ | (apply Yxc; exact Yx) | refine Cs.mk fun hcs => Sm.out ?_ | go_step | omega | (simp only [maxLen_eq]; omega) | exact trivial
  (refine OutQ.drop _ _ (perm2 (by simp only [hget, hdel, ↓reduceIte, if_true, if_false, FR.out]; first | done | rfl) (by simp only [hget, hdel, ↓reduceIte, if_true, if_false, FR.out]; first | done | rfl)) (by simp only [resv, ZK, look, loadv, loadn, loadnm, load1, load1m, hget, ↓reduceIte, Nat.reduceEqDiff, Nat.reduceAdd, Nat.reduceMul, Nat.reduceLeDiff, Nat.reduceLT, reduceCtorEq, TFCoY, FR.out]) ⟨(by simp only [resv, resA, ZK, look, loadv, loadn, loadnm, load1, load1m, hget, ↓reduceIte, Nat.reduceEqDiff, Nat.reduceAdd, Nat.reduceMul, Nat.reduceLeDiff, Nat.reduceLT, reduceCtorEq, TFCoY, FR.out]; first | done | rfl), rfl⟩)
set_option maxRecDepth 8000 in
set_option maxHeartbeats 4000000 in
theorem reads_good (Z : List Int) (n0 n1 : Nat) (FZ AZ : List Int) (o : Oq) (hl : Z.length ≤ 3000)
    (cA : ACt Tryd.prog 6 [] [(0, .ro .u8 FZ 256 n0), (1, .ro .u8 AZ 32 n1)] (fun x F => x = bv true ∧ F = [(0, .ro .u8 FZ 256 n0), (1, .ro .u8 AZ 32 n1)]))
    (c1 : ACt Tryd.prog 13 [.slz .u8 Z] [(0, .ro .u8 FZ 256 n0), (1, .ro .u8 AZ 32 n1)] (fun x F => x = .tup [ov o, iv .i64 0] ∧ F = [(0, .ro .u8 FZ 256 n0), (1, .ro .u8 AZ 32 n1)]))
    (c2 : RdsTo Z o true) (n : Nat) (hn : Z.length = n)
    (c3 : ACt Tryd.prog 9 [.lit (.slice none 0 0), ov o] [(0, .ro .u8 FZ 256 n0), (1, .ro .u8 AZ 32 n1)] (fun r F' => r = .slz .u8 Z ∧ F' = [(0, .ro .u8 FZ 256 n0), (1, .ro .u8 AZ 32 n1)])) :
    ACt Tryd.prog 5 [.slz .u8 Z] [(0, .ro .u8 FZ 256 n0), (1, .ro .u8 AZ 32 n1)] (fun x F => x = bv true ∧ F = [(0, .ro .u8 FZ 256 n0), (1, .ro .u8 AZ 32 n1)]) := by
  have hy := oq_refl o
  obtain ⟨d1, d2, d3, d4, d5, ⟨e1, e2, e3, e4, e5⟩, ⟨f1, f2, f3, f4, f5⟩⟩ := o
  unfold oqB at hy
  simp only at hy
  have hf := fe30
  have k1 : decide ((n : Int) > 3000) = false := decide_eq_false (by omega)
  have hq : ∀ x : ByteArray, (x == x) = true := fun x => (ba_iff _ _).2 rfl
  have hy2 : (d2 == d2 && (e1 == e1 && (e2 == e2 && (f1 == f1 && f2 == f2)))) = true := by rw [hq, hq, hq, hq, hq]; rfl
  have z0 : ((0 : Int) == 0) = true := rfl
  have ta : Z.take n = Z := by rw [← hn]; exact List.take_length
  have zs : ((bstr Z).toList == (bstr Z).toList) = true := beq_self_eq_true _
  refine ACt.intro Tryd.func5 rfl (by kernel_rfl) (by simp [Tryd.ntmps5]) (fun cx => ?_)
  simp only [argE, Tryd.ntmps5, Tryd.results5]
  have FR : Sm (¬ ((1 : Nat) = 0)) := Sm.mk Nat.one_ne_zero
  (refine WP.nd fun hnd => ?_; simp only [ndF, fresh_cons, fresh_nil, and_true, ne_eq] at hnd; replace FR := Sm.mk (And.intro hnd FR.out); clear hnd)
  first | (have FRx := FR; clear FRx) | have FR := fr0S
  have FA := Sm.mk (And.intro TFCoY (And.intro hf (And.intro k1 (And.intro hy (And.intro hy2 (And.intro z0 (And.intro hn (And.intro ta zs))))))))
  repeat' first | (apply Sm.mk; refine Ys ?_) | refine WP.seq fun K hK => ?_ | (apply Ob.mk; exact Yo) | refine And.intro (Ob.out ?_) ?_ | refine Y1CoY ?_ | refine Yl2 (c := cA) (r := ?_) | refine Yl2 (c := c1) (r := ?_) | refine Yc (c := c2) (r := ?_) | refine Yl2 (c := c3) (r := ?_) | refine YzCoY ?_ | (refine WP.cond rfl (fun hc => ?_) (fun hc => ?_) <;> (try simp only [ZC, reduceCtorEq, ZD] at hc) <;> (try exact absurd hc (by decide)) <;> (try (exfalso; omega))) | refine Rt.mk (And.intro (fun hg => Sm.out ?_) fun hg => Sm.out ?_) | (refine Nu.mk ?_; first | (fail_if_success have := nb1); intro nb1 | (fail_if_success have := nb2); intro nb2 | (fail_if_success have := nb3); intro nb3 | (fail_if_success have := nb4); intro nb4 | (fail_if_success have := nb5); intro nb5 | (fail_if_success have := nb6); intro nb6 | intro nbz) | (apply Yfr; refine Yf FR fun hFRb FR => ?_) | refine Two.mk ?_ ?_ | (apply Yxc; exact Yx) | refine Cs.mk fun hcs => Sm.out ?_ | go_step | omega | (simp only [maxLen_eq]; omega) | exact trivial
  (refine OutQ.drop _ _ (perm2 (by simp only [hget, hdel, ↓reduceIte, if_true, if_false, FR.out]; first | done | rfl) (by simp only [hget, hdel, ↓reduceIte, if_true, if_false, FR.out]; first | done | rfl)) (by simp only [resv, ZK, look, loadv, loadn, loadnm, load1, load1m, hget, ↓reduceIte, Nat.reduceEqDiff, Nat.reduceAdd, Nat.reduceMul, Nat.reduceLeDiff, Nat.reduceLT, reduceCtorEq, TFCoY, FR.out]) ⟨(by simp only [resv, resA, ZK, look, loadv, loadn, loadnm, load1, load1m, hget, ↓reduceIte, Nat.reduceEqDiff, Nat.reduceAdd, Nat.reduceMul, Nat.reduceLeDiff, Nat.reduceLT, reduceCtorEq, TFCoY, FR.out]; first | done | rfl), rfl⟩)
theorem reads_law (bs : List UInt8) (n0 n1 : Nat) : ACt Tryd.prog 5 [.slz .u8 (ub bs)] [(0, .ro .u8 fsZ 256 n0), (1, .ro .u8 acZ 32 n1)] (fun x F => x = bv true ∧ F = [(0, .ro .u8 fsZ 256 n0), (1, .ro .u8 acZ 32 n1)]) := by
  have hb := by_ub bs
  obtain ⟨Z, hZ⟩ : ∃ Z, Z = ub bs := ⟨_, rfl⟩
  rw [← hZ] at hb ⊢
  have cA := awake_ct n0 n1
  by_cases hl : Z.length ≤ 3000
  case neg =>
    have k1 : decide ((Z.length : Int) > 3000) = true := decide_eq_true (by omega)
    obtain ⟨FZ, hFZ⟩ : ∃ FZ, FZ = fsZ := ⟨_, rfl⟩
    obtain ⟨AZ, hAZ⟩ : ∃ AZ, AZ = acZ := ⟨_, rfl⟩
    rw [← hFZ, ← hAZ] at cA ⊢
    refine ACt.intro Tryd.func5 rfl (by kernel_rfl) (by simp [Tryd.ntmps5]) (fun cx => ?_)
    simp only [argE, Tryd.ntmps5, Tryd.results5]
    first | (have FRx := FR; clear FRx) | have FR := fr0S
    have FA := Sm.mk (And.intro TFCoY k1)
    repeat' first | (apply Sm.mk; refine Ys ?_) | refine WP.seq fun K hK => ?_ | (apply Ob.mk; exact Yo) | refine And.intro (Ob.out ?_) ?_ | refine Y1CoY ?_ | refine Yl2 (c := cA) (r := ?_) | refine YzCoY ?_ | (refine WP.cond rfl (fun hc => ?_) (fun hc => ?_) <;> (try simp only [ZC, reduceCtorEq, ZD] at hc) <;> (try exact absurd hc (by decide)) <;> (try (exfalso; omega))) | refine Rt.mk (And.intro (fun hg => Sm.out ?_) fun hg => Sm.out ?_) | (refine Nu.mk ?_; first | (fail_if_success have := nb1); intro nb1 | (fail_if_success have := nb2); intro nb2 | (fail_if_success have := nb3); intro nb3 | (fail_if_success have := nb4); intro nb4 | (fail_if_success have := nb5); intro nb5 | (fail_if_success have := nb6); intro nb6 | intro nbz) | (apply Yfr; refine Yf FR fun hFRb FR => ?_) | refine Two.mk ?_ ?_ | (apply Yxc; exact Yx) | refine Cs.mk fun hcs => Sm.out ?_ | go_step | omega | (simp only [maxLen_eq]; omega) | exact trivial
    (refine OutQ.drop _ _ (perm2 (by simp only [hget, hdel, ↓reduceIte, if_true, if_false, FR.out]; first | done | rfl) (by simp only [hget, hdel, ↓reduceIte, if_true, if_false, FR.out]; first | done | rfl)) (by simp only [resv, ZK, look, loadv, loadn, loadnm, load1, load1m, hget, ↓reduceIte, Nat.reduceEqDiff, Nat.reduceAdd, Nat.reduceMul, Nat.reduceLeDiff, Nat.reduceLT, reduceCtorEq, TFCoY, FR.out]) ⟨(by simp only [resv, resA, ZK, look, loadv, loadn, loadnm, load1, load1m, hget, ↓reduceIte, Nat.reduceEqDiff, Nat.reduceAdd, Nat.reduceMul, Nat.reduceLeDiff, Nat.reduceLT, reduceCtorEq, TFCoY, FR.out]; first | done | rfl), rfl⟩)
  have c1 := cread_ct Z hb (by omega) n0 n1
  have c2 := rread_ct Z hb (by omega)
  rcases read_was hb with ⟨q1, q2⟩ | ⟨o, q1, q2, q3, q4, q5, q6, q7⟩
  · rw [q2] at c1
    rw [q1] at c2
    exact reads_bad Z n0 n1 fsZ acZ _ hl cA c1 c2
  · rw [q5, q6] at c1
    rw [q1] at c2
    have hz : Oz o := by
      obtain ⟨⟨h1, h2⟩, hu, h3, h4, h5⟩ := gs_of q2
      constructor
      · by_cases e : o.kd = 4
        · have := kr_bd (h4 e); exact ⟨by omega, by omega⟩
        · have : o.k = k0 := by
            have h := congrArg Oq.k hu
            have hf : (o.kd == 4) = false := beq_eq_false_iff_ne.2 e
            simp only [usF, hf, Bool.false_eq_true, if_false] at h
            exact h.symm
          rw [this]; exact k0_z
      · by_cases e : o.kd = 5
        · have := sr_bd (h5 e); exact ⟨by omega, by omega⟩
        · have : o.s = s0 := by
            have h := congrArg Oq.s hu
            have hf : (o.kd == 5) = false := beq_eq_false_iff_ne.2 e
            simp only [usF, hf, Bool.false_eq_true, if_false] at h
            exact h.symm
          rw [this]; exact s0_z
    have hw : Ow o := by
      obtain ⟨⟨h1, h2⟩, hu, h3, h4, h5⟩ := gs_of q2
      refine ⟨hz, by omega, by omega, q3.a, q3.g, q3.t, ?_, ?_⟩
      · by_cases e : o.kd = 4
        · have := kr_bd (h4 e); exact ⟨hz.k, by omega, by omega⟩
        · have : o.k = k0 := by
            have h := congrArg Oq.k hu
            have hf : (o.kd == 4) = false := beq_eq_false_iff_ne.2 e
            simp only [usF, hf, Bool.false_eq_true, if_false] at h
            exact h.symm
          rw [this]; exact k0_b
      · by_cases e : o.kd = 5
        · have := sr_bd (h5 e); exact ⟨hz.s, by omega, by omega, by omega⟩
        · have : o.s = s0 := by
            have h := congrArg Oq.s hu
            have hf : (o.kd == 5) = false := beq_eq_false_iff_ne.2 e
            simp only [usF, hf, Bool.false_eq_true, if_false] at h
            exact h.symm
          rw [this]; exact s0_b
    exact reads_good Z n0 n1 fsZ acZ o hl cA c1 c2 Z.length rfl (cput_fz n0 n1 o q2 hw Z q4)
end Go.Proofs.YtpidkkgjgichdaaDoor
