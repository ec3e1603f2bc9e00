/-
  The walks and the laws that the statement leans on, part 17.
-/
import Derived.Test.YtaffbklkjjmmdaaDoorB10
import Derived.Test.YtaffbklkjjmmdaaDoorB16
namespace Go.Proofs.YtaffbklkjjmmdaaDoor.Wi
open Go
set_option linter.unusedVariables false
set_option linter.unusedSimpArgs false
set_option linter.defProp false
def TFWiZ :=
  And.intro (And.intro (And.intro (And.intro (And.intro tyc0 (And.intro tyc2 zmb2)) (And.intro tyc3 (And.intro zmb3 tyc4))) (And.intro (And.intro zmb4 (And.intro tyc5 zmb5)) (And.intro tyc9 (And.intro zmb9 tyc23)))) (And.intro (And.intro (And.intro zmb23 (And.intro tyc47 elt47)) (And.intro mkz47 (And.intro apT47 elk47))) (And.intro (And.intro zmb47 (And.intro tyc78 foff78_0)) (And.intro fpart78_0 (And.intro foff78_1 fpart78_1))))) (And.intro (And.intro (And.intro (And.intro fe78 (And.intro zmb78 bldT78)) (And.intro tyc82 (And.intro foff82_0 fpart82_0))) (And.intro (And.intro foff82_1 (And.intro fpart82_1 foff82_2)) (And.intro fpart82_2 (And.intro foff82_3 fpart82_3)))) (And.intro (And.intro (And.intro fe82 (And.intro zmb82 bldT82)) (And.intro Tryd.underlying0 (And.intro Tryd.underlying2 Tryd.underlying3))) (And.intro (And.intro Tryd.underlying4 (And.intro Tryd.underlying5 Tryd.underlying9)) (And.intro (And.intro Tryd.underlying23 Tryd.underlying47) (And.intro Tryd.underlying78 Tryd.underlying82)))))
theorem Y1WiZ {G R : Prop} (r : R) (h : R → G := by intro r; first | (apply WP.region; exact rvc_sound _ _ (Sm.out r)) | exact WP.drawS (is := 13) (k := 16) mixed (by decide +kernel) (by decide +kernel) (Sm.out r) | exact WP.drawK rfl mixed (by decide +kernel) (Sm.out r) | (apply WP.block; exact r) | (apply WP.skip; exact Yq r) | (apply WP.exit; exact Yq r) | (apply WP.ret; exact Sm.out r) | exact WP.cond rfl (fun _ => r) (fun hg => absurd hg (by decide)) | exact WP.cond rfl (fun hg => absurd hg (by decide)) (fun _ => r) | exact Rt.mk (And.intro (fun _ => Sm.out r) fun hg => absurd hg (by decide)) | exact Rt.mk (And.intro (fun hg => absurd hg (by decide)) fun _ => Sm.out r)) : G := h r
theorem YzWiZ {G R : Prop} (r : R) (h : R → G := by intro r; first | (apply ExG.no; exact Sm.out r) | (apply Or.inl; apply ExG.no; exact Sm.out r) | exact Or.inl (And.intro (fun hg => absurd hg (by decide)) (ExG.no (Sm.out r)))) : G := h r
set_option maxRecDepth 8000 in
set_option maxHeartbeats 8000000 in
theorem refG_goodF (Z t : List Int) (at_ m KK : Nat) (kind most : Int) (h : Z.drop at_ = (m : Int) :: t) (hb : By t) (hz : Z.length ≤ 6000) (h3 : kind ≠ 3) (hm : m < 256) (hH : HeadK kind m KK false)
    (hk : KK ≤ 8 ∧ KK ≤ t.length ∧ (KK = 0 ∨ t.getD 0 0 ≠ 0)) (hm1 : -9223372036854775808 ≤ most) (hm2 : most ≤ 9223372036854775807) :
    ACt Tryd.prog 55 [.slz .u8 Z, iv .i64 (at_ : Int), .agg [iv .i64 kind, iv .i64 most]] [] (Post3 Z.length (tailF kind most false (valL (t.take KK)) (t.drop KK))) := by
  obtain ⟨h1, h2, h3', h4, h5⟩ := drop_facts h
  have h50 := h5 0
  rw [Nat.add_zero] at h50
  obtain ⟨N, hN⟩ : ∃ N, N = valL (t.take KK) := ⟨_, rfl⟩
  obtain ⟨r, hr⟩ : ∃ r, r = t.drop KK := ⟨_, rfl⟩
  have hrl : r.length = t.length - KK := by rw [hr]; simp
  have hlt : ∀ j, j ≤ KK → valL (t.take j) < 256 ^ j := fun j hj => by
    have := valL_lt (hb.take j)
    rwa [show (t.take j).length = j by simp; omega] at this
  have hNlt : N < 18446744073709551616 := by
    have := hlt KK (Nat.le_refl _)
    have h8 : (256 : Nat) ^ KK ≤ 256 ^ 8 := Nat.pow_le_pow_right (by omega) hk.1
    omega
  have hZr : Z.drop (at_ + 1 + KK) = r := by rw [hr, h2, List.drop_drop]
  rw [← hN, ← hr]
  have hT := tailF kind most false N r
  refine ACt.intro Tryd.func55 rfl (by kernel_rfl) (by simp [Tryd.ntmps55]) (fun cx => ?_)
  simp only [argE, Tryd.ntmps55, Tryd.results55]
  have d : decide ((at_ : Int) ≥ (Z.length : Int)) = false := by simp; omega
  have z : (kind == 3) = false := beq_eq_false_iff_ne.2 h3
  have w : IntKind.i64.wrap ((at_ : Int) + 1) = ((at_ + 1 : Nat) : Int) := by rw [wrap_i64 (by omega) (by omega)]; omega
  have w1 : IntKind.i64.wrap (m : Int) = (m : Int) := wrap_i64_nat (by omega)
  have w2 : IntKind.i64.wrap ((Z.length : Int) - at_) = ((t.length + 1 : Nat) : Int) := by rw [wrap_i64 (by omega) (by omega)]; omega
  have w3 : IntKind.i64.wrap (((t.length + 1 : Nat) : Int) - 1) = (t.length : Int) := by rw [wrap_i64 (by omega) (by omega)]; omega
  have e1 : (m : Int).tdiv 16 = ((m / 16 : Nat) : Int) := by rw [Int.tdiv_eq_ediv_of_nonneg (by omega)]; simp
  have e2 : IntKind.i64.wrap ((m / 16 : Nat) : Int) = ((m / 16 : Nat) : Int) := wrap_i64_nat (by omega)
  have e3 : ((m / 16 : Nat) : Int).tmod 2 = ((m / 16 % 2 : Nat) : Int) := by rw [Int.tmod_eq_emod_of_nonneg (by omega)]; simp
  have e4 : IntKind.i64.wrap ((m / 16 % 2 : Nat) : Int) = ((m / 16 % 2 : Nat) : Int) := wrap_i64_nat (by omega)
  have g1 : decide ((KK : Int) > 8) = false := by simp; omega
  have g2 : decide ((KK : Int) > (t.length : Int)) = false := by simp; omega
  have q : ∃ q2 : Bool, (((m / 16 % 2 : Nat) : Int) == 1) = q2 ∧ ((kind == 1) && q2) = false ∧ m = KK := by
    rcases hH with ⟨p1, p2, p3⟩ | ⟨p1, p0, p2, p3⟩ | ⟨p1, p0, p2, p3⟩
    · exact ⟨_, rfl, by rw [show (kind == 1) = false from beq_eq_false_iff_ne.2 p1]; rfl, p2.symm⟩
    · exact ⟨_, rfl, by rw [show (((m / 16 % 2 : Nat) : Int) == 1) = false from beq_eq_false_iff_ne.2 (by omega), Bool.and_false], p2.symm⟩
    · cases p3
  obtain ⟨q2, f2, f3, f4⟩ := q
  obtain rfl : KK = m := f4.symm
  clear hH
  first | (have FRx := FR; clear FRx) | have FR := fr0
  have FA := Sm.mk (And.intro TFWiZ (And.intro d (And.intro z (And.intro w (And.intro w1 (And.intro w2 (And.intro w3 (And.intro e1 (And.intro e2 (And.intro e3 (And.intro e4 (And.intro f2 (And.intro f3 (And.intro h4 (And.intro h50 (And.intro g1 g2))))))))))))))))
  repeat' first | (apply Sm.mk; refine Ysn ?_) | refine WP.seq fun K hK => ?_ | (apply Ob.mk; exact Yo) | refine And.intro (Ob.out ?_) ?_ | refine Y1WiZ ?_ | refine YzWiZ ?_ | (refine WP.cond rfl (fun hc => ?_) (fun hc => ?_) <;> (try simp only [ZC, reduceCtorEq, ZD] at hc) <;> (try exact absurd hc (by decide)) <;> (try (exfalso; omega))) | refine Rt.mk (And.intro (fun hg => Sm.out ?_) fun hg => Sm.out ?_) | (refine Nu.mk ?_; first | (fail_if_success have := nb1); intro nb1 | (fail_if_success have := nb2); intro nb2 | (fail_if_success have := nb3); intro nb3 | intro nbz) | (refine Fr.mk ?_; intro hfr; replace FR := And.intro hfr FR; clear hfr; refine Sm.out ?_) | refine Two.mk ?_ ?_ | (apply Yxc; exact Yx) | refine Cs.mk fun hcs => Sm.out ?_ | go_step | omega | (simp only [maxLen_eq]; omega) | exact trivial
  clear g1 g2 e1 e2 e3 e4 w2 w3
  refine WP.loop (Γ := GG) (fun g => ⟨[(13, iv .i64 g.j), (10, iv .i64 KK), (12, nu (valL (t.take g.j))), (0, .slz .u8 Z), (1, iv .i64 at_), (11, bv false), (5, pt nb1 0), (6, pt nb2 0), (9, pt nb3 0)],
    [(nb1, .cells [iv .i64 kind, iv .i64 most] 2 78), (nb2, .cells [iv .u64 0, iv .i64 0, eS, bv false] 4 82), (nb3, .cells [iv .u64 0, iv .i64 0, eS, bv false] 4 82)]⟩) (fun g => g.j ≤ KK) (fun g => KK - g.j) ⟨0⟩ (by simp) (Sub.pick (by simp [pickB, hget, hdel, FR, valL]) (by simp [look, valL])) ?_
  intro ⟨j⟩ hj
  simp only at hj ⊢
  (refine WP.nd fun hnd => ?_; simp only [ndF, fresh_cons, fresh_nil, and_true, ne_eq] at hnd; replace FR := And.intro hnd FR; clear hnd)
  by_cases hjk : j < KK
  · have k1 : decide ((j : Int) < KK) = true := by simp; omega
    obtain ⟨c, hc0⟩ : ∃ c : Nat, t.getD j 0 = (c : Int) ∧ c ≤ 255 := by
      have hjt : j < t.length := by omega
      have := hb (t.getD j 0) (by rw [List.getD_eq_getElem?_getD, List.getElem?_eq_getElem hjt, Option.getD_some]; exact List.getElem_mem hjt)
      obtain ⟨c, hc⟩ := Int.eq_ofNat_of_zero_le this.1
      exact ⟨c, hc, by omega⟩
    have vj := valL_take (l := t) (i := j) (by omega)
    rw [hc0.1, Int.toNat_natCast] at vj
    have hv1 := hlt j (by omega)
    have h8 : (256 : Nat) ^ j ≤ 256 ^ 7 := Nat.pow_le_pow_right (by omega) (by omega)
    obtain ⟨V, hV⟩ : ∃ V, V = valL (t.take j) := ⟨_, rfl⟩
    rw [← hV] at vj hv1 ⊢
    have a1 : IntKind.u64.wrap (256 * (V : Int)) = ((256 * V : Nat) : Int) := by rw [show 256 * (V : Int) = ((256 * V : Nat) : Int) by simp, wrap_u64_nat (by omega)]
    have a2 : IntKind.i64.wrap (((at_ + 1 : Nat) : Int) + (j : Int)) = ((at_ + 1 + j : Nat) : Int) := by rw [wrap_i64 (by omega) (by omega)]; omega
    have a3 : Z.getD (at_ + 1 + j) 0 = (c : Int) := by rw [h5, hc0.1]
    have a4 : IntKind.u64.wrap (c : Int) = (c : Int) := wrap_u64_nat (by omega)
    have a5 : IntKind.u64.wrap (((256 * V : Nat) : Int) + (c : Int)) = ((V * 256 + c : Nat) : Int) := by rw [wrap_u64 (by omega) (by omega)]; omega
    have a6 : IntKind.i64.wrap ((j : Int) + 1) = ((j + 1 : Nat) : Int) := by rw [wrap_i64 (by omega) (by omega)]; omega
    first | (have FRx := FR; clear FRx) | have FR := fr0
    have FA := Sm.mk (And.intro TFWiZ (And.intro k1 (And.intro w (And.intro a1 (And.intro a2 (And.intro a3 (And.intro a4 (And.intro a5 a6))))))))
    repeat' first | (apply Sm.mk; refine Ysn ?_) | refine WP.seq fun K hK => ?_ | (apply Ob.mk; exact Yo) | refine And.intro (Ob.out ?_) ?_ | refine Y1WiZ ?_ | refine YzWiZ ?_ | (refine WP.cond rfl (fun hc => ?_) (fun hc => ?_) <;> (try simp only [ZC, reduceCtorEq, ZD] at hc) <;> (try exact absurd hc (by decide)) <;> (try (exfalso; omega))) | refine Rt.mk (And.intro (fun hg => Sm.out ?_) fun hg => Sm.out ?_) | (refine Nu.mk ?_; first | (fail_if_success have := nb1); intro nb1 | (fail_if_success have := nb2); intro nb2 | (fail_if_success have := nb3); intro nb3 | intro nbz) | (refine Fr.mk ?_; intro hfr; replace FR := And.intro hfr FR; clear hfr; refine Sm.out ?_) | refine Two.mk ?_ ?_ | (apply Yxc; exact Yx) | refine Cs.mk fun hcs => Sm.out ?_ | go_step | omega | (simp only [maxLen_eq]; omega) | exact trivial
    exact ⟨⟨j + 1⟩, by simp only; omega, by simp only; omega, (Sub.pick (by simp [pickB, hget, hdel, FR, vj]) (by simp [look, vj]))⟩
  · have k1 : decide ((j : Int) < KK) = false := by simp; omega
    obtain rfl : j = KK := by omega
    have wn : IntKind.i64.wrap (((at_ + 1 : Nat) : Int) + (j : Int)) = ((at_ + 1 + j : Nat) : Int) := by rw [wrap_i64 (by omega) (by omega)]; omega
    have wl : IntKind.i64.wrap ((Z.length : Int) - ((at_ + 1 + j : Nat) : Int)) = (r.length : Int) := by rw [wrap_i64 (by omega) (by omega)]; omega
    have wr : IntKind.u64.wrap (r.length : Int) = (r.length : Int) := wrap_u64_nat (by omega)
    have hN' := hN.symm
    have hneg : N ≤ 9223372036854775808 → IntKind.i64.wrap (IntKind.u64.wrap (0 - (N : Int))) = -(N : Int) := fun hN9 => by
      rw [wrap_u64_mod]; simp only [IntKind.wrap, IntKind.bits, IntKind.signed]; simp; omega
    by_cases kk1 : kind = 1
    · have f1 : (kind == 1) = true := by rw [kk1]; rfl
      have k0 : (kind == 0) = false := by rw [kk1]; rfl
      first | (have FRx := FR; clear FRx) | have FR := fr0
      have FA := Sm.mk (And.intro TFWiZ (And.intro k1 (And.intro w (And.intro wn (And.intro wl (And.intro wr (And.intro hN' (And.intro k0 f1))))))))
      repeat' first | (apply Sm.mk; refine Ysn ?_) | refine WP.seq fun K hK => ?_ | (apply Ob.mk; exact Yo) | refine And.intro (Ob.out ?_) ?_ | refine Y1WiZ ?_ | refine YzWiZ ?_ | (refine WP.cond rfl (fun hc => ?_) (fun hc => ?_) <;> (try simp only [ZC, reduceCtorEq, ZD] at hc) <;> (try exact absurd hc (by decide)) <;> (try (exfalso; omega))) | refine Rt.mk (And.intro (fun hg => Sm.out ?_) fun hg => Sm.out ?_) | (refine Nu.mk ?_; first | (fail_if_success have := nb1); intro nb1 | (fail_if_success have := nb2); intro nb2 | (fail_if_success have := nb3); intro nb3 | intro nbz) | (refine Fr.mk ?_; intro hfr; replace FR := And.intro hfr FR; clear hfr; refine Sm.out ?_) | refine Two.mk ?_ ?_ | (apply Yxc; exact Yx) | refine Cs.mk fun hcs => Sm.out ?_ | go_step | omega | (simp only [maxLen_eq]; omega) | exact trivial
      all_goals clear h5 hlt
      all_goals (refine OutQ.all ?_ ?_; (focus (simp only [resv, ZK, look, loadv, loadn, loadnm, load1, load1m, hget, ↓reduceIte, Nat.reduceEqDiff, Nat.reduceAdd, Nat.reduceMul, Nat.reduceLeDiff, Nat.reduceLT, reduceCtorEq, TFWiZ, FR])); (simp only [resv, resA, ZK, look, loadv, loadn, loadnm, load1, load1m, hget, ↓reduceIte, Nat.reduceEqDiff, Nat.reduceAdd, Nat.reduceMul, Nat.reduceLeDiff, Nat.reduceLT, reduceCtorEq, TFWiZ, FR]))
      all_goals (unfold tailF; (repeat' split) <;> first | (exfalso; omega) | (exact absurd (show true = true from rfl) (by assumption)) | (exact absurd (show false = true by assumption) (by decide)) | exact bad3_mk (by first | rfl | (simp; omega)) | exact good3_mk rfl (by first | omega | (simp only [List.length_drop]; omega)) (by first | rfl | (simp; omega)) | exact good3_mk (by first | (rw [wrap_i64 (by omega) (by omega)]; done) | (rw [wrap_i64 (by omega) (by omega)]; rfl)) (by omega) (by first | rfl | (simp; omega)) | exact good3_mk (by first | (rw [hneg (by omega)]; done) | (rw [hneg (by omega)]; rfl)) (by omega) (by first | rfl | (simp; omega)) | trace_state)
    by_cases kk0 : kind = 0
    · have k0 : (kind == 0) = true := by rw [kk0]; rfl
      first | (have FRx := FR; clear FRx) | have FR := fr0
      have FA := Sm.mk (And.intro TFWiZ (And.intro k1 (And.intro w (And.intro wn (And.intro wl (And.intro wr (And.intro hN' k0)))))))
      repeat' first | (apply Sm.mk; refine Ysn ?_) | refine WP.seq fun K hK => ?_ | (apply Ob.mk; exact Yo) | refine And.intro (Ob.out ?_) ?_ | refine Y1WiZ ?_ | refine YzWiZ ?_ | (refine WP.cond rfl (fun hc => ?_) (fun hc => ?_) <;> (try simp only [ZC, reduceCtorEq, ZD] at hc) <;> (try exact absurd hc (by decide)) <;> (try (exfalso; omega))) | refine Rt.mk (And.intro (fun hg => Sm.out ?_) fun hg => Sm.out ?_) | (refine Nu.mk ?_; first | (fail_if_success have := nb1); intro nb1 | (fail_if_success have := nb2); intro nb2 | (fail_if_success have := nb3); intro nb3 | intro nbz) | (refine Fr.mk ?_; intro hfr; replace FR := And.intro hfr FR; clear hfr; refine Sm.out ?_) | refine Two.mk ?_ ?_ | (apply Yxc; exact Yx) | refine Cs.mk fun hcs => Sm.out ?_ | go_step | omega | (simp only [maxLen_eq]; omega) | exact trivial
      all_goals clear h5 hlt
      all_goals (refine OutQ.all ?_ ?_; (focus (simp only [resv, ZK, look, loadv, loadn, loadnm, load1, load1m, hget, ↓reduceIte, Nat.reduceEqDiff, Nat.reduceAdd, Nat.reduceMul, Nat.reduceLeDiff, Nat.reduceLT, reduceCtorEq, TFWiZ, FR])); (simp only [resv, resA, ZK, look, loadv, loadn, loadnm, load1, load1m, hget, ↓reduceIte, Nat.reduceEqDiff, Nat.reduceAdd, Nat.reduceMul, Nat.reduceLeDiff, Nat.reduceLT, reduceCtorEq, TFWiZ, FR]))
      all_goals (unfold tailF; (repeat' split) <;> first | (exfalso; omega) | (exact absurd (show true = true from rfl) (by assumption)) | (exact absurd (show false = true by assumption) (by decide)) | exact bad3_mk (by first | rfl | (simp; omega)) | exact good3_mk rfl (by first | omega | (simp only [List.length_drop]; omega)) (by first | rfl | (simp; omega)) | exact good3_mk (by first | (rw [wrap_i64 (by omega) (by omega)]; done) | (rw [wrap_i64 (by omega) (by omega)]; rfl)) (by omega) (by first | rfl | (simp; omega)) | exact good3_mk (by first | (rw [hneg (by omega)]; done) | (rw [hneg (by omega)]; rfl)) (by omega) (by first | rfl | (simp; omega)) | trace_state)
    have f1 : (kind == 1) = false := beq_eq_false_iff_ne.2 kk1
    have k0 : (kind == 0) = false := beq_eq_false_iff_ne.2 kk0
    by_cases hnm : most < (N : Int)
    · by_cases h0 : most < 0
      · have m0 : decide (most < 0) = true := decide_eq_true h0
        first | (have FRx := FR; clear FRx) | have FR := fr0
        have FA := Sm.mk (And.intro TFWiZ (And.intro k1 (And.intro w (And.intro wn (And.intro wl (And.intro wr (And.intro hN' (And.intro k0 (And.intro f1 m0)))))))))
        repeat' first | (apply Sm.mk; refine Ysn ?_) | refine WP.seq fun K hK => ?_ | (apply Ob.mk; exact Yo) | refine And.intro (Ob.out ?_) ?_ | refine Y1WiZ ?_ | refine YzWiZ ?_ | (refine WP.cond rfl (fun hc => ?_) (fun hc => ?_) <;> (try simp only [ZC, reduceCtorEq, ZD] at hc) <;> (try exact absurd hc (by decide)) <;> (try (exfalso; omega))) | refine Rt.mk (And.intro (fun hg => Sm.out ?_) fun hg => Sm.out ?_) | (refine Nu.mk ?_; first | (fail_if_success have := nb1); intro nb1 | (fail_if_success have := nb2); intro nb2 | (fail_if_success have := nb3); intro nb3 | intro nbz) | (refine Fr.mk ?_; intro hfr; replace FR := And.intro hfr FR; clear hfr; refine Sm.out ?_) | refine Two.mk ?_ ?_ | (apply Yxc; exact Yx) | refine Cs.mk fun hcs => Sm.out ?_ | go_step | omega | (simp only [maxLen_eq]; omega) | exact trivial
        all_goals clear h5 hlt
        all_goals (refine OutQ.all ?_ ?_; (focus (simp only [resv, ZK, look, loadv, loadn, loadnm, load1, load1m, hget, ↓reduceIte, Nat.reduceEqDiff, Nat.reduceAdd, Nat.reduceMul, Nat.reduceLeDiff, Nat.reduceLT, reduceCtorEq, TFWiZ, FR])); (simp only [resv, resA, ZK, look, loadv, loadn, loadnm, load1, load1m, hget, ↓reduceIte, Nat.reduceEqDiff, Nat.reduceAdd, Nat.reduceMul, Nat.reduceLeDiff, Nat.reduceLT, reduceCtorEq, TFWiZ, FR]))
        all_goals (unfold tailF; (repeat' split) <;> first | (exfalso; omega) | (exact absurd (show true = true from rfl) (by assumption)) | (exact absurd (show false = true by assumption) (by decide)) | exact bad3_mk (by first | rfl | (simp; omega)) | exact good3_mk rfl (by first | omega | (simp only [List.length_drop]; omega)) (by first | rfl | (simp; omega)) | exact good3_mk (by first | (rw [wrap_i64 (by omega) (by omega)]; done) | (rw [wrap_i64 (by omega) (by omega)]; rfl)) (by omega) (by first | rfl | (simp; omega)) | exact good3_mk (by first | (rw [hneg (by omega)]; done) | (rw [hneg (by omega)]; rfl)) (by omega) (by first | rfl | (simp; omega)) | trace_state)
      · have m0 : decide (most < 0) = false := decide_eq_false h0
        have m1 : decide ((N : Int) > IntKind.u64.wrap most) = true := by rw [wrap_u64 (by omega) (by omega)]; simp; omega
        first | (have FRx := FR; clear FRx) | have FR := fr0
        have FA := Sm.mk (And.intro TFWiZ (And.intro k1 (And.intro w (And.intro wn (And.intro wl (And.intro wr (And.intro hN' (And.intro k0 (And.intro f1 (And.intro m0 m1))))))))))
        repeat' first | (apply Sm.mk; refine Ysn ?_) | refine WP.seq fun K hK => ?_ | (apply Ob.mk; exact Yo) | refine And.intro (Ob.out ?_) ?_ | refine Y1WiZ ?_ | refine YzWiZ ?_ | (refine WP.cond rfl (fun hc => ?_) (fun hc => ?_) <;> (try simp only [ZC, reduceCtorEq, ZD] at hc) <;> (try exact absurd hc (by decide)) <;> (try (exfalso; omega))) | refine Rt.mk (And.intro (fun hg => Sm.out ?_) fun hg => Sm.out ?_) | (refine Nu.mk ?_; first | (fail_if_success have := nb1); intro nb1 | (fail_if_success have := nb2); intro nb2 | (fail_if_success have := nb3); intro nb3 | intro nbz) | (refine Fr.mk ?_; intro hfr; replace FR := And.intro hfr FR; clear hfr; refine Sm.out ?_) | refine Two.mk ?_ ?_ | (apply Yxc; exact Yx) | refine Cs.mk fun hcs => Sm.out ?_ | go_step | omega | (simp only [maxLen_eq]; omega) | exact trivial
        all_goals clear h5 hlt
        all_goals (refine OutQ.all ?_ ?_; (focus (simp only [resv, ZK, look, loadv, loadn, loadnm, load1, load1m, hget, ↓reduceIte, Nat.reduceEqDiff, Nat.reduceAdd, Nat.reduceMul, Nat.reduceLeDiff, Nat.reduceLT, reduceCtorEq, TFWiZ, FR])); (simp only [resv, resA, ZK, look, loadv, loadn, loadnm, load1, load1m, hget, ↓reduceIte, Nat.reduceEqDiff, Nat.reduceAdd, Nat.reduceMul, Nat.reduceLeDiff, Nat.reduceLT, reduceCtorEq, TFWiZ, FR]))
        all_goals (unfold tailF; (repeat' split) <;> first | (exfalso; omega) | (exact absurd (show true = true from rfl) (by assumption)) | (exact absurd (show false = true by assumption) (by decide)) | exact bad3_mk (by first | rfl | (simp; omega)) | exact good3_mk rfl (by first | omega | (simp only [List.length_drop]; omega)) (by first | rfl | (simp; omega)) | exact good3_mk (by first | (rw [wrap_i64 (by omega) (by omega)]; done) | (rw [wrap_i64 (by omega) (by omega)]; rfl)) (by omega) (by first | rfl | (simp; omega)) | exact good3_mk (by first | (rw [hneg (by omega)]; done) | (rw [hneg (by omega)]; rfl)) (by omega) (by first | rfl | (simp; omega)) | trace_state)
    · have m0 : decide (most < 0) = false := by simp; omega
      have m1 : decide ((N : Int) > IntKind.u64.wrap most) = false := by rw [wrap_u64 (by omega) (by omega)]; simp; omega
      have wN : IntKind.i64.wrap (N : Int) = (N : Int) := wrap_i64_nat (by omega)
      by_cases hnr : r.length < N
      · have m2 : decide ((N : Int) > (r.length : Int)) = true := by simp; omega
        first | (have FRx := FR; clear FRx) | have FR := fr0
        have FA := Sm.mk (And.intro TFWiZ (And.intro k1 (And.intro w (And.intro wn (And.intro wl (And.intro wr (And.intro hN' (And.intro k0 (And.intro f1 (And.intro m0 (And.intro m1 m2)))))))))))
        repeat' first | (apply Sm.mk; refine Ysn ?_) | refine WP.seq fun K hK => ?_ | (apply Ob.mk; exact Yo) | refine And.intro (Ob.out ?_) ?_ | refine Y1WiZ ?_ | refine YzWiZ ?_ | (refine WP.cond rfl (fun hc => ?_) (fun hc => ?_) <;> (try simp only [ZC, reduceCtorEq, ZD] at hc) <;> (try exact absurd hc (by decide)) <;> (try (exfalso; omega))) | refine Rt.mk (And.intro (fun hg => Sm.out ?_) fun hg => Sm.out ?_) | (refine Nu.mk ?_; first | (fail_if_success have := nb1); intro nb1 | (fail_if_success have := nb2); intro nb2 | (fail_if_success have := nb3); intro nb3 | intro nbz) | (refine Fr.mk ?_; intro hfr; replace FR := And.intro hfr FR; clear hfr; refine Sm.out ?_) | refine Two.mk ?_ ?_ | (apply Yxc; exact Yx) | refine Cs.mk fun hcs => Sm.out ?_ | go_step | omega | (simp only [maxLen_eq]; omega) | exact trivial
        all_goals clear h5 hlt
        all_goals (refine OutQ.all ?_ ?_; (focus (simp only [resv, ZK, look, loadv, loadn, loadnm, load1, load1m, hget, ↓reduceIte, Nat.reduceEqDiff, Nat.reduceAdd, Nat.reduceMul, Nat.reduceLeDiff, Nat.reduceLT, reduceCtorEq, TFWiZ, FR])); (simp only [resv, resA, ZK, look, loadv, loadn, loadnm, load1, load1m, hget, ↓reduceIte, Nat.reduceEqDiff, Nat.reduceAdd, Nat.reduceMul, Nat.reduceLeDiff, Nat.reduceLT, reduceCtorEq, TFWiZ, FR]))
        all_goals (unfold tailF; (repeat' split) <;> first | (exfalso; omega) | (exact absurd (show true = true from rfl) (by assumption)) | (exact absurd (show false = true by assumption) (by decide)) | exact bad3_mk (by first | rfl | (simp; omega)) | exact good3_mk rfl (by first | omega | (simp only [List.length_drop]; omega)) (by first | rfl | (simp; omega)) | exact good3_mk (by first | (rw [wrap_i64 (by omega) (by omega)]; done) | (rw [wrap_i64 (by omega) (by omega)]; rfl)) (by omega) (by first | rfl | (simp; omega)) | exact good3_mk (by first | (rw [hneg (by omega)]; done) | (rw [hneg (by omega)]; rfl)) (by omega) (by first | rfl | (simp; omega)) | trace_state)
      · have m2 : decide ((N : Int) > (r.length : Int)) = false := by simp; omega
        have wx : IntKind.i64.wrap (((at_ + 1 + j : Nat) : Int) + (N : Int)) = ((at_ + 1 + j + N : Nat) : Int) := by rw [wrap_i64 (by omega) (by omega)]; omega
        have ht : (Z.take (at_ + 1 + j + N)).drop (at_ + 1 + j) = r.take N := by
          rw [List.drop_take, hZr]; congr 1; omega
        have ht2 : (Z.drop (at_ + 1 + j)).take (at_ + 1 + j + N - (at_ + 1 + j)) = r.take N := by
          rw [hZr]; congr 1; omega
        first | (have FRx := FR; clear FRx) | have FR := fr0
        have FA := Sm.mk (And.intro TFWiZ (And.intro k1 (And.intro w (And.intro wn (And.intro wl (And.intro wr (And.intro hN' (And.intro k0 (And.intro f1 (And.intro m0 (And.intro m1 (And.intro m2 (And.intro wN (And.intro wx (And.intro ht ht2)))))))))))))))
        repeat' first | (apply Sm.mk; refine Ysn ?_) | refine WP.seq fun K hK => ?_ | (apply Ob.mk; exact Yo) | refine And.intro (Ob.out ?_) ?_ | refine Y1WiZ ?_ | refine YzWiZ ?_ | (refine WP.cond rfl (fun hc => ?_) (fun hc => ?_) <;> (try simp only [ZC, reduceCtorEq, ZD] at hc) <;> (try exact absurd hc (by decide)) <;> (try (exfalso; omega))) | refine Rt.mk (And.intro (fun hg => Sm.out ?_) fun hg => Sm.out ?_) | (refine Nu.mk ?_; first | (fail_if_success have := nb1); intro nb1 | (fail_if_success have := nb2); intro nb2 | (fail_if_success have := nb3); intro nb3 | intro nbz) | (refine Fr.mk ?_; intro hfr; replace FR := And.intro hfr FR; clear hfr; refine Sm.out ?_) | refine Two.mk ?_ ?_ | (apply Yxc; exact Yx) | refine Cs.mk fun hcs => Sm.out ?_ | go_step | omega | (simp only [maxLen_eq]; omega) | exact trivial
        all_goals clear h5 hlt
        all_goals (refine OutQ.all ?_ ?_; (focus (simp only [resv, ZK, look, loadv, loadn, loadnm, load1, load1m, hget, ↓reduceIte, Nat.reduceEqDiff, Nat.reduceAdd, Nat.reduceMul, Nat.reduceLeDiff, Nat.reduceLT, reduceCtorEq, TFWiZ, FR])); (simp only [resv, resA, ZK, look, loadv, loadn, loadnm, load1, load1m, hget, ↓reduceIte, Nat.reduceEqDiff, Nat.reduceAdd, Nat.reduceMul, Nat.reduceLeDiff, Nat.reduceLT, reduceCtorEq, TFWiZ, FR]))
        all_goals (unfold tailF; (repeat' split) <;> first | (exfalso; omega) | (exact absurd (show true = true from rfl) (by assumption)) | (exact absurd (show false = true by assumption) (by decide)) | exact bad3_mk (by first | rfl | (simp; omega)) | exact good3_mk rfl (by first | omega | (simp only [List.length_drop]; omega)) (by first | rfl | (simp; omega)) | exact good3_mk (by first | (rw [wrap_i64 (by omega) (by omega)]; done) | (rw [wrap_i64 (by omega) (by omega)]; rfl)) (by omega) (by first | rfl | (simp; omega)) | exact good3_mk (by first | (rw [hneg (by omega)]; done) | (rw [hneg (by omega)]; rfl)) (by omega) (by first | rfl | (simp; omega)) | trace_state)
theorem gF_eq {sgn S : Int} {m : Int} {K : Nat} (t : List Int) (h2 : ibit .andNot .u8 m sgn = (K : Int)) (h1 : ibit .and .u8 m sgn = S) :
    gF sgn (m :: t) = if 8 < K ∨ t.length < K ∨ (0 < K ∧ t.getD 0 0 = 0) then none else some (S, valL (t.take K), t.drop K) := by
  rw [gF, h1, h2, Int.toNat_natCast]
theorem rdF_none {kind most : Int} {zs : List Int} (h3 : kind ≠ 3) (h0 : gF (if kind = 1 then 16 else 0) zs = none) : rdF kind most zs = none := by
  unfold rdF
  rw [if_neg h3]
  by_cases h1 : kind = 1
  · rw [if_pos h1] at h0 ⊢
    simp only [iF, h0]; rfl
  · rw [if_neg h1] at h0 ⊢
    have hn : nF zs = none := by unfold nF; rw [h0]; rfl
    have hc : cF most zs = none := by unfold cF; rw [hn]
    have ht : tF most zs = none := by unfold tF; rw [hc]
    rw [hn, hc, ht]
    split
    · rfl
    · split <;> rfl
theorem rdF_tail {kind most : Int} {zs r : List Int} {N : Nat} {ng : Bool} (h3 : kind ≠ 3) (hng : ng = true → kind = 1) (h0 : gF (if kind = 1 then 16 else 0) zs = some (if ng then 16 else 0, N, r)) : rdF kind most zs = tailF kind most ng N r := by
  unfold rdF tailF
  rw [if_neg h3]
  by_cases h1 : kind = 1
  · rw [if_pos h1] at h0 ⊢
    rw [if_pos h1]
    simp only [iF, h0]
    cases ng
    · simp only [Bool.false_eq_true, if_false, ne_eq, not_true_eq_false, false_and, true_and, false_or]
      split <;> rfl
    · simp only [if_true]
      by_cases hc : N = 0 ∨ 9223372036854775808 < N
      · rw [if_pos (.inl ⟨by decide, hc⟩), if_pos hc]; rfl
      · rw [if_neg hc, if_neg (by rintro (⟨_, h⟩ | ⟨h, _⟩); exact hc h; cases h), if_pos (by decide)]; rfl
  · rw [if_neg h1] at h0 ⊢
    rw [if_neg h1]
    have hn : nF zs = some (N, r) := by unfold nF; rw [h0]; rfl
    by_cases hk0 : kind = 0
    · rw [if_pos hk0, if_pos hk0, hn]; rfl
    · rw [if_neg hk0, if_neg hk0]
      by_cases hm : most < 0 ∨ most < (N : Int)
      · have hc : cF most zs = none := by unfold cF; rw [hn]; simp only; rw [if_pos hm]
        have ht : tF most zs = none := by unfold tF; rw [hc]
        rw [if_pos hm, hc, ht]
        split <;> rfl
      · have hc : cF most zs = some (N, r) := by unfold cF; rw [hn]; simp only; rw [if_neg hm]
        rw [if_neg hm, hc]
        by_cases hk4 : kind = 4
        · rw [if_pos hk4, if_pos hk4]; rfl
        · rw [if_neg hk4, if_neg hk4]
          unfold tF
          rw [hc]
          simp only
          split <;> rfl
theorem refGet_ct (Z : List Int) (at_ : Nat) (kind most : Int) (hat : at_ ≤ Z.length) (hb : By Z) (hz : Z.length ≤ 6000) (hm1 : -9223372036854775808 ≤ most) (hm2 : most ≤ 9223372036854775807) :
    ACt Tryd.prog 55 [.slz .u8 Z, iv .i64 (at_ : Int), .agg [iv .i64 kind, iv .i64 most]] [] (Post3 Z.length (rdF kind most (Z.drop at_))) := by
  cases hd : Z.drop at_ with
  | nil =>
    have he : at_ = Z.length := by
      have : (Z.drop at_).length = 0 := by rw [hd]; rfl
      simp at this; omega
    have hn : rdF kind most [] = none := by
      by_cases h3 : kind = 3
      · subst h3; rfl
      · exact rdF_none h3 rfl
    rw [hn, he]
    exact refG_end Z kind most
  | cons m t =>
    have hbt : By (m :: t) := by rw [← hd]; exact hb.drop _
    have hm := hbt m (List.mem_cons_self ..)
    obtain ⟨m, rfl⟩ := Int.eq_ofNat_of_zero_le hm.1
    obtain ⟨h1, h2, h3', h4, h5⟩ := drop_facts hd
    by_cases h3 : kind = 3
    · subst h3
      have hf : rdF 3 most ((m : Int) :: t) = (fF ((m : Int) :: t)).map fun p => (.agg [nu 0, iv .i64 0, eS, bv p.1], p.2) := rfl
      have hF : fF ((m : Int) :: t) = if 1 < (m : Int) then none else some ((m : Int) == 1, t) := rfl
      rw [hf, hF]
      by_cases hm2 : 1 < (m : Int)
      · rw [if_pos hm2]
        exact refG_flagB Z t at_ m most hd hz (by omega)
      · rw [if_neg hm2]
        have := refG_flag Z t at_ m most hd hz (by omega)
        rw [show at_ + 1 = Z.length - t.length by omega] at this
        exact this
    · obtain ⟨k, s, hk, a1, a2, a5, a6, a3, a4⟩ := and256 m (by omega)
      obtain ⟨K, ng, hH, hKm, e2, e1, hng⟩ : ∃ (K : Nat) (ng : Bool), HeadK kind m K ng ∧ K ≤ 255 ∧ ibit .andNot .u8 (m : Int) (if kind = 1 then 16 else 0) = (K : Int) ∧ ibit .and .u8 (m : Int) (if kind = 1 then 16 else 0) = (if ng then 16 else 0) ∧ (ng = true → kind = 1) := by
        by_cases hk1 : kind = 1
        · simp only [if_pos hk1]
          by_cases hs : m / 16 % 2 = 1
          · rw [if_pos hs] at a5 a6
            exact ⟨m - 16, true, .inr (.inr ⟨hk1, hs, rfl, rfl⟩), by omega, by rw [a1, a5], by rw [a2, a6]; rfl, fun _ => hk1⟩
          · rw [if_neg hs] at a5 a6
            exact ⟨m, false, .inr (.inl ⟨hk1, hs, rfl, rfl⟩), by omega, by rw [a1, a5], by rw [a2, a6]; rfl, fun h => by cases h⟩
        · simp only [if_neg hk1]
          exact ⟨m, false, .inl ⟨hk1, rfl, rfl⟩, by omega, a3, by rw [a4]; rfl, fun h => by cases h⟩
      have hg := gF_eq t e2 e1
      by_cases hbad : 8 < K ∨ t.length < K ∨ (0 < K ∧ t.getD 0 0 = 0)
      · rw [if_pos hbad] at hg
        rw [rdF_none h3 hg]
        exact refG_bad Z t at_ m K ng kind most hd hz h3 (by omega) hH hbad
      · rw [if_neg hbad] at hg
        rw [rdF_tail h3 hng hg]
        have hgood : K ≤ 8 ∧ K ≤ t.length ∧ (K = 0 ∨ t.getD 0 0 ≠ 0) := by
          refine ⟨by omega, by omega, ?_⟩
          by_cases h0 : K = 0
          · exact .inl h0
          · exact .inr fun h => hbad (.inr (.inr ⟨by omega, h⟩))
        cases ng
        · exact refG_goodF Z t at_ m K kind most hd hbt.tail hz h3 (by omega) hH hgood hm1 hm2
        · exact refG_goodT Z t at_ m K kind most hd hbt.tail hz h3 (by omega) hH hgood hm1 hm2
end Go.Proofs.YtaffbklkjjmmdaaDoor.Wi
