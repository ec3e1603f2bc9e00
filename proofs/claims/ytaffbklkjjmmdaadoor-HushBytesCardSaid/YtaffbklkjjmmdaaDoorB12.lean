/-
  The walks and the laws that the statement leans on, part 12.
-/
import Derived.Test.YtaffbklkjjmmdaaDoorB10
import Derived.Test.YtaffbklkjjmmdaaDoorB11
namespace Go.Proofs.YtaffbklkjjmmdaaDoor.Wi
open Go
set_option linter.unusedVariables false
set_option linter.unusedSimpArgs false
set_option linter.defProp false
def TFWiM :=
  And.intro (And.intro (And.intro (And.intro (And.intro tyc0 (And.intro tyc2 zmb2)) (And.intro tyc3 (And.intro zmb3 tyc4))) (And.intro (And.intro zmb4 (And.intro tyc5 zmb5)) (And.intro (And.intro tyc9 zmb9) (And.intro tyc23 zmb23)))) (And.intro (And.intro (And.intro tyc40 (And.intro zmb40 tyc47)) (And.intro elt47 (And.intro mkz47 apT47))) (And.intro (And.intro elk47 (And.intro zmb47 tyc49)) (And.intro (And.intro mth49_73 mth49_72) (And.intro mth49_71 con49))))) (And.intro (And.intro (And.intro (And.intro zmb49 (And.intro tyc71 foff71_0)) (And.intro fpart71_0 (And.intro foff71_1 fpart71_1))) (And.intro (And.intro zmb71 (And.intro bldT71 tyc92)) (And.intro (And.intro zmb92 tyc96) (And.intro tyc98 Tryd.underlying0)))) (And.intro (And.intro (And.intro Tryd.underlying2 (And.intro Tryd.underlying3 Tryd.underlying4)) (And.intro Tryd.underlying5 (And.intro Tryd.underlying9 Tryd.underlying23))) (And.intro (And.intro Tryd.underlying40 (And.intro Tryd.underlying47 Tryd.underlying49)) (And.intro (And.intro Tryd.underlying71 Tryd.underlying92) (And.intro Tryd.underlying96 Tryd.underlying98)))))
theorem Y1WiM {G R : Prop} (r : R) (h : R → G := by intro r; first | (apply WP.region; exact rvc_sound _ _ (Sm.out r)) | exact WP.drawK rfl mixed (by decide +kernel) (Sm.out r) | (apply WP.block; exact r) | (apply WP.skip; exact Yq r) | (apply WP.exit; exact Yq r) | (apply WP.ret; exact Sm.out r) | exact WP.cond rfl (fun _ => r) (fun hg => absurd hg (by decide)) | exact WP.cond rfl (fun hg => absurd hg (by decide)) (fun _ => r) | exact Rt.mk (And.intro (fun _ => Sm.out r) fun hg => absurd hg (by decide)) | exact Rt.mk (And.intro (fun hg => absurd hg (by decide)) fun _ => Sm.out r)) : G := h r
theorem YzWiM {G R : Prop} (r : R) (h : R → G := by intro r; first | (apply ExG.no; exact Sm.out r) | (apply Or.inl; apply ExG.no; exact Sm.out r) | exact Or.inl (And.intro (fun hg => absurd hg (by decide)) (ExG.no (Sm.out r)))) : G := h r
/-! One of no bytes -/
abbrev Kp (b : Nat) (x : AV) (f g : Bool) : AV → Hp → Prop := fun r F' => r = x ∧ F' = [(b, .cells [nilS, bv g] 2 71)]
set_option maxRecDepth 8000 in
theorem bad_e (b : Nat) (f : Bool) : ACt Tryd.prog 29 [pt b 0] [(b, .cells [nilS, bv f] 2 71)] (fun r F' => r = bv f ∧ F' = [(b, .cells [nilS, bv f] 2 71)]) := by
  refine ACt.intro Tryd.func29 rfl (by kernel_rfl) (by simp [Tryd.ntmps29]) (fun cx => ?_)
  simp only [argE, Tryd.ntmps29, Tryd.results29]
  first | (have FRx := FR; clear FRx) | have FR := fr0
  have FA := Sm.mk (TFWiM)
  repeat' first | (apply Sm.mk; refine Ysn ?_) | refine WP.seq fun K hK => ?_ | (apply Ob.mk; exact Yo) | refine And.intro (Ob.out ?_) ?_ | refine Y1WiM ?_ | refine YzWiM ?_ | (refine WP.cond rfl (fun hc => ?_) (fun hc => ?_) <;> (try simp only [ZC, reduceCtorEq, ZD] at hc) <;> (try exact absurd hc (by decide)) <;> (try (exfalso; omega))) | refine Rt.mk (And.intro (fun hg => Sm.out ?_) fun hg => Sm.out ?_) | (refine Nu.mk ?_; first | (fail_if_success have := nb1); intro nb1 | (fail_if_success have := nb2); intro nb2 | (fail_if_success have := nb3); intro nb3 | intro nbz) | (refine Fr.mk ?_; intro hfr; replace FR := And.intro hfr FR; clear hfr; refine Sm.out ?_) | refine Two.mk ?_ ?_ | (apply Yxc; exact Yx) | refine Cs.mk fun hcs => Sm.out ?_ | go_step | omega | (simp only [maxLen_eq]; omega) | exact trivial | refine Or.inr (Rt.mk (And.intro (fun hg => Sm.out ?_) fun hg => Sm.out ?_))
  (refine OutQ.upd (by simp only [resv, ZK, look, loadv, loadn, loadnm, load1, load1m, hget, ↓reduceIte, Nat.reduceEqDiff, Nat.reduceAdd, Nat.reduceMul, Nat.reduceLeDiff, Nat.reduceLT, reduceCtorEq, TFWiM, FR]) (by simp only [resv, resA, ZK, look, loadv, loadn, loadnm, load1, load1m, hget, ↓reduceIte, Nat.reduceEqDiff, Nat.reduceAdd, Nat.reduceMul, Nat.reduceLeDiff, Nat.reduceLT, reduceCtorEq, TFWiM, FR]; first | done | rfl) (by simp only [hget, ↓reduceIte, if_true, if_false, FR]; first | done | rfl) ?_ <;> first | exact rfl | (simp only [ZK, look, loadv, loadn, loadnm, load1, load1m, hget, ↓reduceIte, Nat.reduceEqDiff, Nat.reduceAdd, Nat.reduceMul, Nat.reduceLeDiff, Nat.reduceLT, reduceCtorEq, TFWiM, FR]; done) | skip)
set_option maxRecDepth 8000 in
theorem fail_e (b : Nat) (f : Bool) : ACt Tryd.prog 73 [pt b 0] [(b, .cells [nilS, bv f] 2 71)] (fun r F' => r = .tup [] ∧ F' = [(b, .cells [nilS, bv true] 2 71)]) := by
  refine ACt.intro Tryd.func73 rfl (by kernel_rfl) (by simp [Tryd.ntmps73]) (fun cx => ?_)
  simp only [argE, Tryd.ntmps73, Tryd.results73]
  first | (have FRx := FR; clear FRx) | have FR := fr0
  have FA := Sm.mk (TFWiM)
  repeat' first | (apply Sm.mk; refine Ysn ?_) | refine WP.seq fun K hK => ?_ | (apply Ob.mk; exact Yo) | refine And.intro (Ob.out ?_) ?_ | refine Y1WiM ?_ | refine YzWiM ?_ | (refine WP.cond rfl (fun hc => ?_) (fun hc => ?_) <;> (try simp only [ZC, reduceCtorEq, ZD] at hc) <;> (try exact absurd hc (by decide)) <;> (try (exfalso; omega))) | refine Rt.mk (And.intro (fun hg => Sm.out ?_) fun hg => Sm.out ?_) | (refine Nu.mk ?_; first | (fail_if_success have := nb1); intro nb1 | (fail_if_success have := nb2); intro nb2 | (fail_if_success have := nb3); intro nb3 | intro nbz) | (refine Fr.mk ?_; intro hfr; replace FR := And.intro hfr FR; clear hfr; refine Sm.out ?_) | refine Two.mk ?_ ?_ | (apply Yxc; exact Yx) | refine Cs.mk fun hcs => Sm.out ?_ | go_step | omega | (simp only [maxLen_eq]; omega) | exact trivial | refine Or.inr (Rt.mk (And.intro (fun hg => Sm.out ?_) fun hg => Sm.out ?_))
  (refine OutQ.upd (by simp only [resv, ZK, look, loadv, loadn, loadnm, load1, load1m, hget, ↓reduceIte, Nat.reduceEqDiff, Nat.reduceAdd, Nat.reduceMul, Nat.reduceLeDiff, Nat.reduceLT, reduceCtorEq, TFWiM, FR]) (by simp only [resv, resA, ZK, look, loadv, loadn, loadnm, load1, load1m, hget, ↓reduceIte, Nat.reduceEqDiff, Nat.reduceAdd, Nat.reduceMul, Nat.reduceLeDiff, Nat.reduceLT, reduceCtorEq, TFWiM, FR]; first | done | rfl) (by simp only [hget, ↓reduceIte, if_true, if_false, FR]; first | done | rfl) ?_ <;> first | exact rfl | (simp only [ZK, look, loadv, loadn, loadnm, load1, load1m, hget, ↓reduceIte, Nat.reduceEqDiff, Nat.reduceAdd, Nat.reduceMul, Nat.reduceLeDiff, Nat.reduceLT, reduceCtorEq, TFWiM, FR]; done) | skip)
def TFWiP :=
  And.intro (And.intro (And.intro (And.intro tyc0 (And.intro tyc2 zmb2)) (And.intro tyc3 (And.intro zmb3 tyc4))) (And.intro (And.intro zmb4 (And.intro tyc5 zmb5)) (And.intro (And.intro tyc9 zmb9) (And.intro tyc23 zmb23)))) (And.intro (And.intro (And.intro tyc47 (And.intro elt47 mkz47)) (And.intro (And.intro apT47 elk47) (And.intro zmb47 Tryd.underlying0))) (And.intro (And.intro Tryd.underlying2 (And.intro Tryd.underlying3 Tryd.underlying4)) (And.intro (And.intro Tryd.underlying5 Tryd.underlying9) (And.intro Tryd.underlying23 Tryd.underlying47))))
theorem Y1WiP {G R : Prop} (r : R) (h : R → G := by intro r; first | (apply WP.region; exact rvc_sound _ _ (Sm.out r)) | exact WP.drawK rfl mixed (by decide +kernel) (Sm.out r) | (apply WP.block; exact r) | (apply WP.skip; exact Yq r) | (apply WP.exit; exact Yq r) | (apply WP.ret; exact Sm.out r) | exact WP.cond rfl (fun _ => r) (fun hg => absurd hg (by decide)) | exact WP.cond rfl (fun hg => absurd hg (by decide)) (fun _ => r) | exact Rt.mk (And.intro (fun _ => Sm.out r) fun hg => absurd hg (by decide)) | exact Rt.mk (And.intro (fun hg => absurd hg (by decide)) fun _ => Sm.out r)) : G := h r
theorem YzWiP {G R : Prop} (r : R) (h : R → G := by intro r; first | (apply ExG.no; exact Sm.out r) | (apply Or.inl; apply ExG.no; exact Sm.out r) | exact Or.inl (And.intro (fun hg => absurd hg (by decide)) (ExG.no (Sm.out r)))) : G := h r
theorem putL_len (s : Int) (n : Nat) (hn : n < 18446744073709551616) : (putL s n).length ≤ 9 := by
  have h1 : lenN n ≤ 64 := lenN_le.2 hn
  unfold putL; simp [byteL_len]; omega
set_option maxRecDepth 8000 in
set_option maxHeartbeats 1000000 in
theorem put_ct (b0 cap0 : Nat) (zs : List Int) (s : Int) (n : Nat) (hz : zs.length ≤ 100000) (hc1 : zs.length ≤ cap0) (hc2 : cap0 ≤ 9223372036854775807) (hn : n < 18446744073709551616) :
    ACt Tryd.prog 70 [ms b0 0 zs.length cap0, iv .u8 s, nu n] [(b0, .zs .u8 zs cap0 5)] (Row .u8 5 (zs ++ putL s n)) := by
  refine ACt.intro Tryd.func70 rfl (by kernel_rfl) (by simp [Tryd.ntmps70]) (fun cx => ?_)
  simp only [argE, Tryd.ntmps70, Tryd.results70]
  have h1 : lenN n ≤ 64 := lenN_le.2 hn
  obtain ⟨kk, hkk⟩ : ∃ kk, kk = (lenN n + 7) / 8 := ⟨_, rfl⟩
  have hkk8 : kk ≤ 8 := by omega
  have c1 := size_ct n hn
  rw [← hkk] at c1
  have w1 : IntKind.u8.wrap (kk : Int) = (kk : Int) := wrap_u8 (by omega) (by omega)
  obtain ⟨h, hh⟩ : ∃ h, h = ibit .or .u8 s (kk : Int) := ⟨_, rfl⟩
  obtain ⟨T, hT⟩ : ∃ T, T = zs ++ [h] := ⟨_, rfl⟩
  have hT' : zs ++ [h] = T := hT.symm
  have lT : T.length = zs.length + 1 := by rw [hT]; simp
  have hp : zs ++ putL s n = T ++ byteL n kk := by unfold putL; rw [← hkk, ← hh, hT]; simp
  have hh' : ibit .or .u8 s (kk : Int) = h := hh.symm
  first | (have FRx := FR; clear FRx) | have FR := fr0
  have FA := Sm.mk (And.intro TFWiP (And.intro w1 (And.intro hh' hT')))
  repeat' first | (apply Sm.mk; refine Ysn ?_) | refine WP.seq fun K hK => ?_ | (apply Ob.mk; exact Yo) | refine And.intro (Ob.out ?_) ?_ | refine Y1WiP ?_ | refine Yvn (c := c1) (r := ?_) | refine Yc (c := c1) (r := ?_) | refine YzWiP ?_ | (refine WP.cond rfl (fun hc => ?_) (fun hc => ?_) <;> (try simp only [ZC, reduceCtorEq, ZD] at hc) <;> (try exact absurd hc (by decide)) <;> (try (exfalso; omega))) | refine Rt.mk (And.intro (fun hg => Sm.out ?_) fun hg => Sm.out ?_) | (refine Nu.mk ?_; first | (fail_if_success have := nb1); intro nb1 | (fail_if_success have := nb2); intro nb2 | (fail_if_success have := nb3); intro nb3 | (fail_if_success have := nb4); intro nb4 | (fail_if_success have := nb5); intro nb5 | (fail_if_success have := nb6); intro nb6 | intro nbz) | (refine Fr.mk ?_; intro hfr; replace FR := And.intro hfr FR; clear hfr; refine Sm.out ?_) | refine Two.mk ?_ ?_ | (apply Yxc; exact Yx) | refine Cs.mk fun hcs => Sm.out ?_ | go_step | omega | (simp only [maxLen_eq]; omega) | exact trivial | refine Or.inr (Rt.mk (And.intro (fun hg => Sm.out ?_) fun hg => Sm.out ?_))
  refine WP.loop (Γ := UG) (fun g => ⟨[(7, iv .i64 g.k), (0, ms g.b 0 g.acc.length g.cap), (2, nu n)], [(g.b, .zs .u8 g.acc g.cap 5)]⟩)
    (fun g => g.acc ++ byteL n g.k = T ++ byteL n kk ∧ g.k ≤ kk ∧ g.acc.length + g.k ≤ 100009 ∧ g.acc.length ≤ g.cap ∧ g.cap ≤ 9223372036854775807) (fun g => g.k) ⟨kk, T, nb2, nb3⟩
    ⟨by simp, by simp, by simp only; omega, by simp only; omega, by simp only; omega⟩ (Sub.pick (by simp [pickB, hget, hdel, FR, lT]) (by simp [look, lT])) ?_
  intro ⟨k, acc, b, cap⟩ ⟨g1, g2, g4, g5, g6⟩
  simp only at g1 g2 g4 g5 g6 ⊢
  (refine WP.nd fun hnd => ?_; simp only [ndF, fresh_cons, fresh_nil, and_true, ne_eq] at hnd; replace FR := And.intro hnd FR; clear hnd)
  cases k with
  | zero =>
    have k1 : decide (((0 : Nat) : Int) > 0) = false := by decide
    rw [byteL, List.append_nil] at g1
    first | (have FRx := FR; clear FRx) | have FR := fr0
    have FA := Sm.mk (And.intro TFWiP k1)
    repeat' first | (apply Sm.mk; refine Ysn ?_) | refine WP.seq fun K hK => ?_ | (apply Ob.mk; exact Yo) | refine And.intro (Ob.out ?_) ?_ | refine Y1WiP ?_ | refine YzWiP ?_ | (refine WP.cond rfl (fun hc => ?_) (fun hc => ?_) <;> (try simp only [ZC, reduceCtorEq, ZD] at hc) <;> (try exact absurd hc (by decide)) <;> (try (exfalso; omega))) | refine Rt.mk (And.intro (fun hg => Sm.out ?_) fun hg => Sm.out ?_) | (refine Nu.mk ?_; first | (fail_if_success have := nb1); intro nb1 | (fail_if_success have := nb2); intro nb2 | (fail_if_success have := nb3); intro nb3 | (fail_if_success have := nb4); intro nb4 | (fail_if_success have := nb5); intro nb5 | (fail_if_success have := nb6); intro nb6 | intro nbz) | (refine Fr.mk ?_; intro hfr; replace FR := And.intro hfr FR; clear hfr; refine Sm.out ?_) | refine Two.mk ?_ ?_ | (apply Yxc; exact Yx) | refine Cs.mk fun hcs => Sm.out ?_ | go_step | omega | (simp only [maxLen_eq]; omega) | exact trivial | refine Or.inr (Rt.mk (And.intro (fun hg => Sm.out ?_) fun hg => Sm.out ?_))
    (refine OutQ.row (by simp only [resv, ZK, look, loadv, loadn, loadnm, load1, load1m, hget, ↓reduceIte, Nat.reduceEqDiff, Nat.reduceAdd, Nat.reduceMul, Nat.reduceLeDiff, Nat.reduceLT, reduceCtorEq, TFWiP, FR]) (by simp only [resv, resA, ZK, look, loadv, loadn, loadnm, load1, load1m, hget, ↓reduceIte, Nat.reduceEqDiff, Nat.reduceAdd, Nat.reduceMul, Nat.reduceLeDiff, Nat.reduceLT, reduceCtorEq, TFWiP, FR]; first | done | rfl) (by simp only [hget, ↓reduceIte, if_true, if_false, FR]; first | done | rfl) ?_ ?_ ?_ ?_ <;> first | omega | (simp only [maxLen_eq]; omega) | skip)
    all_goals first | omega | (rw [hp, g1]; done) | (simp [hp, ← g1]; done)
  | succ k' =>
    have k1 : decide (((k' + 1 : Nat) : Int) > 0) = true := decide_eq_true (by omega)
    have e1 : IntKind.i64.wrap (((k' + 1 : Nat) : Int) - 1) = (k' : Int) := by rw [wrap_i64 (by omega) (by omega)]; try omega
    have e2 : IntKind.i64.wrap (8 * (k' : Int)) = ((8 * k' : Nat) : Int) := by rw [wrap_i64 (by omega) (by omega)]; try omega
    have e3 : 8 * k' ≤ 64 := by omega
    have e4 : (n : Int).fdiv (2 ^ (8 * k')) = ((n / 256 ^ k' : Nat) : Int) := by
      rw [Int.fdiv_eq_ediv_of_nonneg _ (by exact Int.le_of_lt (Int.pow_pos (by omega))), show (256 : Nat) = 2 ^ 8 from rfl, ← Nat.pow_mul]
      simp
    have e5 : IntKind.u8.wrap ((n / 256 ^ k' : Nat) : Int) = ((n / 256 ^ k' % 256 : Nat) : Int) := by rw [wrap_u8_mod]; omega
    obtain ⟨acc', ha⟩ : ∃ acc', acc' = acc ++ [((n / 256 ^ k' % 256 : Nat) : Int)] := ⟨_, rfl⟩
    have e6 : acc ++ [((n / 256 ^ k' % 256 : Nat) : Int)] = acc' := ha.symm
    have e7 : acc'.length = acc.length + 1 := by rw [ha]; simp
    first | (have FRx := FR; clear FRx) | have FR := fr0
    have FA := Sm.mk (And.intro TFWiP (And.intro k1 (And.intro e1 (And.intro e2 (And.intro e3 (And.intro e4 (And.intro e5 e6)))))))
    repeat' first | (apply Sm.mk; refine Ysn ?_) | refine WP.seq fun K hK => ?_ | (apply Ob.mk; exact Yo) | refine And.intro (Ob.out ?_) ?_ | refine Y1WiP ?_ | refine YzWiP ?_ | (refine WP.cond rfl (fun hc => ?_) (fun hc => ?_) <;> (try simp only [ZC, reduceCtorEq, ZD] at hc) <;> (try exact absurd hc (by decide)) <;> (try (exfalso; omega))) | refine Rt.mk (And.intro (fun hg => Sm.out ?_) fun hg => Sm.out ?_) | (refine Nu.mk ?_; first | (fail_if_success have := nb1); intro nb1 | (fail_if_success have := nb2); intro nb2 | (fail_if_success have := nb3); intro nb3 | (fail_if_success have := nb4); intro nb4 | (fail_if_success have := nb5); intro nb5 | (fail_if_success have := nb6); intro nb6 | intro nbz) | (refine Fr.mk ?_; intro hfr; replace FR := And.intro hfr FR; clear hfr; refine Sm.out ?_) | refine Two.mk ?_ ?_ | (apply Yxc; exact Yx) | refine Cs.mk fun hcs => Sm.out ?_ | go_step | omega | (simp only [maxLen_eq]; omega) | exact trivial | refine Or.inr (Rt.mk (And.intro (fun hg => Sm.out ?_) fun hg => Sm.out ?_))
    refine ⟨⟨k', acc', nb5, nb6⟩, ⟨?_, by simp only; omega, by simp only; omega, by simp only; omega, by simp only; omega⟩, by simp only; omega, (Sub.pick (by simp [pickB, hget, hdel, FR, e7]) (by simp [look, e7]))⟩
    simp only
    rw [← g1, ha, byteL, List.append_assoc]; rfl
set_option maxRecDepth 8000 in
theorem num_ct (b0 cap0 : Nat) (zs : List Int) (n : Nat) (hz : zs.length ≤ 100000) (hc1 : zs.length ≤ cap0) (hc2 : cap0 ≤ 9223372036854775807) (hn : n < 18446744073709551616) :
    ACt Tryd.prog 69 [ms b0 0 zs.length cap0, nu n] [(b0, .zs .u8 zs cap0 5)] (Row .u8 5 (zs ++ putL 0 n)) := by
  refine ACt.intro Tryd.func69 rfl (by kernel_rfl) (by simp [Tryd.ntmps69]) (fun cx => ?_)
  simp only [argE, Tryd.ntmps69, Tryd.results69]
  have c1 := put_ct b0 cap0 zs 0 n hz hc1 hc2 hn
  obtain ⟨T, hT⟩ : ∃ T, T = zs ++ putL 0 n := ⟨_, rfl⟩
  rw [← hT] at c1 ⊢
  first | (have FRx := FR; clear FRx) | have FR := fr0
  have FA := Sm.mk (TFWiP)
  repeat' first | (apply Sm.mk; refine Ysn ?_) | refine WP.seq fun K hK => ?_ | (apply Ob.mk; exact Yo) | refine And.intro (Ob.out ?_) ?_ | refine Y1WiP ?_ | refine Yvn (c := c1) (r := ?_) | refine Yc (c := c1) (r := ?_) | refine YzWiP ?_ | (refine WP.cond rfl (fun hc => ?_) (fun hc => ?_) <;> (try simp only [ZC, reduceCtorEq, ZD] at hc) <;> (try exact absurd hc (by decide)) <;> (try (exfalso; omega))) | refine Rt.mk (And.intro (fun hg => Sm.out ?_) fun hg => Sm.out ?_) | (refine Nu.mk ?_; first | (fail_if_success have := nb1); intro nb1 | (fail_if_success have := nb2); intro nb2 | (fail_if_success have := nb3); intro nb3 | (fail_if_success have := nb4); intro nb4 | (fail_if_success have := nb5); intro nb5 | (fail_if_success have := nb6); intro nb6 | intro nbz) | (refine Fr.mk ?_; intro hfr; replace FR := And.intro hfr FR; clear hfr; refine Sm.out ?_) | refine Two.mk ?_ ?_ | (apply Yxc; exact Yx) | refine Cs.mk fun hcs => Sm.out ?_ | go_step | omega | (simp only [maxLen_eq]; omega) | exact trivial | refine Or.inr (Rt.mk (And.intro (fun hg => Sm.out ?_) fun hg => Sm.out ?_))
  (refine OutQ.row (by simp only [resv, ZK, look, loadv, loadn, loadnm, load1, load1m, hget, ↓reduceIte, Nat.reduceEqDiff, Nat.reduceAdd, Nat.reduceMul, Nat.reduceLeDiff, Nat.reduceLT, reduceCtorEq, TFWiP, FR]) (by simp only [resv, resA, ZK, look, loadv, loadn, loadnm, load1, load1m, hget, ↓reduceIte, Nat.reduceEqDiff, Nat.reduceAdd, Nat.reduceMul, Nat.reduceLeDiff, Nat.reduceLT, reduceCtorEq, TFWiP, FR]; first | done | rfl) (by simp only [hget, ↓reduceIte, if_true, if_false, FR]; first | done | rfl) ?_ ?_ ?_ ?_ <;> first | omega | (simp only [maxLen_eq]; omega) | skip)
  all_goals rfl
def intL (i : Int) : List Int := if i < 0 then putL 16 (-i).toNat else putL 0 i.toNat
set_option maxRecDepth 8000 in
theorem int_ct (b0 cap0 : Nat) (zs : List Int) (i : Int) (hz : zs.length ≤ 100000) (hc1 : zs.length ≤ cap0) (hc2 : cap0 ≤ 9223372036854775807) (h1 : -9223372036854775808 ≤ i) (h2 : i ≤ 9223372036854775807) :
    ACt Tryd.prog 49 [ms b0 0 zs.length cap0, iv .i64 i] [(b0, .zs .u8 zs cap0 5)] (Row .u8 5 (zs ++ intL i)) := by
  refine ACt.intro Tryd.func49 rfl (by kernel_rfl) (by simp [Tryd.ntmps49]) (fun cx => ?_)
  simp only [argE, Tryd.ntmps49, Tryd.results49]
  unfold intL
  by_cases h : i < 0
  · obtain ⟨m, hm⟩ := Int.eq_ofNat_of_zero_le (show 0 ≤ -i by omega)
    have k : decide (i < 0) = true := decide_eq_true h
    have e : IntKind.u64.wrap (0 - IntKind.u64.wrap i) = (m : Int) := by rw [wrap_u64_mod, wrap_u64_mod]; omega
    have c1 := put_ct b0 cap0 zs 16 m hz hc1 hc2 (by omega)
    rw [if_pos h, hm, Int.toNat_natCast]
    obtain ⟨T, hT⟩ : ∃ T, T = zs ++ putL 16 m := ⟨_, rfl⟩
    rw [← hT] at c1 ⊢
    first | (have FRx := FR; clear FRx) | have FR := fr0
    have FA := Sm.mk (And.intro TFWiP (And.intro k e))
    repeat' first | (apply Sm.mk; refine Ysn ?_) | refine WP.seq fun K hK => ?_ | (apply Ob.mk; exact Yo) | refine And.intro (Ob.out ?_) ?_ | refine Y1WiP ?_ | refine Yvn (c := c1) (r := ?_) | refine Yc (c := c1) (r := ?_) | refine YzWiP ?_ | (refine WP.cond rfl (fun hc => ?_) (fun hc => ?_) <;> (try simp only [ZC, reduceCtorEq, ZD] at hc) <;> (try exact absurd hc (by decide)) <;> (try (exfalso; omega))) | refine Rt.mk (And.intro (fun hg => Sm.out ?_) fun hg => Sm.out ?_) | (refine Nu.mk ?_; first | (fail_if_success have := nb1); intro nb1 | (fail_if_success have := nb2); intro nb2 | (fail_if_success have := nb3); intro nb3 | (fail_if_success have := nb4); intro nb4 | (fail_if_success have := nb5); intro nb5 | (fail_if_success have := nb6); intro nb6 | intro nbz) | (refine Fr.mk ?_; intro hfr; replace FR := And.intro hfr FR; clear hfr; refine Sm.out ?_) | refine Two.mk ?_ ?_ | (apply Yxc; exact Yx) | refine Cs.mk fun hcs => Sm.out ?_ | go_step | omega | (simp only [maxLen_eq]; omega) | exact trivial | refine Or.inr (Rt.mk (And.intro (fun hg => Sm.out ?_) fun hg => Sm.out ?_))
    (refine OutQ.row (by simp only [resv, ZK, look, loadv, loadn, loadnm, load1, load1m, hget, ↓reduceIte, Nat.reduceEqDiff, Nat.reduceAdd, Nat.reduceMul, Nat.reduceLeDiff, Nat.reduceLT, reduceCtorEq, TFWiP, FR]) (by simp only [resv, resA, ZK, look, loadv, loadn, loadnm, load1, load1m, hget, ↓reduceIte, Nat.reduceEqDiff, Nat.reduceAdd, Nat.reduceMul, Nat.reduceLeDiff, Nat.reduceLT, reduceCtorEq, TFWiP, FR]; first | done | rfl) (by simp only [hget, ↓reduceIte, if_true, if_false, FR]; first | done | rfl) ?_ ?_ ?_ ?_ <;> first | omega | (simp only [maxLen_eq]; omega) | skip)
    all_goals rfl
  · obtain ⟨m, hm⟩ := Int.eq_ofNat_of_zero_le (show 0 ≤ i by omega)
    subst hm
    have k : decide ((m : Int) < 0) = false := decide_eq_false h
    have e : IntKind.u64.wrap (m : Int) = (m : Int) := wrap_u64_nat (by omega)
    have c1 := put_ct b0 cap0 zs 0 m hz hc1 hc2 (by omega)
    rw [if_neg h, Int.toNat_natCast]
    obtain ⟨T, hT⟩ : ∃ T, T = zs ++ putL 0 m := ⟨_, rfl⟩
    rw [← hT] at c1 ⊢
    first | (have FRx := FR; clear FRx) | have FR := fr0
    have FA := Sm.mk (And.intro TFWiP (And.intro k e))
    repeat' first | (apply Sm.mk; refine Ysn ?_) | refine WP.seq fun K hK => ?_ | (apply Ob.mk; exact Yo) | refine And.intro (Ob.out ?_) ?_ | refine Y1WiP ?_ | refine Yvn (c := c1) (r := ?_) | refine Yc (c := c1) (r := ?_) | refine YzWiP ?_ | (refine WP.cond rfl (fun hc => ?_) (fun hc => ?_) <;> (try simp only [ZC, reduceCtorEq, ZD] at hc) <;> (try exact absurd hc (by decide)) <;> (try (exfalso; omega))) | refine Rt.mk (And.intro (fun hg => Sm.out ?_) fun hg => Sm.out ?_) | (refine Nu.mk ?_; first | (fail_if_success have := nb1); intro nb1 | (fail_if_success have := nb2); intro nb2 | (fail_if_success have := nb3); intro nb3 | (fail_if_success have := nb4); intro nb4 | (fail_if_success have := nb5); intro nb5 | (fail_if_success have := nb6); intro nb6 | intro nbz) | (refine Fr.mk ?_; intro hfr; replace FR := And.intro hfr FR; clear hfr; refine Sm.out ?_) | refine Two.mk ?_ ?_ | (apply Yxc; exact Yx) | refine Cs.mk fun hcs => Sm.out ?_ | go_step | omega | (simp only [maxLen_eq]; omega) | exact trivial | refine Or.inr (Rt.mk (And.intro (fun hg => Sm.out ?_) fun hg => Sm.out ?_))
    (refine OutQ.row (by simp only [resv, ZK, look, loadv, loadn, loadnm, load1, load1m, hget, ↓reduceIte, Nat.reduceEqDiff, Nat.reduceAdd, Nat.reduceMul, Nat.reduceLeDiff, Nat.reduceLT, reduceCtorEq, TFWiP, FR]) (by simp only [resv, resA, ZK, look, loadv, loadn, loadnm, load1, load1m, hget, ↓reduceIte, Nat.reduceEqDiff, Nat.reduceAdd, Nat.reduceMul, Nat.reduceLeDiff, Nat.reduceLT, reduceCtorEq, TFWiP, FR]; first | done | rfl) (by simp only [hget, ↓reduceIte, if_true, if_false, FR]; first | done | rfl) ?_ ?_ ?_ ?_ <;> first | omega | (simp only [maxLen_eq]; omega) | skip)
    all_goals rfl
def strL (s : ByteArray) : List Int := s.data.toList.map fun b => (b.toNat : Int)
theorem strL_len (s : ByteArray) : (strL s).length = s.size := by simp [strL]
set_option maxRecDepth 8000 in
theorem text_ct (b0 cap0 : Nat) (zs : List Int) (s : ByteArray) (hz : zs.length ≤ 10000) (hc1 : zs.length ≤ cap0) (hc2 : cap0 ≤ 9223372036854775807) (hs : s.size ≤ 10000) :
    ACt Tryd.prog 48 [ms b0 0 zs.length cap0, .lit (.string s)] [(b0, .zs .u8 zs cap0 5)] (Row .u8 5 (zs ++ putL 0 s.size ++ strL s)) := by
  refine ACt.intro Tryd.func48 rfl (by kernel_rfl) (by simp [Tryd.ntmps48]) (fun cx => ?_)
  simp only [argE, Tryd.ntmps48, Tryd.results48]
  have e : IntKind.u64.wrap (s.size : Int) = (s.size : Int) := wrap_u64_nat (by omega)
  have c1 := num_ct b0 cap0 zs s.size (by omega) hc1 hc2 (by omega)
  have hl := putL_len 0 s.size (by omega)
  have hl2 : (zs ++ putL 0 s.size).length ≤ 10009 := by simp; omega
  obtain ⟨T, hT⟩ : ∃ T, T = zs ++ putL 0 s.size := ⟨_, rfl⟩
  rw [← hT] at c1 hl2 ⊢
  have hs2 : s.data.toList.map (fun b => (b.toNat : Int)) = strL s := rfl
  have hs3 := strL_len s
  obtain ⟨V, hV⟩ : ∃ V, V = T ++ strL s := ⟨_, rfl⟩
  have lV : V.length = T.length + s.size := by rw [hV]; simp [strL_len]
  have hV' : T ++ strL s = V := hV.symm
  rw [hV']
  first | (have FRx := FR; clear FRx) | have FR := fr0
  have FA := Sm.mk (And.intro TFWiP (And.intro e (And.intro hs2 (And.intro hs3 hV'))))
  repeat' first | (apply Sm.mk; refine Ysn ?_) | refine WP.seq fun K hK => ?_ | (apply Ob.mk; exact Yo) | refine And.intro (Ob.out ?_) ?_ | refine Y1WiP ?_ | refine Yvn (c := c1) (r := ?_) | refine Yc (c := c1) (r := ?_) | refine YzWiP ?_ | (refine WP.cond rfl (fun hc => ?_) (fun hc => ?_) <;> (try simp only [ZC, reduceCtorEq, ZD] at hc) <;> (try exact absurd hc (by decide)) <;> (try (exfalso; omega))) | refine Rt.mk (And.intro (fun hg => Sm.out ?_) fun hg => Sm.out ?_) | (refine Nu.mk ?_; first | (fail_if_success have := nb1); intro nb1 | (fail_if_success have := nb2); intro nb2 | (fail_if_success have := nb3); intro nb3 | (fail_if_success have := nb4); intro nb4 | (fail_if_success have := nb5); intro nb5 | (fail_if_success have := nb6); intro nb6 | intro nbz) | (refine Fr.mk ?_; intro hfr; replace FR := And.intro hfr FR; clear hfr; refine Sm.out ?_) | refine Two.mk ?_ ?_ | (apply Yxc; exact Yx) | refine Cs.mk fun hcs => Sm.out ?_ | go_step | omega | (simp only [maxLen_eq]; omega) | exact trivial | refine Or.inr (Rt.mk (And.intro (fun hg => Sm.out ?_) fun hg => Sm.out ?_))
  (refine OutQ.row (by simp only [resv, ZK, look, loadv, loadn, loadnm, load1, load1m, hget, ↓reduceIte, Nat.reduceEqDiff, Nat.reduceAdd, Nat.reduceMul, Nat.reduceLeDiff, Nat.reduceLT, reduceCtorEq, TFWiP, FR]) (by simp only [resv, resA, ZK, look, loadv, loadn, loadnm, load1, load1m, hget, ↓reduceIte, Nat.reduceEqDiff, Nat.reduceAdd, Nat.reduceMul, Nat.reduceLeDiff, Nat.reduceLT, reduceCtorEq, TFWiP, FR]; first | done | rfl) (by simp only [hget, ↓reduceIte, if_true, if_false, FR]; first | done | rfl) ?_ ?_ ?_ ?_ <;> first | omega | (simp only [maxLen_eq]; omega) | skip)
  all_goals first | omega | rfl | (rw [lV]; done)
def TFWiQ :=
  And.intro (And.intro (And.intro (And.intro tyc0 (And.intro tyc2 zmb2)) (And.intro tyc3 (And.intro zmb3 tyc4))) (And.intro (And.intro zmb4 (And.intro tyc5 zmb5)) (And.intro (And.intro tyc9 zmb9) (And.intro tyc23 zmb23)))) (And.intro (And.intro (And.intro tyc47 (And.intro elt47 mkz47)) (And.intro (And.intro apT47 elk47) (And.intro zmb47 Tryd.underlying0))) (And.intro (And.intro Tryd.underlying2 (And.intro Tryd.underlying3 Tryd.underlying4)) (And.intro (And.intro Tryd.underlying5 Tryd.underlying9) (And.intro Tryd.underlying23 Tryd.underlying47))))
theorem Y1WiQ {G R : Prop} (r : R) (h : R → G := by intro r; first | (apply WP.region; exact rvc_sound _ _ (Sm.out r)) | exact WP.drawK rfl mixed (by decide +kernel) (Sm.out r) | (apply WP.block; exact r) | (apply WP.skip; exact Yq r) | (apply WP.exit; exact Yq r) | (apply WP.ret; exact Sm.out r) | exact WP.cond rfl (fun _ => r) (fun hg => absurd hg (by decide)) | exact WP.cond rfl (fun hg => absurd hg (by decide)) (fun _ => r) | exact Rt.mk (And.intro (fun _ => Sm.out r) fun hg => absurd hg (by decide)) | exact Rt.mk (And.intro (fun hg => absurd hg (by decide)) fun _ => Sm.out r)) : G := h r
theorem YzWiQ {G R : Prop} (r : R) (h : R → G := by intro r; first | (apply ExG.no; exact Sm.out r) | (apply Or.inl; apply ExG.no; exact Sm.out r) | exact Or.inl (And.intro (fun hg => absurd hg (by decide)) (ExG.no (Sm.out r)))) : G := h r
theorem YsWiQ0 {P Q : Prop} (q : Q) (h : P = Q := by (try (conv => lhs; simp -dsimp only [ZK, rvc, capA, appA, litL, mkfv, drawF, headN, pureH, stp, dvc, calleeOf, gcall, pev, eff, newB, okd, og, ogs, ogo, ogp, slv, bltv, opd, litv, strip, one, both, putE, St.put, look, gdOf, gdv, picka, pickv, pickw, binv, bini, bins, binb, binp, binq, isSlT, bina, shp, eqCells, unv, convv, nilv, faddv, addp, idxav, idxp, load1, load1m, loadn, loadnm, loadv, hget, hset, hrep, hdel, slicev, slice3v, bnd, shift1, lenv, capv, IntKind.bits, extractv, fieldv, indexv, min2v, max2v, mkiv, tasv, tasz, cellsA, fillA, buildv, stC, oneC, rowMB, intsA, plN, appE, appZ, appC, appS, srcB, appNZ, appNC, VwL, srcC, srcZ, srcM, isBoolT, isPtrT, isSliceT, uOk, Value.oneCell', Nat.reducePow, Int.reducePow, Nat.reduceAdd, Nat.reduceMul, Nat.reduceSub, Nat.reduceLT, Nat.reduceLeDiff, Nat.reduceEqDiff, Nat.reduceBEq, Nat.reduceDiv, Nat.reduceMod, ↓reduceIte, reduceCtorEq, Int.reduceToNat, Int.reduceLT, Int.reduceLE, TFWiQ, SeqQ, BlkQ, LoopQ, BodyQ, List.singleton_append, FA.out, FR])) <;> exact rfl) : P := h.mpr q
theorem size_le {n j : Nat} : (lenN n + 7) / 8 ≤ j ↔ n < 256 ^ j := by
  rw [show (256 : Nat) = 2 ^ 8 from rfl, ← Nat.pow_mul, ← lenN_le]; omega
theorem or0 : ∀ k : Nat, k < 9 → ibit .or .u8 0 (k : Int) = (k : Int) := by decide +kernel
theorem or16 : ∀ k : Nat, k < 9 → ibit .or .u8 16 (k : Int) = 16 + (k : Int) := by decide +kernel
structure NG where
  j : Nat
  b : Nat
  cap : Nat
set_option maxRecDepth 8000 in
set_option maxHeartbeats 1000000 in
theorem refNum_ct (n : Nat) (hn : n < 18446744073709551616) : ACt Tryd.prog 75 [nu n] [] (Row .u8 5 (putL 0 n)) := by
  refine ACt.intro Tryd.func75 rfl (by kernel_rfl) (by simp [Tryd.ntmps75]) (fun cx => ?_)
  simp only [argE, Tryd.ntmps75, Tryd.results75]
  have h1 : lenN n ≤ 64 := lenN_le.2 hn
  obtain ⟨kk, hkk⟩ : ∃ kk, kk = (lenN n + 7) / 8 := ⟨_, rfl⟩
  have hkk8 : kk ≤ 8 := by omega
  have hp : putL 0 n = (kk : Int) :: byteL n kk := by unfold putL; rw [← hkk, or0 kk (by omega)]
  first | (have FRx := FR; clear FRx) | have FR := fr0
  have FA := Sm.mk (TFWiQ)
  repeat' first | (apply Sm.mk; refine Ysn ?_) | refine WP.seq fun K hK => ?_ | (apply Ob.mk; exact Yo) | refine And.intro (Ob.out ?_) ?_ | refine Y1WiQ ?_ | refine YzWiQ ?_ | (refine WP.cond rfl (fun hc => ?_) (fun hc => ?_) <;> (try simp only [ZC, reduceCtorEq, ZD] at hc) <;> (try exact absurd hc (by decide)) <;> (try (exfalso; omega))) | refine Rt.mk (And.intro (fun hg => Sm.out ?_) fun hg => Sm.out ?_) | (refine Nu.mk ?_; first | (fail_if_success have := nb1); intro nb1 | (fail_if_success have := nb2); intro nb2 | (fail_if_success have := nb3); intro nb3 | (fail_if_success have := nb4); intro nb4 | intro nbz) | (refine Fr.mk ?_; intro hfr; replace FR := And.intro hfr FR; clear hfr; refine Sm.out ?_) | refine Two.mk ?_ ?_ | (apply Yxc; exact Yx) | refine Cs.mk fun hcs => Sm.out ?_ | go_step | omega | (simp only [maxLen_eq]; omega) | exact trivial | refine Or.inr (Rt.mk (And.intro (fun hg => Sm.out ?_) fun hg => Sm.out ?_))
  refine WP.loop (Γ := NG) (fun g => ⟨[(0, nu (n / 256 ^ g.j)), (3, ms g.b 0 g.j g.cap)], [(g.b, .zs .u8 (byteL n g.j) g.cap 5)]⟩)
    (fun g => g.j ≤ kk ∧ g.j ≤ g.cap ∧ g.cap ≤ 9223372036854775807) (fun g => kk - g.j) ⟨0, nb1, 0⟩
    ⟨by simp, by simp, by simp⟩ (Sub.pick (by simp [pickB, hget, hdel, FR, byteL]) (by simp [look, byteL])) ?_
  intro ⟨j, b, cap⟩ ⟨g1, g2, g3⟩
  simp only at g1 g2 g3 ⊢
  (refine WP.nd fun hnd => ?_; simp only [ndF, fresh_cons, fresh_nil, and_true, ne_eq] at hnd; replace FR := And.intro hnd FR; clear hnd)
  have hlj := byteL_len n j
  have hle : n / 256 ^ j ≤ n := Nat.div_le_self _ _
  by_cases hj : j < kk
  · have hpos : 0 < n / 256 ^ j := by
      have : ¬ (lenN n + 7) / 8 ≤ j := by omega
      rw [size_le] at this
      exact Nat.div_pos (by omega) (Nat.pow_pos (by omega))
    have k1 : decide (((n / 256 ^ j : Nat) : Int) > 0) = true := decide_eq_true (by omega)
    obtain ⟨q, hq⟩ : ∃ q, q = n / 256 ^ j := ⟨_, rfl⟩
    have hnx : byteL n (j + 1) = ((q % 256 : Nat) : Int) :: byteL n j := by rw [byteL, ← hq]
    have hdq : n / 256 ^ (j + 1) = q / 256 := by rw [hq, Nat.pow_succ, Nat.div_div_eq_div_mul]
    rw [← hq] at k1 hle ⊢
    have e1 : (q : Int).tmod 256 = ((q % 256 : Nat) : Int) := by rw [Int.tmod_eq_emod_of_nonneg (by omega)]; simp
    have e2 : IntKind.u64.wrap ((q % 256 : Nat) : Int) = ((q % 256 : Nat) : Int) := wrap_u64_nat (by omega)
    have e3 : IntKind.u8.wrap ((q % 256 : Nat) : Int) = ((q % 256 : Nat) : Int) := wrap_u8 (by omega) (by omega)
    have e4 : (q : Int).tdiv 256 = ((q / 256 : Nat) : Int) := by rw [Int.tdiv_eq_ediv_of_nonneg (by omega)]; simp
    have e5 : IntKind.u64.wrap ((q / 256 : Nat) : Int) = ((q / 256 : Nat) : Int) := wrap_u64_nat (by omega)
    obtain ⟨L, hL⟩ : ∃ L, L = byteL n j := ⟨_, rfl⟩
    rw [← hL] at hlj hnx ⊢
    have e6 : L.take j = L := List.take_of_length_le (by omega)
    have q0 : 0 + j ≤ j := by omega
    have q1 : 1 + j = j + 1 := by omega
    first | (have FRx := FR; clear FRx) | have FR := fr0
    have FA := Sm.mk (And.intro TFWiQ (And.intro k1 (And.intro e1 (And.intro e2 (And.intro e3 (And.intro e4 (And.intro e5 (And.intro e6 hlj))))))))
    repeat' first | (apply Sm.mk; refine YsWiQ0 ?_) | refine WP.seq fun K hK => ?_ | (apply Ob.mk; exact Yo) | refine And.intro (Ob.out ?_) ?_ | refine Y1WiQ ?_ | refine YzWiQ ?_ | (refine WP.cond rfl (fun hc => ?_) (fun hc => ?_) <;> (try simp only [ZC, reduceCtorEq, ZD] at hc) <;> (try exact absurd hc (by decide)) <;> (try (exfalso; omega))) | refine Rt.mk (And.intro (fun hg => Sm.out ?_) fun hg => Sm.out ?_) | (refine Nu.mk ?_; first | (fail_if_success have := nb1); intro nb1 | (fail_if_success have := nb2); intro nb2 | (fail_if_success have := nb3); intro nb3 | (fail_if_success have := nb4); intro nb4 | intro nbz) | (refine Fr.mk ?_; intro hfr; replace FR := And.intro hfr FR; clear hfr; refine Sm.out ?_) | refine Two.mk ?_ ?_ | (apply Yxc; exact Yx) | refine Cs.mk fun hcs => Sm.out ?_ | go_step | omega | (simp only [maxLen_eq]; omega) | exact trivial | refine Or.inr (Rt.mk (And.intro (fun hg => Sm.out ?_) fun hg => Sm.out ?_))
    exact ⟨⟨j + 1, nb3, nb4⟩, ⟨by simp only; omega, by simp only; omega, by simp only; omega⟩, by simp only; omega, (Sub.pick (by simp [pickB, hget, hdel, FR, hdq, hnx, q1]) (by simp [look, hdq, hnx, q1]))⟩
  · obtain rfl : j = kk := by omega
    have hz : n / 256 ^ j = 0 := by
      have := size_le.1 (Nat.le_of_eq hkk.symm)
      exact Nat.div_eq_of_lt this
    have k1 : decide (((n / 256 ^ j : Nat) : Int) > 0) = false := by rw [hz]; rfl
    obtain ⟨L, hL⟩ : ∃ L, L = byteL n j := ⟨_, rfl⟩
    rw [← hL] at hlj hp ⊢
    have e6 : L.take j = L := List.take_of_length_le (by omega)
    have w1 : IntKind.u8.wrap (j : Int) = (j : Int) := wrap_u8 (by omega) (by omega)
    have lp : (putL 0 n).length = 1 + j := by rw [hp]; simp [hlj]; omega
    first | (have FRx := FR; clear FRx) | have FR := fr0
    have FA := Sm.mk (And.intro TFWiQ (And.intro k1 (And.intro e6 (And.intro w1 hlj))))
    repeat' first | (apply Sm.mk; refine YsWiQ0 ?_) | refine WP.seq fun K hK => ?_ | (apply Ob.mk; exact Yo) | refine And.intro (Ob.out ?_) ?_ | refine Y1WiQ ?_ | refine YzWiQ ?_ | (refine WP.cond rfl (fun hc => ?_) (fun hc => ?_) <;> (try simp only [ZC, reduceCtorEq, ZD] at hc) <;> (try exact absurd hc (by decide)) <;> (try (exfalso; omega))) | refine Rt.mk (And.intro (fun hg => Sm.out ?_) fun hg => Sm.out ?_) | (refine Nu.mk ?_; first | (fail_if_success have := nb1); intro nb1 | (fail_if_success have := nb2); intro nb2 | (fail_if_success have := nb3); intro nb3 | (fail_if_success have := nb4); intro nb4 | intro nbz) | (refine Fr.mk ?_; intro hfr; replace FR := And.intro hfr FR; clear hfr; refine Sm.out ?_) | refine Two.mk ?_ ?_ | (apply Yxc; exact Yx) | refine Cs.mk fun hcs => Sm.out ?_ | go_step | omega | (simp only [maxLen_eq]; omega) | exact trivial | refine Or.inr (Rt.mk (And.intro (fun hg => Sm.out ?_) fun hg => Sm.out ?_))
    (refine OutQ.row (by simp only [resv, ZK, look, loadv, loadn, loadnm, load1, load1m, hget, ↓reduceIte, Nat.reduceEqDiff, Nat.reduceAdd, Nat.reduceMul, Nat.reduceLeDiff, Nat.reduceLT, reduceCtorEq, TFWiQ, FR]) (by simp only [resv, resA, ZK, look, loadv, loadn, loadnm, load1, load1m, hget, ↓reduceIte, Nat.reduceEqDiff, Nat.reduceAdd, Nat.reduceMul, Nat.reduceLeDiff, Nat.reduceLT, reduceCtorEq, TFWiQ, FR]; first | done | rfl) (by simp only [hget, ↓reduceIte, if_true, if_false, FR]; first | done | rfl) ?_ ?_ ?_ ?_ <;> first | omega | (simp only [maxLen_eq]; omega) | skip)
    all_goals first | omega | (rw [hp]; done) | (rw [lp]; done) | (simp [hp, hlj]; done) | (simp [hp, hlj]; omega)
set_option maxRecDepth 8000 in
theorem refInt_ct (i : Int) (h1 : -9223372036854775808 ≤ i) (h2 : i ≤ 9223372036854775807) : ACt Tryd.prog 54 [iv .i64 i] [] (Row .u8 5 (intL i)) := by
  refine ACt.intro Tryd.func54 rfl (by kernel_rfl) (by simp [Tryd.ntmps54]) (fun cx => ?_)
  simp only [argE, Tryd.ntmps54, Tryd.results54]
  unfold intL
  by_cases h : i < 0
  · obtain ⟨m, hm⟩ := Int.eq_ofNat_of_zero_le (show 0 ≤ -i by omega)
    have k : decide (i ≥ 0) = false := decide_eq_false (by omega)
    have e : IntKind.u64.wrap (0 - IntKind.u64.wrap i) = (m : Int) := by rw [wrap_u64_mod, wrap_u64_mod]; omega
    have c1 := refNum_ct m (by omega)
    rw [if_pos h, hm, Int.toNat_natCast]
    have hl : lenN m ≤ 64 := lenN_le.2 (by omega)
    obtain ⟨kk, hkk⟩ : ∃ kk, kk = (lenN m + 7) / 8 := ⟨_, rfl⟩
    have hkk8 : kk ≤ 8 := by omega
    have hp0 : putL 0 m = (kk : Int) :: byteL m kk := by unfold putL; rw [← hkk, or0 kk (by omega)]
    have hp16 : putL 16 m = (16 + (kk : Int)) :: byteL m kk := by unfold putL; rw [← hkk, or16 kk (by omega)]
    obtain ⟨T, hT⟩ : ∃ T, T = putL 0 m := ⟨_, rfl⟩
    obtain ⟨V, hV⟩ : ∃ V, V = putL 16 m := ⟨_, rfl⟩
    rw [← hT] at c1
    have lT : T.length = kk + 1 := by rw [hT, hp0]; simp [byteL_len]
    have lV : V.length = kk + 1 := by rw [hV, hp16]; simp [byteL_len]
    have g0 : T.getD 0 0 = (kk : Int) := by rw [hT, hp0]; rfl
    have e2 : IntKind.u8.wrap ((kk : Int) + 16) = 16 + (kk : Int) := by rw [wrap_u8 (by omega) (by omega)]; omega
    have hstt : T.set 0 (16 + (kk : Int)) = V := by rw [hT, hp0, hV, hp16]; rfl
    have q : 0 < T.length := by omega
    rw [← hV]
    first | (have FRx := FR; clear FRx) | have FR := fr0
    have FA := Sm.mk (And.intro TFWiQ (And.intro k (And.intro e (And.intro g0 (And.intro e2 (And.intro hstt q))))))
    repeat' first | (apply Sm.mk; refine Ysn ?_) | refine WP.seq fun K hK => ?_ | (apply Ob.mk; exact Yo) | refine And.intro (Ob.out ?_) ?_ | refine Y1WiQ ?_ | refine Yvn (c := c1) (r := ?_) | refine Yc (c := c1) (r := ?_) | refine YzWiQ ?_ | (refine WP.cond rfl (fun hc => ?_) (fun hc => ?_) <;> (try simp only [ZC, reduceCtorEq, ZD] at hc) <;> (try exact absurd hc (by decide)) <;> (try (exfalso; omega))) | refine Rt.mk (And.intro (fun hg => Sm.out ?_) fun hg => Sm.out ?_) | (refine Nu.mk ?_; first | (fail_if_success have := nb1); intro nb1 | (fail_if_success have := nb2); intro nb2 | (fail_if_success have := nb3); intro nb3 | (fail_if_success have := nb4); intro nb4 | intro nbz) | (refine Fr.mk ?_; intro hfr; replace FR := And.intro hfr FR; clear hfr; refine Sm.out ?_) | refine Two.mk ?_ ?_ | (apply Yxc; exact Yx) | refine Cs.mk fun hcs => Sm.out ?_ | go_step | omega | (simp only [maxLen_eq]; omega) | exact trivial | refine Or.inr (Rt.mk (And.intro (fun hg => Sm.out ?_) fun hg => Sm.out ?_))
    (refine OutQ.row (by simp only [resv, ZK, look, loadv, loadn, loadnm, load1, load1m, hget, ↓reduceIte, Nat.reduceEqDiff, Nat.reduceAdd, Nat.reduceMul, Nat.reduceLeDiff, Nat.reduceLT, reduceCtorEq, TFWiQ, FR]) (by simp only [resv, resA, ZK, look, loadv, loadn, loadnm, load1, load1m, hget, ↓reduceIte, Nat.reduceEqDiff, Nat.reduceAdd, Nat.reduceMul, Nat.reduceLeDiff, Nat.reduceLT, reduceCtorEq, TFWiQ, FR]; first | done | rfl) (by simp only [hget, ↓reduceIte, if_true, if_false, FR]; first | done | rfl) ?_ ?_ ?_ ?_ <;> first | omega | (simp only [maxLen_eq]; omega) | skip)
    all_goals first | omega | rfl | (rw [lT, lV]; done)
  · obtain ⟨m, hm⟩ := Int.eq_ofNat_of_zero_le (show 0 ≤ i by omega)
    subst hm
    have k : decide ((m : Int) ≥ 0) = true := decide_eq_true (by omega)
    have e : IntKind.u64.wrap (m : Int) = (m : Int) := wrap_u64_nat (by omega)
    have c1 := refNum_ct m (by omega)
    rw [if_neg h, Int.toNat_natCast]
    obtain ⟨T, hT⟩ : ∃ T, T = putL 0 m := ⟨_, rfl⟩
    rw [← hT] at c1 ⊢
    first | (have FRx := FR; clear FRx) | have FR := fr0
    have FA := Sm.mk (And.intro TFWiQ (And.intro k e))
    repeat' first | (apply Sm.mk; refine Ysn ?_) | refine WP.seq fun K hK => ?_ | (apply Ob.mk; exact Yo) | refine And.intro (Ob.out ?_) ?_ | refine Y1WiQ ?_ | refine Yvn (c := c1) (r := ?_) | refine Yc (c := c1) (r := ?_) | refine YzWiQ ?_ | (refine WP.cond rfl (fun hc => ?_) (fun hc => ?_) <;> (try simp only [ZC, reduceCtorEq, ZD] at hc) <;> (try exact absurd hc (by decide)) <;> (try (exfalso; omega))) | refine Rt.mk (And.intro (fun hg => Sm.out ?_) fun hg => Sm.out ?_) | (refine Nu.mk ?_; first | (fail_if_success have := nb1); intro nb1 | (fail_if_success have := nb2); intro nb2 | (fail_if_success have := nb3); intro nb3 | (fail_if_success have := nb4); intro nb4 | intro nbz) | (refine Fr.mk ?_; intro hfr; replace FR := And.intro hfr FR; clear hfr; refine Sm.out ?_) | refine Two.mk ?_ ?_ | (apply Yxc; exact Yx) | refine Cs.mk fun hcs => Sm.out ?_ | go_step | omega | (simp only [maxLen_eq]; omega) | exact trivial | refine Or.inr (Rt.mk (And.intro (fun hg => Sm.out ?_) fun hg => Sm.out ?_))
    (refine OutQ.row (by simp only [resv, ZK, look, loadv, loadn, loadnm, load1, load1m, hget, ↓reduceIte, Nat.reduceEqDiff, Nat.reduceAdd, Nat.reduceMul, Nat.reduceLeDiff, Nat.reduceLT, reduceCtorEq, TFWiQ, FR]) (by simp only [resv, resA, ZK, look, loadv, loadn, loadnm, load1, load1m, hget, ↓reduceIte, Nat.reduceEqDiff, Nat.reduceAdd, Nat.reduceMul, Nat.reduceLeDiff, Nat.reduceLT, reduceCtorEq, TFWiQ, FR]; first | done | rfl) (by simp only [hget, ↓reduceIte, if_true, if_false, FR]; first | done | rfl) ?_ ?_ ?_ ?_ <;> first | omega | (simp only [maxLen_eq]; omega) | skip)
    all_goals rfl
set_option maxRecDepth 8000 in
theorem refText_ct (s : ByteArray) (hs : s.size ≤ 10000) : ACt Tryd.prog 53 [.lit (.string s)] [] (Row .u8 5 (putL 0 s.size ++ strL s)) := by
  refine ACt.intro Tryd.func53 rfl (by kernel_rfl) (by simp [Tryd.ntmps53]) (fun cx => ?_)
  simp only [argE, Tryd.ntmps53, Tryd.results53]
  have e : IntKind.u64.wrap (s.size : Int) = (s.size : Int) := wrap_u64_nat (by omega)
  have c1 := refNum_ct s.size (by omega)
  have hl := putL_len 0 s.size (by omega)
  obtain ⟨T, hT⟩ : ∃ T, T = putL 0 s.size := ⟨_, rfl⟩
  rw [← hT] at c1 hl ⊢
  have hs2 : s.data.toList.map (fun b => (b.toNat : Int)) = strL s := rfl
  have hs3 := strL_len s
  obtain ⟨V, hV⟩ : ∃ V, V = T ++ strL s := ⟨_, rfl⟩
  have lV : V.length = T.length + s.size := by rw [hV]; simp [strL_len]
  have hV' : T ++ strL s = V := hV.symm
  rw [hV']
  first | (have FRx := FR; clear FRx) | have FR := fr0
  have FA := Sm.mk (And.intro TFWiQ (And.intro e (And.intro hs2 (And.intro hs3 hV'))))
  repeat' first | (apply Sm.mk; refine Ysn ?_) | refine WP.seq fun K hK => ?_ | (apply Ob.mk; exact Yo) | refine And.intro (Ob.out ?_) ?_ | refine Y1WiQ ?_ | refine Yvn (c := c1) (r := ?_) | refine Yc (c := c1) (r := ?_) | refine YzWiQ ?_ | (refine WP.cond rfl (fun hc => ?_) (fun hc => ?_) <;> (try simp only [ZC, reduceCtorEq, ZD] at hc) <;> (try exact absurd hc (by decide)) <;> (try (exfalso; omega))) | refine Rt.mk (And.intro (fun hg => Sm.out ?_) fun hg => Sm.out ?_) | (refine Nu.mk ?_; first | (fail_if_success have := nb1); intro nb1 | (fail_if_success have := nb2); intro nb2 | (fail_if_success have := nb3); intro nb3 | (fail_if_success have := nb4); intro nb4 | intro nbz) | (refine Fr.mk ?_; intro hfr; replace FR := And.intro hfr FR; clear hfr; refine Sm.out ?_) | refine Two.mk ?_ ?_ | (apply Yxc; exact Yx) | refine Cs.mk fun hcs => Sm.out ?_ | go_step | omega | (simp only [maxLen_eq]; omega) | exact trivial | refine Or.inr (Rt.mk (And.intro (fun hg => Sm.out ?_) fun hg => Sm.out ?_))
  (refine OutQ.row (by simp only [resv, ZK, look, loadv, loadn, loadnm, load1, load1m, hget, ↓reduceIte, Nat.reduceEqDiff, Nat.reduceAdd, Nat.reduceMul, Nat.reduceLeDiff, Nat.reduceLT, reduceCtorEq, TFWiQ, FR]) (by simp only [resv, resA, ZK, look, loadv, loadn, loadnm, load1, load1m, hget, ↓reduceIte, Nat.reduceEqDiff, Nat.reduceAdd, Nat.reduceMul, Nat.reduceLeDiff, Nat.reduceLT, reduceCtorEq, TFWiQ, FR]; first | done | rfl) (by simp only [hget, ↓reduceIte, if_true, if_false, FR]; first | done | rfl) ?_ ?_ ?_ ?_ <;> first | omega | (simp only [maxLen_eq]; omega) | skip)
  all_goals first | omega | rfl | (rw [lV]; done)
end Go.Proofs.YtaffbklkjjmmdaaDoor.Wi
