/-
  The walks and the laws that the statement leans on, part 45.
-/
import Derived.Test.YtmbecppmkglmhaaDoorC11
import Derived.Test.YtmbecppmkglmhaaDoorC43
import Derived.Test.YtmbecppmkglmhaaDoorC44
namespace Go.Proofs.YtmbecppmkglmhaaDoor
open Go Wi
set_option linter.unusedVariables false
set_option linter.unusedSimpArgs false
set_option linter.defProp false
def TFCfC :=
  And.intro (And.intro (And.intro (And.intro (And.intro (And.intro tyc0 tyc3) (And.intro zmb3 (And.intro tyc4 zmb4))) (And.intro (And.intro tyc5 zmb5) (And.intro tyc22 (And.intro elt22 mkz22)))) (And.intro (And.intro (And.intro apT22 elk22) (And.intro zmb22 (And.intro tyc32 zmb32))) (And.intro (And.intro tyc34 (And.intro foff34_0 fpart34_0)) (And.intro foff34_1 (And.intro fpart34_1 zmb34))))) (And.intro (And.intro (And.intro (And.intro bldT34 tyc37) (And.intro elt37 (And.intro mkz37 mkc37))) (And.intro (And.intro apT37 (And.intro elk37 zmb37)) (And.intro tyc39 (And.intro foff39_0 fpart39_0)))) (And.intro (And.intro (And.intro foff39_1 fpart39_1) (And.intro zmb39 (And.intro bldT39 tyc45))) (And.intro (And.intro mth45_50 (And.intro mth45_48 con45)) (And.intro zmb45 (And.intro tyc77 zmb77)))))) (And.intro (And.intro (And.intro (And.intro (And.intro tyc86 foff86_0) (And.intro fpart86_0 (And.intro foff86_1 fpart86_1))) (And.intro (And.intro foff86_2 fpart86_2) (And.intro foff86_3 (And.intro fpart86_3 foff86_4)))) (And.intro (And.intro (And.intro fpart86_4 foff86_5) (And.intro fpart86_5 (And.intro zmb86 bldT86))) (And.intro (And.intro tyc99 (And.intro foff99_0 fpart99_0)) (And.intro foff99_1 (And.intro fpart99_1 foff99_2))))) (And.intro (And.intro (And.intro (And.intro fpart99_2 foff99_3) (And.intro fpart99_3 (And.intro foff99_4 fpart99_4))) (And.intro (And.intro foff99_5 (And.intro fpart99_5 zmb99)) (And.intro bldT99 (And.intro Tryd.underlying0 Tryd.underlying3)))) (And.intro (And.intro (And.intro Tryd.underlying4 Tryd.underlying5) (And.intro Tryd.underlying22 (And.intro Tryd.underlying32 Tryd.underlying34))) (And.intro (And.intro Tryd.underlying37 (And.intro Tryd.underlying39 Tryd.underlying45)) (And.intro Tryd.underlying77 (And.intro Tryd.underlying86 Tryd.underlying99))))))
theorem Y1CfC {G R : Prop} (r : R) (h : R → G := by intro r; first | (apply WP.region; exact rvc_sound _ _ (Sm.out r)) | exact WP.drawK rfl mixed (by decide +kernel) (Sm.out r) | (apply WP.block; exact r) | (apply WP.skip; exact Yq r) | (apply WP.exit; exact Yq r) | (apply WP.ret; exact Sm.out r) | exact WP.cond rfl (fun _ => r) (fun hg => absurd hg (by decide)) | exact WP.cond rfl (fun hg => absurd hg (by decide)) (fun _ => r) | exact Rt.mk (And.intro (fun _ => Sm.out r) fun hg => absurd hg (by decide)) | exact Rt.mk (And.intro (fun hg => absurd hg (by decide)) fun _ => Sm.out r)) : G := h r
theorem YzCfC {G R : Prop} (r : R) (h : R → G := by intro r; first | (apply ExG.no; exact Sm.out r) | (apply Or.inl; apply ExG.no; exact Sm.out r) | exact Or.inl (And.intro (fun hg => absurd hg (by decide)) (ExG.no (Sm.out r)))) : G := h r
set_option maxRecDepth 20000 in
theorem bcl_nil : ACt Tryd.prog 52 [nl] [] (Fn (.slz .u8 [])) := by
  refine ACt.intro Tryd.func52 rfl (by kernel_rfl) (by simp [Tryd.ntmps52]) (fun cx => ?_)
  simp only [argE, Tryd.ntmps52, Tryd.results52]
  first | (have FRx := FR; clear FRx) | have FR := fr0S
  have FA := Sm.mk (TFCfC)
  repeat' first | (apply Sm.mk; refine Ys ?_) | refine WP.seq fun K hK => ?_ | (apply Ob.mk; exact Yo) | refine And.intro (Ob.out ?_) ?_ | refine Y1CfC ?_ | refine YzCfC ?_ | (refine WP.cond rfl (fun hc => ?_) (fun hc => ?_) <;> (try simp only [ZC, reduceCtorEq, ZD] at hc) <;> (try exact absurd hc (by decide)) <;> (try (exfalso; omega))) | refine Rt.mk (And.intro (fun hg => Sm.out ?_) fun hg => Sm.out ?_) | (refine Nu.mk ?_; first | (fail_if_success have := nb1); intro nb1 | (fail_if_success have := nb2); intro nb2 | (fail_if_success have := nb3); intro nb3 | (fail_if_success have := nb4); intro nb4 | (fail_if_success have := nb5); intro nb5 | (fail_if_success have := nb6); intro nb6 | intro nbz) | (apply Yfr; refine Yf FR fun hFRb FR => ?_) | refine Two.mk ?_ ?_ | (apply Yxc; exact Yx) | refine Cs.mk fun hcs => Sm.out ?_ | go_step | omega | (simp only [maxLen_eq]; omega) | exact trivial
  (refine OutQ.wk (Wk.cons (i := 2) (by simp only [look, ↓reduceIte, Nat.reduceEqDiff]; first | done | rfl) (fun w I v h => Rep.nilz (k := .u8) h)) ?_)
  (refine Yg ?_; try exact trivial)
set_option maxRecDepth 20000 in
theorem slbytes_ct (y b f m : Nat) (e : Nat × List Int) (h0 : e.1 = 0 → e.2 = []) (h : e.2.length ≤ 1000000) : ACt Tryd.prog 62 [pt y 0] [(y, slM b f m e)] (fun r F' => r = .slz .u8 e.2 ∧ F' = [(y, slM b f m e)]) := by
  by_cases hz : e.1 = 0
  · have hw : slW e = nl := by unfold slW; rw [if_pos hz]
    have c := bcl_nil
    rw [h0 hz]
    unfold slM
    rw [hw]
    refine ACt.intro Tryd.func62 rfl (by kernel_rfl) (by simp [Tryd.ntmps62]) (fun cx => ?_)
    simp only [argE, Tryd.ntmps62, Tryd.results62]
    first | (have FRx := FR; clear FRx) | have FR := fr0S
    have FA := Sm.mk (TFCfC)
    repeat' first | (apply Sm.mk; refine Ys ?_) | refine WP.seq fun K hK => ?_ | (apply Ob.mk; exact Yo) | refine And.intro (Ob.out ?_) ?_ | refine Y1CfC ?_ | refine Yc (c := c) (r := ?_) | refine YzCfC ?_ | (refine WP.cond rfl (fun hc => ?_) (fun hc => ?_) <;> (try simp only [ZC, reduceCtorEq, ZD] at hc) <;> (try exact absurd hc (by decide)) <;> (try (exfalso; omega))) | refine Rt.mk (And.intro (fun hg => Sm.out ?_) fun hg => Sm.out ?_) | (refine Nu.mk ?_; first | (fail_if_success have := nb1); intro nb1 | (fail_if_success have := nb2); intro nb2 | (fail_if_success have := nb3); intro nb3 | (fail_if_success have := nb4); intro nb4 | (fail_if_success have := nb5); intro nb5 | (fail_if_success have := nb6); intro nb6 | intro nbz) | (apply Yfr; refine Yf FR fun hFRb FR => ?_) | refine Two.mk ?_ ?_ | (apply Yxc; exact Yx) | refine Cs.mk fun hcs => Sm.out ?_ | go_step | omega | (simp only [maxLen_eq]; omega) | exact trivial
    (refine OutQ.upd (by simp only [resv, ZK, look, loadv, loadn, loadnm, load1, load1m, hget, ↓reduceIte, Nat.reduceEqDiff, Nat.reduceAdd, Nat.reduceMul, Nat.reduceLeDiff, Nat.reduceLT, reduceCtorEq, TFCfC, FR.out]) (by simp only [resv, resA, ZK, look, loadv, loadn, loadnm, load1, load1m, hget, ↓reduceIte, Nat.reduceEqDiff, Nat.reduceAdd, Nat.reduceMul, Nat.reduceLeDiff, Nat.reduceLT, reduceCtorEq, TFCfC, FR.out]; first | done | rfl) (by simp only [hget, ↓reduceIte, if_true, if_false, FR.out]; first | done | rfl) ?_ <;> first | exact rfl | (simp only [ZK, look, loadv, loadn, loadnm, load1, load1m, hget, ↓reduceIte, Nat.reduceEqDiff, Nat.reduceAdd, Nat.reduceMul, Nat.reduceLeDiff, Nat.reduceLT, reduceCtorEq, TFCfC, FR.out]; done) | skip)
  · have hw : slW e = .slz .u8 e.2 := by unfold slW; rw [if_neg hz]
    have c := bcl_ct e.2 h
    unfold slM
    rw [hw]
    refine ACt.intro Tryd.func62 rfl (by kernel_rfl) (by simp [Tryd.ntmps62]) (fun cx => ?_)
    simp only [argE, Tryd.ntmps62, Tryd.results62]
    first | (have FRx := FR; clear FRx) | have FR := fr0S
    have FA := Sm.mk (TFCfC)
    repeat' first | (apply Sm.mk; refine Ys ?_) | refine WP.seq fun K hK => ?_ | (apply Ob.mk; exact Yo) | refine And.intro (Ob.out ?_) ?_ | refine Y1CfC ?_ | refine Yc (c := c) (r := ?_) | refine YzCfC ?_ | (refine WP.cond rfl (fun hc => ?_) (fun hc => ?_) <;> (try simp only [ZC, reduceCtorEq, ZD] at hc) <;> (try exact absurd hc (by decide)) <;> (try (exfalso; omega))) | refine Rt.mk (And.intro (fun hg => Sm.out ?_) fun hg => Sm.out ?_) | (refine Nu.mk ?_; first | (fail_if_success have := nb1); intro nb1 | (fail_if_success have := nb2); intro nb2 | (fail_if_success have := nb3); intro nb3 | (fail_if_success have := nb4); intro nb4 | (fail_if_success have := nb5); intro nb5 | (fail_if_success have := nb6); intro nb6 | intro nbz) | (apply Yfr; refine Yf FR fun hFRb FR => ?_) | refine Two.mk ?_ ?_ | (apply Yxc; exact Yx) | refine Cs.mk fun hcs => Sm.out ?_ | go_step | omega | (simp only [maxLen_eq]; omega) | exact trivial
    (refine OutQ.upd (by simp only [resv, ZK, look, loadv, loadn, loadnm, load1, load1m, hget, ↓reduceIte, Nat.reduceEqDiff, Nat.reduceAdd, Nat.reduceMul, Nat.reduceLeDiff, Nat.reduceLT, reduceCtorEq, TFCfC, FR.out]) (by simp only [resv, resA, ZK, look, loadv, loadn, loadnm, load1, load1m, hget, ↓reduceIte, Nat.reduceEqDiff, Nat.reduceAdd, Nat.reduceMul, Nat.reduceLeDiff, Nat.reduceLT, reduceCtorEq, TFCfC, FR.out]; first | done | rfl) (by simp only [hget, ↓reduceIte, if_true, if_false, FR.out]; first | done | rfl) ?_ <;> first | exact rfl | (simp only [ZK, look, loadv, loadn, loadnm, load1, load1m, hget, ↓reduceIte, Nat.reduceEqDiff, Nat.reduceAdd, Nat.reduceMul, Nat.reduceLeDiff, Nat.reduceLT, reduceCtorEq, TFCfC, FR.out]; done) | skip)
set_option maxRecDepth 20000 in
theorem cfrec_ct (z b m y x k : Nat) (ov : Bool) : ACt Tryd.prog 17 [pt z 0] [(z, cfM b m y x k ov)] (fun r F' => r = iv .i64 (k : Int) ∧ F' = [(z, cfM b m y x k ov)]) := by
  unfold cfM
  refine ACt.intro Tryd.func17 rfl (by kernel_rfl) (by simp [Tryd.ntmps17]) (fun cx => ?_)
  simp only [argE, Tryd.ntmps17, Tryd.results17]
  first | (have FRx := FR; clear FRx) | have FR := fr0S
  have FA := Sm.mk (TFCfC)
  repeat' first | (apply Sm.mk; refine Ys ?_) | refine WP.seq fun K hK => ?_ | (apply Ob.mk; exact Yo) | refine And.intro (Ob.out ?_) ?_ | refine Y1CfC ?_ | refine YzCfC ?_ | (refine WP.cond rfl (fun hc => ?_) (fun hc => ?_) <;> (try simp only [ZC, reduceCtorEq, ZD] at hc) <;> (try exact absurd hc (by decide)) <;> (try (exfalso; omega))) | refine Rt.mk (And.intro (fun hg => Sm.out ?_) fun hg => Sm.out ?_) | (refine Nu.mk ?_; first | (fail_if_success have := nb1); intro nb1 | (fail_if_success have := nb2); intro nb2 | (fail_if_success have := nb3); intro nb3 | (fail_if_success have := nb4); intro nb4 | (fail_if_success have := nb5); intro nb5 | (fail_if_success have := nb6); intro nb6 | intro nbz) | (apply Yfr; refine Yf FR fun hFRb FR => ?_) | refine Two.mk ?_ ?_ | (apply Yxc; exact Yx) | refine Cs.mk fun hcs => Sm.out ?_ | go_step | omega | (simp only [maxLen_eq]; omega) | exact trivial
  (refine OutQ.upd (by simp only [resv, ZK, look, loadv, loadn, loadnm, load1, load1m, hget, ↓reduceIte, Nat.reduceEqDiff, Nat.reduceAdd, Nat.reduceMul, Nat.reduceLeDiff, Nat.reduceLT, reduceCtorEq, TFCfC, FR.out]) (by simp only [resv, resA, ZK, look, loadv, loadn, loadnm, load1, load1m, hget, ↓reduceIte, Nat.reduceEqDiff, Nat.reduceAdd, Nat.reduceMul, Nat.reduceLeDiff, Nat.reduceLT, reduceCtorEq, TFCfC, FR.out]; first | done | rfl) (by simp only [hget, ↓reduceIte, if_true, if_false, FR.out]; first | done | rfl) ?_ <;> first | exact rfl | (simp only [ZK, look, loadv, loadn, loadnm, load1, load1m, hget, ↓reduceIte, Nat.reduceEqDiff, Nat.reduceAdd, Nat.reduceMul, Nat.reduceLeDiff, Nat.reduceLT, reduceCtorEq, TFCfC, FR.out]; done) | skip)
set_option maxRecDepth 20000 in
theorem cfepoch_ct (z b m y x k : Nat) (ov : Bool) (e : Nat × List Int) : ACt Tryd.prog 23 [pt z 0] [(z, cfM b m y x k ov), (y, slM b 0 m e)] (fun r F' => r = nu e.1 ∧ F' = [(z, cfM b m y x k ov), (y, slM b 0 m e)]) := by
  have c := (slepoch_ct y b 0 m e).lookU (H := [(z, cfM b m y x k ov), (y, slM b 0 m e)]) (R := [(z, cfM b m y x k ov)]) (by exact .swap _ _ _)
  unfold cfM at c ⊢
  refine ACt.intro Tryd.func23 rfl (by kernel_rfl) (by simp [Tryd.ntmps23]) (fun cx => ?_)
  simp only [argE, Tryd.ntmps23, Tryd.results23]
  first | (have FRx := FR; clear FRx) | have FR := fr0S
  have FA := Sm.mk (TFCfC)
  repeat' first | (apply Sm.mk; refine Ys ?_) | refine WP.seq fun K hK => ?_ | (apply Ob.mk; exact Yo) | refine And.intro (Ob.out ?_) ?_ | refine Y1CfC ?_ | refine Yl2 (c := c) (r := ?_) | refine YzCfC ?_ | (refine WP.cond rfl (fun hc => ?_) (fun hc => ?_) <;> (try simp only [ZC, reduceCtorEq, ZD] at hc) <;> (try exact absurd hc (by decide)) <;> (try (exfalso; omega))) | refine Rt.mk (And.intro (fun hg => Sm.out ?_) fun hg => Sm.out ?_) | (refine Nu.mk ?_; first | (fail_if_success have := nb1); intro nb1 | (fail_if_success have := nb2); intro nb2 | (fail_if_success have := nb3); intro nb3 | (fail_if_success have := nb4); intro nb4 | (fail_if_success have := nb5); intro nb5 | (fail_if_success have := nb6); intro nb6 | intro nbz) | (apply Yfr; refine Yf FR fun hFRb FR => ?_) | refine Two.mk ?_ ?_ | (apply Yxc; exact Yx) | refine Cs.mk fun hcs => Sm.out ?_ | go_step | omega | (simp only [maxLen_eq]; omega) | exact trivial
  (refine OutQ.drop _ _ (perm2 (by simp only [hget, hdel, ↓reduceIte, if_true, if_false, FR.out]; first | done | rfl) (by simp only [hget, hdel, ↓reduceIte, if_true, if_false, FR.out]; first | done | rfl)) (by simp only [resv, ZK, look, loadv, loadn, loadnm, load1, load1m, hget, ↓reduceIte, Nat.reduceEqDiff, Nat.reduceAdd, Nat.reduceMul, Nat.reduceLeDiff, Nat.reduceLT, reduceCtorEq, TFCfC, FR.out]) ⟨(by simp only [resv, resA, ZK, look, loadv, loadn, loadnm, load1, load1m, hget, ↓reduceIte, Nat.reduceEqDiff, Nat.reduceAdd, Nat.reduceMul, Nat.reduceLeDiff, Nat.reduceLT, reduceCtorEq, TFCfC, FR.out]; first | done | rfl), rfl⟩)
set_option maxRecDepth 20000 in
theorem cfsnap_ct (z b m y x k : Nat) (ov : Bool) (e : Nat × List Int) (h0 : e.1 = 0 → e.2 = []) (h : e.2.length ≤ 1000000) : ACt Tryd.prog 41 [pt z 0] [(z, cfM b m y x k ov), (y, slM b 0 m e)] (fun r F' => r = .slz .u8 e.2 ∧ F' = [(z, cfM b m y x k ov), (y, slM b 0 m e)]) := by
  have c := (slbytes_ct y b 0 m e h0 h).lookU (H := [(z, cfM b m y x k ov), (y, slM b 0 m e)]) (R := [(z, cfM b m y x k ov)]) (by exact .swap _ _ _)
  unfold cfM at c ⊢
  refine ACt.intro Tryd.func41 rfl (by kernel_rfl) (by simp [Tryd.ntmps41]) (fun cx => ?_)
  simp only [argE, Tryd.ntmps41, Tryd.results41]
  first | (have FRx := FR; clear FRx) | have FR := fr0S
  have FA := Sm.mk (TFCfC)
  repeat' first | (apply Sm.mk; refine Ys ?_) | refine WP.seq fun K hK => ?_ | (apply Ob.mk; exact Yo) | refine And.intro (Ob.out ?_) ?_ | refine Y1CfC ?_ | refine Yl2 (c := c) (r := ?_) | refine YzCfC ?_ | (refine WP.cond rfl (fun hc => ?_) (fun hc => ?_) <;> (try simp only [ZC, reduceCtorEq, ZD] at hc) <;> (try exact absurd hc (by decide)) <;> (try (exfalso; omega))) | refine Rt.mk (And.intro (fun hg => Sm.out ?_) fun hg => Sm.out ?_) | (refine Nu.mk ?_; first | (fail_if_success have := nb1); intro nb1 | (fail_if_success have := nb2); intro nb2 | (fail_if_success have := nb3); intro nb3 | (fail_if_success have := nb4); intro nb4 | (fail_if_success have := nb5); intro nb5 | (fail_if_success have := nb6); intro nb6 | intro nbz) | (apply Yfr; refine Yf FR fun hFRb FR => ?_) | refine Two.mk ?_ ?_ | (apply Yxc; exact Yx) | refine Cs.mk fun hcs => Sm.out ?_ | go_step | omega | (simp only [maxLen_eq]; omega) | exact trivial
  (refine OutQ.drop _ _ (perm2 (by simp only [hget, hdel, ↓reduceIte, if_true, if_false, FR.out]; first | done | rfl) (by simp only [hget, hdel, ↓reduceIte, if_true, if_false, FR.out]; first | done | rfl)) (by simp only [resv, ZK, look, loadv, loadn, loadnm, load1, load1m, hget, ↓reduceIte, Nat.reduceEqDiff, Nat.reduceAdd, Nat.reduceMul, Nat.reduceLeDiff, Nat.reduceLT, reduceCtorEq, TFCfC, FR.out]) ⟨(by simp only [resv, resA, ZK, look, loadv, loadn, loadnm, load1, load1m, hget, ↓reduceIte, Nat.reduceEqDiff, Nat.reduceAdd, Nat.reduceMul, Nat.reduceLeDiff, Nat.reduceLT, reduceCtorEq, TFCfC, FR.out]; first | done | rfl), rfl⟩)
set_option maxRecDepth 20000 in
theorem cfstate_ct (z b m y x k : Nat) (ov : Bool) (e : Nat × List Int) (h0 : e.1 = 0 → e.2 = []) (h : e.2.length ≤ 1000000) (L : List Bs) : ACt Tryd.prog 15 [pt z 0, .sl L.length (rowsA L)] [(z, cfM b m y x k ov), (y, slM b 0 m e)] (fun r F' => r = stV e L ∧ F' = [(z, cfM b m y x k ov), (y, slM b 0 m e)]) := by
  have c1 := cfepoch_ct z b m y x k ov e
  have c2 := cfsnap_ct z b m y x k ov e h0 h
  unfold stV
  obtain ⟨C, hC⟩ : ∃ C, C = rowsA L := ⟨_, rfl⟩
  rw [← hC]
  refine ACt.intro Tryd.func15 rfl (by kernel_rfl) (by simp [Tryd.ntmps15]) (fun cx => ?_)
  simp only [argE, Tryd.ntmps15, Tryd.results15]
  first | (have FRx := FR; clear FRx) | have FR := fr0S
  have FA := Sm.mk (TFCfC)
  repeat' first | (apply Sm.mk; refine Ys ?_) | refine WP.seq fun K hK => ?_ | (apply Ob.mk; exact Yo) | refine And.intro (Ob.out ?_) ?_ | refine Y1CfC ?_ | refine Yl2 (c := c1) (r := ?_) | refine Yl2 (c := c2) (r := ?_) | refine YzCfC ?_ | (refine WP.cond rfl (fun hc => ?_) (fun hc => ?_) <;> (try simp only [ZC, reduceCtorEq, ZD] at hc) <;> (try exact absurd hc (by decide)) <;> (try (exfalso; omega))) | refine Rt.mk (And.intro (fun hg => Sm.out ?_) fun hg => Sm.out ?_) | (refine Nu.mk ?_; first | (fail_if_success have := nb1); intro nb1 | (fail_if_success have := nb2); intro nb2 | (fail_if_success have := nb3); intro nb3 | (fail_if_success have := nb4); intro nb4 | (fail_if_success have := nb5); intro nb5 | (fail_if_success have := nb6); intro nb6 | intro nbz) | (apply Yfr; refine Yf FR fun hFRb FR => ?_) | refine Two.mk ?_ ?_ | (apply Yxc; exact Yx) | refine Cs.mk fun hcs => Sm.out ?_ | go_step | omega | (simp only [maxLen_eq]; omega) | exact trivial
  (refine OutQ.drop _ _ (perm2 (by simp only [hget, hdel, ↓reduceIte, if_true, if_false, FR.out]; first | done | rfl) (by simp only [hget, hdel, ↓reduceIte, if_true, if_false, FR.out]; first | done | rfl)) (by simp only [resv, ZK, look, loadv, loadn, loadnm, load1, load1m, hget, ↓reduceIte, Nat.reduceEqDiff, Nat.reduceAdd, Nat.reduceMul, Nat.reduceLeDiff, Nat.reduceLT, reduceCtorEq, TFCfC, FR.out]) ⟨(by simp only [resv, resA, ZK, look, loadv, loadn, loadnm, load1, load1m, hget, ↓reduceIte, Nat.reduceEqDiff, Nat.reduceAdd, Nat.reduceMul, Nat.reduceLeDiff, Nat.reduceLT, reduceCtorEq, TFCfC, FR.out]; first | done | rfl), rfl⟩)
end Go.Proofs.YtmbecppmkglmhaaDoor
