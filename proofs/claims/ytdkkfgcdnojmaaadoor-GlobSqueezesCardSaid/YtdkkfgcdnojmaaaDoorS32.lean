/-
  The walks and the laws that the statement leans on, part 32.
-/
import Derived.Test.YtdkkfgcdnojmaaaDoorS13
import Derived.Test.YtdkkfgcdnojmaaaDoorS27
import Derived.Test.YtdkkfgcdnojmaaaDoorS30
import Derived.Test.YtdkkfgcdnojmaaaDoorS31
namespace Go.Proofs.YtdkkfgcdnojmaaaDoor
open Go
set_option linter.unusedVariables false
set_option linter.unusedSimpArgs false
set_option linter.defProp false
def TFGbE :=
  And.intro (And.intro (And.intro (And.intro tyc0 (And.intro tyc3 zmb3)) (And.intro tyc4 (And.intro zmb4 tyc9))) (And.intro (And.intro zmb9 (And.intro tyc21 zmb21)) (And.intro tyc37 (And.intro foff37_0 fpart37_0)))) (And.intro (And.intro (And.intro foff37_1 (And.intro fpart37_1 zmb37)) (And.intro bldT37 (And.intro tyc40 Tryd.underlying0))) (And.intro (And.intro Tryd.underlying3 (And.intro Tryd.underlying4 Tryd.underlying9)) (And.intro Tryd.underlying21 (And.intro Tryd.underlying37 Tryd.underlying40))))
theorem Y1GbE {G R : Prop} (r : R) (h : R → G := by intro r; first | (apply WP.region; exact rvc_sound _ _ (Sm.out r)) | exact WP.drawK rfl mixed (by decide +kernel) (Sm.out r) | (apply WP.block; exact r) | (apply WP.skip; exact Yq r) | (apply WP.exit; exact Yq r) | (apply WP.ret; exact Sm.out r) | exact WP.cond rfl (fun _ => r) (fun hg => absurd hg (by decide)) | exact WP.cond rfl (fun hg => absurd hg (by decide)) (fun _ => r) | exact Rt.mk (And.intro (fun _ => Sm.out r) fun hg => absurd hg (by decide)) | exact Rt.mk (And.intro (fun hg => absurd hg (by decide)) fun _ => Sm.out r)) : G := h r
theorem YzGbE {G R : Prop} (r : R) (h : R → G := by intro r; first | (apply ExG.no; exact Sm.out r) | (apply Or.inl; apply ExG.no; exact Sm.out r) | exact Or.inl (And.intro (fun hg => absurd hg (by decide)) (ExG.no (Sm.out r)))) : G := h r
theorem by_rep (k : Nat) : By (List.replicate k 63) := By.of_mem fun z hz => by
  rw [(List.mem_replicate.1 hz).2]; omega
set_option maxRecDepth 20000 in
theorem end_ct {b : Nat} {zs : List Int} {q : BQ} (hq : bOk b zs q) (hz : zs.length ≤ 40000) (x1 x2 k : Nat) (any : Bool) (hk : k ≤ 100) :
    ACt Tryd.prog 23 [pt b 0, pt x1 0, pt x2 0] ((x1, .cells [iv .i64 (k : Int)] 1 3) :: (x2, .cells [bv any] 1 4) :: cH b zs q) (fun r F' => ∃ g : BS b (zs ++ mkE k any), r = .tup [] ∧ F' = (x1, .cells [iv .i64 0] 1 3) :: (x2, .cells [bv false] 1 4) :: cH b (zs ++ mkE k any) g.1) := by
  have cR := rep_ct k hk
  obtain ⟨M, hM⟩ : ∃ M, M = List.replicate k (63 : Int) := ⟨_, rfl⟩
  have hMl : M.length = k := by rw [hM]; simp
  have hMb : By M := by rw [hM]; exact by_rep k
  have eM : mkE k any = M ++ if any then [42] else [] := by unfold mkE; rw [hM]
  rw [← hM] at cR
  obtain ⟨O, hO⟩ : ∃ O, O = zs ++ M := ⟨_, rfl⟩
  have eZ : zs ++ mkE k any = O ++ (if any then [42] else []) := by rw [eM, hO, List.append_assoc]
  rw [eZ]
  have hW0 := ws_c hq (by omega) M hMb (by omega)
  rw [← hO] at hW0
  have hOl : O.length ≤ 40200 := by rw [hO, List.length_append]; omega
  clear hM eM eZ hO hq
  have cW := lift0' [(x1, .cells [iv .i64 (k : Int)] 1 3), (x2, .cells [bv any] 1 4)] hW0
  refine ACt.intro Tryd.func23 rfl (by kernel_rfl) (by simp [Tryd.ntmps23]) (fun cx => ?_)
  simp only [argE, Tryd.ntmps23, Tryd.results23]
  refine WP.nd fun hnd => ?_
  simp only [ndF, fresh_cons, and_true, ne_eq] at hnd
  have hx : ¬ x2 = x1 ∧ ¬ x1 = x2 := hnd.1.1
  clear hnd
  first | (have FRx := FR; clear FRx) | have FR := fr0S
  have FA := Sm.mk (And.intro TFGbE hx)
  repeat' first | (apply Sm.mk; refine Ys ?_) | refine WP.seq fun K hK => ?_ | (apply Ob.mk; exact Yo) | refine And.intro (Ob.out ?_) ?_ | ((fail_if_success (show WP _ _ _ (.region 1 _ _) _ _)); refine Y1GbE ?_) | (first | refine CallV.fn (cR) (Sm.out ?_) | refine ExF.mk (cR) (Sm.out ?_) | refine ExG.mk (fun _ => cR) (Sm.out ?_) | refine ExG.mkJ (fun _ => cR) (Sm.out ?_) | refine ExG.mkI (Ob.out ?_) (fun _ => cR) (Sm.out ?_)) | (refine CallV.exM (cW) (pmz _) (fun g => Sm.out ?_)) | refine YzGbE ?_ | (refine WP.cond rfl (fun hc => ?_) (fun hc => ?_) <;> (try simp only [ZC, reduceCtorEq, ZD] at hc) <;> (try exact absurd hc (by decide)) <;> (try (exfalso; omega))) | refine Rt.mk (And.intro (fun hg => Sm.out ?_) fun hg => Sm.out ?_) | (refine Nu.mk ?_; first | (fail_if_success have := nb1); intro nb1 | (fail_if_success have := nb2); intro nb2 | (fail_if_success have := nb3); intro nb3 | (fail_if_success have := nb4); intro nb4 | (fail_if_success have := nb5); intro nb5 | (fail_if_success have := nb6); intro nb6 | intro nbz) | (apply Yfr; refine Yf FR fun hFRb FR => ?_) | refine Two.mk ?_ ?_ | (apply Yxc; exact Yx) | refine Cs.mk fun hcs => Sm.out ?_ | go_step | omega | (simp only [maxLen_eq]; omega) | exact trivial
  obtain ⟨q1, hq1⟩ := g
  try simp only [List.append_nil]
  clear cW hW0
  cases any with
  | false =>
    have e0 : O ++ (if false = true then ([42] : List Int) else []) = O := by simp
    have hq1' : bOk b (O ++ (if false = true then ([42] : List Int) else [])) q1 := by rw [e0]; exact hq1
    have eH : cH b (O ++ (if false = true then ([42] : List Int) else [])) q1 = cH b O q1 := by rw [e0]
    rw [← eH]
    first | (have FRx := FR; clear FRx) | have FR := fr0S
    have FA := Sm.mk (And.intro TFGbE hx)
    repeat' first | (apply Sm.mk; refine Ys ?_) | refine WP.seq fun K hK => ?_ | (apply Ob.mk; exact Yo) | refine And.intro (Ob.out ?_) ?_ | refine Y1GbE ?_ | refine YzGbE ?_ | (refine WP.cond rfl (fun hc => ?_) (fun hc => ?_) <;> (try simp only [ZC, reduceCtorEq, ZD] at hc) <;> (try exact absurd hc (by decide)) <;> (try (exfalso; omega))) | refine Rt.mk (And.intro (fun hg => Sm.out ?_) fun hg => Sm.out ?_) | (refine Nu.mk ?_; first | (fail_if_success have := nb1); intro nb1 | (fail_if_success have := nb2); intro nb2 | (fail_if_success have := nb3); intro nb3 | (fail_if_success have := nb4); intro nb4 | (fail_if_success have := nb5); intro nb5 | (fail_if_success have := nb6); intro nb6 | intro nbz) | (apply Yfr; refine Yf FR fun hFRb FR => ?_) | refine Two.mk ?_ ?_ | (apply Yxc; exact Yx) | refine Cs.mk fun hcs => Sm.out ?_ | go_step | omega | (simp only [maxLen_eq]; omega) | exact trivial
    (refine OutQ.drop _ _ (pmz _) (by simp only [resv, ZK, look, loadv, loadn, loadnm, load1, load1m, hget, ↓reduceIte, Nat.reduceEqDiff, Nat.reduceAdd, Nat.reduceMul, Nat.reduceLeDiff, Nat.reduceLT, reduceCtorEq, TFGbE, FR.out]) ⟨⟨q1, hq1'⟩, (by simp only [resv, resA, ZK, look, loadv, loadn, loadnm, load1, load1m, hget, ↓reduceIte, Nat.reduceEqDiff, Nat.reduceAdd, Nat.reduceMul, Nat.reduceLeDiff, Nat.reduceLT, reduceCtorEq, TFGbE, FR.out]; first | done | rfl), rfl⟩)
  | true =>
    have e0 : O ++ (if true = true then ([42] : List Int) else []) = O ++ [42] := by simp
    rw [e0]
    have cU := lift0' [(x1, .cells [iv .i64 (k : Int)] 1 3), (x2, .cells [bv true] 1 4)] (wr_c hq1 (by omega) 42 (by unfold Gr; omega))
    rw [enc42] at cU
    first | (have FRx := FR; clear FRx) | have FR := fr0S
    have FA := Sm.mk (And.intro TFGbE hx)
    repeat' first | (apply Sm.mk; refine Ys ?_) | refine WP.seq fun K hK => ?_ | (apply Ob.mk; exact Yo) | refine And.intro (Ob.out ?_) ?_ | ((fail_if_success (show WP _ _ _ (.region 3 _ _) _ _)); refine Y1GbE ?_) | (refine CallV.exM (cU) (pmz _) (fun g => Sm.out ?_)) | refine YzGbE ?_ | (refine WP.cond rfl (fun hc => ?_) (fun hc => ?_) <;> (try simp only [ZC, reduceCtorEq, ZD] at hc) <;> (try exact absurd hc (by decide)) <;> (try (exfalso; omega))) | refine Rt.mk (And.intro (fun hg => Sm.out ?_) fun hg => Sm.out ?_) | (refine Nu.mk ?_; first | (fail_if_success have := nb1); intro nb1 | (fail_if_success have := nb2); intro nb2 | (fail_if_success have := nb3); intro nb3 | (fail_if_success have := nb4); intro nb4 | (fail_if_success have := nb5); intro nb5 | (fail_if_success have := nb6); intro nb6 | intro nbz) | (apply Yfr; refine Yf FR fun hFRb FR => ?_) | refine Two.mk ?_ ?_ | (apply Yxc; exact Yx) | refine Cs.mk fun hcs => Sm.out ?_ | go_step | omega | (simp only [maxLen_eq]; omega) | exact trivial
    obtain ⟨q2, hq2⟩ := g
    try simp only [List.append_nil]
    first | (have FRx := FR; clear FRx) | have FR := fr0S
    have FA := Sm.mk (And.intro TFGbE hx)
    repeat' first | (apply Sm.mk; refine Ys ?_) | refine WP.seq fun K hK => ?_ | (apply Ob.mk; exact Yo) | refine And.intro (Ob.out ?_) ?_ | refine Y1GbE ?_ | refine YzGbE ?_ | (refine WP.cond rfl (fun hc => ?_) (fun hc => ?_) <;> (try simp only [ZC, reduceCtorEq, ZD] at hc) <;> (try exact absurd hc (by decide)) <;> (try (exfalso; omega))) | refine Rt.mk (And.intro (fun hg => Sm.out ?_) fun hg => Sm.out ?_) | (refine Nu.mk ?_; first | (fail_if_success have := nb1); intro nb1 | (fail_if_success have := nb2); intro nb2 | (fail_if_success have := nb3); intro nb3 | (fail_if_success have := nb4); intro nb4 | (fail_if_success have := nb5); intro nb5 | (fail_if_success have := nb6); intro nb6 | intro nbz) | (apply Yfr; refine Yf FR fun hFRb FR => ?_) | refine Two.mk ?_ ?_ | (apply Yxc; exact Yx) | refine Cs.mk fun hcs => Sm.out ?_ | go_step | omega | (simp only [maxLen_eq]; omega) | exact trivial
    (refine OutQ.drop _ _ (pmz _) (by simp only [resv, ZK, look, loadv, loadn, loadnm, load1, load1m, hget, ↓reduceIte, Nat.reduceEqDiff, Nat.reduceAdd, Nat.reduceMul, Nat.reduceLeDiff, Nat.reduceLT, reduceCtorEq, TFGbE, FR.out]) ⟨⟨q2, hq2⟩, (by simp only [resv, resA, ZK, look, loadv, loadn, loadnm, load1, load1m, hget, ↓reduceIte, Nat.reduceEqDiff, Nat.reduceAdd, Nat.reduceMul, Nat.reduceLeDiff, Nat.reduceLT, reduceCtorEq, TFGbE, FR.out]; first | done | rfl), rfl⟩)
end Go.Proofs.YtdkkfgcdnojmaaaDoor
