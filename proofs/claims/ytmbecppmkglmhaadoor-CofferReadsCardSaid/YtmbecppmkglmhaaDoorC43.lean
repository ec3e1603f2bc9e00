/-
  The walks and the laws that the statement leans on, part 43.
-/
import Derived.Test.YtmbecppmkglmhaaDoorC11
import Derived.Test.YtmbecppmkglmhaaDoorC33
import Derived.Test.YtmbecppmkglmhaaDoorC42
namespace Go.Proofs.YtmbecppmkglmhaaDoor
open Go Wi
set_option linter.unusedVariables false
set_option linter.unusedSimpArgs false
set_option linter.defProp false
def TFCfB :=
  And.intro (And.intro (And.intro (And.intro (And.intro (And.intro tyc3 zmb3) (And.intro tyc4 zmb4)) (And.intro (And.intro tyc22 elt22) (And.intro mkz22 apT22))) (And.intro (And.intro (And.intro elk22 zmb22) (And.intro tyc26 mth26_27)) (And.intro (And.intro mth26_26 mth26_28) (And.intro con26 (And.intro zmb26 tyc29))))) (And.intro (And.intro (And.intro (And.intro zmb29 tyc32) (And.intro zmb32 tyc37)) (And.intro (And.intro elt37 mkz37) (And.intro mkc37 apT37))) (And.intro (And.intro (And.intro elk37 zmb37) (And.intro tyc45 mth45_50)) (And.intro (And.intro mth45_48 con45) (And.intro zmb45 (And.intro tyc77 zmb77)))))) (And.intro (And.intro (And.intro (And.intro (And.intro tyc78 tyc80) (And.intro tyc82 zmb82)) (And.intro (And.intro tyc83 tyc86) (And.intro foff86_0 fpart86_0))) (And.intro (And.intro (And.intro foff86_1 fpart86_1) (And.intro foff86_2 fpart86_2)) (And.intro (And.intro foff86_3 fpart86_3) (And.intro foff86_4 (And.intro fpart86_4 foff86_5))))) (And.intro (And.intro (And.intro (And.intro fpart86_5 zmb86) (And.intro bldT86 Tryd.underlying3)) (And.intro (And.intro Tryd.underlying4 Tryd.underlying22) (And.intro Tryd.underlying26 Tryd.underlying29))) (And.intro (And.intro (And.intro Tryd.underlying32 Tryd.underlying37) (And.intro Tryd.underlying45 Tryd.underlying77)) (And.intro (And.intro Tryd.underlying78 Tryd.underlying80) (And.intro Tryd.underlying82 (And.intro Tryd.underlying83 Tryd.underlying86))))))
theorem Y1CfB {G R : Prop} (r : R) (h : R → G := by intro r; first | (apply WP.region; exact rvc_sound _ _ (Sm.out r)) | exact WP.drawK rfl mixed (by decide +kernel) (Sm.out r) | (apply WP.block; exact r) | (apply WP.skip; exact Yq r) | (apply WP.exit; exact Yq r) | (apply WP.ret; exact Sm.out r) | exact WP.cond rfl (fun _ => r) (fun hg => absurd hg (by decide)) | exact WP.cond rfl (fun hg => absurd hg (by decide)) (fun _ => r) | exact Rt.mk (And.intro (fun _ => Sm.out r) fun hg => absurd hg (by decide)) | exact Rt.mk (And.intro (fun hg => absurd hg (by decide)) fun _ => Sm.out r)) : G := h r
theorem YzCfB {G R : Prop} (r : R) (h : R → G := by intro r; first | (apply ExG.no; exact Sm.out r) | (apply Or.inl; apply ExG.no; exact Sm.out r) | exact Or.inl (And.intro (fun hg => absurd hg (by decide)) (ExG.no (Sm.out r)))) : G := h r
def cfM (b m y x k : Nat) (ov : Bool) : MB := .cells [pt b 0, iv .i64 (m : Int), pt y 0, pt x 0, iv .i64 (k : Int), bv ov] 6 86
structure CfG (b : Nat) (a : DA) where
  z : Nat
  y : Nat
  x : Nat
  q : LS b a
theorem slF_bd (R : Bs) (k : Nat) : (slF R k).1 < 18446744073709551616 := by
  unfold slF
  split
  · unfold slV
    cases h : nF (ub (bodyB R)) with
    | none => simp
    | some p =>
      obtain ⟨n, q⟩ := p
      have := (nF_bd (by_ub _) h).1
      simp only
      split
      · simp
      · simpa using this
  · simp
theorem slE_bd {A B : Nat × List Int} (hA : A.1 < 18446744073709551616) (hB : B.1 < 18446744073709551616) : (slE A B 2).1 < 18446744073709551616 := by
  simp only [slE, slN]
  split <;> split <;> simp_all
def cfE (W : Bs) (m s : Nat) : Nat × List Int := slE (slF ((W.drop (0 * s)).take (m * s)) 0) (slF ((W.drop ((0 + m) * s)).take (m * s)) 1) 2
def cfF (W : Bs) (n m s : Nat) : Nat := 2 * m + (cfE W m s).1 % 2 * cfN n m
def cfR (W : Bs) (n m s : Nat) : Bs := (W.drop (cfF W n m s * s)).take (cfN n m * s)
theorem cfE_bd (W : Bs) (m s : Nat) : (cfE W m s).1 < 18446744073709551616 := slE_bd (slF_bd _ _) (slF_bd _ _)
theorem cfF_le (W : Bs) (n m s : Nat) (h : 2 * m + 2 ≤ n) : cfF W n m s + cfN n m ≤ n ∧ 1 ≤ cfN n m := by
  have h2 : (cfE W m s).1 % 2 * cfN n m ≤ 1 * cfN n m := Nat.mul_le_mul_right _ (by omega)
  unfold cfF
  unfold cfN at *
  omega
set_option maxRecDepth 20000 in
set_option maxHeartbeats 4000000 in
theorem cfopen_go {c s n : Nat} {W : Bs} (b : Nat) (a : DA) (l : DL) (hA : AOk c a) (hS : Stl s n (ub W) a) (hW : W.length = n * s) (hl : LOk b a l) (m : Nat) (hm : 1 ≤ m) (hmn : 2 * m + 2 ≤ n) (hms5 : m * s ≤ 5000) (hc : c + cfN n m ≤ 980) :
    ((opR a (cfF W n m s) s (cfR W n m s)).2 = 0 → ACt Tryd.prog 13 [pt b 0, iv .i64 (m : Int)] (dH b a l) (fun r F' => ∃ g : CfG b (opR a (cfF W n m s) s (cfR W n m s)).1, r = .tup [pt g.z 0, .sl (all (cfR W n m s)).1.length (rowsA (all (cfR W n m s)).1), iv .i64 0] ∧ F' = (g.z, cfM b m g.y g.x (all (cfR W n m s)).1.length false) :: (g.y, slM b 0 m (cfE W m s)) :: (g.x, lgM b (cfF W n m s) (cfN n m) (ub (tlB (cfR W n m s) (all (cfR W n m s)).2 s)) (all (cfR W n m s)).2 false) :: dH b (opR a (cfF W n m s) s (cfR W n m s)).1 g.q.1)) ∧
    ((opR a (cfF W n m s) s (cfR W n m s)).2 = 12 → ACt Tryd.prog 13 [pt b 0, iv .i64 (m : Int)] (dH b a l) (fun r F' => ∃ q : LS b (opR a (cfF W n m s) s (cfR W n m s)).1, r = .tup [.lit (.pointer none), .sl 0 [], iv .i64 12] ∧ F' = dH b (opR a (cfF W n m s) s (cfR W n m s)).1 q.1)) := by
  have hn := hS.n
  have hn2 := hA.n2
  obtain ⟨hfN, hN1⟩ := cfF_le W n m s hmn
  have cM := cfmay_ct b a l m hn2 (by omega) hm hS.dk
  have cS := slopen_ct b a l hA hS hl 0 m (by omega) hm hms5
  rw [show slE (slF ((W.drop (0 * s)).take (m * s)) 0) (slF ((W.drop ((0 + m) * s)).take (m * s)) 1) 2 = cfE W m s from rfl] at cS
  have hEb := cfE_bd W m s
  have hfe : cfF W n m s = 2 * m + (cfE W m s).1 % 2 * cfN n m := rfl
  have hRe : cfR W n m s = (W.drop (cfF W n m s * s)).take (cfN n m * s) := rfl
  obtain ⟨E, hE⟩ : ∃ E, E = cfE W m s := ⟨_, rfl⟩
  obtain ⟨f, hf⟩ : ∃ f, f = cfF W n m s := ⟨_, rfl⟩
  obtain ⟨R, hR⟩ : ∃ R, R = cfR W n m s := ⟨_, rfl⟩
  rw [← hE] at cS hEb hfe ⊢
  rw [← hf] at hfe hRe hfN ⊢
  rw [← hR] at hRe ⊢
  clear hE hf hR
  obtain ⟨N, hNe⟩ : ∃ N, N = cfN n m := ⟨_, rfl⟩
  rw [← hNe] at hfe hRe hfN hN1 hc ⊢
  have hRg := rg_of (f := f) (m := N) hS hW hfN
  rw [← hRe] at hRg
  have cP := place_ct b a l m E.1 hn2 (by omega) hEb
  rw [hn, ← hNe, ← hfe] at cP
  have k00 : ((0 : Int) != 0) = false := rfl
  constructor
  · intro h0
    have cO := open_go b l hA hRg hl hfN hN1 hc h0
    obtain ⟨a2, ha2⟩ : ∃ a2, a2 = (opR a f s R).1 := ⟨_, rfl⟩
    rw [← ha2] at cO ⊢
    clear ha2 hRg hRe h0
    obtain ⟨nL, hnL⟩ : ∃ n, n = (all R).1.length := ⟨_, rfl⟩
    obtain ⟨C, hC⟩ : ∃ C, C = rowsA (all R).1 := ⟨_, rfl⟩
    obtain ⟨LG, hLG⟩ : ∃ LG, LG = lgM b f N (ub (tlB R (all R).2 s)) (all R).2 false := ⟨_, rfl⟩
    rw [← hnL, ← hC, ← hLG] at cO ⊢
    refine ACt.intro Tryd.func13 rfl (by kernel_rfl) (by simp [Tryd.ntmps13]) (fun cx => ?_)
    simp only [argE, Tryd.ntmps13, Tryd.results13]
    first | (have FRx := FR; clear FRx) | have FR := fr0S
    have FA := Sm.mk (And.intro TFCfB k00)
    repeat' first | (apply Sm.mk; refine Ys ?_) | refine WP.seq fun K hK => ?_ | (apply Ob.mk; exact Yo) | refine And.intro (Ob.out ?_) ?_ | ((fail_if_success (show WP _ _ _ (.region 7 _ _) _ _)); refine Y1CfB ?_) | refine CallV.updM (cM) (pmz _) (Sm.out ?_) | ((first | refine ExF.up ?_ (cM) (Sm.out ?_) | refine ExG.up ?_ (fun _ => cM) (Sm.out ?_) | refine ExG.upJ ?_ (fun _ => cM) (Sm.out ?_) | refine ExG.upI ?_ (fun _ => cM) (Ob.out ?_) (Sm.out ?_)); focus (exact ⟨_, (pmz _)⟩)) | (refine CallV.exM (cS) (pmz _) (fun g => Sm.out ?_)) | refine YzCfB ?_ | (refine WP.cond rfl (fun hc => ?_) (fun hc => ?_) <;> (try simp only [ZC, reduceCtorEq, ZD] at hc) <;> (try exact absurd hc (by decide)) <;> (try (exfalso; omega))) | refine Rt.mk (And.intro (fun hg => Sm.out ?_) fun hg => Sm.out ?_) | (refine Nu.mk ?_; first | (fail_if_success have := nb1); intro nb1 | (fail_if_success have := nb2); intro nb2 | (fail_if_success have := nb3); intro nb3 | (fail_if_success have := nb4); intro nb4 | (fail_if_success have := nb5); intro nb5 | (fail_if_success have := nb6); intro nb6 | intro nbz) | (apply Yfr; refine Yf FR fun hFRb FR => ?_) | refine Two.mk ?_ ?_ | (apply Yxc; exact Yx) | refine Cs.mk fun hcs => Sm.out ?_ | go_step | omega | (simp only [maxLen_eq]; omega) | exact trivial
    try simp only [List.append_nil]
    obtain ⟨y, hy⟩ : ∃ y, y = g := ⟨_, rfl⟩
    rw [← hy]
    clear hy cM cS
    refine WP.sub (s' := ⟨[(0, pt b 0), (1, iv .i64 (m : Int)), (8, pt y 0)], (y, slM b 0 m E) :: dH b a l⟩) (Sub.of_env [] (by exact pmz _) (by simp [look])) ?_
    have cE := (slepoch_ct y b 0 m E).lookU (H := (y, slM b 0 m E) :: dH b a l) (R := dH b a l) (by exact .refl _)
    have cP2 := look0 [(y, slM b 0 m E)] cP
    have cO2 := lift0 [(y, slM b 0 m E)] cO
    first | (have FRx := FR; clear FRx) | have FR := fr0S
    have FA := Sm.mk (TFCfB)
    repeat' first | (apply Sm.mk; refine Ys ?_) | refine WP.seq fun K hK => ?_ | (apply Ob.mk; exact Yo) | refine And.intro (Ob.out ?_) ?_ | ((fail_if_success (show WP _ _ _ (.region 9 _ _) _ _)); refine Y1CfB ?_) | refine CallV.updM (cE) (pmz _) (Sm.out ?_) | ((first | refine ExF.up ?_ (cE) (Sm.out ?_) | refine ExG.up ?_ (fun _ => cE) (Sm.out ?_) | refine ExG.upJ ?_ (fun _ => cE) (Sm.out ?_) | refine ExG.upI ?_ (fun _ => cE) (Ob.out ?_) (Sm.out ?_)); focus (exact ⟨_, (pmz _)⟩)) | refine CallV.updM (cP2) (pmz _) (Sm.out ?_) | ((first | refine ExF.up ?_ (cP2) (Sm.out ?_) | refine ExG.up ?_ (fun _ => cP2) (Sm.out ?_) | refine ExG.upJ ?_ (fun _ => cP2) (Sm.out ?_) | refine ExG.upI ?_ (fun _ => cP2) (Ob.out ?_) (Sm.out ?_)); focus (exact ⟨_, (pmz _)⟩)) | (refine CallV.exM (cO2) (pmz _) (fun g => Sm.out ?_)) | refine YzCfB ?_ | (refine WP.cond rfl (fun hc => ?_) (fun hc => ?_) <;> (try simp only [ZC, reduceCtorEq, ZD] at hc) <;> (try exact absurd hc (by decide)) <;> (try (exfalso; omega))) | refine Rt.mk (And.intro (fun hg => Sm.out ?_) fun hg => Sm.out ?_) | (refine Nu.mk ?_; first | (fail_if_success have := nb1); intro nb1 | (fail_if_success have := nb2); intro nb2 | (fail_if_success have := nb3); intro nb3 | (fail_if_success have := nb4); intro nb4 | (fail_if_success have := nb5); intro nb5 | (fail_if_success have := nb6); intro nb6 | intro nbz) | (apply Yfr; refine Yf FR fun hFRb FR => ?_) | refine Two.mk ?_ ?_ | (apply Yxc; exact Yx) | refine Cs.mk fun hcs => Sm.out ?_ | go_step | omega | (simp only [maxLen_eq]; omega) | exact trivial
    obtain ⟨x, l2, hl2⟩ := g
    try simp only [List.append_nil]
    first | (have FRx := FR; clear FRx) | have FR := fr0S
    have FA := Sm.mk (And.intro TFCfB k00)
    repeat' first | (apply Sm.mk; refine Ys ?_) | refine WP.seq fun K hK => ?_ | (apply Ob.mk; exact Yo) | refine And.intro (Ob.out ?_) ?_ | refine Y1CfB ?_ | refine YzCfB ?_ | (refine WP.cond rfl (fun hc => ?_) (fun hc => ?_) <;> (try simp only [ZC, reduceCtorEq, ZD] at hc) <;> (try exact absurd hc (by decide)) <;> (try (exfalso; omega))) | refine Rt.mk (And.intro (fun hg => Sm.out ?_) fun hg => Sm.out ?_) | (refine Nu.mk ?_; first | (fail_if_success have := nb1); intro nb1 | (fail_if_success have := nb2); intro nb2 | (fail_if_success have := nb3); intro nb3 | (fail_if_success have := nb4); intro nb4 | (fail_if_success have := nb5); intro nb5 | (fail_if_success have := nb6); intro nb6 | intro nbz) | (apply Yfr; refine Yf FR fun hFRb FR => ?_) | refine Two.mk ?_ ?_ | (apply Yxc; exact Yx) | refine Cs.mk fun hcs => Sm.out ?_ | go_step | omega | (simp only [maxLen_eq]; omega) | exact trivial
    (refine OutQ.drop _ _ (pmz _) (by simp only [resv, ZK, look, loadv, loadn, loadnm, load1, load1m, hget, ↓reduceIte, Nat.reduceEqDiff, Nat.reduceAdd, Nat.reduceMul, Nat.reduceLeDiff, Nat.reduceLT, reduceCtorEq, TFCfB, FR.out]) ⟨⟨nb1, y, x, l2, hl2⟩, (by simp only [resv, resA, ZK, look, loadv, loadn, loadnm, load1, load1m, hget, ↓reduceIte, Nat.reduceEqDiff, Nat.reduceAdd, Nat.reduceMul, Nat.reduceLeDiff, Nat.reduceLT, reduceCtorEq, TFCfB, FR.out]; first | done | rfl), rfl⟩)
  · intro h0
    have cO := open_dk b l hA hRg hl hfN hN1 hc h0
    obtain ⟨a2, ha2⟩ : ∃ a2, a2 = (opR a f s R).1 := ⟨_, rfl⟩
    rw [← ha2] at cO ⊢
    have y3 : ((12 : Int) != 0) = true := rfl
    refine ACt.intro Tryd.func13 rfl (by kernel_rfl) (by simp [Tryd.ntmps13]) (fun cx => ?_)
    simp only [argE, Tryd.ntmps13, Tryd.results13]
    first | (have FRx := FR; clear FRx) | have FR := fr0S
    have FA := Sm.mk (And.intro TFCfB k00)
    repeat' first | (apply Sm.mk; refine Ys ?_) | refine WP.seq fun K hK => ?_ | (apply Ob.mk; exact Yo) | refine And.intro (Ob.out ?_) ?_ | ((fail_if_success (show WP _ _ _ (.region 7 _ _) _ _)); refine Y1CfB ?_) | refine CallV.updM (cM) (pmz _) (Sm.out ?_) | ((first | refine ExF.up ?_ (cM) (Sm.out ?_) | refine ExG.up ?_ (fun _ => cM) (Sm.out ?_) | refine ExG.upJ ?_ (fun _ => cM) (Sm.out ?_) | refine ExG.upI ?_ (fun _ => cM) (Ob.out ?_) (Sm.out ?_)); focus (exact ⟨_, (pmz _)⟩)) | (refine CallV.exM (cS) (pmz _) (fun g => Sm.out ?_)) | refine YzCfB ?_ | (refine WP.cond rfl (fun hc => ?_) (fun hc => ?_) <;> (try simp only [ZC, reduceCtorEq, ZD] at hc) <;> (try exact absurd hc (by decide)) <;> (try (exfalso; omega))) | refine Rt.mk (And.intro (fun hg => Sm.out ?_) fun hg => Sm.out ?_) | (refine Nu.mk ?_; first | (fail_if_success have := nb1); intro nb1 | (fail_if_success have := nb2); intro nb2 | (fail_if_success have := nb3); intro nb3 | (fail_if_success have := nb4); intro nb4 | (fail_if_success have := nb5); intro nb5 | (fail_if_success have := nb6); intro nb6 | intro nbz) | (apply Yfr; refine Yf FR fun hFRb FR => ?_) | refine Two.mk ?_ ?_ | (apply Yxc; exact Yx) | refine Cs.mk fun hcs => Sm.out ?_ | go_step | omega | (simp only [maxLen_eq]; omega) | exact trivial
    try simp only [List.append_nil]
    obtain ⟨y, hy⟩ : ∃ y, y = g := ⟨_, rfl⟩
    rw [← hy]
    clear hy cM cS
    refine WP.sub (s' := ⟨[(0, pt b 0), (1, iv .i64 (m : Int)), (8, pt y 0)], (y, slM b 0 m E) :: dH b a l⟩) (Sub.of_env [] (by exact pmz _) (by simp [look])) ?_
    have cE := (slepoch_ct y b 0 m E).lookU (H := (y, slM b 0 m E) :: dH b a l) (R := dH b a l) (by exact .refl _)
    have cP2 := look0 [(y, slM b 0 m E)] cP
    have cO2 := lift0 [(y, slM b 0 m E)] cO
    first | (have FRx := FR; clear FRx) | have FR := fr0S
    have FA := Sm.mk (TFCfB)
    repeat' first | (apply Sm.mk; refine Ys ?_) | refine WP.seq fun K hK => ?_ | (apply Ob.mk; exact Yo) | refine And.intro (Ob.out ?_) ?_ | ((fail_if_success (show WP _ _ _ (.region 9 _ _) _ _)); refine Y1CfB ?_) | refine CallV.updM (cE) (pmz _) (Sm.out ?_) | ((first | refine ExF.up ?_ (cE) (Sm.out ?_) | refine ExG.up ?_ (fun _ => cE) (Sm.out ?_) | refine ExG.upJ ?_ (fun _ => cE) (Sm.out ?_) | refine ExG.upI ?_ (fun _ => cE) (Ob.out ?_) (Sm.out ?_)); focus (exact ⟨_, (pmz _)⟩)) | refine CallV.updM (cP2) (pmz _) (Sm.out ?_) | ((first | refine ExF.up ?_ (cP2) (Sm.out ?_) | refine ExG.up ?_ (fun _ => cP2) (Sm.out ?_) | refine ExG.upJ ?_ (fun _ => cP2) (Sm.out ?_) | refine ExG.upI ?_ (fun _ => cP2) (Ob.out ?_) (Sm.out ?_)); focus (exact ⟨_, (pmz _)⟩)) | (refine CallV.exM (cO2) (pmz _) (fun g => Sm.out ?_)) | refine YzCfB ?_ | (refine WP.cond rfl (fun hc => ?_) (fun hc => ?_) <;> (try simp only [ZC, reduceCtorEq, ZD] at hc) <;> (try exact absurd hc (by decide)) <;> (try (exfalso; omega))) | refine Rt.mk (And.intro (fun hg => Sm.out ?_) fun hg => Sm.out ?_) | (refine Nu.mk ?_; first | (fail_if_success have := nb1); intro nb1 | (fail_if_success have := nb2); intro nb2 | (fail_if_success have := nb3); intro nb3 | (fail_if_success have := nb4); intro nb4 | (fail_if_success have := nb5); intro nb5 | (fail_if_success have := nb6); intro nb6 | intro nbz) | (apply Yfr; refine Yf FR fun hFRb FR => ?_) | refine Two.mk ?_ ?_ | (apply Yxc; exact Yx) | refine Cs.mk fun hcs => Sm.out ?_ | go_step | omega | (simp only [maxLen_eq]; omega) | exact trivial
    obtain ⟨l2, hl2⟩ := g
    try simp only [List.append_nil]
    refine WP.sub (s' := ⟨[(9, iv .i64 12)], dH b a2 l2⟩) (Sub.of_env [_] (by exact List.perm_append_comm (l₁ := [_])) (by simp [look])) ?_
    first | (have FRx := FR; clear FRx) | have FR := fr0S
    have FA := Sm.mk (And.intro TFCfB y3)
    repeat' first | (apply Sm.mk; refine Ys ?_) | refine WP.seq fun K hK => ?_ | (apply Ob.mk; exact Yo) | refine And.intro (Ob.out ?_) ?_ | refine Y1CfB ?_ | refine YzCfB ?_ | (refine WP.cond rfl (fun hc => ?_) (fun hc => ?_) <;> (try simp only [ZC, reduceCtorEq, ZD] at hc) <;> (try exact absurd hc (by decide)) <;> (try (exfalso; omega))) | refine Rt.mk (And.intro (fun hg => Sm.out ?_) fun hg => Sm.out ?_) | (refine Nu.mk ?_; first | (fail_if_success have := nb1); intro nb1 | (fail_if_success have := nb2); intro nb2 | (fail_if_success have := nb3); intro nb3 | (fail_if_success have := nb4); intro nb4 | (fail_if_success have := nb5); intro nb5 | (fail_if_success have := nb6); intro nb6 | intro nbz) | (apply Yfr; refine Yf FR fun hFRb FR => ?_) | refine Two.mk ?_ ?_ | (apply Yxc; exact Yx) | refine Cs.mk fun hcs => Sm.out ?_ | go_step | omega | (simp only [maxLen_eq]; omega) | exact trivial
    (refine OutQ.wk (Wk.cons (i := 5) (by simp only [look, ↓reduceIte, Nat.reduceEqDiff]; first | done | rfl) (fun w I v h => Rep.nils h)) ?_)
    (refine OutQ.drop _ _ (pmz _) (by simp only [resv, ZK, look, loadv, loadn, loadnm, load1, load1m, hget, ↓reduceIte, Nat.reduceEqDiff, Nat.reduceAdd, Nat.reduceMul, Nat.reduceLeDiff, Nat.reduceLT, reduceCtorEq, TFCfB, FR.out]) ⟨⟨l2, hl2⟩, (by simp only [resv, resA, ZK, look, loadv, loadn, loadnm, load1, load1m, hget, ↓reduceIte, Nat.reduceEqDiff, Nat.reduceAdd, Nat.reduceMul, Nat.reduceLeDiff, Nat.reduceLT, reduceCtorEq, TFCfB, FR.out]; first | done | rfl), rfl⟩)
end Go.Proofs.YtmbecppmkglmhaaDoor
