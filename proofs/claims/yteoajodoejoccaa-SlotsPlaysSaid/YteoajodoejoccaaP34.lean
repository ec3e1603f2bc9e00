/-
  The walks and the laws that the statement leans on, part 34.
-/
import Derived.Test.YteoajodoejoccaaP10
import Derived.Test.YteoajodoejoccaaP29
import Derived.Test.YteoajodoejoccaaP33
namespace Go.Proofs.Yteoajodoejoccaa
open Go
set_option linter.unusedVariables false
set_option linter.unusedSimpArgs false
set_option linter.defProp false
def TFRfD :=
  And.intro (And.intro (And.intro (And.intro (And.intro tyc0 (And.intro tyc3 zmb3)) (And.intro tyc4 (And.intro zmb4 tyc5))) (And.intro (And.intro zmb5 (And.intro tyc25 mth25_45)) (And.intro (And.intro mth25_44 mth25_43) (And.intro con25 zmb25)))) (And.intro (And.intro (And.intro tyc28 (And.intro zmb28 tyc30)) (And.intro mth30_37 (And.intro con30 zmb30))) (And.intro (And.intro tyc36 (And.intro elt36 mkz36)) (And.intro (And.intro apT36 elk36) (And.intro zmb36 tyc65))))) (And.intro (And.intro (And.intro (And.intro foff65_0 (And.intro fpart65_0 foff65_1)) (And.intro fpart65_1 (And.intro foff65_2 fpart65_2))) (And.intro (And.intro foff65_3 (And.intro fpart65_3 foff65_4)) (And.intro (And.intro fpart65_4 foff65_5) (And.intro fpart65_5 zmb65)))) (And.intro (And.intro (And.intro bldT65 (And.intro tyc92 zmb92)) (And.intro Try.underlying0 (And.intro Try.underlying3 Try.underlying4))) (And.intro (And.intro Try.underlying5 (And.intro Try.underlying25 Try.underlying28)) (And.intro (And.intro Try.underlying30 Try.underlying36) (And.intro Try.underlying65 Try.underlying92)))))
theorem Y1RfD {G R : Prop} (r : R) (h : R → G := by intro r; first | (apply WP.region; exact rvc_sound _ _ (Sm.out r)) | exact WP.drawK rfl mixed (by decide +kernel) (Sm.out r) | (apply WP.block; exact r) | (apply WP.skip; exact Yq r) | (apply WP.exit; exact Yq r) | (apply WP.ret; exact Sm.out r) | exact WP.cond rfl (fun _ => r) (fun hg => absurd hg (by decide)) | exact WP.cond rfl (fun hg => absurd hg (by decide)) (fun _ => r) | exact Rt.mk (And.intro (fun _ => Sm.out r) fun hg => absurd hg (by decide)) | exact Rt.mk (And.intro (fun hg => absurd hg (by decide)) fun _ => Sm.out r)) : G := h r
theorem YzRfD {G R : Prop} (r : R) (h : R → G := by intro r; first | (apply ExG.no; exact Sm.out r) | (apply Or.inl; apply ExG.no; exact Sm.out r) | exact Or.inl (And.intro (fun hg => absurd hg (by decide)) (ExG.no (Sm.out r)))) : G := h r
theorem perm8 (y1 y2 y3 y4 y5 y6 y7 y8 : Nat × MB) (R : Hp) : (y1 :: y2 :: y3 :: y4 :: y5 :: y6 :: y7 :: y8 :: R).Perm (y7 :: y6 :: y5 :: y8 :: y1 :: y2 :: y3 :: y4 :: R) :=
  (List.perm_append_comm_assoc [y1, y2, y3, y4] [y5, y6, y7, y8] R).trans ((List.reverse_perm [y5, y6, y7]).symm.append_right ([y8, y1, y2, y3, y4] ++ R))
theorem perm8b (y1 y2 y3 y4 y5 y6 y7 y8 : Nat × MB) (R : Hp) : (y1 :: y2 :: y3 :: y4 :: y5 :: y6 :: y7 :: y8 :: R).Perm ((y5 :: y6 :: y7 :: y8 :: y2 :: y1 :: y3 :: y4 :: R) ++ []) := by
  rw [List.append_nil]
  exact (List.perm_append_comm_assoc [y1, y2, y3, y4] [y5, y6, y7, y8] R).trans ((List.Perm.swap y2 y1 ([y3, y4] ++ R)).append_left [y5, y6, y7, y8])
theorem perm4d (y1 y2 y3 y4 : Nat × MB) (R : Hp) : (y1 :: y2 :: y3 :: y4 :: R).Perm ((y4 :: y3 :: y2 :: R) ++ [y1]) :=
  (pm1 y1 (y2 :: y3 :: y4 :: R)).trans (((List.reverse_perm [y2, y3, y4]).symm.append_right R).append_right [y1])
theorem perm8c (y1 y2 y3 y4 y5 y6 y7 y8 : Nat × MB) (R : Hp) : (y1 :: y2 :: y3 :: y4 :: y5 :: y6 :: y7 :: y8 :: R).Perm ((y7 :: y8 :: y5 :: y2 :: R) ++ [y1, y3, y4, y6]) := by
  have h1 : (y1 :: y2 :: y3 :: y4 :: y5 :: y6 :: y7 :: y8 :: R).Perm (([y1, y3, y4, y6] ++ [y2, y5, y7, y8]) ++ R) := by
    show ([y1, y2, y3, y4, y5, y6, y7, y8] ++ R).Perm _
    refine List.Perm.append_right R ?_
    refine .cons _ ?_
    refine (List.perm_append_comm_assoc [y2] [y3, y4] [y5, y6, y7, y8]).trans (.cons _ (.cons _ ?_))
    exact List.perm_append_comm_assoc [y2, y5] [y6] [y7, y8]
  refine h1.trans ?_
  rw [List.append_assoc]
  refine List.perm_append_comm.trans ?_
  refine List.Perm.append_right [y1, y3, y4, y6] ?_
  show (y2 :: y5 :: y7 :: y8 :: R).Perm _
  exact (List.perm_append_comm_assoc [y2, y5] [y7, y8] R).trans (.cons _ (.cons _ (.swap _ _ _)))
set_option maxRecDepth 20000 in
set_option maxHeartbeats 4000000 in
theorem lay37_ct {c s : Nat} (x b : Nat) (a : DA) (l : DL) (c1 c2 c3 c4 c5 : AV) (hA : AOk c a) (hl : LOk b a l) (hsz : a.size = s) (i : Nat) (z : List Int) (hi : i ≤ 100000) (hz : z.length ≤ 1000000) (hc : c + (cks s z).length ≤ 980) :
    ACt Try.prog 37 [pt x 0, iv .i64 (i : Int), .slz .u8 z] ((x, .cells [pt b 0, c1, c2, c3, c4, c5] 6 65) :: dH b a l)
      (fun r F' => ∃ q : LS b (lyR a i (cks s z)).1, r = iv .i64 (lyR a i (cks s z)).2 ∧ F' = (x, .cells [pt b 0, c1, c2, c3, c4, c5] 6 65) :: dH b (lyR a i (cks s z)).1 q.1) := by
  refine ACt.introM Try.func37 rfl (by kernel_rfl) (by simp [Try.ntmps37]) (fun cx a0 w0 ok => ?_)
  simp only [argE, Try.ntmps37, Try.results37] at ok ⊢
  have cZ := size_d b a l
  rw [hsz] at cZ
  have cK := chunks_ct z (s : Int)
  obtain ⟨X, hX⟩ : ∃ X, X = lyW a i (cks s z) := ⟨_, rfl⟩
  refine wpIn_seq (pl_region ok fun K hK => Sm.out ?_)
  have FR : Sm (¬ ((1 : Nat) = 0)) := Sm.mk Nat.one_ne_zero
  first | (have FRx := FR; clear FRx) | have FR := fr0S
  have FA := Sm.mk (TFRfD)
  repeat' first | (apply Sm.mk; refine Ys ?_) | refine WP.seq fun K hK => ?_ | (apply Ob.mk; exact Yo) | refine And.intro (Ob.out ?_) ?_ | refine Y1RfD ?_ | refine YzRfD ?_ | (refine WP.cond rfl (fun hc => ?_) (fun hc => ?_) <;> (try simp only [ZC, reduceCtorEq, ZD] at hc) <;> (try exact absurd hc (by decide)) <;> (try (exfalso; omega))) | refine Rt.mk (And.intro (fun hg => Sm.out ?_) fun hg => Sm.out ?_) | (refine Nu.mk ?_; first | (fail_if_success have := nb1); intro nb1 | (fail_if_success have := nb2); intro nb2 | (fail_if_success have := nb3); intro nb3 | (fail_if_success have := nb4); intro nb4 | (fail_if_success have := nb5); intro nb5 | (fail_if_success have := nb6); intro nb6 | intro nbz) | (apply Yfr; refine Yf FR fun hFRb FR => ?_) | refine Two.mk ?_ ?_ | (apply Yxc; exact Yx) | refine Cs.mk fun hcs => Sm.out ?_ | go_step | omega | (simp only [maxLen_eq]; omega) | exact trivial
  intro a1 w1 ok1
  refine wpIn_seq (wpIn_seq (pl_region ok1 fun K hK => Sm.out ?_))
  have cZ2 := look0 [(nb3, MB.cells [iv .i64 0] 1 28), (nb2, .cells [iv .i64 (i : Int)] 1 3), (nb1, .cells [pt x 0] 1 30), (x, .cells [pt b 0, c1, c2, c3, c4, c5] 6 65)] cZ
  first | (have FRx := FR; clear FRx) | have FR := fr0S
  have FA := Sm.mk (TFRfD)
  repeat' first | (apply Sm.mk; refine Ys ?_) | refine WP.seq fun K hK => ?_ | (apply Ob.mk; exact Yo) | refine And.intro (Ob.out ?_) ?_ | refine Y1RfD ?_ | refine CallV.updM (cZ2) (pmz _) (Sm.out ?_) | ((first | refine ExF.up ?_ (cZ2) (Sm.out ?_) | refine ExG.up ?_ (fun _ => cZ2) (Sm.out ?_) | refine ExG.upJ ?_ (fun _ => cZ2) (Sm.out ?_) | refine ExG.upI ?_ (fun _ => cZ2) (Ob.out ?_) (Sm.out ?_)); focus (exact ⟨_, (pmz _)⟩)) | refine CallV.new2 (F := []) (List.Perm.refl _) (cK) rfl (Sm.out ?_) | refine YzRfD ?_ | (refine WP.cond rfl (fun hc => ?_) (fun hc => ?_) <;> (try simp only [ZC, reduceCtorEq, ZD] at hc) <;> (try exact absurd hc (by decide)) <;> (try (exfalso; omega))) | refine Rt.mk (And.intro (fun hg => Sm.out ?_) fun hg => Sm.out ?_) | (refine Nu.mk ?_; first | (fail_if_success have := nb1); intro nb1 | (fail_if_success have := nb2); intro nb2 | (fail_if_success have := nb3); intro nb3 | (fail_if_success have := nb4); intro nb4 | (fail_if_success have := nb5); intro nb5 | (fail_if_success have := nb6); intro nb6 | intro nbz) | (apply Yfr; refine Yf FR fun hFRb FR => ?_) | refine Two.mk ?_ ?_ | (apply Yxc; exact Yx) | refine Cs.mk fun hcs => Sm.out ?_ | go_step | omega | (simp only [maxLen_eq]; omega) | exact trivial
  intro a2 w2 ok2
  obtain ⟨b3, hb3⟩ : ∃ y, y = nb1 := ⟨_, rfl⟩
  obtain ⟨b4, hb4⟩ : ∃ y, y = nb2 := ⟨_, rfl⟩
  obtain ⟨b6, hb6⟩ : ∃ y, y = nb3 := ⟨_, rfl⟩
  obtain ⟨q, hq⟩ : ∃ y, y = nb4 := ⟨_, rfl⟩
  obtain ⟨p, hp⟩ : ∃ y, y = nb5 := ⟨_, rfl⟩
  have ok3 : Ok cx 34 ⟨[(15, .lit (.func (.func 62) #[] #[.pointer (some ⟨p, 0, none⟩), .pointer (some ⟨q, 0, none⟩)])), (3, pt b3 0), (4, pt b4 0), (6, pt b6 0)],
      (q, .cells [iv .i64 (s : Int)] 1 3) :: (p, .cells [.slz .u8 z] 1 36) :: (b6, .cells [iv .i64 0] 1 28) :: (b4, .cells [iv .i64 (i : Int)] 1 3) :: (b3, .cells [pt x 0] 1 30) :: (x, .cells [pt b 0, c1, c2, c3, c4, c5] 6 65) :: dH b a l⟩ a2 w2 := by
    rw [hb3, hb4, hb6, hq, hp]
    exact ok2.sub (Sub.of_env [] (by exact pmz _) (by simp [look]))
  clear ok2 ok1 ok hb3 hb4 hb6 hq hp FR
  have hs1 : 1 ≤ s := by have := hA.s1; omega
  have hs2 : s ≤ 512 := by have := hA.s2; omega
  have hlen : (cks s z).length ≤ z.length := by
    refine cks_len_le hs1 ?_
    have := Nat.mul_le_mul_left z.length hs1
    omega
  have hFin := lyR_lyW (cks s z) a i
  have hXA := lyW_ok (cks s z) a i c hA
  rw [← hX] at hFin hXA
  obtain ⟨Y, hY0⟩ : ∃ Y, Y = lyR a i (cks s z) := ⟨_, rfl⟩
  rw [← hY0] at hFin ⊢
  refine wpIn_block ?_
  refine range_rule (p := 16) (gf := 62) (lb := [.pointer (some ⟨p, 0, none⟩), .pointer (some ⟨q, 0, none⟩)]) (Γ := EqG b X.1) (st := fun _ => stX X) (pe := fun _ => peX X)
    (H3 := fun g => (q, .cells [iv .i64 (s : Int)] 1 3) :: (p, .cells [.slz .u8 g.z] 1 36) :: (b6, .cells [iv .i64 X.2] 1 28) :: (b4, .cells [iv .i64 (g.i : Int)] 1 3) :: (b3, .cells [pt x 0] 1 30) :: (x, .cells [pt b 0, c1, c2, c3, c4, c5] 6 65) :: dH b X.1 g.q.1)
    ok3 (by simp [look]) ⟨15, rfl⟩ (fun _ => by unfold stX; split <;> simp) (fun _ => by unfold peX; split <;> simp) (enter_of Try.func62 rfl (by kernel_rfl)) ?_ ?_
  · intro fn tmps L D htz hlit
    refine ACt.mono (p := ?post) ?hC ?fin
    case hC =>
      refine chunks1_ct (q := q) (p := p) (b6 := b6) (b4 := b4) (b3 := b3) (x := x) (b := b) (s := s) (slm := .cells [pt b 0, c1, c2, c3, c4, c5] 6 65) (mk := fun st pe => lpO st pe fn tmps #[16] _ _ D) hs1 hs2 ?hy z i c a l hA hl hi hz (by omega) hsz (by omega)
      clear hX hFin hXA hY0 hA hl hi hz hc hsz hlen
      intro z c i k a l hA hk hl hi
      unfold RH
      refine yield_act (env0 := [(3, pt b3 0), (4, pt b4 0), (6, pt b6 0)]) htz (fun w I j => ?_) (by decide) (fun cx => ?_)
      · simp only [look]
        by_cases h3 : j = 3
        · rw [if_pos h3, h3, hlit 3 _ rfl]; exact .lit _
        · rw [if_neg h3]
          by_cases h4 : j = 4
          · rw [if_pos h4, h4, hlit 4 _ rfl]; exact .lit _
          · rw [if_neg h4]
            by_cases h6 : j = 6
            · rw [if_pos h6, h6, hlit 6 _ rfl]; exact .lit _
            · rw [if_neg h6]; exact .any _
      · refine WPr.region (by decide) (Sm.out ?_) (by rintro s ⟨h, _⟩; cases h)
        have FR : Sm (¬ ((1 : Nat) = 0)) := Sm.mk Nat.one_ne_zero
        first | (have FRx := FR; clear FRx) | have FR := fr0S
        have FA := Sm.mk (TFRfD)
        repeat' first | (apply Sm.mk; refine Ys ?_) | refine WP.seq fun K hK => ?_ | (apply Ob.mk; exact Yo) | refine And.intro (Ob.out ?_) ?_ | refine Y1RfD ?_ | refine YzRfD ?_ | (refine WP.cond rfl (fun hc => ?_) (fun hc => ?_) <;> (try simp only [ZC, reduceCtorEq, ZD] at hc) <;> (try exact absurd hc (by decide)) <;> (try (exfalso; omega))) | refine Rt.mk (And.intro (fun hg => Sm.out ?_) fun hg => Sm.out ?_) | (refine Nu.mk ?_; first | (fail_if_success have := nb1); intro nb1 | (fail_if_success have := nb2); intro nb2 | (fail_if_success have := nb3); intro nb3 | (fail_if_success have := nb4); intro nb4 | (fail_if_success have := nb5); intro nb5 | (fail_if_success have := nb6); intro nb6 | intro nbz) | (apply Yfr; refine Yf FR fun hFRb FR => ?_) | refine Two.mk ?_ ?_ | (apply Yxc; exact Yx) | refine Cs.mk fun hcs => Sm.out ?_ | go_step | omega | (simp only [maxLen_eq]; omega) | exact trivial
        refine WPr.block ?_
        refine WPr.sub (s' := ⟨[(7, .slz .u8 c), (3, pt b3 0), (4, pt b4 0), (6, pt b6 0)], [(b3, MB.cells [pt x 0] 1 30), (b4, .cells [iv .i64 (i : Int)] 1 3), (b6, .cells [iv .i64 0] 1 28), (x, .cells [pt b 0, c1, c2, c3, c4, c5] 6 65), (L, lpO .busy none fn tmps #[16] _ _ D), (D, .obj (.deferred (some []))), (q, .cells [iv .i64 (s : Int)] 1 3), (p, .cells [.slz .u8 z] 1 36)] ++ dH b a l⟩) (Sub.of_env [] (by rw [List.append_nil]; exact perm8 _ _ _ _ _ _ _ _ _) (by simp [look])) ?_
        refine WPr.nd fun hnd => ?_
        simp only [List.cons_append, List.nil_append, ndF, fresh_cons, and_true, ne_eq] at hnd
        have f1 := hnd.1.1
        have f2 := hnd.1.2.1
        have f3 := hnd.1.2.2.1
        have f4 := hnd.2.1.1
        have f5 := hnd.2.1.2.1
        have f6 := hnd.2.2.1.1
        clear hnd
        have cW := write_d hA hl (by omega) (i : Int) c
        obtain ⟨C, hC⟩ : ∃ C, C = wrC a (i : Int) c.length := ⟨_, rfl⟩
        rw [← hC] at cW ⊢
        refine WPr.seq fun K6 hK6 => ?_
        refine WPr.seq fun K4 hK4 => ?_
        generalize hLP : lpO .busy none fn tmps #[16] _ _ D = LP
        have cW8 := lift0 [(b3, MB.cells [pt x 0] 1 30), (b4, .cells [iv .i64 (i : Int)] 1 3), (b6, .cells [iv .i64 0] 1 28), (x, .cells [pt b 0, c1, c2, c3, c4, c5] 6 65), (L, LP), (D, .obj (.deferred (some []))), (q, .cells [iv .i64 (s : Int)] 1 3), (p, .cells [.slz .u8 z] 1 36)] cW
        refine WPr.drawKk 6 mixed (by decide +kernel) (by decide) (Sm.out ?_)
        first | (have FRx := FR; clear FRx) | have FR := fr0S
        have FA := Sm.mk (And.intro TFRfD (And.intro f1 (And.intro f2 (And.intro f3 (And.intro f4 (And.intro f5 f6))))))
        repeat' first | (apply Sm.mk; refine Ys ?_) | refine WP.seq fun K hK => ?_ | (apply Ob.mk; exact Yo) | refine And.intro (Ob.out ?_) ?_ | refine Y1RfD ?_ | (refine CallV.exM (cW8) (pmz _) (fun g => Sm.out ?_)) | refine YzRfD ?_ | (refine WP.cond rfl (fun hc => ?_) (fun hc => ?_) <;> (try simp only [ZC, reduceCtorEq, ZD] at hc) <;> (try exact absurd hc (by decide)) <;> (try (exfalso; omega))) | refine Rt.mk (And.intro (fun hg => Sm.out ?_) fun hg => Sm.out ?_) | (refine Nu.mk ?_; first | (fail_if_success have := nb1); intro nb1 | (fail_if_success have := nb2); intro nb2 | (fail_if_success have := nb3); intro nb3 | (fail_if_success have := nb4); intro nb4 | (fail_if_success have := nb5); intro nb5 | (fail_if_success have := nb6); intro nb6 | intro nbz) | (apply Yfr; refine Yf FR fun hFRb FR => ?_) | refine Two.mk ?_ ?_ | (apply Yxc; exact Yx) | refine Cs.mk fun hcs => Sm.out ?_ | go_step | omega | (simp only [maxLen_eq]; omega) | exact trivial
        obtain ⟨l2, hl2⟩ := g
        try simp only [List.append_nil]
        refine WPr.sub (s' := ⟨[(8, iv .i64 C), (3, pt b3 0), (4, pt b4 0), (6, pt b6 0)], (b4, .cells [iv .i64 (i : Int)] 1 3) :: (b6, .cells [iv .i64 0] 1 28) :: (b3, MB.cells [pt x 0] 1 30) :: (x, .cells [pt b 0, c1, c2, c3, c4, c5] 6 65) :: (L, LP) :: (D, .obj (.deferred (some []))) :: (q, .cells [iv .i64 (s : Int)] 1 3) :: (p, .cells [.slz .u8 z] 1 36) :: dH b (wrA a (i : Int) c) l2⟩) (Sub.of_env [] (by rw [List.append_nil]; exact List.perm_append_comm_assoc [_] [_, _] _) (by simp [look])) ?_
        by_cases hC0 : C = 0
        · have kC : (C != 0) = false := by rw [hC0]; rfl
          have w1 : IntKind.i64.wrap ((i : Int) + 1) = ((i + 1 : Nat) : Int) := by rw [wrap_i64 (by omega) (by omega)]; omega
          refine WPr.seq fun K5 hK5 => ?_
          refine WPr.region (by decide) (Sm.out ?_)
          first | (have FRx := FR; clear FRx) | have FR := fr0S
          have FA := Sm.mk (And.intro TFRfD kC)
          repeat' first | (apply Sm.mk; refine Ys ?_) | refine WP.seq fun K hK => ?_ | (apply Ob.mk; exact Yo) | refine And.intro (Ob.out ?_) ?_ | refine Y1RfD ?_ | refine YzRfD ?_ | (refine WP.cond rfl (fun hc => ?_) (fun hc => ?_) <;> (try simp only [ZC, reduceCtorEq, ZD] at hc) <;> (try exact absurd hc (by decide)) <;> (try (exfalso; omega))) | refine Rt.mk (And.intro (fun hg => Sm.out ?_) fun hg => Sm.out ?_) | (refine Nu.mk ?_; first | (fail_if_success have := nb1); intro nb1 | (fail_if_success have := nb2); intro nb2 | (fail_if_success have := nb3); intro nb3 | (fail_if_success have := nb4); intro nb4 | (fail_if_success have := nb5); intro nb5 | (fail_if_success have := nb6); intro nb6 | intro nbz) | (apply Yfr; refine Yf FR fun hFRb FR => ?_) | refine Two.mk ?_ ?_ | (apply Yxc; exact Yx) | refine Cs.mk fun hcs => Sm.out ?_ | go_step | omega | (simp only [maxLen_eq]; omega) | exact trivial
          refine WPr.cond (t := false) (by simp [opd, look]) (fun h => by cases h) (fun _ => WPr.skip ?_)
          refine hK6 _ ?_
          refine WPr.region (by decide) (Sm.out ?_)
          first | (have FRx := FR; clear FRx) | have FR := fr0S
          have FA := Sm.mk (And.intro TFRfD w1)
          repeat' first | (apply Sm.mk; refine Ys ?_) | refine WP.seq fun K hK => ?_ | (apply Ob.mk; exact Yo) | refine And.intro (Ob.out ?_) ?_ | refine Y1RfD ?_ | refine YzRfD ?_ | (refine WP.cond rfl (fun hc => ?_) (fun hc => ?_) <;> (try simp only [ZC, reduceCtorEq, ZD] at hc) <;> (try exact absurd hc (by decide)) <;> (try (exfalso; omega))) | refine Rt.mk (And.intro (fun hg => Sm.out ?_) fun hg => Sm.out ?_) | (refine Nu.mk ?_; first | (fail_if_success have := nb1); intro nb1 | (fail_if_success have := nb2); intro nb2 | (fail_if_success have := nb3); intro nb3 | (fail_if_success have := nb4); intro nb4 | (fail_if_success have := nb5); intro nb5 | (fail_if_success have := nb6); intro nb6 | intro nbz) | (apply Yfr; refine Yf FR fun hFRb FR => ?_) | refine Two.mk ?_ ?_ | (apply Yxc; exact Yx) | refine Cs.mk fun hcs => Sm.out ?_ | go_step | omega | (simp only [maxLen_eq]; omega) | exact trivial
          subst hLP
          exact ⟨_, Sub.of_env [] (perm8b _ _ _ _ _ _ _ _ _) (by simp), .inl ⟨hC0, rfl, ⟨l2, hl2⟩, rfl⟩⟩
        · have kC : (C != 0) = true := by simpa using hC0
          refine WPr.seq fun K5 hK5 => ?_
          refine WPr.region (by decide) (Sm.out ?_)
          first | (have FRx := FR; clear FRx) | have FR := fr0S
          have FA := Sm.mk (And.intro TFRfD kC)
          repeat' first | (apply Sm.mk; refine Ys ?_) | refine WP.seq fun K hK => ?_ | (apply Ob.mk; exact Yo) | refine And.intro (Ob.out ?_) ?_ | refine Y1RfD ?_ | refine YzRfD ?_ | (refine WP.cond rfl (fun hc => ?_) (fun hc => ?_) <;> (try simp only [ZC, reduceCtorEq, ZD] at hc) <;> (try exact absurd hc (by decide)) <;> (try (exfalso; omega))) | refine Rt.mk (And.intro (fun hg => Sm.out ?_) fun hg => Sm.out ?_) | (refine Nu.mk ?_; first | (fail_if_success have := nb1); intro nb1 | (fail_if_success have := nb2); intro nb2 | (fail_if_success have := nb3); intro nb3 | (fail_if_success have := nb4); intro nb4 | (fail_if_success have := nb5); intro nb5 | (fail_if_success have := nb6); intro nb6 | intro nbz) | (apply Yfr; refine Yf FR fun hFRb FR => ?_) | refine Two.mk ?_ ?_ | (apply Yxc; exact Yx) | refine Cs.mk fun hcs => Sm.out ?_ | go_step | omega | (simp only [maxLen_eq]; omega) | exact trivial
          refine WPr.cond (t := true) (by simp [opd, look]) (fun _ => ?_) (fun h => by cases h)
          refine WPr.seq fun K7 hK7 => ?_
          refine WPr.region (by decide) (Sm.out ?_)
          first | (have FRx := FR; clear FRx) | have FR := fr0S
          have FA := Sm.mk (And.intro TFRfD (And.intro f4 (And.intro f5 f6)))
          repeat' first | (apply Sm.mk; refine Ys ?_) | refine WP.seq fun K hK => ?_ | (apply Ob.mk; exact Yo) | refine And.intro (Ob.out ?_) ?_ | refine Y1RfD ?_ | refine YzRfD ?_ | (refine WP.cond rfl (fun hc => ?_) (fun hc => ?_) <;> (try simp only [ZC, reduceCtorEq, ZD] at hc) <;> (try exact absurd hc (by decide)) <;> (try (exfalso; omega))) | refine Rt.mk (And.intro (fun hg => Sm.out ?_) fun hg => Sm.out ?_) | (refine Nu.mk ?_; first | (fail_if_success have := nb1); intro nb1 | (fail_if_success have := nb2); intro nb2 | (fail_if_success have := nb3); intro nb3 | (fail_if_success have := nb4); intro nb4 | (fail_if_success have := nb5); intro nb5 | (fail_if_success have := nb6); intro nb6 | intro nbz) | (apply Yfr; refine Yf FR fun hFRb FR => ?_) | refine Two.mk ?_ ?_ | (apply Yxc; exact Yx) | refine Cs.mk fun hcs => Sm.out ?_ | go_step | omega | (simp only [maxLen_eq]; omega) | exact trivial
          refine WPr.ret ?_
          subst hLP
          exact ⟨_, Sub.of_env [] (perm8b _ _ _ _ _ _ _ _ _) (by simp), .inr ⟨hC0, rfl, ⟨l2, hl2⟩, rfl⟩⟩
    case fin =>
      rintro r F' ⟨g, -, h⟩
      subst hX
      exact ⟨g, h⟩
  · intro g L D o a' w' hd ok4
    obtain ⟨zz, ii, ⟨l4, hl4⟩⟩ := g
    have ok5 := ok4.sub (s' := ⟨[(3, pt b3 0), (6, pt b6 0)], (b3, .cells [pt x 0] 1 30) :: (x, .cells [pt b 0, c1, c2, c3, c4, c5] 6 65) :: (b6, .cells [iv .i64 X.2] 1 28) :: (D, .obj (.deferred (some []))) :: dH b X.1 l4⟩) (Sub.of_env [_, _, _, _] (by exact perm8c _ _ _ _ _ _ _ _ _) (by simp [look]))
    clear ok4 ok3
    have hnd := ndF_of ok5.world.nodup
    simp only [ndF, fresh_cons, and_true, ne_eq] at hnd
    have f1 := hnd.1.1
    have f2 := hnd.1.2.1
    have f3 := hnd.2.1.1
    clear hnd
    have FR : Sm (¬ ((1 : Nat) = 0)) := Sm.mk Nat.one_ne_zero
    by_cases hX0 : X.2 = 0
    · have hpe : peX X = none := by unfold peX; rw [if_pos hX0]
      rw [hpe]
      rw [if_pos hX0] at hFin
      subst hFin
      have ha' : a' = dfA [mkO D] { a' with defers := [] } := by
        obtain ⟨t, d⟩ := a'
        simp only at hd
        subst hd
        rfl
      rw [ha']
      have cY := lift0 [(b3, MB.cells [pt x 0] 1 30), (x, .cells [pt b 0, c1, c2, c3, c4, c5] 6 65), (b6, .cells [iv .i64 X.2] 1 28), (D, .obj (.deferred (some [])))] (sync_d hXA hl4 (by omega))
      refine wpIn_seq (df_regionK [mkO D] (by decide) ok5 fun K hK => Sm.out ?_)
      first | (have FRx := FR; clear FRx) | have FR := fr0S
      have FA := Sm.mk (And.intro TFRfD (And.intro f1 (And.intro f2 f3)))
      repeat' first | (apply Sm.mk; refine Ys ?_) | refine WP.seq fun K hK => ?_ | (apply Ob.mk; exact Yo) | refine And.intro (Ob.out ?_) ?_ | refine Y1RfD ?_ | (refine CallV.exM (cY) (pmz _) (fun g => Sm.out ?_)) | refine YzRfD ?_ | (refine WP.cond rfl (fun hc => ?_) (fun hc => ?_) <;> (try simp only [ZC, reduceCtorEq, ZD] at hc) <;> (try exact absurd hc (by decide)) <;> (try (exfalso; omega))) | refine Rt.mk (And.intro (fun hg => Sm.out ?_) fun hg => Sm.out ?_) | (refine Nu.mk ?_; first | (fail_if_success have := nb1); intro nb1 | (fail_if_success have := nb2); intro nb2 | (fail_if_success have := nb3); intro nb3 | (fail_if_success have := nb4); intro nb4 | (fail_if_success have := nb5); intro nb5 | (fail_if_success have := nb6); intro nb6 | intro nbz) | (apply Yfr; refine Yf FR fun hFRb FR => ?_) | refine Two.mk ?_ ?_ | (apply Yxc; exact Yx) | refine Cs.mk fun hcs => Sm.out ?_ | go_step | omega | (simp only [maxLen_eq]; omega) | exact trivial
      obtain ⟨l5, hl5⟩ := g
      try simp only [List.append_nil]
      intro a5 w5 ok6
      have ok7 := ok6.sub (s' := ⟨[(6, pt b6 0)], (D, .obj (.deferred (some []))) :: (b6, .cells [iv .i64 (syC X.1)] 1 28) :: (x, .cells [pt b 0, c1, c2, c3, c4, c5] 6 65) :: dH b (syA X.1) l5⟩) (Sub.of_env [_] (perm4d _ _ _ _ _) (by simp [look]))
      refine wpIn_ret ⟨.inr rfl, D, _, _, by show a5.defers ++ [mkO D] = _; rw [ok6.defers]; rfl, ⟨rfl, ok7.size, ok7.reps, ok7.world⟩, ?_⟩
      (refine OutQ.drop _ _ (pm1 _ _) (by simp only [resv, ZK, look, loadv, loadn, loadnm, load1, load1m, hget, ↓reduceIte, Nat.reduceEqDiff, Nat.reduceAdd, Nat.reduceMul, Nat.reduceLeDiff, Nat.reduceLT, reduceCtorEq, TFRfD, FR.out]) ⟨⟨l5, hl5⟩, (by simp only [resv, resA, ZK, look, loadv, loadn, loadnm, load1, load1m, hget, ↓reduceIte, Nat.reduceEqDiff, Nat.reduceAdd, Nat.reduceMul, Nat.reduceLeDiff, Nat.reduceLT, reduceCtorEq, TFRfD, FR.out]; first | done | rfl), rfl⟩)
    · have hpe : peX X = some .ret := by unfold peX; rw [if_neg hX0]
      rw [hpe]
      rw [if_neg hX0] at hFin
      subst hFin
      have ok7 := ok5.sub (s' := ⟨[(6, pt b6 0)], (D, .obj (.deferred (some []))) :: (b6, .cells [iv .i64 Y.2] 1 28) :: (x, .cells [pt b 0, c1, c2, c3, c4, c5] 6 65) :: dH b Y.1 l4⟩) (Sub.of_env [_] (perm4d _ _ _ _ _) (by simp [look]))
      refine ⟨.inr rfl, D, _, _, hd, ⟨rfl, ok7.size, ok7.reps, ok7.world⟩, ?_⟩
      (refine OutQ.drop _ _ (pm1 _ _) (by simp only [resv, ZK, look, loadv, loadn, loadnm, load1, load1m, hget, ↓reduceIte, Nat.reduceEqDiff, Nat.reduceAdd, Nat.reduceMul, Nat.reduceLeDiff, Nat.reduceLT, reduceCtorEq, TFRfD, FR.out]) ⟨⟨l4, hl4⟩, (by simp only [resv, resA, ZK, look, loadv, loadn, loadnm, load1, load1m, hget, ↓reduceIte, Nat.reduceEqDiff, Nat.reduceAdd, Nat.reduceMul, Nat.reduceLeDiff, Nat.reduceLT, reduceCtorEq, TFRfD, FR.out]; first | done | rfl), rfl⟩)
end Go.Proofs.Yteoajodoejoccaa
