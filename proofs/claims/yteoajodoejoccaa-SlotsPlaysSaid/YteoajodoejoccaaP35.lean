/-
  The walks and the laws that the statement leans on, part 35.
-/
import Derived.Test.YteoajodoejoccaaP10
import Derived.Test.YteoajodoejoccaaP20
import Derived.Test.YteoajodoejoccaaP23
import Derived.Test.YteoajodoejoccaaP27
import Derived.Test.YteoajodoejoccaaP28
import Derived.Test.YteoajodoejoccaaP34
namespace Go.Proofs.Yteoajodoejoccaa
open Go Wi
set_option linter.unusedVariables false
set_option linter.unusedSimpArgs false
set_option linter.defProp false
def TFPtA :=
  And.intro (And.intro (And.intro (And.intro (And.intro tyc0 (And.intro tyc3 zmb3)) (And.intro tyc4 (And.intro zmb4 tyc5))) (And.intro (And.intro zmb5 (And.intro tyc25 mth25_45)) (And.intro (And.intro mth25_44 mth25_43) (And.intro con25 zmb25)))) (And.intro (And.intro (And.intro tyc28 (And.intro zmb28 tyc30)) (And.intro mth30_37 (And.intro con30 zmb30))) (And.intro (And.intro tyc35 (And.intro zmb35 tyc36)) (And.intro (And.intro elt36 mkz36) (And.intro apT36 elk36))))) (And.intro (And.intro (And.intro (And.intro zmb36 (And.intro tyc65 foff65_0)) (And.intro fpart65_0 (And.intro foff65_1 fpart65_1))) (And.intro (And.intro foff65_2 (And.intro fpart65_2 foff65_3)) (And.intro (And.intro fpart65_3 foff65_4) (And.intro fpart65_4 foff65_5)))) (And.intro (And.intro (And.intro fpart65_5 (And.intro zmb65 bldT65)) (And.intro Try.underlying0 (And.intro Try.underlying3 Try.underlying4))) (And.intro (And.intro Try.underlying5 (And.intro Try.underlying25 Try.underlying28)) (And.intro (And.intro Try.underlying30 Try.underlying35) (And.intro Try.underlying36 Try.underlying65)))))
theorem Y1PtA {G R : Prop} (r : R) (h : R → G := by intro r; first | (apply WP.region; exact rvc_sound _ _ (Sm.out r)) | exact WP.drawKk 9 mixed (by decide +kernel) (Sm.out r) | exact WP.drawK rfl mixed (by decide +kernel) (Sm.out r) | (apply WP.block; exact r) | (apply WP.skip; exact Yq r) | (apply WP.exit; exact Yq r) | (apply WP.ret; exact Sm.out r) | exact WP.cond rfl (fun _ => r) (fun hg => absurd hg (by decide)) | exact WP.cond rfl (fun hg => absurd hg (by decide)) (fun _ => r) | exact Rt.mk (And.intro (fun _ => Sm.out r) fun hg => absurd hg (by decide)) | exact Rt.mk (And.intro (fun hg => absurd hg (by decide)) fun _ => Sm.out r)) : G := h r
theorem YzPtA {G R : Prop} (r : R) (h : R → G := by intro r; first | (apply ExG.no; exact Sm.out r) | (apply Or.inl; apply ExG.no; exact Sm.out r) | exact Or.inl (And.intro (fun hg => absurd hg (by decide)) (ExG.no (Sm.out r)))) : G := h r
def slO (b f m : Nat) (e : Nat × List Int) (ov : Bool) : MB := .cells [pt b 0, iv .i64 (f : Int), iv .i64 (m : Int), nu e.1, slW e, bv ov] 6 65
def numB (e : Nat) : Bs := (putL 0 e).map fun x => UInt8.ofNat x.toNat
theorem ub_numB (e : Nat) (he : e < 18446744073709551616) : ub (numB e) = putL 0 e := by
  have hb := by_putL e he
  unfold ub numB
  rw [List.map_map]
  conv => rhs; rw [← List.map_id (putL 0 e)]
  refine List.map_congr_left fun x hx => ?_
  have := hb x hx
  simp only [Function.comp, id]
  obtain ⟨n, rfl⟩ := Int.eq_ofNat_of_zero_le this.1
  simp
  omega
def frm (e : Nat) (z : Bs) : Bs := frameB (numB e ++ z)
theorem numB_len (e : Nat) (he : e < 18446744073709551616) : (numB e).length ≤ 9 := by
  unfold numB
  rw [List.length_map]
  exact putL_len 0 e he
set_option maxRecDepth 20000 in
theorem slmost_ct (y b m : Nat) {a : DA} {l : DL} (f : Nat) (e : Nat × List Int) (ov : Bool) (h : a.size ≤ 512) (hm : m ≤ 400) : ACt Try.prog 13 [pt y 0] ((y, slO b f m e ov) :: dH b a l) (fun r F' => r = iv .i64 (((m * a.size : Nat) : Int) - 19) ∧ F' = (y, slO b f m e ov) :: dH b a l) := by
  have cZ := look0 [(y, slO b f m e ov)] (size_d b a l)
  obtain ⟨s, hs⟩ : ∃ s, s = a.size := ⟨_, rfl⟩
  rw [← hs] at cZ h ⊢
  have hms : m * s ≤ 400 * 512 := Nat.mul_le_mul hm h
  have w1 : IntKind.i64.wrap ((m : Int) * (s : Int)) = ((m * s : Nat) : Int) := by rw [← Int.natCast_mul]; exact wrap_i64 (by omega) (by omega)
  have w2 : IntKind.i64.wrap (((m * s : Nat) : Int) - 19) = ((m * s : Nat) : Int) - 19 := wrap_i64 (by omega) (by omega)
  unfold slO at cZ ⊢
  refine ACt.intro Try.func13 rfl (by kernel_rfl) (by simp [Try.ntmps13]) (fun cx => ?_)
  simp only [argE, Try.ntmps13, Try.results13]
  first | (have FRx := FR; clear FRx) | have FR := fr0S
  have FA := Sm.mk (And.intro TFPtA (And.intro w1 w2))
  repeat' first | (apply Sm.mk; refine Ys ?_) | refine WP.seq fun K hK => ?_ | (apply Ob.mk; exact Yo) | refine And.intro (Ob.out ?_) ?_ | refine Y1PtA ?_ | refine CallV.updM (cZ) (pmz _) (Sm.out ?_) | ((first | refine ExF.up ?_ (cZ) (Sm.out ?_) | refine ExG.up ?_ (fun _ => cZ) (Sm.out ?_) | refine ExG.upJ ?_ (fun _ => cZ) (Sm.out ?_) | refine ExG.upI ?_ (fun _ => cZ) (Ob.out ?_) (Sm.out ?_)); focus (exact ⟨_, (pmz _)⟩)) | refine YzPtA ?_ | (refine WP.cond rfl (fun hc => ?_) (fun hc => ?_) <;> (try simp only [ZC, reduceCtorEq, ZD] at hc) <;> (try exact absurd hc (by decide)) <;> (try (exfalso; omega))) | refine Rt.mk (And.intro (fun hg => Sm.out ?_) fun hg => Sm.out ?_) | (refine Nu.mk ?_; first | (fail_if_success have := nb1); intro nb1 | (fail_if_success have := nb2); intro nb2 | (fail_if_success have := nb3); intro nb3 | (fail_if_success have := nb4); intro nb4 | (fail_if_success have := nb5); intro nb5 | (fail_if_success have := nb6); intro nb6 | (fail_if_success have := nb7); intro nb7 | (fail_if_success have := nb8); intro nb8 | intro nbz) | (apply Yfr; refine Yf FR fun hFRb FR => ?_) | refine Two.mk ?_ ?_ | (apply Yxc; exact Yx) | refine Cs.mk fun hcs => Sm.out ?_ | go_step | omega | (simp only [maxLen_eq]; omega) | exact trivial | refine Or.inr (Rt.mk (And.intro (fun hg => Sm.out ?_) fun hg => Sm.out ?_))
  (refine OutQ.drop _ _ (pmz _) (by simp only [resv, ZK, look, loadv, loadn, loadnm, load1, load1m, hget, ↓reduceIte, Nat.reduceEqDiff, Nat.reduceAdd, Nat.reduceMul, Nat.reduceLeDiff, Nat.reduceLT, reduceCtorEq, TFPtA, FR.out]) ⟨(by simp only [resv, resA, ZK, look, loadv, loadn, loadnm, load1, load1m, hget, ↓reduceIte, Nat.reduceEqDiff, Nat.reduceAdd, Nat.reduceMul, Nat.reduceLeDiff, Nat.reduceLT, reduceCtorEq, TFPtA, FR.out]; first | done | rfl), rfl⟩)
theorem sy_size (a : DA) : (syA a).size = a.size := by
  unfold syA; split; rfl; split <;> rfl
theorem lyR_size : ∀ (cs : List (List Int)) (a : DA) (i : Nat), (lyR a i cs).1.size = a.size
  | [], a, i => sy_size a
  | z :: r, a, i => by
    unfold lyR
    split
    · rw [lyR_size r, wr_size]
    · exact wr_size a _ _
def puX (f m s : Nat) (E : Nat) (a : DA) (z : Bs) : DA × Int :=
  if (fmX (f + (E + 1) % 2 * m) s m a).2 = 0 then lyR (fmX (f + (E + 1) % 2 * m) s m a).1 (f + (E + 1) % 2 * m) (cks s (ub (frm (E + 1) z))) else fmX (f + (E + 1) % 2 * m) s m a
set_option maxRecDepth 20000 in
set_option maxHeartbeats 4000000 in
theorem put_go {c s n : Nat} (y b f m : Nat) (E : Nat × List Int) (a : DA) (l : DL) (hA : AOk c a) (hl : LOk b a l) (hs : a.size = s) (hd : a.dk = false) (hn : a.n = n) (hfm : f + 2 * m ≤ n) (hm : 1 ≤ m)
    (hE : E.1 + 1 < 18446744073709551616) (z : Bs) (hz : z.length ≤ 2000) (hzm : z.length + 19 ≤ m * s) (hc : c + 2 * m ≤ 900) :
    ((puX f m s E.1 a z).2 = 0 → ACt Try.prog 15 [pt y 0, .slz .u8 (ub z)] ((y, slO b f m E false) :: dH b a l) (fun r F' => ∃ q : LS b (puX f m s E.1 a z).1, r = iv .i64 0 ∧ F' = (y, slO b f m (E.1 + 1, ub z) false) :: dH b (puX f m s E.1 a z).1 q.1)) ∧
    ((puX f m s E.1 a z).2 ≠ 0 → ACt Try.prog 15 [pt y 0, .slz .u8 (ub z)] ((y, slO b f m E false) :: dH b a l) (fun r F' => ∃ q : LS b (puX f m s E.1 a z).1, r = iv .i64 (puX f m s E.1 a z).2 ∧ F' = (y, slO b f m E true) :: dH b (puX f m s E.1 a z).1 q.1)) := by
  have hn2 := hA.n2
  have hs1 := hA.s1
  have hs2 := hA.s2
  obtain ⟨e, eb⟩ := E
  simp only at hE ⊢
  have cD := look0 [(y, slO b f m (e, eb) false)] (dark_d b a l)
  rw [hd] at cD
  have cM := slmost_ct y b m (a := a) (l := l) f (e, eb) false (by omega) (by omega)
  rw [hs] at cM
  obtain ⟨at_, hat⟩ : ∃ k, k = f + (e + 1) % 2 * m := ⟨_, rfl⟩
  have hpm : (e + 1) % 2 * m ≤ 1 * m := Nat.mul_le_mul_right _ (by omega)
  have cZ := zero_ct b a l hA hl at_ m (by omega) (by omega)
  rw [hs] at cZ
  have cZ2 := lift0 [(y, slO b f m (e, eb) false)] cZ
  generalize hZ' : fmX at_ s m a = Z at cZ2
  have hZ := hZ'.symm
  have hms : m * s ≤ 400 * 512 := Nat.mul_le_mul (by omega) (by omega)
  have hZA : AOk (c + m + 1) Z.1 := by
    rw [hZ]
    refine (lyR_ok _ a _ c hA).le ?_
    have := cks_m (m := m) (by omega) (z := List.replicate (m * s) (0 : Int)) (s := s) (by simp)
    omega
  have hZs : Z.1.size = s := by rw [hZ]; exact (lyR_size _ a _).trans hs
  have cN := num_nil (e + 1) hE
  have hNl := numB_len (e + 1) hE
  rw [← ub_numB (e + 1) hE] at cN
  have cF := frame_ct (numB (e + 1) ++ z) (by rw [List.length_append]; omega)
  have hFl : (ub (frm (e + 1) z)).length = (numB (e + 1)).length + z.length + 10 := by unfold frm; rw [ub_len, frame_len, List.length_append]
  have hcl : (cks s (ub (frm (e + 1) z))).length ≤ m := cks_len_le (by omega) (by rw [hFl]; omega)
  have cL := fun (l1 : DL) (hl1 : LOk b Z.1 l1) => lay37_ct y b Z.1 l1 (iv .i64 (f : Int)) (iv .i64 (m : Int)) (nu e) (slW (e, eb)) (bv false) hZA hl1 hZs at_ (ub (frm (e + 1) z)) (by omega) (by rw [hFl]; omega) (by omega)
  unfold puX
  rw [← hat, ← hZ]
  obtain ⟨F, hF⟩ : ∃ F, F = ub (frm (e + 1) z) := ⟨_, rfl⟩
  rw [← hF] at cL ⊢
  rw [show frameB (numB (e + 1) ++ z) = frm (e + 1) z from rfl, ← hF, ub_append] at cF
  have zl := ub_len z
  have nl_ := ub_len (numB (e + 1))
  have k1 : decide ((z.length : Int) > ((m * s : Nat) : Int) - 19) = false := decide_eq_false (by omega)
  have k2 : ((e : Int) == 18446744073709551615) = false := beq_eq_false_iff_ne.2 (by omega)
  have w1 : IntKind.u64.wrap ((e : Int) + 1) = ((e + 1 : Nat) : Int) := by rw [wrap_u64 (by omega) (by omega)]; omega
  have tm : Int.tmod ((e + 1 : Nat) : Int) 2 = (((e + 1) % 2 : Nat) : Int) := by rw [Int.tmod_eq_emod_of_nonneg (by omega)]; omega
  obtain ⟨p, hp⟩ : ∃ p, p = (e + 1) % 2 := ⟨_, rfl⟩
  rw [← hp] at tm hat hpm
  have w3 : IntKind.i64.wrap (p : Int) = (p : Int) := wrap_i64 (by omega) (by omega)
  have w4 : IntKind.i64.wrap ((p : Int) * (m : Int)) = ((p * m : Nat) : Int) := by rw [← Int.natCast_mul]; exact wrap_i64 (by omega) (by omega)
  have w5 : IntKind.i64.wrap ((f : Int) + ((p * m : Nat) : Int)) = (at_ : Int) := by rw [wrap_i64 (by omega) (by omega)]; omega
  have cC := bcl_ct (ub z) (by rw [zl]; omega)
  have y0 : ((0 : Int) == 0) = true := rfl
  have y1 : ((0 : Int) != 0) = false := rfl
  unfold slO at cD cM cZ2 ⊢
  by_cases hZ0 : Z.2 = 0
  · rw [if_pos hZ0]
    rw [hZ0] at cZ2
    generalize hY : lyR Z.1 at_ (cks s F) = Y at cL ⊢
    refine ⟨fun hY0 => ?_, fun hY0 => ?_⟩
    · have kY : (Y.2 != 0) = false := by rw [hY0]; rfl
      have eW : slW (e + 1, ub z) = .slz .u8 (ub z) := by unfold slW; rw [if_neg (by simp)]
      rw [eW]
      refine ACt.intro Try.func15 rfl (by kernel_rfl) (by simp [Try.ntmps15]) (fun cx => ?_)
      simp only [argE, Try.ntmps15, Try.results15]
      first | (have FRx := FR; clear FRx) | have FR := fr0S
      have FA := Sm.mk (And.intro TFPtA (And.intro k1 (And.intro k2 (And.intro zl (And.intro w1 (And.intro tm (And.intro w3 (And.intro w4 w5))))))))
      repeat' first | (apply Sm.mk; refine Ys ?_) | refine WP.seq fun K hK => ?_ | (apply Ob.mk; exact Yo) | refine And.intro (Ob.out ?_) ?_ | ((fail_if_success (show WP _ _ _ (.region 13 _ _) _ _)); refine Y1PtA ?_) | refine CallV.updM (cD) (pmz _) (Sm.out ?_) | ((first | refine ExF.up ?_ (cD) (Sm.out ?_) | refine ExG.up ?_ (fun _ => cD) (Sm.out ?_) | refine ExG.upJ ?_ (fun _ => cD) (Sm.out ?_) | refine ExG.upI ?_ (fun _ => cD) (Ob.out ?_) (Sm.out ?_)); focus (exact ⟨_, (pmz _)⟩)) | refine CallV.updM (cM) (pmz _) (Sm.out ?_) | ((first | refine ExF.up ?_ (cM) (Sm.out ?_) | refine ExG.up ?_ (fun _ => cM) (Sm.out ?_) | refine ExG.upJ ?_ (fun _ => cM) (Sm.out ?_) | refine ExG.upI ?_ (fun _ => cM) (Ob.out ?_) (Sm.out ?_)); focus (exact ⟨_, (pmz _)⟩)) | (refine CallV.exM (cZ2) (pmz _) (fun g => Sm.out ?_)) | refine YzPtA ?_ | (refine WP.cond rfl (fun hc => ?_) (fun hc => ?_) <;> (try simp only [ZC, reduceCtorEq, ZD] at hc) <;> (try exact absurd hc (by decide)) <;> (try (exfalso; omega))) | refine Rt.mk (And.intro (fun hg => Sm.out ?_) fun hg => Sm.out ?_) | (refine Nu.mk ?_; first | (fail_if_success have := nb1); intro nb1 | (fail_if_success have := nb2); intro nb2 | (fail_if_success have := nb3); intro nb3 | (fail_if_success have := nb4); intro nb4 | (fail_if_success have := nb5); intro nb5 | (fail_if_success have := nb6); intro nb6 | (fail_if_success have := nb7); intro nb7 | (fail_if_success have := nb8); intro nb8 | intro nbz) | (apply Yfr; refine Yf FR fun hFRb FR => ?_) | refine Two.mk ?_ ?_ | (apply Yxc; exact Yx) | refine Cs.mk fun hcs => Sm.out ?_ | go_step | omega | (simp only [maxLen_eq]; omega) | exact trivial | refine Or.inr (Rt.mk (And.intro (fun hg => Sm.out ?_) fun hg => Sm.out ?_))
      obtain ⟨l1, hl1⟩ := g
      try simp only [List.append_nil]
      have cL := cL l1 hl1
      refine WP.sub (s' := ⟨[(0, pt y 0), (1, .slz .u8 (ub z)), (5, nu (e + 1)), (6, iv .i64 (at_ : Int)), (7, iv .i64 0)], (y, .cells [pt b 0, iv .i64 (f : Int), iv .i64 (m : Int), nu e, slW (e, eb), bv false] 6 65) :: dH b Z.1 l1⟩) (Sub.of_env [] (by exact pmz _) (by simp [look])) ?_
      first | (have FRx := FR; clear FRx) | have FR := fr0S
      have FA := Sm.mk (And.intro TFPtA (And.intro y0 (And.intro nl_ zl)))
      repeat' first | (apply Sm.mk; refine Ys ?_) | refine WP.seq fun K hK => ?_ | (apply Ob.mk; exact Yo) | (refine And.intro (Vw.same _) ?_) | (refine And.intro (Vw.row' (by simp only [hget, ↓reduceIte, FR.out, y0, nl_, zl]; first | done | rfl) ?_ ?_ ?_ ?_) ?_) | refine And.intro (Ob.out ?_) ?_ | ((fail_if_success (show WP _ _ _ (.region 15 _ _) _ _)); refine Y1PtA ?_) | (refine CallV.row (by simp only [hget, ↓reduceIte, FR.out, y0, nl_, zl]; first | done | rfl) (cN) (Sm.out ?_)) | refine CallV.mkrow (cN) (Sm.out ?_) | (refine CallV.upd (by simp only [hget, ↓reduceIte, FR.out, y0, nl_, zl]; first | done | rfl) (cN) (Sm.out ?_)) | refine CallV.mkobj (cN) (Sm.out ?_) | (first | refine CallV.fn (cN) (Sm.out ?_) | refine ExF.mk (cN) (Sm.out ?_) | refine ExG.mk (fun _ => cN) (Sm.out ?_) | refine ExG.mkJ (fun _ => cN) (Sm.out ?_) | refine ExG.mkI (Ob.out ?_) (fun _ => cN) (Sm.out ?_)) | (refine CallV.frz (nb3) (by simp only [hget, ↓reduceIte, FR.out, y0, nl_, zl]; first | done | rfl) (cF) ?_ (Sm.out ?_)) | (refine CallV.exM (cL) (pmz _) (fun g => Sm.out ?_)) | refine YzPtA ?_ | (refine WP.cond rfl (fun hc => ?_) (fun hc => ?_) <;> (try simp only [ZC, reduceCtorEq, ZD] at hc) <;> (try exact absurd hc (by decide)) <;> (try (exfalso; omega))) | refine Rt.mk (And.intro (fun hg => Sm.out ?_) fun hg => Sm.out ?_) | (refine Nu.mk ?_; first | (fail_if_success have := nb1); intro nb1 | (fail_if_success have := nb2); intro nb2 | (fail_if_success have := nb3); intro nb3 | (fail_if_success have := nb4); intro nb4 | (fail_if_success have := nb5); intro nb5 | (fail_if_success have := nb6); intro nb6 | (fail_if_success have := nb7); intro nb7 | (fail_if_success have := nb8); intro nb8 | intro nbz) | (apply Yfr; refine Yf FR fun hFRb FR => ?_) | refine Two.mk ?_ ?_ | (apply Yxc; exact Yx) | refine Cs.mk fun hcs => Sm.out ?_ | (refine (show VwL _ _ _ from ?_); simp only [VwL, and_true, true_and]) | exact Vw.same _ | (refine Vw.row' (by simp only [hget, ↓reduceIte, FR.out, y0, nl_, zl]; first | done | rfl) ?_ ?_ ?_ ?_) | go_step | omega | (simp only [maxLen_eq]; omega) | exact trivial | refine Or.inr (Rt.mk (And.intro (fun hg => Sm.out ?_) fun hg => Sm.out ?_))
      · rw [List.length_append, nl_, zl]; omega
      · rw [List.drop_zero, List.take_of_length_le (by rw [List.length_append, nl_, zl]; omega)]
      obtain ⟨l2, hl2⟩ := g
      try simp only [List.append_nil]
      refine WP.sub (s' := ⟨[(0, pt y 0), (1, .slz .u8 (ub z)), (5, nu (e + 1)), (7, iv .i64 Y.2)], (y, .cells [pt b 0, iv .i64 (f : Int), iv .i64 (m : Int), nu e, slW (e, eb), bv false] 6 65) :: dH b Y.1 l2⟩) (Sub.of_env [] (by exact pmz _) (by simp [look])) ?_
      first | (have FRx := FR; clear FRx) | have FR := fr0S
      have FA := Sm.mk (And.intro TFPtA kY)
      repeat' first | (apply Sm.mk; refine Ys ?_) | refine WP.seq fun K hK => ?_ | (apply Ob.mk; exact Yo) | refine And.intro (Ob.out ?_) ?_ | refine Y1PtA ?_ | refine Yc (c := cC) (r := ?_) | refine YzPtA ?_ | (refine WP.cond rfl (fun hc => ?_) (fun hc => ?_) <;> (try simp only [ZC, reduceCtorEq, ZD] at hc) <;> (try exact absurd hc (by decide)) <;> (try (exfalso; omega))) | refine Rt.mk (And.intro (fun hg => Sm.out ?_) fun hg => Sm.out ?_) | (refine Nu.mk ?_; first | (fail_if_success have := nb1); intro nb1 | (fail_if_success have := nb2); intro nb2 | (fail_if_success have := nb3); intro nb3 | (fail_if_success have := nb4); intro nb4 | (fail_if_success have := nb5); intro nb5 | (fail_if_success have := nb6); intro nb6 | (fail_if_success have := nb7); intro nb7 | (fail_if_success have := nb8); intro nb8 | intro nbz) | (apply Yfr; refine Yf FR fun hFRb FR => ?_) | refine Two.mk ?_ ?_ | (apply Yxc; exact Yx) | refine Cs.mk fun hcs => Sm.out ?_ | go_step | omega | (simp only [maxLen_eq]; omega) | exact trivial | refine Or.inr (Rt.mk (And.intro (fun hg => Sm.out ?_) fun hg => Sm.out ?_))
      (refine OutQ.drop _ _ (pmz _) (by simp only [resv, ZK, look, loadv, loadn, loadnm, load1, load1m, hget, ↓reduceIte, Nat.reduceEqDiff, Nat.reduceAdd, Nat.reduceMul, Nat.reduceLeDiff, Nat.reduceLT, reduceCtorEq, TFPtA, FR.out]) ⟨⟨l2, hl2⟩, (by simp only [resv, resA, ZK, look, loadv, loadn, loadnm, load1, load1m, hget, ↓reduceIte, Nat.reduceEqDiff, Nat.reduceAdd, Nat.reduceMul, Nat.reduceLeDiff, Nat.reduceLT, reduceCtorEq, TFPtA, FR.out]; first | done | rfl), rfl⟩)
    · have kY : (Y.2 != 0) = true := by simpa using hY0
      refine ACt.intro Try.func15 rfl (by kernel_rfl) (by simp [Try.ntmps15]) (fun cx => ?_)
      simp only [argE, Try.ntmps15, Try.results15]
      first | (have FRx := FR; clear FRx) | have FR := fr0S
      have FA := Sm.mk (And.intro TFPtA (And.intro k1 (And.intro k2 (And.intro zl (And.intro w1 (And.intro tm (And.intro w3 (And.intro w4 w5))))))))
      repeat' first | (apply Sm.mk; refine Ys ?_) | refine WP.seq fun K hK => ?_ | (apply Ob.mk; exact Yo) | refine And.intro (Ob.out ?_) ?_ | ((fail_if_success (show WP _ _ _ (.region 13 _ _) _ _)); refine Y1PtA ?_) | refine CallV.updM (cD) (pmz _) (Sm.out ?_) | ((first | refine ExF.up ?_ (cD) (Sm.out ?_) | refine ExG.up ?_ (fun _ => cD) (Sm.out ?_) | refine ExG.upJ ?_ (fun _ => cD) (Sm.out ?_) | refine ExG.upI ?_ (fun _ => cD) (Ob.out ?_) (Sm.out ?_)); focus (exact ⟨_, (pmz _)⟩)) | refine CallV.updM (cM) (pmz _) (Sm.out ?_) | ((first | refine ExF.up ?_ (cM) (Sm.out ?_) | refine ExG.up ?_ (fun _ => cM) (Sm.out ?_) | refine ExG.upJ ?_ (fun _ => cM) (Sm.out ?_) | refine ExG.upI ?_ (fun _ => cM) (Ob.out ?_) (Sm.out ?_)); focus (exact ⟨_, (pmz _)⟩)) | (refine CallV.exM (cZ2) (pmz _) (fun g => Sm.out ?_)) | refine YzPtA ?_ | (refine WP.cond rfl (fun hc => ?_) (fun hc => ?_) <;> (try simp only [ZC, reduceCtorEq, ZD] at hc) <;> (try exact absurd hc (by decide)) <;> (try (exfalso; omega))) | refine Rt.mk (And.intro (fun hg => Sm.out ?_) fun hg => Sm.out ?_) | (refine Nu.mk ?_; first | (fail_if_success have := nb1); intro nb1 | (fail_if_success have := nb2); intro nb2 | (fail_if_success have := nb3); intro nb3 | (fail_if_success have := nb4); intro nb4 | (fail_if_success have := nb5); intro nb5 | (fail_if_success have := nb6); intro nb6 | (fail_if_success have := nb7); intro nb7 | (fail_if_success have := nb8); intro nb8 | intro nbz) | (apply Yfr; refine Yf FR fun hFRb FR => ?_) | refine Two.mk ?_ ?_ | (apply Yxc; exact Yx) | refine Cs.mk fun hcs => Sm.out ?_ | go_step | omega | (simp only [maxLen_eq]; omega) | exact trivial | refine Or.inr (Rt.mk (And.intro (fun hg => Sm.out ?_) fun hg => Sm.out ?_))
      obtain ⟨l1, hl1⟩ := g
      try simp only [List.append_nil]
      have cL := cL l1 hl1
      refine WP.sub (s' := ⟨[(0, pt y 0), (1, .slz .u8 (ub z)), (5, nu (e + 1)), (6, iv .i64 (at_ : Int)), (7, iv .i64 0)], (y, .cells [pt b 0, iv .i64 (f : Int), iv .i64 (m : Int), nu e, slW (e, eb), bv false] 6 65) :: dH b Z.1 l1⟩) (Sub.of_env [] (by exact pmz _) (by simp [look])) ?_
      first | (have FRx := FR; clear FRx) | have FR := fr0S
      have FA := Sm.mk (And.intro TFPtA (And.intro y0 (And.intro nl_ zl)))
      repeat' first | (apply Sm.mk; refine Ys ?_) | refine WP.seq fun K hK => ?_ | (apply Ob.mk; exact Yo) | (refine And.intro (Vw.same _) ?_) | (refine And.intro (Vw.row' (by simp only [hget, ↓reduceIte, FR.out, y0, nl_, zl]; first | done | rfl) ?_ ?_ ?_ ?_) ?_) | refine And.intro (Ob.out ?_) ?_ | ((fail_if_success (show WP _ _ _ (.region 15 _ _) _ _)); refine Y1PtA ?_) | (refine CallV.row (by simp only [hget, ↓reduceIte, FR.out, y0, nl_, zl]; first | done | rfl) (cN) (Sm.out ?_)) | refine CallV.mkrow (cN) (Sm.out ?_) | (refine CallV.upd (by simp only [hget, ↓reduceIte, FR.out, y0, nl_, zl]; first | done | rfl) (cN) (Sm.out ?_)) | refine CallV.mkobj (cN) (Sm.out ?_) | (first | refine CallV.fn (cN) (Sm.out ?_) | refine ExF.mk (cN) (Sm.out ?_) | refine ExG.mk (fun _ => cN) (Sm.out ?_) | refine ExG.mkJ (fun _ => cN) (Sm.out ?_) | refine ExG.mkI (Ob.out ?_) (fun _ => cN) (Sm.out ?_)) | (refine CallV.frz (nb3) (by simp only [hget, ↓reduceIte, FR.out, y0, nl_, zl]; first | done | rfl) (cF) ?_ (Sm.out ?_)) | (refine CallV.exM (cL) (pmz _) (fun g => Sm.out ?_)) | refine YzPtA ?_ | (refine WP.cond rfl (fun hc => ?_) (fun hc => ?_) <;> (try simp only [ZC, reduceCtorEq, ZD] at hc) <;> (try exact absurd hc (by decide)) <;> (try (exfalso; omega))) | refine Rt.mk (And.intro (fun hg => Sm.out ?_) fun hg => Sm.out ?_) | (refine Nu.mk ?_; first | (fail_if_success have := nb1); intro nb1 | (fail_if_success have := nb2); intro nb2 | (fail_if_success have := nb3); intro nb3 | (fail_if_success have := nb4); intro nb4 | (fail_if_success have := nb5); intro nb5 | (fail_if_success have := nb6); intro nb6 | (fail_if_success have := nb7); intro nb7 | (fail_if_success have := nb8); intro nb8 | intro nbz) | (apply Yfr; refine Yf FR fun hFRb FR => ?_) | refine Two.mk ?_ ?_ | (apply Yxc; exact Yx) | refine Cs.mk fun hcs => Sm.out ?_ | (refine (show VwL _ _ _ from ?_); simp only [VwL, and_true, true_and]) | exact Vw.same _ | (refine Vw.row' (by simp only [hget, ↓reduceIte, FR.out, y0, nl_, zl]; first | done | rfl) ?_ ?_ ?_ ?_) | go_step | omega | (simp only [maxLen_eq]; omega) | exact trivial | refine Or.inr (Rt.mk (And.intro (fun hg => Sm.out ?_) fun hg => Sm.out ?_))
      · rw [List.length_append, nl_, zl]; omega
      · rw [List.drop_zero, List.take_of_length_le (by rw [List.length_append, nl_, zl]; omega)]
      obtain ⟨l2, hl2⟩ := g
      try simp only [List.append_nil]
      refine WP.sub (s' := ⟨[(0, pt y 0), (1, .slz .u8 (ub z)), (5, nu (e + 1)), (7, iv .i64 Y.2)], (y, .cells [pt b 0, iv .i64 (f : Int), iv .i64 (m : Int), nu e, slW (e, eb), bv false] 6 65) :: dH b Y.1 l2⟩) (Sub.of_env [] (by exact pmz _) (by simp [look])) ?_
      first | (have FRx := FR; clear FRx) | have FR := fr0S
      have FA := Sm.mk (And.intro TFPtA kY)
      repeat' first | (apply Sm.mk; refine Ys ?_) | refine WP.seq fun K hK => ?_ | (apply Ob.mk; exact Yo) | refine And.intro (Ob.out ?_) ?_ | refine Y1PtA ?_ | refine YzPtA ?_ | (refine WP.cond rfl (fun hc => ?_) (fun hc => ?_) <;> (try simp only [ZC, reduceCtorEq, ZD] at hc) <;> (try exact absurd hc (by decide)) <;> (try (exfalso; omega))) | refine Rt.mk (And.intro (fun hg => Sm.out ?_) fun hg => Sm.out ?_) | (refine Nu.mk ?_; first | (fail_if_success have := nb1); intro nb1 | (fail_if_success have := nb2); intro nb2 | (fail_if_success have := nb3); intro nb3 | (fail_if_success have := nb4); intro nb4 | (fail_if_success have := nb5); intro nb5 | (fail_if_success have := nb6); intro nb6 | (fail_if_success have := nb7); intro nb7 | (fail_if_success have := nb8); intro nb8 | intro nbz) | (apply Yfr; refine Yf FR fun hFRb FR => ?_) | refine Two.mk ?_ ?_ | (apply Yxc; exact Yx) | refine Cs.mk fun hcs => Sm.out ?_ | go_step | omega | (simp only [maxLen_eq]; omega) | exact trivial | refine Or.inr (Rt.mk (And.intro (fun hg => Sm.out ?_) fun hg => Sm.out ?_))
      (refine OutQ.drop _ _ (pmz _) (by simp only [resv, ZK, look, loadv, loadn, loadnm, load1, load1m, hget, ↓reduceIte, Nat.reduceEqDiff, Nat.reduceAdd, Nat.reduceMul, Nat.reduceLeDiff, Nat.reduceLT, reduceCtorEq, TFPtA, FR.out]) ⟨⟨l2, hl2⟩, (by simp only [resv, resA, ZK, look, loadv, loadn, loadnm, load1, load1m, hget, ↓reduceIte, Nat.reduceEqDiff, Nat.reduceAdd, Nat.reduceMul, Nat.reduceLeDiff, Nat.reduceLT, reduceCtorEq, TFPtA, FR.out]; first | done | rfl), rfl⟩)
  · rw [if_neg hZ0]
    refine ⟨fun h => absurd h hZ0, fun _ => ?_⟩
    have kZ : (Z.2 == 0) = false := beq_eq_false_iff_ne.2 hZ0
    have kZ1 : (Z.2 != 0) = true := by simpa using hZ0
    refine ACt.intro Try.func15 rfl (by kernel_rfl) (by simp [Try.ntmps15]) (fun cx => ?_)
    simp only [argE, Try.ntmps15, Try.results15]
    first | (have FRx := FR; clear FRx) | have FR := fr0S
    have FA := Sm.mk (And.intro TFPtA (And.intro k1 (And.intro k2 (And.intro zl (And.intro w1 (And.intro tm (And.intro w3 (And.intro w4 w5))))))))
    repeat' first | (apply Sm.mk; refine Ys ?_) | refine WP.seq fun K hK => ?_ | (apply Ob.mk; exact Yo) | refine And.intro (Ob.out ?_) ?_ | ((fail_if_success (show WP _ _ _ (.region 13 _ _) _ _)); refine Y1PtA ?_) | refine CallV.updM (cD) (pmz _) (Sm.out ?_) | ((first | refine ExF.up ?_ (cD) (Sm.out ?_) | refine ExG.up ?_ (fun _ => cD) (Sm.out ?_) | refine ExG.upJ ?_ (fun _ => cD) (Sm.out ?_) | refine ExG.upI ?_ (fun _ => cD) (Ob.out ?_) (Sm.out ?_)); focus (exact ⟨_, (pmz _)⟩)) | refine CallV.updM (cM) (pmz _) (Sm.out ?_) | ((first | refine ExF.up ?_ (cM) (Sm.out ?_) | refine ExG.up ?_ (fun _ => cM) (Sm.out ?_) | refine ExG.upJ ?_ (fun _ => cM) (Sm.out ?_) | refine ExG.upI ?_ (fun _ => cM) (Ob.out ?_) (Sm.out ?_)); focus (exact ⟨_, (pmz _)⟩)) | (refine CallV.exM (cZ2) (pmz _) (fun g => Sm.out ?_)) | refine YzPtA ?_ | (refine WP.cond rfl (fun hc => ?_) (fun hc => ?_) <;> (try simp only [ZC, reduceCtorEq, ZD] at hc) <;> (try exact absurd hc (by decide)) <;> (try (exfalso; omega))) | refine Rt.mk (And.intro (fun hg => Sm.out ?_) fun hg => Sm.out ?_) | (refine Nu.mk ?_; first | (fail_if_success have := nb1); intro nb1 | (fail_if_success have := nb2); intro nb2 | (fail_if_success have := nb3); intro nb3 | (fail_if_success have := nb4); intro nb4 | (fail_if_success have := nb5); intro nb5 | (fail_if_success have := nb6); intro nb6 | (fail_if_success have := nb7); intro nb7 | (fail_if_success have := nb8); intro nb8 | intro nbz) | (apply Yfr; refine Yf FR fun hFRb FR => ?_) | refine Two.mk ?_ ?_ | (apply Yxc; exact Yx) | refine Cs.mk fun hcs => Sm.out ?_ | go_step | omega | (simp only [maxLen_eq]; omega) | exact trivial | refine Or.inr (Rt.mk (And.intro (fun hg => Sm.out ?_) fun hg => Sm.out ?_))
    obtain ⟨l1, hl1⟩ := g
    try simp only [List.append_nil]
    first | (have FRx := FR; clear FRx) | have FR := fr0S
    have FA := Sm.mk (And.intro TFPtA (And.intro kZ kZ1))
    repeat' first | (apply Sm.mk; refine Ys ?_) | refine WP.seq fun K hK => ?_ | (apply Ob.mk; exact Yo) | refine And.intro (Ob.out ?_) ?_ | refine Y1PtA ?_ | refine YzPtA ?_ | (refine WP.cond rfl (fun hc => ?_) (fun hc => ?_) <;> (try simp only [ZC, reduceCtorEq, ZD] at hc) <;> (try exact absurd hc (by decide)) <;> (try (exfalso; omega))) | refine Rt.mk (And.intro (fun hg => Sm.out ?_) fun hg => Sm.out ?_) | (refine Nu.mk ?_; first | (fail_if_success have := nb1); intro nb1 | (fail_if_success have := nb2); intro nb2 | (fail_if_success have := nb3); intro nb3 | (fail_if_success have := nb4); intro nb4 | (fail_if_success have := nb5); intro nb5 | (fail_if_success have := nb6); intro nb6 | (fail_if_success have := nb7); intro nb7 | (fail_if_success have := nb8); intro nb8 | intro nbz) | (apply Yfr; refine Yf FR fun hFRb FR => ?_) | refine Two.mk ?_ ?_ | (apply Yxc; exact Yx) | refine Cs.mk fun hcs => Sm.out ?_ | go_step | omega | (simp only [maxLen_eq]; omega) | exact trivial | refine Or.inr (Rt.mk (And.intro (fun hg => Sm.out ?_) fun hg => Sm.out ?_))
    (refine OutQ.drop _ _ (pmz _) (by simp only [resv, ZK, look, loadv, loadn, loadnm, load1, load1m, hget, ↓reduceIte, Nat.reduceEqDiff, Nat.reduceAdd, Nat.reduceMul, Nat.reduceLeDiff, Nat.reduceLT, reduceCtorEq, TFPtA, FR.out]) ⟨⟨l1, hl1⟩, (by simp only [resv, resA, ZK, look, loadv, loadn, loadnm, load1, load1m, hget, ↓reduceIte, Nat.reduceEqDiff, Nat.reduceAdd, Nat.reduceMul, Nat.reduceLeDiff, Nat.reduceLT, reduceCtorEq, TFPtA, FR.out]; first | done | rfl), rfl⟩)
set_option maxRecDepth 20000 in
theorem put_full (y b f m s : Nat) (E : Nat × List Int) (a : DA) (l : DL) (z : List Int) (hd : a.dk = false) (hs : a.size = s) (hs2 : s ≤ 512) (hm : m ≤ 400) (h : m * s < z.length + 19) : ACt Try.prog 15 [pt y 0, .slz .u8 z] ((y, slO b f m E false) :: dH b a l) (fun r F' => r = iv .i64 11 ∧ F' = (y, slO b f m E false) :: dH b a l) := by
  have cD := look0 [(y, slO b f m E false)] (dark_d b a l)
  rw [hd] at cD
  have cM := slmost_ct y b m (a := a) (l := l) f E false (by omega) hm
  rw [hs] at cM
  have k1 : decide ((z.length : Int) > ((m * s : Nat) : Int) - 19) = true := decide_eq_true (by omega)
  unfold slO at cD cM ⊢
  refine ACt.intro Try.func15 rfl (by kernel_rfl) (by simp [Try.ntmps15]) (fun cx => ?_)
  simp only [argE, Try.ntmps15, Try.results15]
  first | (have FRx := FR; clear FRx) | have FR := fr0S
  have FA := Sm.mk (And.intro TFPtA k1)
  repeat' first | (apply Sm.mk; refine Ys ?_) | refine WP.seq fun K hK => ?_ | (apply Ob.mk; exact Yo) | refine And.intro (Ob.out ?_) ?_ | refine Y1PtA ?_ | refine CallV.updM (cD) (pmz _) (Sm.out ?_) | ((first | refine ExF.up ?_ (cD) (Sm.out ?_) | refine ExG.up ?_ (fun _ => cD) (Sm.out ?_) | refine ExG.upJ ?_ (fun _ => cD) (Sm.out ?_) | refine ExG.upI ?_ (fun _ => cD) (Ob.out ?_) (Sm.out ?_)); focus (exact ⟨_, (pmz _)⟩)) | refine CallV.updM (cM) (pmz _) (Sm.out ?_) | ((first | refine ExF.up ?_ (cM) (Sm.out ?_) | refine ExG.up ?_ (fun _ => cM) (Sm.out ?_) | refine ExG.upJ ?_ (fun _ => cM) (Sm.out ?_) | refine ExG.upI ?_ (fun _ => cM) (Ob.out ?_) (Sm.out ?_)); focus (exact ⟨_, (pmz _)⟩)) | refine YzPtA ?_ | (refine WP.cond rfl (fun hc => ?_) (fun hc => ?_) <;> (try simp only [ZC, reduceCtorEq, ZD] at hc) <;> (try exact absurd hc (by decide)) <;> (try (exfalso; omega))) | refine Rt.mk (And.intro (fun hg => Sm.out ?_) fun hg => Sm.out ?_) | (refine Nu.mk ?_; first | (fail_if_success have := nb1); intro nb1 | (fail_if_success have := nb2); intro nb2 | (fail_if_success have := nb3); intro nb3 | (fail_if_success have := nb4); intro nb4 | (fail_if_success have := nb5); intro nb5 | (fail_if_success have := nb6); intro nb6 | (fail_if_success have := nb7); intro nb7 | (fail_if_success have := nb8); intro nb8 | intro nbz) | (apply Yfr; refine Yf FR fun hFRb FR => ?_) | refine Two.mk ?_ ?_ | (apply Yxc; exact Yx) | refine Cs.mk fun hcs => Sm.out ?_ | go_step | omega | (simp only [maxLen_eq]; omega) | exact trivial | refine Or.inr (Rt.mk (And.intro (fun hg => Sm.out ?_) fun hg => Sm.out ?_))
  (refine OutQ.drop _ _ (pmz _) (by simp only [resv, ZK, look, loadv, loadn, loadnm, load1, load1m, hget, ↓reduceIte, Nat.reduceEqDiff, Nat.reduceAdd, Nat.reduceMul, Nat.reduceLeDiff, Nat.reduceLT, reduceCtorEq, TFPtA, FR.out]) ⟨(by simp only [resv, resA, ZK, look, loadv, loadn, loadnm, load1, load1m, hget, ↓reduceIte, Nat.reduceEqDiff, Nat.reduceAdd, Nat.reduceMul, Nat.reduceLeDiff, Nat.reduceLT, reduceCtorEq, TFPtA, FR.out]; first | done | rfl), rfl⟩)
set_option maxRecDepth 20000 in
theorem put_over (y b f m s : Nat) (E : Nat × List Int) (a : DA) (l : DL) (z : List Int) (hd : a.dk = false) (hs : a.size = s) (hs2 : s ≤ 512) (hm : m ≤ 400) (h : z.length + 19 ≤ m * s) (hE : E.1 = 18446744073709551615) : ACt Try.prog 15 [pt y 0, .slz .u8 z] ((y, slO b f m E false) :: dH b a l) (fun r F' => r = iv .i64 3 ∧ F' = (y, slO b f m E false) :: dH b a l) := by
  have cD := look0 [(y, slO b f m E false)] (dark_d b a l)
  rw [hd] at cD
  have cM := slmost_ct y b m (a := a) (l := l) f E false (by omega) hm
  rw [hs] at cM
  have k1 : decide ((z.length : Int) > ((m * s : Nat) : Int) - 19) = false := decide_eq_false (by omega)
  obtain ⟨e, eb⟩ := E
  simp only at hE
  subst hE
  have k2 : (((18446744073709551615 : Nat) : Int) == 18446744073709551615) = true := rfl
  unfold slO at cD cM ⊢
  refine ACt.intro Try.func15 rfl (by kernel_rfl) (by simp [Try.ntmps15]) (fun cx => ?_)
  simp only [argE, Try.ntmps15, Try.results15]
  first | (have FRx := FR; clear FRx) | have FR := fr0S
  have FA := Sm.mk (And.intro TFPtA (And.intro k1 k2))
  repeat' first | (apply Sm.mk; refine Ys ?_) | refine WP.seq fun K hK => ?_ | (apply Ob.mk; exact Yo) | refine And.intro (Ob.out ?_) ?_ | refine Y1PtA ?_ | refine CallV.updM (cD) (pmz _) (Sm.out ?_) | ((first | refine ExF.up ?_ (cD) (Sm.out ?_) | refine ExG.up ?_ (fun _ => cD) (Sm.out ?_) | refine ExG.upJ ?_ (fun _ => cD) (Sm.out ?_) | refine ExG.upI ?_ (fun _ => cD) (Ob.out ?_) (Sm.out ?_)); focus (exact ⟨_, (pmz _)⟩)) | refine CallV.updM (cM) (pmz _) (Sm.out ?_) | ((first | refine ExF.up ?_ (cM) (Sm.out ?_) | refine ExG.up ?_ (fun _ => cM) (Sm.out ?_) | refine ExG.upJ ?_ (fun _ => cM) (Sm.out ?_) | refine ExG.upI ?_ (fun _ => cM) (Ob.out ?_) (Sm.out ?_)); focus (exact ⟨_, (pmz _)⟩)) | refine YzPtA ?_ | (refine WP.cond rfl (fun hc => ?_) (fun hc => ?_) <;> (try simp only [ZC, reduceCtorEq, ZD] at hc) <;> (try exact absurd hc (by decide)) <;> (try (exfalso; omega))) | refine Rt.mk (And.intro (fun hg => Sm.out ?_) fun hg => Sm.out ?_) | (refine Nu.mk ?_; first | (fail_if_success have := nb1); intro nb1 | (fail_if_success have := nb2); intro nb2 | (fail_if_success have := nb3); intro nb3 | (fail_if_success have := nb4); intro nb4 | (fail_if_success have := nb5); intro nb5 | (fail_if_success have := nb6); intro nb6 | (fail_if_success have := nb7); intro nb7 | (fail_if_success have := nb8); intro nb8 | intro nbz) | (apply Yfr; refine Yf FR fun hFRb FR => ?_) | refine Two.mk ?_ ?_ | (apply Yxc; exact Yx) | refine Cs.mk fun hcs => Sm.out ?_ | go_step | omega | (simp only [maxLen_eq]; omega) | exact trivial | refine Or.inr (Rt.mk (And.intro (fun hg => Sm.out ?_) fun hg => Sm.out ?_))
  (refine OutQ.drop _ _ (pmz _) (by simp only [resv, ZK, look, loadv, loadn, loadnm, load1, load1m, hget, ↓reduceIte, Nat.reduceEqDiff, Nat.reduceAdd, Nat.reduceMul, Nat.reduceLeDiff, Nat.reduceLT, reduceCtorEq, TFPtA, FR.out]) ⟨(by simp only [resv, resA, ZK, look, loadv, loadn, loadnm, load1, load1m, hget, ↓reduceIte, Nat.reduceEqDiff, Nat.reduceAdd, Nat.reduceMul, Nat.reduceLeDiff, Nat.reduceLT, reduceCtorEq, TFPtA, FR.out]; first | done | rfl), rfl⟩)
theorem slV_nil (D : List Int) (k : Nat) (h : (slV D k).1 = 0) : (slV D k).2 = [] := by
  unfold slV at h ⊢
  cases hn : nF D with
  | none => rfl
  | some p =>
    obtain ⟨n, q⟩ := p
    rw [hn] at h
    simp only at h ⊢
    split
    · rfl
    · rename_i h2
      rw [if_neg h2] at h
      exact absurd (Or.inl h) h2
theorem slF_nil (R : Bs) (k : Nat) (h : (slF R k).1 = 0) : (slF R k).2 = [] := by
  unfold slF at h ⊢
  split
  · rename_i hF; rw [if_pos hF] at h; exact slV_nil _ _ h
  · rfl
theorem slF_len (R : Bs) (k : Nat) : (slF R k).2.length ≤ R.length := by
  unfold slF
  split
  · unfold slV
    cases hn : nF (ub (bodyB R)) with
    | none => simp
    | some p =>
      obtain ⟨n, q⟩ := p
      have h1 := (nF_bd (by_ub _) hn).2.2.1
      rw [ub_len] at h1
      have h2 : (bodyB R).length ≤ R.length := by unfold bodyB; rw [List.length_take, List.length_drop]; omega
      simp only
      split
      · simp
      · simp only; omega
  · simp
theorem slF_par (R : Bs) (k : Nat) (h : (slF R k).1 ≠ 0) : (slF R k).1 % 2 = k := by
  unfold slF at h ⊢
  split
  · rename_i hF
    rw [if_pos hF] at h
    unfold slV at h ⊢
    cases hn : nF (ub (bodyB R)) with
    | none => rw [hn] at h; exact absurd rfl h
    | some p =>
      obtain ⟨n, q⟩ := p
      rw [hn] at h
      simp only at h ⊢
      split
      · rename_i h2; rw [if_pos h2] at h; exact absurd rfl h
      · rename_i h2; simp only; omega
  · rename_i hF; rw [if_neg hF] at h; exact absurd rfl h
theorem slE_slN (A B : Nat × List Int) (hA : A.1 = 0 → A.2 = []) : slE A B 2 = slN A B := by
  have : slN (0, []) A = A := by
    unfold slN
    simp only
    split
    · rfl
    · rename_i h
      have h0 : A.1 = 0 := by omega
      obtain ⟨n, q⟩ := A
      simp only at h0 hA ⊢
      rw [h0, hA h0]
  show slN (slN (0, []) A) B = _
  rw [this]
theorem slF_zrs (w k : Nat) : slF (zrs w) k = (0, []) := by unfold slF; rw [if_neg (zrs_noF w)]
theorem slF_frm (e : Nat) (z tail : Bs) (he : e < 18446744073709551616) (h0 : e ≠ 0) (hz : z.length ≤ 1000000) : slF (frm e z ++ tail) (e % 2) = (e, ub z) := by
  have hl := numB_len e he
  obtain ⟨-, h2, h3⟩ := frame_front (numB e ++ z) tail (by rw [List.length_append]; omega)
  unfold slF
  rw [show frm e z = frameB (numB e ++ z) from rfl, if_pos h3, h2, ub_append, ub_numB e he]
  unfold slV
  rw [nF_put e (ub z) he]
  simp only
  rw [if_neg (by omega)]
theorem slF_cons0 (r : Bs) (k : Nat) : slF (0 :: r) k = (0, []) := by unfold slF; rw [if_neg (zero_noF r)]
theorem slF_mix0 (R : Bs) (w q k : Nat) (hw : w = R.length) : slF (mix (zrs w) R q) k = slF R k ∨ slF (mix (zrs w) R q) k = (0, []) := by
  subst hw
  by_cases hq : q = 0
  · left; subst hq; simp [mix]
  · right
    cases hR : R with
    | nil => rw [show mix (zrs ([] : Bs).length) ([] : Bs) q = zrs 0 by simp [mix, zrs]]; exact slF_zrs 0 k
    | cons x r =>
      obtain ⟨p, rfl⟩ : ∃ p, q = p + 1 := ⟨q - 1, by omega⟩
      have e : mix (zrs (x :: r).length) (x :: r) (p + 1) = 0 :: (zrs r.length).take p ++ r.drop p := by simp [mix, zrs, List.replicate_succ]
      rw [e]
      exact slF_cons0 _ k
theorem slF_mixF (e : Nat) (z : Bs) (w v q : Nat) (he : e < 18446744073709551616) (h0 : e ≠ 0) (hz : z.length ≤ 1000000) (hv : v = (frm e z).length + w) : slF (mix (frm e z ++ zrs w) (zrs v) q) (e % 2) = (e, ub z) ∨ slF (mix (frm e z ++ zrs w) (zrs v) q) (e % 2) = (0, []) := by
  subst hv
  have hl := numB_len e he
  have hfl : (frm e z).length = (numB e ++ z).length + 10 := frame_len _
  by_cases hq : (frm e z).length ≤ q
  · left
    have e1 : mix (frm e z ++ zrs w) (zrs ((frm e z).length + w)) q = frm e z ++ ((zrs w).take (q - (frm e z).length) ++ (zrs ((frm e z).length + w)).drop q) := by
      unfold mix
      rw [List.take_append, List.take_of_length_le hq, List.append_assoc]
    rw [e1]
    exact slF_frm e z _ he h0 hz
  · right
    have e1 : mix (frm e z ++ zrs w) (zrs ((frm e z).length + w)) q = (frameB (numB e ++ z)).take q ++ zrs ((frm e z).length + w - q) := by
      unfold mix
      rw [List.take_append_of_le_length (by omega)]
      simp only [zrs, List.drop_replicate]
      rfl
    rw [e1]
    unfold slF
    rw [if_neg (torn_noF (numB e ++ z) q _ (by rw [List.length_append]; omega) (by omega))]
theorem slN_new {A B : Nat × List Int} (hA : A.1 ≠ 0 → A.1 % 2 = 0) (hB : B.1 ≠ 0 → B.1 % 2 = 1) (hA0 : A.1 = 0 → A.2 = []) (hB0 : B.1 = 0 → B.2 = []) (z : List Int) :
    (((slN A B).1 + 1) % 2 = 0 → slN (0, []) B = slN A B ∧ slN ((slN A B).1 + 1, z) B = ((slN A B).1 + 1, z)) ∧
    (((slN A B).1 + 1) % 2 = 1 → slN A (0, []) = slN A B ∧ slN A ((slN A B).1 + 1, z) = ((slN A B).1 + 1, z)) := by
  obtain ⟨x, X⟩ := A
  obtain ⟨y, Y⟩ := B
  simp only at hA hB hA0 hB0
  unfold slN
  simp only
  by_cases h : x < y
  · simp only [if_pos h]
    have hy := hB (by omega)
    refine ⟨fun h1 => ⟨?_, ?_⟩, fun h1 => ?_⟩
    · rw [if_pos (by omega)]
    · rw [if_neg (by omega)]
    · omega
  · simp only [if_neg h]
    have hx : x % 2 = 0 := by
      by_cases h0 : x = 0
      · rw [h0]
      · exact hA h0
    refine ⟨fun h1 => by omega, fun h1 => ⟨?_, ?_⟩⟩
    · rw [if_neg (by omega)]
    · rw [if_pos (by omega)]
end Go.Proofs.Yteoajodoejoccaa
