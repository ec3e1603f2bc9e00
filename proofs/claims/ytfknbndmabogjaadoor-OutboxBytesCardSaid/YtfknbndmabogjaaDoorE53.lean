/-
  The walks and the laws that the statement leans on, part 53.
-/
import Derived.Test.YtfknbndmabogjaaDoorE10
import Derived.Test.YtfknbndmabogjaaDoorE52
namespace Go.Proofs.YtfknbndmabogjaaDoor
open Go Wi
set_option linter.unusedVariables false
set_option linter.unusedSimpArgs false
set_option linter.defProp false
def TFOuCF :=
  And.intro (And.intro (And.intro (And.intro (And.intro tyc0 (And.intro tyc3 zmb3)) (And.intro tyc4 (And.intro zmb4 tyc5))) (And.intro (And.intro zmb5 (And.intro tyc9 zmb9)) (And.intro tyc27 (And.intro foff27_0 fpart27_0)))) (And.intro (And.intro (And.intro foff27_1 (And.intro fpart27_1 zmb27)) (And.intro bldT27 (And.intro tyc34 zmb34))) (And.intro (And.intro tyc53 (And.intro elt53 mkz53)) (And.intro apT53 (And.intro elk53 zmb53))))) (And.intro (And.intro (And.intro (And.intro tyc55 (And.intro mth55_86 mth55_89)) (And.intro mth55_88 (And.intro con55 zmb55))) (And.intro (And.intro tyc60 (And.intro tyc88 foff88_0)) (And.intro fpart88_0 (And.intro foff88_1 fpart88_1)))) (And.intro (And.intro (And.intro zmb88 (And.intro bldT88 Tryd.underlying0)) (And.intro Tryd.underlying3 (And.intro Tryd.underlying4 Tryd.underlying5))) (And.intro (And.intro Tryd.underlying9 (And.intro Tryd.underlying27 Tryd.underlying34)) (And.intro (And.intro Tryd.underlying53 Tryd.underlying55) (And.intro Tryd.underlying60 Tryd.underlying88)))))
theorem Y1OuCF {G R : Prop} (r : R) (h : R → G := by intro r; first | (apply WP.region; exact rvc_sound _ _ (Sm.out r)) | exact WP.drawK rfl mixed (by decide +kernel) (Sm.out r) | (apply WP.block; exact r) | (apply WP.skip; exact Yq r) | (apply WP.exit; exact Yq r) | (apply WP.ret; exact Sm.out r) | exact WP.cond rfl (fun _ => r) (fun hg => absurd hg (by decide)) | exact WP.cond rfl (fun hg => absurd hg (by decide)) (fun _ => r) | exact Rt.mk (And.intro (fun _ => Sm.out r) fun hg => absurd hg (by decide)) | exact Rt.mk (And.intro (fun hg => absurd hg (by decide)) fun _ => Sm.out r)) : G := h r
theorem YzOuCF {G R : Prop} (r : R) (h : R → G := by intro r; first | (apply ExG.no; exact Sm.out r) | (apply Or.inl; apply ExG.no; exact Sm.out r) | exact Or.inl (And.intro (fun hg => absurd hg (by decide)) (ExG.no (Sm.out r)))) : G := h r
theorem new_cr (zs : List Int) : ACt Tryd.prog 30 [.slz .u8 zs] [] (NewC 88 [.slz .u8 zs, bv false]) := by
  refine ACt.intro Tryd.func30 rfl (by kernel_rfl) (by simp [Tryd.ntmps30]) (fun cx => ?_)
  simp only [argE, Tryd.ntmps30, Tryd.results30]
  first | (have FRx := FR; clear FRx) | have FR := fr0S
  have FA := Sm.mk (TFOuCF)
  repeat' first | (apply Sm.mk; refine Ys ?_) | refine WP.seq fun K hK => ?_ | (apply Ob.mk; exact Yo) | refine And.intro (Ob.out ?_) ?_ | refine Y1OuCF ?_ | refine YzOuCF ?_ | (refine WP.cond rfl (fun hc => ?_) (fun hc => ?_) <;> (try simp only [ZC, reduceCtorEq, ZD] at hc) <;> (try exact absurd hc (by decide)) <;> (try (exfalso; omega))) | refine Rt.mk (And.intro (fun hg => Sm.out ?_) fun hg => Sm.out ?_) | (refine Nu.mk ?_; first | (fail_if_success have := nb1); intro nb1 | (fail_if_success have := nb2); intro nb2 | (fail_if_success have := nb3); intro nb3 | (fail_if_success have := nb4); intro nb4 | (fail_if_success have := nb5); intro nb5 | (fail_if_success have := nb6); intro nb6 | (fail_if_success have := nb7); intro nb7 | (fail_if_success have := nb8); intro nb8 | (fail_if_success have := nb9); intro nb9 | (fail_if_success have := nb10); intro nb10 | (fail_if_success have := nb11); intro nb11 | (fail_if_success have := nb12); intro nb12 | (fail_if_success have := nb13); intro nb13 | (fail_if_success have := nb14); intro nb14 | intro nbz) | (apply Yfr; refine Yf FR fun hFRb FR => ?_) | refine Two.mk ?_ ?_ | (apply Yxc; exact Yx) | refine Cs.mk fun hcs => Sm.out ?_ | go_step | omega | (simp only [maxLen_eq]; omega) | exact trivial | refine Or.inr (Rt.mk (And.intro (fun hg => Sm.out ?_) fun hg => Sm.out ?_))
  (refine OutQ.newC (by simp only [resv, ZK, look, loadv, loadn, loadnm, load1, load1m, hget, ↓reduceIte, Nat.reduceEqDiff, Nat.reduceAdd, Nat.reduceMul, Nat.reduceLeDiff, Nat.reduceLT, reduceCtorEq, TFOuCF, FR.out]) (by simp only [resv, resA, ZK, look, loadv, loadn, loadnm, load1, load1m, hget, ↓reduceIte, Nat.reduceEqDiff, Nat.reduceAdd, Nat.reduceMul, Nat.reduceLeDiff, Nat.reduceLT, reduceCtorEq, TFOuCF, FR.out]; first | done | rfl) (by simp only [hget, ↓reduceIte, if_true, if_false, FR.out]; first | done | rfl) ?_ ?_ <;> first | exact rfl | (simp only [ZK, look, loadv, loadn, loadnm, load1, load1m, hget, ↓reduceIte, Nat.reduceEqDiff, Nat.reduceAdd, Nat.reduceMul, Nat.reduceLeDiff, Nat.reduceLT, reduceCtorEq, TFOuCF, FR.out]; done) | skip)
theorem leftR (b : Nat) (zs : List Int) : ACt Tryd.prog 36 [pt b 0] [(b, rd zs false)] (fun r F' => r = iv .i64 (zs.length : Int) ∧ F' = [(b, rd zs false)]) := by
  have cB := badR b zs false
  refine ACt.intro Tryd.func36 rfl (by kernel_rfl) (by simp [Tryd.ntmps36]) (fun cx => ?_)
  simp only [argE, Tryd.ntmps36, Tryd.results36]
  first | (have FRx := FR; clear FRx) | have FR := fr0S
  have FA := Sm.mk (TFOuCF)
  repeat' first | (apply Sm.mk; refine Ys ?_) | refine WP.seq fun K hK => ?_ | (apply Ob.mk; exact Yo) | refine And.intro (Ob.out ?_) ?_ | refine Y1OuCF ?_ | refine Yl1 (c := cB) (r := ?_) | refine YzOuCF ?_ | (refine WP.cond rfl (fun hc => ?_) (fun hc => ?_) <;> (try simp only [ZC, reduceCtorEq, ZD] at hc) <;> (try exact absurd hc (by decide)) <;> (try (exfalso; omega))) | refine Rt.mk (And.intro (fun hg => Sm.out ?_) fun hg => Sm.out ?_) | (refine Nu.mk ?_; first | (fail_if_success have := nb1); intro nb1 | (fail_if_success have := nb2); intro nb2 | (fail_if_success have := nb3); intro nb3 | (fail_if_success have := nb4); intro nb4 | (fail_if_success have := nb5); intro nb5 | (fail_if_success have := nb6); intro nb6 | (fail_if_success have := nb7); intro nb7 | (fail_if_success have := nb8); intro nb8 | (fail_if_success have := nb9); intro nb9 | (fail_if_success have := nb10); intro nb10 | (fail_if_success have := nb11); intro nb11 | (fail_if_success have := nb12); intro nb12 | (fail_if_success have := nb13); intro nb13 | (fail_if_success have := nb14); intro nb14 | intro nbz) | (apply Yfr; refine Yf FR fun hFRb FR => ?_) | refine Two.mk ?_ ?_ | (apply Yxc; exact Yx) | refine Cs.mk fun hcs => Sm.out ?_ | go_step | omega | (simp only [maxLen_eq]; omega) | exact trivial | refine Or.inr (Rt.mk (And.intro (fun hg => Sm.out ?_) fun hg => Sm.out ?_))
  (refine OutQ.drop _ _ (perm1 (by simp only [hget, hdel, ↓reduceIte, if_true, if_false, FR.out]; first | done | rfl)) (by simp only [resv, ZK, look, loadv, loadn, loadnm, load1, load1m, hget, ↓reduceIte, Nat.reduceEqDiff, Nat.reduceAdd, Nat.reduceMul, Nat.reduceLeDiff, Nat.reduceLT, reduceCtorEq, TFOuCF, FR.out]) ⟨(by simp only [resv, resA, ZK, look, loadv, loadn, loadnm, load1, load1m, hget, ↓reduceIte, Nat.reduceEqDiff, Nat.reduceAdd, Nat.reduceMul, Nat.reduceLeDiff, Nat.reduceLT, reduceCtorEq, TFOuCF, FR.out]; first | done | rfl), rfl⟩)
theorem n3_sf : ∀ j V, SufF (n3 j V)
  | 0, V => fun zs x r hb h => ⟨0, by cases h; rfl⟩
  | j + 1, V => fun zs x r hb h => by
    rw [n3] at h
    cases e : nF zs with
    | none => rw [e] at h; cases h
    | some p =>
      obtain ⟨v, r1⟩ := p
      rw [e] at h
      simp only at h
      split at h
      · cases h
      · obtain ⟨k1, rfl⟩ := nF_sf zs v r1 hb e
        obtain ⟨k2, rfl⟩ := n3_sf j _ _ x r (hb.drop k1) h
        exact ⟨k1 + k2, by rw [List.drop_drop]⟩
theorem reX_sf : SufF reX := fun zs e r hb h => by
  unfold reX at h
  cases e1 : kgX zs with
  | none => rw [e1] at h; cases h
  | some p =>
    obtain ⟨k, z1⟩ := p
    rw [e1] at h
    simp only at h
    split at h
    · cases h
    obtain ⟨k1, rfl⟩ := kgX_sf zs _ _ hb e1
    cases e2 : n3 3 [] (zs.drop k1) with
    | none => rw [e2] at h; cases h
    | some p =>
      obtain ⟨V, z2⟩ := p
      rw [e2] at h
      simp only at h
      obtain ⟨k2, rfl⟩ := n3_sf 3 [] _ _ _ (hb.drop k1) e2
      cases e3 : fF ((zs.drop k1).drop k2) with
      | none => rw [e3] at h; cases h
      | some p =>
        obtain ⟨a, z3⟩ := p
        rw [e3] at h
        cases h
        obtain ⟨k3, rfl⟩ := fF_sf _ _ _ ((hb.drop k1).drop k2) e3
        exact ⟨k1 + k2 + k3, by simp only [List.drop_drop]⟩
theorem rgX_sf : ∀ c A, SufF (rgX c A)
  | 0, A => fun zs x r hb h => ⟨0, by cases h; rfl⟩
  | c + 1, A => fun zs x r hb h => by
    rw [rgX] at h
    cases e : reX zs with
    | none => rw [e] at h; cases h
    | some p =>
      obtain ⟨v, r1⟩ := p
      rw [e] at h
      simp only at h
      obtain ⟨k1, rfl⟩ := reX_sf zs v r1 hb e
      obtain ⟨k2, rfl⟩ := rgX_sf c _ _ x r (hb.drop k1) h
      exact ⟨k1 + k2, by rw [List.drop_drop]⟩
theorem rbX_sf {Z r : List Int} {b : Bx} (hb : Wi.By Z) (h : rbX Z = some (b, r)) : r.length ≤ Z.length ∧ bxB b = true := by
  unfold rbX at h
  cases e1 : nF Z with
  | none => rw [e1] at h; cases h
  | some p =>
    obtain ⟨n, z1⟩ := p
    rw [e1] at h
    simp only at h
    split at h
    · cases h
    obtain ⟨k1, rfl⟩ := nF_sf Z _ _ hb e1
    cases e2 : rgX n [] (Z.drop k1) with
    | none => rw [e2] at h; cases h
    | some p =>
      obtain ⟨A, z2⟩ := p
      rw [e2] at h
      simp only at h
      obtain ⟨k2, rfl⟩ := rgX_sf n [] _ _ _ (hb.drop k1) e2
      cases e3 : nF ((Z.drop k1).drop k2) with
      | none => rw [e3] at h; cases h
      | some p =>
        obtain ⟨d, r'⟩ := p
        rw [e3] at h
        simp only at h
        split at h
        · rename_i hq
          cases h
          obtain ⟨k3, rfl⟩ := nF_sf _ _ _ ((hb.drop k1).drop k2) e3
          exact ⟨by simp only [List.length_drop]; omega, hq⟩
        · cases h
set_option maxHeartbeats 8000000 in
set_option maxRecDepth 8000 in
theorem bytes_main (C : List AV) (d : Int) (n : Nat) (Z M : List Int) (p : Bool) (hzl : Z.length ≤ 3000)
    (cB : ACt Tryd.prog 9 [.agg [.sl n C, iv .u64 d]] [] (Fn (bv false))) (cR : ACt Tryd.prog 12 [.agg [.sl n C, iv .u64 d]] [] (Fn (bv p)))
    (cP : p = true → ∀ b, ACt Tryd.prog 29 [ms b 0 1 1, .agg [.sl n C, iv .u64 d]] [(b, .zs .u8 [9] 1 5)] (Row .u8 5 (9 :: M)))
    (cG : p = true → ∀ b, ACt Tryd.prog 31 [pt b 0] [(b, rd M false)] (fun r F' => r = .agg [.sl n C, iv .u64 d] ∧ F' = [(b, rd [] false)]))
    (cW : p = true → ACt Tryd.prog 32 [.agg [.sl n C, iv .u64 d]] [] (Fn (.slz .u8 M)))
    (cS : ACt Tryd.prog 15 [.agg [.sl n C, iv .u64 d], .agg [.sl n C, iv .u64 d]] [] (Fn (bv true)))
    (hX : (∃ D d2 n2 r, r.length ≤ Z.length ∧ (∀ b, ACt Tryd.prog 31 [pt b 0] [(b, rd Z false)] (fun x F' => x = .agg [.sl n2 D, iv .u64 d2] ∧ F' = [(b, rd r false)])) ∧ ACt Tryd.prog 34 [.slz .u8 Z, iv .i64 0] [] (Fn (.tup [.agg [.sl n2 D, iv .u64 d2], iv .i64 ((Z.length - r.length : Nat) : Int), bv true])) ∧ ACt Tryd.prog 15 [.agg [.sl n2 D, iv .u64 d2], .agg [.sl n2 D, iv .u64 d2]] [] (Fn (bv true))) ∨
      ((∀ b, ACt Tryd.prog 31 [pt b 0] [(b, rd Z false)] (fun x F' => x = .agg [.sl 0 [], iv .u64 0] ∧ F' = [(b, rdN)])) ∧ ACt Tryd.prog 34 [.slz .u8 Z, iv .i64 0] [] (fun r F' => ∃ g : Bx × Int, r = .tup [bxv g.1, iv .i64 g.2, bv false] ∧ F' = []) ∧ ACt Tryd.prog 15 [.agg [.sl 0 [], iv .u64 0], .agg [nsl, iv .u64 0]] [] (fun r F' => r = bv true ∧ F' = []))) :
    ACt Tryd.prog 6 [.agg [.sl n C, iv .u64 d], .slz .u8 Z] [] (fun r _ => r = bv true) := by
  have cA := awake_ct
  have k3 : decide ((Z.length : Int) > 3000) = false := decide_eq_false (by omega)
  have cN2 := new_cr Z
  cases p with
  | false =>
    clear cP cG cW
    rcases hX with ⟨D, d2, n2, r, hr, cG2, cX, cT⟩ | ⟨cG2, cX, cT⟩
    · have cL := fun b => leftR b r
      have cBd := fun b => badR b r false
      have w1 : IntKind.i64.wrap ((Z.length : Int) - ((Z.length - r.length : Nat) : Int)) = (r.length : Int) := by rw [wrap_i64 (by omega) (by omega)]; omega
      have z1 : ((r.length : Int) == (r.length : Int)) = true := by simp
      obtain ⟨A2, hA2⟩ : ∃ q, q = Z.length - r.length := ⟨_, rfl⟩
      rw [← hA2] at cX w1
      refine ACt.intro Tryd.func6 rfl (by kernel_rfl) (by simp [Tryd.ntmps6]) (fun cx => ?_)
      simp only [argE, Tryd.ntmps6, Tryd.results6]
      first | (have FRx := FR; clear FRx) | have FR := fr0S
      have FA := Sm.mk (And.intro TFOuCF (And.intro k3 (And.intro w1 z1)))
      repeat' first | (apply Sm.mk; refine Ys ?_) | refine WP.seq fun K hK => ?_ | (apply Ob.mk; exact Yo) | refine And.intro (Ob.out ?_) ?_ | refine Y1OuCF ?_ | refine Yc (c := cA) (r := ?_) | refine Yc (c := cB) (r := ?_) | refine Yc (c := cR) (r := ?_) | refine Yv (c := cN2) (r := ?_) | refine Yc (c := cN2) (r := ?_) | refine Yw1 (c := (cG2 _)) (r := ?_) | refine Yc (c := cX) (r := ?_) | refine Yc (c := cT) (r := ?_) | refine Yl1 (c := (cBd _)) (r := ?_) | refine Yl1 (c := (cL _)) (r := ?_) | refine YzOuCF ?_ | (refine WP.cond rfl (fun hc => ?_) (fun hc => ?_) <;> (try simp only [ZC, reduceCtorEq, ZD] at hc) <;> (try exact absurd hc (by decide)) <;> (try (exfalso; omega))) | refine Rt.mk (And.intro (fun hg => Sm.out ?_) fun hg => Sm.out ?_) | (refine Nu.mk ?_; first | (fail_if_success have := nb1); intro nb1 | (fail_if_success have := nb2); intro nb2 | (fail_if_success have := nb3); intro nb3 | (fail_if_success have := nb4); intro nb4 | (fail_if_success have := nb5); intro nb5 | (fail_if_success have := nb6); intro nb6 | (fail_if_success have := nb7); intro nb7 | (fail_if_success have := nb8); intro nb8 | (fail_if_success have := nb9); intro nb9 | (fail_if_success have := nb10); intro nb10 | (fail_if_success have := nb11); intro nb11 | (fail_if_success have := nb12); intro nb12 | (fail_if_success have := nb13); intro nb13 | (fail_if_success have := nb14); intro nb14 | intro nbz) | (apply Yfr; refine Yf FR fun hFRb FR => ?_) | refine Two.mk ?_ ?_ | (apply Yxc; exact Yx) | refine Cs.mk fun hcs => Sm.out ?_ | go_step | omega | (simp only [maxLen_eq]; omega) | exact trivial | refine Or.inr (Rt.mk (And.intro (fun hg => Sm.out ?_) fun hg => Sm.out ?_))
      (refine Yg ?_; try exact trivial)
    · have cBd := fun b => bad_e b true
      refine ACt.intro Tryd.func6 rfl (by kernel_rfl) (by simp [Tryd.ntmps6]) (fun cx => ?_)
      simp only [argE, Tryd.ntmps6, Tryd.results6]
      first | (have FRx := FR; clear FRx) | have FR := fr0S
      have FA := Sm.mk (And.intro TFOuCF k3)
      repeat' first | (apply Sm.mk; refine Ys ?_) | refine WP.seq fun K hK => ?_ | (apply Ob.mk; exact Yo) | refine And.intro (Ob.out ?_) ?_ | refine Y1OuCF ?_ | (first | refine CallV.fn (cA) (Sm.out ?_) | refine ExF.mk (cA) (Sm.out ?_) | refine ExG.mk (fun _ => cA) (Sm.out ?_) | refine ExG.mkJ (fun _ => cA) (Sm.out ?_) | refine ExG.mkI (Ob.out ?_) (fun _ => cA) (Sm.out ?_)) | (first | refine CallV.fn (cB) (Sm.out ?_) | refine ExF.mk (cB) (Sm.out ?_) | refine ExG.mk (fun _ => cB) (Sm.out ?_) | refine ExG.mkJ (fun _ => cB) (Sm.out ?_) | refine ExG.mkI (Ob.out ?_) (fun _ => cB) (Sm.out ?_)) | (first | refine CallV.fn (cR) (Sm.out ?_) | refine ExF.mk (cR) (Sm.out ?_) | refine ExG.mk (fun _ => cR) (Sm.out ?_) | refine ExG.mkJ (fun _ => cR) (Sm.out ?_) | refine ExG.mkI (Ob.out ?_) (fun _ => cR) (Sm.out ?_)) | (refine CallV.row (by simp only [hget, ↓reduceIte, FR.out, k3]; first | done | rfl) (cN2) (Sm.out ?_)) | refine CallV.mkrow (cN2) (Sm.out ?_) | (refine CallV.upd (by simp only [hget, ↓reduceIte, FR.out, k3]; first | done | rfl) (cN2) (Sm.out ?_)) | refine CallV.mkobj (cN2) (Sm.out ?_) | (first | refine CallV.fn (cN2) (Sm.out ?_) | refine ExF.mk (cN2) (Sm.out ?_) | refine ExG.mk (fun _ => cN2) (Sm.out ?_) | refine ExG.mkJ (fun _ => cN2) (Sm.out ?_) | refine ExG.mkI (Ob.out ?_) (fun _ => cN2) (Sm.out ?_)) | (refine CallV.updM ((cG2 _)) (perm1 (by simp only [hget, hdel, ↓reduceIte, FR.out, k3]; first | done | rfl)) (Sm.out ?_)) | (refine CallV.ex (F := []) (List.Perm.refl _) (cX) (fun g => Sm.out ?_)) | (first | refine CallV.fn (cT) (Sm.out ?_) | refine ExF.mk (cT) (Sm.out ?_) | refine ExG.mk (fun _ => cT) (Sm.out ?_) | refine ExG.mkJ (fun _ => cT) (Sm.out ?_) | refine ExG.mkI (Ob.out ?_) (fun _ => cT) (Sm.out ?_)) | (refine CallV.updM ((cBd _)) (perm1 (by simp only [hget, hdel, ↓reduceIte, FR.out, k3]; first | done | rfl)) (Sm.out ?_)) | ((first | refine ExF.up ?_ ((cBd _)) (Sm.out ?_) | refine ExG.up ?_ (fun _ => (cBd _)) (Sm.out ?_) | refine ExG.upJ ?_ (fun _ => (cBd _)) (Sm.out ?_) | refine ExG.upI ?_ (fun _ => (cBd _)) (Ob.out ?_) (Sm.out ?_)); focus (exact ⟨_, (perm1 (by simp only [hget, hdel, ↓reduceIte, FR.out, k3]; first | done | rfl))⟩)) | refine YzOuCF ?_ | (refine WP.cond rfl (fun hc => ?_) (fun hc => ?_) <;> (try simp only [ZC, reduceCtorEq, ZD] at hc) <;> (try exact absurd hc (by decide)) <;> (try (exfalso; omega))) | refine Rt.mk (And.intro (fun hg => Sm.out ?_) fun hg => Sm.out ?_) | (refine Nu.mk ?_; first | (fail_if_success have := nb1); intro nb1 | (fail_if_success have := nb2); intro nb2 | (fail_if_success have := nb3); intro nb3 | (fail_if_success have := nb4); intro nb4 | (fail_if_success have := nb5); intro nb5 | (fail_if_success have := nb6); intro nb6 | (fail_if_success have := nb7); intro nb7 | (fail_if_success have := nb8); intro nb8 | (fail_if_success have := nb9); intro nb9 | (fail_if_success have := nb10); intro nb10 | (fail_if_success have := nb11); intro nb11 | (fail_if_success have := nb12); intro nb12 | (fail_if_success have := nb13); intro nb13 | (fail_if_success have := nb14); intro nb14 | intro nbz) | (apply Yfr; refine Yf FR fun hFRb FR => ?_) | refine Two.mk ?_ ?_ | (apply Yxc; exact Yx) | refine Cs.mk fun hcs => Sm.out ?_ | go_step | omega | (simp only [maxLen_eq]; omega) | exact trivial | refine Or.inr (Rt.mk (And.intro (fun hg => Sm.out ?_) fun hg => Sm.out ?_))
      (refine Yg ?_; try exact trivial)
  | true =>
    have cP := cP rfl
    have cG := cG rfl
    have cW := cW rfl
    have cN1 := new_cr M
    have cE := fun b => endR b
    obtain ⟨L, hL⟩ : ∃ L, L = (9 : Int) :: M := ⟨_, rfl⟩
    rw [← hL] at cP
    obtain ⟨q, hq⟩ : ∃ q, L.length = q := ⟨_, rfl⟩
    obtain ⟨m, hm⟩ : ∃ q, M.length = q := ⟨_, rfl⟩
    have hqm : q = m + 1 := by rw [← hq, hL, ← hm]; rfl
    have hd1 : L.drop 1 = M := by rw [hL]; rfl
    have hd0 : L.drop 0 = L := rfl
    have hg0 : L.getD 0 0 = 9 := by rw [hL]; rfl
    have hg1 : L[0]?.getD 0 = 9 := by rw [hL]; rfl
    have htk : L.take q = L := by rw [← hq]; exact List.take_length
    have htm : M.take m = M := by rw [← hm]; exact List.take_length
    have hq1 : q - 1 = m := by omega
    have i1 : 1 ≤ q := by omega
    have hle : q ≤ q := Nat.le_refl q
    have az : ∀ q : Nat, 0 + q = q := fun q => Nat.zero_add q
    have hs : ((bstr M).toList == (bstr M).toList) = true := beq_self_eq_true _
    have hs2 : ((bstr M).toList != (bstr M).toList) = false := by simp
    have z9 : ((9 : Int) != 9) = false := rfl
    have z0 : ((0 : Int) != 0) = false := rfl
    clear hL
    rcases hX with ⟨D, d2, n2, r, hr, cG2, cX, cT⟩ | ⟨cG2, cX, cT⟩
    · have cL := fun b => leftR b r
      have cBd := fun b => badR b r false
      have w1 : IntKind.i64.wrap ((Z.length : Int) - ((Z.length - r.length : Nat) : Int)) = (r.length : Int) := by rw [wrap_i64 (by omega) (by omega)]; omega
      have z1 : ((r.length : Int) == (r.length : Int)) = true := by simp
      obtain ⟨A2, hA2⟩ : ∃ q, q = Z.length - r.length := ⟨_, rfl⟩
      rw [← hA2] at cX w1
      refine ACt.intro Tryd.func6 rfl (by kernel_rfl) (by simp [Tryd.ntmps6]) (fun cx => ?_)
      simp only [argE, Tryd.ntmps6, Tryd.results6]
      first | (have FRx := FR; clear FRx) | have FR := fr0S
      have FA := Sm.mk (And.intro TFOuCF k3)
      repeat' first | (apply Sm.mk; refine Ys ?_) | refine WP.seq fun K hK => ?_ | (apply Ob.mk; exact Yo) | refine And.intro (Ob.out ?_) ?_ | ((fail_if_success (show WP _ _ _ (.region 7 _ _) _ _)); refine Y1OuCF ?_) | refine Yc (c := cA) (r := ?_) | refine Yc (c := cB) (r := ?_) | refine Yc (c := cR) (r := ?_) | refine Yv (c := cP nb2) (r := ?_) | refine Yc (c := cP nb2) (r := ?_) | refine YzOuCF ?_ | (refine WP.cond rfl (fun hc => ?_) (fun hc => ?_) <;> (try simp only [ZC, reduceCtorEq, ZD] at hc) <;> (try exact absurd hc (by decide)) <;> (try (exfalso; omega))) | refine Rt.mk (And.intro (fun hg => Sm.out ?_) fun hg => Sm.out ?_) | (refine Nu.mk ?_; first | (fail_if_success have := nb1); intro nb1 | (fail_if_success have := nb2); intro nb2 | (fail_if_success have := nb3); intro nb3 | (fail_if_success have := nb4); intro nb4 | (fail_if_success have := nb5); intro nb5 | (fail_if_success have := nb6); intro nb6 | (fail_if_success have := nb7); intro nb7 | (fail_if_success have := nb8); intro nb8 | (fail_if_success have := nb9); intro nb9 | (fail_if_success have := nb10); intro nb10 | (fail_if_success have := nb11); intro nb11 | (fail_if_success have := nb12); intro nb12 | (fail_if_success have := nb13); intro nb13 | (fail_if_success have := nb14); intro nb14 | intro nbz) | (apply Yfr; refine Yf FR fun hFRb FR => ?_) | refine Two.mk ?_ ?_ | (apply Yxc; exact Yx) | refine Cs.mk fun hcs => Sm.out ?_ | go_step | omega | (simp only [maxLen_eq]; omega) | exact trivial | refine Or.inr (Rt.mk (And.intro (fun hg => Sm.out ?_) fun hg => Sm.out ?_))
      have b1 : q ≤ nb4 := by have := hFRb; omega
      have b2 : nb4 ≤ 9223372036854775807 := by have := hFRb; omega
      (refine WP.wk (Wk.freeze (nb3) (by simp only [ZK, rvc, capA, appA, litL, mkfv, drawF, headN, pureH, stp, dvc, calleeOf, gcall, pev, eff, newB, okd, og, ogs, ogo, ogp, slv, bltv, opd, litv, strip, one, both, putE, St.put, look, gdOf, gdv, picka, pickv, pickw, binv, bini, bins, binb, binp, binq, isSlT, bina, shp, eqCells, unv, convv, nilv, faddv, addp, idxav, idxp, load1, load1m, loadn, loadnm, loadv, hget, hset, hrep, hdel, slicev, slice3v, bnd, shift1, lenv, capv, IntKind.bits, extractv, fieldv, indexv, min2v, max2v, mkiv, tasv, tasz, cellsA, fillA, buildv, stC, oneC, rowMB, intsA, plN, appE, appZ, appC, appS, srcB, appNZ, appNC, VwL, srcC, srcZ, srcM, isBoolT, isPtrT, isSliceT, uOk, Value.oneCell', Nat.reducePow, Int.reducePow, Nat.reduceAdd, Nat.reduceMul, Nat.reduceSub, Nat.reduceLT, Nat.reduceLeDiff, Nat.reduceEqDiff, Nat.reduceBEq, Nat.reduceDiv, Nat.reduceMod, ↓reduceIte, reduceCtorEq, Int.reduceToNat, Int.reduceLT, Int.reduceLE, TFOuCF, SeqQ, BlkQ, LoopQ, BodyQ, hq, hle, az, b1, b2, hd0, htk, FR.out]; first | done | rfl)) ?_; simp only [frzE, frz, ZK, rvc, capA, appA, litL, mkfv, drawF, headN, pureH, stp, dvc, calleeOf, gcall, pev, eff, newB, okd, og, ogs, ogo, ogp, slv, bltv, opd, litv, strip, one, both, putE, St.put, look, gdOf, gdv, picka, pickv, pickw, binv, bini, bins, binb, binp, binq, isSlT, bina, shp, eqCells, unv, convv, nilv, faddv, addp, idxav, idxp, load1, load1m, loadn, loadnm, loadv, hget, hset, hrep, hdel, slicev, slice3v, bnd, shift1, lenv, capv, IntKind.bits, extractv, fieldv, indexv, min2v, max2v, mkiv, tasv, tasz, cellsA, fillA, buildv, stC, oneC, rowMB, intsA, plN, appE, appZ, appC, appS, srcB, appNZ, appNC, VwL, srcC, srcZ, srcM, isBoolT, isPtrT, isSliceT, uOk, Value.oneCell', Nat.reducePow, Int.reducePow, Nat.reduceAdd, Nat.reduceMul, Nat.reduceSub, Nat.reduceLT, Nat.reduceLeDiff, Nat.reduceEqDiff, Nat.reduceBEq, Nat.reduceDiv, Nat.reduceMod, ↓reduceIte, reduceCtorEq, Int.reduceToNat, Int.reduceLT, Int.reduceLE, TFOuCF, SeqQ, BlkQ, LoopQ, BodyQ, hq, hle, az, b1, b2, hd0, htk, FR.out])
      first | (have FRx := FR; clear FRx) | have FR := fr0S
      have FA := Sm.mk (And.intro TFOuCF (And.intro k3 (And.intro w1 (And.intro z1 (And.intro hd0 (And.intro hd1 (And.intro hg0 (And.intro hg1 (And.intro htk (And.intro htm (And.intro hq (And.intro hq1 (And.intro hm (And.intro i1 (And.intro hs (And.intro hs2 (And.intro z9 z0)))))))))))))))))
      repeat' first | (apply Sm.mk; refine Ys ?_) | refine WP.seq fun K hK => ?_ | (apply Ob.mk; exact Yo) | refine And.intro (Ob.out ?_) ?_ | refine Y1OuCF ?_ | refine Yv (c := cN1) (r := ?_) | refine Yc (c := cN1) (r := ?_) | refine Yw1 (c := (cG _)) (r := ?_) | refine Yc (c := cW) (r := ?_) | refine Yc (c := cS) (r := ?_) | refine Yl1 (c := (cE _)) (r := ?_) | refine Yv (c := cN2) (r := ?_) | refine Yc (c := cN2) (r := ?_) | refine Yw1 (c := (cG2 _)) (r := ?_) | refine Yc (c := cX) (r := ?_) | refine Yc (c := cT) (r := ?_) | refine Yl1 (c := (cBd _)) (r := ?_) | refine Yl1 (c := (cL _)) (r := ?_) | refine YzOuCF ?_ | (refine WP.cond rfl (fun hc => ?_) (fun hc => ?_) <;> (try simp only [ZC, reduceCtorEq, ZD] at hc) <;> (try exact absurd hc (by decide)) <;> (try (exfalso; omega))) | refine Rt.mk (And.intro (fun hg => Sm.out ?_) fun hg => Sm.out ?_) | (refine Nu.mk ?_; first | (fail_if_success have := nb1); intro nb1 | (fail_if_success have := nb2); intro nb2 | (fail_if_success have := nb3); intro nb3 | (fail_if_success have := nb4); intro nb4 | (fail_if_success have := nb5); intro nb5 | (fail_if_success have := nb6); intro nb6 | (fail_if_success have := nb7); intro nb7 | (fail_if_success have := nb8); intro nb8 | (fail_if_success have := nb9); intro nb9 | (fail_if_success have := nb10); intro nb10 | (fail_if_success have := nb11); intro nb11 | (fail_if_success have := nb12); intro nb12 | (fail_if_success have := nb13); intro nb13 | (fail_if_success have := nb14); intro nb14 | intro nbz) | (apply Yfr; refine Yf FR fun hFRb FR => ?_) | refine Two.mk ?_ ?_ | (apply Yxc; exact Yx) | refine Cs.mk fun hcs => Sm.out ?_ | go_step | omega | (simp only [maxLen_eq]; omega) | exact trivial | refine Or.inr (Rt.mk (And.intro (fun hg => Sm.out ?_) fun hg => Sm.out ?_))
      (refine Yg ?_; try exact trivial)
    · have cBd := fun b => bad_e b true
      refine ACt.intro Tryd.func6 rfl (by kernel_rfl) (by simp [Tryd.ntmps6]) (fun cx => ?_)
      simp only [argE, Tryd.ntmps6, Tryd.results6]
      first | (have FRx := FR; clear FRx) | have FR := fr0S
      have FA := Sm.mk (And.intro TFOuCF k3)
      repeat' first | (apply Sm.mk; refine Ys ?_) | refine WP.seq fun K hK => ?_ | (apply Ob.mk; exact Yo) | refine And.intro (Ob.out ?_) ?_ | ((fail_if_success (show WP _ _ _ (.region 7 _ _) _ _)); refine Y1OuCF ?_) | refine Yc (c := cA) (r := ?_) | refine Yc (c := cB) (r := ?_) | refine Yc (c := cR) (r := ?_) | refine Yv (c := cP nb2) (r := ?_) | refine Yc (c := cP nb2) (r := ?_) | refine YzOuCF ?_ | (refine WP.cond rfl (fun hc => ?_) (fun hc => ?_) <;> (try simp only [ZC, reduceCtorEq, ZD] at hc) <;> (try exact absurd hc (by decide)) <;> (try (exfalso; omega))) | refine Rt.mk (And.intro (fun hg => Sm.out ?_) fun hg => Sm.out ?_) | (refine Nu.mk ?_; first | (fail_if_success have := nb1); intro nb1 | (fail_if_success have := nb2); intro nb2 | (fail_if_success have := nb3); intro nb3 | (fail_if_success have := nb4); intro nb4 | (fail_if_success have := nb5); intro nb5 | (fail_if_success have := nb6); intro nb6 | (fail_if_success have := nb7); intro nb7 | (fail_if_success have := nb8); intro nb8 | (fail_if_success have := nb9); intro nb9 | (fail_if_success have := nb10); intro nb10 | (fail_if_success have := nb11); intro nb11 | (fail_if_success have := nb12); intro nb12 | (fail_if_success have := nb13); intro nb13 | (fail_if_success have := nb14); intro nb14 | intro nbz) | (apply Yfr; refine Yf FR fun hFRb FR => ?_) | refine Two.mk ?_ ?_ | (apply Yxc; exact Yx) | refine Cs.mk fun hcs => Sm.out ?_ | go_step | omega | (simp only [maxLen_eq]; omega) | exact trivial | refine Or.inr (Rt.mk (And.intro (fun hg => Sm.out ?_) fun hg => Sm.out ?_))
      have b1 : q ≤ nb4 := by have := hFRb; omega
      have b2 : nb4 ≤ 9223372036854775807 := by have := hFRb; omega
      (refine WP.wk (Wk.freeze (nb3) (by simp only [ZK, rvc, capA, appA, litL, mkfv, drawF, headN, pureH, stp, dvc, calleeOf, gcall, pev, eff, newB, okd, og, ogs, ogo, ogp, slv, bltv, opd, litv, strip, one, both, putE, St.put, look, gdOf, gdv, picka, pickv, pickw, binv, bini, bins, binb, binp, binq, isSlT, bina, shp, eqCells, unv, convv, nilv, faddv, addp, idxav, idxp, load1, load1m, loadn, loadnm, loadv, hget, hset, hrep, hdel, slicev, slice3v, bnd, shift1, lenv, capv, IntKind.bits, extractv, fieldv, indexv, min2v, max2v, mkiv, tasv, tasz, cellsA, fillA, buildv, stC, oneC, rowMB, intsA, plN, appE, appZ, appC, appS, srcB, appNZ, appNC, VwL, srcC, srcZ, srcM, isBoolT, isPtrT, isSliceT, uOk, Value.oneCell', Nat.reducePow, Int.reducePow, Nat.reduceAdd, Nat.reduceMul, Nat.reduceSub, Nat.reduceLT, Nat.reduceLeDiff, Nat.reduceEqDiff, Nat.reduceBEq, Nat.reduceDiv, Nat.reduceMod, ↓reduceIte, reduceCtorEq, Int.reduceToNat, Int.reduceLT, Int.reduceLE, TFOuCF, SeqQ, BlkQ, LoopQ, BodyQ, hq, hle, az, b1, b2, hd0, htk, FR.out]; first | done | rfl)) ?_; simp only [frzE, frz, ZK, rvc, capA, appA, litL, mkfv, drawF, headN, pureH, stp, dvc, calleeOf, gcall, pev, eff, newB, okd, og, ogs, ogo, ogp, slv, bltv, opd, litv, strip, one, both, putE, St.put, look, gdOf, gdv, picka, pickv, pickw, binv, bini, bins, binb, binp, binq, isSlT, bina, shp, eqCells, unv, convv, nilv, faddv, addp, idxav, idxp, load1, load1m, loadn, loadnm, loadv, hget, hset, hrep, hdel, slicev, slice3v, bnd, shift1, lenv, capv, IntKind.bits, extractv, fieldv, indexv, min2v, max2v, mkiv, tasv, tasz, cellsA, fillA, buildv, stC, oneC, rowMB, intsA, plN, appE, appZ, appC, appS, srcB, appNZ, appNC, VwL, srcC, srcZ, srcM, isBoolT, isPtrT, isSliceT, uOk, Value.oneCell', Nat.reducePow, Int.reducePow, Nat.reduceAdd, Nat.reduceMul, Nat.reduceSub, Nat.reduceLT, Nat.reduceLeDiff, Nat.reduceEqDiff, Nat.reduceBEq, Nat.reduceDiv, Nat.reduceMod, ↓reduceIte, reduceCtorEq, Int.reduceToNat, Int.reduceLT, Int.reduceLE, TFOuCF, SeqQ, BlkQ, LoopQ, BodyQ, hq, hle, az, b1, b2, hd0, htk, FR.out])
      first | (have FRx := FR; clear FRx) | have FR := fr0S
      have FA := Sm.mk (And.intro TFOuCF (And.intro k3 (And.intro hd0 (And.intro hd1 (And.intro hg0 (And.intro hg1 (And.intro htk (And.intro htm (And.intro hq (And.intro hq1 (And.intro hm (And.intro i1 (And.intro hs (And.intro hs2 (And.intro z9 z0)))))))))))))))
      repeat' first | (apply Sm.mk; refine Ys ?_) | refine WP.seq fun K hK => ?_ | (apply Ob.mk; exact Yo) | refine And.intro (Ob.out ?_) ?_ | refine Y1OuCF ?_ | (refine CallV.row (by simp only [hget, ↓reduceIte, FR.out, k3, hd0, hd1, hg0, hg1, htk, htm, hq, hq1, hm, i1, hs, hs2, z9, z0]; first | done | rfl) (cN1) (Sm.out ?_)) | refine CallV.mkrow (cN1) (Sm.out ?_) | (refine CallV.upd (by simp only [hget, ↓reduceIte, FR.out, k3, hd0, hd1, hg0, hg1, htk, htm, hq, hq1, hm, i1, hs, hs2, z9, z0]; first | done | rfl) (cN1) (Sm.out ?_)) | refine CallV.mkobj (cN1) (Sm.out ?_) | (first | refine CallV.fn (cN1) (Sm.out ?_) | refine ExF.mk (cN1) (Sm.out ?_) | refine ExG.mk (fun _ => cN1) (Sm.out ?_) | refine ExG.mkJ (fun _ => cN1) (Sm.out ?_) | refine ExG.mkI (Ob.out ?_) (fun _ => cN1) (Sm.out ?_)) | (refine CallV.updM ((cG _)) (perm1 (by simp only [hget, hdel, ↓reduceIte, FR.out, k3, hd0, hd1, hg0, hg1, htk, htm, hq, hq1, hm, i1, hs, hs2, z9, z0]; first | done | rfl)) (Sm.out ?_)) | (first | refine CallV.fn (cW) (Sm.out ?_) | refine ExF.mk (cW) (Sm.out ?_) | refine ExG.mk (fun _ => cW) (Sm.out ?_) | refine ExG.mkJ (fun _ => cW) (Sm.out ?_) | refine ExG.mkI (Ob.out ?_) (fun _ => cW) (Sm.out ?_)) | (first | refine CallV.fn (cS) (Sm.out ?_) | refine ExF.mk (cS) (Sm.out ?_) | refine ExG.mk (fun _ => cS) (Sm.out ?_) | refine ExG.mkJ (fun _ => cS) (Sm.out ?_) | refine ExG.mkI (Ob.out ?_) (fun _ => cS) (Sm.out ?_)) | (refine CallV.updM ((cE _)) (perm1 (by simp only [hget, hdel, ↓reduceIte, FR.out, k3, hd0, hd1, hg0, hg1, htk, htm, hq, hq1, hm, i1, hs, hs2, z9, z0]; first | done | rfl)) (Sm.out ?_)) | ((first | refine ExF.up ?_ ((cE _)) (Sm.out ?_) | refine ExG.up ?_ (fun _ => (cE _)) (Sm.out ?_) | refine ExG.upJ ?_ (fun _ => (cE _)) (Sm.out ?_) | refine ExG.upI ?_ (fun _ => (cE _)) (Ob.out ?_) (Sm.out ?_)); focus (exact ⟨_, (perm1 (by simp only [hget, hdel, ↓reduceIte, FR.out, k3, hd0, hd1, hg0, hg1, htk, htm, hq, hq1, hm, i1, hs, hs2, z9, z0]; first | done | rfl))⟩)) | (refine CallV.row (by simp only [hget, ↓reduceIte, FR.out, k3, hd0, hd1, hg0, hg1, htk, htm, hq, hq1, hm, i1, hs, hs2, z9, z0]; first | done | rfl) (cN2) (Sm.out ?_)) | refine CallV.mkrow (cN2) (Sm.out ?_) | (refine CallV.upd (by simp only [hget, ↓reduceIte, FR.out, k3, hd0, hd1, hg0, hg1, htk, htm, hq, hq1, hm, i1, hs, hs2, z9, z0]; first | done | rfl) (cN2) (Sm.out ?_)) | refine CallV.mkobj (cN2) (Sm.out ?_) | (first | refine CallV.fn (cN2) (Sm.out ?_) | refine ExF.mk (cN2) (Sm.out ?_) | refine ExG.mk (fun _ => cN2) (Sm.out ?_) | refine ExG.mkJ (fun _ => cN2) (Sm.out ?_) | refine ExG.mkI (Ob.out ?_) (fun _ => cN2) (Sm.out ?_)) | (refine CallV.updM ((cG2 _)) (perm1 (by simp only [hget, hdel, ↓reduceIte, FR.out, k3, hd0, hd1, hg0, hg1, htk, htm, hq, hq1, hm, i1, hs, hs2, z9, z0]; first | done | rfl)) (Sm.out ?_)) | (refine CallV.ex (F := []) (List.Perm.refl _) (cX) (fun g => Sm.out ?_)) | (first | refine CallV.fn (cT) (Sm.out ?_) | refine ExF.mk (cT) (Sm.out ?_) | refine ExG.mk (fun _ => cT) (Sm.out ?_) | refine ExG.mkJ (fun _ => cT) (Sm.out ?_) | refine ExG.mkI (Ob.out ?_) (fun _ => cT) (Sm.out ?_)) | (refine CallV.updM ((cBd _)) (perm1 (by simp only [hget, hdel, ↓reduceIte, FR.out, k3, hd0, hd1, hg0, hg1, htk, htm, hq, hq1, hm, i1, hs, hs2, z9, z0]; first | done | rfl)) (Sm.out ?_)) | ((first | refine ExF.up ?_ ((cBd _)) (Sm.out ?_) | refine ExG.up ?_ (fun _ => (cBd _)) (Sm.out ?_) | refine ExG.upJ ?_ (fun _ => (cBd _)) (Sm.out ?_) | refine ExG.upI ?_ (fun _ => (cBd _)) (Ob.out ?_) (Sm.out ?_)); focus (exact ⟨_, (perm1 (by simp only [hget, hdel, ↓reduceIte, FR.out, k3, hd0, hd1, hg0, hg1, htk, htm, hq, hq1, hm, i1, hs, hs2, z9, z0]; first | done | rfl))⟩)) | refine YzOuCF ?_ | (refine WP.cond rfl (fun hc => ?_) (fun hc => ?_) <;> (try simp only [ZC, reduceCtorEq, ZD] at hc) <;> (try exact absurd hc (by decide)) <;> (try (exfalso; omega))) | refine Rt.mk (And.intro (fun hg => Sm.out ?_) fun hg => Sm.out ?_) | (refine Nu.mk ?_; first | (fail_if_success have := nb1); intro nb1 | (fail_if_success have := nb2); intro nb2 | (fail_if_success have := nb3); intro nb3 | (fail_if_success have := nb4); intro nb4 | (fail_if_success have := nb5); intro nb5 | (fail_if_success have := nb6); intro nb6 | (fail_if_success have := nb7); intro nb7 | (fail_if_success have := nb8); intro nb8 | (fail_if_success have := nb9); intro nb9 | (fail_if_success have := nb10); intro nb10 | (fail_if_success have := nb11); intro nb11 | (fail_if_success have := nb12); intro nb12 | (fail_if_success have := nb13); intro nb13 | (fail_if_success have := nb14); intro nb14 | intro nbz) | (apply Yfr; refine Yf FR fun hFRb FR => ?_) | refine Two.mk ?_ ?_ | (apply Yxc; exact Yx) | refine Cs.mk fun hcs => Sm.out ?_ | go_step | omega | (simp only [maxLen_eq]; omega) | exact trivial | refine Or.inr (Rt.mk (And.intro (fun hg => Sm.out ?_) fun hg => Sm.out ?_))
      (refine Yg ?_; try exact trivial)
set_option maxHeartbeats 4000000 in
set_option maxRecDepth 8000 in
theorem bytes_ct (b : Bx) (Z : List Int) (n : Nat) (hn : b.l.length = n) (hb : Wi.By Z) (hd0 : 0 ≤ b.d) : ACt Tryd.prog 6 [.agg [.sl n (ecs b.l), iv .u64 b.d], .slz .u8 Z] [] (fun r _ => r = bv true) := by
  have cB := bheavy_ct b n hn
  obtain ⟨hx, hhx⟩ : ∃ x, hbB b = x := ⟨_, rfl⟩
  rw [hhx] at cB
  by_cases hv : hx = true ∨ 3000 < Z.length
  · have cA := awake_ct
    obtain ⟨k3, hk3⟩ : ∃ q, decide ((Z.length : Int) > 3000) = q := ⟨_, rfl⟩
    have hk : (hx || k3) = true := by
      rcases hv with h | h
      · rw [h]; rfl
      · rw [← hk3, decide_eq_true (by omega)]; simp
    obtain ⟨C, hC⟩ : ∃ C, C = ecs b.l := ⟨_, rfl⟩
    rw [← hC] at cB ⊢
    obtain ⟨l, d⟩ := b
    refine ACt.intro Tryd.func6 rfl (by kernel_rfl) (by simp [Tryd.ntmps6]) (fun cx => ?_)
    simp only [argE, Tryd.ntmps6, Tryd.results6]
    first | (have FRx := FR; clear FRx) | have FR := fr0S
    have FA := Sm.mk (And.intro TFOuCF (And.intro hk3 hk))
    repeat' first | (apply Sm.mk; refine Ys ?_) | refine WP.seq fun K hK => ?_ | (apply Ob.mk; exact Yo) | refine And.intro (Ob.out ?_) ?_ | ((fail_if_success (show WP _ _ _ (.region 5 _ _) _ _)); refine Y1OuCF ?_) | refine Yc (c := cA) (r := ?_) | refine Yc (c := cB) (r := ?_) | refine YzOuCF ?_ | (refine WP.cond rfl (fun hc => ?_) (fun hc => ?_) <;> (try simp only [ZC, reduceCtorEq, ZD] at hc) <;> (try exact absurd hc (by decide)) <;> (try (exfalso; omega))) | refine Rt.mk (And.intro (fun hg => Sm.out ?_) fun hg => Sm.out ?_) | (refine Nu.mk ?_; first | (fail_if_success have := nb1); intro nb1 | (fail_if_success have := nb2); intro nb2 | (fail_if_success have := nb3); intro nb3 | (fail_if_success have := nb4); intro nb4 | (fail_if_success have := nb5); intro nb5 | (fail_if_success have := nb6); intro nb6 | (fail_if_success have := nb7); intro nb7 | (fail_if_success have := nb8); intro nb8 | (fail_if_success have := nb9); intro nb9 | (fail_if_success have := nb10); intro nb10 | (fail_if_success have := nb11); intro nb11 | (fail_if_success have := nb12); intro nb12 | (fail_if_success have := nb13); intro nb13 | (fail_if_success have := nb14); intro nb14 | intro nbz) | (apply Yfr; refine Yf FR fun hFRb FR => ?_) | refine Two.mk ?_ ?_ | (apply Yxc; exact Yx) | refine Cs.mk fun hcs => Sm.out ?_ | go_step | omega | (simp only [maxLen_eq]; omega) | exact trivial | refine Or.inr (Rt.mk (And.intro (fun hg => Sm.out ?_) fun hg => Sm.out ?_))
    (refine Yg ?_; try exact trivial)
  have hzl : Z.length ≤ 3000 := by omega
  obtain rfl : hx = false := by
    cases hx with
    | false => rfl
    | true => exact absurd (.inl rfl) hv
  have hz := hb_kz hhx
  have hn80 : n ≤ 80 := by omega
  have cR := rbright_ct b n hn (by omega) hz.2
  have cS := bsame_ct b b n n hn hn (by omega)
  rw [sameX_t rfl] at cS
  have okZ : okS (some Z) := ⟨hb, by omega⟩
  refine bytes_main (ecs b.l) b.d n Z (bL b) (bxB b) hzl cB cR (fun hp x => ?_) (fun hp x => ?_) (fun hp => ?_) cS ?_
  · have hh := (bx_iff _).1 hp
    exact bput_ct x 1 [9] b n hn (by omega) (fun e he => er_eb (hh.2.1 e he)) hd0 hh.1.2 (by simp) (by simp) (by omega)
  · obtain ⟨m1, m2⟩ := by_bL hp hd0
    have c := bget_ct x (some (bL b)) ⟨m1, by omega⟩
    rw [bgS_put hp hd0] at c
    subst hn
    exact c
  · have hh := (bx_iff _).1 hp
    exact ACt.fzRow (rbput_ct b n hn (by omega) (fun e he => er_eb (hh.2.1 e he)) hd0 hh.1.2)
  · obtain ⟨t1, t2⟩ := bg_two Z
    cases hX : rbX Z with
    | none =>
      right
      refine ⟨fun x => ?_, rbget_bad hb (by omega) hX, ?_⟩
      · have c := bget_ct x (some Z) okZ
        rw [t2 hX] at c
        exact c
      · have c := bsame_ct ⟨[], 0⟩ ⟨[], 0⟩ 0 0 rfl rfl (by omega)
        rw [sameX_t rfl] at c
        exact c.view rfl ⟨.same _, vw_nil, trivial⟩
    | some p =>
      obtain ⟨b2, r⟩ := p
      left
      obtain ⟨q1, q2⟩ := rbX_sf hb hX
      have hh := (bx_iff _).1 q2
      have c := bsame_ct b2 b2 _ _ rfl rfl (by omega)
      rw [sameX_t rfl] at c
      refine ⟨ecs b2.l, b2.d, b2.l.length, r, q1, fun x => ?_, rbget_good hb (by omega) hX, c⟩
      have c := bget_ct x (some Z) okZ
      rw [t1 _ _ hX] at c
      exact c
theorem by_ub (bs : List UInt8) : Wi.By (ub bs) := by
  intro x hx
  unfold ub at hx
  obtain ⟨b, _, rfl⟩ := List.mem_map.1 hx
  have := b.toNat_lt
  omega
theorem bytes_law {xs : List AV} (bs : List UInt8) (hx : Shp bxTy xs) : ACt Tryd.prog 6 [.agg xs, .slz .u8 (ub bs)] [] (fun r _ => r = bv true) := by
  obtain ⟨b, e1, h0, h1⟩ := bx_shp hx
  rw [e1]
  exact bytes_ct b _ _ rfl (by_ub bs) h0
end Go.Proofs.YtfknbndmabogjaaDoor
