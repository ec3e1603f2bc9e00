/-
  The walks and the laws that the statement leans on, part 29.
-/
import Derived.Test.YtmbecppmkglmhaaDoorC11
import Derived.Test.YtmbecppmkglmhaaDoorC28
namespace Go.Proofs.YtmbecppmkglmhaaDoor
open Go
set_option linter.unusedVariables false
set_option linter.unusedSimpArgs false
set_option linter.defProp false
def TFWlM :=
  And.intro (And.intro (And.intro (And.intro tyc3 (And.intro zmb3 tyc4)) (And.intro (And.intro zmb4 tyc5) (And.intro zmb5 tyc22))) (And.intro (And.intro elt22 (And.intro mkz22 apT22)) (And.intro (And.intro elk22 zmb22) (And.intro tyc26 mth26_27)))) (And.intro (And.intro (And.intro mth26_26 (And.intro mth26_28 con26)) (And.intro (And.intro zmb26 tyc29) (And.intro zmb29 tyc53))) (And.intro (And.intro Tryd.underlying3 (And.intro Tryd.underlying4 Tryd.underlying5)) (And.intro (And.intro Tryd.underlying22 Tryd.underlying26) (And.intro Tryd.underlying29 Tryd.underlying53))))
theorem Y1WlM {G R : Prop} (r : R) (h : R → G := by intro r; first | (apply WP.region; exact rvc_sound _ _ (Sm.out r)) | exact WP.drawK rfl mixed (by decide +kernel) (Sm.out r) | (apply WP.block; exact r) | (apply WP.skip; exact Yq r) | (apply WP.exit; exact Yq r) | (apply WP.ret; exact Sm.out r) | exact WP.cond rfl (fun _ => r) (fun hg => absurd hg (by decide)) | exact WP.cond rfl (fun hg => absurd hg (by decide)) (fun _ => r) | exact Rt.mk (And.intro (fun _ => Sm.out r) fun hg => absurd hg (by decide)) | exact Rt.mk (And.intro (fun hg => absurd hg (by decide)) fun _ => Sm.out r)) : G := h r
theorem YzWlM {G R : Prop} (r : R) (h : R → G := by intro r; first | (apply ExG.no; exact Sm.out r) | (apply Or.inl; apply ExG.no; exact Sm.out r) | exact Or.inl (And.intro (fun hg => absurd hg (by decide)) (ExG.no (Sm.out r)))) : G := h r
def mkR (i : Nat) : List Int := [IntKind.u8.wrap (((i + 1 : Nat)) : Int), 245]
def mkN (n size : Nat) : Nat → DA
  | 0 => nwA n size
  | i + 1 => wrA (mkN n size i) (i : Int) (mkR i)
structure MkI (n size i : Nat) (a : DA) : Prop where
  A : AOk i a
  s : a.size = size
  n : a.n = n
  f : a.f = -1
  dk : a.dk = false
  by_ : ∀ z ∈ a.S, ∃ x : Bs, z = ub x
theorem mkI (n size : Nat) (h1 : 1 ≤ n) (h2 : n ≤ 400) (h3 : 32 ≤ size) (h4 : size ≤ 512) : ∀ i, i ≤ n → MkI n size i (mkN n size i)
  | 0, _ => ⟨nwA_ok h1 h2 h3 h4, rfl, rfl, rfl, rfl, fun z hz => ⟨zrs size, by
      have : z = zrow size := List.eq_of_mem_replicate hz
      rw [this, ub_zrs]; rfl⟩⟩
  | i + 1, hi => by
    have ih := mkI n size h1 h2 h3 h4 i (by omega)
    have hm := writeC (a := mkN n size i) (i := i) (k := 2) ih.dk (by rw [ih.n]; omega) (by rw [ih.s]; omega)
    have e : mkN n size (i + 1) = { mkN n size i with f := fuseN (mkN n size i).f, de := (mkN n size i).de + 1, W := (mkN n size i).W ++ [(i, pad (mkN n size i).size (mkR i))], S := (mkN n size i).S.set i (pad (mkN n size i).size (mkR i)) } := by
      show wrA (mkN n size i) (i : Int) (mkR i) = _
      unfold wrA
      rw [if_neg (by rw [show (mkR i).length = 2 from rfl]; exact fun h => h hm), if_neg (by rw [ih.f]; omega)]
      rfl
    have hA := wrA_ok ih.A (i : Int) (mkR i)
    refine ⟨hA, by rw [e]; exact ih.s, by rw [e]; exact ih.n, by rw [e]; simp only [ih.f]; rfl, by rw [e]; exact ih.dk, fun z hz => ?_⟩
    rw [e] at hz
    rcases List.mem_or_eq_of_mem_set hz with h | rfl
    · exact ih.by_ z h
    · refine ⟨[UInt8.ofNat ((i + 1) % 256), 245] ++ zrs ((mkN n size i).size - 2), ?_⟩
      rw [ub_append, ub_zrs]
      unfold pad mkR
      rw [wrap_u8_mod]
      simp [ub]
def mkA (n size : Nat) : DA := syA (mkN n size n)
abbrev MS (n size : Nat) : Type := {p : Nat × DL // LOk p.1 (mkA n size) p.2}
structure MkG (b n size : Nat) where
  i : Nat
  l : DL
set_option maxRecDepth 20000 in
theorem marked_ct (n size : Nat) (h1 : 1 ≤ n) (h2 : n ≤ 400) (h3 : 32 ≤ size) (h4 : size ≤ 512) : ACt Tryd.prog 5 [iv .i64 (n : Int), iv .i64 (size : Int)] [] (fun r F' => ∃ g : MS n size, r = pt g.1.1 0 ∧ F' = dH g.1.1 (mkA n size) g.1.2) := by
  have cN := new_d n size h1 h2 h3 h4
  have hMk := mkI n size h1 h2 h3 h4
  refine ACt.intro Tryd.func5 rfl (by kernel_rfl) (by simp [Tryd.ntmps5]) (fun cx => ?_)
  simp only [argE, Tryd.ntmps5, Tryd.results5]
  first | (have FRx := FR; clear FRx) | have FR := fr0S
  have FA := Sm.mk (TFWlM)
  repeat' first | (apply Sm.mk; refine Ys ?_) | refine WP.seq fun K hK => ?_ | (apply Ob.mk; exact Yo) | refine And.intro (Ob.out ?_) ?_ | ((fail_if_success (show WP _ _ _ (.region 2 _ _) _ _)); refine Y1WlM ?_) | (refine CallV.ex (F := []) (List.Perm.refl _) (cN) (fun g => Sm.out ?_)) | refine YzWlM ?_ | (refine WP.cond rfl (fun hc => ?_) (fun hc => ?_) <;> (try simp only [ZC, reduceCtorEq, ZD] at hc) <;> (try exact absurd hc (by decide)) <;> (try (exfalso; omega))) | refine Rt.mk (And.intro (fun hg => Sm.out ?_) fun hg => Sm.out ?_) | (refine Nu.mk ?_; first | (fail_if_success have := nb1); intro nb1 | (fail_if_success have := nb2); intro nb2 | (fail_if_success have := nb3); intro nb3 | (fail_if_success have := nb4); intro nb4 | (fail_if_success have := nb5); intro nb5 | (fail_if_success have := nb6); intro nb6 | intro nbz) | (apply Yfr; refine Yf FR fun hFRb FR => ?_) | refine Two.mk ?_ ?_ | (apply Yxc; exact Yx) | refine Cs.mk fun hcs => Sm.out ?_ | go_step | omega | (simp only [maxLen_eq]; omega) | exact trivial
  obtain ⟨⟨b, l⟩, hl⟩ := g
  simp only [List.append_nil]
  first | (have FRx := FR; clear FRx) | have FR := fr0S
  have FA := Sm.mk (TFWlM)
  repeat' first | (apply Sm.mk; refine Ys ?_) | refine WP.seq fun K hK => ?_ | (apply Ob.mk; exact Yo) | refine And.intro (Ob.out ?_) ?_ | refine Y1WlM ?_ | refine YzWlM ?_ | (refine WP.cond rfl (fun hc => ?_) (fun hc => ?_) <;> (try simp only [ZC, reduceCtorEq, ZD] at hc) <;> (try exact absurd hc (by decide)) <;> (try (exfalso; omega))) | refine Rt.mk (And.intro (fun hg => Sm.out ?_) fun hg => Sm.out ?_) | (refine Nu.mk ?_; first | (fail_if_success have := nb1); intro nb1 | (fail_if_success have := nb2); intro nb2 | (fail_if_success have := nb3); intro nb3 | (fail_if_success have := nb4); intro nb4 | (fail_if_success have := nb5); intro nb5 | (fail_if_success have := nb6); intro nb6 | intro nbz) | (apply Yfr; refine Yf FR fun hFRb FR => ?_) | refine Two.mk ?_ ?_ | (apply Yxc; exact Yx) | refine Cs.mk fun hcs => Sm.out ?_ | go_step | omega | (simp only [maxLen_eq]; omega) | exact trivial
  refine WP.loop (Γ := MkG b n size) (fun g => ⟨[(7, iv .i64 (g.i : Int)), (0, iv .i64 (n : Int)), (5, pt b 0)], dH b (mkN n size g.i) g.l⟩) (fun g => g.i ≤ n ∧ LOk b (mkN n size g.i) g.l) (fun g => n - g.i) ⟨0, l⟩ ⟨Nat.zero_le _, hl⟩ (Sub.of_env [] (pmz _) (by simp [look])) ?_
  clear hl
  intro ⟨i, l⟩ ⟨hi, hl⟩
  simp only at hi hl ⊢
  have FR : Sm (¬ ((1 : Nat) = 0)) := Sm.mk Nat.one_ne_zero
  have hM := hMk i hi
  by_cases hin : i < n
  · have ki : decide ((i : Int) < (n : Int)) = true := decide_eq_true (by omega)
    have s1 : IntKind.i64.wrap ((i : Int) + 1) = ((i + 1 : Nat) : Int) := by rw [wrap_i64 (by omega) (by omega)]; omega
    have cW := write_d hM.A hl (by omega) (i : Int) (mkR i)
    have e : mkN n size (i + 1) = wrA (mkN n size i) (i : Int) (mkR i) := rfl
    rw [← e] at cW
    have cF := fun x => cW.frzG (b := x) (k := .u8) (zs := [IntKind.u8.wrap (((i + 1 : Nat)) : Int), 245]) (s0 := 2) (ty := 5) (args := [pt b 0, iv .i64 (i : Int), ms x 0 2 2]) (by simp [frz, maxLen_eq, mkR])
    first | (have FRx := FR; clear FRx) | have FR := fr0S
    have FA := Sm.mk (And.intro TFWlM (And.intro ki s1))
    repeat' first | (apply Sm.mk; refine Ys ?_) | refine WP.seq fun K hK => ?_ | (apply Ob.mk; exact Yo) | refine And.intro (Ob.out ?_) ?_ | ((fail_if_success (show WP _ _ _ (.region 4 _ _) _ _)); refine Y1WlM ?_) | (refine CallV.exM (cF _) (pmz _) (fun g => Sm.out ?_)) | refine YzWlM ?_ | (refine WP.cond rfl (fun hc => ?_) (fun hc => ?_) <;> (try simp only [ZC, reduceCtorEq, ZD] at hc) <;> (try exact absurd hc (by decide)) <;> (try (exfalso; omega))) | refine Rt.mk (And.intro (fun hg => Sm.out ?_) fun hg => Sm.out ?_) | (refine Nu.mk ?_; first | (fail_if_success have := nb1); intro nb1 | (fail_if_success have := nb2); intro nb2 | (fail_if_success have := nb3); intro nb3 | (fail_if_success have := nb4); intro nb4 | (fail_if_success have := nb5); intro nb5 | (fail_if_success have := nb6); intro nb6 | intro nbz) | (apply Yfr; refine Yf FR fun hFRb FR => ?_) | refine Two.mk ?_ ?_ | (apply Yxc; exact Yx) | refine Cs.mk fun hcs => Sm.out ?_ | go_step | omega | (simp only [maxLen_eq]; omega) | exact trivial
    obtain ⟨l2, hl2⟩ := g
    simp only [List.append_nil]
    first | (have FRx := FR; clear FRx) | have FR := fr0S
    have FA := Sm.mk (And.intro TFWlM s1)
    repeat' first | (apply Sm.mk; refine Ys ?_) | refine WP.seq fun K hK => ?_ | (apply Ob.mk; exact Yo) | refine And.intro (Ob.out ?_) ?_ | refine Y1WlM ?_ | refine YzWlM ?_ | (refine WP.cond rfl (fun hc => ?_) (fun hc => ?_) <;> (try simp only [ZC, reduceCtorEq, ZD] at hc) <;> (try exact absurd hc (by decide)) <;> (try (exfalso; omega))) | refine Rt.mk (And.intro (fun hg => Sm.out ?_) fun hg => Sm.out ?_) | (refine Nu.mk ?_; first | (fail_if_success have := nb1); intro nb1 | (fail_if_success have := nb2); intro nb2 | (fail_if_success have := nb3); intro nb3 | (fail_if_success have := nb4); intro nb4 | (fail_if_success have := nb5); intro nb5 | (fail_if_success have := nb6); intro nb6 | intro nbz) | (apply Yfr; refine Yf FR fun hFRb FR => ?_) | refine Two.mk ?_ ?_ | (apply Yxc; exact Yx) | refine Cs.mk fun hcs => Sm.out ?_ | go_step | omega | (simp only [maxLen_eq]; omega) | exact trivial
    exact ⟨⟨i + 1, l2⟩, ⟨by simp only; omega, hl2⟩, by simp only; omega, Sub.of_env [] (pmz _) (by simp [look, s1])⟩
  · obtain rfl : i = n := by omega
    have ki : decide ((i : Int) < (i : Int)) = false := by simp
    have cS := sync_d hM.A hl (by omega)
    first | (have FRx := FR; clear FRx) | have FR := fr0S
    have FA := Sm.mk (And.intro TFWlM ki)
    repeat' first | (apply Sm.mk; refine Ys ?_) | refine WP.seq fun K hK => ?_ | (apply Ob.mk; exact Yo) | refine And.intro (Ob.out ?_) ?_ | refine Y1WlM ?_ | (refine CallV.exM (cS) (pmz _) (fun g => Sm.out ?_)) | refine YzWlM ?_ | (refine WP.cond rfl (fun hc => ?_) (fun hc => ?_) <;> (try simp only [ZC, reduceCtorEq, ZD] at hc) <;> (try exact absurd hc (by decide)) <;> (try (exfalso; omega))) | refine Rt.mk (And.intro (fun hg => Sm.out ?_) fun hg => Sm.out ?_) | (refine Nu.mk ?_; first | (fail_if_success have := nb1); intro nb1 | (fail_if_success have := nb2); intro nb2 | (fail_if_success have := nb3); intro nb3 | (fail_if_success have := nb4); intro nb4 | (fail_if_success have := nb5); intro nb5 | (fail_if_success have := nb6); intro nb6 | intro nbz) | (apply Yfr; refine Yf FR fun hFRb FR => ?_) | refine Two.mk ?_ ?_ | (apply Yxc; exact Yx) | refine Cs.mk fun hcs => Sm.out ?_ | go_step | omega | (simp only [maxLen_eq]; omega) | exact trivial
    obtain ⟨l2, hl2⟩ := g
    simp only [List.append_nil]
    (refine OutQ.drop _ _ (pmz _) (by simp only [resv, ZK, look, loadv, loadn, loadnm, load1, load1m, hget, ↓reduceIte, Nat.reduceEqDiff, Nat.reduceAdd, Nat.reduceMul, Nat.reduceLeDiff, Nat.reduceLT, reduceCtorEq, TFWlM, FR.out]) ⟨⟨(b, l2), hl2⟩, (by simp only [resv, resA, ZK, look, loadv, loadn, loadnm, load1, load1m, hget, ↓reduceIte, Nat.reduceEqDiff, Nat.reduceAdd, Nat.reduceMul, Nat.reduceLeDiff, Nat.reduceLT, reduceCtorEq, TFWlM, FR.out]; first | done | rfl), rfl⟩)
end Go.Proofs.YtmbecppmkglmhaaDoor
