/-
  The walks and the laws that the statement leans on, part 17.
-/
import Derived.Test.YtmbecppmkglmhaaDoorC11
import Derived.Test.YtmbecppmkglmhaaDoorC16
namespace Go.Proofs.YtmbecppmkglmhaaDoor
open Go
set_option linter.unusedVariables false
set_option linter.unusedSimpArgs false
set_option linter.defProp false
def TFBlL :=
  And.intro (And.intro (And.intro (And.intro tyc3 (And.intro zmb3 tyc4)) (And.intro (And.intro zmb4 tyc5) (And.intro zmb5 tyc9))) (And.intro (And.intro (And.intro zmb9 tyc22) (And.intro elt22 mkz22)) (And.intro (And.intro apT22 elk22) (And.intro zmb22 tyc26)))) (And.intro (And.intro (And.intro (And.intro mth26_27 mth26_26) (And.intro mth26_28 con26)) (And.intro (And.intro zmb26 tyc29) (And.intro zmb29 tyc61))) (And.intro (And.intro (And.intro Tryd.underlying3 Tryd.underlying4) (And.intro Tryd.underlying5 Tryd.underlying9)) (And.intro (And.intro Tryd.underlying22 Tryd.underlying26) (And.intro Tryd.underlying29 Tryd.underlying61))))
theorem Y1BlL {G R : Prop} (r : R) (h : R → G := by intro r; first | (apply WP.region; exact rvc_sound _ _ (Sm.out r)) | exact WP.drawK rfl mixed (by decide +kernel) (Sm.out r) | (apply WP.block; exact r) | (apply WP.skip; exact Yq r) | (apply WP.exit; exact Yq r) | (apply WP.ret; exact Sm.out r) | exact WP.cond rfl (fun _ => r) (fun hg => absurd hg (by decide)) | exact WP.cond rfl (fun hg => absurd hg (by decide)) (fun _ => r) | exact Rt.mk (And.intro (fun _ => Sm.out r) fun hg => absurd hg (by decide)) | exact Rt.mk (And.intro (fun hg => absurd hg (by decide)) fun _ => Sm.out r)) : G := h r
theorem YzBlL {G R : Prop} (r : R) (h : R → G := by intro r; first | (apply ExG.no; exact Sm.out r) | (apply Or.inl; apply ExG.no; exact Sm.out r) | exact Or.inl (And.intro (fun hg => absurd hg (by decide)) (ExG.no (Sm.out r)))) : G := h r
theorem bstr_size (zs : List Int) : (bstr zs).size = zs.length := by simp [bstr, ByteArray.size]
theorem bstr_app (xs ys : List Int) : bstr xs ++ bstr ys = bstr (xs ++ ys) := by
  apply ByteArray.ext
  simp [bstr, ByteArray.data_append]
theorem bstr_ext (zs : List Int) (lo hi : Nat) : (bstr zs).extract lo hi = bstr ((zs.take hi).drop lo) := by
  apply ByteArray.ext
  rw [ByteArray.data_extract]
  apply Array.ext'
  simp [bstr, List.map_take, List.map_drop, List.drop_take]
theorem flat_split {s : Nat} : ∀ (X : List (List Int)) (i : Nat) (y : List Int), (∀ z ∈ X, z.length = s) → X[i]? = some y → ∃ A B : List Int, A.length = s * i ∧ X.flatten = A ++ (y ++ B) ∧ ∀ z, (X.set i z).flatten = A ++ (z ++ B)
  | x :: r, 0, y, h, hy => by
    simp only [List.getElem?_cons_zero, Option.some.injEq] at hy
    subst hy
    exact ⟨[], r.flatten, by simp, by simp, fun z => by simp⟩
  | x :: r, i + 1, y, h, hy => by
    obtain ⟨A, B, h1, h2, h3⟩ := flat_split r i y (fun z hz => h z (List.mem_cons_of_mem _ hz)) (by simpa using hy)
    refine ⟨x ++ A, B, ?_, by simp [h2], fun z => by simp [h3 z]⟩
    rw [List.length_append, h1, h x (List.mem_cons_self ..), Nat.mul_succ]; omega
theorem flat_len {size : Nat} : ∀ (L : List (List Int)), (∀ z ∈ L, z.length = size) → L.flatten.length = L.length * size
  | [], _ => by simp
  | x :: r, h => by
    rw [List.flatten_cons, List.length_append, flat_len r fun z hz => h z (List.mem_cons_of_mem _ hz), h x (List.mem_cons_self ..), List.length_cons, Nat.succ_mul]; omega
set_option maxRecDepth 20000 in
theorem all_ct (b : Nat) (a : DA) (l : DL) {c : Nat} (hA : AOk c a) (hl : LOk b a l) (hk : a.dk = false) : ACt Tryd.prog 8 [pt b 0] (dH b a l) (fun r F' => r = .lit (.string (bstr a.S.flatten)) ∧ F' = dH b a l) := by
  refine ACt.intro Tryd.func8 rfl (by kernel_rfl) (by simp [Tryd.ntmps8]) (fun cx => ?_)
  simp only [argE, Tryd.ntmps8, Tryd.results8]
  have cB := blocks_d b a l
  first | (have FRx := FR; clear FRx) | have FR := fr0S
  have FA := Sm.mk (TFBlL)
  repeat' first | (apply Sm.mk; refine Ys ?_) | refine WP.seq fun K hK => ?_ | (apply Ob.mk; exact Yo) | refine And.intro (Ob.out ?_) ?_ | refine Y1BlL ?_ | refine YzBlL ?_ | (refine WP.cond rfl (fun hc => ?_) (fun hc => ?_) <;> (try simp only [ZC, reduceCtorEq, ZD] at hc) <;> (try exact absurd hc (by decide)) <;> (try (exfalso; omega))) | refine Rt.mk (And.intro (fun hg => Sm.out ?_) fun hg => Sm.out ?_) | (refine Nu.mk ?_; first | (fail_if_success have := nb1); intro nb1 | (fail_if_success have := nb2); intro nb2 | (fail_if_success have := nb3); intro nb3 | intro nbz) | (apply Yfr; refine Yf FR fun hFRb FR => ?_) | refine Two.mk ?_ ?_ | (apply Yxc; exact Yx) | refine Cs.mk fun hcs => Sm.out ?_ | go_step | omega | (simp only [maxLen_eq]; omega) | exact trivial
  refine WP.loop (Γ := Nat) (fun i => ⟨[(4, iv .i64 (i : Nat)), (3, .lit (.string (bstr (a.S.take i).flatten))), (0, pt b 0)], dH b a l⟩)
    (fun i => i ≤ a.n) (fun i => a.n - i) 0 (by omega) (Sub.of_env [] (pmz _) (by simp [look, bstr])) ?_
  intro i hi
  have FR : Sm (¬ ((1 : Nat) = 0)) := Sm.mk Nat.one_ne_zero
  by_cases hlt : i < a.n
  · have k1 : decide ((i : Int) < (a.n : Int)) = true := by simp; omega
    have cR := readok_d b a l hA hl i hlt hk
    have w1 : IntKind.i64.wrap ((i : Int) + 1) = ((i + 1 : Nat) : Int) := by have := hA.n2; rw [wrap_i64 (by omega) (by omega)]; omega
    have hs := hA.Sl
    have et : (a.S.take (i + 1)).flatten = (a.S.take i).flatten ++ a.S.getD i [] := by
      rw [List.take_add_one, List.getElem?_eq_getElem (by omega), List.flatten_append, List.getD_eq_getElem?_getD, List.getElem?_eq_getElem (by omega)]
      simp
    have z1 : (a.S.getD i []).length = a.size := by
      rw [List.getD_eq_getElem?_getD, List.getElem?_eq_getElem (by omega)]
      exact hA.Sr _ (List.getElem_mem _)
    have z2 : (a.S.take i).flatten.length = i * a.size := by
      rw [flat_len (size := a.size) _ fun z hz => hA.Sr z (List.mem_of_mem_take hz), List.length_take, Nat.min_eq_left (by omega)]
    have zz : (bstr (a.S.take i).flatten).size + (bstr (a.S.getD i [])).size ≤ 9223372036854775807 := by
      rw [bstr_size, bstr_size, z1, z2]
      have h1 := hA.n2
      have h2 := hA.s2
      have : i * a.size ≤ 400 * 512 := Nat.mul_le_mul (by omega) h2
      omega
    first | (have FRx := FR; clear FRx) | have FR := fr0S
    have FA := Sm.mk (And.intro TFBlL k1)
    repeat' first | (apply Sm.mk; refine Ys ?_) | refine WP.seq fun K hK => ?_ | (apply Ob.mk; exact Yo) | refine And.intro (Ob.out ?_) ?_ | refine Y1BlL ?_ | refine CallV.updM (cB) (pmz _) (Sm.out ?_) | ((first | refine ExF.up ?_ (cB) (Sm.out ?_) | refine ExG.up ?_ (fun _ => cB) (Sm.out ?_) | refine ExG.upJ ?_ (fun _ => cB) (Sm.out ?_) | refine ExG.upI ?_ (fun _ => cB) (Ob.out ?_) (Sm.out ?_)); focus (exact ⟨_, (pmz _)⟩)) | refine CallV.updM (cR) (pmz _) (Sm.out ?_) | ((first | refine ExF.up ?_ (cR) (Sm.out ?_) | refine ExG.up ?_ (fun _ => cR) (Sm.out ?_) | refine ExG.upJ ?_ (fun _ => cR) (Sm.out ?_) | refine ExG.upI ?_ (fun _ => cR) (Ob.out ?_) (Sm.out ?_)); focus (exact ⟨_, (pmz _)⟩)) | refine YzBlL ?_ | (refine WP.cond rfl (fun hc => ?_) (fun hc => ?_) <;> (try simp only [ZC, reduceCtorEq, ZD] at hc) <;> (try exact absurd hc (by decide)) <;> (try (exfalso; omega))) | refine Rt.mk (And.intro (fun hg => Sm.out ?_) fun hg => Sm.out ?_) | (refine Nu.mk ?_; first | (fail_if_success have := nb1); intro nb1 | (fail_if_success have := nb2); intro nb2 | (fail_if_success have := nb3); intro nb3 | intro nbz) | (apply Yfr; refine Yf FR fun hFRb FR => ?_) | refine Two.mk ?_ ?_ | (apply Yxc; exact Yx) | refine Cs.mk fun hcs => Sm.out ?_ | go_step | omega | (simp only [maxLen_eq]; omega) | exact trivial
    exact ⟨i + 1, by omega, by omega, Sub.of_env [] (pmz _) (by simp [look, w1, et, bstr_app])⟩
  · obtain rfl : i = a.n := by omega
    have k1 : decide ((a.n : Int) < (a.n : Int)) = false := by simp
    have et : a.S.take a.n = a.S := List.take_of_length_le (by have := hA.Sl; omega)
    first | (have FRx := FR; clear FRx) | have FR := fr0S
    have FA := Sm.mk (And.intro TFBlL k1)
    repeat' first | (apply Sm.mk; refine Ys ?_) | refine WP.seq fun K hK => ?_ | (apply Ob.mk; exact Yo) | refine And.intro (Ob.out ?_) ?_ | refine Y1BlL ?_ | refine CallV.updM (cB) (pmz _) (Sm.out ?_) | ((first | refine ExF.up ?_ (cB) (Sm.out ?_) | refine ExG.up ?_ (fun _ => cB) (Sm.out ?_) | refine ExG.upJ ?_ (fun _ => cB) (Sm.out ?_) | refine ExG.upI ?_ (fun _ => cB) (Ob.out ?_) (Sm.out ?_)); focus (exact ⟨_, (pmz _)⟩)) | refine YzBlL ?_ | (refine WP.cond rfl (fun hc => ?_) (fun hc => ?_) <;> (try simp only [ZC, reduceCtorEq, ZD] at hc) <;> (try exact absurd hc (by decide)) <;> (try (exfalso; omega))) | refine Rt.mk (And.intro (fun hg => Sm.out ?_) fun hg => Sm.out ?_) | (refine Nu.mk ?_; first | (fail_if_success have := nb1); intro nb1 | (fail_if_success have := nb2); intro nb2 | (fail_if_success have := nb3); intro nb3 | intro nbz) | (apply Yfr; refine Yf FR fun hFRb FR => ?_) | refine Two.mk ?_ ?_ | (apply Yxc; exact Yx) | refine Cs.mk fun hcs => Sm.out ?_ | go_step | omega | (simp only [maxLen_eq]; omega) | exact trivial
    (refine OutQ.drop _ _ (pmz _) (by simp only [resv, ZK, look, loadv, loadn, loadnm, load1, load1m, hget, ↓reduceIte, Nat.reduceEqDiff, Nat.reduceAdd, Nat.reduceMul, Nat.reduceLeDiff, Nat.reduceLT, reduceCtorEq, TFBlL, FR.out, et]) ⟨(by simp only [resv, resA, ZK, look, loadv, loadn, loadnm, load1, load1m, hget, ↓reduceIte, Nat.reduceEqDiff, Nat.reduceAdd, Nat.reduceMul, Nat.reduceLeDiff, Nat.reduceLT, reduceCtorEq, TFBlL, FR.out, et]; first | done | rfl), rfl⟩)
end Go.Proofs.YtmbecppmkglmhaaDoor
