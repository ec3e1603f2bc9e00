/-
  The walks and the laws that the statement leans on, part 31.
-/
import Derived.Test.YtpjnhcjfkgjbnaaDoorL10
import Derived.Test.YtpjnhcjfkgjbnaaDoorL30
namespace Go.Proofs.YtpjnhcjfkgjbnaaDoor
open Go
set_option linter.unusedVariables false
set_option linter.unusedSimpArgs false
set_option linter.defProp false
def TFWlM :=
  And.intro (And.intro (And.intro (And.intro (And.intro tyc0 tyc3) (And.intro zmb3 (And.intro tyc4 zmb4))) (And.intro (And.intro tyc5 (And.intro zmb5 tyc22)) (And.intro elt22 (And.intro mkz22 mkc22)))) (And.intro (And.intro (And.intro apT22 (And.intro elk22 zmb22)) (And.intro tyc25 (And.intro mth25_46 mth25_45))) (And.intro (And.intro mth25_44 (And.intro con25 zmb25)) (And.intro tyc28 (And.intro zmb28 tyc38))))) (And.intro (And.intro (And.intro (And.intro elt38 mkz38) (And.intro apT38 (And.intro elk38 zmb38))) (And.intro (And.intro tyc40 (And.intro foff40_0 fpart40_0)) (And.intro foff40_1 (And.intro fpart40_1 zmb40)))) (And.intro (And.intro (And.intro bldT40 (And.intro tyc56 Tryd.underlying0)) (And.intro Tryd.underlying3 (And.intro Tryd.underlying4 Tryd.underlying5))) (And.intro (And.intro Tryd.underlying22 (And.intro Tryd.underlying25 Tryd.underlying28)) (And.intro Tryd.underlying38 (And.intro Tryd.underlying40 Tryd.underlying56)))))
theorem Y1WlM {G R : Prop} (r : R) (h : R → G := by intro r; first | (apply WP.region; exact rvc_sound _ _ (Sm.out r)) | exact WP.drawK rfl mixed (by decide +kernel) (Sm.out r) | (apply WP.block; exact r) | (apply WP.skip; exact Yq r) | (apply WP.exit; exact Yq r) | (apply WP.ret; exact Sm.out r) | exact WP.cond rfl (fun _ => r) (fun hg => absurd hg (by decide)) | exact WP.cond rfl (fun hg => absurd hg (by decide)) (fun _ => r) | exact Rt.mk (And.intro (fun _ => Sm.out r) fun hg => absurd hg (by decide)) | exact Rt.mk (And.intro (fun hg => absurd hg (by decide)) fun _ => Sm.out r)) : G := h r
theorem YzWlM {G R : Prop} (r : R) (h : R → G := by intro r; first | (apply ExG.no; exact Sm.out r) | (apply Or.inl; apply ExG.no; exact Sm.out r) | exact Or.inl (And.intro (fun hg => absurd hg (by decide)) (ExG.no (Sm.out r)))) : G := h r
theorem YsWlM0 {P Q : Prop} (q : Q) (h : P = Q := by (try (conv => lhs; simp -dsimp only [ZK, rvc, capA, appA, litL, mkfv, drawF, headN, pureH, stp, dvc, calleeOf, gcall, pev, eff, newB, okd, og, ogs, ogo, ogp, slv, bltv, opd, litv, strip, one, both, putE, St.put, look, gdOf, gdv, picka, pickv, pickw, binv, bini, bins, binb, binp, binq, isSlT, bina, shp, eqCells, unv, convv, nilv, faddv, addp, idxav, idxp, load1, load1m, loadn, loadnm, loadv, hget, hset, hrep, hdel, slicev, slice3v, bnd, shift1, lenv, capv, IntKind.bits, extractv, fieldv, indexv, min2v, max2v, mkiv, tasv, tasz, cellsA, fillA, buildv, stC, oneC, rowMB, intsA, plN, appE, appZ, appC, appS, srcB, appNZ, appNC, VwL, srcC, srcZ, srcM, isBoolT, isPtrT, isSliceT, uOk, Value.oneCell', Nat.reducePow, Int.reducePow, Nat.reduceAdd, Nat.reduceMul, Nat.reduceSub, Nat.reduceLT, Nat.reduceLeDiff, Nat.reduceEqDiff, Nat.reduceBEq, Nat.reduceDiv, Nat.reduceMod, ↓reduceIte, reduceCtorEq, Int.reduceToNat, Int.reduceLT, Int.reduceLE, TFWlM, SeqQ, BlkQ, LoopQ, BodyQ, hin, FA.out, FR.out])) <;> exact rfl) : P := h.mpr q
structure Ac where
  kd : Int
  z : Bs
def acs : List Ac → List AV
  | [] => []
  | a :: r => iv .i64 a.kd :: .slz .u8 (ub a.z) :: acs r
theorem acs_len : ∀ L, (acs L).length = L.length * 2
  | [] => rfl
  | a :: r => by simp only [acs, List.length_cons, acs_len r]; omega
theorem acs_drop : ∀ (L : List Ac) (i : Nat) (h : i < L.length), (acs L).drop (i * 2) = iv .i64 L[i].kd :: .slz .u8 (ub L[i].z) :: acs (L.drop (i + 1))
  | a :: r, 0, _ => rfl
  | a :: r, i + 1, h => by
    have := acs_drop r i (by simpa using h)
    rw [show (i + 1) * 2 = i * 2 + 2 by omega]
    simpa [acs] using this
theorem long_ct (L : List Ac) : ACt Tryd.prog 7 [.sl L.length (acs L)] [] (fun r F' => ∃ z : Bool, (z = false ↔ L.length ≤ 60 ∧ ∀ a ∈ L, a.z.length ≤ 2000) ∧ r = bv z ∧ F' = []) := by
  have hCl := acs_len L
  have hdr := acs_drop L
  obtain ⟨n, hn⟩ : ∃ n, L.length = n := ⟨_, rfl⟩
  obtain ⟨C, hC⟩ : ∃ C, C = acs L := ⟨_, rfl⟩
  rw [← hC] at hCl ⊢
  simp only [← hC] at hdr
  rw [hn] at hCl ⊢
  by_cases h60 : 60 < n
  · have k0 : decide ((n : Int) > 60) = true := decide_eq_true (by omega)
    refine ACt.intro Tryd.func7 rfl (by kernel_rfl) (by simp [Tryd.ntmps7]) (fun cx => ?_)
    simp only [argE, Tryd.ntmps7, Tryd.results7]
    first | (have FRx := FR; clear FRx) | have FR := fr0S
    have FA := Sm.mk (And.intro TFWlM k0)
    repeat' first | (apply Sm.mk; refine Ys ?_) | refine WP.seq fun K hK => ?_ | (apply Ob.mk; exact Yo) | refine And.intro (Ob.out ?_) ?_ | refine Y1WlM ?_ | refine YzWlM ?_ | (refine WP.cond rfl (fun hc => ?_) (fun hc => ?_) <;> (try simp only [ZC, reduceCtorEq, ZD] at hc) <;> (try exact absurd hc (by decide)) <;> (try (exfalso; omega))) | refine Rt.mk (And.intro (fun hg => Sm.out ?_) fun hg => Sm.out ?_) | (refine Nu.mk ?_; first | (fail_if_success have := nb1); intro nb1 | (fail_if_success have := nb2); intro nb2 | (fail_if_success have := nb3); intro nb3 | (fail_if_success have := nb4); intro nb4 | (fail_if_success have := nb5); intro nb5 | (fail_if_success have := nb6); intro nb6 | intro nbz) | (apply Yfr; refine Yf FR fun hFRb FR => ?_) | refine Two.mk ?_ ?_ | (apply Yxc; exact Yx) | refine Cs.mk fun hcs => Sm.out ?_ | go_step | omega | (simp only [maxLen_eq]; omega) | exact trivial
    (refine OutQ.drop _ _ (List.Perm.refl _) (by simp only [resv, ZK, look, loadv, loadn, loadnm, load1, load1m, hget, ↓reduceIte, Nat.reduceEqDiff, Nat.reduceAdd, Nat.reduceMul, Nat.reduceLeDiff, Nat.reduceLT, reduceCtorEq, TFWlM, FR.out]) ⟨true, ⟨fun h => absurd h.symm Bool.false_ne_true, fun h => absurd h.1 (by omega)⟩, (by simp only [resv, resA, ZK, look, loadv, loadn, loadnm, load1, load1m, hget, ↓reduceIte, Nat.reduceEqDiff, Nat.reduceAdd, Nat.reduceMul, Nat.reduceLeDiff, Nat.reduceLT, reduceCtorEq, TFWlM, FR.out]; first | done | rfl), rfl⟩)
  · have k0 : decide ((n : Int) > 60) = false := decide_eq_false (by omega)
    refine ACt.intro Tryd.func7 rfl (by kernel_rfl) (by simp [Tryd.ntmps7]) (fun cx => ?_)
    simp only [argE, Tryd.ntmps7, Tryd.results7]
    first | (have FRx := FR; clear FRx) | have FR := fr0S
    have FA := Sm.mk (And.intro TFWlM k0)
    repeat' first | (apply Sm.mk; refine Ys ?_) | refine WP.seq fun K hK => ?_ | (apply Ob.mk; exact Yo) | refine And.intro (Ob.out ?_) ?_ | refine Y1WlM ?_ | refine YzWlM ?_ | (refine WP.cond rfl (fun hc => ?_) (fun hc => ?_) <;> (try simp only [ZC, reduceCtorEq, ZD] at hc) <;> (try exact absurd hc (by decide)) <;> (try (exfalso; omega))) | refine Rt.mk (And.intro (fun hg => Sm.out ?_) fun hg => Sm.out ?_) | (refine Nu.mk ?_; first | (fail_if_success have := nb1); intro nb1 | (fail_if_success have := nb2); intro nb2 | (fail_if_success have := nb3); intro nb3 | (fail_if_success have := nb4); intro nb4 | (fail_if_success have := nb5); intro nb5 | (fail_if_success have := nb6); intro nb6 | intro nbz) | (apply Yfr; refine Yf FR fun hFRb FR => ?_) | refine Two.mk ?_ ?_ | (apply Yxc; exact Yx) | refine Cs.mk fun hcs => Sm.out ?_ | go_step | omega | (simp only [maxLen_eq]; omega) | exact trivial
    refine WP.loop (Γ := Nat) (fun i => ⟨[(3, iv .i64 (i : Int)), (0, .sl n C)], []⟩) (fun i => i ≤ n ∧ ∀ j (h : j < L.length), j < i → L[j].z.length ≤ 2000) (fun i => n - i) 0 ⟨Nat.zero_le _, fun j _ h => absurd h (Nat.not_lt_zero _)⟩ (Sub.pick (by simp [pickB, hget, hdel, FR.out]) (by simp [look])) ?_
    intro i ⟨hi, hq⟩
    have FR : Sm (¬ ((1 : Nat) = 0)) := Sm.mk Nat.one_ne_zero
    by_cases hin : i < n
    · have ki : decide ((i : Int) < (n : Int)) = true := decide_eq_true (by omega)
      have s1 : IntKind.i64.wrap ((i : Int) + 1) = ((i + 1 : Nat) : Int) := by rw [wrap_i64 (by omega) (by omega)]; omega
      have hd := hdr i (by omega)
      have q1 : (i + 1) * 2 ≤ C.length := by omega
      have hl := ub_len (L[i]'(by omega)).z
      obtain ⟨v, hv⟩ : ∃ x, x = L[i]'(by omega) := ⟨_, rfl⟩
      rw [← hv] at hd hl
      obtain ⟨Y, hY⟩ : ∃ Y, Y = ub v.z := ⟨_, rfl⟩
      rw [← hY] at hd hl
      by_cases h2 : 2000 < v.z.length
      · have k2 : decide ((v.z.length : Int) > 2000) = true := decide_eq_true (by omega)
        first | (have FRx := FR; clear FRx) | have FR := fr0S
        have FA := Sm.mk (And.intro TFWlM (And.intro ki (And.intro hd (And.intro q1 (And.intro hl k2)))))
        repeat' first | (apply Sm.mk; refine YsWlM0 ?_) | refine WP.seq fun K hK => ?_ | (apply Ob.mk; exact Yo) | refine And.intro (Ob.out ?_) ?_ | refine Y1WlM ?_ | refine YzWlM ?_ | (refine WP.cond rfl (fun hc => ?_) (fun hc => ?_) <;> (try simp only [ZC, reduceCtorEq, ZD] at hc) <;> (try exact absurd hc (by decide)) <;> (try (exfalso; omega))) | refine Rt.mk (And.intro (fun hg => Sm.out ?_) fun hg => Sm.out ?_) | (refine Nu.mk ?_; first | (fail_if_success have := nb1); intro nb1 | (fail_if_success have := nb2); intro nb2 | (fail_if_success have := nb3); intro nb3 | (fail_if_success have := nb4); intro nb4 | (fail_if_success have := nb5); intro nb5 | (fail_if_success have := nb6); intro nb6 | intro nbz) | (apply Yfr; refine Yf FR fun hFRb FR => ?_) | refine Two.mk ?_ ?_ | (apply Yxc; exact Yx) | refine Cs.mk fun hcs => Sm.out ?_ | go_step | omega | (simp only [maxLen_eq]; omega) | exact trivial
        (refine OutQ.drop _ _ (List.Perm.refl _) (by simp only [resv, ZK, look, loadv, loadn, loadnm, load1, load1m, hget, ↓reduceIte, Nat.reduceEqDiff, Nat.reduceAdd, Nat.reduceMul, Nat.reduceLeDiff, Nat.reduceLT, reduceCtorEq, TFWlM, FR.out]) ⟨true, ⟨fun h => absurd h.symm Bool.false_ne_true, fun h => absurd (h.2 v (by rw [hv]; exact List.getElem_mem _)) (by omega)⟩, (by simp only [resv, resA, ZK, look, loadv, loadn, loadnm, load1, load1m, hget, ↓reduceIte, Nat.reduceEqDiff, Nat.reduceAdd, Nat.reduceMul, Nat.reduceLeDiff, Nat.reduceLT, reduceCtorEq, TFWlM, FR.out]; first | done | rfl), rfl⟩)
      · have k2 : decide ((v.z.length : Int) > 2000) = false := decide_eq_false (by omega)
        first | (have FRx := FR; clear FRx) | have FR := fr0S
        have FA := Sm.mk (And.intro TFWlM (And.intro ki (And.intro hd (And.intro q1 (And.intro hl (And.intro k2 s1))))))
        repeat' first | (apply Sm.mk; refine YsWlM0 ?_) | refine WP.seq fun K hK => ?_ | (apply Ob.mk; exact Yo) | refine And.intro (Ob.out ?_) ?_ | refine Y1WlM ?_ | refine YzWlM ?_ | (refine WP.cond rfl (fun hc => ?_) (fun hc => ?_) <;> (try simp only [ZC, reduceCtorEq, ZD] at hc) <;> (try exact absurd hc (by decide)) <;> (try (exfalso; omega))) | refine Rt.mk (And.intro (fun hg => Sm.out ?_) fun hg => Sm.out ?_) | (refine Nu.mk ?_; first | (fail_if_success have := nb1); intro nb1 | (fail_if_success have := nb2); intro nb2 | (fail_if_success have := nb3); intro nb3 | (fail_if_success have := nb4); intro nb4 | (fail_if_success have := nb5); intro nb5 | (fail_if_success have := nb6); intro nb6 | intro nbz) | (apply Yfr; refine Yf FR fun hFRb FR => ?_) | refine Two.mk ?_ ?_ | (apply Yxc; exact Yx) | refine Cs.mk fun hcs => Sm.out ?_ | go_step | omega | (simp only [maxLen_eq]; omega) | exact trivial
        exact ⟨i + 1, ⟨by omega, fun j hj hji => by
          by_cases e : j = i
          · subst e; rw [← hv]; omega
          · exact hq j hj (by omega)⟩, by omega, (Sub.pick (by simp [pickB, hget, hdel, FR.out]) (by simp [look]))⟩
    · obtain rfl : i = n := by omega
      have ki : decide ((i : Int) < (i : Int)) = false := by simp
      have hz : i ≤ 60 ∧ ∀ a ∈ L, a.z.length ≤ 2000 := ⟨by omega, fun a ha => by
        obtain ⟨j, hj, rfl⟩ := List.getElem_of_mem ha
        exact hq j hj (by omega)⟩
      first | (have FRx := FR; clear FRx) | have FR := fr0S
      have FA := Sm.mk (And.intro TFWlM ki)
      repeat' first | (apply Sm.mk; refine Ys ?_) | refine WP.seq fun K hK => ?_ | (apply Ob.mk; exact Yo) | refine And.intro (Ob.out ?_) ?_ | refine Y1WlM ?_ | refine YzWlM ?_ | (refine WP.cond rfl (fun hc => ?_) (fun hc => ?_) <;> (try simp only [ZC, reduceCtorEq, ZD] at hc) <;> (try exact absurd hc (by decide)) <;> (try (exfalso; omega))) | refine Rt.mk (And.intro (fun hg => Sm.out ?_) fun hg => Sm.out ?_) | (refine Nu.mk ?_; first | (fail_if_success have := nb1); intro nb1 | (fail_if_success have := nb2); intro nb2 | (fail_if_success have := nb3); intro nb3 | (fail_if_success have := nb4); intro nb4 | (fail_if_success have := nb5); intro nb5 | (fail_if_success have := nb6); intro nb6 | intro nbz) | (apply Yfr; refine Yf FR fun hFRb FR => ?_) | refine Two.mk ?_ ?_ | (apply Yxc; exact Yx) | refine Cs.mk fun hcs => Sm.out ?_ | go_step | omega | (simp only [maxLen_eq]; omega) | exact trivial
      (refine OutQ.drop _ _ (List.Perm.refl _) (by simp only [resv, ZK, look, loadv, loadn, loadnm, load1, load1m, hget, ↓reduceIte, Nat.reduceEqDiff, Nat.reduceAdd, Nat.reduceMul, Nat.reduceLeDiff, Nat.reduceLT, reduceCtorEq, TFWlM, FR.out]) ⟨false, ⟨fun _ => hz, fun _ => rfl⟩, (by simp only [resv, resA, ZK, look, loadv, loadn, loadnm, load1, load1m, hget, ↓reduceIte, Nat.reduceEqDiff, Nat.reduceAdd, Nat.reduceMul, Nat.reduceLeDiff, Nat.reduceLT, reduceCtorEq, TFWlM, FR.out]; first | done | rfl), rfl⟩)
theorem long_ok (L : List Ac) (h : L.length ≤ 60 ∧ ∀ a ∈ L, a.z.length ≤ 2000) : ACt Tryd.prog 7 [.sl L.length (acs L)] [] (Fn (bv false)) :=
  (long_ct L).mono fun r F' ⟨z, h1, h2, h3⟩ => by rw [h1.2 h] at h2; exact ⟨h2, h3⟩
theorem long_no (L : List Ac) (h : ¬ (L.length ≤ 60 ∧ ∀ a ∈ L, a.z.length ≤ 2000)) : ACt Tryd.prog 7 [.sl L.length (acs L)] [] (Fn (bv true)) :=
  (long_ct L).mono fun r F' ⟨z, h1, h2, h3⟩ => by
    have : z = true := by cases z with
      | true => rfl
      | false => exact absurd (h1.1 rfl) h
    rw [this] at h2; exact ⟨h2, h3⟩
def mkR (i : Nat) : List Int := [IntKind.u8.wrap (((i + 1 : Nat)) : Int), 245]
def mkN (n size : Nat) : Nat → DA
  | 0 => nwA n size
  | i + 1 => wrA (mkN n size i) (i : Int) (mkR i)
structure MkI (n size i : Nat) (a : DA) : Prop where
  A : AOk i a
  s : a.size = size
  n : a.n = n
  f : a.f = -1
  dk : a.dk = false
  by_ : ∀ z ∈ a.S, ∃ x : Bs, z = ub x
theorem mkI (n size : Nat) (h1 : 1 ≤ n) (h2 : n ≤ 400) (h3 : 32 ≤ size) (h4 : size ≤ 512) : ∀ i, i ≤ n → MkI n size i (mkN n size i)
  | 0, _ => ⟨nwA_ok h1 h2 h3 h4, rfl, rfl, rfl, rfl, fun z hz => ⟨zrs size, by
      have : z = zrow size := List.eq_of_mem_replicate hz
      rw [this, ub_zrs]; rfl⟩⟩
  | i + 1, hi => by
    have ih := mkI n size h1 h2 h3 h4 i (by omega)
    have hm := writeC (a := mkN n size i) (i := i) (k := 2) ih.dk (by rw [ih.n]; omega) (by rw [ih.s]; omega)
    have e : mkN n size (i + 1) = { mkN n size i with f := fuseN (mkN n size i).f, de := (mkN n size i).de + 1, W := (mkN n size i).W ++ [(i, pad (mkN n size i).size (mkR i))], S := (mkN n size i).S.set i (pad (mkN n size i).size (mkR i)) } := by
      show wrA (mkN n size i) (i : Int) (mkR i) = _
      unfold wrA
      rw [if_neg (by rw [show (mkR i).length = 2 from rfl]; exact fun h => h hm), if_neg (by rw [ih.f]; omega)]
      rfl
    have hA := wrA_ok ih.A (i : Int) (mkR i)
    refine ⟨hA, by rw [e]; exact ih.s, by rw [e]; exact ih.n, by rw [e]; simp only [ih.f]; rfl, by rw [e]; exact ih.dk, fun z hz => ?_⟩
    rw [e] at hz
    rcases List.mem_or_eq_of_mem_set hz with h | rfl
    · exact ih.by_ z h
    · refine ⟨[UInt8.ofNat ((i + 1) % 256), 245] ++ zrs ((mkN n size i).size - 2), ?_⟩
      rw [ub_append, ub_zrs]
      unfold pad mkR
      rw [wrap_u8_mod]
      simp [ub]
def mkA (n size : Nat) : DA := syA (mkN n size n)
theorem mkA_spec (n size : Nat) (h1 : 1 ≤ n) (h2 : n ≤ 400) (h3 : 32 ≤ size) (h4 : size ≤ 512) : AOk (n + 1) (mkA n size) ∧ (mkA n size).f = -1 ∧ ∃ Z : Bs, Stl size n (ub Z) (mkA n size) := by
  have h := mkI n size h1 h2 h3 h4 n (Nat.le_refl _)
  have e : mkA n size = { mkN n size n with f := fuseN (mkN n size n).f, de := (mkN n size n).de + 1, L := (mkN n size n).S, W := [] } := by
    unfold mkA syA
    rw [if_neg (by rw [h.dk]; simp), if_neg (by rw [h.f]; omega)]
  refine ⟨syA_ok h.A, by rw [e]; simp only [h.f]; rfl, ?_⟩
  have hb : ∀ (S : List (List Int)), (∀ z ∈ S, ∃ x : Bs, z = ub x) → ∃ Z : Bs, S.flatten = ub Z := by
    intro S
    induction S with
    | nil => intro _; exact ⟨[], rfl⟩
    | cons x r ih =>
      intro hS
      obtain ⟨Z, hZ⟩ := ih fun z hz => hS z (List.mem_cons_of_mem _ hz)
      obtain ⟨y, hy⟩ := hS x (List.mem_cons_self ..)
      exact ⟨y ++ Z, by rw [List.flatten_cons, hZ, hy, ub_append]⟩
  obtain ⟨Z, hZ⟩ := hb _ h.by_
  refine ⟨Z, ?_⟩
  rw [e]
  exact ⟨h.s, h.n, rfl, rfl, h.dk, hZ⟩
abbrev MS (n size : Nat) : Type := {p : Nat × DL // LOk p.1 (mkA n size) p.2}
structure MkG (b n size : Nat) where
  i : Nat
  l : DL
theorem marked_ct (n size : Nat) (h1 : 1 ≤ n) (h2 : n ≤ 400) (h3 : 32 ≤ size) (h4 : size ≤ 512) : ACt Tryd.prog 8 [iv .i64 (n : Int), iv .i64 (size : Int)] [] (fun r F' => ∃ g : MS n size, r = pt g.1.1 0 ∧ F' = dH g.1.1 (mkA n size) g.1.2) := by
  have cN := new_d n size h1 h2 h3 h4
  have hMk := mkI n size h1 h2 h3 h4
  refine ACt.intro Tryd.func8 rfl (by kernel_rfl) (by simp [Tryd.ntmps8]) (fun cx => ?_)
  simp only [argE, Tryd.ntmps8, Tryd.results8]
  first | (have FRx := FR; clear FRx) | have FR := fr0S
  have FA := Sm.mk (TFWlM)
  repeat' first | (apply Sm.mk; refine Ys ?_) | refine WP.seq fun K hK => ?_ | (apply Ob.mk; exact Yo) | refine And.intro (Ob.out ?_) ?_ | ((fail_if_success (show WP _ _ _ (.region 2 _ _) _ _)); refine Y1WlM ?_) | (refine CallV.ex (F := []) (List.Perm.refl _) (cN) (fun g => Sm.out ?_)) | refine YzWlM ?_ | (refine WP.cond rfl (fun hc => ?_) (fun hc => ?_) <;> (try simp only [ZC, reduceCtorEq, ZD] at hc) <;> (try exact absurd hc (by decide)) <;> (try (exfalso; omega))) | refine Rt.mk (And.intro (fun hg => Sm.out ?_) fun hg => Sm.out ?_) | (refine Nu.mk ?_; first | (fail_if_success have := nb1); intro nb1 | (fail_if_success have := nb2); intro nb2 | (fail_if_success have := nb3); intro nb3 | (fail_if_success have := nb4); intro nb4 | (fail_if_success have := nb5); intro nb5 | (fail_if_success have := nb6); intro nb6 | intro nbz) | (apply Yfr; refine Yf FR fun hFRb FR => ?_) | refine Two.mk ?_ ?_ | (apply Yxc; exact Yx) | refine Cs.mk fun hcs => Sm.out ?_ | go_step | omega | (simp only [maxLen_eq]; omega) | exact trivial
  obtain ⟨⟨b, l⟩, hl⟩ := g
  simp only [List.append_nil]
  first | (have FRx := FR; clear FRx) | have FR := fr0S
  have FA := Sm.mk (TFWlM)
  repeat' first | (apply Sm.mk; refine Ys ?_) | refine WP.seq fun K hK => ?_ | (apply Ob.mk; exact Yo) | refine And.intro (Ob.out ?_) ?_ | refine Y1WlM ?_ | refine YzWlM ?_ | (refine WP.cond rfl (fun hc => ?_) (fun hc => ?_) <;> (try simp only [ZC, reduceCtorEq, ZD] at hc) <;> (try exact absurd hc (by decide)) <;> (try (exfalso; omega))) | refine Rt.mk (And.intro (fun hg => Sm.out ?_) fun hg => Sm.out ?_) | (refine Nu.mk ?_; first | (fail_if_success have := nb1); intro nb1 | (fail_if_success have := nb2); intro nb2 | (fail_if_success have := nb3); intro nb3 | (fail_if_success have := nb4); intro nb4 | (fail_if_success have := nb5); intro nb5 | (fail_if_success have := nb6); intro nb6 | intro nbz) | (apply Yfr; refine Yf FR fun hFRb FR => ?_) | refine Two.mk ?_ ?_ | (apply Yxc; exact Yx) | refine Cs.mk fun hcs => Sm.out ?_ | go_step | omega | (simp only [maxLen_eq]; omega) | exact trivial
  refine WP.loop (Γ := MkG b n size) (fun g => ⟨[(7, iv .i64 (g.i : Int)), (0, iv .i64 (n : Int)), (5, pt b 0)], dH b (mkN n size g.i) g.l⟩) (fun g => g.i ≤ n ∧ LOk b (mkN n size g.i) g.l) (fun g => n - g.i) ⟨0, l⟩ ⟨Nat.zero_le _, hl⟩ (Sub.of_env [] (pmz _) (by simp [look])) ?_
  clear hl
  intro ⟨i, l⟩ ⟨hi, hl⟩
  simp only at hi hl ⊢
  have FR : Sm (¬ ((1 : Nat) = 0)) := Sm.mk Nat.one_ne_zero
  have hM := hMk i hi
  by_cases hin : i < n
  · have ki : decide ((i : Int) < (n : Int)) = true := decide_eq_true (by omega)
    have s1 : IntKind.i64.wrap ((i : Int) + 1) = ((i + 1 : Nat) : Int) := by rw [wrap_i64 (by omega) (by omega)]; omega
    have cW := write_d hM.A hl (by omega) (i : Int) (mkR i)
    have e : mkN n size (i + 1) = wrA (mkN n size i) (i : Int) (mkR i) := rfl
    rw [← e] at cW
    have cF := fun x => cW.frzG (b := x) (k := .u8) (zs := [IntKind.u8.wrap (((i + 1 : Nat)) : Int), 245]) (s0 := 2) (ty := 5) (args := [pt b 0, iv .i64 (i : Int), ms x 0 2 2]) (by simp [frz, maxLen_eq, mkR])
    first | (have FRx := FR; clear FRx) | have FR := fr0S
    have FA := Sm.mk (And.intro TFWlM (And.intro ki s1))
    repeat' first | (apply Sm.mk; refine Ys ?_) | refine WP.seq fun K hK => ?_ | (apply Ob.mk; exact Yo) | refine And.intro (Ob.out ?_) ?_ | ((fail_if_success (show WP _ _ _ (.region 4 _ _) _ _)); refine Y1WlM ?_) | (refine CallV.exM (cF _) (pmz _) (fun g => Sm.out ?_)) | refine YzWlM ?_ | (refine WP.cond rfl (fun hc => ?_) (fun hc => ?_) <;> (try simp only [ZC, reduceCtorEq, ZD] at hc) <;> (try exact absurd hc (by decide)) <;> (try (exfalso; omega))) | refine Rt.mk (And.intro (fun hg => Sm.out ?_) fun hg => Sm.out ?_) | (refine Nu.mk ?_; first | (fail_if_success have := nb1); intro nb1 | (fail_if_success have := nb2); intro nb2 | (fail_if_success have := nb3); intro nb3 | (fail_if_success have := nb4); intro nb4 | (fail_if_success have := nb5); intro nb5 | (fail_if_success have := nb6); intro nb6 | intro nbz) | (apply Yfr; refine Yf FR fun hFRb FR => ?_) | refine Two.mk ?_ ?_ | (apply Yxc; exact Yx) | refine Cs.mk fun hcs => Sm.out ?_ | go_step | omega | (simp only [maxLen_eq]; omega) | exact trivial
    obtain ⟨l2, hl2⟩ := g
    simp only [List.append_nil]
    first | (have FRx := FR; clear FRx) | have FR := fr0S
    have FA := Sm.mk (And.intro TFWlM s1)
    repeat' first | (apply Sm.mk; refine Ys ?_) | refine WP.seq fun K hK => ?_ | (apply Ob.mk; exact Yo) | refine And.intro (Ob.out ?_) ?_ | refine Y1WlM ?_ | refine YzWlM ?_ | (refine WP.cond rfl (fun hc => ?_) (fun hc => ?_) <;> (try simp only [ZC, reduceCtorEq, ZD] at hc) <;> (try exact absurd hc (by decide)) <;> (try (exfalso; omega))) | refine Rt.mk (And.intro (fun hg => Sm.out ?_) fun hg => Sm.out ?_) | (refine Nu.mk ?_; first | (fail_if_success have := nb1); intro nb1 | (fail_if_success have := nb2); intro nb2 | (fail_if_success have := nb3); intro nb3 | (fail_if_success have := nb4); intro nb4 | (fail_if_success have := nb5); intro nb5 | (fail_if_success have := nb6); intro nb6 | intro nbz) | (apply Yfr; refine Yf FR fun hFRb FR => ?_) | refine Two.mk ?_ ?_ | (apply Yxc; exact Yx) | refine Cs.mk fun hcs => Sm.out ?_ | go_step | omega | (simp only [maxLen_eq]; omega) | exact trivial
    exact ⟨⟨i + 1, l2⟩, ⟨by simp only; omega, hl2⟩, by simp only; omega, Sub.of_env [] (pmz _) (by simp [look, s1])⟩
  · obtain rfl : i = n := by omega
    have ki : decide ((i : Int) < (i : Int)) = false := by simp
    have cS := sync_d hM.A hl (by omega)
    first | (have FRx := FR; clear FRx) | have FR := fr0S
    have FA := Sm.mk (And.intro TFWlM ki)
    repeat' first | (apply Sm.mk; refine Ys ?_) | refine WP.seq fun K hK => ?_ | (apply Ob.mk; exact Yo) | refine And.intro (Ob.out ?_) ?_ | refine Y1WlM ?_ | (refine CallV.exM (cS) (pmz _) (fun g => Sm.out ?_)) | refine YzWlM ?_ | (refine WP.cond rfl (fun hc => ?_) (fun hc => ?_) <;> (try simp only [ZC, reduceCtorEq, ZD] at hc) <;> (try exact absurd hc (by decide)) <;> (try (exfalso; omega))) | refine Rt.mk (And.intro (fun hg => Sm.out ?_) fun hg => Sm.out ?_) | (refine Nu.mk ?_; first | (fail_if_success have := nb1); intro nb1 | (fail_if_success have := nb2); intro nb2 | (fail_if_success have := nb3); intro nb3 | (fail_if_success have := nb4); intro nb4 | (fail_if_success have := nb5); intro nb5 | (fail_if_success have := nb6); intro nb6 | intro nbz) | (apply Yfr; refine Yf FR fun hFRb FR => ?_) | refine Two.mk ?_ ?_ | (apply Yxc; exact Yx) | refine Cs.mk fun hcs => Sm.out ?_ | go_step | omega | (simp only [maxLen_eq]; omega) | exact trivial
    obtain ⟨l2, hl2⟩ := g
    simp only [List.append_nil]
    (refine OutQ.drop _ _ (pmz _) (by simp only [resv, ZK, look, loadv, loadn, loadnm, load1, load1m, hget, ↓reduceIte, Nat.reduceEqDiff, Nat.reduceAdd, Nat.reduceMul, Nat.reduceLeDiff, Nat.reduceLT, reduceCtorEq, TFWlM, FR.out]) ⟨⟨(b, l2), hl2⟩, (by simp only [resv, resA, ZK, look, loadv, loadn, loadnm, load1, load1m, hget, ↓reduceIte, Nat.reduceEqDiff, Nat.reduceAdd, Nat.reduceMul, Nat.reduceLeDiff, Nat.reduceLT, reduceCtorEq, TFWlM, FR.out]; first | done | rfl), rfl⟩)
end Go.Proofs.YtpjnhcjfkgjbnaaDoor
