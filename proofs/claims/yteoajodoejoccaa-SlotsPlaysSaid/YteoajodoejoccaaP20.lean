/-
  The walks and the laws that the statement leans on, part 20.
-/
import Derived.Test.YteoajodoejoccaaP10
import Derived.Test.YteoajodoejoccaaP19
namespace Go.Proofs.Yteoajodoejoccaa
open Go
set_option linter.unusedVariables false
set_option linter.unusedSimpArgs false
set_option linter.defProp false
def TFWlM :=
  And.intro (And.intro (And.intro (And.intro tyc3 (And.intro zmb3 tyc4)) (And.intro (And.intro zmb4 tyc5) (And.intro zmb5 tyc25))) (And.intro (And.intro mth25_45 (And.intro mth25_44 mth25_43)) (And.intro (And.intro con25 zmb25) (And.intro tyc28 zmb28)))) (And.intro (And.intro (And.intro tyc36 (And.intro elt36 mkz36)) (And.intro (And.intro apT36 elk36) (And.intro zmb36 tyc57))) (And.intro (And.intro Try.underlying3 (And.intro Try.underlying4 Try.underlying5)) (And.intro (And.intro Try.underlying25 Try.underlying28) (And.intro Try.underlying36 Try.underlying57))))
theorem Y1WlM {G R : Prop} (r : R) (h : R → G := by intro r; first | (apply WP.region; exact rvc_sound _ _ (Sm.out r)) | exact WP.drawK rfl mixed (by decide +kernel) (Sm.out r) | (apply WP.block; exact r) | (apply WP.skip; exact Yq r) | (apply WP.exit; exact Yq r) | (apply WP.ret; exact Sm.out r) | exact WP.cond rfl (fun _ => r) (fun hg => absurd hg (by decide)) | exact WP.cond rfl (fun hg => absurd hg (by decide)) (fun _ => r) | exact Rt.mk (And.intro (fun _ => Sm.out r) fun hg => absurd hg (by decide)) | exact Rt.mk (And.intro (fun hg => absurd hg (by decide)) fun _ => Sm.out r)) : G := h r
theorem YzWlM {G R : Prop} (r : R) (h : R → G := by intro r; first | (apply ExG.no; exact Sm.out r) | (apply Or.inl; apply ExG.no; exact Sm.out r) | exact Or.inl (And.intro (fun hg => absurd hg (by decide)) (ExG.no (Sm.out r)))) : G := h r
structure Ac where
  kd : Int
  z : Bs
def acs : List Ac → List AV
  | [] => []
  | a :: r => iv .i64 a.kd :: .slz .u8 (ub a.z) :: acs r
theorem acs_len : ∀ L, (acs L).length = L.length * 2
  | [] => rfl
  | a :: r => by simp only [acs, List.length_cons, acs_len r]; omega
theorem acs_drop : ∀ (L : List Ac) (i : Nat) (h : i < L.length), (acs L).drop (i * 2) = iv .i64 L[i].kd :: .slz .u8 (ub L[i].z) :: acs (L.drop (i + 1))
  | a :: r, 0, _ => rfl
  | a :: r, i + 1, h => by
    have := acs_drop r i (by simpa using h)
    rw [show (i + 1) * 2 = i * 2 + 2 by omega]
    simpa [acs] using this
def mkR (i : Nat) : List Int := [IntKind.u8.wrap (((i + 1 : Nat)) : Int), 245]
def mkN (n size : Nat) : Nat → DA
  | 0 => nwA n size
  | i + 1 => wrA (mkN n size i) (i : Int) (mkR i)
structure MkI (n size i : Nat) (a : DA) : Prop where
  A : AOk i a
  s : a.size = size
  n : a.n = n
  f : a.f = -1
  dk : a.dk = false
  by_ : ∀ z ∈ a.S, ∃ x : Bs, z = ub x
theorem mkI (n size : Nat) (h1 : 1 ≤ n) (h2 : n ≤ 400) (h3 : 32 ≤ size) (h4 : size ≤ 512) : ∀ i, i ≤ n → MkI n size i (mkN n size i)
  | 0, _ => ⟨nwA_ok h1 h2 h3 h4, rfl, rfl, rfl, rfl, fun z hz => ⟨zrs size, by
      have : z = zrow size := List.eq_of_mem_replicate hz
      rw [this, ub_zrs]; rfl⟩⟩
  | i + 1, hi => by
    have ih := mkI n size h1 h2 h3 h4 i (by omega)
    have hm := writeC (a := mkN n size i) (i := i) (k := 2) ih.dk (by rw [ih.n]; omega) (by rw [ih.s]; omega)
    have e : mkN n size (i + 1) = { mkN n size i with f := fuseN (mkN n size i).f, de := (mkN n size i).de + 1, W := (mkN n size i).W ++ [(i, pad (mkN n size i).size (mkR i))], S := (mkN n size i).S.set i (pad (mkN n size i).size (mkR i)) } := by
      show wrA (mkN n size i) (i : Int) (mkR i) = _
      unfold wrA
      rw [if_neg (by rw [show (mkR i).length = 2 from rfl]; exact fun h => h hm), if_neg (by rw [ih.f]; omega)]
      rfl
    have hA := wrA_ok ih.A (i : Int) (mkR i)
    refine ⟨hA, by rw [e]; exact ih.s, by rw [e]; exact ih.n, by rw [e]; simp only [ih.f]; rfl, by rw [e]; exact ih.dk, fun z hz => ?_⟩
    rw [e] at hz
    rcases List.mem_or_eq_of_mem_set hz with h | rfl
    · exact ih.by_ z h
    · refine ⟨[UInt8.ofNat ((i + 1) % 256), 245] ++ zrs ((mkN n size i).size - 2), ?_⟩
      rw [ub_append, ub_zrs]
      unfold pad mkR
      rw [wrap_u8_mod]
      simp [ub]
def mkA (n size : Nat) : DA := syA (mkN n size n)
theorem mkA_spec (n size : Nat) (h1 : 1 ≤ n) (h2 : n ≤ 400) (h3 : 32 ≤ size) (h4 : size ≤ 512) : AOk (n + 1) (mkA n size) ∧ (mkA n size).f = -1 ∧ ∃ Z : Bs, Stl size n (ub Z) (mkA n size) := by
  have h := mkI n size h1 h2 h3 h4 n (Nat.le_refl _)
  have e : mkA n size = { mkN n size n with f := fuseN (mkN n size n).f, de := (mkN n size n).de + 1, L := (mkN n size n).S, W := [] } := by
    unfold mkA syA
    rw [if_neg (by rw [h.dk]; simp), if_neg (by rw [h.f]; omega)]
  refine ⟨syA_ok h.A, by rw [e]; simp only [h.f]; rfl, ?_⟩
  have hb : ∀ (S : List (List Int)), (∀ z ∈ S, ∃ x : Bs, z = ub x) → ∃ Z : Bs, S.flatten = ub Z := by
    intro S
    induction S with
    | nil => intro _; exact ⟨[], rfl⟩
    | cons x r ih =>
      intro hS
      obtain ⟨Z, hZ⟩ := ih fun z hz => hS z (List.mem_cons_of_mem _ hz)
      obtain ⟨y, hy⟩ := hS x (List.mem_cons_self ..)
      exact ⟨y ++ Z, by rw [List.flatten_cons, hZ, hy, ub_append]⟩
  obtain ⟨Z, hZ⟩ := hb _ h.by_
  refine ⟨Z, ?_⟩
  rw [e]
  exact ⟨h.s, h.n, rfl, rfl, h.dk, hZ⟩
abbrev MS (n size : Nat) : Type := {p : Nat × DL // LOk p.1 (mkA n size) p.2}
structure MkG (b n size : Nat) where
  i : Nat
  l : DL
set_option maxRecDepth 20000 in
theorem marked_ct (n size : Nat) (h1 : 1 ≤ n) (h2 : n ≤ 400) (h3 : 32 ≤ size) (h4 : size ≤ 512) : ACt Try.prog 8 [iv .i64 (n : Int), iv .i64 (size : Int)] [] (fun r F' => ∃ g : MS n size, r = pt g.1.1 0 ∧ F' = dH g.1.1 (mkA n size) g.1.2) := by
  have cN := new_d n size h1 h2 h3 h4
  have hMk := mkI n size h1 h2 h3 h4
  refine ACt.intro Try.func8 rfl (by kernel_rfl) (by simp [Try.ntmps8]) (fun cx => ?_)
  simp only [argE, Try.ntmps8, Try.results8]
  first | (have FRx := FR; clear FRx) | have FR := fr0S
  have FA := Sm.mk (TFWlM)
  repeat' first | (apply Sm.mk; refine Ys ?_) | refine WP.seq fun K hK => ?_ | (apply Ob.mk; exact Yo) | refine And.intro (Ob.out ?_) ?_ | ((fail_if_success (show WP _ _ _ (.region 2 _ _) _ _)); refine Y1WlM ?_) | (refine CallV.ex (F := []) (List.Perm.refl _) (cN) (fun g => Sm.out ?_)) | refine YzWlM ?_ | (refine WP.cond rfl (fun hc => ?_) (fun hc => ?_) <;> (try simp only [ZC, reduceCtorEq, ZD] at hc) <;> (try exact absurd hc (by decide)) <;> (try (exfalso; omega))) | refine Rt.mk (And.intro (fun hg => Sm.out ?_) fun hg => Sm.out ?_) | (refine Nu.mk ?_; first | (fail_if_success have := nb1); intro nb1 | (fail_if_success have := nb2); intro nb2 | (fail_if_success have := nb3); intro nb3 | (fail_if_success have := nb4); intro nb4 | (fail_if_success have := nb5); intro nb5 | (fail_if_success have := nb6); intro nb6 | intro nbz) | (apply Yfr; refine Yf FR fun hFRb FR => ?_) | refine Two.mk ?_ ?_ | (apply Yxc; exact Yx) | refine Cs.mk fun hcs => Sm.out ?_ | go_step | omega | (simp only [maxLen_eq]; omega) | exact trivial
  obtain ⟨⟨b, l⟩, hl⟩ := g
  simp only [List.append_nil]
  first | (have FRx := FR; clear FRx) | have FR := fr0S
  have FA := Sm.mk (TFWlM)
  repeat' first | (apply Sm.mk; refine Ys ?_) | refine WP.seq fun K hK => ?_ | (apply Ob.mk; exact Yo) | refine And.intro (Ob.out ?_) ?_ | refine Y1WlM ?_ | refine YzWlM ?_ | (refine WP.cond rfl (fun hc => ?_) (fun hc => ?_) <;> (try simp only [ZC, reduceCtorEq, ZD] at hc) <;> (try exact absurd hc (by decide)) <;> (try (exfalso; omega))) | refine Rt.mk (And.intro (fun hg => Sm.out ?_) fun hg => Sm.out ?_) | (refine Nu.mk ?_; first | (fail_if_success have := nb1); intro nb1 | (fail_if_success have := nb2); intro nb2 | (fail_if_success have := nb3); intro nb3 | (fail_if_success have := nb4); intro nb4 | (fail_if_success have := nb5); intro nb5 | (fail_if_success have := nb6); intro nb6 | intro nbz) | (apply Yfr; refine Yf FR fun hFRb FR => ?_) | refine Two.mk ?_ ?_ | (apply Yxc; exact Yx) | refine Cs.mk fun hcs => Sm.out ?_ | go_step | omega | (simp only [maxLen_eq]; omega) | exact trivial
  refine WP.loop (Γ := MkG b n size) (fun g => ⟨[(7, iv .i64 (g.i : Int)), (0, iv .i64 (n : Int)), (5, pt b 0)], dH b (mkN n size g.i) g.l⟩) (fun g => g.i ≤ n ∧ LOk b (mkN n size g.i) g.l) (fun g => n - g.i) ⟨0, l⟩ ⟨Nat.zero_le _, hl⟩ (Sub.of_env [] (pmz _) (by simp [look])) ?_
  clear hl
  intro ⟨i, l⟩ ⟨hi, hl⟩
  simp only at hi hl ⊢
  have FR : Sm (¬ ((1 : Nat) = 0)) := Sm.mk Nat.one_ne_zero
  have hM := hMk i hi
  by_cases hin : i < n
  · have ki : decide ((i : Int) < (n : Int)) = true := decide_eq_true (by omega)
    have s1 : IntKind.i64.wrap ((i : Int) + 1) = ((i + 1 : Nat) : Int) := by rw [wrap_i64 (by omega) (by omega)]; omega
    have cW := write_d hM.A hl (by omega) (i : Int) (mkR i)
    have e : mkN n size (i + 1) = wrA (mkN n size i) (i : Int) (mkR i) := rfl
    rw [← e] at cW
    have cF := fun x => cW.frzG (b := x) (k := .u8) (zs := [IntKind.u8.wrap (((i + 1 : Nat)) : Int), 245]) (s0 := 2) (ty := 5) (args := [pt b 0, iv .i64 (i : Int), ms x 0 2 2]) (by simp [frz, maxLen_eq, mkR])
    first | (have FRx := FR; clear FRx) | have FR := fr0S
    have FA := Sm.mk (And.intro TFWlM (And.intro ki s1))
    repeat' first | (apply Sm.mk; refine Ys ?_) | refine WP.seq fun K hK => ?_ | (apply Ob.mk; exact Yo) | refine And.intro (Ob.out ?_) ?_ | ((fail_if_success (show WP _ _ _ (.region 4 _ _) _ _)); refine Y1WlM ?_) | (refine CallV.exM (cF _) (pmz _) (fun g => Sm.out ?_)) | refine YzWlM ?_ | (refine WP.cond rfl (fun hc => ?_) (fun hc => ?_) <;> (try simp only [ZC, reduceCtorEq, ZD] at hc) <;> (try exact absurd hc (by decide)) <;> (try (exfalso; omega))) | refine Rt.mk (And.intro (fun hg => Sm.out ?_) fun hg => Sm.out ?_) | (refine Nu.mk ?_; first | (fail_if_success have := nb1); intro nb1 | (fail_if_success have := nb2); intro nb2 | (fail_if_success have := nb3); intro nb3 | (fail_if_success have := nb4); intro nb4 | (fail_if_success have := nb5); intro nb5 | (fail_if_success have := nb6); intro nb6 | intro nbz) | (apply Yfr; refine Yf FR fun hFRb FR => ?_) | refine Two.mk ?_ ?_ | (apply Yxc; exact Yx) | refine Cs.mk fun hcs => Sm.out ?_ | go_step | omega | (simp only [maxLen_eq]; omega) | exact trivial
    obtain ⟨l2, hl2⟩ := g
    simp only [List.append_nil]
    first | (have FRx := FR; clear FRx) | have FR := fr0S
    have FA := Sm.mk (And.intro TFWlM s1)
    repeat' first | (apply Sm.mk; refine Ys ?_) | refine WP.seq fun K hK => ?_ | (apply Ob.mk; exact Yo) | refine And.intro (Ob.out ?_) ?_ | refine Y1WlM ?_ | refine YzWlM ?_ | (refine WP.cond rfl (fun hc => ?_) (fun hc => ?_) <;> (try simp only [ZC, reduceCtorEq, ZD] at hc) <;> (try exact absurd hc (by decide)) <;> (try (exfalso; omega))) | refine Rt.mk (And.intro (fun hg => Sm.out ?_) fun hg => Sm.out ?_) | (refine Nu.mk ?_; first | (fail_if_success have := nb1); intro nb1 | (fail_if_success have := nb2); intro nb2 | (fail_if_success have := nb3); intro nb3 | (fail_if_success have := nb4); intro nb4 | (fail_if_success have := nb5); intro nb5 | (fail_if_success have := nb6); intro nb6 | intro nbz) | (apply Yfr; refine Yf FR fun hFRb FR => ?_) | refine Two.mk ?_ ?_ | (apply Yxc; exact Yx) | refine Cs.mk fun hcs => Sm.out ?_ | go_step | omega | (simp only [maxLen_eq]; omega) | exact trivial
    exact ⟨⟨i + 1, l2⟩, ⟨by simp only; omega, hl2⟩, by simp only; omega, Sub.of_env [] (pmz _) (by simp [look, s1])⟩
  · obtain rfl : i = n := by omega
    have ki : decide ((i : Int) < (i : Int)) = false := by simp
    have cS := sync_d hM.A hl (by omega)
    first | (have FRx := FR; clear FRx) | have FR := fr0S
    have FA := Sm.mk (And.intro TFWlM ki)
    repeat' first | (apply Sm.mk; refine Ys ?_) | refine WP.seq fun K hK => ?_ | (apply Ob.mk; exact Yo) | refine And.intro (Ob.out ?_) ?_ | refine Y1WlM ?_ | (refine CallV.exM (cS) (pmz _) (fun g => Sm.out ?_)) | refine YzWlM ?_ | (refine WP.cond rfl (fun hc => ?_) (fun hc => ?_) <;> (try simp only [ZC, reduceCtorEq, ZD] at hc) <;> (try exact absurd hc (by decide)) <;> (try (exfalso; omega))) | refine Rt.mk (And.intro (fun hg => Sm.out ?_) fun hg => Sm.out ?_) | (refine Nu.mk ?_; first | (fail_if_success have := nb1); intro nb1 | (fail_if_success have := nb2); intro nb2 | (fail_if_success have := nb3); intro nb3 | (fail_if_success have := nb4); intro nb4 | (fail_if_success have := nb5); intro nb5 | (fail_if_success have := nb6); intro nb6 | intro nbz) | (apply Yfr; refine Yf FR fun hFRb FR => ?_) | refine Two.mk ?_ ?_ | (apply Yxc; exact Yx) | refine Cs.mk fun hcs => Sm.out ?_ | go_step | omega | (simp only [maxLen_eq]; omega) | exact trivial
    obtain ⟨l2, hl2⟩ := g
    simp only [List.append_nil]
    (refine OutQ.drop _ _ (pmz _) (by simp only [resv, ZK, look, loadv, loadn, loadnm, load1, load1m, hget, ↓reduceIte, Nat.reduceEqDiff, Nat.reduceAdd, Nat.reduceMul, Nat.reduceLeDiff, Nat.reduceLT, reduceCtorEq, TFWlM, FR.out]) ⟨⟨(b, l2), hl2⟩, (by simp only [resv, resA, ZK, look, loadv, loadn, loadnm, load1, load1m, hget, ↓reduceIte, Nat.reduceEqDiff, Nat.reduceAdd, Nat.reduceMul, Nat.reduceLeDiff, Nat.reduceLT, reduceCtorEq, TFWlM, FR.out]; first | done | rfl), rfl⟩)
end Go.Proofs.Yteoajodoejoccaa
namespace Go.Proofs.Yteoajodoejoccaa
open Go
set_option linter.unusedVariables false
set_option linter.unusedSimpArgs false
def Com (s n f m : Nat) (P Q N R : Bs) (a : DA) (X : DA × Int) : Prop :=
  (X.2 = 0 ∧ Rg s n f m P Q N X.1 ∧ (a.f = -1 → X.1.f = -1)) ∨ (X.2 = 12 ∧ a.f ≠ -1 ∧ Dg s n f m P Q N R X.1)
theorem Com.up {s n f m : Nat} {P Q N R : Bs} {a : DA} {X : DA × Int} (h : Com s n f m P Q N R a X) (hf : a.f = -1) : X.2 = 0 ∧ Rg s n f m P Q N X.1 ∧ X.1.f = -1 := by
  rcases h with ⟨h1, h2, h3⟩ | ⟨h1, h2, h3⟩
  · exact ⟨h1, h2, h3 hf⟩
  · exact absurd hf h2
theorem fmt_rg {c s n f m : Nat} {P Q R : Bs} {a : DA} (hA : AOk c a) (hR : Rg s n f m P Q R a) (hfm : f + m ≤ n) : Com s n f m P Q (zrs (m * s)) R a (lyR a f (cks s (List.replicate (m * s) 0))) := by
  obtain ⟨j, h1, h2⟩ := lay_rg hA hR hfm 0 (zrs (m * s)) (by simp) (Nat.zero_le _) f (by simp)
  have hj : j = 0 := by simp at h1; omega
  subst hj
  have e1 : put R (0 * s) (zrs (m * s) ++ zrs 0) = zrs (m * s) := by
    unfold put
    rw [List.drop_of_length_le (by rw [hR.lR]; simp)]
    simp
  rw [e1, ub_zrs] at h2
  exact h2
theorem app_rg {c s n f m : Nat} {P Q : Bs} {L : List Bs} {w : Nat} {a : DA} (hA : AOk c a) (hR : Rg s n f m P Q (frs L ++ zrs w) a) (hfm : f + m ≤ n) (z : Bs) (hz : z.length + 10 ≤ w) :
    Com s n f m P Q (frs (L ++ [z]) ++ zrs (w - (z.length + 10))) (frs L ++ zrs w) a (lyR a (f + usd L / s) (cks s (ub (tlB (frs L ++ zrs w) (usd L) s ++ frameB z)))) := by
  have hs1 : 1 ≤ s := by have := hA.s1; have := hR.st.s; omega
  have hl : usd L + w = m * s := by rw [← hR.lR]; simp [usd, zrs]
  have hdv := Nat.div_mul_le_self (usd L) s
  have htl : (tlB (frs L ++ zrs w) (usd L) s).length = usd L - usd L / s * s := by
    simp only [tlB, List.length_drop, List.length_take, List.length_append, zrs, List.length_replicate]
    unfold usd; omega
  have hkm : usd L / s ≤ m := by
    have : usd L / s * s ≤ m * s := by omega
    exact Nat.le_of_mul_le_mul_right this (by omega)
  obtain ⟨j, h1, h2⟩ := lay_rg hA hR hfm (usd L / s) (tlB (frs L ++ zrs w) (usd L) s ++ frameB z) (by rw [List.length_append, htl, frame_len]; omega) hkm (f + usd L / s) rfl
  rw [List.length_append, htl, frame_len] at h1
  have e1 := put_frame L z w s j (by omega)
  unfold tlB at h2 ⊢
  rw [e1] at h2
  exact h2
end Go.Proofs.Yteoajodoejoccaa
namespace Go.Proofs.Yteoajodoejoccaa
open Go
set_option linter.unusedVariables false
set_option linter.unusedSimpArgs false
structure LgI (c s n f m : Nat) (P Q : Bs) (L : List Bs) (a : DA) : Prop where
  A : AOk c a
  R : Rg s n f m P Q (frs L ++ zrs (m * s - usd L)) a
  u : usd L ≤ m * s
  sm : Sml L
  hfm : f + m ≤ n
  hm : 1 ≤ m
theorem LgI.ms {c s n f m : Nat} {P Q : Bs} {L : List Bs} {a : DA} (h : LgI c s n f m P Q L a) : m * s ≤ 400 * 512 ∧ a.size = s ∧ a.n = n ∧ 1 ≤ s := by
  have h1 := h.A.n2
  have h2 := h.A.s2
  have h3 := h.A.s1
  have h4 := h.R.st.s
  have h5 := h.R.st.n
  have h6 := h.hfm
  exact ⟨Nat.mul_le_mul (by omega) (by omega), h4, h5, by omega⟩
theorem cks_m {s : Nat} {z : List Int} {m : Nat} (hs : 1 ≤ s) (h : z.length ≤ m * s) : (cks s z).length ≤ m := cks_len_le hs h
def apX (f s m : Nat) (L : List Bs) (a : DA) (z : Bs) : DA × Int := lyR a (f + usd L / s) (cks s (ub (tlB (frs L ++ zrs (m * s - usd L)) (usd L) s ++ frameB z)))
theorem tl_len {c s n f m : Nat} {P Q : Bs} {L : List Bs} {a : DA} (h : LgI c s n f m P Q L a) : (tlB (frs L ++ zrs (m * s - usd L)) (usd L) s).length = usd L - usd L / s * s := by
  have := h.u
  simp only [tlB, List.length_drop, List.length_take, List.length_append, zrs, List.length_replicate]
  unfold usd at *; omega
theorem apX_ok {c s n f m : Nat} {P Q : Bs} {L : List Bs} {a : DA} (h : LgI c s n f m P Q L a) (z : Bs) (hz : usd L + (z.length + 10) ≤ m * s) : AOk (c + m + 1) (apX f s m L a z).1 := by
  obtain ⟨h1, h2, h3, h4⟩ := h.ms
  refine (lyR_ok _ a _ c h.A).le ?_
  have hdv := Nat.div_mul_le_self (usd L) s
  have := cks_m (m := m) h4 (z := ub (tlB (frs L ++ zrs (m * s - usd L)) (usd L) s ++ frameB z)) (by rw [ub_len, List.length_append, tl_len h, frame_len]; omega)
  omega
theorem apX_com {c s n f m : Nat} {P Q : Bs} {L : List Bs} {a : DA} (h : LgI c s n f m P Q L a) (z : Bs) (hz : usd L + (z.length + 10) ≤ m * s) : Com s n f m P Q (frs (L ++ [z]) ++ zrs (m * s - usd (L ++ [z]))) (frs L ++ zrs (m * s - usd L)) a (apX f s m L a z) := by
  have := app_rg h.A h.R h.hfm z (by omega)
  rw [show m * s - usd (L ++ [z]) = m * s - usd L - (z.length + 10) by rw [usd_snoc]; omega]
  exact this
theorem LgI.app {c s n f m : Nat} {P Q : Bs} {L : List Bs} {a : DA} (h : LgI c s n f m P Q L a) (z : Bs) (hz : usd L + (z.length + 10) ≤ m * s) (hf : a.f = -1) : (apX f s m L a z).2 = 0 ∧ (apX f s m L a z).1.f = -1 ∧ LgI (c + m + 1) s n f m P Q (L ++ [z]) (apX f s m L a z).1 := by
  obtain ⟨h1, h2, h3⟩ := (apX_com h z hz).up hf
  obtain ⟨g1, g2, g3, g4⟩ := h.ms
  refine ⟨h1, h3, apX_ok h z hz, h2, by rw [usd_snoc]; omega, fun x hx => ?_, h.hfm, h.hm⟩
  rcases List.mem_append.1 hx with hx | hx
  · exact h.sm x hx
  · rw [List.mem_singleton.1 hx]; omega
def fmX (f s m : Nat) (a : DA) : DA × Int := lyR a f (cks s (List.replicate (m * s) 0))
theorem LgI.fmt {c s n f m : Nat} {P Q R : Bs} {a : DA} (hA : AOk c a) (hR : Rg s n f m P Q R a) (hfm : f + m ≤ n) (hm : 1 ≤ m) (hf : a.f = -1) : (fmX f s m a).2 = 0 ∧ (fmX f s m a).1.f = -1 ∧ LgI (c + m + 1) s n f m P Q [] (fmX f s m a).1 := by
  obtain ⟨h1, h2, h3⟩ := (fmt_rg hA hR hfm).up hf
  have hs1 : 1 ≤ s := by have := hA.s1; have := hR.st.s; omega
  refine ⟨h1, h3, (lyR_ok _ a _ c hA).le ?_, ?_, Nat.zero_le _, fun x hx => (by cases hx), hfm, hm⟩
  · have := cks_m (m := m) hs1 (z := List.replicate (m * s) (0 : Int)) (by simp)
    omega
  · rw [frs_nil, List.nil_append, show usd [] = 0 from rfl, Nat.sub_zero]; exact h2
theorem nwA_stl (n size : Nat) : Stl size n (ub (zrs (n * size))) (nwA n size) := by
  refine ⟨rfl, rfl, rfl, rfl, rfl, ?_⟩
  rw [ub_zrs]
  show (List.replicate n (List.replicate size (0 : Int))).flatten = _
  exact List.flatten_replicate_replicate
end Go.Proofs.Yteoajodoejoccaa
namespace Go.Proofs.Yteoajodoejoccaa
open Go
set_option linter.unusedVariables false
set_option linter.unusedSimpArgs false
theorem ACt.sub {Γ : Type} {φ : Γ → Prop} {x : Γ → AV} {m : Γ → Hp} {P : Program} {f : FuncId} {args : List AV} {F : Hp} (h : ACt P f args F (fun r F' => ∃ g, φ g ∧ r = x g ∧ F' = m g)) : ACt P f args F (fun r F' => ∃ g : {g // φ g}, r = x g.1 ∧ F' = m g.1) :=
  h.mono fun r F' ⟨g, h1, h2, h3⟩ => ⟨⟨g, h1⟩, h2, h3⟩
theorem lift0 {Γ : Type} {f : FuncId} {args : List AV} {D : Hp} {v : Γ → AV} {D' : Γ → Hp} (K : Hp) (c : ACt Try.prog f args D (fun r F' => ∃ g, r = v g ∧ F' = D' g)) :
    ACt Try.prog f args (K ++ D) (fun r F' => ∃ g, r = v g ∧ F' = K ++ D' g) :=
  ACt.frm (R := K) c List.perm_append_comm fun r F' hr _ => by
    obtain ⟨g, e1, e2⟩ := hr
    subst e1 e2
    exact ⟨K ++ D' g, [], by rw [List.append_nil]; exact List.perm_append_comm, g, rfl, rfl⟩
theorem look0 {f : FuncId} {args : List AV} {D : Hp} {v : AV} (K : Hp) (c : ACt Try.prog f args D (fun r F' => r = v ∧ F' = D)) : ACt Try.prog f args (K ++ D) (fun r F' => r = v ∧ F' = K ++ D) :=
  c.lookU (R := K) List.perm_append_comm
section
variable {c s n f m : Nat} {P Q : Bs} {M : List Bs} {a : DA} (b x mb b2 cap : Nat) (l : DL)
end
theorem rg_of {s n f m : Nat} {Z : Bs} {a : DA} (h : Stl s n (ub Z) a) (hZ : Z.length = n * s) (hfm : f + m ≤ n) : Rg s n f m (Z.take (f * s)) (Z.drop ((f + m) * s)) ((Z.drop (f * s)).take (m * s)) a := by
  have h1 := Nat.mul_le_mul_right s hfm
  rw [Nat.add_mul] at h1
  refine ⟨?_, by rw [List.length_take]; omega, by rw [List.length_take, List.length_drop]; omega⟩
  have e : Z.take (f * s) ++ ((Z.drop (f * s)).take (m * s) ++ Z.drop ((f + m) * s)) = Z := by
    rw [Nat.add_mul, ← List.drop_drop, List.take_append_drop, List.take_append_drop]
  rw [e]; exact h
end Go.Proofs.Yteoajodoejoccaa
namespace Go.Proofs.Yteoajodoejoccaa
open Go
set_option linter.unusedVariables false
set_option linter.unusedSimpArgs false
theorem MkI.write {n s c : Nat} {a : DA} (h : MkI n s c a) {i : Nat} (hi : i < n) (z : Bs) (hz : z.length ≤ s) : MkI n s (c + 1) (wrA a (i : Int) (ub z)) := by
  have hm := writeC (a := a) (i := i) (k := z.length) h.dk (by rw [h.n]; omega) (by rw [h.s]; omega)
  have e : wrA a (i : Int) (ub z) = { a with f := fuseN a.f, de := a.de + 1, W := a.W ++ [(i, pad a.size (ub z))], S := a.S.set i (pad a.size (ub z)) } := by
    unfold wrA
    rw [if_neg (by rw [ub_len]; exact fun h => h hm), if_neg (by rw [h.f]; omega)]
    rfl
  have hA := wrA_ok h.A (i : Int) (ub z)
  refine ⟨hA, by rw [e]; exact h.s, by rw [e]; exact h.n, by rw [e]; simp only [h.f]; rfl, by rw [e]; exact h.dk, fun y hy => ?_⟩
  rw [e] at hy
  rcases List.mem_or_eq_of_mem_set hy with h' | rfl
  · exact h.by_ y h'
  · refine ⟨z ++ zrs (a.size - z.length), ?_⟩
    rw [ub_append, ub_zrs]
    unfold pad
    rw [ub_len]
theorem MkI.sync {n s c : Nat} {a : DA} (h : MkI n s c a) : MkI n s (c + 1) (syA a) ∧ ∃ Z : Bs, Stl s n (ub Z) (syA a) := by
  have e : syA a = { a with f := fuseN a.f, de := a.de + 1, L := a.S, W := [] } := by
    unfold syA
    rw [if_neg (by rw [h.dk]; simp), if_neg (by rw [h.f]; omega)]
  have hA := syA_ok h.A
  have hb : ∀ (S : List (List Int)), (∀ z ∈ S, ∃ x : Bs, z = ub x) → ∃ Z : Bs, S.flatten = ub Z := by
    intro S
    induction S with
    | nil => intro _; exact ⟨[], rfl⟩
    | cons x r ih =>
      intro hS
      obtain ⟨Z, hZ⟩ := ih fun z hz => hS z (List.mem_cons_of_mem _ hz)
      obtain ⟨y, hy⟩ := hS x (List.mem_cons_self ..)
      exact ⟨y ++ Z, by rw [List.flatten_cons, hZ, hy, ub_append]⟩
  obtain ⟨Z, hZ⟩ := hb _ h.by_
  refine ⟨⟨hA, by rw [e]; exact h.s, by rw [e]; exact h.n, by rw [e]; simp only [h.f]; rfl, by rw [e]; exact h.dk, fun z hz => ?_⟩, Z, ?_⟩
  · rw [e] at hz; exact h.by_ z hz
  · rw [e]; exact ⟨h.s, h.n, rfl, rfl, h.dk, hZ⟩
end Go.Proofs.Yteoajodoejoccaa
namespace Go.Proofs.Yteoajodoejoccaa
open Go
set_option linter.unusedVariables false
set_option linter.unusedSimpArgs false
section
variable {c s n f m : Nat} {P Q R : Bs} {a : DA}
theorem Stl.crA {s n : Nat} {T : List Int} {a : DA} (h : Stl s n T a) (K T' : Int) : Stl s n T (crA a K T') := by
  have e : crL a.L a.W (hN K a.W.length) (hN T' a.size) = a.S := by rw [h.W, ← h.LS]; simp [crL, layW]
  unfold Go.Proofs.Yteoajodoejoccaa.crA
  rw [e]
  exact ⟨h.s, h.n, rfl, rfl, rfl, h.T⟩
theorem Com.crash {N : Bs} {X : DA × Int} (h : Com s n f m P Q N R a X) (K T : Int) : ∃ R4, (R4 = N ∨ ∃ p, R4 = mix N R p) ∧ Rg s n f m P Q R4 (crA X.1 K T) := by
  rcases h with ⟨-, h2, -⟩ | ⟨-, -, h2⟩
  · exact ⟨N, .inl rfl, ⟨h2.st.crA K T, h2.lP, h2.lR⟩⟩
  · obtain ⟨p, hp⟩ := h2.cr K T
    exact ⟨_, .inr ⟨p, rfl⟩, hp⟩
theorem Rg.fuse (h : Rg s n f m P Q R a) (F : Int) : Rg s n f m P Q R (fuA a F) := ⟨⟨h.st.s, h.st.n, h.st.W, h.st.LS, h.st.dk, h.st.T⟩, h.lP, h.lR⟩
theorem LOk.fuse {b : Nat} {l : DL} (h : LOk b a l) (F : Int) : LOk b (fuA a F) l := ⟨h.cl, h.cs, h.k, h.nd⟩
end
end Go.Proofs.Yteoajodoejoccaa
