/-
  The walks and the laws that the statement leans on, part 18.
-/
import Derived.Test.YtaffbklkjjmmdaaDoorP9
import Derived.Test.YtaffbklkjjmmdaaDoorP17
namespace Go.Proofs.YtaffbklkjjmmdaaDoor
open Go
set_option linter.unusedVariables false
set_option linter.unusedSimpArgs false
set_option linter.defProp false
def TFHuA :=
  And.intro (And.intro (And.intro (And.intro (And.intro tyc0 tyc3) (And.intro zmb3 tyc4)) (And.intro (And.intro zmb4 tyc9) (And.intro zmb9 tyc22))) (And.intro (And.intro (And.intro elt22 mkz22) (And.intro mkc22 apT22)) (And.intro (And.intro elk22 zmb22) (And.intro tyc32 (And.intro foff32_0 fpart32_0))))) (And.intro (And.intro (And.intro (And.intro foff32_1 fpart32_1) (And.intro foff32_2 fpart32_2)) (And.intro (And.intro foff32_3 fpart32_3) (And.intro foff32_4 fpart32_4))) (And.intro (And.intro (And.intro fe32 zmb32) (And.intro bldT32 Tryd.underlying0)) (And.intro (And.intro Tryd.underlying3 Tryd.underlying4) (And.intro Tryd.underlying9 (And.intro Tryd.underlying22 Tryd.underlying32)))))
theorem Y1HuA {G R : Prop} (r : R) (h : R → G := by intro r; first | (apply WP.region; exact rvc_sound _ _ (Sm.out r)) | exact WP.drawK rfl mixed (by decide +kernel) (Sm.out r) | (apply WP.block; exact r) | (apply WP.skip; exact Yq r) | (apply WP.exit; exact Yq r) | (apply WP.ret; exact Sm.out r) | exact WP.cond rfl (fun _ => r) (fun hg => absurd hg (by decide)) | exact WP.cond rfl (fun hg => absurd hg (by decide)) (fun _ => r) | exact Rt.mk (And.intro (fun _ => Sm.out r) fun hg => absurd hg (by decide)) | exact Rt.mk (And.intro (fun hg => absurd hg (by decide)) fun _ => Sm.out r)) : G := h r
theorem YzHuA {G R : Prop} (r : R) (h : R → G := by intro r; first | (apply ExG.no; exact Sm.out r) | (apply Or.inl; apply ExG.no; exact Sm.out r) | exact Or.inl (And.intro (fun hg => absurd hg (by decide)) (ExG.no (Sm.out r)))) : G := h r
theorem YsHuA0 {P Q : Prop} (q : Q) (h : P = Q := by (try (conv => lhs; simp -dsimp only [ZK, rvc, capA, appA, litL, mkfv, drawF, headN, pureH, stp, dvc, calleeOf, gcall, pev, eff, newB, okd, og, ogs, ogo, ogp, slv, bltv, opd, litv, strip, one, both, putE, St.put, look, gdOf, gdv, picka, pickv, pickw, binv, bini, bins, binb, binp, binq, isSlT, bina, shp, eqCells, unv, convv, nilv, faddv, addp, idxav, idxp, load1, load1m, loadn, loadnm, loadv, hget, hset, hrep, hdel, slicev, slice3v, bnd, shift1, lenv, capv, IntKind.bits, extractv, fieldv, indexv, min2v, max2v, mkiv, tasv, tasz, cellsA, fillA, buildv, stC, oneC, rowMB, intsA, plN, appE, appZ, appC, appS, srcB, appNZ, appNC, VwL, srcC, srcZ, srcM, isBoolT, isPtrT, isSliceT, uOk, Value.oneCell', Nat.reducePow, Int.reducePow, Nat.reduceAdd, Nat.reduceMul, Nat.reduceSub, Nat.reduceLT, Nat.reduceLeDiff, Nat.reduceEqDiff, Nat.reduceBEq, Nat.reduceDiv, Nat.reduceMod, ↓reduceIte, reduceCtorEq, Int.reduceToNat, Int.reduceLT, Int.reduceLE, TFHuA, SeqQ, BlkQ, LoopQ, BodyQ, hin, FA.out, FR.out])) <;> exact rfl) : P := h.mpr q
abbrev sc (e : Sl) (r : List AV) : List AV := .lit (.string e.nm) :: .lit (.string e.gl) :: iv .i64 e.w :: iv .i64 e.f :: iv .i64 e.t :: r
abbrev nsl : AV := .lit (.slice none 0 0)
def scs : List Sl → List AV
  | [] => []
  | e :: l => .lit (.string e.nm) :: .lit (.string e.gl) :: iv .i64 e.w :: iv .i64 e.f :: iv .i64 e.t :: scs l
theorem scs_len : ∀ l, (scs l).length = l.length * 5
  | [] => rfl
  | k :: r => by simp only [scs, List.length_cons, scs_len r]; omega
theorem scs_drop : ∀ (l : List Sl) (i : Nat) (h : i < l.length), (scs l).drop (i * 5) = sc l[i] (scs (l.drop (i + 1)))
  | k :: r, 0, _ => rfl
  | k :: r, i + 1, h => by
    have := scs_drop r i (by simpa using h)
    rw [show (i + 1) * 5 = i * 5 + 5 by omega]
    simpa [scs] using this
theorem scs_take : ∀ (l : List Sl) (i : Nat), i ≤ l.length → (scs l).take (i * 5) = scs (l.take i)
  | l, 0, _ => by simp [scs]
  | [], i + 1, h => by simp at h
  | k :: r, i + 1, h => by
    have := scs_take r i (by simpa using h)
    rw [show (i + 1) * 5 = i * 5 + 5 by omega]
    simpa [scs] using this
theorem scs_app (l m : List Sl) : scs (l ++ m) = scs l ++ scs m := by
  induction l with
  | nil => rfl
  | cons k r ih => simp [scs, ih]
theorem scs_one (l : List Sl) : (scs l).all oneC = true := by
  induction l with
  | nil => rfl
  | cons k r ih => simp only [scs, List.all_cons, ih, oneC, Value.oneCell', Bool.and_self, Bool.true_and]
theorem scs_drop' : ∀ (l : List Sl) (i : Nat), i ≤ l.length → (scs l).drop (i * 5) = scs (l.drop i)
  | l, 0, _ => by simp
  | [], i + 1, h => by simp at h
  | k :: r, i + 1, h => by
    have := scs_drop' r i (by simpa using h)
    rw [show (i + 1) * 5 = i * 5 + 5 by omega]
    simpa [scs] using this
theorem scs_set5 : ∀ (l : List Sl) (j : Nat) (h : j < l.length) (v : Sl), (scs l).take (j * 5) ++ [.lit (.string v.nm), .lit (.string v.gl), iv .i64 v.w, iv .i64 v.f, iv .i64 v.t] ++ (scs l).drop (j * 5 + 5) = scs (l.set j v) := fun l j h v => by
  rw [show j * 5 + 5 = (j + 1) * 5 by omega, scs_take _ _ (by omega), scs_drop' _ _ (by omega), List.set_eq_take_append_cons_drop, if_pos h, scs_app, List.append_assoc]
  rfl
theorem tl_eq (s t : ByteArray) : (s.toList == t.toList) = (s == t) := by
  obtain ⟨e, hb⟩ := s_bstr s
  obtain ⟨e', hb'⟩ := s_bstr t
  have h := str_eq (bs s) (bs t) hb hb'
  rw [← e, ← e'] at h
  rw [h, Bool.eq_iff_iff, ba_iff, decide_eq_true_eq]
  constructor
  · intro h; rw [e, e']; exact congrArg bstr h
  · intro h; rw [h]
def ixF (p : Sl → Bool) : List Sl → Int → Int
  | [], _ => -1
  | e :: r, i => if p e then i else ixF p r (i + 1)
theorem ixF_drop (p : Sl → Bool) (l : List Sl) {i : Nat} (h : i < l.length) : ixF p (l.drop i) (i : Int) = if p l[i] then (i : Int) else ixF p (l.drop (i + 1)) ((i + 1 : Nat) : Int) := by
  rw [List.drop_eq_getElem_cons h]
  rfl
theorem ixF_spec (p : Sl → Bool) : ∀ (l : List Sl) (i : Nat), (ixF p l (i : Int) = -1 ∧ l.filter (fun e => !p e) = l ∧ l.any p = false) ∨ ∃ q, ∃ h : q < l.length, ixF p l (i : Int) = ((i + q : Nat) : Int) ∧ p l[q] = true ∧ (l.take q).filter (fun e => !p e) = l.take q ∧ l.any p = true
  | [], i => .inl ⟨rfl, rfl, rfl⟩
  | e :: r, i => by
    cases hp : p e with
    | true => exact .inr ⟨0, by simp, by simp [ixF, hp], by simpa using hp, rfl, by simp [hp]⟩
    | false =>
      rcases ixF_spec p r (i + 1) with ⟨h1, h2, h3⟩ | ⟨q, hq, h1, h2, h3, h4⟩
      · refine .inl ⟨?_, by rw [List.filter_cons, hp]; simp only [Bool.not_false, if_true, h2], by simp [hp, h3]⟩
        rw [ixF, hp, if_neg Bool.false_ne_true]
        exact_mod_cast h1
      · refine .inr ⟨q + 1, by simpa using hq, ?_, by simpa using h2, by rw [List.take_succ_cons, List.filter_cons, hp]; simp only [Bool.not_false, if_true, h3], by simp [h4]⟩
        rw [ixF, hp, if_neg Bool.false_ne_true]
        rw [show ((i : Int) + 1) = ((i + 1 : Nat) : Int) by omega, h1]
        congr 1; omega
def nmP (nm : ByteArray) (e : Sl) : Bool := e.nm == nm
def ovP (now : Int) (e : Sl) : Bool := decide (e.t ≤ now)
def drpC (l : List Sl) (nm : ByteArray) : Int := if ixF (nmP nm) l 0 < 0 then 7 else 0
def drpL (l : List Sl) (nm : ByteArray) : List Sl := if ixF (nmP nm) l 0 < 0 then [] else l.eraseIdx (ixF (nmP nm) l 0).toNat
def swpL (l : List Sl) (now : Int) : List Sl := l.filter fun e => !ovP now e
theorem getD_mdl {pre post : List AV} {a b : AV} {i : Nat} (h : i ≠ pre.length) : (pre ++ a :: post).getD i .any = (pre ++ b :: post).getD i .any := by
  simp only [List.getD_eq_getElem?_getD]
  by_cases hlt : i < pre.length
  · rw [List.getElem?_append_left hlt, List.getElem?_append_left hlt]
  · rw [List.getElem?_append_right (by omega), List.getElem?_append_right (by omega)]
    obtain ⟨q, hq⟩ : ∃ q, i - pre.length = q + 1 := ⟨i - pre.length - 1, by omega⟩
    rw [hq, List.getElem?_cons_succ, List.getElem?_cons_succ]
theorem getD_atm {pre post : List AV} {a : AV} : (pre ++ a :: post).getD pre.length .any = a := by
  simp only [List.getD_eq_getElem?_getD]
  rw [List.getElem?_append_right (Nat.le_refl _), Nat.sub_self]; rfl
theorem row_arg {f : Nat} {pre post : List AV} {l : List Sl} {n : Nat} {T : Hp} {φ : AV → Hp → Prop} (hn : l.length = n)
    (h1 : 1 ≤ n → ACt Tryd.prog f (pre ++ .sl n (scs l) :: post) T φ) (h2 : l = [] → ∀ cap, cap ≤ maxLen → ACt Tryd.prog f (pre ++ .lit (.slice none 0 cap) :: post) T φ)
    (h3 : l = [] → ∀ ad cap, cap ≤ maxLen → ACt Tryd.prog f (pre ++ .lit (.slice (some ad) 0 cap) :: post) T φ) :
    ACt Tryd.prog f (pre ++ .sl n (scs l) :: post) T φ := by
  by_cases hn1 : 1 ≤ n
  · exact h1 hn1
  obtain rfl : n = 0 := by omega
  obtain rfl : l = [] := List.eq_nil_of_length_eq_zero hn
  intro cx vs hK hKT hw hs hv
  have h0 := hv pre.length (by simp)
  rw [getD_atm] at h0
  obtain ⟨a, cap, e, hm⟩ : ∃ a cap, Rep cx.w0 cx.I (vs.getD pre.length undef) (.lit (.slice a 0 cap)) ∧ cap ≤ maxLen := by
    generalize vs.getD pre.length undef = u at h0
    cases h0 with
    | sl a n cap cs g hn hm h r => exact ⟨a, cap, .lit _, hm⟩
  have hv' : ∀ i, i < (pre ++ .lit (.slice a 0 cap) :: post).length → Rep cx.w0 cx.I (vs.getD i undef) ((pre ++ .lit (.slice a 0 cap) :: post).getD i .any) := fun i hi => by
    by_cases hip : i = pre.length
    · subst hip; rw [getD_atm]; exact e
    · rw [getD_mdl hip]; exact hv i (by simpa using hi)
  have hs' : vs.size = (pre ++ .lit (.slice a 0 cap) :: post).length := by rw [hs]; simp
  cases a with
  | none => exact h2 rfl cap hm cx vs hK hKT hw hs' hv'
  | some ad => exact h3 rfl ad cap hm cx vs hK hKT hw hs' hv'
theorem rep_sl0 {w : World} {I : Nat → Prop} {v : Value} {a : Option Addr} {cap : Nat} (hm : cap ≤ maxLen) (h : Rep w I v (.lit (.slice a 0 cap))) : Rep w I v (.sl 0 []) := by
  have := h.lit_inv
  subst this
  exact .sl a 0 cap [] (fun _ => undef) (Nat.zero_le _) hm (.inl rfl) (fun i hi => absurd hi (Nat.not_lt_zero _))
theorem ACt.sl0 {f : Nat} {pre post : List AV} {a : Option Addr} {cap : Nat} {T : Hp} {φ : AV → Hp → Prop} (hm : cap ≤ maxLen) (h : ACt Tryd.prog f (pre ++ .sl 0 [] :: post) T φ) : ACt Tryd.prog f (pre ++ .lit (.slice a 0 cap) :: post) T φ := by
  intro cx vs hK hKT hw hs hv
  refine h cx vs hK hKT hw (by rw [hs]; simp) fun i hi => ?_
  by_cases hip : i = pre.length
  · subst hip
    have h0 := hv pre.length (by simp)
    rw [getD_atm] at h0 ⊢
    exact rep_sl0 hm h0
  · rw [getD_mdl (b := .lit (.slice a 0 cap)) hip]; exact hv i (by simpa using hi)
theorem find_ct (l : List Sl) (nm : ByteArray) (n : Nat) (hn : l.length = n) (hl : n ≤ 100000) : ACt Tryd.prog 44 [.sl n (scs l), .lit (.string nm)] [] (Fn (iv .i64 (ixF (nmP nm) l 0))) := by
  have hCl := scs_len l
  have hdr := scs_drop l
  have hix := fun (i : Nat) (h : i < l.length) => ixF_drop (nmP nm) l h
  rw [hn] at hCl
  obtain ⟨R, hR⟩ : ∃ R, R = ixF (nmP nm) l 0 := ⟨_, rfl⟩
  rw [← hR]
  obtain ⟨C, hC⟩ : ∃ C, C = scs l := ⟨_, rfl⟩
  rw [← hC] at hCl hdr ⊢
  refine ACt.intro Tryd.func44 rfl (by kernel_rfl) (by simp [Tryd.ntmps44]) (fun cx => ?_)
  simp only [argE, Tryd.ntmps44, Tryd.results44]
  first | (have FRx := FR; clear FRx) | have FR := fr0S
  have FA := Sm.mk (TFHuA)
  repeat' first | (apply Sm.mk; refine Ys ?_) | refine WP.seq fun K hK => ?_ | (apply Ob.mk; exact Yo) | refine And.intro (Ob.out ?_) ?_ | refine Y1HuA ?_ | refine YzHuA ?_ | (refine WP.cond rfl (fun hc => ?_) (fun hc => ?_) <;> (try simp only [ZC, reduceCtorEq, ZD] at hc) <;> (try exact absurd hc (by decide)) <;> (try (exfalso; omega))) | refine Rt.mk (And.intro (fun hg => Sm.out ?_) fun hg => Sm.out ?_) | (refine Nu.mk ?_; first | (fail_if_success have := nb1); intro nb1 | (fail_if_success have := nb2); intro nb2 | (fail_if_success have := nb3); intro nb3 | (fail_if_success have := nb4); intro nb4 | intro nbz) | (apply Yfr; refine Yf FR fun hFRb FR => ?_) | refine Two.mk ?_ ?_ | (apply Yxc; exact Yx) | refine Cs.mk fun hcs => Sm.out ?_ | go_step | omega | (simp only [maxLen_eq]; omega) | exact trivial
  refine WP.loop (Γ := Nat) (fun i => ⟨[(5, iv .i64 (i : Int)), (0, .sl n C), (1, .lit (.string nm))], []⟩) (fun i => i ≤ n ∧ R = ixF (nmP nm) (l.drop i) (i : Int)) (fun i => n - i) 0 ⟨Nat.zero_le _, by rw [List.drop_zero]; exact hR⟩ (Sub.pick (by simp [pickB, hget, hdel, FR.out]) (by simp [look])) ?_
  intro i ⟨hi, hr⟩
  have FR : Sm (¬ ((1 : Nat) = 0)) := Sm.mk Nat.one_ne_zero
  by_cases hin : i < n
  · have ki : decide ((i : Int) < (n : Int)) = true := decide_eq_true (by omega)
    have s1 : IntKind.i64.wrap ((i : Int) + 1) = ((i + 1 : Nat) : Int) := by rw [wrap_i64 (by omega) (by omega)]; omega
    have hd := hdr i (by omega)
    have hix := hix i (by omega)
    obtain ⟨v, hv⟩ : ∃ x, x = l[i]'(by omega) := ⟨_, rfl⟩
    rw [← hv] at hd hix
    have q1 : (i + 1) * 5 ≤ C.length := by omega
    have hq0 : (v.nm == nm) = nmP nm v := rfl
    have hq1 : (v.nm.toList == nm.toList) = nmP nm v := tl_eq _ _
    obtain ⟨q, hq⟩ : ∃ q, nmP nm v = q := ⟨_, rfl⟩
    rw [hq] at hix hq0 hq1
    rw [hix] at hr
    first | (have FRx := FR; clear FRx) | have FR := fr0S
    have FA := Sm.mk (And.intro TFHuA (And.intro ki (And.intro hd (And.intro q1 (And.intro s1 (And.intro hq0 hq1))))))
    repeat' first | (apply Sm.mk; refine YsHuA0 ?_) | refine WP.seq fun K hK => ?_ | (apply Ob.mk; exact Yo) | refine And.intro (Ob.out ?_) ?_ | refine Y1HuA ?_ | refine YzHuA ?_ | (refine WP.cond rfl (fun hc => ?_) (fun hc => ?_) <;> (try simp only [ZC, reduceCtorEq, ZD] at hc) <;> (try exact absurd hc (by decide)) <;> (try (exfalso; omega))) | refine Rt.mk (And.intro (fun hg => Sm.out ?_) fun hg => Sm.out ?_) | (refine Nu.mk ?_; first | (fail_if_success have := nb1); intro nb1 | (fail_if_success have := nb2); intro nb2 | (fail_if_success have := nb3); intro nb3 | (fail_if_success have := nb4); intro nb4 | intro nbz) | (apply Yfr; refine Yf FR fun hFRb FR => ?_) | refine Two.mk ?_ ?_ | (apply Yxc; exact Yx) | refine Cs.mk fun hcs => Sm.out ?_ | go_step | omega | (simp only [maxLen_eq]; omega) | exact trivial
    · rw [if_pos hc] at hr
      (have FA := Sm.mk (And.intro hr FA.out); refine Yg ?_; try exact trivial)
    · rw [if_neg (by rw [hc]; simp)] at hr
      exact ⟨i + 1, ⟨by omega, hr⟩, by omega, (Sub.pick (by simp [pickB, hget, hdel, FR.out]) (by simp [look]))⟩
  · have ki : decide ((i : Int) < (n : Int)) = false := decide_eq_false (by omega)
    rw [List.drop_eq_nil_of_le (by omega)] at hr
    have hr : R = -1 := hr
    first | (have FRx := FR; clear FRx) | have FR := fr0S
    have FA := Sm.mk (And.intro TFHuA ki)
    repeat' first | (apply Sm.mk; refine Ys ?_) | refine WP.seq fun K hK => ?_ | (apply Ob.mk; exact Yo) | refine And.intro (Ob.out ?_) ?_ | refine Y1HuA ?_ | refine YzHuA ?_ | (refine WP.cond rfl (fun hc => ?_) (fun hc => ?_) <;> (try simp only [ZC, reduceCtorEq, ZD] at hc) <;> (try exact absurd hc (by decide)) <;> (try (exfalso; omega))) | refine Rt.mk (And.intro (fun hg => Sm.out ?_) fun hg => Sm.out ?_) | (refine Nu.mk ?_; first | (fail_if_success have := nb1); intro nb1 | (fail_if_success have := nb2); intro nb2 | (fail_if_success have := nb3); intro nb3 | (fail_if_success have := nb4); intro nb4 | intro nbz) | (apply Yfr; refine Yf FR fun hFRb FR => ?_) | refine Two.mk ?_ ?_ | (apply Yxc; exact Yx) | refine Cs.mk fun hcs => Sm.out ?_ | go_step | omega | (simp only [maxLen_eq]; omega) | exact trivial
    (have FA := Sm.mk (And.intro hr FA.out); refine Yg ?_; try exact trivial)
def TFHuB :=
  And.intro (And.intro (And.intro (And.intro (And.intro tyc0 tyc3) (And.intro zmb3 tyc4)) (And.intro (And.intro zmb4 tyc9) (And.intro zmb9 (And.intro tyc22 elt22)))) (And.intro (And.intro (And.intro mkz22 mkc22) (And.intro apT22 elk22)) (And.intro (And.intro zmb22 tyc30) (And.intro zmb30 (And.intro tyc32 foff32_0))))) (And.intro (And.intro (And.intro (And.intro fpart32_0 foff32_1) (And.intro fpart32_1 foff32_2)) (And.intro (And.intro fpart32_2 foff32_3) (And.intro fpart32_3 (And.intro foff32_4 fpart32_4)))) (And.intro (And.intro (And.intro fe32 zmb32) (And.intro bldT32 (And.intro Tryd.underlying0 Tryd.underlying3))) (And.intro (And.intro Tryd.underlying4 Tryd.underlying9) (And.intro Tryd.underlying22 (And.intro Tryd.underlying30 Tryd.underlying32)))))
theorem Y1HuB {G R : Prop} (r : R) (h : R → G := by intro r; first | (apply WP.region; exact rvc_sound _ _ (Sm.out r)) | exact WP.drawK rfl mixed (by decide +kernel) (Sm.out r) | (apply WP.block; exact r) | (apply WP.skip; exact Yq r) | (apply WP.exit; exact Yq r) | (apply WP.ret; exact Sm.out r) | exact WP.cond rfl (fun _ => r) (fun hg => absurd hg (by decide)) | exact WP.cond rfl (fun hg => absurd hg (by decide)) (fun _ => r) | exact Rt.mk (And.intro (fun _ => Sm.out r) fun hg => absurd hg (by decide)) | exact Rt.mk (And.intro (fun hg => absurd hg (by decide)) fun _ => Sm.out r)) : G := h r
theorem YzHuB {G R : Prop} (r : R) (h : R → G := by intro r; first | (apply ExG.no; exact Sm.out r) | (apply Or.inl; apply ExG.no; exact Sm.out r) | exact Or.inl (And.intro (fun hg => absurd hg (by decide)) (ExG.no (Sm.out r)))) : G := h r
theorem YsHuB0 {P Q : Prop} (q : Q) (h : P = Q := by (try (conv => lhs; simp -dsimp only [ZK, rvc, capA, appA, litL, mkfv, drawF, headN, pureH, stp, dvc, calleeOf, gcall, pev, eff, newB, okd, og, ogs, ogo, ogp, slv, bltv, opd, litv, strip, one, both, putE, St.put, look, gdOf, gdv, picka, pickv, pickw, binv, bini, bins, binb, binp, binq, isSlT, bina, shp, eqCells, unv, convv, nilv, faddv, addp, idxav, idxp, load1, load1m, loadn, loadnm, loadv, hget, hset, hrep, hdel, slicev, slice3v, bnd, shift1, lenv, capv, IntKind.bits, extractv, fieldv, indexv, min2v, max2v, mkiv, tasv, tasz, cellsA, fillA, buildv, stC, oneC, rowMB, intsA, plN, appE, appZ, appC, appS, srcB, appNZ, appNC, VwL, srcC, srcZ, srcM, isBoolT, isPtrT, isSliceT, uOk, Value.oneCell', Nat.reducePow, Int.reducePow, Nat.reduceAdd, Nat.reduceMul, Nat.reduceSub, Nat.reduceLT, Nat.reduceLeDiff, Nat.reduceEqDiff, Nat.reduceBEq, Nat.reduceDiv, Nat.reduceMod, ↓reduceIte, reduceCtorEq, Int.reduceToNat, Int.reduceLT, Int.reduceLE, TFHuB, SeqQ, BlkQ, LoopQ, BodyQ, hin, FA.out, FR.out])) <;> exact rfl) : P := h.mpr q
abbrev fNm (b : Nat) : AV := .lit (.func (.func 68) #[] #[.pointer (some ⟨b, 0, none⟩)])
theorem nm1_ct (e : Sl) (nm : ByteArray) (b : Nat) : ACt Tryd.prog 68 [siv e, pt b 0] [(b, .cells [.lit (.string nm)] 1 9)] (fun r F' => r = bv (nmP nm e) ∧ F' = [(b, .cells [.lit (.string nm)] 1 9)]) := by
  obtain ⟨en, eg, ew, ef, et⟩ := e
  have hq0 : (en == nm) = nmP nm ⟨en, eg, ew, ef, et⟩ := rfl
  have hq1 : (en.toList == nm.toList) = nmP nm ⟨en, eg, ew, ef, et⟩ := tl_eq _ _
  obtain ⟨q, hq⟩ : ∃ q, nmP nm ⟨en, eg, ew, ef, et⟩ = q := ⟨_, rfl⟩
  rw [hq] at hq0 hq1 ⊢
  refine ACt.intro Tryd.func68 rfl (by kernel_rfl) (by simp [Tryd.ntmps68]) (fun cx => ?_)
  simp only [argE, Tryd.ntmps68, Tryd.results68]
  first | (have FRx := FR; clear FRx) | have FR := fr0S
  have FA := Sm.mk (And.intro TFHuB (And.intro hq0 hq1))
  repeat' first | (apply Sm.mk; refine Ys ?_) | refine WP.seq fun K hK => ?_ | (apply Ob.mk; exact Yo) | refine And.intro (Ob.out ?_) ?_ | refine Y1HuB ?_ | refine YzHuB ?_ | (refine WP.cond rfl (fun hc => ?_) (fun hc => ?_) <;> (try simp only [ZC, reduceCtorEq, ZD] at hc) <;> (try exact absurd hc (by decide)) <;> (try (exfalso; omega))) | refine Rt.mk (And.intro (fun hg => Sm.out ?_) fun hg => Sm.out ?_) | (refine Nu.mk ?_; first | (fail_if_success have := nb1); intro nb1 | (fail_if_success have := nb2); intro nb2 | (fail_if_success have := nb3); intro nb3 | (fail_if_success have := nb4); intro nb4 | (fail_if_success have := nb5); intro nb5 | (fail_if_success have := nb6); intro nb6 | intro nbz) | (apply Yfr; refine Yf FR fun hFRb FR => ?_) | refine Two.mk ?_ ?_ | (apply Yxc; exact Yx) | refine Cs.mk fun hcs => Sm.out ?_ | go_step | omega | (simp only [maxLen_eq]; omega) | exact trivial
  (refine OutQ.upd (by simp only [resv, ZK, look, loadv, loadn, loadnm, load1, load1m, hget, ↓reduceIte, Nat.reduceEqDiff, Nat.reduceAdd, Nat.reduceMul, Nat.reduceLeDiff, Nat.reduceLT, reduceCtorEq, TFHuB, FR.out, hq0, hq1]) (by simp only [resv, resA, ZK, look, loadv, loadn, loadnm, load1, load1m, hget, ↓reduceIte, Nat.reduceEqDiff, Nat.reduceAdd, Nat.reduceMul, Nat.reduceLeDiff, Nat.reduceLT, reduceCtorEq, TFHuB, FR.out, hq0, hq1]; first | done | rfl) (by simp only [hget, ↓reduceIte, if_true, if_false, FR.out, hq0, hq1]; first | done | rfl) ?_ <;> first | exact rfl | (simp only [ZK, look, loadv, loadn, loadnm, load1, load1m, hget, ↓reduceIte, Nat.reduceEqDiff, Nat.reduceAdd, Nat.reduceMul, Nat.reduceLeDiff, Nat.reduceLT, reduceCtorEq, TFHuB, FR.out, hq0, hq1]; done) | skip)
theorem ixn_ct (l : List Sl) (nm : ByteArray) (n b : Nat) (hn : l.length = n) (hl : n ≤ 100000) :
    ACt Tryd.prog 67 [.sl n (scs l), fNm b] [(b, .cells [.lit (.string nm)] 1 9)] (fun r F' => r = iv .i64 (ixF (nmP nm) l 0) ∧ F' = [(b, .cells [.lit (.string nm)] 1 9)]) := by
  have hCl := scs_len l
  have hdr := scs_drop l
  have hix := fun (i : Nat) (h : i < l.length) => ixF_drop (nmP nm) l h
  have cT := fun e => nm1_ct e nm b
  rw [hn] at hCl
  obtain ⟨R, hR⟩ : ∃ R, R = ixF (nmP nm) l 0 := ⟨_, rfl⟩
  rw [← hR]
  obtain ⟨C, hC⟩ : ∃ C, C = scs l := ⟨_, rfl⟩
  rw [← hC] at hCl hdr ⊢
  unfold fNm
  refine ACt.intro Tryd.func67 rfl (by kernel_rfl) (by simp [Tryd.ntmps67]) (fun cx => ?_)
  simp only [argE, Tryd.ntmps67, Tryd.results67]
  first | (have FRx := FR; clear FRx) | have FR := fr0S
  have FA := Sm.mk (TFHuB)
  repeat' first | (apply Sm.mk; refine Ys ?_) | refine WP.seq fun K hK => ?_ | (apply Ob.mk; exact Yo) | refine And.intro (Ob.out ?_) ?_ | refine Y1HuB ?_ | refine YzHuB ?_ | (refine WP.cond rfl (fun hc => ?_) (fun hc => ?_) <;> (try simp only [ZC, reduceCtorEq, ZD] at hc) <;> (try exact absurd hc (by decide)) <;> (try (exfalso; omega))) | refine Rt.mk (And.intro (fun hg => Sm.out ?_) fun hg => Sm.out ?_) | (refine Nu.mk ?_; first | (fail_if_success have := nb1); intro nb1 | (fail_if_success have := nb2); intro nb2 | (fail_if_success have := nb3); intro nb3 | (fail_if_success have := nb4); intro nb4 | (fail_if_success have := nb5); intro nb5 | (fail_if_success have := nb6); intro nb6 | intro nbz) | (apply Yfr; refine Yf FR fun hFRb FR => ?_) | refine Two.mk ?_ ?_ | (apply Yxc; exact Yx) | refine Cs.mk fun hcs => Sm.out ?_ | go_step | omega | (simp only [maxLen_eq]; omega) | exact trivial
  refine WP.loop (Γ := Nat) (fun i => ⟨[(8, iv .i64 (i : Int)), (7, iv .i64 (n : Int)), (0, .sl n C), (1, .lit (.func (.func 68) #[] #[.pointer (some ⟨b, 0, none⟩)]))], [(b, .cells [.lit (.string nm)] 1 9)]⟩) (fun i => i ≤ n ∧ R = ixF (nmP nm) (l.drop i) (i : Int)) (fun i => n - i) 0 ⟨Nat.zero_le _, by rw [List.drop_zero]; exact hR⟩ (Sub.pick (by simp [pickB, hget, hdel, FR.out]) (by simp [look])) ?_
  intro i ⟨hi, hr⟩
  have FR : Sm (¬ ((1 : Nat) = 0)) := Sm.mk Nat.one_ne_zero
  by_cases hin : i < n
  · have ki : decide ((i : Int) < (n : Int)) = true := decide_eq_true (by omega)
    have s1 : IntKind.i64.wrap ((i : Int) + 1) = ((i + 1 : Nat) : Int) := by rw [wrap_i64 (by omega) (by omega)]; omega
    have hd := hdr i (by omega)
    have hix := hix i (by omega)
    obtain ⟨v, hv⟩ : ∃ x, x = l[i]'(by omega) := ⟨_, rfl⟩
    rw [← hv] at hd hix
    have q1 : (i + 1) * 5 ≤ C.length := by omega
    have cF := cT v
    obtain ⟨q, hq⟩ : ∃ q, nmP nm v = q := ⟨_, rfl⟩
    rw [hq] at cF hix
    rw [hix] at hr
    first | (have FRx := FR; clear FRx) | have FR := fr0S
    have FA := Sm.mk (And.intro TFHuB (And.intro ki (And.intro hd (And.intro q1 s1))))
    repeat' first | (apply Sm.mk; refine YsHuB0 ?_) | refine WP.seq fun K hK => ?_ | (apply Ob.mk; exact Yo) | refine And.intro (Ob.out ?_) ?_ | refine Y1HuB ?_ | (refine CallV.updM (cF) (perm1 (by simp only [hget, hdel, ↓reduceIte, FR.out, ki, hd, q1, hin, s1]; first | done | rfl)) (Sm.out ?_)) | refine YzHuB ?_ | (refine WP.cond rfl (fun hc => ?_) (fun hc => ?_) <;> (try simp only [ZC, reduceCtorEq, ZD] at hc) <;> (try exact absurd hc (by decide)) <;> (try (exfalso; omega))) | refine Rt.mk (And.intro (fun hg => Sm.out ?_) fun hg => Sm.out ?_) | (refine Nu.mk ?_; first | (fail_if_success have := nb1); intro nb1 | (fail_if_success have := nb2); intro nb2 | (fail_if_success have := nb3); intro nb3 | (fail_if_success have := nb4); intro nb4 | (fail_if_success have := nb5); intro nb5 | (fail_if_success have := nb6); intro nb6 | intro nbz) | (apply Yfr; refine Yf FR fun hFRb FR => ?_) | refine Two.mk ?_ ?_ | (apply Yxc; exact Yx) | refine Cs.mk fun hcs => Sm.out ?_ | go_step | omega | (simp only [maxLen_eq]; omega) | exact trivial
    · rw [if_pos hc] at hr
      (refine OutQ.upd (by simp only [resv, ZK, look, loadv, loadn, loadnm, load1, load1m, hget, ↓reduceIte, Nat.reduceEqDiff, Nat.reduceAdd, Nat.reduceMul, Nat.reduceLeDiff, Nat.reduceLT, reduceCtorEq, TFHuB, FR.out, hr]) (by simp only [resv, resA, ZK, look, loadv, loadn, loadnm, load1, load1m, hget, ↓reduceIte, Nat.reduceEqDiff, Nat.reduceAdd, Nat.reduceMul, Nat.reduceLeDiff, Nat.reduceLT, reduceCtorEq, TFHuB, FR.out, hr]; first | done | rfl) (by simp only [hget, ↓reduceIte, if_true, if_false, FR.out, hr]; first | done | rfl) ?_ <;> first | exact rfl | (simp only [ZK, look, loadv, loadn, loadnm, load1, load1m, hget, ↓reduceIte, Nat.reduceEqDiff, Nat.reduceAdd, Nat.reduceMul, Nat.reduceLeDiff, Nat.reduceLT, reduceCtorEq, TFHuB, FR.out, hr]; done) | skip)
    · rw [if_neg (by rw [hc]; simp)] at hr
      exact ⟨i + 1, ⟨by omega, hr⟩, by omega, (Sub.pick (by simp [pickB, hget, hdel, FR.out]) (by simp [look]))⟩
  · have ki : decide ((i : Int) < (n : Int)) = false := decide_eq_false (by omega)
    rw [List.drop_eq_nil_of_le (by omega)] at hr
    have hr : R = -1 := hr
    first | (have FRx := FR; clear FRx) | have FR := fr0S
    have FA := Sm.mk (And.intro TFHuB ki)
    repeat' first | (apply Sm.mk; refine Ys ?_) | refine WP.seq fun K hK => ?_ | (apply Ob.mk; exact Yo) | refine And.intro (Ob.out ?_) ?_ | refine Y1HuB ?_ | refine YzHuB ?_ | (refine WP.cond rfl (fun hc => ?_) (fun hc => ?_) <;> (try simp only [ZC, reduceCtorEq, ZD] at hc) <;> (try exact absurd hc (by decide)) <;> (try (exfalso; omega))) | refine Rt.mk (And.intro (fun hg => Sm.out ?_) fun hg => Sm.out ?_) | (refine Nu.mk ?_; first | (fail_if_success have := nb1); intro nb1 | (fail_if_success have := nb2); intro nb2 | (fail_if_success have := nb3); intro nb3 | (fail_if_success have := nb4); intro nb4 | (fail_if_success have := nb5); intro nb5 | (fail_if_success have := nb6); intro nb6 | intro nbz) | (apply Yfr; refine Yf FR fun hFRb FR => ?_) | refine Two.mk ?_ ?_ | (apply Yxc; exact Yx) | refine Cs.mk fun hcs => Sm.out ?_ | go_step | omega | (simp only [maxLen_eq]; omega) | exact trivial
    (refine OutQ.upd (by simp only [resv, ZK, look, loadv, loadn, loadnm, load1, load1m, hget, ↓reduceIte, Nat.reduceEqDiff, Nat.reduceAdd, Nat.reduceMul, Nat.reduceLeDiff, Nat.reduceLT, reduceCtorEq, TFHuB, FR.out, hr]) (by simp only [resv, resA, ZK, look, loadv, loadn, loadnm, load1, load1m, hget, ↓reduceIte, Nat.reduceEqDiff, Nat.reduceAdd, Nat.reduceMul, Nat.reduceLeDiff, Nat.reduceLT, reduceCtorEq, TFHuB, FR.out, hr]; first | done | rfl) (by simp only [hget, ↓reduceIte, if_true, if_false, FR.out, hr]; first | done | rfl) ?_ <;> first | exact rfl | (simp only [ZK, look, loadv, loadn, loadnm, load1, load1m, hget, ↓reduceIte, Nat.reduceEqDiff, Nat.reduceAdd, Nat.reduceMul, Nat.reduceLeDiff, Nat.reduceLT, reduceCtorEq, TFHuB, FR.out, hr]; done) | skip)
theorem named_ct (l : List Sl) (nm : ByteArray) (n : Nat) (hn : l.length = n) (hl : n ≤ 100000) : ACt Tryd.prog 42 [.sl n (scs l), .lit (.string nm)] [] (Fn (iv .i64 (ixF (nmP nm) l 0))) := by
  have cI := fun b => ixn_ct l nm n b hn hl
  unfold fNm at cI
  obtain ⟨R, hR⟩ : ∃ R, R = ixF (nmP nm) l 0 := ⟨_, rfl⟩
  simp only [← hR] at cI ⊢
  obtain ⟨C, hC⟩ : ∃ C, C = scs l := ⟨_, rfl⟩
  simp only [← hC] at cI ⊢
  refine ACt.intro Tryd.func42 rfl (by kernel_rfl) (by simp [Tryd.ntmps42]) (fun cx => ?_)
  simp only [argE, Tryd.ntmps42, Tryd.results42]
  first | (have FRx := FR; clear FRx) | have FR := fr0S
  have FA := Sm.mk (TFHuB)
  repeat' first | (apply Sm.mk; refine Ys ?_) | refine WP.seq fun K hK => ?_ | (apply Ob.mk; exact Yo) | refine And.intro (Ob.out ?_) ?_ | ((fail_if_success (show WP _ _ _ (.region 1 _ _) _ _)); refine Y1HuB ?_) | refine YzHuB ?_ | (refine WP.cond rfl (fun hc => ?_) (fun hc => ?_) <;> (try simp only [ZC, reduceCtorEq, ZD] at hc) <;> (try exact absurd hc (by decide)) <;> (try (exfalso; omega))) | refine Rt.mk (And.intro (fun hg => Sm.out ?_) fun hg => Sm.out ?_) | (refine Nu.mk ?_; first | (fail_if_success have := nb1); intro nb1 | (fail_if_success have := nb2); intro nb2 | (fail_if_success have := nb3); intro nb3 | (fail_if_success have := nb4); intro nb4 | (fail_if_success have := nb5); intro nb5 | (fail_if_success have := nb6); intro nb6 | intro nbz) | (apply Yfr; refine Yf FR fun hFRb FR => ?_) | refine Two.mk ?_ ?_ | (apply Yxc; exact Yx) | refine Cs.mk fun hcs => Sm.out ?_ | go_step | omega | (simp only [maxLen_eq]; omega) | exact trivial
  have cI := cI nb1
  first | (have FRx := FR; clear FRx) | have FR := fr0S
  have FA := Sm.mk (TFHuB)
  repeat' first | (apply Sm.mk; refine Ys ?_) | refine WP.seq fun K hK => ?_ | (apply Ob.mk; exact Yo) | refine And.intro (Ob.out ?_) ?_ | refine Y1HuB ?_ | refine Yw1 (c := cI) (r := ?_) | refine YzHuB ?_ | (refine WP.cond rfl (fun hc => ?_) (fun hc => ?_) <;> (try simp only [ZC, reduceCtorEq, ZD] at hc) <;> (try exact absurd hc (by decide)) <;> (try (exfalso; omega))) | refine Rt.mk (And.intro (fun hg => Sm.out ?_) fun hg => Sm.out ?_) | (refine Nu.mk ?_; first | (fail_if_success have := nb1); intro nb1 | (fail_if_success have := nb2); intro nb2 | (fail_if_success have := nb3); intro nb3 | (fail_if_success have := nb4); intro nb4 | (fail_if_success have := nb5); intro nb5 | (fail_if_success have := nb6); intro nb6 | intro nbz) | (apply Yfr; refine Yf FR fun hFRb FR => ?_) | refine Two.mk ?_ ?_ | (apply Yxc; exact Yx) | refine Cs.mk fun hcs => Sm.out ?_ | go_step | omega | (simp only [maxLen_eq]; omega) | exact trivial
  (refine Yg ?_; try exact trivial)
end Go.Proofs.YtaffbklkjjmmdaaDoor
