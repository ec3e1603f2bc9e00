/-
  The walks and the laws that the statement leans on, part 51.
-/
import Derived.Test.YtfknbndmabogjaaDoorE10
import Derived.Test.YtfknbndmabogjaaDoorE50
namespace Go.Proofs.YtfknbndmabogjaaDoor
open Go Wi
set_option linter.unusedVariables false
set_option linter.unusedSimpArgs false
set_option linter.defProp false
def TFOuCD :=
  And.intro (And.intro (And.intro (And.intro (And.intro (And.intro tyc0 tyc2) (And.intro zmb2 (And.intro tyc3 zmb3))) (And.intro (And.intro tyc4 zmb4) (And.intro tyc5 (And.intro zmb5 tyc24)))) (And.intro (And.intro (And.intro elt24 mkz24) (And.intro mkc24 (And.intro apT24 elk24))) (And.intro (And.intro zmb24 tyc25) (And.intro zmb25 (And.intro tyc27 foff27_0))))) (And.intro (And.intro (And.intro (And.intro fpart27_0 foff27_1) (And.intro fpart27_1 (And.intro zmb27 bldT27))) (And.intro (And.intro tyc29 foff29_0) (And.intro fpart29_0 (And.intro foff29_1 fpart29_1)))) (And.intro (And.intro (And.intro foff29_2 fpart29_2) (And.intro foff29_3 (And.intro fpart29_3 foff29_4))) (And.intro (And.intro fpart29_4 fe29) (And.intro zmb29 (And.intro bldT29 tyc38)))))) (And.intro (And.intro (And.intro (And.intro (And.intro foff38_0 fpart38_0) (And.intro foff38_1 (And.intro fpart38_1 foff38_2))) (And.intro (And.intro fpart38_2 foff38_3) (And.intro fpart38_3 (And.intro foff38_4 fpart38_4)))) (And.intro (And.intro (And.intro zmb38 bldT38) (And.intro tyc53 (And.intro elt53 mkz53))) (And.intro (And.intro apT53 elk53) (And.intro zmb53 (And.intro tyc95 tyc97))))) (And.intro (And.intro (And.intro (And.intro tyc99 elt99) (And.intro mkz99 (And.intro apT99 elk99))) (And.intro (And.intro zmb99 Tryd.underlying0) (And.intro Tryd.underlying2 (And.intro Tryd.underlying3 Tryd.underlying4)))) (And.intro (And.intro (And.intro Tryd.underlying5 Tryd.underlying24) (And.intro Tryd.underlying25 (And.intro Tryd.underlying27 Tryd.underlying29))) (And.intro (And.intro Tryd.underlying38 Tryd.underlying53) (And.intro Tryd.underlying95 (And.intro Tryd.underlying97 Tryd.underlying99))))))
theorem Y1OuCD {G R : Prop} (r : R) (h : R → G := by intro r; first | (apply WP.region; exact rvc_sound _ _ (Sm.out r)) | exact WP.drawS (is := 7) (k := 10) mixed (by decide +kernel) (by decide +kernel) (Sm.out r) | exact WP.drawK rfl mixed (by decide +kernel) (Sm.out r) | (apply WP.block; exact r) | (apply WP.skip; exact Yq r) | (apply WP.exit; exact Yq r) | (apply WP.ret; exact Sm.out r) | exact WP.cond rfl (fun _ => r) (fun hg => absurd hg (by decide)) | exact WP.cond rfl (fun hg => absurd hg (by decide)) (fun _ => r) | exact Rt.mk (And.intro (fun _ => Sm.out r) fun hg => absurd hg (by decide)) | exact Rt.mk (And.intro (fun hg => absurd hg (by decide)) fun _ => Sm.out r)) : G := h r
theorem YzOuCD {G R : Prop} (r : R) (h : R → G := by intro r; first | (apply ExG.no; exact Sm.out r) | (apply Or.inl; apply ExG.no; exact Sm.out r) | exact Or.inl (And.intro (fun hg => absurd hg (by decide)) (ExG.no (Sm.out r)))) : G := h r
theorem YsOuCD0 {P Q : Prop} (q : Q) (h : P = Q := by (try (conv => lhs; simp -dsimp only [ZK, rvc, capA, appA, litL, mkfv, drawF, headN, pureH, stp, dvc, calleeOf, gcall, pev, eff, newB, okd, og, ogs, ogo, ogp, slv, bltv, opd, litv, strip, one, both, putE, St.put, look, gdOf, gdv, picka, pickv, pickw, binv, bini, bins, binb, binp, binq, isSlT, bina, shp, eqCells, unv, convv, nilv, faddv, addp, idxav, idxp, load1, load1m, loadn, loadnm, loadv, hget, hset, hrep, hdel, slicev, slice3v, bnd, shift1, lenv, capv, IntKind.bits, extractv, fieldv, indexv, min2v, max2v, mkiv, tasv, tasz, cellsA, fillA, buildv, stC, oneC, rowMB, intsA, plN, appE, appZ, appC, appS, srcB, appNZ, appNC, VwL, srcC, srcZ, srcM, isBoolT, isPtrT, isSliceT, uOk, Value.oneCell', Nat.reducePow, Int.reducePow, Nat.reduceAdd, Nat.reduceMul, Nat.reduceSub, Nat.reduceLT, Nat.reduceLeDiff, Nat.reduceEqDiff, Nat.reduceBEq, Nat.reduceDiv, Nat.reduceMod, ↓reduceIte, reduceCtorEq, Int.reduceToNat, Int.reduceLT, Int.reduceLE, drawSF, hdel, TFOuCD, SeqQ, BlkQ, LoopQ, BodyQ, hdm, FA.out, FR.out])) <;> exact rfl) : P := h.mpr q
theorem ACt.fzVE {α : Type} {P : Program} {f : FuncId} {args : List AV} {q : α → Prop} {y : α → AV} (h : ACt P f args [] (fun r F' => ∃ g, q g ∧ Vw F' r (y g))) : ACt P f args [] (fun r F' => ∃ g, (q g ∧ r = y g) ∧ F' = []) := by
  intro cx vs hK hKT hw hs hv
  refine (h cx vs hK hKT hw hs hv).mono ?_
  rintro e w' ⟨v, r, F', he, ⟨g, hq, hp⟩, hw', hr⟩
  have hd := (show OkW cx ([] ++ F') w' from hw').drop
  exact ⟨v, y g, [], he, ⟨g, ⟨hq, rfl⟩, rfl⟩, hd.1, hp.rep hw' hd.2 (fun x hx => .inr ⟨hw'.keys x hx, keys_lt hw' x hx, fun z hz => by simp at hz⟩) hr⟩
def n3 : Nat → List Nat → List Int → Option (List Nat × List Int)
  | 0, V, zs => some (V, zs)
  | j + 1, V, zs => match nF zs with
    | none => none
    | some (x, r) => if 253404892799 < x then none else n3 j (V ++ [x]) r
noncomputable def reX (zs : List Int) : Option (En × List Int) :=
  match kgX zs with
  | none => none
  | some (k, z1) => if krB k = false then none else match n3 3 [] z1 with
    | none => none
    | some (V, z2) => match fF z2 with
      | none => none
      | some (a, z3) => some (⟨k, (V.getD 0 0 : Nat), (V.getD 1 0 : Nat), (V.getD 2 0 : Nat), a⟩, z3)
noncomputable def rgX : Nat → List En → List Int → Option (List En × List Int)
  | 0, A, zs => some (A, zs)
  | c + 1, A, zs => match reX zs with
    | none => none
    | some (e, r) => rgX c (A ++ [e]) r
noncomputable def rbX (Z : List Int) : Option (Bx × List Int) :=
  match nF Z with
  | none => none
  | some (n, z1) => if 64 < n then none else match rgX n [] z1 with
    | none => none
    | some (A, z2) => match nF z2 with
      | none => none
      | some (d, r) => if bxB ⟨A, (d : Nat)⟩ = true then some (⟨A, (d : Nat)⟩, r) else none
def RgP (zl : Nat) : Option (Bx × List Int) → Bx × Int × Bool → Prop
  | some (b, r), g => g = (b, ((zl - r.length : Nat) : Int), true)
  | none, g => g.2.2 = false
abbrev gA (g : Bx × Int × Bool) : AV := .tup [bxv g.1, iv .i64 g.2.1, bv g.2.2]
theorem vw_ga {H : Hp} {x : AV} {B : Bx} {i : Int} {f : Bool} (h : Vw H x (bxv B)) : Vw H (.tup [x, iv .i64 i, bv f]) (gA (B, i, f)) :=
  .tup rfl fun j hj => by
    match j, hj with
    | 0, _ => exact h
    | 1, _ => exact .same _
    | 2, _ => exact .same _
theorem rkey_ct (Z : List Int) (at_ : Nat) (hat : at_ ≤ Z.length) (hb : Wi.By Z) (hz : Z.length ≤ 60000) : ACt Tryd.prog 69 [.slz .u8 Z, iv .i64 (at_ : Int)] [] (Fn (match kgX (Z.drop at_) with
    | none => .tup [kv k0, iv .i64 0, bv false]
    | some (k, r) => .tup [kv k, iv .i64 ((Z.length - r.length : Nat) : Int), bv (krB k)])) := by
  have := rk_ct Z at_ hat hb hz _ rfl (fun l z h => gc_sz rkK [] _ l z (by simp [rkK]) (fun q hq => by cases hq) h)
  rw [rkA_X] at this
  exact this
theorem kgX_kz {zs r : List Int} {k : Ky} (h : kgX zs = some (k, r)) : Kz k := by
  unfold kgX at h
  split at h
  · cases h
  rename_i g z1 e1
  split at h
  · cases h
  rename_i rr z2 e2
  split at h
  · cases h
  split at h
  · cases h
  split at h
  · cases h
  cases h
  have h1 := tF_len e1
  have h2 := tF_len e2
  exact ⟨by rw [bstr_size]; omega, by rw [bstr_size]; omega⟩
abbrev uz (V : List Nat) : List Int := V.map fun (x : Nat) => (x : Int)
structure RgG where
  i : Nat
  A : List En
  a : Nat
  x : Nat
  c : Nat
structure RnG3 where
  j : Nat
  V : List Nat
  m : Nat
  y : Nat
  c : Nat
set_option maxHeartbeats 16000000 in
set_option maxRecDepth 8000 in
theorem rbget_st (Z : List Int) (hb : Wi.By Z) (hz : Z.length ≤ 60000) : ACt Tryd.prog 34 [.slz .u8 Z, iv .i64 0] [] (fun r F' => ∃ g, RgP Z.length (rbX Z) g ∧ Vw F' r (gA g)) := by
  obtain ⟨X, hX⟩ : ∃ X, X = rbX Z := ⟨_, rfl⟩
  rw [← hX]
  have hfail : X = none → ∀ (B : Bx) (i : Int), RgP Z.length X (B, i, false) := fun h B i => by rw [h]; rfl
  unfold rbX at hX
  cases hn : nF Z with
  | none =>
    rw [hn] at hX
    have hF := hfail hX
    have cB : ACt Tryd.prog 68 [.slz .u8 Z, iv .i64 0] [] (fun r F' => ∃ g : Int × Int, r = .tup [iv .u64 g.1, iv .i64 g.2, bv false] ∧ F' = []) := number_bad Z 0 (Nat.zero_le _) hb hz hn
    refine ACt.intro Tryd.func34 rfl (by kernel_rfl) (by simp [Tryd.ntmps34]) (fun cx => ?_)
    simp only [argE, Tryd.ntmps34, Tryd.results34]
    first | (have FRx := FR; clear FRx) | have FR := fr0S
    have FA := Sm.mk (TFOuCD)
    repeat' first | (apply Sm.mk; refine Ys ?_) | refine WP.seq fun K hK => ?_ | (apply Ob.mk; exact Yo) | refine And.intro (Ob.out ?_) ?_ | refine Y1OuCD ?_ | (refine CallV.ex (F := []) (List.Perm.refl _) (cB) (fun g => Sm.out ?_)) | refine YzOuCD ?_ | (refine WP.cond rfl (fun hc => ?_) (fun hc => ?_) <;> (try simp only [ZC, reduceCtorEq, ZD] at hc) <;> (try exact absurd hc (by decide)) <;> (try (exfalso; omega))) | refine Rt.mk (And.intro (fun hg => Sm.out ?_) fun hg => Sm.out ?_) | (refine Nu.mk ?_; first | (fail_if_success have := nb1); intro nb1 | (fail_if_success have := nb2); intro nb2 | (fail_if_success have := nb3); intro nb3 | (fail_if_success have := nb4); intro nb4 | (fail_if_success have := nb5); intro nb5 | (fail_if_success have := nb6); intro nb6 | (fail_if_success have := nb7); intro nb7 | (fail_if_success have := nb8); intro nb8 | (fail_if_success have := nb9); intro nb9 | (fail_if_success have := nb10); intro nb10 | (fail_if_success have := nb11); intro nb11 | (fail_if_success have := nb12); intro nb12 | (fail_if_success have := nb13); intro nb13 | (fail_if_success have := nb14); intro nb14 | intro nbz) | (apply Yfr; refine Yf FR fun hFRb FR => ?_) | refine Two.mk ?_ ?_ | (apply Yxc; exact Yx) | refine Cs.mk fun hcs => Sm.out ?_ | go_step | omega | (simp only [maxLen_eq]; omega) | exact trivial
    (refine OutQ.drop [] _ (List.Perm.refl _) (by simp only [resv, ZK, look, loadv, loadn, loadnm, load1, load1m, hget, ↓reduceIte, Nat.reduceEqDiff, Nat.reduceAdd, Nat.reduceMul, Nat.reduceLeDiff, Nat.reduceLT, reduceCtorEq, TFOuCD, FR.out]) ?_; simp only [resv, resA, ZK, look, loadv, loadn, loadnm, load1, load1m, hget, ↓reduceIte, Nat.reduceEqDiff, Nat.reduceAdd, Nat.reduceMul, Nat.reduceLeDiff, Nat.reduceLT, reduceCtorEq, TFOuCD, FR.out]; exact ⟨_, hF ⟨[], 0⟩ 0, vw_ga vw_nil⟩)
  | some p =>
    obtain ⟨n, z1⟩ := p
    rw [hn] at hX
    have hnb := nF_bd hb hn
    have cN : ACt Tryd.prog 68 [.slz .u8 Z, iv .i64 0] [] (Fn (.tup [nu n, iv .i64 ((Z.length - z1.length : Nat) : Int), bv true])) := number_good Z z1 0 n (Nat.zero_le _) hb hz hn
    simp only at hX
    by_cases h64 : 64 < n
    · rw [if_pos h64] at hX
      have hF := hfail hX
      have k64 : decide ((n : Int) > 64) = true := decide_eq_true (by omega)
      refine ACt.intro Tryd.func34 rfl (by kernel_rfl) (by simp [Tryd.ntmps34]) (fun cx => ?_)
      simp only [argE, Tryd.ntmps34, Tryd.results34]
      first | (have FRx := FR; clear FRx) | have FR := fr0S
      have FA := Sm.mk (And.intro TFOuCD k64)
      repeat' first | (apply Sm.mk; refine Ys ?_) | refine WP.seq fun K hK => ?_ | (apply Ob.mk; exact Yo) | refine And.intro (Ob.out ?_) ?_ | refine Y1OuCD ?_ | refine Yc (c := cN) (r := ?_) | refine YzOuCD ?_ | (refine WP.cond rfl (fun hc => ?_) (fun hc => ?_) <;> (try simp only [ZC, reduceCtorEq, ZD] at hc) <;> (try exact absurd hc (by decide)) <;> (try (exfalso; omega))) | refine Rt.mk (And.intro (fun hg => Sm.out ?_) fun hg => Sm.out ?_) | (refine Nu.mk ?_; first | (fail_if_success have := nb1); intro nb1 | (fail_if_success have := nb2); intro nb2 | (fail_if_success have := nb3); intro nb3 | (fail_if_success have := nb4); intro nb4 | (fail_if_success have := nb5); intro nb5 | (fail_if_success have := nb6); intro nb6 | (fail_if_success have := nb7); intro nb7 | (fail_if_success have := nb8); intro nb8 | (fail_if_success have := nb9); intro nb9 | (fail_if_success have := nb10); intro nb10 | (fail_if_success have := nb11); intro nb11 | (fail_if_success have := nb12); intro nb12 | (fail_if_success have := nb13); intro nb13 | (fail_if_success have := nb14); intro nb14 | intro nbz) | (apply Yfr; refine Yf FR fun hFRb FR => ?_) | refine Two.mk ?_ ?_ | (apply Yxc; exact Yx) | refine Cs.mk fun hcs => Sm.out ?_ | go_step | omega | (simp only [maxLen_eq]; omega) | exact trivial
      (refine OutQ.drop [] _ (List.Perm.refl _) (by simp only [resv, ZK, look, loadv, loadn, loadnm, load1, load1m, hget, ↓reduceIte, Nat.reduceEqDiff, Nat.reduceAdd, Nat.reduceMul, Nat.reduceLeDiff, Nat.reduceLT, reduceCtorEq, TFOuCD, FR.out]) ?_; simp only [resv, resA, ZK, look, loadv, loadn, loadnm, load1, load1m, hget, ↓reduceIte, Nat.reduceEqDiff, Nat.reduceAdd, Nat.reduceMul, Nat.reduceLeDiff, Nat.reduceLT, reduceCtorEq, TFOuCD, FR.out]; exact ⟨_, hF ⟨[], 0⟩ 0, vw_ga vw_nil⟩)
    rw [if_neg h64] at hX
    have k64 : decide ((n : Int) > 64) = false := decide_eq_false (by omega)
    have hZ1 := drop_suf (Z := Z) (r := z1) (a := 0) (k := Z.length - z1.length) (by rw [List.drop_zero]; exact hnb.2.2.2)
    obtain ⟨A0, hA0⟩ : ∃ q, q = Z.length - z1.length := ⟨_, rfl⟩
    rw [← hA0] at cN hZ1
    obtain ⟨RX, hRX⟩ : ∃ q, q = rgX n [] z1 := ⟨_, rfl⟩
    rw [← hRX] at hX
    have hRX0 : rgX n [] (Z.drop A0) = RX := by rw [hZ1.1]; exact hRX.symm
    have hRn : RX = none → X = none := fun h => by rw [hX, h]
    clear hn hnb hRX
    refine ACt.intro Tryd.func34 rfl (by kernel_rfl) (by simp [Tryd.ntmps34]) (fun cx => ?_)
    simp only [argE, Tryd.ntmps34, Tryd.results34]
    first | (have FRx := FR; clear FRx) | have FR := fr0S
    have FA := Sm.mk (And.intro TFOuCD k64)
    repeat' first | (apply Sm.mk; refine Ys ?_) | refine WP.seq fun K hK => ?_ | (apply Ob.mk; exact Yo) | refine And.intro (Ob.out ?_) ?_ | refine Y1OuCD ?_ | refine Yc (c := cN) (r := ?_) | refine YzOuCD ?_ | (refine WP.cond rfl (fun hc => ?_) (fun hc => ?_) <;> (try simp only [ZC, reduceCtorEq, ZD] at hc) <;> (try exact absurd hc (by decide)) <;> (try (exfalso; omega))) | refine Rt.mk (And.intro (fun hg => Sm.out ?_) fun hg => Sm.out ?_) | (refine Nu.mk ?_; first | (fail_if_success have := nb1); intro nb1 | (fail_if_success have := nb2); intro nb2 | (fail_if_success have := nb3); intro nb3 | (fail_if_success have := nb4); intro nb4 | (fail_if_success have := nb5); intro nb5 | (fail_if_success have := nb6); intro nb6 | (fail_if_success have := nb7); intro nb7 | (fail_if_success have := nb8); intro nb8 | (fail_if_success have := nb9); intro nb9 | (fail_if_success have := nb10); intro nb10 | (fail_if_success have := nb11); intro nb11 | (fail_if_success have := nb12); intro nb12 | (fail_if_success have := nb13); intro nb13 | (fail_if_success have := nb14); intro nb14 | intro nbz) | (apply Yfr; refine Yf FR fun hFRb FR => ?_) | refine Two.mk ?_ ?_ | (apply Yxc; exact Yx) | refine Cs.mk fun hcs => Sm.out ?_ | go_step | omega | (simp only [maxLen_eq]; omega) | exact trivial
    have hne := FR.out
    have n12 : nb1 ≠ nb2 ∧ nb2 ≠ nb1 := by simp [FR.out]
    obtain ⟨x0, e1, e2⟩ : ∃ x : Nat, x ≠ nb1 ∧ x ≠ nb2 := ⟨nb1 + nb2 + 1, by omega, by omega⟩
    have e1' := Ne.symm e1
    have e2' := Ne.symm e2
    refine WP.loop (Γ := RgG) (fun g => ⟨[(11, iv .u64 (g.i : Int)), (10, pt nb2 0), (8, iv .i64 (g.a : Int)), (7, nu n), (4, pt nb1 0), (0, .slz .u8 Z)], eH g.A g.x g.c ++ [(nb2, .cells [eV g.A g.x g.c, iv .u64 0] 2 27), (nb1, .cells [.lit (.slice none 0 0), iv .u64 0] 2 27)]⟩)
      (fun g => (g.i ≤ n ∧ g.A.length = g.i ∧ g.i ≤ g.c ∧ g.c ≤ 9223372036854775807 ∧ g.a ≤ Z.length) ∧ rgX (n - g.i) g.A (Z.drop g.a) = RX ∧ (∀ e ∈ g.A, Kz e.k) ∧ (g.x ≠ nb1 ∧ nb1 ≠ g.x) ∧ (g.x ≠ nb2 ∧ nb2 ≠ g.x)) (fun g => n - g.i) ⟨0, [], A0, x0, 0⟩
      ⟨⟨Nat.zero_le _, rfl, Nat.le_refl _, by simp, hZ1.2⟩, hRX0, (fun e he => by cases he), ⟨e1, e1'⟩, ⟨e2, e2'⟩⟩ (Sub.pick (by simp [pickB, hget, hdel, FR.out, hne, eV, eH, List.nil_append]) (by simp [look, hne, eV, eH, List.nil_append])) ?_
    clear e1 e2 e1' e2' cN hZ1 hRX0 hA0
    intro ⟨i, A, a, x, c⟩ ⟨⟨hi, ha, g1, g2, g3⟩, hG, hkz, x1, x2⟩
    simp only at hi ha g1 g2 g3 hG hkz x1 x2 ⊢
    have FR : Sm (¬ ((1 : Nat) = 0)) := Sm.mk Nat.one_ne_zero
    by_cases hin : i < n
    · have ki : decide ((i : Int) < (n : Int)) = true := decide_eq_true (by omega)
      have s1 : IntKind.u64.wrap ((i : Int) + 1) = ((i + 1 : Nat) : Int) := by rw [wrap_u64 (by omega) (by omega)]; omega
      obtain ⟨m0, hm0⟩ : ∃ m, n - i = m + 1 := ⟨n - i - 1, by omega⟩
      have hm1 : n - (i + 1) = m0 := by omega
      rw [hm0] at hG
      rw [rgX] at hG
      have cK := rkey_ct Z a g3 hb hz
      unfold reX at hG
      cases hk : kgX (Z.drop a) with
      | none =>
        rw [hk] at hG cK
        have hF := hfail (hRn hG.symm)
        cases A with
        | nil =>
          simp only [eV, eH, List.nil_append]
          first | (have FRx := FR; clear FRx) | have FR := fr0S
          have FA := Sm.mk (And.intro TFOuCD (And.intro ki (And.intro x1 (And.intro x2 n12))))
          repeat' first | (apply Sm.mk; refine Ys ?_) | refine WP.seq fun K hK => ?_ | (apply Ob.mk; exact Yo) | refine And.intro (Ob.out ?_) ?_ | refine Y1OuCD ?_ | refine Yc (c := cK) (r := ?_) | refine YzOuCD ?_ | (refine WP.cond rfl (fun hc => ?_) (fun hc => ?_) <;> (try simp only [ZC, reduceCtorEq, ZD] at hc) <;> (try exact absurd hc (by decide)) <;> (try (exfalso; omega))) | refine Rt.mk (And.intro (fun hg => Sm.out ?_) fun hg => Sm.out ?_) | (refine Nu.mk ?_; first | (fail_if_success have := nb1); intro nb1 | (fail_if_success have := nb2); intro nb2 | (fail_if_success have := nb3); intro nb3 | (fail_if_success have := nb4); intro nb4 | (fail_if_success have := nb5); intro nb5 | (fail_if_success have := nb6); intro nb6 | (fail_if_success have := nb7); intro nb7 | (fail_if_success have := nb8); intro nb8 | (fail_if_success have := nb9); intro nb9 | (fail_if_success have := nb10); intro nb10 | (fail_if_success have := nb11); intro nb11 | (fail_if_success have := nb12); intro nb12 | (fail_if_success have := nb13); intro nb13 | (fail_if_success have := nb14); intro nb14 | intro nbz) | (apply Yfr; refine Yf FR fun hFRb FR => ?_) | refine Two.mk ?_ ?_ | (apply Yxc; exact Yx) | refine Cs.mk fun hcs => Sm.out ?_ | go_step | omega | (simp only [maxLen_eq]; omega) | exact trivial
          (refine OutQ.drop [] _ (List.Perm.refl _) (by simp only [resv, ZK, look, loadv, loadn, loadnm, load1, load1m, hget, ↓reduceIte, Nat.reduceEqDiff, Nat.reduceAdd, Nat.reduceMul, Nat.reduceLeDiff, Nat.reduceLT, reduceCtorEq, TFOuCD, FR.out, x1, x2, n12]) ?_; simp only [resv, resA, ZK, look, loadv, loadn, loadnm, load1, load1m, hget, ↓reduceIte, Nat.reduceEqDiff, Nat.reduceAdd, Nat.reduceMul, Nat.reduceLeDiff, Nat.reduceLT, reduceCtorEq, TFOuCD, FR.out, x1, x2, n12]; exact ⟨_, hF ⟨[], 0⟩ 0, vw_ga vw_nil⟩)
        | cons e0 rest =>
          simp only [eV, eH, List.cons_append, List.nil_append]
          first | (have FRx := FR; clear FRx) | have FR := fr0S
          have FA := Sm.mk (And.intro TFOuCD (And.intro ki (And.intro x1 (And.intro x2 n12))))
          repeat' first | (apply Sm.mk; refine Ys ?_) | refine WP.seq fun K hK => ?_ | (apply Ob.mk; exact Yo) | refine And.intro (Ob.out ?_) ?_ | refine Y1OuCD ?_ | refine Yc (c := cK) (r := ?_) | refine YzOuCD ?_ | (refine WP.cond rfl (fun hc => ?_) (fun hc => ?_) <;> (try simp only [ZC, reduceCtorEq, ZD] at hc) <;> (try exact absurd hc (by decide)) <;> (try (exfalso; omega))) | refine Rt.mk (And.intro (fun hg => Sm.out ?_) fun hg => Sm.out ?_) | (refine Nu.mk ?_; first | (fail_if_success have := nb1); intro nb1 | (fail_if_success have := nb2); intro nb2 | (fail_if_success have := nb3); intro nb3 | (fail_if_success have := nb4); intro nb4 | (fail_if_success have := nb5); intro nb5 | (fail_if_success have := nb6); intro nb6 | (fail_if_success have := nb7); intro nb7 | (fail_if_success have := nb8); intro nb8 | (fail_if_success have := nb9); intro nb9 | (fail_if_success have := nb10); intro nb10 | (fail_if_success have := nb11); intro nb11 | (fail_if_success have := nb12); intro nb12 | (fail_if_success have := nb13); intro nb13 | (fail_if_success have := nb14); intro nb14 | intro nbz) | (apply Yfr; refine Yf FR fun hFRb FR => ?_) | refine Two.mk ?_ ?_ | (apply Yxc; exact Yx) | refine Cs.mk fun hcs => Sm.out ?_ | go_step | omega | (simp only [maxLen_eq]; omega) | exact trivial
          (refine OutQ.drop [] _ (List.Perm.refl _) (by simp only [resv, ZK, look, loadv, loadn, loadnm, load1, load1m, hget, ↓reduceIte, Nat.reduceEqDiff, Nat.reduceAdd, Nat.reduceMul, Nat.reduceLeDiff, Nat.reduceLT, reduceCtorEq, TFOuCD, FR.out, x1, x2, n12]) ?_; simp only [resv, resA, ZK, look, loadv, loadn, loadnm, load1, load1m, hget, ↓reduceIte, Nat.reduceEqDiff, Nat.reduceAdd, Nat.reduceMul, Nat.reduceLeDiff, Nat.reduceLT, reduceCtorEq, TFOuCD, FR.out, x1, x2, n12]; exact ⟨_, hF ⟨[], 0⟩ 0, vw_ga vw_nil⟩)
      | some p =>
        obtain ⟨k, r1⟩ := p
        rw [hk] at hG cK
        simp only at hG cK
        have hkk := kgX_kz hk
        obtain ⟨t1, ht1⟩ := kgX_sf _ _ _ (hb.drop a) hk
        obtain ⟨d1, d2⟩ := drop_suf ht1
        obtain ⟨A1, hA1⟩ : ∃ q, q = Z.length - r1.length := ⟨_, rfl⟩
        rw [← hA1] at cK d1 d2
        clear hk ht1 hA1
        cases hkr : krB k with
        | false =>
          rw [hkr] at hG cK
          have hF := hfail (hRn hG.symm)
          obtain ⟨kg, kr, kp, ke, ks⟩ := k
          cases A with
          | nil =>
            simp only [eV, eH, List.nil_append]
            first | (have FRx := FR; clear FRx) | have FR := fr0S
            have FA := Sm.mk (And.intro TFOuCD (And.intro ki (And.intro x1 (And.intro x2 n12))))
            repeat' first | (apply Sm.mk; refine Ys ?_) | refine WP.seq fun K hK => ?_ | (apply Ob.mk; exact Yo) | refine And.intro (Ob.out ?_) ?_ | refine Y1OuCD ?_ | refine Yc (c := cK) (r := ?_) | refine YzOuCD ?_ | (refine WP.cond rfl (fun hc => ?_) (fun hc => ?_) <;> (try simp only [ZC, reduceCtorEq, ZD] at hc) <;> (try exact absurd hc (by decide)) <;> (try (exfalso; omega))) | refine Rt.mk (And.intro (fun hg => Sm.out ?_) fun hg => Sm.out ?_) | (refine Nu.mk ?_; first | (fail_if_success have := nb1); intro nb1 | (fail_if_success have := nb2); intro nb2 | (fail_if_success have := nb3); intro nb3 | (fail_if_success have := nb4); intro nb4 | (fail_if_success have := nb5); intro nb5 | (fail_if_success have := nb6); intro nb6 | (fail_if_success have := nb7); intro nb7 | (fail_if_success have := nb8); intro nb8 | (fail_if_success have := nb9); intro nb9 | (fail_if_success have := nb10); intro nb10 | (fail_if_success have := nb11); intro nb11 | (fail_if_success have := nb12); intro nb12 | (fail_if_success have := nb13); intro nb13 | (fail_if_success have := nb14); intro nb14 | intro nbz) | (apply Yfr; refine Yf FR fun hFRb FR => ?_) | refine Two.mk ?_ ?_ | (apply Yxc; exact Yx) | refine Cs.mk fun hcs => Sm.out ?_ | go_step | omega | (simp only [maxLen_eq]; omega) | exact trivial
            (refine OutQ.drop [] _ (List.Perm.refl _) (by simp only [resv, ZK, look, loadv, loadn, loadnm, load1, load1m, hget, ↓reduceIte, Nat.reduceEqDiff, Nat.reduceAdd, Nat.reduceMul, Nat.reduceLeDiff, Nat.reduceLT, reduceCtorEq, TFOuCD, FR.out, x1, x2, n12]) ?_; simp only [resv, resA, ZK, look, loadv, loadn, loadnm, load1, load1m, hget, ↓reduceIte, Nat.reduceEqDiff, Nat.reduceAdd, Nat.reduceMul, Nat.reduceLeDiff, Nat.reduceLT, reduceCtorEq, TFOuCD, FR.out, x1, x2, n12]; exact ⟨_, hF ⟨[], 0⟩ 0, vw_ga vw_nil⟩)
          | cons e0 rest =>
            simp only [eV, eH, List.cons_append, List.nil_append]
            first | (have FRx := FR; clear FRx) | have FR := fr0S
            have FA := Sm.mk (And.intro TFOuCD (And.intro ki (And.intro x1 (And.intro x2 n12))))
            repeat' first | (apply Sm.mk; refine Ys ?_) | refine WP.seq fun K hK => ?_ | (apply Ob.mk; exact Yo) | refine And.intro (Ob.out ?_) ?_ | refine Y1OuCD ?_ | refine Yc (c := cK) (r := ?_) | refine YzOuCD ?_ | (refine WP.cond rfl (fun hc => ?_) (fun hc => ?_) <;> (try simp only [ZC, reduceCtorEq, ZD] at hc) <;> (try exact absurd hc (by decide)) <;> (try (exfalso; omega))) | refine Rt.mk (And.intro (fun hg => Sm.out ?_) fun hg => Sm.out ?_) | (refine Nu.mk ?_; first | (fail_if_success have := nb1); intro nb1 | (fail_if_success have := nb2); intro nb2 | (fail_if_success have := nb3); intro nb3 | (fail_if_success have := nb4); intro nb4 | (fail_if_success have := nb5); intro nb5 | (fail_if_success have := nb6); intro nb6 | (fail_if_success have := nb7); intro nb7 | (fail_if_success have := nb8); intro nb8 | (fail_if_success have := nb9); intro nb9 | (fail_if_success have := nb10); intro nb10 | (fail_if_success have := nb11); intro nb11 | (fail_if_success have := nb12); intro nb12 | (fail_if_success have := nb13); intro nb13 | (fail_if_success have := nb14); intro nb14 | intro nbz) | (apply Yfr; refine Yf FR fun hFRb FR => ?_) | refine Two.mk ?_ ?_ | (apply Yxc; exact Yx) | refine Cs.mk fun hcs => Sm.out ?_ | go_step | omega | (simp only [maxLen_eq]; omega) | exact trivial
            (refine OutQ.drop [] _ (List.Perm.refl _) (by simp only [resv, ZK, look, loadv, loadn, loadnm, load1, load1m, hget, ↓reduceIte, Nat.reduceEqDiff, Nat.reduceAdd, Nat.reduceMul, Nat.reduceLeDiff, Nat.reduceLT, reduceCtorEq, TFOuCD, FR.out, x1, x2, n12]) ?_; simp only [resv, resA, ZK, look, loadv, loadn, loadnm, load1, load1m, hget, ↓reduceIte, Nat.reduceEqDiff, Nat.reduceAdd, Nat.reduceMul, Nat.reduceLeDiff, Nat.reduceLT, reduceCtorEq, TFOuCD, FR.out, x1, x2, n12]; exact ⟨_, hF ⟨[], 0⟩ 0, vw_ga vw_nil⟩)
        | true =>
          rw [hkr] at hG cK
          rw [if_neg (by decide)] at hG
          obtain ⟨R3, hR3⟩ : ∃ q, q = n3 3 [] r1 := ⟨_, rfl⟩
          rw [← hR3] at hG
          have hR30 : n3 3 [] (Z.drop A1) = R3 := by rw [d1]; exact hR3.symm
          have hR3n : R3 = none → RX = none := fun h => by rw [← hG, h]
          clear hR3 d1
          obtain ⟨kg, kr, kp, ke, ks⟩ := k
          cases A with
          | nil =>
            simp only [eV, eH, List.nil_append]
            first | (have FRx := FR; clear FRx) | have FR := fr0S
            have FA := Sm.mk (And.intro TFOuCD (And.intro ki (And.intro x1 (And.intro x2 n12))))
            repeat' first | (apply Sm.mk; refine Ys ?_) | refine WP.seq fun K hK => ?_ | (apply Ob.mk; exact Yo) | refine And.intro (Ob.out ?_) ?_ | refine Y1OuCD ?_ | refine Yc (c := cK) (r := ?_) | refine YzOuCD ?_ | (refine WP.cond rfl (fun hc => ?_) (fun hc => ?_) <;> (try simp only [ZC, reduceCtorEq, ZD] at hc) <;> (try exact absurd hc (by decide)) <;> (try (exfalso; omega))) | refine Rt.mk (And.intro (fun hg => Sm.out ?_) fun hg => Sm.out ?_) | (refine Nu.mk ?_; first | (fail_if_success have := nb1); intro nb1 | (fail_if_success have := nb2); intro nb2 | (fail_if_success have := nb3); intro nb3 | (fail_if_success have := nb4); intro nb4 | (fail_if_success have := nb5); intro nb5 | (fail_if_success have := nb6); intro nb6 | (fail_if_success have := nb7); intro nb7 | (fail_if_success have := nb8); intro nb8 | (fail_if_success have := nb9); intro nb9 | (fail_if_success have := nb10); intro nb10 | (fail_if_success have := nb11); intro nb11 | (fail_if_success have := nb12); intro nb12 | (fail_if_success have := nb13); intro nb13 | (fail_if_success have := nb14); intro nb14 | intro nbz) | (apply Yfr; refine Yf FR fun hFRb FR => ?_) | refine Two.mk ?_ ?_ | (apply Yxc; exact Yx) | refine Cs.mk fun hcs => Sm.out ?_ | go_step | omega | (simp only [maxLen_eq]; omega) | exact trivial
            have hne2 := FR.out
            have y1 : nb5 ≠ nb1 ∧ nb1 ≠ nb5 := by simp [FR.out]
            have y2 : nb5 ≠ nb2 ∧ nb2 ≠ nb5 := by simp [FR.out]
            have y4 : nb5 ≠ nb4 ∧ nb4 ≠ nb5 := by simp [FR.out]
            have z1 : nb4 ≠ nb1 ∧ nb1 ≠ nb4 := by simp [FR.out]
            have z2 : nb4 ≠ nb2 ∧ nb2 ≠ nb4 := by simp [FR.out]
            refine WP.loop (Γ := RnG3) (fun g => ⟨[(17, iv .i64 (g.j : Int)), (16, ms g.y 0 g.V.length g.c), (15, pt nb4 0), (13, iv .i64 (g.m : Int)), (11, iv .u64 (i : Int)), (10, pt nb2 0), (7, nu n), (4, pt nb1 0), (0, .slz .u8 Z)], [(g.y, .zs .u64 (uz g.V) g.c 25), (nb4, .cells [.lit (.string kg), .lit (.string kr), bv kp, iv .u64 ke, bv ks, iv .i64 0, iv .i64 0, iv .i64 0, bv false] 9 38), (nb2, .cells [nsl, iv .u64 0] 2 27), (nb1, .cells [.lit (.slice none 0 0), iv .u64 0] 2 27)]⟩)
              (fun g => (g.j ≤ 3 ∧ g.V.length = g.j ∧ g.j ≤ g.c ∧ g.c ≤ 9223372036854775807 ∧ g.m ≤ Z.length) ∧ n3 (3 - g.j) g.V (Z.drop g.m) = R3 ∧ (∀ v ∈ g.V, v ≤ 253404892799) ∧ (g.y ≠ nb1 ∧ nb1 ≠ g.y) ∧ (g.y ≠ nb2 ∧ nb2 ≠ g.y) ∧ (g.y ≠ nb4 ∧ nb4 ≠ g.y)) (fun g => 3 - g.j) ⟨0, [], A1, nb5, 0⟩
              ⟨⟨Nat.zero_le _, rfl, Nat.le_refl _, by simp, d2⟩, hR30, (fun e he => by cases he), y1, y2, y4⟩ (Sub.pick (by simp [pickB, hget, hdel, FR.out, x1, x2, n12, hne2, List.map_nil, List.length_nil]) (by simp [look, x1, x2, n12, hne2, List.map_nil, List.length_nil])) ?_
            intro ⟨j, V, m, y, cy⟩ ⟨⟨hj, hv, c1, c2, c3⟩, hG3, hvb, y1, y2, y4⟩
            simp only at hj hv c1 c2 c3 hG3 hvb y1 y2 y4 ⊢
            have FR : Sm (¬ ((1 : Nat) = 0)) := Sm.mk Nat.one_ne_zero
            have hUl : (uz V).length = V.length := by simp
            by_cases hj3 : j < 3
            · have kj : decide ((j : Int) < 3) = true := decide_eq_true (by omega)
              have s2 : IntKind.i64.wrap ((j : Int) + 1) = ((j + 1 : Nat) : Int) := by rw [wrap_i64 (by omega) (by omega)]; omega
              obtain ⟨q0, hq0⟩ : ∃ q, 3 - j = q + 1 := ⟨3 - j - 1, by omega⟩
              have hq1 : 3 - (j + 1) = q0 := by omega
              rw [hq0, n3] at hG3
              cases hnm : nF (Z.drop m) with
              | none =>
                rw [hnm] at hG3
                have hF := hfail (hRn (hR3n hG3.symm))
                have cB := number_bad Z m c3 hb hz hnm
                first | (have FRx := FR; clear FRx) | have FR := fr0S
                have FA := Sm.mk (And.intro TFOuCD (And.intro kj (And.intro x1 (And.intro x2 (And.intro n12 (And.intro y1 (And.intro y2 (And.intro y4 (And.intro z1 z2)))))))))
                repeat' first | (apply Sm.mk; refine Ys ?_) | refine WP.seq fun K hK => ?_ | (apply Ob.mk; exact Yo) | refine And.intro (Ob.out ?_) ?_ | refine Y1OuCD ?_ | (refine CallV.ex (F := []) (List.Perm.refl _) (cB) (fun g => Sm.out ?_)) | refine YzOuCD ?_ | (refine WP.cond rfl (fun hc => ?_) (fun hc => ?_) <;> (try simp only [ZC, reduceCtorEq, ZD] at hc) <;> (try exact absurd hc (by decide)) <;> (try (exfalso; omega))) | refine Rt.mk (And.intro (fun hg => Sm.out ?_) fun hg => Sm.out ?_) | (refine Nu.mk ?_; first | (fail_if_success have := nb1); intro nb1 | (fail_if_success have := nb2); intro nb2 | (fail_if_success have := nb3); intro nb3 | (fail_if_success have := nb4); intro nb4 | (fail_if_success have := nb5); intro nb5 | (fail_if_success have := nb6); intro nb6 | (fail_if_success have := nb7); intro nb7 | (fail_if_success have := nb8); intro nb8 | (fail_if_success have := nb9); intro nb9 | (fail_if_success have := nb10); intro nb10 | (fail_if_success have := nb11); intro nb11 | (fail_if_success have := nb12); intro nb12 | (fail_if_success have := nb13); intro nb13 | (fail_if_success have := nb14); intro nb14 | intro nbz) | (apply Yfr; refine Yf FR fun hFRb FR => ?_) | refine Two.mk ?_ ?_ | (apply Yxc; exact Yx) | refine Cs.mk fun hcs => Sm.out ?_ | go_step | omega | (simp only [maxLen_eq]; omega) | exact trivial
                (refine OutQ.drop [] _ (List.Perm.refl _) (by simp only [resv, ZK, look, loadv, loadn, loadnm, load1, load1m, hget, ↓reduceIte, Nat.reduceEqDiff, Nat.reduceAdd, Nat.reduceMul, Nat.reduceLeDiff, Nat.reduceLT, reduceCtorEq, TFOuCD, FR.out, x1, x2, n12, y1, y2, y4, z1, z2]) ?_; simp only [resv, resA, ZK, look, loadv, loadn, loadnm, load1, load1m, hget, ↓reduceIte, Nat.reduceEqDiff, Nat.reduceAdd, Nat.reduceMul, Nat.reduceLeDiff, Nat.reduceLT, reduceCtorEq, TFOuCD, FR.out, x1, x2, n12, y1, y2, y4, z1, z2]; exact ⟨_, hF ⟨[], 0⟩ 0, vw_ga vw_nil⟩)
              | some p =>
                obtain ⟨v, r⟩ := p
                rw [hnm] at hG3
                simp only at hG3
                have cN := number_good Z r m v c3 hb hz hnm
                by_cases hv9 : 253404892799 < v
                · rw [if_pos hv9] at hG3
                  have hF := hfail (hRn (hR3n hG3.symm))
                  have kv : decide ((v : Int) > 253404892799) = true := decide_eq_true (by omega)
                  first | (have FRx := FR; clear FRx) | have FR := fr0S
                  have FA := Sm.mk (And.intro TFOuCD (And.intro kj (And.intro kv (And.intro x1 (And.intro x2 (And.intro n12 (And.intro y1 (And.intro y2 (And.intro y4 (And.intro z1 z2))))))))))
                  repeat' first | (apply Sm.mk; refine Ys ?_) | refine WP.seq fun K hK => ?_ | (apply Ob.mk; exact Yo) | refine And.intro (Ob.out ?_) ?_ | refine Y1OuCD ?_ | refine Yc (c := cN) (r := ?_) | refine YzOuCD ?_ | (refine WP.cond rfl (fun hc => ?_) (fun hc => ?_) <;> (try simp only [ZC, reduceCtorEq, ZD] at hc) <;> (try exact absurd hc (by decide)) <;> (try (exfalso; omega))) | refine Rt.mk (And.intro (fun hg => Sm.out ?_) fun hg => Sm.out ?_) | (refine Nu.mk ?_; first | (fail_if_success have := nb1); intro nb1 | (fail_if_success have := nb2); intro nb2 | (fail_if_success have := nb3); intro nb3 | (fail_if_success have := nb4); intro nb4 | (fail_if_success have := nb5); intro nb5 | (fail_if_success have := nb6); intro nb6 | (fail_if_success have := nb7); intro nb7 | (fail_if_success have := nb8); intro nb8 | (fail_if_success have := nb9); intro nb9 | (fail_if_success have := nb10); intro nb10 | (fail_if_success have := nb11); intro nb11 | (fail_if_success have := nb12); intro nb12 | (fail_if_success have := nb13); intro nb13 | (fail_if_success have := nb14); intro nb14 | intro nbz) | (apply Yfr; refine Yf FR fun hFRb FR => ?_) | refine Two.mk ?_ ?_ | (apply Yxc; exact Yx) | refine Cs.mk fun hcs => Sm.out ?_ | go_step | omega | (simp only [maxLen_eq]; omega) | exact trivial
                  (refine OutQ.drop [] _ (List.Perm.refl _) (by simp only [resv, ZK, look, loadv, loadn, loadnm, load1, load1m, hget, ↓reduceIte, Nat.reduceEqDiff, Nat.reduceAdd, Nat.reduceMul, Nat.reduceLeDiff, Nat.reduceLT, reduceCtorEq, TFOuCD, FR.out, x1, x2, n12, y1, y2, y4, z1, z2]) ?_; simp only [resv, resA, ZK, look, loadv, loadn, loadnm, load1, load1m, hget, ↓reduceIte, Nat.reduceEqDiff, Nat.reduceAdd, Nat.reduceMul, Nat.reduceLeDiff, Nat.reduceLT, reduceCtorEq, TFOuCD, FR.out, x1, x2, n12, y1, y2, y4, z1, z2]; exact ⟨_, hF ⟨[], 0⟩ 0, vw_ga vw_nil⟩)
                · rw [if_neg hv9] at hG3
                  have kv : decide ((v : Int) > 253404892799) = false := decide_eq_false (by omega)
                  obtain ⟨t, ht⟩ := nF_sf _ _ _ (hb.drop m) hnm
                  obtain ⟨d3, d4⟩ := drop_suf ht
                  obtain ⟨m2, hm2⟩ : ∃ q, q = Z.length - r.length := ⟨_, rfl⟩
                  rw [← hm2] at cN d3 d4
                  have hVl : (V ++ [v]).length = j + 1 := by rw [List.length_append, hv]; rfl
                  have hVu : uz V ++ [(v : Int)] = uz (V ++ [v]) := by simp
                  have hVb : ∀ w ∈ V ++ [v], w ≤ 253404892799 := fun w hw => by
                    rcases List.mem_append.1 hw with h1 | h1
                    · exact hvb w h1
                    · rw [List.mem_singleton.1 h1]; omega
                  obtain ⟨U, hU⟩ : ∃ U, U = uz V := ⟨_, rfl⟩
                  obtain ⟨U2, hU2⟩ : ∃ U, U = uz (V ++ [v]) := ⟨_, rfl⟩
                  rw [← hU] at hUl hVu ⊢
                  rw [← hU2] at hVu
                  have hV3 : V.length + 1 = j + 1 := by omega
                  clear hnm ht hm2
                  first | (have FRx := FR; clear FRx) | have FR := fr0S
                  have FA := Sm.mk (And.intro TFOuCD (And.intro kj (And.intro kv (And.intro s2 (And.intro hUl (And.intro hVu (And.intro x1 (And.intro x2 (And.intro n12 (And.intro y1 (And.intro y2 (And.intro y4 (And.intro z1 z2)))))))))))))
                  repeat' first | (apply Sm.mk; refine Ys ?_) | refine WP.seq fun K hK => ?_ | (apply Ob.mk; exact Yo) | refine And.intro (Ob.out ?_) ?_ | refine Y1OuCD ?_ | refine Yc (c := cN) (r := ?_) | refine YzOuCD ?_ | (refine WP.cond rfl (fun hc => ?_) (fun hc => ?_) <;> (try simp only [ZC, reduceCtorEq, ZD] at hc) <;> (try exact absurd hc (by decide)) <;> (try (exfalso; omega))) | refine Rt.mk (And.intro (fun hg => Sm.out ?_) fun hg => Sm.out ?_) | (refine Nu.mk ?_; first | (fail_if_success have := nb1); intro nb1 | (fail_if_success have := nb2); intro nb2 | (fail_if_success have := nb3); intro nb3 | (fail_if_success have := nb4); intro nb4 | (fail_if_success have := nb5); intro nb5 | (fail_if_success have := nb6); intro nb6 | (fail_if_success have := nb7); intro nb7 | (fail_if_success have := nb8); intro nb8 | (fail_if_success have := nb9); intro nb9 | (fail_if_success have := nb10); intro nb10 | (fail_if_success have := nb11); intro nb11 | (fail_if_success have := nb12); intro nb12 | (fail_if_success have := nb13); intro nb13 | (fail_if_success have := nb14); intro nb14 | intro nbz) | (apply Yfr; refine Yf FR fun hFRb FR => ?_) | refine Two.mk ?_ ?_ | (apply Yxc; exact Yx) | refine Cs.mk fun hcs => Sm.out ?_ | go_step | omega | (simp only [maxLen_eq]; omega) | exact trivial
                  have hbb : j + 1 ≤ nb8 ∧ nb8 ≤ 9223372036854775807 := by have := hFRb; omega
                  have f1 : nb7 ≠ nb1 ∧ nb1 ≠ nb7 := by simp [FR.out]
                  have f2 : nb7 ≠ nb2 ∧ nb2 ≠ nb7 := by simp [FR.out]
                  have f4 : nb7 ≠ nb4 ∧ nb4 ≠ nb7 := by simp [FR.out]
                  exact ⟨⟨j + 1, V ++ [v], m2, nb7, nb8⟩, ⟨⟨by simp only; omega, hVl, by simp only; omega, hbb.2, d4⟩, by simp only; rw [hq1, d3]; exact hG3, hVb, f1, f2, f4⟩, by simp only; omega, (Sub.pick (by simp [pickB, hget, hdel, FR.out, x1, x2, n12, z1, z2, f1, f2, f4, hU2, hVl, hV3]) (by simp [look, x1, x2, n12, z1, z2, f1, f2, f4, hU2, hVl, hV3]))⟩
            · have kj : decide ((j : Int) < 3) = false := decide_eq_false (by omega)
              obtain rfl : j = 3 := by omega
              have hG3 : some (V, Z.drop m) = R3 := hG3
              rw [← hG3] at hG
              simp only at hG
              obtain ⟨v0, v1, v2, rfl⟩ : ∃ v0 v1 v2, V = [v0, v1, v2] := by
                match V, hv with
                | [v0, v1, v2], _ => exact ⟨v0, v1, v2, rfl⟩
              have hb0 := hvb v0 (by simp)
              have hb1 := hvb v1 (by simp)
              have hb2 := hvb v2 (by simp)
              have hUe : uz [v0, v1, v2] = [(v0 : Int), (v1 : Int), (v2 : Int)] := rfl
              have w0 : IntKind.i64.wrap (v0 : Int) = (v0 : Int) := wrap_i64 (by omega) (by omega)
              have w1 : IntKind.i64.wrap (v1 : Int) = (v1 : Int) := wrap_i64 (by omega) (by omega)
              have w2 : IntKind.i64.wrap (v2 : Int) = (v2 : Int) := wrap_i64 (by omega) (by omega)
              have hV3 : [v0, v1, v2].length = 3 := rfl
              clear hvb hG3 hUl
              cases hdm : Z.drop m with
              | nil =>
                rw [hdm] at hG
                have hF := hfail (hRn hG.symm)
                have hml : Z.length ≤ m := List.drop_eq_nil_iff.1 hdm
                have km : decide ((m : Int) ≥ (Z.length : Int)) = true := decide_eq_true (by omega)
                first | (have FRx := FR; clear FRx) | have FR := fr0S
                have FA := Sm.mk (And.intro TFOuCD (And.intro kj (And.intro km (And.intro hUe (And.intro hV3 (And.intro x1 (And.intro x2 (And.intro n12 (And.intro y1 (And.intro y2 (And.intro y4 (And.intro z1 z2))))))))))))
                repeat' first | (apply Sm.mk; refine Ys ?_) | refine WP.seq fun K hK => ?_ | (apply Ob.mk; exact Yo) | refine And.intro (Ob.out ?_) ?_ | refine Y1OuCD ?_ | refine YzOuCD ?_ | (refine WP.cond rfl (fun hc => ?_) (fun hc => ?_) <;> (try simp only [ZC, reduceCtorEq, ZD] at hc) <;> (try exact absurd hc (by decide)) <;> (try (exfalso; omega))) | refine Rt.mk (And.intro (fun hg => Sm.out ?_) fun hg => Sm.out ?_) | (refine Nu.mk ?_; first | (fail_if_success have := nb1); intro nb1 | (fail_if_success have := nb2); intro nb2 | (fail_if_success have := nb3); intro nb3 | (fail_if_success have := nb4); intro nb4 | (fail_if_success have := nb5); intro nb5 | (fail_if_success have := nb6); intro nb6 | (fail_if_success have := nb7); intro nb7 | (fail_if_success have := nb8); intro nb8 | (fail_if_success have := nb9); intro nb9 | (fail_if_success have := nb10); intro nb10 | (fail_if_success have := nb11); intro nb11 | (fail_if_success have := nb12); intro nb12 | (fail_if_success have := nb13); intro nb13 | (fail_if_success have := nb14); intro nb14 | intro nbz) | (apply Yfr; refine Yf FR fun hFRb FR => ?_) | refine Two.mk ?_ ?_ | (apply Yxc; exact Yx) | refine Cs.mk fun hcs => Sm.out ?_ | go_step | omega | (simp only [maxLen_eq]; omega) | exact trivial
                (refine OutQ.drop [] _ (List.Perm.refl _) (by simp only [resv, ZK, look, loadv, loadn, loadnm, load1, load1m, hget, ↓reduceIte, Nat.reduceEqDiff, Nat.reduceAdd, Nat.reduceMul, Nat.reduceLeDiff, Nat.reduceLT, reduceCtorEq, TFOuCD, FR.out, x1, x2, n12, y1, y2, y4, z1, z2]) ?_; simp only [resv, resA, ZK, look, loadv, loadn, loadnm, load1, load1m, hget, ↓reduceIte, Nat.reduceEqDiff, Nat.reduceAdd, Nat.reduceMul, Nat.reduceLeDiff, Nat.reduceLT, reduceCtorEq, TFOuCD, FR.out, x1, x2, n12, y1, y2, y4, z1, z2]; exact ⟨_, hF ⟨[], 0⟩ 0, vw_ga vw_nil⟩)
              | cons h t =>
                rw [hdm] at hG
                have hml : m < Z.length := by
                  rcases Nat.lt_or_ge m Z.length with h1 | h1
                  · exact h1
                  · rw [List.drop_eq_nil_of_le h1] at hdm; cases hdm
                have km : decide ((m : Int) ≥ (Z.length : Int)) = false := decide_eq_false (by omega)
                have hdt : Z.drop (m + 1) = t := by
                  have : (Z.drop m).drop 1 = t := by rw [hdm]; rfl
                  rwa [List.drop_drop] at this
                have tm : ((m : Nat) : Int).toNat = m := by omega
                have hz0 : Z[m]? = some h := by
                  have : (Z.drop m)[0]? = some h := by rw [hdm]; rfl
                  rwa [List.getElem?_drop] at this
                have hz1 : Z.getD m 0 = h := by rw [List.getD_eq_getElem?_getD, hz0]; rfl
                have hz2 : Z[m]?.getD 0 = h := by rw [hz0]; rfl
                by_cases hh : 1 < h
                · have hG : none = RX := by rw [← hG]; show none = _; simp only [fF, if_pos hh]
                  have hF := hfail (hRn hG.symm)
                  have kh : decide (h > 1) = true := decide_eq_true hh
                  first | (have FRx := FR; clear FRx) | have FR := fr0S
                  have FA := Sm.mk (And.intro TFOuCD (And.intro kj (And.intro km (And.intro kh (And.intro tm (And.intro hml (And.intro hz1 (And.intro hz2 (And.intro hUe (And.intro hV3 (And.intro x1 (And.intro x2 (And.intro n12 (And.intro y1 (And.intro y2 (And.intro y4 (And.intro z1 z2)))))))))))))))))
                  repeat' first | (apply Sm.mk; refine YsOuCD0 ?_) | refine WP.seq fun K hK => ?_ | (apply Ob.mk; exact Yo) | refine And.intro (Ob.out ?_) ?_ | refine Y1OuCD ?_ | refine YzOuCD ?_ | (refine WP.cond rfl (fun hc => ?_) (fun hc => ?_) <;> (try simp only [ZC, reduceCtorEq, ZD] at hc) <;> (try exact absurd hc (by decide)) <;> (try (exfalso; omega))) | refine Rt.mk (And.intro (fun hg => Sm.out ?_) fun hg => Sm.out ?_) | (refine Nu.mk ?_; first | (fail_if_success have := nb1); intro nb1 | (fail_if_success have := nb2); intro nb2 | (fail_if_success have := nb3); intro nb3 | (fail_if_success have := nb4); intro nb4 | (fail_if_success have := nb5); intro nb5 | (fail_if_success have := nb6); intro nb6 | (fail_if_success have := nb7); intro nb7 | (fail_if_success have := nb8); intro nb8 | (fail_if_success have := nb9); intro nb9 | (fail_if_success have := nb10); intro nb10 | (fail_if_success have := nb11); intro nb11 | (fail_if_success have := nb12); intro nb12 | (fail_if_success have := nb13); intro nb13 | (fail_if_success have := nb14); intro nb14 | intro nbz) | (apply Yfr; refine Yf FR fun hFRb FR => ?_) | refine Two.mk ?_ ?_ | (apply Yxc; exact Yx) | refine Cs.mk fun hcs => Sm.out ?_ | go_step | omega | (simp only [maxLen_eq]; omega) | exact trivial
                  (refine OutQ.drop [] _ (List.Perm.refl _) (by simp only [resv, ZK, look, loadv, loadn, loadnm, load1, load1m, hget, ↓reduceIte, Nat.reduceEqDiff, Nat.reduceAdd, Nat.reduceMul, Nat.reduceLeDiff, Nat.reduceLT, reduceCtorEq, TFOuCD, FR.out, x1, x2, n12, y1, y2, y4, z1, z2]) ?_; simp only [resv, resA, ZK, look, loadv, loadn, loadnm, load1, load1m, hget, ↓reduceIte, Nat.reduceEqDiff, Nat.reduceAdd, Nat.reduceMul, Nat.reduceLeDiff, Nat.reduceLT, reduceCtorEq, TFOuCD, FR.out, x1, x2, n12, y1, y2, y4, z1, z2]; exact ⟨_, hF ⟨[], 0⟩ 0, vw_ga vw_nil⟩)
                · have kh : decide (h > 1) = false := decide_eq_false hh
                  have hG : rgX m0 ([] ++ [⟨⟨kg, kr, kp, ke, ks⟩, (v0 : Int), (v1 : Int), (v2 : Int), h == 1⟩]) t = RX := by rw [← hG]; simp only [fF, if_neg hh]; rfl
                  have s3 : IntKind.i64.wrap ((m : Int) + 1) = ((m + 1 : Nat) : Int) := by rw [wrap_i64 (by omega) (by omega)]; omega
                  obtain ⟨fl, hfl⟩ : ∃ fl, (h == 1) = fl := ⟨_, rfl⟩
                  rw [hfl] at hG
                  have hkz2 : ∀ e ∈ [] ++ [(⟨⟨kg, kr, kp, ke, ks⟩, (v0 : Int), (v1 : Int), (v2 : Int), fl⟩ : En)], Kz e.k := fun e he => by
                    rcases List.mem_append.1 he with h1 | h1
                    · exact hkz e h1
                    · rw [List.mem_singleton.1 h1]; exact hkk
                  have hAl1 : ([] ++ [(⟨⟨kg, kr, kp, ke, ks⟩, (v0 : Int), (v1 : Int), (v2 : Int), fl⟩ : En)]).length = i + 1 := by rw [List.length_append, show ([] : List En).length = i from ha]; rfl
                  clear hz0
                  have hi0 : i = 0 := ha.symm
                  first | (have FRx := FR; clear FRx) | have FR := fr0S
                  have FA := Sm.mk (And.intro TFOuCD (And.intro kj (And.intro km (And.intro kh (And.intro tm (And.intro hml (And.intro hz1 (And.intro hz2 (And.intro hUe (And.intro hV3 (And.intro w0 (And.intro w1 (And.intro w2 (And.intro s1 (And.intro s3 (And.intro hfl (And.intro x1 (And.intro x2 (And.intro n12 (And.intro y1 (And.intro y2 (And.intro y4 (And.intro z1 z2)))))))))))))))))))))))
                  repeat' first | (apply Sm.mk; refine YsOuCD0 ?_) | refine WP.seq fun K hK => ?_ | (apply Ob.mk; exact Yo) | refine And.intro (Ob.out ?_) ?_ | refine Y1OuCD ?_ | refine YzOuCD ?_ | (refine WP.cond rfl (fun hc => ?_) (fun hc => ?_) <;> (try simp only [ZC, reduceCtorEq, ZD] at hc) <;> (try exact absurd hc (by decide)) <;> (try (exfalso; omega))) | refine Rt.mk (And.intro (fun hg => Sm.out ?_) fun hg => Sm.out ?_) | (refine Nu.mk ?_; first | (fail_if_success have := nb1); intro nb1 | (fail_if_success have := nb2); intro nb2 | (fail_if_success have := nb3); intro nb3 | (fail_if_success have := nb4); intro nb4 | (fail_if_success have := nb5); intro nb5 | (fail_if_success have := nb6); intro nb6 | (fail_if_success have := nb7); intro nb7 | (fail_if_success have := nb8); intro nb8 | (fail_if_success have := nb9); intro nb9 | (fail_if_success have := nb10); intro nb10 | (fail_if_success have := nb11); intro nb11 | (fail_if_success have := nb12); intro nb12 | (fail_if_success have := nb13); intro nb13 | (fail_if_success have := nb14); intro nb14 | intro nbz) | (apply Yfr; refine Yf FR fun hFRb FR => ?_) | refine Two.mk ?_ ?_ | (apply Yxc; exact Yx) | refine Cs.mk fun hcs => Sm.out ?_ | go_step | omega | (simp only [maxLen_eq]; omega) | exact trivial
                  have hbb : 1 ≤ nb8 ∧ nb8 ≤ 9223372036854775807 := by have := hFRb; omega
                  have f1 : nb7 ≠ nb1 ∧ nb1 ≠ nb7 := by simp [FR.out]
                  have f2 : nb7 ≠ nb2 ∧ nb2 ≠ nb7 := by simp [FR.out]
                  have hkc : ecs [(⟨⟨kg, kr, kp, ke, ks⟩, (v0 : Int), (v1 : Int), (v2 : Int), fl⟩ : En)] = [.lit (.string kg), .lit (.string kr), bv kp, iv .u64 ke, bv ks, iv .i64 (v0 : Int), iv .i64 (v1 : Int), iv .i64 (v2 : Int), bv fl] := rfl
                  exact ⟨⟨i + 1, [(⟨⟨kg, kr, kp, ke, ks⟩, (v0 : Int), (v1 : Int), (v2 : Int), fl⟩ : En)], m + 1, nb7, nb8⟩, ⟨⟨by simp only; omega, hAl1, by simp only; omega, hbb.2, by simp only; omega⟩, by simp only; rw [hm1, hdt]; exact hG, hkz2, f1, f2⟩, by simp only; omega, (Sub.pick (by simp [pickB, hget, hdel, FR.out, x1, x2, n12, y1, y2, y4, z1, z2, f1, f2, hkc, hfl, eV, eH, List.nil_append, List.length_nil, Nat.zero_add]) (by simp [look, x1, x2, n12, y1, y2, y4, z1, z2, f1, f2, hkc, hfl, eV, eH, List.nil_append, List.length_nil, Nat.zero_add]))⟩
          | cons e0 rest =>
            simp only [eV, eH, List.cons_append, List.nil_append]
            have hAl := ecs_len (e0 :: rest)
            have hAo := ecs_one (e0 :: rest)
            have hAa := fun e => ecs_app (e0 :: rest) [e]
            obtain ⟨C1, hC1⟩ : ∃ q, q = ecs (e0 :: rest) := ⟨_, rfl⟩
            rw [← hC1] at hAl hAo hAa ⊢
            rw [List.length_cons] at hAl ha
            first | (have FRx := FR; clear FRx) | have FR := fr0S
            have FA := Sm.mk (And.intro TFOuCD (And.intro ki (And.intro x1 (And.intro x2 n12))))
            repeat' first | (apply Sm.mk; refine Ys ?_) | refine WP.seq fun K hK => ?_ | (apply Ob.mk; exact Yo) | refine And.intro (Ob.out ?_) ?_ | refine Y1OuCD ?_ | refine Yc (c := cK) (r := ?_) | refine YzOuCD ?_ | (refine WP.cond rfl (fun hc => ?_) (fun hc => ?_) <;> (try simp only [ZC, reduceCtorEq, ZD] at hc) <;> (try exact absurd hc (by decide)) <;> (try (exfalso; omega))) | refine Rt.mk (And.intro (fun hg => Sm.out ?_) fun hg => Sm.out ?_) | (refine Nu.mk ?_; first | (fail_if_success have := nb1); intro nb1 | (fail_if_success have := nb2); intro nb2 | (fail_if_success have := nb3); intro nb3 | (fail_if_success have := nb4); intro nb4 | (fail_if_success have := nb5); intro nb5 | (fail_if_success have := nb6); intro nb6 | (fail_if_success have := nb7); intro nb7 | (fail_if_success have := nb8); intro nb8 | (fail_if_success have := nb9); intro nb9 | (fail_if_success have := nb10); intro nb10 | (fail_if_success have := nb11); intro nb11 | (fail_if_success have := nb12); intro nb12 | (fail_if_success have := nb13); intro nb13 | (fail_if_success have := nb14); intro nb14 | intro nbz) | (apply Yfr; refine Yf FR fun hFRb FR => ?_) | refine Two.mk ?_ ?_ | (apply Yxc; exact Yx) | refine Cs.mk fun hcs => Sm.out ?_ | go_step | omega | (simp only [maxLen_eq]; omega) | exact trivial
            have hne2 := FR.out
            have y1 : nb5 ≠ nb1 ∧ nb1 ≠ nb5 := by simp [FR.out]
            have y2 : nb5 ≠ nb2 ∧ nb2 ≠ nb5 := by simp [FR.out]
            have y4 : nb5 ≠ nb4 ∧ nb4 ≠ nb5 := by simp [FR.out]
            have y5 : nb5 ≠ x ∧ x ≠ nb5 := by simp [FR.out]
            have z1 : nb4 ≠ nb1 ∧ nb1 ≠ nb4 := by simp [FR.out]
            have z2 : nb4 ≠ nb2 ∧ nb2 ≠ nb4 := by simp [FR.out]
            have z3 : nb4 ≠ x ∧ x ≠ nb4 := by simp [FR.out]
            refine WP.loop (Γ := RnG3) (fun g => ⟨[(17, iv .i64 (g.j : Int)), (16, ms g.y 0 g.V.length g.c), (15, pt nb4 0), (13, iv .i64 (g.m : Int)), (11, iv .u64 (i : Int)), (10, pt nb2 0), (7, nu n), (4, pt nb1 0), (0, .slz .u8 Z)], [(g.y, .zs .u64 (uz g.V) g.c 25), (nb4, .cells [.lit (.string kg), .lit (.string kr), bv kp, iv .u64 ke, bv ks, iv .i64 0, iv .i64 0, iv .i64 0, bv false] 9 38), (x, .cells C1 (c * 9) 38), (nb2, .cells [ms x 0 (rest.length + 1) c, iv .u64 0] 2 27), (nb1, .cells [.lit (.slice none 0 0), iv .u64 0] 2 27)]⟩)
              (fun g => (g.j ≤ 3 ∧ g.V.length = g.j ∧ g.j ≤ g.c ∧ g.c ≤ 9223372036854775807 ∧ g.m ≤ Z.length) ∧ n3 (3 - g.j) g.V (Z.drop g.m) = R3 ∧ (∀ v ∈ g.V, v ≤ 253404892799) ∧ (g.y ≠ nb1 ∧ nb1 ≠ g.y) ∧ (g.y ≠ nb2 ∧ nb2 ≠ g.y) ∧ (g.y ≠ nb4 ∧ nb4 ≠ g.y) ∧ (g.y ≠ x ∧ x ≠ g.y)) (fun g => 3 - g.j) ⟨0, [], A1, nb5, 0⟩
              ⟨⟨Nat.zero_le _, rfl, Nat.le_refl _, by simp, d2⟩, hR30, (fun e he => by cases he), y1, y2, y4, y5⟩ (Sub.pick (by simp [pickB, hget, hdel, FR.out, x1, x2, n12, hne2, List.map_nil, List.length_nil]) (by simp [look, x1, x2, n12, hne2, List.map_nil, List.length_nil])) ?_
            intro ⟨j, V, m, y, cy⟩ ⟨⟨hj, hv, c1, c2, c3⟩, hG3, hvb, y1, y2, y4, y5⟩
            simp only at hj hv c1 c2 c3 hG3 hvb y1 y2 y4 y5 ⊢
            have FR : Sm (¬ ((1 : Nat) = 0)) := Sm.mk Nat.one_ne_zero
            have hUl : (uz V).length = V.length := by simp
            by_cases hj3 : j < 3
            · have kj : decide ((j : Int) < 3) = true := decide_eq_true (by omega)
              have s2 : IntKind.i64.wrap ((j : Int) + 1) = ((j + 1 : Nat) : Int) := by rw [wrap_i64 (by omega) (by omega)]; omega
              obtain ⟨q0, hq0⟩ : ∃ q, 3 - j = q + 1 := ⟨3 - j - 1, by omega⟩
              have hq1 : 3 - (j + 1) = q0 := by omega
              rw [hq0, n3] at hG3
              cases hnm : nF (Z.drop m) with
              | none =>
                rw [hnm] at hG3
                have hF := hfail (hRn (hR3n hG3.symm))
                have cB := number_bad Z m c3 hb hz hnm
                first | (have FRx := FR; clear FRx) | have FR := fr0S
                have FA := Sm.mk (And.intro TFOuCD (And.intro kj (And.intro x1 (And.intro x2 (And.intro n12 (And.intro y1 (And.intro y2 (And.intro y4 (And.intro y5 (And.intro z1 (And.intro z2 z3)))))))))))
                repeat' first | (apply Sm.mk; refine Ys ?_) | refine WP.seq fun K hK => ?_ | (apply Ob.mk; exact Yo) | refine And.intro (Ob.out ?_) ?_ | refine Y1OuCD ?_ | (refine CallV.ex (F := []) (List.Perm.refl _) (cB) (fun g => Sm.out ?_)) | refine YzOuCD ?_ | (refine WP.cond rfl (fun hc => ?_) (fun hc => ?_) <;> (try simp only [ZC, reduceCtorEq, ZD] at hc) <;> (try exact absurd hc (by decide)) <;> (try (exfalso; omega))) | refine Rt.mk (And.intro (fun hg => Sm.out ?_) fun hg => Sm.out ?_) | (refine Nu.mk ?_; first | (fail_if_success have := nb1); intro nb1 | (fail_if_success have := nb2); intro nb2 | (fail_if_success have := nb3); intro nb3 | (fail_if_success have := nb4); intro nb4 | (fail_if_success have := nb5); intro nb5 | (fail_if_success have := nb6); intro nb6 | (fail_if_success have := nb7); intro nb7 | (fail_if_success have := nb8); intro nb8 | (fail_if_success have := nb9); intro nb9 | (fail_if_success have := nb10); intro nb10 | (fail_if_success have := nb11); intro nb11 | (fail_if_success have := nb12); intro nb12 | (fail_if_success have := nb13); intro nb13 | (fail_if_success have := nb14); intro nb14 | intro nbz) | (apply Yfr; refine Yf FR fun hFRb FR => ?_) | refine Two.mk ?_ ?_ | (apply Yxc; exact Yx) | refine Cs.mk fun hcs => Sm.out ?_ | go_step | omega | (simp only [maxLen_eq]; omega) | exact trivial
                (refine OutQ.drop [] _ (List.Perm.refl _) (by simp only [resv, ZK, look, loadv, loadn, loadnm, load1, load1m, hget, ↓reduceIte, Nat.reduceEqDiff, Nat.reduceAdd, Nat.reduceMul, Nat.reduceLeDiff, Nat.reduceLT, reduceCtorEq, TFOuCD, FR.out, x1, x2, n12, y1, y2, y4, y5, z1, z2, z3]) ?_; simp only [resv, resA, ZK, look, loadv, loadn, loadnm, load1, load1m, hget, ↓reduceIte, Nat.reduceEqDiff, Nat.reduceAdd, Nat.reduceMul, Nat.reduceLeDiff, Nat.reduceLT, reduceCtorEq, TFOuCD, FR.out, x1, x2, n12, y1, y2, y4, y5, z1, z2, z3]; exact ⟨_, hF ⟨[], 0⟩ 0, vw_ga vw_nil⟩)
              | some p =>
                obtain ⟨v, r⟩ := p
                rw [hnm] at hG3
                simp only at hG3
                have cN := number_good Z r m v c3 hb hz hnm
                by_cases hv9 : 253404892799 < v
                · rw [if_pos hv9] at hG3
                  have hF := hfail (hRn (hR3n hG3.symm))
                  have kv : decide ((v : Int) > 253404892799) = true := decide_eq_true (by omega)
                  first | (have FRx := FR; clear FRx) | have FR := fr0S
                  have FA := Sm.mk (And.intro TFOuCD (And.intro kj (And.intro kv (And.intro x1 (And.intro x2 (And.intro n12 (And.intro y1 (And.intro y2 (And.intro y4 (And.intro y5 (And.intro z1 (And.intro z2 z3))))))))))))
                  repeat' first | (apply Sm.mk; refine Ys ?_) | refine WP.seq fun K hK => ?_ | (apply Ob.mk; exact Yo) | refine And.intro (Ob.out ?_) ?_ | refine Y1OuCD ?_ | refine Yc (c := cN) (r := ?_) | refine YzOuCD ?_ | (refine WP.cond rfl (fun hc => ?_) (fun hc => ?_) <;> (try simp only [ZC, reduceCtorEq, ZD] at hc) <;> (try exact absurd hc (by decide)) <;> (try (exfalso; omega))) | refine Rt.mk (And.intro (fun hg => Sm.out ?_) fun hg => Sm.out ?_) | (refine Nu.mk ?_; first | (fail_if_success have := nb1); intro nb1 | (fail_if_success have := nb2); intro nb2 | (fail_if_success have := nb3); intro nb3 | (fail_if_success have := nb4); intro nb4 | (fail_if_success have := nb5); intro nb5 | (fail_if_success have := nb6); intro nb6 | (fail_if_success have := nb7); intro nb7 | (fail_if_success have := nb8); intro nb8 | (fail_if_success have := nb9); intro nb9 | (fail_if_success have := nb10); intro nb10 | (fail_if_success have := nb11); intro nb11 | (fail_if_success have := nb12); intro nb12 | (fail_if_success have := nb13); intro nb13 | (fail_if_success have := nb14); intro nb14 | intro nbz) | (apply Yfr; refine Yf FR fun hFRb FR => ?_) | refine Two.mk ?_ ?_ | (apply Yxc; exact Yx) | refine Cs.mk fun hcs => Sm.out ?_ | go_step | omega | (simp only [maxLen_eq]; omega) | exact trivial
                  (refine OutQ.drop [] _ (List.Perm.refl _) (by simp only [resv, ZK, look, loadv, loadn, loadnm, load1, load1m, hget, ↓reduceIte, Nat.reduceEqDiff, Nat.reduceAdd, Nat.reduceMul, Nat.reduceLeDiff, Nat.reduceLT, reduceCtorEq, TFOuCD, FR.out, x1, x2, n12, y1, y2, y4, y5, z1, z2, z3]) ?_; simp only [resv, resA, ZK, look, loadv, loadn, loadnm, load1, load1m, hget, ↓reduceIte, Nat.reduceEqDiff, Nat.reduceAdd, Nat.reduceMul, Nat.reduceLeDiff, Nat.reduceLT, reduceCtorEq, TFOuCD, FR.out, x1, x2, n12, y1, y2, y4, y5, z1, z2, z3]; exact ⟨_, hF ⟨[], 0⟩ 0, vw_ga vw_nil⟩)
                · rw [if_neg hv9] at hG3
                  have kv : decide ((v : Int) > 253404892799) = false := decide_eq_false (by omega)
                  obtain ⟨t, ht⟩ := nF_sf _ _ _ (hb.drop m) hnm
                  obtain ⟨d3, d4⟩ := drop_suf ht
                  obtain ⟨m2, hm2⟩ : ∃ q, q = Z.length - r.length := ⟨_, rfl⟩
                  rw [← hm2] at cN d3 d4
                  have hVl : (V ++ [v]).length = j + 1 := by rw [List.length_append, hv]; rfl
                  have hVu : uz V ++ [(v : Int)] = uz (V ++ [v]) := by simp
                  have hVb : ∀ w ∈ V ++ [v], w ≤ 253404892799 := fun w hw => by
                    rcases List.mem_append.1 hw with h1 | h1
                    · exact hvb w h1
                    · rw [List.mem_singleton.1 h1]; omega
                  obtain ⟨U, hU⟩ : ∃ U, U = uz V := ⟨_, rfl⟩
                  obtain ⟨U2, hU2⟩ : ∃ U, U = uz (V ++ [v]) := ⟨_, rfl⟩
                  rw [← hU] at hUl hVu ⊢
                  rw [← hU2] at hVu
                  have hV3 : V.length + 1 = j + 1 := by omega
                  clear hnm ht hm2
                  first | (have FRx := FR; clear FRx) | have FR := fr0S
                  have FA := Sm.mk (And.intro TFOuCD (And.intro kj (And.intro kv (And.intro s2 (And.intro hUl (And.intro hVu (And.intro x1 (And.intro x2 (And.intro n12 (And.intro y1 (And.intro y2 (And.intro y4 (And.intro y5 (And.intro z1 (And.intro z2 z3)))))))))))))))
                  repeat' first | (apply Sm.mk; refine Ys ?_) | refine WP.seq fun K hK => ?_ | (apply Ob.mk; exact Yo) | refine And.intro (Ob.out ?_) ?_ | refine Y1OuCD ?_ | refine Yc (c := cN) (r := ?_) | refine YzOuCD ?_ | (refine WP.cond rfl (fun hc => ?_) (fun hc => ?_) <;> (try simp only [ZC, reduceCtorEq, ZD] at hc) <;> (try exact absurd hc (by decide)) <;> (try (exfalso; omega))) | refine Rt.mk (And.intro (fun hg => Sm.out ?_) fun hg => Sm.out ?_) | (refine Nu.mk ?_; first | (fail_if_success have := nb1); intro nb1 | (fail_if_success have := nb2); intro nb2 | (fail_if_success have := nb3); intro nb3 | (fail_if_success have := nb4); intro nb4 | (fail_if_success have := nb5); intro nb5 | (fail_if_success have := nb6); intro nb6 | (fail_if_success have := nb7); intro nb7 | (fail_if_success have := nb8); intro nb8 | (fail_if_success have := nb9); intro nb9 | (fail_if_success have := nb10); intro nb10 | (fail_if_success have := nb11); intro nb11 | (fail_if_success have := nb12); intro nb12 | (fail_if_success have := nb13); intro nb13 | (fail_if_success have := nb14); intro nb14 | intro nbz) | (apply Yfr; refine Yf FR fun hFRb FR => ?_) | refine Two.mk ?_ ?_ | (apply Yxc; exact Yx) | refine Cs.mk fun hcs => Sm.out ?_ | go_step | omega | (simp only [maxLen_eq]; omega) | exact trivial
                  have hbb : j + 1 ≤ nb8 ∧ nb8 ≤ 9223372036854775807 := by have := hFRb; omega
                  have f1 : nb7 ≠ nb1 ∧ nb1 ≠ nb7 := by simp [FR.out]
                  have f2 : nb7 ≠ nb2 ∧ nb2 ≠ nb7 := by simp [FR.out]
                  have f4 : nb7 ≠ nb4 ∧ nb4 ≠ nb7 := by simp [FR.out]
                  have f5 : nb7 ≠ x ∧ x ≠ nb7 := by simp [FR.out]
                  exact ⟨⟨j + 1, V ++ [v], m2, nb7, nb8⟩, ⟨⟨by simp only; omega, hVl, by simp only; omega, hbb.2, d4⟩, by simp only; rw [hq1, d3]; exact hG3, hVb, f1, f2, f4, f5⟩, by simp only; omega, (Sub.pick (by simp [pickB, hget, hdel, FR.out, x1, x2, n12, z1, z2, z3, f1, f2, f4, f5, hU2, hVl, hV3]) (by simp [look, x1, x2, n12, z1, z2, z3, f1, f2, f4, f5, hU2, hVl, hV3]))⟩
            · have kj : decide ((j : Int) < 3) = false := decide_eq_false (by omega)
              obtain rfl : j = 3 := by omega
              have hG3 : some (V, Z.drop m) = R3 := hG3
              rw [← hG3] at hG
              simp only at hG
              obtain ⟨v0, v1, v2, rfl⟩ : ∃ v0 v1 v2, V = [v0, v1, v2] := by
                match V, hv with
                | [v0, v1, v2], _ => exact ⟨v0, v1, v2, rfl⟩
              have hb0 := hvb v0 (by simp)
              have hb1 := hvb v1 (by simp)
              have hb2 := hvb v2 (by simp)
              have hUe : uz [v0, v1, v2] = [(v0 : Int), (v1 : Int), (v2 : Int)] := rfl
              have w0 : IntKind.i64.wrap (v0 : Int) = (v0 : Int) := wrap_i64 (by omega) (by omega)
              have w1 : IntKind.i64.wrap (v1 : Int) = (v1 : Int) := wrap_i64 (by omega) (by omega)
              have w2 : IntKind.i64.wrap (v2 : Int) = (v2 : Int) := wrap_i64 (by omega) (by omega)
              have hV3 : [v0, v1, v2].length = 3 := rfl
              clear hvb hG3 hUl
              cases hdm : Z.drop m with
              | nil =>
                rw [hdm] at hG
                have hF := hfail (hRn hG.symm)
                have hml : Z.length ≤ m := List.drop_eq_nil_iff.1 hdm
                have km : decide ((m : Int) ≥ (Z.length : Int)) = true := decide_eq_true (by omega)
                first | (have FRx := FR; clear FRx) | have FR := fr0S
                have FA := Sm.mk (And.intro TFOuCD (And.intro kj (And.intro km (And.intro hUe (And.intro hV3 (And.intro x1 (And.intro x2 (And.intro n12 (And.intro y1 (And.intro y2 (And.intro y4 (And.intro y5 (And.intro z1 (And.intro z2 z3))))))))))))))
                repeat' first | (apply Sm.mk; refine Ys ?_) | refine WP.seq fun K hK => ?_ | (apply Ob.mk; exact Yo) | refine And.intro (Ob.out ?_) ?_ | refine Y1OuCD ?_ | refine YzOuCD ?_ | (refine WP.cond rfl (fun hc => ?_) (fun hc => ?_) <;> (try simp only [ZC, reduceCtorEq, ZD] at hc) <;> (try exact absurd hc (by decide)) <;> (try (exfalso; omega))) | refine Rt.mk (And.intro (fun hg => Sm.out ?_) fun hg => Sm.out ?_) | (refine Nu.mk ?_; first | (fail_if_success have := nb1); intro nb1 | (fail_if_success have := nb2); intro nb2 | (fail_if_success have := nb3); intro nb3 | (fail_if_success have := nb4); intro nb4 | (fail_if_success have := nb5); intro nb5 | (fail_if_success have := nb6); intro nb6 | (fail_if_success have := nb7); intro nb7 | (fail_if_success have := nb8); intro nb8 | (fail_if_success have := nb9); intro nb9 | (fail_if_success have := nb10); intro nb10 | (fail_if_success have := nb11); intro nb11 | (fail_if_success have := nb12); intro nb12 | (fail_if_success have := nb13); intro nb13 | (fail_if_success have := nb14); intro nb14 | intro nbz) | (apply Yfr; refine Yf FR fun hFRb FR => ?_) | refine Two.mk ?_ ?_ | (apply Yxc; exact Yx) | refine Cs.mk fun hcs => Sm.out ?_ | go_step | omega | (simp only [maxLen_eq]; omega) | exact trivial
                (refine OutQ.drop [] _ (List.Perm.refl _) (by simp only [resv, ZK, look, loadv, loadn, loadnm, load1, load1m, hget, ↓reduceIte, Nat.reduceEqDiff, Nat.reduceAdd, Nat.reduceMul, Nat.reduceLeDiff, Nat.reduceLT, reduceCtorEq, TFOuCD, FR.out, x1, x2, n12, y1, y2, y4, y5, z1, z2, z3]) ?_; simp only [resv, resA, ZK, look, loadv, loadn, loadnm, load1, load1m, hget, ↓reduceIte, Nat.reduceEqDiff, Nat.reduceAdd, Nat.reduceMul, Nat.reduceLeDiff, Nat.reduceLT, reduceCtorEq, TFOuCD, FR.out, x1, x2, n12, y1, y2, y4, y5, z1, z2, z3]; exact ⟨_, hF ⟨[], 0⟩ 0, vw_ga vw_nil⟩)
              | cons h t =>
                rw [hdm] at hG
                have hml : m < Z.length := by
                  rcases Nat.lt_or_ge m Z.length with h1 | h1
                  · exact h1
                  · rw [List.drop_eq_nil_of_le h1] at hdm; cases hdm
                have km : decide ((m : Int) ≥ (Z.length : Int)) = false := decide_eq_false (by omega)
                have hdt : Z.drop (m + 1) = t := by
                  have : (Z.drop m).drop 1 = t := by rw [hdm]; rfl
                  rwa [List.drop_drop] at this
                have tm : ((m : Nat) : Int).toNat = m := by omega
                have hz0 : Z[m]? = some h := by
                  have : (Z.drop m)[0]? = some h := by rw [hdm]; rfl
                  rwa [List.getElem?_drop] at this
                have hz1 : Z.getD m 0 = h := by rw [List.getD_eq_getElem?_getD, hz0]; rfl
                have hz2 : Z[m]?.getD 0 = h := by rw [hz0]; rfl
                by_cases hh : 1 < h
                · have hG : none = RX := by rw [← hG]; show none = _; simp only [fF, if_pos hh]
                  have hF := hfail (hRn hG.symm)
                  have kh : decide (h > 1) = true := decide_eq_true hh
                  first | (have FRx := FR; clear FRx) | have FR := fr0S
                  have FA := Sm.mk (And.intro TFOuCD (And.intro kj (And.intro km (And.intro kh (And.intro tm (And.intro hml (And.intro hz1 (And.intro hz2 (And.intro hUe (And.intro hV3 (And.intro x1 (And.intro x2 (And.intro n12 (And.intro y1 (And.intro y2 (And.intro y4 (And.intro y5 (And.intro z1 (And.intro z2 z3)))))))))))))))))))
                  repeat' first | (apply Sm.mk; refine YsOuCD0 ?_) | refine WP.seq fun K hK => ?_ | (apply Ob.mk; exact Yo) | refine And.intro (Ob.out ?_) ?_ | refine Y1OuCD ?_ | refine YzOuCD ?_ | (refine WP.cond rfl (fun hc => ?_) (fun hc => ?_) <;> (try simp only [ZC, reduceCtorEq, ZD] at hc) <;> (try exact absurd hc (by decide)) <;> (try (exfalso; omega))) | refine Rt.mk (And.intro (fun hg => Sm.out ?_) fun hg => Sm.out ?_) | (refine Nu.mk ?_; first | (fail_if_success have := nb1); intro nb1 | (fail_if_success have := nb2); intro nb2 | (fail_if_success have := nb3); intro nb3 | (fail_if_success have := nb4); intro nb4 | (fail_if_success have := nb5); intro nb5 | (fail_if_success have := nb6); intro nb6 | (fail_if_success have := nb7); intro nb7 | (fail_if_success have := nb8); intro nb8 | (fail_if_success have := nb9); intro nb9 | (fail_if_success have := nb10); intro nb10 | (fail_if_success have := nb11); intro nb11 | (fail_if_success have := nb12); intro nb12 | (fail_if_success have := nb13); intro nb13 | (fail_if_success have := nb14); intro nb14 | intro nbz) | (apply Yfr; refine Yf FR fun hFRb FR => ?_) | refine Two.mk ?_ ?_ | (apply Yxc; exact Yx) | refine Cs.mk fun hcs => Sm.out ?_ | go_step | omega | (simp only [maxLen_eq]; omega) | exact trivial
                  (refine OutQ.drop [] _ (List.Perm.refl _) (by simp only [resv, ZK, look, loadv, loadn, loadnm, load1, load1m, hget, ↓reduceIte, Nat.reduceEqDiff, Nat.reduceAdd, Nat.reduceMul, Nat.reduceLeDiff, Nat.reduceLT, reduceCtorEq, TFOuCD, FR.out, x1, x2, n12, y1, y2, y4, y5, z1, z2, z3]) ?_; simp only [resv, resA, ZK, look, loadv, loadn, loadnm, load1, load1m, hget, ↓reduceIte, Nat.reduceEqDiff, Nat.reduceAdd, Nat.reduceMul, Nat.reduceLeDiff, Nat.reduceLT, reduceCtorEq, TFOuCD, FR.out, x1, x2, n12, y1, y2, y4, y5, z1, z2, z3]; exact ⟨_, hF ⟨[], 0⟩ 0, vw_ga vw_nil⟩)
                · have kh : decide (h > 1) = false := decide_eq_false hh
                  have hG : rgX m0 (e0 :: rest ++ [⟨⟨kg, kr, kp, ke, ks⟩, (v0 : Int), (v1 : Int), (v2 : Int), h == 1⟩]) t = RX := by rw [← hG]; simp only [fF, if_neg hh]; rfl
                  have s3 : IntKind.i64.wrap ((m : Int) + 1) = ((m + 1 : Nat) : Int) := by rw [wrap_i64 (by omega) (by omega)]; omega
                  obtain ⟨fl, hfl⟩ : ∃ fl, (h == 1) = fl := ⟨_, rfl⟩
                  rw [hfl] at hG
                  have hkz2 : ∀ e ∈ e0 :: rest ++ [(⟨⟨kg, kr, kp, ke, ks⟩, (v0 : Int), (v1 : Int), (v2 : Int), fl⟩ : En)], Kz e.k := fun e he => by
                    rcases List.mem_append.1 he with h1 | h1
                    · exact hkz e h1
                    · rw [List.mem_singleton.1 h1]; exact hkk
                  have hAl1 : (e0 :: rest ++ [(⟨⟨kg, kr, kp, ke, ks⟩, (v0 : Int), (v1 : Int), (v2 : Int), fl⟩ : En)]).length = i + 1 := by rw [List.length_append, List.length_cons, ha]; rfl
                  clear hz0
                  first | (have FRx := FR; clear FRx) | have FR := fr0S
                  have FA := Sm.mk (And.intro TFOuCD (And.intro kj (And.intro km (And.intro kh (And.intro tm (And.intro hml (And.intro hz1 (And.intro hz2 (And.intro hUe (And.intro hV3 (And.intro w0 (And.intro w1 (And.intro w2 (And.intro s1 (And.intro s3 (And.intro hfl (And.intro x1 (And.intro x2 (And.intro n12 (And.intro y1 (And.intro y2 (And.intro y4 (And.intro y5 (And.intro z1 (And.intro z2 (And.intro z3 (And.intro hAl hAo)))))))))))))))))))))))))))
                  repeat' first | (apply Sm.mk; refine YsOuCD0 ?_) | refine WP.seq fun K hK => ?_ | (apply Ob.mk; exact Yo) | refine And.intro (Ob.out ?_) ?_ | refine Y1OuCD ?_ | refine YzOuCD ?_ | (refine WP.cond rfl (fun hc => ?_) (fun hc => ?_) <;> (try simp only [ZC, reduceCtorEq, ZD] at hc) <;> (try exact absurd hc (by decide)) <;> (try (exfalso; omega))) | refine Rt.mk (And.intro (fun hg => Sm.out ?_) fun hg => Sm.out ?_) | (refine Nu.mk ?_; first | (fail_if_success have := nb1); intro nb1 | (fail_if_success have := nb2); intro nb2 | (fail_if_success have := nb3); intro nb3 | (fail_if_success have := nb4); intro nb4 | (fail_if_success have := nb5); intro nb5 | (fail_if_success have := nb6); intro nb6 | (fail_if_success have := nb7); intro nb7 | (fail_if_success have := nb8); intro nb8 | (fail_if_success have := nb9); intro nb9 | (fail_if_success have := nb10); intro nb10 | (fail_if_success have := nb11); intro nb11 | (fail_if_success have := nb12); intro nb12 | (fail_if_success have := nb13); intro nb13 | (fail_if_success have := nb14); intro nb14 | intro nbz) | (apply Yfr; refine Yf FR fun hFRb FR => ?_) | refine Two.mk ?_ ?_ | (apply Yxc; exact Yx) | refine Cs.mk fun hcs => Sm.out ?_ | go_step | omega | (simp only [maxLen_eq]; omega) | exact trivial
                  have hbb : rest.length + 1 + 1 ≤ nb8 ∧ nb8 ≤ 9223372036854775807 := by have := hFRb; omega
                  have f1 : nb7 ≠ nb1 ∧ nb1 ≠ nb7 := by simp [FR.out]
                  have f2 : nb7 ≠ nb2 ∧ nb2 ≠ nb7 := by simp [FR.out]
                  have hQc : C1 ++ [.lit (.string kg), .lit (.string kr), bv kp, iv .u64 ke, bv ks, iv .i64 (v0 : Int), iv .i64 (v1 : Int), iv .i64 (v2 : Int), bv fl] = ecs (e0 :: (rest ++ [(⟨⟨kg, kr, kp, ke, ks⟩, (v0 : Int), (v1 : Int), (v2 : Int), fl⟩ : En)])) := (hAa (⟨⟨kg, kr, kp, ke, ks⟩, (v0 : Int), (v1 : Int), (v2 : Int), fl⟩ : En)).symm
                  have hrl : (rest ++ [(⟨⟨kg, kr, kp, ke, ks⟩, (v0 : Int), (v1 : Int), (v2 : Int), fl⟩ : En)]).length = rest.length + 1 := by simp
                  exact ⟨⟨i + 1, e0 :: (rest ++ [(⟨⟨kg, kr, kp, ke, ks⟩, (v0 : Int), (v1 : Int), (v2 : Int), fl⟩ : En)]), m + 1, nb7, nb8⟩, ⟨⟨by simp only; omega, hAl1, by simp only; omega, hbb.2, by simp only; omega⟩, by simp only; rw [hm1, hdt]; exact hG, hkz2, f1, f2⟩, by simp only; omega, (Sub.pick (by simp [pickB, hget, hdel, FR.out, x1, x2, n12, y1, y2, y4, y5, z1, z2, z3, f1, f2, hQc, hrl, hfl, eV, eH, List.cons_append, List.nil_append]) (by simp [look, x1, x2, n12, y1, y2, y4, y5, z1, z2, z3, f1, f2, hQc, hrl, hfl, eV, eH, List.cons_append, List.nil_append]))⟩
    · have ki : decide ((i : Int) < (n : Int)) = false := decide_eq_false (by omega)
      obtain rfl : i = n := by omega
      rw [Nat.sub_self] at hG
      have hG : some (A, Z.drop a) = RX := hG
      rw [← hG] at hX
      simp only at hX
      have cR := fun d => rbright_ct ⟨A, d⟩ i ha (by omega) hkz
      cases hn : nF (Z.drop a) with
      | none =>
        rw [hn] at hX
        have hF := hfail hX
        have cB := number_bad Z a g3 hb hz hn
        cases A with
        | nil =>
          simp only [eV, eH, List.nil_append]
          first | (have FRx := FR; clear FRx) | have FR := fr0S
          have FA := Sm.mk (And.intro TFOuCD (And.intro ki (And.intro x1 (And.intro x2 n12))))
          repeat' first | (apply Sm.mk; refine Ys ?_) | refine WP.seq fun K hK => ?_ | (apply Ob.mk; exact Yo) | refine And.intro (Ob.out ?_) ?_ | refine Y1OuCD ?_ | (refine CallV.ex (F := []) (List.Perm.refl _) (cB) (fun g => Sm.out ?_)) | refine YzOuCD ?_ | (refine WP.cond rfl (fun hc => ?_) (fun hc => ?_) <;> (try simp only [ZC, reduceCtorEq, ZD] at hc) <;> (try exact absurd hc (by decide)) <;> (try (exfalso; omega))) | refine Rt.mk (And.intro (fun hg => Sm.out ?_) fun hg => Sm.out ?_) | (refine Nu.mk ?_; first | (fail_if_success have := nb1); intro nb1 | (fail_if_success have := nb2); intro nb2 | (fail_if_success have := nb3); intro nb3 | (fail_if_success have := nb4); intro nb4 | (fail_if_success have := nb5); intro nb5 | (fail_if_success have := nb6); intro nb6 | (fail_if_success have := nb7); intro nb7 | (fail_if_success have := nb8); intro nb8 | (fail_if_success have := nb9); intro nb9 | (fail_if_success have := nb10); intro nb10 | (fail_if_success have := nb11); intro nb11 | (fail_if_success have := nb12); intro nb12 | (fail_if_success have := nb13); intro nb13 | (fail_if_success have := nb14); intro nb14 | intro nbz) | (apply Yfr; refine Yf FR fun hFRb FR => ?_) | refine Two.mk ?_ ?_ | (apply Yxc; exact Yx) | refine Cs.mk fun hcs => Sm.out ?_ | go_step | omega | (simp only [maxLen_eq]; omega) | exact trivial
          (refine OutQ.drop [] _ (List.Perm.refl _) (by simp only [resv, ZK, look, loadv, loadn, loadnm, load1, load1m, hget, ↓reduceIte, Nat.reduceEqDiff, Nat.reduceAdd, Nat.reduceMul, Nat.reduceLeDiff, Nat.reduceLT, reduceCtorEq, TFOuCD, FR.out, x1, x2, n12]) ?_; simp only [resv, resA, ZK, look, loadv, loadn, loadnm, load1, load1m, hget, ↓reduceIte, Nat.reduceEqDiff, Nat.reduceAdd, Nat.reduceMul, Nat.reduceLeDiff, Nat.reduceLT, reduceCtorEq, TFOuCD, FR.out, x1, x2, n12]; exact ⟨_, hF ⟨[], g.1⟩ g.2, vw_ga vw_nil⟩)
        | cons e0 rest =>
          simp only [eV, eH, List.cons_append, List.nil_append]
          obtain rfl : i = rest.length + 1 := ha.symm
          have hvw : ∀ d : Int, Vw [(x, .cells (ecs (e0 :: rest)) (c * 9) 38)] (.agg [ms x 0 (rest.length + 1) c, iv .u64 d]) (bxv ⟨e0 :: rest, d⟩) := fun d => vw_bx3 (s := c * 9) (ty := 38) (by simp [hget]) g1 g2
          have hF2 := fun (a1 a2 : Int) => hF ⟨e0 :: rest, a1⟩ a2
          obtain ⟨C1, hC1⟩ : ∃ C1, C1 = ecs (e0 :: rest) := ⟨_, rfl⟩
          rw [← hC1] at hvw ⊢
          first | (have FRx := FR; clear FRx) | have FR := fr0S
          have FA := Sm.mk (And.intro TFOuCD (And.intro ki (And.intro x1 (And.intro x2 n12))))
          repeat' first | (apply Sm.mk; refine Ys ?_) | refine WP.seq fun K hK => ?_ | (apply Ob.mk; exact Yo) | refine And.intro (Ob.out ?_) ?_ | refine Y1OuCD ?_ | (refine CallV.ex (F := []) (List.Perm.refl _) (cB) (fun g => Sm.out ?_)) | refine YzOuCD ?_ | (refine WP.cond rfl (fun hc => ?_) (fun hc => ?_) <;> (try simp only [ZC, reduceCtorEq, ZD] at hc) <;> (try exact absurd hc (by decide)) <;> (try (exfalso; omega))) | refine Rt.mk (And.intro (fun hg => Sm.out ?_) fun hg => Sm.out ?_) | (refine Nu.mk ?_; first | (fail_if_success have := nb1); intro nb1 | (fail_if_success have := nb2); intro nb2 | (fail_if_success have := nb3); intro nb3 | (fail_if_success have := nb4); intro nb4 | (fail_if_success have := nb5); intro nb5 | (fail_if_success have := nb6); intro nb6 | (fail_if_success have := nb7); intro nb7 | (fail_if_success have := nb8); intro nb8 | (fail_if_success have := nb9); intro nb9 | (fail_if_success have := nb10); intro nb10 | (fail_if_success have := nb11); intro nb11 | (fail_if_success have := nb12); intro nb12 | (fail_if_success have := nb13); intro nb13 | (fail_if_success have := nb14); intro nb14 | intro nbz) | (apply Yfr; refine Yf FR fun hFRb FR => ?_) | refine Two.mk ?_ ?_ | (apply Yxc; exact Yx) | refine Cs.mk fun hcs => Sm.out ?_ | go_step | omega | (simp only [maxLen_eq]; omega) | exact trivial
          (refine OutQ.drop _ _ (perm1 (b := x) (by simp only [hget, hdel, ↓reduceIte, if_true, if_false, FR.out, x1, x2, n12]; first | done | rfl)) (by simp only [resv, ZK, look, loadv, loadn, loadnm, load1, load1m, hget, ↓reduceIte, Nat.reduceEqDiff, Nat.reduceAdd, Nat.reduceMul, Nat.reduceLeDiff, Nat.reduceLT, reduceCtorEq, TFOuCD, FR.out, x1, x2, n12]) ?_; simp only [resv, resA, ZK, look, loadv, loadn, loadnm, load1, load1m, hget, ↓reduceIte, Nat.reduceEqDiff, Nat.reduceAdd, Nat.reduceMul, Nat.reduceLeDiff, Nat.reduceLT, reduceCtorEq, TFOuCD, FR.out, x1, x2, n12]; exact ⟨_, hF2 g.1 g.2, vw_ga (hvw g.1)⟩)
      | some p =>
        obtain ⟨d, r⟩ := p
        rw [hn] at hX
        simp only at hX
        have cN := number_good Z r a d g3 hb hz hn
        have cR := cR (d : Int)
        obtain ⟨A2, hA2⟩ : ∃ q, q = Z.length - r.length := ⟨_, rfl⟩
        rw [← hA2] at cN
        have hR1 : bxB ⟨A, (d : Int)⟩ = true → RgP Z.length X (⟨A, (d : Int)⟩, (A2 : Int), true) := fun h => by
          rw [hX, if_pos h, hA2]; rfl
        have hR0 : bxB ⟨A, (d : Int)⟩ = false → RgP Z.length X (⟨A, (d : Int)⟩, (A2 : Int), false) := fun h => hfail (by rw [hX, if_neg (by rw [h]; decide)]) _ _
        obtain ⟨q, hq⟩ : ∃ q, bxB ⟨A, (d : Int)⟩ = q := ⟨_, rfl⟩
        have hR : RgP Z.length X (⟨A, (d : Int)⟩, (A2 : Int), q) := by
          cases q with
          | true => exact hR1 hq
          | false => exact hR0 hq
        rw [hq] at cR
        clear hX hR1 hR0 hq hn hA2 hkz
        simp only at cR
        cases A with
        | nil =>
          simp only [eV, eH, List.nil_append]
          obtain rfl : i = 0 := ha.symm
          have cR2 : ACt Tryd.prog 12 [.agg [nsl, iv .u64 (d : Int)]] [] (fun r F' => r = bv q ∧ F' = []) := cR.view rfl ⟨vw_nil, trivial⟩
          clear cR
          first | (have FRx := FR; clear FRx) | have FR := fr0S
          have FA := Sm.mk (And.intro TFOuCD (And.intro ki (And.intro x1 (And.intro x2 n12))))
          repeat' first | (apply Sm.mk; refine Ys ?_) | refine WP.seq fun K hK => ?_ | (apply Ob.mk; exact Yo) | refine And.intro (Ob.out ?_) ?_ | refine Y1OuCD ?_ | refine Yc (c := cN) (r := ?_) | refine Yc (c := cR2) (r := ?_) | refine YzOuCD ?_ | (refine WP.cond rfl (fun hc => ?_) (fun hc => ?_) <;> (try simp only [ZC, reduceCtorEq, ZD] at hc) <;> (try exact absurd hc (by decide)) <;> (try (exfalso; omega))) | refine Rt.mk (And.intro (fun hg => Sm.out ?_) fun hg => Sm.out ?_) | (refine Nu.mk ?_; first | (fail_if_success have := nb1); intro nb1 | (fail_if_success have := nb2); intro nb2 | (fail_if_success have := nb3); intro nb3 | (fail_if_success have := nb4); intro nb4 | (fail_if_success have := nb5); intro nb5 | (fail_if_success have := nb6); intro nb6 | (fail_if_success have := nb7); intro nb7 | (fail_if_success have := nb8); intro nb8 | (fail_if_success have := nb9); intro nb9 | (fail_if_success have := nb10); intro nb10 | (fail_if_success have := nb11); intro nb11 | (fail_if_success have := nb12); intro nb12 | (fail_if_success have := nb13); intro nb13 | (fail_if_success have := nb14); intro nb14 | intro nbz) | (apply Yfr; refine Yf FR fun hFRb FR => ?_) | refine Two.mk ?_ ?_ | (apply Yxc; exact Yx) | refine Cs.mk fun hcs => Sm.out ?_ | go_step | omega | (simp only [maxLen_eq]; omega) | exact trivial
          (refine OutQ.drop [] _ (List.Perm.refl _) (by simp only [resv, ZK, look, loadv, loadn, loadnm, load1, load1m, hget, ↓reduceIte, Nat.reduceEqDiff, Nat.reduceAdd, Nat.reduceMul, Nat.reduceLeDiff, Nat.reduceLT, reduceCtorEq, TFOuCD, FR.out, x1, x2, n12]) ?_; simp only [resv, resA, ZK, look, loadv, loadn, loadnm, load1, load1m, hget, ↓reduceIte, Nat.reduceEqDiff, Nat.reduceAdd, Nat.reduceMul, Nat.reduceLeDiff, Nat.reduceLT, reduceCtorEq, TFOuCD, FR.out, x1, x2, n12]; exact ⟨_, hR, vw_ga vw_nil⟩)
        | cons e0 rest =>
          simp only [eV, eH, List.cons_append, List.nil_append]
          obtain rfl : i = rest.length + 1 := ha.symm
          have hvw : Vw [(x, .cells (ecs (e0 :: rest)) (c * 9) 38)] (.agg [ms x 0 (rest.length + 1) c, iv .u64 (d : Int)]) (bxv ⟨e0 :: rest, (d : Int)⟩) := vw_bx3 (s := c * 9) (ty := 38) (by simp [hget]) g1 g2
          have cR2 : ACt Tryd.prog 12 [.agg [ms x 0 (rest.length + 1) c, iv .u64 (d : Int)]] [(x, .cells (ecs (e0 :: rest)) (c * 9) 38)] (fun r' F' => r' = bv q ∧ F' = [(x, .cells (ecs (e0 :: rest)) (c * 9) 38)]) := cR.view rfl ⟨vw_box g1 g2, trivial⟩
          clear cR
          obtain ⟨C1, hC1⟩ : ∃ C1, C1 = ecs (e0 :: rest) := ⟨_, rfl⟩
          rw [← hC1] at hvw cR2 ⊢
          first | (have FRx := FR; clear FRx) | have FR := fr0S
          have FA := Sm.mk (And.intro TFOuCD (And.intro ki (And.intro x1 (And.intro x2 n12))))
          repeat' first | (apply Sm.mk; refine Ys ?_) | refine WP.seq fun K hK => ?_ | (apply Ob.mk; exact Yo) | refine And.intro (Ob.out ?_) ?_ | refine Y1OuCD ?_ | refine Yc (c := cN) (r := ?_) | refine Yl1 (c := cR2) (r := ?_) | refine YzOuCD ?_ | (refine WP.cond rfl (fun hc => ?_) (fun hc => ?_) <;> (try simp only [ZC, reduceCtorEq, ZD] at hc) <;> (try exact absurd hc (by decide)) <;> (try (exfalso; omega))) | refine Rt.mk (And.intro (fun hg => Sm.out ?_) fun hg => Sm.out ?_) | (refine Nu.mk ?_; first | (fail_if_success have := nb1); intro nb1 | (fail_if_success have := nb2); intro nb2 | (fail_if_success have := nb3); intro nb3 | (fail_if_success have := nb4); intro nb4 | (fail_if_success have := nb5); intro nb5 | (fail_if_success have := nb6); intro nb6 | (fail_if_success have := nb7); intro nb7 | (fail_if_success have := nb8); intro nb8 | (fail_if_success have := nb9); intro nb9 | (fail_if_success have := nb10); intro nb10 | (fail_if_success have := nb11); intro nb11 | (fail_if_success have := nb12); intro nb12 | (fail_if_success have := nb13); intro nb13 | (fail_if_success have := nb14); intro nb14 | intro nbz) | (apply Yfr; refine Yf FR fun hFRb FR => ?_) | refine Two.mk ?_ ?_ | (apply Yxc; exact Yx) | refine Cs.mk fun hcs => Sm.out ?_ | go_step | omega | (simp only [maxLen_eq]; omega) | exact trivial
          (refine OutQ.drop _ _ (perm1 (b := x) (by simp only [hget, hdel, ↓reduceIte, if_true, if_false, FR.out, x1, x2, n12]; first | done | rfl)) (by simp only [resv, ZK, look, loadv, loadn, loadnm, load1, load1m, hget, ↓reduceIte, Nat.reduceEqDiff, Nat.reduceAdd, Nat.reduceMul, Nat.reduceLeDiff, Nat.reduceLT, reduceCtorEq, TFOuCD, FR.out, x1, x2, n12]) ?_; simp only [resv, resA, ZK, look, loadv, loadn, loadnm, load1, load1m, hget, ↓reduceIte, Nat.reduceEqDiff, Nat.reduceAdd, Nat.reduceMul, Nat.reduceLeDiff, Nat.reduceLT, reduceCtorEq, TFOuCD, FR.out, x1, x2, n12]; exact ⟨_, hR, vw_ga hvw⟩)
theorem rbget_good {Z r : List Int} {b : Bx} (hb : Wi.By Z) (hz : Z.length ≤ 60000) (h : rbX Z = some (b, r)) : ACt Tryd.prog 34 [.slz .u8 Z, iv .i64 0] [] (Fn (.tup [bxv b, iv .i64 ((Z.length - r.length : Nat) : Int), bv true])) :=
  (ACt.fzVE (rbget_st Z hb hz)).mono fun v F' => by
    rintro ⟨g, ⟨hq, rfl⟩, rfl⟩
    rw [h] at hq
    have hq : g = (b, ((Z.length - r.length : Nat) : Int), true) := hq
    subst hq
    exact ⟨rfl, rfl⟩
theorem rbget_bad {Z : List Int} (hb : Wi.By Z) (hz : Z.length ≤ 60000) (h : rbX Z = none) : ACt Tryd.prog 34 [.slz .u8 Z, iv .i64 0] [] (fun r F' => ∃ g : Bx × Int, r = .tup [bxv g.1, iv .i64 g.2, bv false] ∧ F' = []) :=
  (ACt.fzVE (rbget_st Z hb hz)).mono fun v F' => by
    rintro ⟨⟨g1, g2, g3⟩, ⟨hq, rfl⟩, rfl⟩
    rw [h] at hq
    have hq : g3 = false := hq
    subst hq
    exact ⟨(g1, g2), rfl, rfl⟩
end Go.Proofs.YtfknbndmabogjaaDoor
