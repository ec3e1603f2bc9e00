/-
  The walks and the laws that the statement leans on, part 50.
-/
import Derived.Test.YtfknbndmabogjaaDoorE10
import Derived.Test.YtfknbndmabogjaaDoorE49
namespace Go.Proofs.YtfknbndmabogjaaDoor
open Go Wi
set_option linter.unusedVariables false
set_option linter.unusedSimpArgs false
set_option linter.defProp false
def TFOuCC :=
  And.intro (And.intro (And.intro (And.intro (And.intro (And.intro tyc0 tyc2) (And.intro zmb2 tyc3)) (And.intro (And.intro zmb3 tyc4) (And.intro zmb4 tyc24))) (And.intro (And.intro (And.intro elt24 mkz24) (And.intro mkc24 apT24)) (And.intro (And.intro elk24 zmb24) (And.intro tyc25 zmb25)))) (And.intro (And.intro (And.intro (And.intro tyc27 foff27_0) (And.intro fpart27_0 foff27_1)) (And.intro (And.intro fpart27_1 zmb27) (And.intro bldT27 tyc29))) (And.intro (And.intro (And.intro foff29_0 fpart29_0) (And.intro foff29_1 fpart29_1)) (And.intro (And.intro foff29_2 fpart29_2) (And.intro foff29_3 (And.intro fpart29_3 foff29_4)))))) (And.intro (And.intro (And.intro (And.intro (And.intro fpart29_4 fe29) (And.intro zmb29 bldT29)) (And.intro (And.intro tyc38 foff38_0) (And.intro fpart38_0 foff38_1))) (And.intro (And.intro (And.intro fpart38_1 foff38_2) (And.intro fpart38_2 foff38_3)) (And.intro (And.intro fpart38_3 foff38_4) (And.intro fpart38_4 zmb38)))) (And.intro (And.intro (And.intro (And.intro bldT38 tyc55) (And.intro mth55_86 mth55_89)) (And.intro (And.intro mth55_88 con55) (And.intro zmb55 Tryd.underlying0))) (And.intro (And.intro (And.intro Tryd.underlying2 Tryd.underlying3) (And.intro Tryd.underlying4 Tryd.underlying24)) (And.intro (And.intro Tryd.underlying25 Tryd.underlying27) (And.intro Tryd.underlying29 (And.intro Tryd.underlying38 Tryd.underlying55))))))
theorem Y1OuCC {G R : Prop} (r : R) (h : R → G := by intro r; first | (apply WP.region; exact rvc_sound _ _ (Sm.out r)) | exact WP.drawK rfl mixed (by decide +kernel) (Sm.out r) | (apply WP.block; exact r) | (apply WP.skip; exact Yq r) | (apply WP.exit; exact Yq r) | (apply WP.ret; exact Sm.out r) | exact WP.cond rfl (fun _ => r) (fun hg => absurd hg (by decide)) | exact WP.cond rfl (fun hg => absurd hg (by decide)) (fun _ => r) | exact Rt.mk (And.intro (fun _ => Sm.out r) fun hg => absurd hg (by decide)) | exact Rt.mk (And.intro (fun hg => absurd hg (by decide)) fun _ => Sm.out r)) : G := h r
theorem YzOuCC {G R : Prop} (r : R) (h : R → G := by intro r; first | (apply ExG.no; exact Sm.out r) | (apply Or.inl; apply ExG.no; exact Sm.out r) | exact Or.inl (And.intro (fun hg => absurd hg (by decide)) (ExG.no (Sm.out r)))) : G := h r
theorem Vw.rep2 {cx : Cx} {H X : Hp} {w : World} {I' : Nat → Prop} (hw : OkW cx H w) (hs : ∀ x ∈ X, x ∈ H) (hlt : ∀ b, imm cx w H b → I' b) (hk : ∀ x ∈ X, I' x.1) {x y : AV} (h : Vw X x y) : ∀ {v : Value}, Rep w (imm cx w H) v x → Rep w I' v y := by
  induction h with
  | same x => exact fun hv => hv.mono fun b hb => ⟨hlt b hb, rfl⟩
  | @row b off n cap sz ty k zs hg h1 h2 h3 =>
    intro v hv
    have := hv.lit_inv; subst this
    obtain ⟨cur, c1, c2, c3, c4⟩ := hw.mem _ (hs _ (hget_mem hg))
    have e : ((zs.drop off).take n).length = n := by simp; omega
    have : Rep w I' (.slice (some ⟨b, off, none⟩) ((zs.drop off).take n).length cap) (.slz k ((zs.drop off).take n)) := by
      refine .slz _ _ _ _ (by omega) h3 (.inr ⟨b, off, rfl, hk _ (hget_mem hg), fun i hi => ?_⟩)
      rw [e] at hi
      rw [cell_of_block c1, c4 _ (by omega)]
      simp [List.getD, List.getElem?_take, List.getElem?_drop, hi]
    rw [e] at this
    exact this
  | @rowc b off n cap sz ty cs ds hg h1 h2 h3 h ih =>
    intro v hv
    have := hv.lit_inv; subst this
    obtain ⟨cur, c1, c2, c3, c4⟩ := hw.mem _ (hs _ (hget_mem hg))
    refine .sl _ _ _ _ (fun i => cur.getD (off + i) undef) h2 h3 (.inr ⟨b, off, rfl, hk _ (hget_mem hg), fun i hi => ?_⟩) fun i hi => ih i hi ?_
    · rw [cell_of_block c1]
      have : off + i < cur.size := by omega
      simp [this]
    · have h4 := c4 (off + i) (by omega)
      have : cs.getD (off + i) .any = cs[off + i]'(by omega) := by simp [List.getD, show off + i < cs.length by omega]
      rw [this]
      exact h4
  | @ptc b off sz ty cs ds hg h1 h ih =>
    intro v hv
    have := hv.lit_inv; subst this
    obtain ⟨cur, c1, c2, c3, c4⟩ := hw.mem _ (hs _ (hget_mem hg))
    refine .ip _ _ (fun i => cur.getD (off + i) undef) (.inr ⟨b, off, rfl, hk _ (hget_mem hg), fun i hi => ?_⟩) fun i hi => ih i hi ?_
    · rw [cell_of_block c1]
      have : off + i < cur.size := by omega
      simp [this]
    · have h4 := c4 (off + i) (by omega)
      have : cs.getD (off + i) .any = cs[off + i]'(by omega) := by simp [List.getD, show off + i < cs.length by omega]
      rw [this]
      exact h4
  | @ptz b off sz ty k zs hg h1 =>
    intro v hv
    have := hv.lit_inv; subst this
    obtain ⟨cur, c1, c2, c3, c4⟩ := hw.mem _ (hs _ (hget_mem hg))
    refine .ipz _ _ _ (.inr ⟨b, off, rfl, hk _ (hget_mem hg), fun i hi => ?_⟩)
    simp only [List.length_drop] at hi
    rw [cell_of_block c1, c4 _ (by omega)]
    simp [List.getD, List.getElem?_drop]
  | @agg cs ds hl h ih =>
    intro v hv
    cases hv with
    | agg vs cs hs r =>
      refine .agg vs ds (by omega) fun i hi => ih i hi ?_
      have hic : i < cs.length := by omega
      have : cs.getD i .any = cs[i] := by simp [List.getD, hic]
      rw [this]
      exact r i hic
  | @tup cs ds hl h ih =>
    intro v hv
    cases hv with
    | tup vs cs hs r =>
      refine .tup vs ds (by omega) fun i hi => ih i hi ?_
      have hic : i < cs.length := by omega
      have : cs.getD i .any = cs[i] := by simp [List.getD, hic]
      rw [this]
      exact r i hic
  | ifc h ih =>
    intro v hv
    cases hv with
    | ifc t v x r => exact .ifc _ _ _ (ih r)
  | nils =>
    intro v hv
    have := hv.lit_inv; subst this
    exact .sl none 0 0 [] (fun _ => undef) (Nat.le_refl _) (Nat.zero_le _) (.inl rfl) (fun i hi => by simp at hi)
theorem ACt.fzVF {P : Program} {f : FuncId} {args : List AV} {F G : Hp} {y : AV} (h : ACt P f args F (fun r F' => ∃ X, F' = G ++ X ∧ Vw X r y)) : ACt P f args F (fun r F' => r = y ∧ F' = G) := by
  intro cx vs hK hKT hw hs hv
  refine (h cx vs hK hKT hw hs hv).mono ?_
  rintro e w' ⟨v, r, F', he, ⟨X, rfl, hp⟩, hw', hr⟩
  have hd := hw'.drop
  refine ⟨v, y, G, he, ⟨rfl, rfl⟩, hd.1, hp.rep2 hw' (fun x hx => List.mem_append_right _ hx) hd.2 (fun x hx => .inr ⟨hw'.keys x (List.mem_append_right _ hx), keys_lt hw' x (List.mem_append_right _ hx), fun z hz => ?_⟩) hr⟩
  have hn := hw'.nodup
  rw [List.map_append, List.nodup_append] at hn
  exact hn.2.2 z.1 (List.mem_map_of_mem hz) x.1 (List.mem_map_of_mem hx)
theorem vw_bx3 {H : Hp} {x n c s ty : Nat} {C : List AV} {d : Int} (hg : hget H x = some (.cells C s ty)) (h2 : n ≤ c) (h3 : c ≤ 9223372036854775807) : Vw H (.agg [ms x 0 n c, iv .u64 d]) (.agg [.sl n C, iv .u64 d]) := by
  have hC : ∀ j (hj : j < C.length), Vw H (C.getD (0 + j) .any) C[j] := fun j hj => by
    have e : C.getD (0 + j) .any = C[j] := by rw [Nat.zero_add, List.getD_eq_getElem?_getD, List.getElem?_eq_getElem hj]; rfl
    rw [e]; exact .same _
  exact .agg rfl fun i hi => by
    match i, hi with
    | 0, _ => exact .rowc hg (by omega) h2 (by rw [maxLen_eq]; omega) hC
    | 1, _ => exact .same _
def nuS (o : Option (List Int)) : Int × Option (List Int) := (if 253404892800 < (((nS o).1 : Nat) : Int) then 253404892800 else (((nS o).1 : Nat) : Int), (nS o).2)
theorem nuS_bd (o : Option (List Int)) : 0 ≤ (nuS o).1 ∧ (nuS o).1 ≤ 253404892800 := by
  unfold nuS; simp only; split <;> omega
theorem number_ct (b : Nat) (o : Option (List Int)) (h : okS o) : ACt Tryd.prog 63 [pt b 0] [(b, stM o)] (fun r F' => r = iv .i64 (nuS o).1 ∧ F' = [(b, stM (nuS o).2)]) := by
  have cN := numS b o h
  have hbd := nuS_bd o
  have w : IntKind.i64.wrap (nuS o).1 = (nuS o).1 := wrap_i64 (by omega) (by omega)
  have hv : (if 253404892800 < (((nS o).1 : Nat) : Int) then 253404892800 else (((nS o).1 : Nat) : Int)) = (nuS o).1 := rfl
  have h2 : (nuS o).2 = (nS o).2 := rfl
  rw [← h2] at cN
  obtain ⟨x, hx⟩ : ∃ x : Nat, x = (nS o).1 := ⟨_, rfl⟩
  rw [← hx] at cN hv
  obtain ⟨v, hv'⟩ : ∃ v, v = (nuS o).1 := ⟨_, rfl⟩
  rw [← hv'] at hv w ⊢
  obtain ⟨M0, hM0⟩ : ∃ M, M = stM o := ⟨_, rfl⟩
  rw [← hM0] at cN ⊢
  obtain ⟨M1, hM1⟩ : ∃ M, M = stM (nuS o).2 := ⟨_, rfl⟩
  rw [← hM1] at cN ⊢
  refine ACt.intro Tryd.func63 rfl (by kernel_rfl) (by simp [Tryd.ntmps63]) (fun cx => ?_)
  simp only [argE, Tryd.ntmps63, Tryd.results63]
  first | (have FRx := FR; clear FRx) | have FR := fr0S
  have FA := Sm.mk (And.intro TFOuCC (And.intro hv w))
  repeat' first | (apply Sm.mk; refine Ys ?_) | refine WP.seq fun K hK => ?_ | (apply Ob.mk; exact Yo) | refine And.intro (Ob.out ?_) ?_ | refine Y1OuCC ?_ | refine Yw1 (c := cN) (r := ?_) | refine YzOuCC ?_ | (refine WP.cond rfl (fun hc => ?_) (fun hc => ?_) <;> (try simp only [ZC, reduceCtorEq, ZD] at hc) <;> (try exact absurd hc (by decide)) <;> (try (exfalso; omega))) | refine Rt.mk (And.intro (fun hg => Sm.out ?_) fun hg => Sm.out ?_) | (refine Nu.mk ?_; first | (fail_if_success have := nb1); intro nb1 | (fail_if_success have := nb2); intro nb2 | (fail_if_success have := nb3); intro nb3 | (fail_if_success have := nb4); intro nb4 | (fail_if_success have := nb5); intro nb5 | (fail_if_success have := nb6); intro nb6 | (fail_if_success have := nb7); intro nb7 | (fail_if_success have := nb8); intro nb8 | (fail_if_success have := nb9); intro nb9 | (fail_if_success have := nb10); intro nb10 | (fail_if_success have := nb11); intro nb11 | (fail_if_success have := nb12); intro nb12 | intro nbz) | (apply Yfr; refine Yf FR fun hFRb FR => ?_) | refine Two.mk ?_ ?_ | (apply Yxc; exact Yx) | refine Cs.mk fun hcs => Sm.out ?_ | go_step | omega | (simp only [maxLen_eq]; omega) | exact trivial
  (refine OutQ.drop _ _ (perm1 (by simp only [hget, hdel, ↓reduceIte, if_true, if_false, FR.out, hv, w]; first | done | rfl)) (by simp only [resv, ZK, look, loadv, loadn, loadnm, load1, load1m, hget, ↓reduceIte, Nat.reduceEqDiff, Nat.reduceAdd, Nat.reduceMul, Nat.reduceLeDiff, Nat.reduceLT, reduceCtorEq, TFOuCC, FR.out, hv, w]) ⟨(by simp only [resv, resA, ZK, look, loadv, loadn, loadnm, load1, load1m, hget, ↓reduceIte, Nat.reduceEqDiff, Nat.reduceAdd, Nat.reduceMul, Nat.reduceLeDiff, Nat.reduceLT, reduceCtorEq, TFOuCC, FR.out, hv, w]; first | done | rfl), rfl⟩)
noncomputable def enS (o : Option (List Int)) : En × Option (List Int) :=
  (⟨(kgS o).1, (nuS (kgS o).2).1, (nuS (nuS (kgS o).2).2).1, (((cS 1000000 (nuS (nuS (kgS o).2).2).2).1 : Nat) : Int), (fS (cS 1000000 (nuS (nuS (kgS o).2).2).2).2).1⟩, (fS (cS 1000000 (nuS (nuS (kgS o).2).2).2).2).2)
noncomputable def bgL : Nat → List En → Option (List Int) → List En × Option (List Int)
  | 0, A, o => (A, o)
  | c + 1, A, o => bgL c (A ++ [(enS o).1]) (enS o).2
noncomputable def bgS (o : Option (List Int)) : Bx × Option (List Int) :=
  if (nS (bgL (cS 64 o).1 [] (cS 64 o).2).2).2.isSome && bxB ⟨(bgL (cS 64 o).1 [] (cS 64 o).2).1, (((nS (bgL (cS 64 o).1 [] (cS 64 o).2).2).1 : Nat) : Int)⟩
  then (⟨(bgL (cS 64 o).1 [] (cS 64 o).2).1, (((nS (bgL (cS 64 o).1 [] (cS 64 o).2).2).1 : Nat) : Int)⟩, (nS (bgL (cS 64 o).1 [] (cS 64 o).2).2).2)
  else (⟨[], 0⟩, none)
theorem kgS_kz (o : Option (List Int)) : Kz (kgS o).1 := by
  unfold kgS
  split
  · exact ⟨by have := tS_len 96 (by omega) o; simp only; omega, by have := tS_len 96 (by omega) (tS 96 o).2; simp only; omega⟩
  · exact ⟨Nat.zero_le _, Nat.zero_le _⟩
theorem kgS_ok {o : Option (List Int)} (h : okS o) : okS (kgS o).2 := by
  unfold kgS
  split
  · exact rS_ok fF_sf (rS_ok nF_sf (rS_ok fF_sf (rS_ok (tF_sf 96) (rS_ok (tF_sf 96) h))))
  · exact trivial
theorem nuS_ok {o : Option (List Int)} (h : okS o) : okS (nuS o).2 := rS_ok nF_sf h
theorem enS_ok {o : Option (List Int)} (h : okS o) : okS (enS o).2 := rS_ok fF_sf (rS_ok (cF_sf _) (nuS_ok (nuS_ok (kgS_ok h))))
def eV : List En → Nat → Nat → AV
  | [], _, _ => nsl
  | k :: r, x, c => ms x 0 (r.length + 1) c
def eH : List En → Nat → Nat → Hp
  | [], _, _ => []
  | k :: r, x, c => [(x, .cells (ecs (k :: r)) (c * 9) 38)]
structure GeG where
  i : Nat
  A : List En
  o : Option (List Int)
  x : Nat
  c : Nat
theorem cS64_le (o : Option (List Int)) : (cS 64 o).1 ≤ 64 := by
  cases o with
  | none => exact Nat.zero_le _
  | some zs =>
    cases h : cF 64 zs with
    | none => rw [show cS 64 (some zs) = (0, none) from rS_bad h]; exact Nat.zero_le _
    | some p =>
      obtain ⟨n, r⟩ := p
      rw [show cS 64 (some zs) = (n, some r) from rS_good h]
      unfold cF at h
      split at h
      · cases h
      · split at h
        · cases h
        · cases h; simp only; omega
set_option maxHeartbeats 8000000 in
set_option maxRecDepth 8000 in
theorem bget_st (b : Nat) (o : Option (List Int)) (h : okS o) : ACt Tryd.prog 31 [pt b 0] [(b, stM o)] (fun r F' => ∃ X, F' = [(b, stM (bgS o).2)] ++ X ∧ Vw X r (bxv (bgS o).1)) := by
  have cC := countS b 64 (by omega) (by omega) o h
  have hn64 := cS64_le o
  have ho0 : okS (cS 64 o).2 := rS_ok (cF_sf 64) h
  obtain ⟨n, hn⟩ : ∃ n, n = (cS 64 o).1 := ⟨_, rfl⟩
  obtain ⟨o0, ho⟩ : ∃ q, q = (cS 64 o).2 := ⟨_, rfl⟩
  obtain ⟨B, hB⟩ : ∃ B, B = bgS o := ⟨_, rfl⟩
  have hB2 : B = if (nS (bgL n [] o0).2).2.isSome && bxB ⟨(bgL n [] o0).1, (((nS (bgL n [] o0).2).1 : Nat) : Int)⟩ then (⟨(bgL n [] o0).1, (((nS (bgL n [] o0).2).1 : Nat) : Int)⟩, (nS (bgL n [] o0).2).2) else (⟨[], 0⟩, none) := by rw [hB, hn, ho]; rfl
  rw [← hB]
  rw [← hn, ← ho] at cC
  rw [← hn] at hn64
  rw [← ho] at ho0
  obtain ⟨M0, hM0⟩ : ∃ M, M = stM o := ⟨_, rfl⟩
  rw [← hM0] at cC ⊢
  clear hB hn ho hM0
  refine ACt.intro Tryd.func31 rfl (by kernel_rfl) (by simp [Tryd.ntmps31]) (fun cx => ?_)
  simp only [argE, Tryd.ntmps31, Tryd.results31]
  first | (have FRx := FR; clear FRx) | have FR := fr0S
  have FA := Sm.mk (TFOuCC)
  repeat' first | (apply Sm.mk; refine Ys ?_) | refine WP.seq fun K hK => ?_ | (apply Ob.mk; exact Yo) | refine And.intro (Ob.out ?_) ?_ | refine Y1OuCC ?_ | refine Yw1 (c := cC) (r := ?_) | refine YzOuCC ?_ | (refine WP.cond rfl (fun hc => ?_) (fun hc => ?_) <;> (try simp only [ZC, reduceCtorEq, ZD] at hc) <;> (try exact absurd hc (by decide)) <;> (try (exfalso; omega))) | refine Rt.mk (And.intro (fun hg => Sm.out ?_) fun hg => Sm.out ?_) | (refine Nu.mk ?_; first | (fail_if_success have := nb1); intro nb1 | (fail_if_success have := nb2); intro nb2 | (fail_if_success have := nb3); intro nb3 | (fail_if_success have := nb4); intro nb4 | (fail_if_success have := nb5); intro nb5 | (fail_if_success have := nb6); intro nb6 | (fail_if_success have := nb7); intro nb7 | (fail_if_success have := nb8); intro nb8 | (fail_if_success have := nb9); intro nb9 | (fail_if_success have := nb10); intro nb10 | (fail_if_success have := nb11); intro nb11 | (fail_if_success have := nb12); intro nb12 | intro nbz) | (apply Yfr; refine Yf FR fun hFRb FR => ?_) | refine Two.mk ?_ ?_ | (apply Yxc; exact Yx) | refine Cs.mk fun hcs => Sm.out ?_ | go_step | omega | (simp only [maxLen_eq]; omega) | exact trivial
  have hne := FR.out
  have hx0 : ∃ x : Nat, x ≠ nb1 ∧ x ≠ nb2 ∧ x ≠ b := ⟨nb1 + nb2 + b + 1, by omega, by omega, by omega⟩
  obtain ⟨x0, e1, e2, e3⟩ := hx0
  have e1' := Ne.symm e1
  have e2' := Ne.symm e2
  have e3' := Ne.symm e3
  refine WP.loop (Γ := GeG) (fun g => ⟨[(7, iv .i64 (g.i : Int)), (6, iv .i64 (n : Int)), (3, pt nb2 0), (2, pt nb1 0), (0, pt b 0)], eH g.A g.x g.c ++ [(b, stM g.o), (nb2, .cells [eV g.A g.x g.c, iv .u64 0] 2 27), (nb1, .cells [.lit (.slice none 0 0), iv .u64 0] 2 27)]⟩)
    (fun g => (g.i ≤ n ∧ g.A.length = g.i ∧ g.i ≤ g.c ∧ g.c ≤ 9223372036854775807) ∧ bgL (n - g.i) g.A g.o = bgL n [] o0 ∧ okS g.o ∧ (∀ e ∈ g.A, Kz e.k) ∧ (g.x ≠ nb1 ∧ nb1 ≠ g.x) ∧ (g.x ≠ nb2 ∧ nb2 ≠ g.x) ∧ (g.x ≠ b ∧ b ≠ g.x)) (fun g => n - g.i) ⟨0, [], o0, x0, 0⟩
    ⟨⟨Nat.zero_le _, rfl, Nat.le_refl _, by simp⟩, rfl, ho0, (fun e he => by cases he), ⟨e1, e1'⟩, ⟨e2, e2'⟩, ⟨e3, e3'⟩⟩ (Sub.pick (by simp [pickB, hget, hdel, FR.out, hne, eV, eH, List.nil_append]) (by simp [look, hne, eV, eH, List.nil_append])) ?_
  clear e1 e2 e3 e1' e2' e3' ho0 cC
  intro ⟨i, A, o', x, c⟩ ⟨⟨hi, ha, g1, g2⟩, hG, hok, hkz, x1, x2, x3⟩
  simp only at hi ha g1 g2 hG hok hkz x1 x2 x3 ⊢
  have FR : Sm (¬ ((1 : Nat) = 0)) := Sm.mk Nat.one_ne_zero
  rw [← hG] at hB2
  by_cases hin : i < n
  · have ki : decide ((i : Int) < (n : Int)) = true := decide_eq_true (by omega)
    have s1 : IntKind.i64.wrap ((i : Int) + 1) = ((i + 1 : Nat) : Int) := by rw [wrap_i64 (by omega) (by omega)]; omega
    have hG2 : bgL (n - (i + 1)) (A ++ [(enS o').1]) (enS o').2 = bgL n [] o0 := by
      rw [← hG]
      obtain ⟨m, hm⟩ : ∃ m, n - i = m + 1 := ⟨n - i - 1, by omega⟩
      rw [hm, show n - (i + 1) = m by omega]; rfl
    have k1 := kget_ct b o' hok
    have k2 := number_ct b (kgS o').2 (kgS_ok hok)
    have k3 := number_ct b (nuS (kgS o').2).2 (nuS_ok (kgS_ok hok))
    have k4 := countS b 1000000 (by omega) (by omega) (nuS (nuS (kgS o').2).2).2 (nuS_ok (nuS_ok (kgS_ok hok)))
    have k5 := flagS b (cS 1000000 (nuS (nuS (kgS o').2).2).2).2 (rS_ok (cF_sf _) (nuS_ok (nuS_ok (kgS_ok hok))))
    have hkk := kgS_kz o'
    have hok5 := enS_ok hok
    have hE : (enS o').1 = ⟨(kgS o').1, (nuS (kgS o').2).1, (nuS (nuS (kgS o').2).2).1, (((cS 1000000 (nuS (nuS (kgS o').2).2).2).1 : Nat) : Int), (fS (cS 1000000 (nuS (nuS (kgS o').2).2).2).2).1⟩ := rfl
    have hO : (enS o').2 = (fS (cS 1000000 (nuS (nuS (kgS o').2).2).2).2).2 := rfl
    rw [← hO] at k5
    obtain ⟨K0, hK0⟩ : ∃ q, q = (kgS o').1 := ⟨_, rfl⟩
    obtain ⟨v1, hv1⟩ : ∃ q, q = (nuS (kgS o').2).1 := ⟨_, rfl⟩
    obtain ⟨v2, hv2⟩ : ∃ q, q = (nuS (nuS (kgS o').2).2).1 := ⟨_, rfl⟩
    obtain ⟨v3, hv3⟩ : ∃ q : Nat, q = (cS 1000000 (nuS (nuS (kgS o').2).2).2).1 := ⟨_, rfl⟩
    obtain ⟨v4, hv4⟩ : ∃ q, q = (fS (cS 1000000 (nuS (nuS (kgS o').2).2).2).2).1 := ⟨_, rfl⟩
    rw [← hK0] at k1 hE hkk
    rw [← hv1] at k2 hE
    rw [← hv2] at k3 hE
    rw [← hv3] at k4 hE
    rw [← hv4] at k5 hE
    obtain ⟨M0, hM0⟩ : ∃ M, M = stM o' := ⟨_, rfl⟩
    rw [← hM0] at k1 ⊢
    obtain ⟨M1, hM1⟩ : ∃ M, M = stM (kgS o').2 := ⟨_, rfl⟩
    rw [← hM1] at k1 k2
    obtain ⟨M2, hM2⟩ : ∃ M, M = stM (nuS (kgS o').2).2 := ⟨_, rfl⟩
    rw [← hM2] at k2 k3
    obtain ⟨M3, hM3⟩ : ∃ M, M = stM (nuS (nuS (kgS o').2).2).2 := ⟨_, rfl⟩
    rw [← hM3] at k3 k4
    obtain ⟨M4, hM4⟩ : ∃ M, M = stM (cS 1000000 (nuS (nuS (kgS o').2).2).2).2 := ⟨_, rfl⟩
    rw [← hM4] at k4 k5
    obtain ⟨E, hEv⟩ : ∃ E, E = (enS o').1 := ⟨_, rfl⟩
    obtain ⟨o5, ho5⟩ : ∃ q, q = (enS o').2 := ⟨_, rfl⟩
    rw [← hEv] at hE hG2
    rw [← ho5] at k5 hG2 hok5
    obtain ⟨M5, hM5⟩ : ∃ M, M = stM o5 := ⟨_, rfl⟩
    rw [← hM5] at k5
    clear hK0 hv1 hv2 hv3 hv4 hM0 hM1 hM2 hM3 hM4 hEv ho5 hO hG hok hB2
    have hkz2 : ∀ e ∈ A ++ [E], Kz e.k := fun e he => by
      rcases List.mem_append.1 he with h1 | h1
      · exact hkz e h1
      · rw [List.mem_singleton.1 h1, hE]; exact hkk
    have hAl1 : (A ++ [E]).length = i + 1 := by rw [List.length_append, ha]; rfl
    have hAa := ecs_app A [E]
    obtain ⟨kg, kr, kp, ke, ks⟩ := K0
    subst hE
    cases A with
    | nil =>
      simp only [eV, eH, List.nil_append]
      have hi0 : i = 0 := ha.symm
      first | (have FRx := FR; clear FRx) | have FR := fr0S
      have FA := Sm.mk (And.intro TFOuCC (And.intro ki (And.intro s1 (And.intro x1 (And.intro x2 (And.intro x3 hne))))))
      repeat' first | (apply Sm.mk; refine Ys ?_) | refine WP.seq fun K hK => ?_ | (apply Ob.mk; exact Yo) | refine And.intro (Ob.out ?_) ?_ | refine Y1OuCC ?_ | refine Yw1 (c := k1) (r := ?_) | refine Yw1 (c := k2) (r := ?_) | refine Yw1 (c := k3) (r := ?_) | refine Yw1 (c := k4) (r := ?_) | refine Yw1 (c := k5) (r := ?_) | refine YzOuCC ?_ | (refine WP.cond rfl (fun hc => ?_) (fun hc => ?_) <;> (try simp only [ZC, reduceCtorEq, ZD] at hc) <;> (try exact absurd hc (by decide)) <;> (try (exfalso; omega))) | refine Rt.mk (And.intro (fun hg => Sm.out ?_) fun hg => Sm.out ?_) | (refine Nu.mk ?_; first | (fail_if_success have := nb1); intro nb1 | (fail_if_success have := nb2); intro nb2 | (fail_if_success have := nb3); intro nb3 | (fail_if_success have := nb4); intro nb4 | (fail_if_success have := nb5); intro nb5 | (fail_if_success have := nb6); intro nb6 | (fail_if_success have := nb7); intro nb7 | (fail_if_success have := nb8); intro nb8 | (fail_if_success have := nb9); intro nb9 | (fail_if_success have := nb10); intro nb10 | (fail_if_success have := nb11); intro nb11 | (fail_if_success have := nb12); intro nb12 | intro nbz) | (apply Yfr; refine Yf FR fun hFRb FR => ?_) | refine Two.mk ?_ ?_ | (apply Yxc; exact Yx) | refine Cs.mk fun hcs => Sm.out ?_ | go_step | omega | (simp only [maxLen_eq]; omega) | exact trivial
      have hbb : 1 ≤ nb6 ∧ nb6 ≤ 9223372036854775807 := by have := hFRb; omega
      have f1 : nb5 ≠ nb1 ∧ nb1 ≠ nb5 := by simp [FR.out]
      have f2 : nb5 ≠ nb2 ∧ nb2 ≠ nb5 := by simp [FR.out]
      have f3 : nb5 ≠ b ∧ b ≠ nb5 := by simp [FR.out]
      have hkc : ecs [(⟨⟨kg, kr, kp, ke, ks⟩, v1, v2, (v3 : Int), v4⟩ : En)] = [.lit (.string kg), .lit (.string kr), bv kp, iv .u64 ke, bv ks, iv .i64 v1, iv .i64 v2, iv .i64 (v3 : Int), bv v4] := rfl
      exact ⟨⟨i + 1, [⟨⟨kg, kr, kp, ke, ks⟩, v1, v2, (v3 : Int), v4⟩], o5, nb5, nb6⟩, ⟨⟨by simp only; omega, hAl1, by simp only; omega, hbb.2⟩, hG2, hok5, hkz2, f1, f2, f3⟩, by simp only; omega, (Sub.pick (by simp [pickB, hget, hdel, FR.out, f1, f2, f3, hne, hkc, hM5, eV, eH, List.nil_append, List.length_nil, Nat.zero_add]) (by simp [look, f1, f2, f3, hne, hkc, hM5, eV, eH, List.nil_append, List.length_nil, Nat.zero_add]))⟩
    | cons a r =>
      simp only [eV, eH, List.cons_append, List.nil_append]
      have hAl := ecs_len (a :: r)
      have hAo := ecs_one (a :: r)
      obtain ⟨C1, hC1⟩ : ∃ q, q = ecs (a :: r) := ⟨_, rfl⟩
      rw [← hC1] at hAl hAo hAa ⊢
      rw [List.length_cons] at hAl ha
      first | (have FRx := FR; clear FRx) | have FR := fr0S
      have FA := Sm.mk (And.intro TFOuCC (And.intro ki (And.intro s1 (And.intro x1 (And.intro x2 (And.intro x3 (And.intro hne (And.intro hAl hAo))))))))
      repeat' first | (apply Sm.mk; refine Ys ?_) | refine WP.seq fun K hK => ?_ | (apply Ob.mk; exact Yo) | refine And.intro (Ob.out ?_) ?_ | refine Y1OuCC ?_ | refine Yw1 (c := k1) (r := ?_) | refine Yw1 (c := k2) (r := ?_) | refine Yw1 (c := k3) (r := ?_) | refine Yw1 (c := k4) (r := ?_) | refine Yw1 (c := k5) (r := ?_) | refine YzOuCC ?_ | (refine WP.cond rfl (fun hc => ?_) (fun hc => ?_) <;> (try simp only [ZC, reduceCtorEq, ZD] at hc) <;> (try exact absurd hc (by decide)) <;> (try (exfalso; omega))) | refine Rt.mk (And.intro (fun hg => Sm.out ?_) fun hg => Sm.out ?_) | (refine Nu.mk ?_; first | (fail_if_success have := nb1); intro nb1 | (fail_if_success have := nb2); intro nb2 | (fail_if_success have := nb3); intro nb3 | (fail_if_success have := nb4); intro nb4 | (fail_if_success have := nb5); intro nb5 | (fail_if_success have := nb6); intro nb6 | (fail_if_success have := nb7); intro nb7 | (fail_if_success have := nb8); intro nb8 | (fail_if_success have := nb9); intro nb9 | (fail_if_success have := nb10); intro nb10 | (fail_if_success have := nb11); intro nb11 | (fail_if_success have := nb12); intro nb12 | intro nbz) | (apply Yfr; refine Yf FR fun hFRb FR => ?_) | refine Two.mk ?_ ?_ | (apply Yxc; exact Yx) | refine Cs.mk fun hcs => Sm.out ?_ | go_step | omega | (simp only [maxLen_eq]; omega) | exact trivial
      have hbb : r.length + 1 + 1 ≤ nb6 ∧ nb6 ≤ 9223372036854775807 := by have := hFRb; omega
      have f1 : nb5 ≠ nb1 ∧ nb1 ≠ nb5 := by simp [FR.out]
      have f2 : nb5 ≠ nb2 ∧ nb2 ≠ nb5 := by simp [FR.out]
      have f3 : nb5 ≠ b ∧ b ≠ nb5 := by simp [FR.out]
      have hrl : (r ++ [(⟨⟨kg, kr, kp, ke, ks⟩, v1, v2, (v3 : Int), v4⟩ : En)]).length = r.length + 1 := by simp
      have hQc : C1 ++ [.lit (.string kg), .lit (.string kr), bv kp, iv .u64 ke, bv ks, iv .i64 v1, iv .i64 v2, iv .i64 (v3 : Int), bv v4] = ecs (a :: (r ++ [(⟨⟨kg, kr, kp, ke, ks⟩, v1, v2, (v3 : Int), v4⟩ : En)])) := hAa.symm
      exact ⟨⟨i + 1, a :: (r ++ [(⟨⟨kg, kr, kp, ke, ks⟩, v1, v2, (v3 : Int), v4⟩ : En)]), o5, nb5, nb6⟩, ⟨⟨by simp only; omega, hAl1, by simp only; omega, hbb.2⟩, hG2, hok5, hkz2, f1, f2, f3⟩, by simp only; omega, (Sub.pick (by simp [pickB, hget, hdel, FR.out, f1, f2, f3, hne, hQc, hrl, hM5, eV, eH, List.cons_append, List.nil_append]) (by simp [look, f1, f2, f3, hne, hQc, hrl, hM5, eV, eH, List.cons_append, List.nil_append]))⟩
  · have ki : decide ((i : Int) < (n : Int)) = false := decide_eq_false (by omega)
    obtain rfl : i = n := by omega
    rw [Nat.sub_self] at hB2
    have hB3 : B = if (nS o').2.isSome && bxB ⟨A, (((nS o').1 : Nat) : Int)⟩ then (⟨A, (((nS o').1 : Nat) : Int)⟩, (nS o').2) else (⟨[], 0⟩, none) := hB2
    clear hB2 hG
    have cN := numS b o' hok
    have hok2 : okS (nS o').2 := rS_ok nF_sf hok
    have cB := badS b (nS o').2
    have cS := spoilS b (nS o').2 hok2
    have cR := bright_ct ⟨A, (((nS o').1 : Nat) : Int)⟩ i ha (by omega) hkz
    obtain ⟨d, hd⟩ : ∃ q : Nat, q = (nS o').1 := ⟨_, rfl⟩
    rw [← hd] at cN cR hB3
    obtain ⟨o2, ho2⟩ : ∃ q, q = (nS o').2 := ⟨_, rfl⟩
    rw [← ho2] at cN cB cS hB3 hok2
    obtain ⟨M0, hM0⟩ : ∃ M, M = stM o' := ⟨_, rfl⟩
    rw [← hM0] at cN ⊢
    obtain ⟨q, hq⟩ : ∃ q, bxB ⟨A, (d : Int)⟩ = q := ⟨_, rfl⟩
    rw [hq] at cR hB3
    clear hd ho2 hM0 hq hkz hok
    simp only at cR
    cases A with
    | nil =>
      simp only [eV, eH, List.nil_append]
      obtain rfl : i = 0 := ha.symm
      have cR2 : ACt Tryd.prog 16 [.agg [nsl, iv .u64 (d : Int)]] [] (fun r F' => r = bv q ∧ F' = []) := cR.view rfl ⟨vw_nil, trivial⟩
      clear cR
      cases o2 with
      | none =>
        obtain rfl : B = (⟨[], 0⟩, none) := hB3.trans rfl
        have cB : ACt Tryd.prog 35 [pt b 0] [(b, rdN)] (fun r F' => r = bv true ∧ F' = [(b, rdN)]) := cB
        have cN : ACt Tryd.prog 65 [pt b 0] [(b, M0)] (fun r F' => r = iv .u64 (d : Int) ∧ F' = [(b, rdN)]) := cN
        have cS : ACt Tryd.prog 61 [pt b 0, iv .i64 (-1)] [(b, rdN)] (fun r F' => r = iv .i64 0 ∧ F' = [(b, rdN)]) := cS
        first | (have FRx := FR; clear FRx) | have FR := fr0S
        have FA := Sm.mk (And.intro TFOuCC (And.intro ki (And.intro x1 (And.intro x2 (And.intro x3 hne)))))
        repeat' first | (apply Sm.mk; refine Ys ?_) | refine WP.seq fun K hK => ?_ | (apply Ob.mk; exact Yo) | refine And.intro (Ob.out ?_) ?_ | refine Y1OuCC ?_ | refine Yw1 (c := cN) (r := ?_) | refine Yl1 (c := cB) (r := ?_) | refine Yc (c := cR2) (r := ?_) | refine Yw1 (c := cS) (r := ?_) | refine YzOuCC ?_ | (refine WP.cond rfl (fun hc => ?_) (fun hc => ?_) <;> (try simp only [ZC, reduceCtorEq, ZD] at hc) <;> (try exact absurd hc (by decide)) <;> (try (exfalso; omega))) | refine Rt.mk (And.intro (fun hg => Sm.out ?_) fun hg => Sm.out ?_) | (refine Nu.mk ?_; first | (fail_if_success have := nb1); intro nb1 | (fail_if_success have := nb2); intro nb2 | (fail_if_success have := nb3); intro nb3 | (fail_if_success have := nb4); intro nb4 | (fail_if_success have := nb5); intro nb5 | (fail_if_success have := nb6); intro nb6 | (fail_if_success have := nb7); intro nb7 | (fail_if_success have := nb8); intro nb8 | (fail_if_success have := nb9); intro nb9 | (fail_if_success have := nb10); intro nb10 | (fail_if_success have := nb11); intro nb11 | (fail_if_success have := nb12); intro nb12 | intro nbz) | (apply Yfr; refine Yf FR fun hFRb FR => ?_) | refine Two.mk ?_ ?_ | (apply Yxc; exact Yx) | refine Cs.mk fun hcs => Sm.out ?_ | go_step | omega | (simp only [maxLen_eq]; omega) | exact trivial
        (refine OutQ.drop _ _ (perm1 (b := b) (by simp only [hget, hdel, ↓reduceIte, if_true, if_false, FR.out, x1, x2, x3, hne]; first | done | rfl)) (by simp only [resv, ZK, look, loadv, loadn, loadnm, load1, load1m, hget, ↓reduceIte, Nat.reduceEqDiff, Nat.reduceAdd, Nat.reduceMul, Nat.reduceLeDiff, Nat.reduceLT, reduceCtorEq, TFOuCC, FR.out, x1, x2, x3, hne]) ?_; simp only [resv, resA, ZK, look, loadv, loadn, loadnm, load1, load1m, hget, ↓reduceIte, Nat.reduceEqDiff, Nat.reduceAdd, Nat.reduceMul, Nat.reduceLeDiff, Nat.reduceLT, reduceCtorEq, TFOuCC, FR.out, x1, x2, x3, hne]; exact ⟨[], rfl, vw_nil⟩)
      | some zs =>
        have cB : ACt Tryd.prog 35 [pt b 0] [(b, stM (some zs))] (fun r F' => r = bv false ∧ F' = [(b, stM (some zs))]) := cB
        cases q with
        | false =>
          obtain rfl : B = (⟨[], 0⟩, none) := hB3.trans rfl
          obtain ⟨M1, hM1⟩ : ∃ M, M = stM (some zs) := ⟨_, rfl⟩
          rw [← hM1] at cN cB cS
          first | (have FRx := FR; clear FRx) | have FR := fr0S
          have FA := Sm.mk (And.intro TFOuCC (And.intro ki (And.intro x1 (And.intro x2 (And.intro x3 hne)))))
          repeat' first | (apply Sm.mk; refine Ys ?_) | refine WP.seq fun K hK => ?_ | (apply Ob.mk; exact Yo) | refine And.intro (Ob.out ?_) ?_ | refine Y1OuCC ?_ | refine Yw1 (c := cN) (r := ?_) | refine Yl1 (c := cB) (r := ?_) | refine Yc (c := cR2) (r := ?_) | refine Yw1 (c := cS) (r := ?_) | refine YzOuCC ?_ | (refine WP.cond rfl (fun hc => ?_) (fun hc => ?_) <;> (try simp only [ZC, reduceCtorEq, ZD] at hc) <;> (try exact absurd hc (by decide)) <;> (try (exfalso; omega))) | refine Rt.mk (And.intro (fun hg => Sm.out ?_) fun hg => Sm.out ?_) | (refine Nu.mk ?_; first | (fail_if_success have := nb1); intro nb1 | (fail_if_success have := nb2); intro nb2 | (fail_if_success have := nb3); intro nb3 | (fail_if_success have := nb4); intro nb4 | (fail_if_success have := nb5); intro nb5 | (fail_if_success have := nb6); intro nb6 | (fail_if_success have := nb7); intro nb7 | (fail_if_success have := nb8); intro nb8 | (fail_if_success have := nb9); intro nb9 | (fail_if_success have := nb10); intro nb10 | (fail_if_success have := nb11); intro nb11 | (fail_if_success have := nb12); intro nb12 | intro nbz) | (apply Yfr; refine Yf FR fun hFRb FR => ?_) | refine Two.mk ?_ ?_ | (apply Yxc; exact Yx) | refine Cs.mk fun hcs => Sm.out ?_ | go_step | omega | (simp only [maxLen_eq]; omega) | exact trivial
          (refine OutQ.drop _ _ (perm1 (b := b) (by simp only [hget, hdel, ↓reduceIte, if_true, if_false, FR.out, x1, x2, x3, hne]; first | done | rfl)) (by simp only [resv, ZK, look, loadv, loadn, loadnm, load1, load1m, hget, ↓reduceIte, Nat.reduceEqDiff, Nat.reduceAdd, Nat.reduceMul, Nat.reduceLeDiff, Nat.reduceLT, reduceCtorEq, TFOuCC, FR.out, x1, x2, x3, hne]) ?_; simp only [resv, resA, ZK, look, loadv, loadn, loadnm, load1, load1m, hget, ↓reduceIte, Nat.reduceEqDiff, Nat.reduceAdd, Nat.reduceMul, Nat.reduceLeDiff, Nat.reduceLT, reduceCtorEq, TFOuCC, FR.out, x1, x2, x3, hne]; exact ⟨[], rfl, vw_nil⟩)
        | true =>
          obtain rfl : B = (⟨[], (d : Int)⟩, some zs) := hB3.trans rfl
          obtain ⟨M1, hM1⟩ : ∃ M, M = stM (some zs) := ⟨_, rfl⟩
          rw [← hM1] at cN cB cS
          first | (have FRx := FR; clear FRx) | have FR := fr0S
          have FA := Sm.mk (And.intro TFOuCC (And.intro ki (And.intro x1 (And.intro x2 (And.intro x3 hne)))))
          repeat' first | (apply Sm.mk; refine Ys ?_) | refine WP.seq fun K hK => ?_ | (apply Ob.mk; exact Yo) | refine And.intro (Ob.out ?_) ?_ | refine Y1OuCC ?_ | refine Yw1 (c := cN) (r := ?_) | refine Yl1 (c := cB) (r := ?_) | refine Yc (c := cR2) (r := ?_) | refine Yw1 (c := cS) (r := ?_) | refine YzOuCC ?_ | (refine WP.cond rfl (fun hc => ?_) (fun hc => ?_) <;> (try simp only [ZC, reduceCtorEq, ZD] at hc) <;> (try exact absurd hc (by decide)) <;> (try (exfalso; omega))) | refine Rt.mk (And.intro (fun hg => Sm.out ?_) fun hg => Sm.out ?_) | (refine Nu.mk ?_; first | (fail_if_success have := nb1); intro nb1 | (fail_if_success have := nb2); intro nb2 | (fail_if_success have := nb3); intro nb3 | (fail_if_success have := nb4); intro nb4 | (fail_if_success have := nb5); intro nb5 | (fail_if_success have := nb6); intro nb6 | (fail_if_success have := nb7); intro nb7 | (fail_if_success have := nb8); intro nb8 | (fail_if_success have := nb9); intro nb9 | (fail_if_success have := nb10); intro nb10 | (fail_if_success have := nb11); intro nb11 | (fail_if_success have := nb12); intro nb12 | intro nbz) | (apply Yfr; refine Yf FR fun hFRb FR => ?_) | refine Two.mk ?_ ?_ | (apply Yxc; exact Yx) | refine Cs.mk fun hcs => Sm.out ?_ | go_step | omega | (simp only [maxLen_eq]; omega) | exact trivial
          (refine OutQ.drop _ _ (perm1 (b := b) (by simp only [hget, hdel, ↓reduceIte, if_true, if_false, FR.out, x1, x2, x3, hne]; first | done | rfl)) (by simp only [resv, ZK, look, loadv, loadn, loadnm, load1, load1m, hget, ↓reduceIte, Nat.reduceEqDiff, Nat.reduceAdd, Nat.reduceMul, Nat.reduceLeDiff, Nat.reduceLT, reduceCtorEq, TFOuCC, FR.out, x1, x2, x3, hne]) ?_; simp only [resv, resA, ZK, look, loadv, loadn, loadnm, load1, load1m, hget, ↓reduceIte, Nat.reduceEqDiff, Nat.reduceAdd, Nat.reduceMul, Nat.reduceLeDiff, Nat.reduceLT, reduceCtorEq, TFOuCC, FR.out, x1, x2, x3, hne]; exact ⟨[], by rw [hM1], vw_nil⟩)
    | cons a r =>
      simp only [eV, eH, List.cons_append, List.nil_append]
      obtain rfl : i = r.length + 1 := ha.symm
      have hvw : Vw [(x, .cells (ecs (a :: r)) (c * 9) 38)] (.agg [ms x 0 (r.length + 1) c, iv .u64 (d : Int)]) (bxv ⟨a :: r, (d : Int)⟩) := vw_bx3 (s := c * 9) (ty := 38) (by simp [hget]) g1 g2
      have cR2 : ACt Tryd.prog 16 [.agg [ms x 0 (r.length + 1) c, iv .u64 (d : Int)]] [(x, .cells (ecs (a :: r)) (c * 9) 38)] (fun r' F' => r' = bv q ∧ F' = [(x, .cells (ecs (a :: r)) (c * 9) 38)]) := cR.view rfl ⟨vw_box g1 g2, trivial⟩
      clear cR
      obtain ⟨C1, hC1⟩ : ∃ C1, C1 = ecs (a :: r) := ⟨_, rfl⟩
      rw [← hC1] at hvw cR2 ⊢
      cases o2 with
      | none =>
        obtain rfl : B = (⟨[], 0⟩, none) := hB3.trans rfl
        have cB : ACt Tryd.prog 35 [pt b 0] [(b, rdN)] (fun r F' => r = bv true ∧ F' = [(b, rdN)]) := cB
        have cN : ACt Tryd.prog 65 [pt b 0] [(b, M0)] (fun r F' => r = iv .u64 (d : Int) ∧ F' = [(b, rdN)]) := cN
        have cS : ACt Tryd.prog 61 [pt b 0, iv .i64 (-1)] [(b, rdN)] (fun r F' => r = iv .i64 0 ∧ F' = [(b, rdN)]) := cS
        first | (have FRx := FR; clear FRx) | have FR := fr0S
        have FA := Sm.mk (And.intro TFOuCC (And.intro ki (And.intro x1 (And.intro x2 (And.intro x3 hne)))))
        repeat' first | (apply Sm.mk; refine Ys ?_) | refine WP.seq fun K hK => ?_ | (apply Ob.mk; exact Yo) | refine And.intro (Ob.out ?_) ?_ | refine Y1OuCC ?_ | refine Yw1 (c := cN) (r := ?_) | refine Yl1 (c := cB) (r := ?_) | refine Yl1 (c := cR2) (r := ?_) | refine Yw1 (c := cS) (r := ?_) | refine YzOuCC ?_ | (refine WP.cond rfl (fun hc => ?_) (fun hc => ?_) <;> (try simp only [ZC, reduceCtorEq, ZD] at hc) <;> (try exact absurd hc (by decide)) <;> (try (exfalso; omega))) | refine Rt.mk (And.intro (fun hg => Sm.out ?_) fun hg => Sm.out ?_) | (refine Nu.mk ?_; first | (fail_if_success have := nb1); intro nb1 | (fail_if_success have := nb2); intro nb2 | (fail_if_success have := nb3); intro nb3 | (fail_if_success have := nb4); intro nb4 | (fail_if_success have := nb5); intro nb5 | (fail_if_success have := nb6); intro nb6 | (fail_if_success have := nb7); intro nb7 | (fail_if_success have := nb8); intro nb8 | (fail_if_success have := nb9); intro nb9 | (fail_if_success have := nb10); intro nb10 | (fail_if_success have := nb11); intro nb11 | (fail_if_success have := nb12); intro nb12 | intro nbz) | (apply Yfr; refine Yf FR fun hFRb FR => ?_) | refine Two.mk ?_ ?_ | (apply Yxc; exact Yx) | refine Cs.mk fun hcs => Sm.out ?_ | go_step | omega | (simp only [maxLen_eq]; omega) | exact trivial
        (refine OutQ.drop _ _ (perm1 (b := b) (by simp only [hget, hdel, ↓reduceIte, if_true, if_false, FR.out, x1, x2, x3, hne]; first | done | rfl)) (by simp only [resv, ZK, look, loadv, loadn, loadnm, load1, load1m, hget, ↓reduceIte, Nat.reduceEqDiff, Nat.reduceAdd, Nat.reduceMul, Nat.reduceLeDiff, Nat.reduceLT, reduceCtorEq, TFOuCC, FR.out, x1, x2, x3, hne]) ?_; simp only [resv, resA, ZK, look, loadv, loadn, loadnm, load1, load1m, hget, ↓reduceIte, Nat.reduceEqDiff, Nat.reduceAdd, Nat.reduceMul, Nat.reduceLeDiff, Nat.reduceLT, reduceCtorEq, TFOuCC, FR.out, x1, x2, x3, hne]; exact ⟨[], rfl, vw_nil⟩)
      | some zs =>
        have cB : ACt Tryd.prog 35 [pt b 0] [(b, stM (some zs))] (fun r F' => r = bv false ∧ F' = [(b, stM (some zs))]) := cB
        cases q with
        | false =>
          obtain rfl : B = (⟨[], 0⟩, none) := hB3.trans rfl
          obtain ⟨M1, hM1⟩ : ∃ M, M = stM (some zs) := ⟨_, rfl⟩
          rw [← hM1] at cN cB cS
          first | (have FRx := FR; clear FRx) | have FR := fr0S
          have FA := Sm.mk (And.intro TFOuCC (And.intro ki (And.intro x1 (And.intro x2 (And.intro x3 hne)))))
          repeat' first | (apply Sm.mk; refine Ys ?_) | refine WP.seq fun K hK => ?_ | (apply Ob.mk; exact Yo) | refine And.intro (Ob.out ?_) ?_ | refine Y1OuCC ?_ | refine Yw1 (c := cN) (r := ?_) | refine Yl1 (c := cB) (r := ?_) | refine Yl1 (c := cR2) (r := ?_) | refine Yw1 (c := cS) (r := ?_) | refine YzOuCC ?_ | (refine WP.cond rfl (fun hc => ?_) (fun hc => ?_) <;> (try simp only [ZC, reduceCtorEq, ZD] at hc) <;> (try exact absurd hc (by decide)) <;> (try (exfalso; omega))) | refine Rt.mk (And.intro (fun hg => Sm.out ?_) fun hg => Sm.out ?_) | (refine Nu.mk ?_; first | (fail_if_success have := nb1); intro nb1 | (fail_if_success have := nb2); intro nb2 | (fail_if_success have := nb3); intro nb3 | (fail_if_success have := nb4); intro nb4 | (fail_if_success have := nb5); intro nb5 | (fail_if_success have := nb6); intro nb6 | (fail_if_success have := nb7); intro nb7 | (fail_if_success have := nb8); intro nb8 | (fail_if_success have := nb9); intro nb9 | (fail_if_success have := nb10); intro nb10 | (fail_if_success have := nb11); intro nb11 | (fail_if_success have := nb12); intro nb12 | intro nbz) | (apply Yfr; refine Yf FR fun hFRb FR => ?_) | refine Two.mk ?_ ?_ | (apply Yxc; exact Yx) | refine Cs.mk fun hcs => Sm.out ?_ | go_step | omega | (simp only [maxLen_eq]; omega) | exact trivial
          (refine OutQ.drop _ _ (perm1 (b := b) (by simp only [hget, hdel, ↓reduceIte, if_true, if_false, FR.out, x1, x2, x3, hne]; first | done | rfl)) (by simp only [resv, ZK, look, loadv, loadn, loadnm, load1, load1m, hget, ↓reduceIte, Nat.reduceEqDiff, Nat.reduceAdd, Nat.reduceMul, Nat.reduceLeDiff, Nat.reduceLT, reduceCtorEq, TFOuCC, FR.out, x1, x2, x3, hne]) ?_; simp only [resv, resA, ZK, look, loadv, loadn, loadnm, load1, load1m, hget, ↓reduceIte, Nat.reduceEqDiff, Nat.reduceAdd, Nat.reduceMul, Nat.reduceLeDiff, Nat.reduceLT, reduceCtorEq, TFOuCC, FR.out, x1, x2, x3, hne]; exact ⟨[], rfl, vw_nil⟩)
        | true =>
          obtain rfl : B = (⟨a :: r, (d : Int)⟩, some zs) := hB3.trans rfl
          obtain ⟨M1, hM1⟩ : ∃ M, M = stM (some zs) := ⟨_, rfl⟩
          rw [← hM1] at cN cB cS
          first | (have FRx := FR; clear FRx) | have FR := fr0S
          have FA := Sm.mk (And.intro TFOuCC (And.intro ki (And.intro x1 (And.intro x2 (And.intro x3 hne)))))
          repeat' first | (apply Sm.mk; refine Ys ?_) | refine WP.seq fun K hK => ?_ | (apply Ob.mk; exact Yo) | refine And.intro (Ob.out ?_) ?_ | refine Y1OuCC ?_ | refine Yw1 (c := cN) (r := ?_) | refine Yl1 (c := cB) (r := ?_) | refine Yl1 (c := cR2) (r := ?_) | refine Yw1 (c := cS) (r := ?_) | refine YzOuCC ?_ | (refine WP.cond rfl (fun hc => ?_) (fun hc => ?_) <;> (try simp only [ZC, reduceCtorEq, ZD] at hc) <;> (try exact absurd hc (by decide)) <;> (try (exfalso; omega))) | refine Rt.mk (And.intro (fun hg => Sm.out ?_) fun hg => Sm.out ?_) | (refine Nu.mk ?_; first | (fail_if_success have := nb1); intro nb1 | (fail_if_success have := nb2); intro nb2 | (fail_if_success have := nb3); intro nb3 | (fail_if_success have := nb4); intro nb4 | (fail_if_success have := nb5); intro nb5 | (fail_if_success have := nb6); intro nb6 | (fail_if_success have := nb7); intro nb7 | (fail_if_success have := nb8); intro nb8 | (fail_if_success have := nb9); intro nb9 | (fail_if_success have := nb10); intro nb10 | (fail_if_success have := nb11); intro nb11 | (fail_if_success have := nb12); intro nb12 | intro nbz) | (apply Yfr; refine Yf FR fun hFRb FR => ?_) | refine Two.mk ?_ ?_ | (apply Yxc; exact Yx) | refine Cs.mk fun hcs => Sm.out ?_ | go_step | omega | (simp only [maxLen_eq]; omega) | exact trivial
          (refine OutQ.drop _ _ (perm2 (b1 := b) (b2 := x) (by simp only [hget, hdel, ↓reduceIte, if_true, if_false, FR.out, x1, x2, x3, hne]; first | done | rfl) (by simp only [hget, hdel, ↓reduceIte, if_true, if_false, FR.out, x1, x2, x3, hne]; first | done | rfl)) (by simp only [resv, ZK, look, loadv, loadn, loadnm, load1, load1m, hget, ↓reduceIte, Nat.reduceEqDiff, Nat.reduceAdd, Nat.reduceMul, Nat.reduceLeDiff, Nat.reduceLT, reduceCtorEq, TFOuCC, FR.out, x1, x2, x3, hne]) ?_; simp only [resv, resA, ZK, look, loadv, loadn, loadnm, load1, load1m, hget, ↓reduceIte, Nat.reduceEqDiff, Nat.reduceAdd, Nat.reduceMul, Nat.reduceLeDiff, Nat.reduceLT, reduceCtorEq, TFOuCC, FR.out, x1, x2, x3, hne]; exact ⟨[(x, .cells C1 (c * 9) 38)], by rw [hM1], hvw⟩)
theorem bget_ct (b : Nat) (o : Option (List Int)) (h : okS o) : ACt Tryd.prog 31 [pt b 0] [(b, stM o)] (fun r F' => r = bxv (bgS o).1 ∧ F' = [(b, stM (bgS o).2)]) := ACt.fzVF (bget_st b o h)
end Go.Proofs.YtfknbndmabogjaaDoor
