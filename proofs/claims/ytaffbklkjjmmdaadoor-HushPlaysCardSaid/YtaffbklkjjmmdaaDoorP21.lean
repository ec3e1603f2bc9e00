/-
  The walks and the laws that the statement leans on, part 21.
-/
import Derived.Test.YtaffbklkjjmmdaaDoorP9
import Derived.Test.YtaffbklkjjmmdaaDoorP20
namespace Go.Proofs.YtaffbklkjjmmdaaDoor
open Go
set_option linter.unusedVariables false
set_option linter.unusedSimpArgs false
set_option linter.defProp false
def TFHuE :=
  And.intro (And.intro (And.intro (And.intro (And.intro tyc0 tyc2) (And.intro zmb2 (And.intro tyc3 zmb3))) (And.intro (And.intro tyc4 zmb4) (And.intro tyc9 (And.intro zmb9 tyc22)))) (And.intro (And.intro (And.intro elt22 mkz22) (And.intro mkc22 (And.intro apT22 elk22))) (And.intro (And.intro zmb22 (And.intro tyc30 zmb30)) (And.intro tyc32 (And.intro foff32_0 fpart32_0))))) (And.intro (And.intro (And.intro (And.intro foff32_1 fpart32_1) (And.intro foff32_2 (And.intro fpart32_2 foff32_3))) (And.intro (And.intro fpart32_3 (And.intro foff32_4 fpart32_4)) (And.intro fe32 (And.intro zmb32 bldT32)))) (And.intro (And.intro (And.intro tyc40 zmb40) (And.intro Tryd.underlying0 (And.intro Tryd.underlying2 Tryd.underlying3))) (And.intro (And.intro Tryd.underlying4 (And.intro Tryd.underlying9 Tryd.underlying22)) (And.intro Tryd.underlying30 (And.intro Tryd.underlying32 Tryd.underlying40)))))
theorem Y1HuE {G R : Prop} (r : R) (h : R → G := by intro r; first | (apply WP.region; exact rvc_sound _ _ (Sm.out r)) | exact WP.drawK rfl mixed (by decide +kernel) (Sm.out r) | (apply WP.block; exact r) | (apply WP.skip; exact Yq r) | (apply WP.exit; exact Yq r) | (apply WP.ret; exact Sm.out r) | exact WP.cond rfl (fun _ => r) (fun hg => absurd hg (by decide)) | exact WP.cond rfl (fun hg => absurd hg (by decide)) (fun _ => r) | exact Rt.mk (And.intro (fun _ => Sm.out r) fun hg => absurd hg (by decide)) | exact Rt.mk (And.intro (fun hg => absurd hg (by decide)) fun _ => Sm.out r)) : G := h r
theorem YzHuE {G R : Prop} (r : R) (h : R → G := by intro r; first | (apply ExG.no; exact Sm.out r) | (apply Or.inl; apply ExG.no; exact Sm.out r) | exact Or.inl (And.intro (fun hg => absurd hg (by decide)) (ExG.no (Sm.out r)))) : G := h r
theorem Vw.rep2 {cx : Cx} {H X : Hp} {w : World} {I' : Nat → Prop} (hw : OkW cx H w) (hs : ∀ x ∈ X, x ∈ H) (hlt : ∀ b, imm cx w H b → I' b) (hk : ∀ x ∈ X, I' x.1) {x y : AV} (h : Vw X x y) : ∀ {v : Value}, Rep w (imm cx w H) v x → Rep w I' v y := by
  induction h with
  | same x => exact fun hv => hv.mono fun b hb => ⟨hlt b hb, rfl⟩
  | @row b off n cap sz ty k zs hg h1 h2 h3 =>
    intro v hv
    have := hv.lit_inv; subst this
    obtain ⟨cur, c1, c2, c3, c4⟩ := hw.mem _ (hs _ (hget_mem hg))
    have e : ((zs.drop off).take n).length = n := by simp; omega
    have : Rep w I' (.slice (some ⟨b, off, none⟩) ((zs.drop off).take n).length cap) (.slz k ((zs.drop off).take n)) := by
      refine .slz _ _ _ _ (by omega) h3 (.inr ⟨b, off, rfl, hk _ (hget_mem hg), fun i hi => ?_⟩)
      rw [e] at hi
      rw [cell_of_block c1, c4 _ (by omega)]
      simp [List.getD, List.getElem?_take, List.getElem?_drop, hi]
    rw [e] at this
    exact this
  | @rowc b off n cap sz ty cs ds hg h1 h2 h3 h ih =>
    intro v hv
    have := hv.lit_inv; subst this
    obtain ⟨cur, c1, c2, c3, c4⟩ := hw.mem _ (hs _ (hget_mem hg))
    refine .sl _ _ _ _ (fun i => cur.getD (off + i) undef) h2 h3 (.inr ⟨b, off, rfl, hk _ (hget_mem hg), fun i hi => ?_⟩) fun i hi => ih i hi ?_
    · rw [cell_of_block c1]
      have : off + i < cur.size := by omega
      simp [this]
    · have h4 := c4 (off + i) (by omega)
      have : cs.getD (off + i) .any = cs[off + i]'(by omega) := by simp [List.getD, show off + i < cs.length by omega]
      rw [this]
      exact h4
  | @ptc b off sz ty cs ds hg h1 h ih =>
    intro v hv
    have := hv.lit_inv; subst this
    obtain ⟨cur, c1, c2, c3, c4⟩ := hw.mem _ (hs _ (hget_mem hg))
    refine .ip _ _ (fun i => cur.getD (off + i) undef) (.inr ⟨b, off, rfl, hk _ (hget_mem hg), fun i hi => ?_⟩) fun i hi => ih i hi ?_
    · rw [cell_of_block c1]
      have : off + i < cur.size := by omega
      simp [this]
    · have h4 := c4 (off + i) (by omega)
      have : cs.getD (off + i) .any = cs[off + i]'(by omega) := by simp [List.getD, show off + i < cs.length by omega]
      rw [this]
      exact h4
  | @ptz b off sz ty k zs hg h1 =>
    intro v hv
    have := hv.lit_inv; subst this
    obtain ⟨cur, c1, c2, c3, c4⟩ := hw.mem _ (hs _ (hget_mem hg))
    refine .ipz _ _ _ (.inr ⟨b, off, rfl, hk _ (hget_mem hg), fun i hi => ?_⟩)
    simp only [List.length_drop] at hi
    rw [cell_of_block c1, c4 _ (by omega)]
    simp [List.getD, List.getElem?_drop]
  | @agg cs ds hl h ih =>
    intro v hv
    cases hv with
    | agg vs cs hs r =>
      refine .agg vs ds (by omega) fun i hi => ih i hi ?_
      have hic : i < cs.length := by omega
      have : cs.getD i .any = cs[i] := by simp [List.getD, hic]
      rw [this]
      exact r i hic
  | @tup cs ds hl h ih =>
    intro v hv
    cases hv with
    | tup vs cs hs r =>
      refine .tup vs ds (by omega) fun i hi => ih i hi ?_
      have hic : i < cs.length := by omega
      have : cs.getD i .any = cs[i] := by simp [List.getD, hic]
      rw [this]
      exact r i hic
  | ifc h ih =>
    intro v hv
    cases hv with
    | ifc t v x r => exact .ifc _ _ _ (ih r)
  | nils =>
    intro v hv
    have := hv.lit_inv; subst this
    exact .sl none 0 0 [] (fun _ => undef) (Nat.le_refl _) (Nat.zero_le _) (.inl rfl) (fun i hi => by simp at hi)
theorem ACt.fzVF {P : Program} {f : FuncId} {args : List AV} {F G : Hp} {y : AV} (h : ACt P f args F (fun r F' => ∃ X, F' = G ++ X ∧ Vw X r y)) : ACt P f args F (fun r F' => r = y ∧ F' = G) := by
  intro cx vs hK hKT hw hs hv
  refine (h cx vs hK hKT hw hs hv).mono ?_
  rintro e w' ⟨v, r, F', he, ⟨X, rfl, hp⟩, hw', hr⟩
  have hd := hw'.drop
  refine ⟨v, y, G, he, ⟨rfl, rfl⟩, hd.1, hp.rep2 hw' (fun x hx => List.mem_append_right _ hx) hd.2 (fun x hx => .inr ⟨hw'.keys x (List.mem_append_right _ hx), keys_lt hw' x (List.mem_append_right _ hx), fun z hz => ?_⟩) hr⟩
  have hn := hw'.nodup
  rw [List.map_append, List.nodup_append] at hn
  exact hn.2.2 z.1 (List.mem_map_of_mem hz) x.1 (List.mem_map_of_mem hx)
theorem vw_row {x n c s ty : Nat} {C : List AV} {R : AV} (hR : R = .sl n C) (h2 : n ≤ c) (h3 : c ≤ 9223372036854775807) : Vw [(x, .cells C s ty)] (ms x 0 n c) R := hR ▸
  .rowc (sz := s) (ty := ty) (cs := C) (by simp [hget]) (by omega) h2 (by rw [maxLen_eq]; omega) fun i hi => by
    rw [Nat.zero_add, List.getD_eq_getElem?_getD, List.getElem?_eq_getElem hi, Option.getD_some]
    exact .same _
theorem vw_rowc {x n c s ty : Nat} {C : List AV} {k : Int} {R : AV} (hR : R = .tup [.sl n C, iv .i64 k]) (h2 : n ≤ c) (h3 : c ≤ 9223372036854775807) : Vw [(x, .cells C s ty)] (.tup [ms x 0 n c, iv .i64 k]) R := hR ▸
  .tup rfl fun i hi => by
    match i, hi with
    | 0, _ => exact vw_row rfl h2 h3
    | 1, _ => exact .same _
theorem vw_nilc {k : Int} {R : AV} (hR : R = .tup [.sl 0 [], iv .i64 k]) : Vw [] (.tup [nsl, iv .i64 k]) R := hR ▸
  .tup rfl fun i hi => by
    match i, hi with
    | 0, _ => exact .nils
    | 1, _ => exact .same _
theorem ixnil_ct (fn : AV) : ACt Tryd.prog 67 [nsl, fn] [] (Fn (iv .i64 (-1))) := by
  refine ACt.intro Tryd.func67 rfl (by kernel_rfl) (by simp [Tryd.ntmps67]) (fun cx => ?_)
  simp only [argE, Tryd.ntmps67, Tryd.results67]
  first | (have FRx := FR; clear FRx) | have FR := fr0S
  have FA := Sm.mk (TFHuE)
  repeat' first | (apply Sm.mk; refine Ys ?_) | refine WP.seq fun K hK => ?_ | (apply Ob.mk; exact Yo) | refine And.intro (Ob.out ?_) ?_ | refine Y1HuE ?_ | refine YzHuE ?_ | (refine WP.cond rfl (fun hc => ?_) (fun hc => ?_) <;> (try simp only [ZC, reduceCtorEq, ZD] at hc) <;> (try exact absurd hc (by decide)) <;> (try (exfalso; omega))) | refine Rt.mk (And.intro (fun hg => Sm.out ?_) fun hg => Sm.out ?_) | (refine Nu.mk ?_; first | (fail_if_success have := nb1); intro nb1 | (fail_if_success have := nb2); intro nb2 | (fail_if_success have := nb3); intro nb3 | (fail_if_success have := nb4); intro nb4 | (fail_if_success have := nb5); intro nb5 | (fail_if_success have := nb6); intro nb6 | (fail_if_success have := nb7); intro nb7 | (fail_if_success have := nb8); intro nb8 | (fail_if_success have := nb9); intro nb9 | (fail_if_success have := nb10); intro nb10 | intro nbz) | (apply Yfr; refine Yf FR fun hFRb FR => ?_) | refine Two.mk ?_ ?_ | (apply Yxc; exact Yx) | refine Cs.mk fun hcs => Sm.out ?_ | go_step | omega | (simp only [maxLen_eq]; omega) | exact trivial
  refine WP.loop (Γ := Unit) (fun _ => ⟨[(8, iv .i64 0), (7, iv .i64 0), (0, nsl), (1, fn)], []⟩) (fun _ => True) (fun _ => 0) () trivial (Sub.pick (by simp [pickB, hget, hdel, FR.out]) (by simp [look])) ?_
  intro _ _
  have FR : Sm (¬ ((1 : Nat) = 0)) := Sm.mk Nat.one_ne_zero
  have k0 : decide ((0 : Int) < 0) = false := by decide
  first | (have FRx := FR; clear FRx) | have FR := fr0S
  have FA := Sm.mk (And.intro TFHuE k0)
  repeat' first | (apply Sm.mk; refine Ys ?_) | refine WP.seq fun K hK => ?_ | (apply Ob.mk; exact Yo) | refine And.intro (Ob.out ?_) ?_ | refine Y1HuE ?_ | refine YzHuE ?_ | (refine WP.cond rfl (fun hc => ?_) (fun hc => ?_) <;> (try simp only [ZC, reduceCtorEq, ZD] at hc) <;> (try exact absurd hc (by decide)) <;> (try (exfalso; omega))) | refine Rt.mk (And.intro (fun hg => Sm.out ?_) fun hg => Sm.out ?_) | (refine Nu.mk ?_; first | (fail_if_success have := nb1); intro nb1 | (fail_if_success have := nb2); intro nb2 | (fail_if_success have := nb3); intro nb3 | (fail_if_success have := nb4); intro nb4 | (fail_if_success have := nb5); intro nb5 | (fail_if_success have := nb6); intro nb6 | (fail_if_success have := nb7); intro nb7 | (fail_if_success have := nb8); intro nb8 | (fail_if_success have := nb9); intro nb9 | (fail_if_success have := nb10); intro nb10 | intro nbz) | (apply Yfr; refine Yf FR fun hFRb FR => ?_) | refine Two.mk ?_ ?_ | (apply Yxc; exact Yx) | refine Cs.mk fun hcs => Sm.out ?_ | go_step | omega | (simp only [maxLen_eq]; omega) | exact trivial
  (refine Yg ?_; try exact trivial)
theorem dln_ct (b : Nat) : ACt Tryd.prog 46 [nsl, fSw b] [] (Fn nsl) := by
  have cI := ixnil_ct (fSw b)
  unfold nsl fSw at cI ⊢
  have k0 : ((-1 : Int) == -1) = true := rfl
  refine ACt.intro Tryd.func46 rfl (by kernel_rfl) (by simp [Tryd.ntmps46]) (fun cx => ?_)
  simp only [argE, Tryd.ntmps46, Tryd.results46]
  first | (have FRx := FR; clear FRx) | have FR := fr0S
  have FA := Sm.mk (And.intro TFHuE k0)
  repeat' first | (apply Sm.mk; refine Ys ?_) | refine WP.seq fun K hK => ?_ | (apply Ob.mk; exact Yo) | refine And.intro (Ob.out ?_) ?_ | refine Y1HuE ?_ | refine Yc (c := cI) (r := ?_) | refine YzHuE ?_ | (refine WP.cond rfl (fun hc => ?_) (fun hc => ?_) <;> (try simp only [ZC, reduceCtorEq, ZD] at hc) <;> (try exact absurd hc (by decide)) <;> (try (exfalso; omega))) | refine Rt.mk (And.intro (fun hg => Sm.out ?_) fun hg => Sm.out ?_) | (refine Nu.mk ?_; first | (fail_if_success have := nb1); intro nb1 | (fail_if_success have := nb2); intro nb2 | (fail_if_success have := nb3); intro nb3 | (fail_if_success have := nb4); intro nb4 | (fail_if_success have := nb5); intro nb5 | (fail_if_success have := nb6); intro nb6 | (fail_if_success have := nb7); intro nb7 | (fail_if_success have := nb8); intro nb8 | (fail_if_success have := nb9); intro nb9 | (fail_if_success have := nb10); intro nb10 | intro nbz) | (apply Yfr; refine Yf FR fun hFRb FR => ?_) | refine Two.mk ?_ ?_ | (apply Yxc; exact Yx) | refine Cs.mk fun hcs => Sm.out ?_ | go_step | omega | (simp only [maxLen_eq]; omega) | exact trivial
  (refine Yg ?_; try exact trivial)
theorem swp_row {X : AV} (l : List Sl) (now : Int) (n : Nat) (hn : l.length = n) (hl : n ≤ 100000) (hX : (∃ m D, X = .sl m D) ∨ (∃ ad cap, X = .lit (.slice (some ad) 0 cap)))
    (hC : ACt Tryd.prog 43 [X] [] (fun r F' => ∃ x c : Nat, (n ≤ c ∧ c ≤ 9223372036854775807) ∧ r = ms x 0 n c ∧ F' = (x, .cells (scs l) (c * 5) 32) :: [])) :
    ACt Tryd.prog 21 [X, iv .i64 now] [] (fun r F' => Vw F' r (.sl (swpL l now).length (scs (swpL l now)))) := by
  have cD := fun x k c hk hxb => dlf_ct l now n k x c hn hl hk hxb
  unfold fSw nwb at cD
  have hfl : (l.filter (fun e => !ovP now e)).length ≤ n := by rw [← hn]; exact List.length_filter_le ..
  unfold swpL
  obtain ⟨n2, hn2⟩ : ∃ q, q = (l.filter (fun e => !ovP now e)).length := ⟨_, rfl⟩
  obtain ⟨C2, hC2⟩ : ∃ q, q = scs (l.filter (fun e => !ovP now e)) := ⟨_, rfl⟩
  rw [← hn2, ← hC2]
  rw [← hn2] at hfl
  simp only [← hn2, ← hC2] at cD
  obtain ⟨C, hC'⟩ : ∃ C, C = scs l := ⟨_, rfl⟩
  rw [← hC'] at hC
  simp only [← hC'] at cD
  clear hC' hn2 hC2
  rcases hX with ⟨m, D, rfl⟩ | ⟨ad, cap, rfl⟩
  · refine ACt.intro Tryd.func21 rfl (by kernel_rfl) (by simp [Tryd.ntmps21]) (fun cx => ?_)
    simp only [argE, Tryd.ntmps21, Tryd.results21]
    first | (have FRx := FR; clear FRx) | have FR := fr0S
    have FA := Sm.mk (TFHuE)
    repeat' first | (apply Sm.mk; refine Ys ?_) | refine WP.seq fun K hK => ?_ | (apply Ob.mk; exact Yo) | refine And.intro (Ob.out ?_) ?_ | refine Y1HuE ?_ | refine CallV.newC (hC) (List.Perm.refl _) (fun _ _ => rfl) (Sm.out ?_) | refine YzHuE ?_ | (refine WP.cond rfl (fun hc => ?_) (fun hc => ?_) <;> (try simp only [ZC, reduceCtorEq, ZD] at hc) <;> (try exact absurd hc (by decide)) <;> (try (exfalso; omega))) | refine Rt.mk (And.intro (fun hg => Sm.out ?_) fun hg => Sm.out ?_) | (refine Nu.mk ?_; first | (fail_if_success have := nb1); intro nb1 | (fail_if_success have := nb2); intro nb2 | (fail_if_success have := nb3); intro nb3 | (fail_if_success have := nb4); intro nb4 | (fail_if_success have := nb5); intro nb5 | (fail_if_success have := nb6); intro nb6 | (fail_if_success have := nb7); intro nb7 | (fail_if_success have := nb8); intro nb8 | (fail_if_success have := nb9); intro nb9 | (fail_if_success have := nb10); intro nb10 | intro nbz) | (apply Yfr; refine Yf FR fun hFRb FR => ?_) | refine Two.mk ?_ ?_ | (apply Yxc; exact Yx) | refine Cs.mk fun hcs => Sm.out ?_ | go_step | omega | (simp only [maxLen_eq]; omega) | exact trivial
    have hb := FR.out.1.1
    have hne : nb2 ≠ nb1 ∧ nb1 ≠ nb2 := by simp [FR.out]
    have cE := cD nb2 nb3 nb1 hb hne
    first | (have FRx := FR; clear FRx) | have FR := fr0S
    have FA := Sm.mk (And.intro TFHuE hne)
    repeat' first | (apply Sm.mk; refine Ys ?_) | refine WP.seq fun K hK => ?_ | (apply Ob.mk; exact Yo) | refine And.intro (Ob.out ?_) ?_ | refine Y1HuE ?_ | refine Yw2 (c := cE) (r := ?_) | refine YzHuE ?_ | (refine WP.cond rfl (fun hc => ?_) (fun hc => ?_) <;> (try simp only [ZC, reduceCtorEq, ZD] at hc) <;> (try exact absurd hc (by decide)) <;> (try (exfalso; omega))) | refine Rt.mk (And.intro (fun hg => Sm.out ?_) fun hg => Sm.out ?_) | (refine Nu.mk ?_; first | (fail_if_success have := nb1); intro nb1 | (fail_if_success have := nb2); intro nb2 | (fail_if_success have := nb3); intro nb3 | (fail_if_success have := nb4); intro nb4 | (fail_if_success have := nb5); intro nb5 | (fail_if_success have := nb6); intro nb6 | (fail_if_success have := nb7); intro nb7 | (fail_if_success have := nb8); intro nb8 | (fail_if_success have := nb9); intro nb9 | (fail_if_success have := nb10); intro nb10 | intro nbz) | (apply Yfr; refine Yf FR fun hFRb FR => ?_) | refine Two.mk ?_ ?_ | (apply Yxc; exact Yx) | refine Cs.mk fun hcs => Sm.out ?_ | go_step | omega | (simp only [maxLen_eq]; omega) | exact trivial
    (refine OutQ.drop _ _ (perm1 (b := nb2) (by simp only [hget, hdel, ↓reduceIte, if_true, if_false, FR.out]; first | done | rfl)) (by simp only [resv, ZK, look, loadv, loadn, loadnm, load1, load1m, hget, ↓reduceIte, Nat.reduceEqDiff, Nat.reduceAdd, Nat.reduceMul, Nat.reduceLeDiff, Nat.reduceLT, reduceCtorEq, TFHuE, FR.out]) ?_; simp only [resv, resA, ZK, look, loadv, loadn, loadnm, load1, load1m, hget, ↓reduceIte, Nat.reduceEqDiff, Nat.reduceAdd, Nat.reduceMul, Nat.reduceLeDiff, Nat.reduceLT, reduceCtorEq, TFHuE, FR.out]; exact vw_row rfl (by omega) hb.2)
  · refine ACt.intro Tryd.func21 rfl (by kernel_rfl) (by simp [Tryd.ntmps21]) (fun cx => ?_)
    simp only [argE, Tryd.ntmps21, Tryd.results21]
    first | (have FRx := FR; clear FRx) | have FR := fr0S
    have FA := Sm.mk (TFHuE)
    repeat' first | (apply Sm.mk; refine Ys ?_) | refine WP.seq fun K hK => ?_ | (apply Ob.mk; exact Yo) | refine And.intro (Ob.out ?_) ?_ | refine Y1HuE ?_ | refine CallV.newC (hC) (List.Perm.refl _) (fun _ _ => rfl) (Sm.out ?_) | refine YzHuE ?_ | (refine WP.cond rfl (fun hc => ?_) (fun hc => ?_) <;> (try simp only [ZC, reduceCtorEq, ZD] at hc) <;> (try exact absurd hc (by decide)) <;> (try (exfalso; omega))) | refine Rt.mk (And.intro (fun hg => Sm.out ?_) fun hg => Sm.out ?_) | (refine Nu.mk ?_; first | (fail_if_success have := nb1); intro nb1 | (fail_if_success have := nb2); intro nb2 | (fail_if_success have := nb3); intro nb3 | (fail_if_success have := nb4); intro nb4 | (fail_if_success have := nb5); intro nb5 | (fail_if_success have := nb6); intro nb6 | (fail_if_success have := nb7); intro nb7 | (fail_if_success have := nb8); intro nb8 | (fail_if_success have := nb9); intro nb9 | (fail_if_success have := nb10); intro nb10 | intro nbz) | (apply Yfr; refine Yf FR fun hFRb FR => ?_) | refine Two.mk ?_ ?_ | (apply Yxc; exact Yx) | refine Cs.mk fun hcs => Sm.out ?_ | go_step | omega | (simp only [maxLen_eq]; omega) | exact trivial
    have hb := FR.out.1.1
    have hne : nb2 ≠ nb1 ∧ nb1 ≠ nb2 := by simp [FR.out]
    have cE := cD nb2 nb3 nb1 hb hne
    first | (have FRx := FR; clear FRx) | have FR := fr0S
    have FA := Sm.mk (And.intro TFHuE hne)
    repeat' first | (apply Sm.mk; refine Ys ?_) | refine WP.seq fun K hK => ?_ | (apply Ob.mk; exact Yo) | refine And.intro (Ob.out ?_) ?_ | refine Y1HuE ?_ | refine Yw2 (c := cE) (r := ?_) | refine YzHuE ?_ | (refine WP.cond rfl (fun hc => ?_) (fun hc => ?_) <;> (try simp only [ZC, reduceCtorEq, ZD] at hc) <;> (try exact absurd hc (by decide)) <;> (try (exfalso; omega))) | refine Rt.mk (And.intro (fun hg => Sm.out ?_) fun hg => Sm.out ?_) | (refine Nu.mk ?_; first | (fail_if_success have := nb1); intro nb1 | (fail_if_success have := nb2); intro nb2 | (fail_if_success have := nb3); intro nb3 | (fail_if_success have := nb4); intro nb4 | (fail_if_success have := nb5); intro nb5 | (fail_if_success have := nb6); intro nb6 | (fail_if_success have := nb7); intro nb7 | (fail_if_success have := nb8); intro nb8 | (fail_if_success have := nb9); intro nb9 | (fail_if_success have := nb10); intro nb10 | intro nbz) | (apply Yfr; refine Yf FR fun hFRb FR => ?_) | refine Two.mk ?_ ?_ | (apply Yxc; exact Yx) | refine Cs.mk fun hcs => Sm.out ?_ | go_step | omega | (simp only [maxLen_eq]; omega) | exact trivial
    (refine OutQ.drop _ _ (perm1 (b := nb2) (by simp only [hget, hdel, ↓reduceIte, if_true, if_false, FR.out]; first | done | rfl)) (by simp only [resv, ZK, look, loadv, loadn, loadnm, load1, load1m, hget, ↓reduceIte, Nat.reduceEqDiff, Nat.reduceAdd, Nat.reduceMul, Nat.reduceLeDiff, Nat.reduceLT, reduceCtorEq, TFHuE, FR.out]) ?_; simp only [resv, resA, ZK, look, loadv, loadn, loadnm, load1, load1m, hget, ↓reduceIte, Nat.reduceEqDiff, Nat.reduceAdd, Nat.reduceMul, Nat.reduceLeDiff, Nat.reduceLT, reduceCtorEq, TFHuE, FR.out]; exact vw_row rfl (by omega) hb.2)
theorem swp_nil (now : Int) (cap : Nat) : ACt Tryd.prog 21 [.lit (.slice none 0 cap), iv .i64 now] [] (fun r F' => Vw F' r (.sl 0 [])) := by
  have cC := clone_nil cap
  have cD := dln_ct
  unfold fSw at cD
  refine ACt.intro Tryd.func21 rfl (by kernel_rfl) (by simp [Tryd.ntmps21]) (fun cx => ?_)
  simp only [argE, Tryd.ntmps21, Tryd.results21]
  first | (have FRx := FR; clear FRx) | have FR := fr0S
  have FA := Sm.mk (TFHuE)
  repeat' first | (apply Sm.mk; refine Ys ?_) | refine WP.seq fun K hK => ?_ | (apply Ob.mk; exact Yo) | refine And.intro (Ob.out ?_) ?_ | refine Y1HuE ?_ | refine Yc (c := cC) (r := ?_) | refine Yc (c := cD nb1) (r := ?_) | refine YzHuE ?_ | (refine WP.cond rfl (fun hc => ?_) (fun hc => ?_) <;> (try simp only [ZC, reduceCtorEq, ZD] at hc) <;> (try exact absurd hc (by decide)) <;> (try (exfalso; omega))) | refine Rt.mk (And.intro (fun hg => Sm.out ?_) fun hg => Sm.out ?_) | (refine Nu.mk ?_; first | (fail_if_success have := nb1); intro nb1 | (fail_if_success have := nb2); intro nb2 | (fail_if_success have := nb3); intro nb3 | (fail_if_success have := nb4); intro nb4 | (fail_if_success have := nb5); intro nb5 | (fail_if_success have := nb6); intro nb6 | (fail_if_success have := nb7); intro nb7 | (fail_if_success have := nb8); intro nb8 | (fail_if_success have := nb9); intro nb9 | (fail_if_success have := nb10); intro nb10 | intro nbz) | (apply Yfr; refine Yf FR fun hFRb FR => ?_) | refine Two.mk ?_ ?_ | (apply Yxc; exact Yx) | refine Cs.mk fun hcs => Sm.out ?_ | go_step | omega | (simp only [maxLen_eq]; omega) | exact trivial
  (refine OutQ.drop [] _ (List.Perm.refl _) (by simp only [resv, ZK, look, loadv, loadn, loadnm, load1, load1m, hget, ↓reduceIte, Nat.reduceEqDiff, Nat.reduceAdd, Nat.reduceMul, Nat.reduceLeDiff, Nat.reduceLT, reduceCtorEq, TFHuE, FR.out]) ?_; simp only [resv, resA, ZK, look, loadv, loadn, loadnm, load1, load1m, hget, ↓reduceIte, Nat.reduceEqDiff, Nat.reduceAdd, Nat.reduceMul, Nat.reduceLeDiff, Nat.reduceLT, reduceCtorEq, TFHuE, FR.out]; exact .nils)
theorem swp_ct (l : List Sl) (now : Int) (n : Nat) (hn : l.length = n) (hl : n ≤ 100000) : ACt Tryd.prog 21 [.sl n (scs l), iv .i64 now] [] (Fn (.sl (swpL l now).length (scs (swpL l now)))) :=
  row_arg (pre := []) (post := [iv .i64 now]) hn (fun h1 => ACt.fzV (swp_row l now n hn hl (.inl ⟨_, _, rfl⟩) (clone_rowS l n hn h1 hl)))
    (fun h cap hm => by subst h; exact ACt.fzV (swp_nil now cap)) (fun h ad cap hm => by
      subst h
      obtain rfl : n = 0 := by simpa using hn.symm
      exact ACt.fzV (swp_row [] now 0 rfl hl (.inr ⟨_, _, rfl⟩) (clone_rowZ ad cap hm)))
theorem drop_row {n : Nat} (l : List Sl) (nm : ByteArray) (hn : l.length = n) (hl : n ≤ 100000) :
    ACt Tryd.prog 19 [.sl n (scs l), .lit (.string nm)] [] (fun r F' => Vw F' r (.tup [.sl (drpL l nm).length (scs (drpL l nm)), iv .i64 (drpC l nm)])) := by
  have cN := named_ct l nm n hn hl
  have cC := fun h1 => clone_rowS l n hn h1 hl
  have hs := ixF_spec (nmP nm) l 0
  have cD := fun x k i hi hk => dl_ct x n k i (scs l) (by rw [scs_len, hn]) hi hk hl (scs_one l)
  obtain ⟨R, hR⟩ : ∃ R, R = (AV.tup [.sl (drpL l nm).length (scs (drpL l nm)), iv .i64 (drpC l nm)]) := ⟨_, rfl⟩
  rw [← hR]
  rw [show ((0 : Nat) : Int) = 0 from rfl] at hs
  unfold drpL drpC at hR
  rcases hs with ⟨h, _⟩ | ⟨q, hq, h, _⟩
  · rw [h] at cN
    rw [h, if_pos (by omega), if_pos (by omega)] at hR
    have k0 : decide ((-1 : Int) < 0) = true := rfl
    obtain ⟨C, hC'⟩ : ∃ C, C = scs l := ⟨_, rfl⟩
    rw [← hC'] at cN ⊢
    refine ACt.intro Tryd.func19 rfl (by kernel_rfl) (by simp [Tryd.ntmps19]) (fun cx => ?_)
    simp only [argE, Tryd.ntmps19, Tryd.results19]
    first | (have FRx := FR; clear FRx) | have FR := fr0S
    have FA := Sm.mk (And.intro TFHuE k0)
    repeat' first | (apply Sm.mk; refine Ys ?_) | refine WP.seq fun K hK => ?_ | (apply Ob.mk; exact Yo) | refine And.intro (Ob.out ?_) ?_ | refine Y1HuE ?_ | refine Yc (c := cN) (r := ?_) | refine YzHuE ?_ | (refine WP.cond rfl (fun hc => ?_) (fun hc => ?_) <;> (try simp only [ZC, reduceCtorEq, ZD] at hc) <;> (try exact absurd hc (by decide)) <;> (try (exfalso; omega))) | refine Rt.mk (And.intro (fun hg => Sm.out ?_) fun hg => Sm.out ?_) | (refine Nu.mk ?_; first | (fail_if_success have := nb1); intro nb1 | (fail_if_success have := nb2); intro nb2 | (fail_if_success have := nb3); intro nb3 | (fail_if_success have := nb4); intro nb4 | (fail_if_success have := nb5); intro nb5 | (fail_if_success have := nb6); intro nb6 | (fail_if_success have := nb7); intro nb7 | (fail_if_success have := nb8); intro nb8 | (fail_if_success have := nb9); intro nb9 | (fail_if_success have := nb10); intro nb10 | intro nbz) | (apply Yfr; refine Yf FR fun hFRb FR => ?_) | refine Two.mk ?_ ?_ | (apply Yxc; exact Yx) | refine Cs.mk fun hcs => Sm.out ?_ | go_step | omega | (simp only [maxLen_eq]; omega) | exact trivial
    (refine OutQ.drop [] _ (List.Perm.refl _) (by simp only [resv, ZK, look, loadv, loadn, loadnm, load1, load1m, hget, ↓reduceIte, Nat.reduceEqDiff, Nat.reduceAdd, Nat.reduceMul, Nat.reduceLeDiff, Nat.reduceLT, reduceCtorEq, TFHuE, FR.out]) ?_; simp only [resv, resA, ZK, look, loadv, loadn, loadnm, load1, load1m, hget, ↓reduceIte, Nat.reduceEqDiff, Nat.reduceAdd, Nat.reduceMul, Nat.reduceLeDiff, Nat.reduceLT, reduceCtorEq, TFHuE, FR.out]; exact vw_nilc hR)
  · rw [Nat.zero_add] at h
    rw [h] at cN
    rw [h, if_neg (by omega), if_neg (by omega), show ((q : Int)).toNat = q by omega, List.length_eraseIdx_of_lt hq, hn, List.eraseIdx_eq_take_drop_succ, scs_app, ← scs_take _ _ (by omega), ← scs_drop' _ _ (by omega)] at hR
    have k0 : decide ((q : Int) < 0) = false := decide_eq_false (by omega)
    have s1 : IntKind.i64.wrap ((q : Int) + 1) = ((q + 1 : Nat) : Int) := by rw [wrap_i64 (by omega) (by omega)]; omega
    obtain ⟨C, hC'⟩ : ∃ C, C = scs l := ⟨_, rfl⟩
    rw [← hC'] at cN hR ⊢
    simp only [← hC'] at cD cC
    have q5 : q < n := by omega
    have cC := cC (by omega)
    refine ACt.intro Tryd.func19 rfl (by kernel_rfl) (by simp [Tryd.ntmps19]) (fun cx => ?_)
    simp only [argE, Tryd.ntmps19, Tryd.results19]
    first | (have FRx := FR; clear FRx) | have FR := fr0S
    have FA := Sm.mk (And.intro TFHuE (And.intro k0 s1))
    repeat' first | (apply Sm.mk; refine Ys ?_) | refine WP.seq fun K hK => ?_ | (apply Ob.mk; exact Yo) | refine And.intro (Ob.out ?_) ?_ | refine Y1HuE ?_ | (first | refine CallV.fn (cN) (Sm.out ?_) | refine ExF.mk (cN) (Sm.out ?_) | refine ExG.mk (fun _ => cN) (Sm.out ?_) | refine ExG.mkJ (fun _ => cN) (Sm.out ?_) | refine ExG.mkI (Ob.out ?_) (fun _ => cN) (Sm.out ?_)) | refine CallV.newC (cC) (List.Perm.refl _) (fun _ _ => rfl) (Sm.out ?_) | refine YzHuE ?_ | (refine WP.cond rfl (fun hc => ?_) (fun hc => ?_) <;> (try simp only [ZC, reduceCtorEq, ZD] at hc) <;> (try exact absurd hc (by decide)) <;> (try (exfalso; omega))) | refine Rt.mk (And.intro (fun hg => Sm.out ?_) fun hg => Sm.out ?_) | (refine Nu.mk ?_; first | (fail_if_success have := nb1); intro nb1 | (fail_if_success have := nb2); intro nb2 | (fail_if_success have := nb3); intro nb3 | (fail_if_success have := nb4); intro nb4 | (fail_if_success have := nb5); intro nb5 | (fail_if_success have := nb6); intro nb6 | (fail_if_success have := nb7); intro nb7 | (fail_if_success have := nb8); intro nb8 | (fail_if_success have := nb9); intro nb9 | (fail_if_success have := nb10); intro nb10 | intro nbz) | (apply Yfr; refine Yf FR fun hFRb FR => ?_) | refine Two.mk ?_ ?_ | (apply Yxc; exact Yx) | refine Cs.mk fun hcs => Sm.out ?_ | go_step | omega | (simp only [maxLen_eq]; omega) | exact trivial
    have hb := FR.out.1
    have cE := cD nb1 nb2 q q5 hb
    first | (have FRx := FR; clear FRx) | have FR := fr0S
    have FA := Sm.mk (TFHuE)
    repeat' first | (apply Sm.mk; refine Ys ?_) | refine WP.seq fun K hK => ?_ | (apply Ob.mk; exact Yo) | refine And.intro (Ob.out ?_) ?_ | refine Y1HuE ?_ | refine Yw1 (c := cE) (r := ?_) | refine YzHuE ?_ | (refine WP.cond rfl (fun hc => ?_) (fun hc => ?_) <;> (try simp only [ZC, reduceCtorEq, ZD] at hc) <;> (try exact absurd hc (by decide)) <;> (try (exfalso; omega))) | refine Rt.mk (And.intro (fun hg => Sm.out ?_) fun hg => Sm.out ?_) | (refine Nu.mk ?_; first | (fail_if_success have := nb1); intro nb1 | (fail_if_success have := nb2); intro nb2 | (fail_if_success have := nb3); intro nb3 | (fail_if_success have := nb4); intro nb4 | (fail_if_success have := nb5); intro nb5 | (fail_if_success have := nb6); intro nb6 | (fail_if_success have := nb7); intro nb7 | (fail_if_success have := nb8); intro nb8 | (fail_if_success have := nb9); intro nb9 | (fail_if_success have := nb10); intro nb10 | intro nbz) | (apply Yfr; refine Yf FR fun hFRb FR => ?_) | refine Two.mk ?_ ?_ | (apply Yxc; exact Yx) | refine Cs.mk fun hcs => Sm.out ?_ | go_step | omega | (simp only [maxLen_eq]; omega) | exact trivial
    (refine OutQ.drop _ _ (perm1 (b := nb1) (by simp only [hget, hdel, ↓reduceIte, if_true, if_false, FR.out]; first | done | rfl)) (by simp only [resv, ZK, look, loadv, loadn, loadnm, load1, load1m, hget, ↓reduceIte, Nat.reduceEqDiff, Nat.reduceAdd, Nat.reduceMul, Nat.reduceLeDiff, Nat.reduceLT, reduceCtorEq, TFHuE, FR.out]) ?_; simp only [resv, resA, ZK, look, loadv, loadn, loadnm, load1, load1m, hget, ↓reduceIte, Nat.reduceEqDiff, Nat.reduceAdd, Nat.reduceMul, Nat.reduceLeDiff, Nat.reduceLT, reduceCtorEq, TFHuE, FR.out]; exact vw_rowc hR (by omega) hb.2)
theorem drop_ct (l : List Sl) (nm : ByteArray) (n : Nat) (hn : l.length = n) (hl : n ≤ 100000) : ACt Tryd.prog 19 [.sl n (scs l), .lit (.string nm)] [] (Fn (.tup [.sl (drpL l nm).length (scs (drpL l nm)), iv .i64 (drpC l nm)])) :=
  ACt.fzV (drop_row l nm hn hl)
end Go.Proofs.YtaffbklkjjmmdaaDoor
namespace Go.Proofs.YtaffbklkjjmmdaaDoor
open Go
set_option linter.unusedVariables false
set_option linter.unusedSimpArgs false
inductive OT where
  | nil
  | one (i : Nat) (t : OT)
  | two (i : Nat) (t : OT) (j : Nat) (u : OT)
def coverT (ops : Array Oper) : OT → Array Bool → Bool
  | .nil, listed => (Region.ready .any ops listed).isEmpty
  | .one i t, listed => (Region.ready .any ops listed == [i]) && coverT ops t (listed.setIfInBounds i true)
  | .two i t j u, listed => (Region.ready .any ops listed == [i, j]) && coverT ops t (listed.setIfInBounds i true) && coverT ops u (listed.setIfInBounds j true)
def depT : OT → Nat
  | .nil => 0
  | .one _ t => depT t + 1
  | .two _ t _ u => max (depT t) (depT u) + 1
def rvt (P : Program) (n : Nat) (l : List Oper) : OT → (St → Prop) → St → Prop
  | .nil, K, s => K s
  | .one i t, K, s => match l.drop i with
    | o :: _ => o.guard = none ∧ okd n o.dst ∧ stp P l.toArray o (rvt P n l t K) s
    | [] => False
  | .two i t j u, K, s => Two (match l.drop i with
    | o :: _ => o.guard = none ∧ okd n o.dst ∧ stp P l.toArray o (rvt P n l t K) s
    | [] => False) (match l.drop j with
    | o :: _ => o.guard = none ∧ okd n o.dst ∧ stp P l.toArray o (rvt P n l u K) s
    | [] => False)
section
variable {P : Program} {cx : Cx} {n : Nat}
theorem stp_op {ops : Array Oper} {o : Oper} {K : St → Prop} {s : St} (hg : o.guard = none) (hd : okd n o.dst) (h : stp P ops o K s) : OpS P cx n o K s := by
  unfold stp at h
  split at h
  · split at h
    · rename_i r hr
      exact OpS.of_PE hd (pev_sound hr h.1) h.2
    · exact eff_sound hd h
  · rename_i j want hg2
    rw [hg] at hg2; cases hg2
theorem rvt_step {l : List Oper} {i : Nat} {t : OT} {K : St → Prop} {s : St} {X : Act → World → Prop} {R : Exit → Act → World → Prop}
    (h : match l.drop i with
      | o :: _ => o.guard = none ∧ okd n o.dst ∧ stp P l.toArray o (rvt P n l t K) s
      | [] => False)
    (hX : ∀ s' a w, rvt P n l t K s' → Ok cx n s' a w → X a w) (a : Act) (w : World) (ok : Ok cx n s a w) : wpOp P l.toArray R i X a w := by
  split at h
  case h_2 => exact h.elim
  rename_i o r hq
  obtain ⟨hg, hd, h⟩ := h
  have hoi : l.toArray[i]? = some o := by
    have : (l.drop i)[0]? = some o := by rw [hq]; rfl
    simpa using this
  unfold wpOp
  rw [hoi]
  simp only
  rw [if_pos (by simp [Region.wanted, hg])]
  exact .inl (stp_op hg hd h X R hX a w ok)
theorem rvt_sound {l : List Oper} {Q : Exit → St → Prop} : ∀ (t : OT) (k : Nat) (listed : Array Bool) (s : St) (a : Act) (w : World), depT t ≤ k → coverT l.toArray t listed = true → rvt P n l t (Q .normal) s → Ok cx n s a w →
    wpAny P .any l.toArray (fun e a' w' => ∃ s', Q e s' ∧ Ok cx n s' a' w') k listed a w
  | .nil, k, listed, s, a, w, hk, hc, h, ok => by
    have hr : Region.ready .any l.toArray listed = [] := by
      unfold coverT at hc
      exact List.isEmpty_iff.1 hc
    cases k with
    | zero => exact ⟨hr, s, h, ok⟩
    | succ k => exact ⟨fun _ => ⟨s, h, ok⟩, fun i hi => by rw [hr] at hi; cases hi⟩
  | .one i t, 0, listed, s, a, w, hk, hc, h, ok => by simp [depT] at hk
  | .two i t j u, 0, listed, s, a, w, hk, hc, h, ok => by simp [depT] at hk
  | .one i t, k + 1, listed, s, a, w, hk, hc, h, ok => by
    unfold coverT at hc
    simp only [Bool.and_eq_true, beq_iff_eq] at hc
    unfold depT at hk
    refine ⟨fun h1 => (by rw [hc.1] at h1; cases h1), fun x hx => ?_⟩
    rw [hc.1] at hx
    obtain rfl : x = i := by simpa using hx
    exact rvt_step (cx := cx) h (fun s' a' w' h' ok' => rvt_sound t k _ s' a' w' (by omega) hc.2 h' ok') a w ok
  | .two i t j u, k + 1, listed, s, a, w, hk, hc, h, ok => by
    unfold coverT at hc
    simp only [Bool.and_eq_true, beq_iff_eq] at hc
    unfold depT at hk
    refine ⟨fun h1 => (by rw [hc.1.1] at h1; cases h1), fun x hx => ?_⟩
    rw [hc.1.1] at hx
    have hx : x = i ∨ x = j := by simpa using hx
    rcases hx with rfl | rfl
    · exact rvt_step (cx := cx) h.fst (fun s' a' w' h' ok' => rvt_sound t k _ s' a' w' (by omega) hc.1.2 h' ok') a w ok
    · exact rvt_step (cx := cx) h.snd (fun s' a' w' h' ok' => rvt_sound u k _ s' a' w' (by omega) hc.2 h' ok') a w ok
theorem WP.drawT {id : Nat} (t : OT) {l : List Oper} {Q : Exit → St → Prop} {s : St} (hm : P.follows .mixedOrders = true) (hB : (decide (depT t ≤ l.length) && coverT l.toArray t (Array.replicate l.length false)) = true)
    (h : rvt P n l t (Q .normal) s) : WP P cx n (.region id l.toArray true) Q s := by
  intro a w ok
  simp only [Bool.and_eq_true, decide_eq_true_eq] at hB
  refine wp_region_any hm ?_
  have ok' : Ok cx n ⟨s.env, s.H⟩ a { w with drawn := w.drawn + 1 } := by
    have hIw : ∀ c, imm cx w s.H c → imm cx { w with drawn := w.drawn + 1 } s.H c ∧ ({ w with drawn := w.drawn + 1 } : World).heap[c]? = w.heap[c]? := fun c hc => ⟨hc, rfl⟩
    refine ⟨ok.defers, ok.size, fun i => (ok.reps i).mono hIw, ⟨ok.world.nodup, ok.world.keys, fun x hx => (ok.world.mem x hx).mono hIw rfl, ⟨ok.world.ext.os, ok.world.ext.tape, ok.world.ext.output, ok.world.ext.size, ok.world.ext.blk⟩, ok.world.ro⟩⟩
  exact rvt_sound (cx := cx) t l.toArray.size _ s a _ (by simpa using hB.1) (by simpa using hB.2) h ok'
end
end Go.Proofs.YtaffbklkjjmmdaaDoor
