/-
  The walks and the laws that the statement leans on, part 33.
-/
import Derived.Test.YtmbecppmkglmhaaDoorC11
import Derived.Test.YtmbecppmkglmhaaDoorC32
namespace Go.Proofs.YtmbecppmkglmhaaDoor
open Go
set_option linter.unusedVariables false
set_option linter.unusedSimpArgs false
set_option linter.defProp false
def TFWlS :=
  And.intro (And.intro (And.intro (And.intro (And.intro tyc3 zmb3) (And.intro tyc5 zmb5)) (And.intro (And.intro tyc9 zmb9) (And.intro tyc22 (And.intro elt22 mkz22)))) (And.intro (And.intro (And.intro apT22 elk22) (And.intro zmb22 tyc37)) (And.intro (And.intro elt37 mkz37) (And.intro mkc37 (And.intro apT37 elk37))))) (And.intro (And.intro (And.intro (And.intro zmb37 tyc41) (And.intro foff41_0 fpart41_0)) (And.intro (And.intro foff41_1 fpart41_1) (And.intro zmb41 (And.intro bldT41 tyc42)))) (And.intro (And.intro (And.intro zmb42 tyc71) (And.intro Tryd.underlying3 (And.intro Tryd.underlying5 Tryd.underlying9))) (And.intro (And.intro Tryd.underlying22 Tryd.underlying37) (And.intro Tryd.underlying41 (And.intro Tryd.underlying42 Tryd.underlying71)))))
theorem Y1WlS {G R : Prop} (r : R) (h : R → G := by intro r; first | (apply WP.region; exact rvc_sound _ _ (Sm.out r)) | exact WP.drawK rfl mixed (by decide +kernel) (Sm.out r) | (apply WP.block; exact r) | (apply WP.skip; exact Yq r) | (apply WP.exit; exact Yq r) | (apply WP.ret; exact Sm.out r) | exact WP.cond rfl (fun _ => r) (fun hg => absurd hg (by decide)) | exact WP.cond rfl (fun hg => absurd hg (by decide)) (fun _ => r) | exact Rt.mk (And.intro (fun _ => Sm.out r) fun hg => absurd hg (by decide)) | exact Rt.mk (And.intro (fun hg => absurd hg (by decide)) fun _ => Sm.out r)) : G := h r
theorem YzWlS {G R : Prop} (r : R) (h : R → G := by intro r; first | (apply ExG.no; exact Sm.out r) | (apply Or.inl; apply ExG.no; exact Sm.out r) | exact Or.inl (And.intro (fun hg => absurd hg (by decide)) (ExG.no (Sm.out r)))) : G := h r
def rdH (x : Nat) (R : Bs) : Nat × MB := (x, .cells [.sl (all R).1.length (rowsA (all R).1), iv .i64 ((R.length : Nat) : Int)] 2 41)
set_option maxRecDepth 20000 in
theorem read_ct (R : Bs) (h1 : 1 ≤ R.length) (h2 : R.length ≤ 1000000) : ACt Tryd.prog 11 [.lit (.string (bstr (ub R)))] [] (fun r F' => ∃ x : Nat, r = pt x 0 ∧ F' = [rdH x R]) := by
  have cA := refAll_ct R h2
  change ACt Tryd.prog 33 [.slz .u8 (ub R)] [] (Fn (.tup [.sl (all R).1.length (rowsA (all R).1), iv .i64 (all R).2])) at cA
  have hl := ub_len R
  have hs : (bstr (ub R)).size = R.length := by rw [bstr_size, hl]
  have eB : List.map (fun b : UInt8 => ((b.toNat : Nat) : Int)) (bstr (ub R)).data.toList = ub R := by
    simp only [bstr, ub, List.map_map]
    exact (List.map_congr_left fun x _ => by simp)
  obtain ⟨X, hX⟩ : ∃ X, X = bstr (ub R) := ⟨_, rfl⟩
  rw [← hX] at hs eB ⊢
  unfold rdH
  obtain ⟨n, hn⟩ : ∃ n, n = (all R).1.length := ⟨_, rfl⟩
  obtain ⟨C, hC⟩ : ∃ C, C = rowsA (all R).1 := ⟨_, rfl⟩
  rw [← hn, ← hC] at cA ⊢
  refine ACt.intro Tryd.func11 rfl (by kernel_rfl) (by simp [Tryd.ntmps11]) (fun cx => ?_)
  simp only [argE, Tryd.ntmps11, Tryd.results11]
  first | (have FRx := FR; clear FRx) | have FR := fr0S
  have FA := Sm.mk (And.intro TFWlS (And.intro hl (And.intro hs eB)))
  repeat' first | (apply Sm.mk; refine Ys ?_) | refine WP.seq fun K hK => ?_ | (apply Ob.mk; exact Yo) | refine And.intro (Ob.out ?_) ?_ | refine Y1WlS ?_ | refine Yc (c := cA) (r := ?_) | refine YzWlS ?_ | (refine WP.cond rfl (fun hc => ?_) (fun hc => ?_) <;> (try simp only [ZC, reduceCtorEq, ZD] at hc) <;> (try exact absurd hc (by decide)) <;> (try (exfalso; omega))) | refine Rt.mk (And.intro (fun hg => Sm.out ?_) fun hg => Sm.out ?_) | (refine Nu.mk ?_; first | (fail_if_success have := nb1); intro nb1 | (fail_if_success have := nb2); intro nb2 | (fail_if_success have := nb3); intro nb3 | (fail_if_success have := nb4); intro nb4 | (fail_if_success have := nb5); intro nb5 | (fail_if_success have := nb6); intro nb6 | intro nbz) | (apply Yfr; refine Yf FR fun hFRb FR => ?_) | refine Two.mk ?_ ?_ | (apply Yxc; exact Yx) | refine Cs.mk fun hcs => Sm.out ?_ | go_step | omega | (simp only [maxLen_eq]; omega) | exact trivial
  (refine OutQ.drop _ _ (perm1 (by simp only [hget, hdel, ↓reduceIte, if_true, if_false, FR.out]; first | done | rfl)) (by simp only [resv, ZK, look, loadv, loadn, loadnm, load1, load1m, hget, ↓reduceIte, Nat.reduceEqDiff, Nat.reduceAdd, Nat.reduceMul, Nat.reduceLeDiff, Nat.reduceLT, reduceCtorEq, TFWlS, FR.out]) ⟨nb1, (by simp only [resv, resA, ZK, look, loadv, loadn, loadnm, load1, load1m, hget, ↓reduceIte, Nat.reduceEqDiff, Nat.reduceAdd, Nat.reduceMul, Nat.reduceLeDiff, Nat.reduceLT, reduceCtorEq, TFWlS, FR.out]; first | done | rfl), rfl⟩)
theorem MkI.write {n s c : Nat} {a : DA} (h : MkI n s c a) {i : Nat} (hi : i < n) (z : Bs) (hz : z.length ≤ s) : MkI n s (c + 1) (wrA a (i : Int) (ub z)) := by
  have hm := writeC (a := a) (i := i) (k := z.length) h.dk (by rw [h.n]; omega) (by rw [h.s]; omega)
  have e : wrA a (i : Int) (ub z) = { a with f := fuseN a.f, de := a.de + 1, W := a.W ++ [(i, pad a.size (ub z))], S := a.S.set i (pad a.size (ub z)) } := by
    unfold wrA
    rw [if_neg (by rw [ub_len]; exact fun h => h hm), if_neg (by rw [h.f]; omega)]
    rfl
  have hA := wrA_ok h.A (i : Int) (ub z)
  refine ⟨hA, by rw [e]; exact h.s, by rw [e]; exact h.n, by rw [e]; simp only [h.f]; rfl, by rw [e]; exact h.dk, fun y hy => ?_⟩
  rw [e] at hy
  rcases List.mem_or_eq_of_mem_set hy with h' | rfl
  · exact h.by_ y h'
  · refine ⟨z ++ zrs (a.size - z.length), ?_⟩
    rw [ub_append, ub_zrs]
    unfold pad
    rw [ub_len]
theorem MkI.sync {n s c : Nat} {a : DA} (h : MkI n s c a) : MkI n s (c + 1) (syA a) ∧ ∃ Z : Bs, Stl s n (ub Z) (syA a) := by
  have e : syA a = { a with f := fuseN a.f, de := a.de + 1, L := a.S, W := [] } := by
    unfold syA
    rw [if_neg (by rw [h.dk]; simp), if_neg (by rw [h.f]; omega)]
  have hA := syA_ok h.A
  have hb : ∀ (S : List (List Int)), (∀ z ∈ S, ∃ x : Bs, z = ub x) → ∃ Z : Bs, S.flatten = ub Z := by
    intro S
    induction S with
    | nil => intro _; exact ⟨[], rfl⟩
    | cons x r ih =>
      intro hS
      obtain ⟨Z, hZ⟩ := ih fun z hz => hS z (List.mem_cons_of_mem _ hz)
      obtain ⟨y, hy⟩ := hS x (List.mem_cons_self ..)
      exact ⟨y ++ Z, by rw [List.flatten_cons, hZ, hy, ub_append]⟩
  obtain ⟨Z, hZ⟩ := hb _ h.by_
  refine ⟨⟨hA, by rw [e]; exact h.s, by rw [e]; exact h.n, by rw [e]; simp only [h.f]; rfl, by rw [e]; exact h.dk, fun z hz => ?_⟩, Z, ?_⟩
  · rw [e] at hz; exact h.by_ z hz
  · rw [e]; exact ⟨h.s, h.n, rfl, rfl, h.dk, hZ⟩
theorem mkA_I (n size : Nat) (h1 : 1 ≤ n) (h2 : n ≤ 400) (h3 : 32 ≤ size) (h4 : size ≤ 512) : MkI n size (n + 1) (mkA n size) := (mkI n size h1 h2 h3 h4 n (Nat.le_refl _)).sync.1
end Go.Proofs.YtmbecppmkglmhaaDoor
namespace Go.Proofs.YtmbecppmkglmhaaDoor
open Go
set_option linter.unusedVariables false
set_option linter.unusedSimpArgs false
section
variable {c s n f m : Nat} {P Q R : Bs} {a : DA}
theorem open_go (b : Nat) (l : DL) (hA : AOk c a) (hR : Rg s n f m P Q R a) (hl : LOk b a l) (hfm : f + m ≤ n) (hm : 1 ≤ m) (hc : c + m ≤ 980) (h0 : (opR a f s R).2 = 0) :
    ACt Tryd.prog 38 [pt b 0, iv .i64 (f : Int), iv .i64 (m : Int)] (dH b a l) (fun r F' => ∃ g : OpG b (opR a f s R).1, r = .tup [pt g.x 0, .sl (all R).1.length (rowsA (all R).1), iv .i64 0] ∧ F' = (g.x, lgM b f m (ub (tlB R (all R).2 s)) (all R).2 false) :: dH b (opR a f s R).1 g.q.1) := by
  cases hD : opD R with
  | true => exact (open_dirty b a l hA hR hl hfm hm hD hc).1 h0
  | false =>
    have e : opR a f s R = (a, 0) := by unfold opR; rw [if_neg (by rw [hD]; simp)]
    rw [e]
    exact (open_clean b a l hA hR hl hfm hm hD).mono fun r F' ⟨x, h1, h2⟩ => ⟨⟨x, ⟨l, hl⟩⟩, h1, h2⟩
theorem open_dk (b : Nat) (l : DL) (hA : AOk c a) (hR : Rg s n f m P Q R a) (hl : LOk b a l) (hfm : f + m ≤ n) (hm : 1 ≤ m) (hc : c + m ≤ 980) (h0 : (opR a f s R).2 = 12) :
    ACt Tryd.prog 38 [pt b 0, iv .i64 (f : Int), iv .i64 (m : Int)] (dH b a l) (fun r F' => ∃ q : LS b (opR a f s R).1, r = .tup [.lit (.pointer none), .sl 0 [], iv .i64 12] ∧ F' = dH b (opR a f s R).1 q.1) := by
  cases hD : opD R with
  | true =>
    have := (open_dirty b a l hA hR hl hfm hm hD hc).2 (by rw [h0]; decide)
    rwa [h0] at this
  | false =>
    have e : opR a f s R = (a, 0) := by unfold opR; rw [if_neg (by rw [hD]; simp)]
    rw [e] at h0; cases h0
theorem opR_ok (hA : AOk c a) (hR : Rg s n f m P Q R a) : AOk (c + m + 1) (opR a f s R).1 := by
  unfold opR
  cases hD : opD R with
  | false => rw [if_neg (by simp)]; exact hA.le (by omega)
  | true =>
    rw [if_pos rfl]
    have hs1 : 1 ≤ s := by have := hA.s1; have := hR.st.s; omega
    obtain ⟨hzl, hdv, hkm⟩ := opZ_len R s m _ hs1 hR.lR rfl
    have hcl : (cks s (ub (opZ R s))).length ≤ m - (all R).2 / s := cks_len_le hs1 (by rw [ub_len, hzl]; omega)
    exact (lyR_ok _ a _ c hA).le (by have := Nat.sub_le m ((all R).2 / s); omega)
theorem Stl.crA {s n : Nat} {T : List Int} {a : DA} (h : Stl s n T a) (K T' : Int) : Stl s n T (crA a K T') := by
  have e : crL a.L a.W (hN K a.W.length) (hN T' a.size) = a.S := by rw [h.W, ← h.LS]; simp [crL, layW]
  unfold Go.Proofs.YtmbecppmkglmhaaDoor.crA
  rw [e]
  exact ⟨h.s, h.n, rfl, rfl, rfl, h.T⟩
theorem Com.crash {N : Bs} {X : DA × Int} (h : Com s n f m P Q N R a X) (K T : Int) : ∃ R4, (R4 = N ∨ ∃ p, R4 = mix N R p) ∧ Rg s n f m P Q R4 (crA X.1 K T) := by
  rcases h with ⟨-, h2, -⟩ | ⟨-, -, h2⟩
  · exact ⟨N, .inl rfl, ⟨h2.st.crA K T, h2.lP, h2.lR⟩⟩
  · obtain ⟨p, hp⟩ := h2.cr K T
    exact ⟨_, .inr ⟨p, rfl⟩, hp⟩
theorem all_sml (R : Bs) : Sml (all R).1 := (all_split _ R (Nat.le_refl _)).2.2.2.1
theorem all_usd (R : Bs) : (all R).2 = usd (all R).1 := (all_split _ R (Nat.le_refl _)).2.1
theorem all_clR (R : Bs) : all (clR R) = all R := by
  rw [clR_frs, all_frz _ _ (all_sml R), ← all_usd]
theorem all_open {R4 : Bs} (h : R4 = clR R ∨ ∃ p, R4 = mix (clR R) R p) : all R4 = all R := by
  rcases h with rfl | ⟨p, rfl⟩
  · exact all_clR R
  · exact mix_clean R p
theorem Rg.fuse (h : Rg s n f m P Q R a) (F : Int) : Rg s n f m P Q R (fuA a F) := ⟨⟨h.st.s, h.st.n, h.st.W, h.st.LS, h.st.dk, h.st.T⟩, h.lP, h.lR⟩
theorem LOk.fuse {b : Nat} {l : DL} (h : LOk b a l) (F : Int) : LOk b (fuA a F) l := ⟨h.cl, h.cs, h.k, h.nd⟩
end
theorem upd0 {f : FuncId} {args : List AV} {F F0 : Hp} {x : AV} (X : Hp) (h : ACt Tryd.prog f args F (fun r F' => r = x ∧ F' = F0)) : ACt Tryd.prog f args (X ++ F) (fun r F' => r = x ∧ F' = X ++ F0) :=
  ACt.frm (R := X) h List.perm_append_comm fun r F' hr _ => by
    obtain ⟨e1, e2⟩ := hr
    subst e1 e2
    exact ⟨_, [], by rw [List.append_nil]; exact List.perm_append_comm, rfl, rfl⟩
end Go.Proofs.YtmbecppmkglmhaaDoor
