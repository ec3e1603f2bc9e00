/-
  The walks and the laws that the statement leans on, part 40.
-/
import Derived.Test.YtfknbndmabogjaaDoorD9
import Derived.Test.YtfknbndmabogjaaDoorD37
import Derived.Test.YtfknbndmabogjaaDoorD39
namespace Go.Proofs.YtfknbndmabogjaaDoor
open Go
set_option linter.unusedVariables false
set_option linter.unusedSimpArgs false
set_option linter.defProp false
def TFOuBB :=
  And.intro (And.intro (And.intro (And.intro (And.intro (And.intro tyc0 tyc2) (And.intro zmb2 (And.intro tyc3 zmb3))) (And.intro (And.intro tyc4 zmb4) (And.intro tyc5 (And.intro zmb5 tyc23)))) (And.intro (And.intro (And.intro foff23_0 fpart23_0) (And.intro foff23_1 (And.intro fpart23_1 foff23_2))) (And.intro (And.intro fpart23_2 (And.intro foff23_3 fpart23_3)) (And.intro foff23_4 (And.intro fpart23_4 fe23))))) (And.intro (And.intro (And.intro (And.intro zmb23 bldT23) (And.intro tyc25 (And.intro zmb25 tyc27))) (And.intro (And.intro foff27_0 fpart27_0) (And.intro foff27_1 (And.intro fpart27_1 zmb27)))) (And.intro (And.intro (And.intro bldT27 tyc29) (And.intro foff29_0 (And.intro fpart29_0 foff29_1))) (And.intro (And.intro fpart29_1 (And.intro foff29_2 fpart29_2)) (And.intro foff29_3 (And.intro fpart29_3 foff29_4)))))) (And.intro (And.intro (And.intro (And.intro (And.intro fpart29_4 fe29) (And.intro zmb29 (And.intro bldT29 tyc34))) (And.intro (And.intro zmb34 tyc35) (And.intro tyc43 (And.intro elt43 mkz43)))) (And.intro (And.intro (And.intro mkc43 apT43) (And.intro elk43 (And.intro zmb43 tyc48))) (And.intro (And.intro tyc64 (And.intro zmb64 tyc66)) (And.intro foff66_0 (And.intro fpart66_0 foff66_1))))) (And.intro (And.intro (And.intro (And.intro fpart66_1 fe66) (And.intro zmb66 (And.intro bldT66 tyc67))) (And.intro (And.intro Tryd.underlying0 Tryd.underlying2) (And.intro Tryd.underlying3 (And.intro Tryd.underlying4 Tryd.underlying5)))) (And.intro (And.intro (And.intro Tryd.underlying23 Tryd.underlying25) (And.intro Tryd.underlying27 (And.intro Tryd.underlying29 Tryd.underlying34))) (And.intro (And.intro Tryd.underlying35 (And.intro Tryd.underlying43 Tryd.underlying48)) (And.intro Tryd.underlying64 (And.intro Tryd.underlying66 Tryd.underlying67))))))
theorem Y1OuBB {G R : Prop} (r : R) (h : R → G := by intro r; first | (apply WP.region; exact rvc_sound _ _ (Sm.out r)) | exact WP.drawK rfl mixed (by decide +kernel) (Sm.out r) | (apply WP.block; exact r) | (apply WP.skip; exact Yq r) | (apply WP.exit; exact Yq r) | (apply WP.ret; exact Sm.out r) | exact WP.cond rfl (fun _ => r) (fun hg => absurd hg (by decide)) | exact WP.cond rfl (fun hg => absurd hg (by decide)) (fun _ => r) | exact Rt.mk (And.intro (fun _ => Sm.out r) fun hg => absurd hg (by decide)) | exact Rt.mk (And.intro (fun hg => absurd hg (by decide)) fun _ => Sm.out r)) : G := h r
theorem YzOuBB {G R : Prop} (r : R) (h : R → G := by intro r; first | (apply ExG.no; exact Sm.out r) | (apply Or.inl; apply ExG.no; exact Sm.out r) | exact Or.inl (And.intro (fun hg => absurd hg (by decide)) (ExG.no (Sm.out r)))) : G := h r
theorem ACt.viewN {P : Program} {f : FuncId} {args args' : List AV} {post : AV → Hp → Prop} (h : ACt P f args' [] post) (hv : VwL [] args args') : ACt P f args [] post := by
  intro cx vs hK hKT hw hs hr
  have hlen := hv.length
  have himm : ∀ c, imm cx cx.w0 [] c → cx.I c := by
    rintro c (hc | ⟨h1, h2, h3⟩)
    · exact hc
    · rcases h1 with h1 | h1
      · rw [hK] at h1; simp at h1
      · omega
  refine h cx vs hK hKT hw (by omega) (fun i hi => ?_)
  have hi' : i < args.length := by omega
  exact (hv.get i hi').rep hw (fun c hc => himm c hc) (fun x hx => by simp at hx) ((hr i hi').mono fun c hc => ⟨.inl hc, rfl⟩)
theorem wide_small {x : Nat} (h : x < 18446744073709551616) : wideA x = .agg [iv .u64 0, iv .u64 (x : Int)] := by
  unfold wideA nu
  rw [Nat.div_eq_of_lt h, Nat.mod_eq_of_lt h]; rfl
theorem cmp_small (a b : Nat) (h : a ≤ b) (hb : b < 18446744073709551616) : ∃ z : Int, decide (z > 0) = false ∧ ACt Tryd.prog 39 [.agg [iv .u64 0, iv .u64 (a : Int)], .agg [iv .u64 0, iv .u64 (b : Int)]] [] (Fn (iv .i64 z)) := by
  refine ⟨cmpN a b, ?_, ?_⟩
  · unfold cmpN
    refine decide_eq_false ?_
    split
    · decide
    · rw [if_neg (by omega)]; decide
  · have := compare_ct a b
    rw [wide_small (by omega), wide_small hb] at this
    exact this
theorem totN_small {f m : Nat} (n : Nat) (hm : m ≤ 300) (hn : n ≤ 6) : totN f m n ≤ 1800 := by
  have := totN_bd (f := f) (m := m) n
  have h2 : n * m ≤ 6 * 300 := Nat.mul_le_mul hn hm
  omega
theorem totN_mono {f m a b : Nat} (h : a ≤ b) : totN f m a ≤ totN f m b := by
  induction h with
  | refl => exact Nat.le_refl _
  | step h ih => rw [totN]; omega
abbrev bdE (k : Ky) (born nx s : Nat) : En := ⟨k, (born : Int), (nx : Int), (s : Int), false⟩
abbrev bdN (f c : Nat) : Nt := ⟨2, 0, (f : Int), (c : Int), 0⟩
theorem bx_one {k : Ky} {born nx s : Nat} (hk : krB k = true) (hb : born ≤ 4294967295) (h1 : born ≤ nx) (h2 : nx ≤ 253404892799) (h3 : s ≤ 1000000) : bxB ⟨[bdE k born nx s], 0⟩ = true := by
  rw [bx_iff]
  refine ⟨⟨by simp, by simp⟩, fun e he => ?_, by simp⟩
  obtain rfl := List.mem_singleton.1 he
  unfold erB tkB
  simp only [hk, Bool.true_and, Bool.and_eq_true, decide_eq_true_eq]
  omega
theorem bx_none : bxB ⟨[], 0⟩ = true := by
  rw [bx_iff]
  exact ⟨⟨by simp, by simp⟩, fun e he => (by cases he), by simp⟩
theorem nt_bd {f c : Nat} (h1 : 1 ≤ f) (h2 : f ≤ 50) (h3 : f ≤ c) (h4 : c ≤ 300) : ntB (bdN f c) = true := by
  unfold ntB; exact decide_eq_true (by simp only; omega)
theorem tk_bd {n : Nat} (h : n ≤ 4294977295) : tkB (n : Int) = true := by unfold tkB; exact decide_eq_true (by omega)
theorem ad_bd {k : Ky} {f c born : Nat} (hk : krB k = true) (h1 : 1 ≤ f) (h2 : f ≤ 50) (h3 : f ≤ c) (h4 : c ≤ 300) (hb : born ≤ 4294967295) :
    adR (bdN f c) ⟨[], 0⟩ k (born : Int) = .tup [.agg [.sl 1 (ecs [bdE k born born 0]), iv .u64 0], iv .i64 0] := by
  have hx : ¬ (0 : Int) ≤ ixE [] k 0 := by unfold ixE; omega
  have hr : rmB (bdN f c) ⟨[], 0⟩ k = true := by unfold rmB; exact decide_eq_true (by simp only [List.length_nil]; split <;> simp)
  unfold adR adB adC
  simp only [nt_bd h1 h2 h3 h4, bx_none, hk, tk_bd (show born ≤ 4294977295 by omega), hx, hr, Bool.and_self, Bool.not_true, Bool.false_eq_true, ↓reduceIte]
  rfl
theorem sn_bd1 {k : Ky} {f c born nx s now : Nat} (hk : krB k = true) (h1 : 1 ≤ f) (h2 : f ≤ 50) (h3 : f ≤ c) (h4 : c ≤ 300) (hb : born ≤ 4294967295) (hn1 : born ≤ nx) (hn2 : nx ≤ 4294977295) (hs : s ≤ 6) (hnow : now ≤ 4294977295) (hd : nx ≤ now) :
    snR (bdN f c) ⟨[bdE k born nx s], 0⟩ (now : Int) [] = .tup [.agg [.sl 1 (ecs [bdE k born (now + waitN f c s) (s + 1)]), iv .u64 0], .sl 1 (kcs [k])] := by
  have hh : hasB [] k = false := hasB_f (by simp)
  have hg : gsB (bdN f c) (now : Int) [] (bdE k born nx s) = true := by
    unfold gsB dueB
    simp only [hh, Bool.not_false, Bool.true_or, Bool.and_true, decide_eq_true_eq]
    omega
  have hw : wtN (bdN f c) (bdE k born nx s) = ((waitN f c s : Nat) : Int) := by
    unfold wtN
    simp only [Bool.false_eq_true, ↓reduceIte, Int.toNat_natCast]
    rw [if_pos (by omega)]
    rw [show ((s : Int) + 1).toNat - 1 = s by omega]
  have he : snE (bdN f c) (now : Int) (bdE k born nx s) = bdE k born (now + waitN f c s) (s + 1) := by
    unfold snE
    rw [hw]
    simp only
    rw [if_pos (by omega)]
    show En.mk k (born : Int) ((now : Int) + ((waitN f c s : Nat) : Int)) ((s : Int) + 1) false = En.mk k (born : Int) ((now + waitN f c s : Nat) : Int) ((s + 1 : Nat) : Int) false
    rw [Int.natCast_add, Int.natCast_add]; rfl
  unfold snR snB snK
  rw [nt_bd h1 h2 h3 h4, bx_one hk hb hn1 (by omega) (by omega), tk_bd hnow]
  simp only [Bool.and_self, ↓reduceIte, List.map_cons, List.map_nil, hg, he, List.filter_cons, List.filter_nil]
  rfl
theorem sn_bd0 {k : Ky} {f c born nx s now : Nat} (hk : krB k = true) (h1 : 1 ≤ f) (h2 : f ≤ 50) (h3 : f ≤ c) (h4 : c ≤ 300) (hb : born ≤ 4294967295) (hn1 : born ≤ nx) (hn2 : nx ≤ 4294977295) (hs : s ≤ 6) (hnow : now ≤ 4294977295) (hd : now < nx) :
    snR (bdN f c) ⟨[bdE k born nx s], 0⟩ (now : Int) [] = .tup [.agg [.sl 1 (ecs [bdE k born nx s]), iv .u64 0], .sl 0 []] := by
  have hg : gsB (bdN f c) (now : Int) [] (bdE k born nx s) = false := by
    unfold gsB dueB
    have : decide ((nx : Int) ≤ (now : Int)) = false := decide_eq_false (by omega)
    simp only [this, Bool.false_and]
  unfold snR snB snK
  rw [nt_bd h1 h2 h3 h4, bx_one hk hb hn1 (by omega) (by omega), tk_bd hnow]
  simp only [Bool.and_self, ↓reduceIte, List.map_cons, List.map_nil, hg, Bool.false_eq_true, List.filter_cons, List.filter_nil]
  rfl
structure BdG where
  now : Nat
  s : Nat
  nx : Nat
set_option maxHeartbeats 8000000 in
set_option maxRecDepth 8000 in
theorem bound7_ct (k : Ky) (f0 m0 s0 t0 born : Nat) (z1 : k.g.size ≤ 2000000) (z2 : k.r.size ≤ 2000000) (hf0 : f0 < 256) (hm0 : m0 < 256) (hs0 : s0 < 256) (ht0 : t0 < 256) (hb : born ≤ 4294967295) :
    ACt Tryd.prog 7 [kv k, iv .u8 (f0 : Int), iv .u8 (m0 : Int), iv .u8 (s0 : Int), iv .u8 (t0 : Int), iv .u32 (born : Int)] [] (fun r _ => r = bv true) := by
  have cA := awake_ct
  have cH := heavy_ct k
  obtain ⟨hy, hhy⟩ : ∃ x, hvB k = x := ⟨_, rfl⟩
  rw [hhy] at cH
  have cR := rkright_w k z1 z2
  cases hk : krB k with
  | false =>
    rw [hk] at cR
    obtain ⟨kg, kr, kp, ke, ks⟩ := k
    refine ACt.intro Tryd.func7 rfl (by kernel_rfl) (by simp [Tryd.ntmps7]) (fun cx => ?_)
    simp only [argE, Tryd.ntmps7, Tryd.results7]
    first | (have FRx := FR; clear FRx) | have FR := fr0S
    have FA := Sm.mk (TFOuBB)
    repeat' first | (apply Sm.mk; refine Ys ?_) | refine WP.seq fun K hK => ?_ | (apply Ob.mk; exact Yo) | refine And.intro (Ob.out ?_) ?_ | refine Y1OuBB ?_ | refine Yc (c := cA) (r := ?_) | refine Yc (c := cR) (r := ?_) | refine Yc (c := cH) (r := ?_) | refine YzOuBB ?_ | (refine WP.cond rfl (fun hc => ?_) (fun hc => ?_) <;> (try simp only [ZC, reduceCtorEq, ZD] at hc) <;> (try exact absurd hc (by decide)) <;> (try (exfalso; omega))) | refine Rt.mk (And.intro (fun hg => Sm.out ?_) fun hg => Sm.out ?_) | (refine Nu.mk ?_; first | (fail_if_success have := nb1); intro nb1 | (fail_if_success have := nb2); intro nb2 | (fail_if_success have := nb3); intro nb3 | (fail_if_success have := nb4); intro nb4 | (fail_if_success have := nb5); intro nb5 | (fail_if_success have := nb6); intro nb6 | (fail_if_success have := nb7); intro nb7 | (fail_if_success have := nb8); intro nb8 | intro nbz) | (apply Yfr; refine Yf FR fun hFRb FR => ?_) | refine Two.mk ?_ ?_ | (apply Yxc; exact Yx) | refine Cs.mk fun hcs => Sm.out ?_ | go_step | omega | (simp only [maxLen_eq]; omega) | exact trivial
    (refine Yg ?_; try exact trivial)
  | true =>
  rw [hk] at cR
  cases hy with
  | true =>
    obtain ⟨kg, kr, kp, ke, ks⟩ := k
    refine ACt.intro Tryd.func7 rfl (by kernel_rfl) (by simp [Tryd.ntmps7]) (fun cx => ?_)
    simp only [argE, Tryd.ntmps7, Tryd.results7]
    first | (have FRx := FR; clear FRx) | have FR := fr0S
    have FA := Sm.mk (TFOuBB)
    repeat' first | (apply Sm.mk; refine Ys ?_) | refine WP.seq fun K hK => ?_ | (apply Ob.mk; exact Yo) | refine And.intro (Ob.out ?_) ?_ | refine Y1OuBB ?_ | refine Yc (c := cA) (r := ?_) | refine Yc (c := cR) (r := ?_) | refine Yc (c := cH) (r := ?_) | refine YzOuBB ?_ | (refine WP.cond rfl (fun hc => ?_) (fun hc => ?_) <;> (try simp only [ZC, reduceCtorEq, ZD] at hc) <;> (try exact absurd hc (by decide)) <;> (try (exfalso; omega))) | refine Rt.mk (And.intro (fun hg => Sm.out ?_) fun hg => Sm.out ?_) | (refine Nu.mk ?_; first | (fail_if_success have := nb1); intro nb1 | (fail_if_success have := nb2); intro nb2 | (fail_if_success have := nb3); intro nb3 | (fail_if_success have := nb4); intro nb4 | (fail_if_success have := nb5); intro nb5 | (fail_if_success have := nb6); intro nb6 | (fail_if_success have := nb7); intro nb7 | (fail_if_success have := nb8); intro nb8 | intro nbz) | (apply Yfr; refine Yf FR fun hFRb FR => ?_) | refine Two.mk ?_ ?_ | (apply Yxc; exact Yx) | refine Cs.mk fun hcs => Sm.out ?_ | go_step | omega | (simp only [maxLen_eq]; omega) | exact trivial
    (refine Yg ?_; try exact trivial)
  | false =>
  have hzk := hv_kz hhy
  have t50 : ∀ x : Nat, (x : Int).tmod 50 = ((x % 50 : Nat) : Int) := fun x => by rw [Int.tmod_eq_emod_of_nonneg (by omega)]; simp
  have t200 : ∀ x : Nat, (x : Int).tmod 200 = ((x % 200 : Nat) : Int) := fun x => by rw [Int.tmod_eq_emod_of_nonneg (by omega)]; simp
  have t6 : ∀ x : Nat, (x : Int).tmod 6 = ((x % 6 : Nat) : Int) := fun x => by rw [Int.tmod_eq_emod_of_nonneg (by omega)]; simp
  have a50 := t50 f0
  have b50 := t50 s0
  have a200 := t200 m0
  have a6 := t6 t0
  clear t50 t200 t6
  obtain ⟨f1, hf1⟩ : ∃ x, x = f0 % 50 := ⟨_, rfl⟩
  obtain ⟨m1, hm1⟩ : ∃ x, x = m0 % 200 := ⟨_, rfl⟩
  obtain ⟨e1, he1⟩ : ∃ x, x = s0 % 50 := ⟨_, rfl⟩
  obtain ⟨w1, hw1⟩ : ∃ x, x = t0 % 6 := ⟨_, rfl⟩
  have hf1b : f1 < 50 := by omega
  have hm1b : m1 < 200 := by omega
  have he1b : e1 < 50 := by omega
  have hw1b : w1 < 6 := by omega
  rw [← hf1] at a50
  rw [← hm1] at a200
  rw [← he1] at b50
  rw [← hw1] at a6
  clear hf1 hm1 he1 hw1
  obtain ⟨f, hf⟩ : ∃ x, x = f1 + 1 := ⟨_, rfl⟩
  obtain ⟨c, hc0⟩ : ∃ x, x = f + m1 := ⟨_, rfl⟩
  obtain ⟨ev, hev⟩ : ∃ x, x = e1 + 1 := ⟨_, rfl⟩
  obtain ⟨wn, hwn⟩ : ∃ x, x = w1 + 1 := ⟨_, rfl⟩
  have u1 : IntKind.i64.wrap (f1 : Int) = (f1 : Int) := wrap_i64 (by omega) (by omega)
  have u2 : IntKind.i64.wrap (m1 : Int) = (m1 : Int) := wrap_i64 (by omega) (by omega)
  have u3 : IntKind.i64.wrap (e1 : Int) = (e1 : Int) := wrap_i64 (by omega) (by omega)
  have u4 : IntKind.i64.wrap (w1 : Int) = (w1 : Int) := wrap_i64 (by omega) (by omega)
  have v1 : IntKind.i64.wrap ((f1 : Int) + 1) = (f : Int) := by rw [wrap_i64 (by omega) (by omega)]; omega
  have v2 : IntKind.i64.wrap ((f : Int) + (m1 : Int)) = (c : Int) := by rw [wrap_i64 (by omega) (by omega)]; omega
  have v3 : IntKind.i64.wrap ((e1 : Int) + 1) = (ev : Int) := by rw [wrap_i64 (by omega) (by omega)]; omega
  have v4 : IntKind.i64.wrap ((w1 : Int) + 1) = (wn : Int) := by rw [wrap_i64 (by omega) (by omega)]; omega
  have y1 : IntKind.u8.wrap (f1 : Int) = (f1 : Int) := by rw [wrap_u8_mod]; omega
  have y2 : IntKind.u8.wrap (m1 : Int) = (m1 : Int) := by rw [wrap_u8_mod]; omega
  have y3 : IntKind.u8.wrap (e1 : Int) = (e1 : Int) := by rw [wrap_u8_mod]; omega
  have y4 : IntKind.u8.wrap (w1 : Int) = (w1 : Int) := by rw [wrap_u8_mod]; omega
  have u5 : IntKind.i64.wrap (born : Int) = (born : Int) := wrap_i64 (by omega) (by omega)
  have cB := bound_ct f c wn ev (by omega) (by omega) (by omega) (by omega) (by omega) (by omega)
  have hT := totN_small (f := f) (m := c) wn (by omega) (by omega)
  have hwe : wn * ev ≤ 300 := Nat.mul_le_mul (show wn ≤ 6 by omega) (show ev ≤ 50 by omega)
  obtain ⟨B, hB⟩ : ∃ B, B = totN f c wn + wn * ev := ⟨_, rfl⟩
  rw [← hB, wide_small (by omega)] at cB
  have cD := admit_ct (bdN f c) ⟨[], 0⟩ k (born : Int) 0 rfl (by omega) (fun e he => by cases he) hzk (Int.le_refl _)
  rw [ad_bd hk (by omega) (by omega) (by omega) (by omega) hb] at cD
  have cD2 : ACt Tryd.prog 13 [.agg [iv .i64 2, iv .i64 0, iv .i64 (f : Int), iv .i64 (c : Int), iv .i64 0], .agg [nsl, iv .u64 0], kv k, iv .i64 (born : Int)] [] (Fn (.tup [.agg [.sl 1 (ecs [bdE k born born 0]), iv .u64 0], iv .i64 0])) := cD.viewN ⟨.same _, vw_nil, .same _, .same _, trivial⟩
  clear cD
  have cS : ∀ (now nx s : Nat), nx ≤ 4294977295 → ACt Tryd.prog 25 [.agg [iv .i64 2, iv .i64 0, iv .i64 (f : Int), iv .i64 (c : Int), iv .i64 0], .agg [.sl 1 (ecs [bdE k born nx s]), iv .u64 0], iv .i64 (now : Int), nsl] [] (Fn (snR (bdN f c) ⟨[bdE k born nx s], 0⟩ (now : Int) [])) := fun now nx s h =>
    (send_ct (bdN f c) ⟨[bdE k born nx s], 0⟩ (now : Int) [] 1 0 rfl rfl (by omega) (by omega) (fun e he => by obtain rfl := List.mem_singleton.1 he; exact hzk)).viewN ⟨.same _, .same _, .same _, .nils, trivial⟩
  have hSa := fun (now nx s : Nat) => sn_bd1 (k := k) (f := f) (c := c) (born := born) (nx := nx) (s := s) (now := now) hk (by omega) (by omega) (by omega) (by omega) hb
  have hSb := fun (now nx s : Nat) => sn_bd0 (k := k) (f := f) (c := c) (born := born) (nx := nx) (s := s) (now := now) hk (by omega) (by omega) (by omega) (by omega) hb
  obtain ⟨X, hX⟩ : ∃ X : Nat → Nat → List AV, X = fun nx s => ecs [bdE k born nx s] := ⟨_, rfl⟩
  have hX' : ∀ nx s, ecs [bdE k born nx s] = X nx s := fun nx s => by rw [hX]
  simp only [hX'] at cS hSa hSb
  rw [hX'] at cD2
  clear hX hX'
  have z0 : ((0 : Int) != 0) = false := rfl
  have z1 : decide ((0 : Int) > 0) = false := rfl
  obtain ⟨kg, kr, kp, ke, ks⟩ := k
  refine ACt.intro Tryd.func7 rfl (by kernel_rfl) (by simp [Tryd.ntmps7]) (fun cx => ?_)
  simp only [argE, Tryd.ntmps7, Tryd.results7]
  first | (have FRx := FR; clear FRx) | have FR := fr0S
  have FA := Sm.mk (And.intro TFOuBB (And.intro a50 (And.intro b50 (And.intro a200 (And.intro a6 (And.intro u1 (And.intro u2 (And.intro u3 (And.intro u4 (And.intro u5 (And.intro v1 (And.intro v2 (And.intro v3 (And.intro v4 (And.intro y1 (And.intro y2 (And.intro y3 (And.intro y4 (And.intro z0 z1)))))))))))))))))))
  repeat' first | (apply Sm.mk; refine Ys ?_) | refine WP.seq fun K hK => ?_ | (apply Ob.mk; exact Yo) | refine And.intro (Ob.out ?_) ?_ | refine Y1OuBB ?_ | refine Yc (c := cA) (r := ?_) | refine Yc (c := cR) (r := ?_) | refine Yc (c := cH) (r := ?_) | refine Yc (c := cB) (r := ?_) | refine Yc (c := cD2) (r := ?_) | refine YzOuBB ?_ | (refine WP.cond rfl (fun hc => ?_) (fun hc => ?_) <;> (try simp only [ZC, reduceCtorEq, ZD] at hc) <;> (try exact absurd hc (by decide)) <;> (try (exfalso; omega))) | refine Rt.mk (And.intro (fun hg => Sm.out ?_) fun hg => Sm.out ?_) | (refine Nu.mk ?_; first | (fail_if_success have := nb1); intro nb1 | (fail_if_success have := nb2); intro nb2 | (fail_if_success have := nb3); intro nb3 | (fail_if_success have := nb4); intro nb4 | (fail_if_success have := nb5); intro nb5 | (fail_if_success have := nb6); intro nb6 | (fail_if_success have := nb7); intro nb7 | (fail_if_success have := nb8); intro nb8 | intro nbz) | (apply Yfr; refine Yf FR fun hFRb FR => ?_) | refine Two.mk ?_ ?_ | (apply Yxc; exact Yx) | refine Cs.mk fun hcs => Sm.out ?_ | go_step | omega | (simp only [maxLen_eq]; omega) | exact trivial
  have hne := FR.out
  have hwp : ∀ j, 1 ≤ waitN f c j := fun j => by
    have := (waitN_mono (f := f) (m := c) (i := j)).2.2.2
    have h2 := this (by omega)
    omega
  refine WP.loop (Γ := BdG) (fun g => ⟨[(21, iv .i64 (g.now : Int)), (20, iv .i64 (g.s : Int)), (18, pt nb4 0), (16, pt nb3 0), (15, iv .i64 (wn : Int)), (14, iv .i64 (ev : Int)), (13, pt nb2 0), (5, iv .u32 (born : Int))], [(nb4, .cells [.sl 1 (X g.nx g.s), iv .u64 0] 2 27), (nb3, .cells [iv .u64 0, iv .u64 (B : Int)] 2 66), (nb2, .cells [iv .i64 2, iv .i64 0, iv .i64 (f : Int), iv .i64 (c : Int), iv .i64 0] 5 23)]⟩)
    (fun g => g.s ≤ wn ∧ born ≤ g.nx ∧ born ≤ g.now ∧ g.nx ≤ born + totN f c g.s + g.s * ev ∧ g.now < g.nx + ev) (fun g => born + B + ev - g.now) ⟨born, 0, born⟩
    ⟨Nat.zero_le _, Nat.le_refl _, Nat.le_refl _, by simp only [totN, Nat.zero_mul]; omega, by simp only; omega⟩ (Sub.pick (by simp [pickB, hget, hdel, FR.out, hne]) (by simp [look, hne])) ?_
  intro ⟨now, s, nx⟩ ⟨g1, g2, g3, g4, g5⟩
  simp only at g1 g2 g3 g4 g5 ⊢
  have FR : Sm (¬ ((1 : Nat) = 0)) := Sm.mk Nat.one_ne_zero
  by_cases hin : s < wn
  · have ki : decide ((s : Int) < (wn : Int)) = true := decide_eq_true (by omega)
    have e1 : totN f c (s + 1) = totN f c s + waitN f c s := rfl
    have e2 : (s + 1) * ev = s * ev + ev := Nat.succ_mul s ev
    have e3 := totN_mono (f := f) (m := c) (show s + 1 ≤ wn by omega)
    have e4 : (s + 1) * ev ≤ wn * ev := Nat.mul_le_mul_right _ (by omega)
    have hwl := waitN_le f c s
    have hw1 := hwp s
    have hB1 : now - born ≤ B := by omega
    obtain ⟨z, kz, cC⟩ := cmp_small (now - born) B hB1 (by omega)
    have v5 : IntKind.i64.wrap ((now : Int) - (born : Int)) = ((now - born : Nat) : Int) := by rw [wrap_i64 (by omega) (by omega)]; omega
    have v6 : IntKind.u64.wrap ((now - born : Nat) : Int) = ((now - born : Nat) : Int) := wrap_u64_nat (by omega)
    have v7 : IntKind.i64.wrap ((now : Int) + (ev : Int)) = ((now + ev : Nat) : Int) := by rw [wrap_i64 (by omega) (by omega)]; omega
    have c3 := cS now nx s (by omega)
    by_cases hdue : nx ≤ now
    · rw [hSa now nx s g2 (by omega) (by omega) (by omega) hdue] at c3
      have v8 : IntKind.i64.wrap ((s : Int) + ((1 : Nat) : Int)) = ((s + 1 : Nat) : Int) := by rw [wrap_i64 (by omega) (by omega)]; omega
      have v8' : IntKind.i64.wrap ((s : Int) + 1) = ((s + 1 : Nat) : Int) := by rw [wrap_i64 (by omega) (by omega)]; omega
      clear cS hSa hSb hwp
      first | (have FRx := FR; clear FRx) | have FR := fr0S
      have FA := Sm.mk (And.intro TFOuBB (And.intro ki (And.intro kz (And.intro u5 (And.intro v5 (And.intro v6 (And.intro v7 (And.intro v8 (And.intro v8' hne)))))))))
      repeat' first | (apply Sm.mk; refine Ys ?_) | refine WP.seq fun K hK => ?_ | (apply Ob.mk; exact Yo) | refine And.intro (Ob.out ?_) ?_ | refine Y1OuBB ?_ | refine Yc (c := cC) (r := ?_) | refine Yc (c := c3) (r := ?_) | refine YzOuBB ?_ | (refine WP.cond rfl (fun hc => ?_) (fun hc => ?_) <;> (try simp only [ZC, reduceCtorEq, ZD] at hc) <;> (try exact absurd hc (by decide)) <;> (try (exfalso; omega))) | refine Rt.mk (And.intro (fun hg => Sm.out ?_) fun hg => Sm.out ?_) | (refine Nu.mk ?_; first | (fail_if_success have := nb1); intro nb1 | (fail_if_success have := nb2); intro nb2 | (fail_if_success have := nb3); intro nb3 | (fail_if_success have := nb4); intro nb4 | (fail_if_success have := nb5); intro nb5 | (fail_if_success have := nb6); intro nb6 | (fail_if_success have := nb7); intro nb7 | (fail_if_success have := nb8); intro nb8 | intro nbz) | (apply Yfr; refine Yf FR fun hFRb FR => ?_) | refine Two.mk ?_ ?_ | (apply Yxc; exact Yx) | refine Cs.mk fun hcs => Sm.out ?_ | go_step | omega | (simp only [maxLen_eq]; omega) | exact trivial
      exact ⟨⟨now + ev, s + 1, now + waitN f c s⟩, ⟨by simp only; omega, by simp only; omega, by simp only; omega, by simp only; omega, by simp only; omega⟩, by simp only; omega, (Sub.pick (by simp [pickB, hget, hdel, FR.out, hne]) (by simp [look, hne]))⟩
    · rw [hSb now nx s g2 (by omega) (by omega) (by omega) (by omega)] at c3
      have v8 : IntKind.i64.wrap ((s : Int) + ((0 : Nat) : Int)) = (s : Int) := by rw [wrap_i64 (by omega) (by omega)]; omega
      have v8' : IntKind.i64.wrap ((s : Int) + 0) = (s : Int) := by rw [wrap_i64 (by omega) (by omega)]; omega
      clear cS hSa hSb hwp
      first | (have FRx := FR; clear FRx) | have FR := fr0S
      have FA := Sm.mk (And.intro TFOuBB (And.intro ki (And.intro kz (And.intro u5 (And.intro v5 (And.intro v6 (And.intro v7 (And.intro v8 (And.intro v8' hne)))))))))
      repeat' first | (apply Sm.mk; refine Ys ?_) | refine WP.seq fun K hK => ?_ | (apply Ob.mk; exact Yo) | refine And.intro (Ob.out ?_) ?_ | refine Y1OuBB ?_ | refine Yc (c := cC) (r := ?_) | refine Yc (c := c3) (r := ?_) | refine YzOuBB ?_ | (refine WP.cond rfl (fun hc => ?_) (fun hc => ?_) <;> (try simp only [ZC, reduceCtorEq, ZD] at hc) <;> (try exact absurd hc (by decide)) <;> (try (exfalso; omega))) | refine Rt.mk (And.intro (fun hg => Sm.out ?_) fun hg => Sm.out ?_) | (refine Nu.mk ?_; first | (fail_if_success have := nb1); intro nb1 | (fail_if_success have := nb2); intro nb2 | (fail_if_success have := nb3); intro nb3 | (fail_if_success have := nb4); intro nb4 | (fail_if_success have := nb5); intro nb5 | (fail_if_success have := nb6); intro nb6 | (fail_if_success have := nb7); intro nb7 | (fail_if_success have := nb8); intro nb8 | intro nbz) | (apply Yfr; refine Yf FR fun hFRb FR => ?_) | refine Two.mk ?_ ?_ | (apply Yxc; exact Yx) | refine Cs.mk fun hcs => Sm.out ?_ | go_step | omega | (simp only [maxLen_eq]; omega) | exact trivial
      exact ⟨⟨now + ev, s, nx⟩, ⟨by simp only; omega, by simp only; omega, by simp only; omega, by simp only; omega, by simp only; omega⟩, by simp only; omega, (Sub.pick (by simp [pickB, hget, hdel, FR.out, hne]) (by simp [look, hne]))⟩
  · have ki : decide ((s : Int) < (wn : Int)) = false := decide_eq_false (by omega)
    first | (have FRx := FR; clear FRx) | have FR := fr0S
    have FA := Sm.mk (And.intro TFOuBB (And.intro ki hne))
    repeat' first | (apply Sm.mk; refine Ys ?_) | refine WP.seq fun K hK => ?_ | (apply Ob.mk; exact Yo) | refine And.intro (Ob.out ?_) ?_ | refine Y1OuBB ?_ | refine YzOuBB ?_ | (refine WP.cond rfl (fun hc => ?_) (fun hc => ?_) <;> (try simp only [ZC, reduceCtorEq, ZD] at hc) <;> (try exact absurd hc (by decide)) <;> (try (exfalso; omega))) | refine Rt.mk (And.intro (fun hg => Sm.out ?_) fun hg => Sm.out ?_) | (refine Nu.mk ?_; first | (fail_if_success have := nb1); intro nb1 | (fail_if_success have := nb2); intro nb2 | (fail_if_success have := nb3); intro nb3 | (fail_if_success have := nb4); intro nb4 | (fail_if_success have := nb5); intro nb5 | (fail_if_success have := nb6); intro nb6 | (fail_if_success have := nb7); intro nb7 | (fail_if_success have := nb8); intro nb8 | intro nbz) | (apply Yfr; refine Yf FR fun hFRb FR => ?_) | refine Two.mk ?_ ?_ | (apply Yxc; exact Yx) | refine Cs.mk fun hcs => Sm.out ?_ | go_step | omega | (simp only [maxLen_eq]; omega) | exact trivial
    (refine Yg ?_; try exact trivial)
theorem bound_law {xs : List AV} {a1 a2 a3 a4 a5 : Int} (hx : Shp keyTy xs) (hs0 : ∀ s, xs.getD 0 .any = .lit (.string s) → s.size ≤ 2000000) (hs1 : ∀ s, xs.getD 1 .any = .lit (.string s) → s.size ≤ 2000000) (h1 : 0 ≤ a1 ∧ a1 ≤ 255) (h2 : 0 ≤ a2 ∧ a2 ≤ 255) (h3 : 0 ≤ a3 ∧ a3 ≤ 255) (h4 : 0 ≤ a4 ∧ a4 ≤ 255) (h5 : 0 ≤ a5 ∧ a5 ≤ 4294967295) : ACt Tryd.prog 7 [.agg xs, iv .u8 a1, iv .u8 a2, iv .u8 a3, iv .u8 a4, iv .u32 a5] [] (fun r _ => r = bv true) := by
  obtain ⟨k, e1⟩ := key_shp hx
  have z1 := hs0 k.g (by rw [e1]; rfl)
  have z2 := hs1 k.r (by rw [e1]; rfl)
  obtain ⟨a1, rfl⟩ := Int.eq_ofNat_of_zero_le h1.1
  obtain ⟨a2, rfl⟩ := Int.eq_ofNat_of_zero_le h2.1
  obtain ⟨a3, rfl⟩ := Int.eq_ofNat_of_zero_le h3.1
  obtain ⟨a4, rfl⟩ := Int.eq_ofNat_of_zero_le h4.1
  obtain ⟨a5, rfl⟩ := Int.eq_ofNat_of_zero_le h5.1
  rw [e1]
  exact bound7_ct k a1 a2 a3 a4 a5 z1 z2 (by omega) (by omega) (by omega) (by omega) (by omega)
end Go.Proofs.YtfknbndmabogjaaDoor
