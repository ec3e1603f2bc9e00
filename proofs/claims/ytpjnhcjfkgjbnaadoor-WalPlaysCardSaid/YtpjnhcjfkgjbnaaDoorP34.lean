/-
  The walks and the laws that the statement leans on, part 34.
-/
import Derived.Test.YtpjnhcjfkgjbnaaDoorP10
namespace Go.Proofs.YtpjnhcjfkgjbnaaDoor
open Go
set_option linter.unusedVariables false
set_option linter.unusedSimpArgs false
section
variable {P : Program} {cx : Cx} {n : Nat} {ops : Array Oper} {H : Hp}
def grG (ops : Array Oper) (env : List (Nat × AV)) : Option (Nat × Bool) → Prop
  | none => True
  | some (j, want) => gdOf env ops j want = some true
def chG (P : Program) (n : Nat) (H : Hp) (l : List Oper) : List Nat → List (Nat × AV) → Hp → (List (Nat × AV) → Hp → Prop) → Prop
  | [], env, E, K => K env E
  | c :: r, env, E, K => match l.drop c with
    | ⟨some t, op, _, _, _, gd⟩ :: _ => t < n ∧ grG l.toArray env gd ∧ chS P H op env E fun x E' => chG P n H l r ((t, x) :: env) E' K
    | _ => False
def soleG (l : List Oper) (cs : List Nat) (k : Nat) : Bool :=
  decide (k ≤ l.length) && cs.all fun c => decide (c < k) && match l[c]? with
    | some o => o.dst.isSome && (List.range l.length).all fun j => match l[j]? with
      | some oj => (decide (j = c) || !(oj.dst == o.dst)) && (decide (j < c) || match oj.dst with
        | some u => !((o.looksAt l.toArray).contains u)
        | none => true)
      | none => false
    | none => false
structure SoleG (l : List Oper) (cs : List Nat) (k : Nat) : Prop where
  le : k ≤ l.length
  at_ : ∀ c ∈ cs, c < k ∧ ∃ o t, l[c]? = some o ∧ o.dst = some t ∧ ∀ j oj, l[j]? = some oj → (oj.dst = some t → j = c) ∧ ∀ u, oj.dst = some u → u ∈ o.looksAt l.toArray → j < c
theorem soleG_spec {l : List Oper} {cs : List Nat} {k : Nat} (h : soleG l cs k = true) : SoleG l cs k := by
  unfold soleG at h
  simp only [Bool.and_eq_true, decide_eq_true_eq] at h
  refine ⟨h.1, fun c hc => ?_⟩
  have h1 := List.all_eq_true.1 h.2 c hc
  simp only [Bool.and_eq_true, decide_eq_true_eq] at h1
  obtain ⟨hck, h1⟩ := h1
  refine ⟨hck, ?_⟩
  split at h1
  case h_2 => cases h1
  rename_i o ho
  simp only [Bool.and_eq_true] at h1
  obtain ⟨hd, h1⟩ := h1
  obtain ⟨t, ht⟩ := Option.isSome_iff_exists.1 hd
  refine ⟨o, t, ho, ht, fun j oj hj => ?_⟩
  have hjl : j < l.length := (List.getElem?_eq_some_iff.1 hj).1
  have h2 := List.all_eq_true.1 h1 j (List.mem_range.2 hjl)
  rw [hj] at h2
  simp only [Bool.and_eq_true, Bool.or_eq_true, decide_eq_true_eq] at h2
  refine ⟨fun hdj => ?_, fun u hu hl => ?_⟩
  · rcases h2.1 with h3 | h3
    · exact h3
    · rw [hdj, ht] at h3; simp at h3
  · rcases h2.2 with h3 | h3
    · exact h3
    · rw [hu] at h3
      simp only [Bool.not_eq_true', List.contains_eq_mem, decide_eq_false_iff_not] at h3
      exact absurd hl h3
structure DInvG (P : Program) (cx : Cx) (n : Nat) (l : List Oper) (lx : List (Oper × AV)) (env : List (Nat × AV)) (H : Hp) (cs : List Nat) (k z : Nat) (Kf : List (Nat × AV) → Hp → Prop) (envF : List (Nat × AV)) (listed : Array Bool) (a : Act) (w : World) : Prop where
  zero : ∀ j, j < z → listed.getD j false = true
  behind : ∀ j, k ≤ j → listed.getD j false = false
  ph : ∃ done rest V E, cs = done ++ rest ∧ (∀ i ∈ done, listed.getD i false = true) ∧ (∀ i ∈ rest, listed.getD i false = false) ∧ chG P n H l rest (V ++ envF) E Kf ∧ (∀ y ∈ E, fresh H y.1) ∧
    (∀ t ∈ V.map (·.1), Rep w (imm cx w (E ++ H)) (a.tmps.getD t undef) (look V t) ∧ look (envL (fun j => listed.getD j false) lx 0 env) t = .any ∧ ∃ c ∈ done, (l[c]?).bind (·.dst) = some t) ∧
    DInv cx n l.toArray lx env (E ++ H) listed a w
theorem dinvG_step {l : List Oper} {cs : List Nat} {k z : Nat} {Kf : List (Nat × AV) → Hp → Prop} {envF : List (Nat × AV)} {lx : List (Oper × AV)} {env : List (Nat × AV)} {listed : Array Bool} {a : Act} {w : World} {i : Nat}
    (hD : DrawOk l.toArray lx.length) (hlx : ∀ (j : Nat) o x, lx[j]? = some (o, x) → l.toArray[j]? = some o) (hll : lx.length = l.length)
    (hS : SeqG (fun i o x env => z ≤ i → i < k → CN P cx n l.toArray cs H 0 i o x env) lx env) (hch : chainB l.toArray cs = true) (hso : SoleG l cs k)
    (hEF : ∀ t, look envF t = look (envL (fun j => decide (j < k)) lx 0 env) t)
    (inv : DInvG P cx n l lx env H cs k z Kf envF listed a w) (hi : i ∈ Region.ready .any l.toArray listed) (hik : i < k) {R : Exit → Act → World → Prop} {X : Act → World → Prop}
    (hX : ∀ a' w', DInvG P cx n l lx env H cs k z Kf envF (listed.setIfInBounds i true) a' w' → X a' w') : wpOp P l.toArray R i X a w := by
  obtain ⟨done, rest, V, E, hcs, hdone, hrest, hF, hfr, hV, hinv⟩ := inv.ph
  have hkl := hso.le
  obtain ⟨⟨o, x⟩, hp⟩ : ∃ p, lx[i]'(by omega) = p := ⟨_, rfl⟩
  have hli : lx[i]? = some (o, x) := by rw [List.getElem?_eq_getElem (by omega), hp]
  have hoi := hlx i o x hli
  have hlo : l[i]? = some o := by simpa using hoi
  have hilt : i < l.toArray.size := (Array.getElem?_eq_some_iff.1 hoi).1
  have hun : listed.getD i false = false := by
    have := (mem_ready.1 hi).1
    rwa [getD_bool (by rw [hinv.lsize]; exact hilt)] at this
  have hzi : z ≤ i := by
    apply Classical.byContradiction; intro hn
    have := inv.zero i (by omega)
    rw [hun] at this; cases this
  have hSi := hS i o x hli hzi hik
  unfold CN at hSi
  rw [Nat.zero_add] at hSi
  have hset : ∀ j, (listed.setIfInBounds i true).getD j false = if j = i then true else listed.getD j false := by
    intro j
    by_cases hji : j = i
    · subst hji
      have : j < listed.size := by rw [hinv.lsize]; exact hilt
      simp [this]
    · rw [if_neg hji, getD_set_ne false (Ne.symm hji)]
  have hz : ∀ j, j < z → (listed.setIfInBounds i true).getD j false = true := fun j hj => by
    rw [hset]; split
    · rfl
    · exact inv.zero j hj
  have hbh : ∀ j, k ≤ j → (listed.setIfInBounds i true).getD j false = false := fun j hj => by rw [hset, if_neg (by omega)]; exact inv.behind j hj
  have hlook := dinv_look hD hlx hinv hi hli
  -- a slot that the i-th does not write
  have hother : ∀ t, o.dst ≠ some t → look (envL (fun j => (listed.setIfInBounds i true).getD j false) lx 0 env) t = look (envL (fun j => listed.getD j false) lx 0 env) t := by
    intro t ht
    refine envL_congr lx 0 env env rfl fun j oj xj hj hdj => ?_
    rw [Nat.zero_add, hset]
    by_cases hji : j = i
    · subst hji
      rw [hli] at hj
      cases hj
      exact absurd hdj ht
    · rw [if_neg hji]
  by_cases hic : i ∈ cs
  · obtain ⟨_, o', t, ho', hdt, hsole⟩ := hso.at_ i hic
    rw [hlo] at ho'
    obtain rfl := Option.some.inj ho'
    have hx := hSi.1 hic
    subst hx
    -- it is the chain's next
    have hir : i ∈ rest := by
      rw [hcs] at hic
      rcases List.mem_append.1 hic with h | h
      · have := hdone i h; rw [hun] at this; cases this
      · exact h
    obtain ⟨c0, rest', hr'⟩ : ∃ c0 rest', rest = c0 :: rest' := by
      cases rest with
      | nil => cases hir
      | cons c r => exact ⟨c, r, rfl⟩
    subst hr'
    have hi0 : i = c0 := by
      rcases List.mem_cons.1 hir with h | h
      · exact h
      · have hc := chainB_drop done (c0 :: rest') (by rw [← hcs]; exact hch)
        simp only [chainB, Bool.and_eq_true] at hc
        have := List.all_eq_true.1 hc.1 i h
        have := reach_of_ready hinv.closed hi this
        rw [hrest c0 (List.mem_cons_self ..)] at this
        cases this
    subst hi0
    have hVt : t ∉ V.map (·.1) := fun hm => by
      obtain ⟨_, _, c, hc, hcd⟩ := hV t hm
      have hcl : (l[c]?).isSome := by
        cases hlc : l[c]? with
        | none => rw [hlc] at hcd; cases hcd
        | some _ => rfl
      obtain ⟨oc, hoc⟩ := Option.isSome_iff_exists.1 hcl
      rw [hoc] at hcd
      have := (hsole c oc hoc).1 hcd
      have h2 := hdone c hc
      rw [this] at h2; rw [hun] at h2; cases h2
    have hdrop : l.drop i = o :: l.drop (i + 1) := by
      have hil : i < l.length := by simpa using hilt
      rw [List.drop_eq_getElem_cons hil]
      congr 1
      rw [List.getElem?_eq_getElem hil] at hlo
      exact Option.some.inj hlo
    have hokF : Ok cx n ⟨V ++ envL (fun j => listed.getD j false) lx 0 env, E ++ H⟩ a w := by
      refine ⟨hinv.ok.defers, hinv.ok.size, fun u => ?_, hinv.ok.world⟩
      show Rep w _ _ (look (V ++ _) u)
      rw [look_app]
      split
      · rename_i hm; exact (hV u hm).1
      · exact hinv.ok.reps u
    have hlF : ∀ u ∈ o.looksAt l.toArray, look (V ++ envL (fun j => listed.getD j false) lx 0 env) u = look (V ++ envF) u := by
      intro u hu
      rw [look_app, look_app]
      split
      · rfl
      · rw [hEF]
        refine envL_congr lx 0 env env rfl fun j oj xj hj hdj => ?_
        rw [Nat.zero_add]
        have hoj := hlx j oj xj hj
        have hloj : l[j]? = some oj := by simpa using hoj
        by_cases hjk : j < k
        · have hji : j < i := (hsole j oj hloj).2 u hdj hu
          rw [decide_eq_true hjk]
          rcases hD.slot i j o oj u hoi (List.getElem?_eq_some_iff.1 hj).1 hoj hdj (.inl hu) (by omega) with ⟨_, h2⟩ | ⟨h1, _⟩
          · exact ready_waits hi hoi h2
          · omega
        · rw [inv.behind j (by omega), decide_eq_false hjk]
    have hopd : ∀ y ∈ o.op.operands, opd (V ++ envL (fun j => listed.getD j false) lx 0 env) y = opd (V ++ envF) y := by
      intro y hy
      refine opd_congr fun u hu => ?_
      subst hu
      exact hlF u (by unfold Oper.looksAt; exact List.mem_append_left _ (List.mem_filterMap.2 ⟨Operand.tmp u, by simpa using hy, rfl⟩))
    unfold chG at hF
    rw [hdrop] at hF
    obtain ⟨dst, op, ty, pos, aft, gd⟩ := o
    simp only at hdt hF hopd
    subst hdt
    simp only at hF
    obtain ⟨htn, hgr, hF⟩ := hF
    have hwant : Region.wanted ⟨some t, op, ty, pos, aft, gd⟩ (yielded l.toArray a.tmps) = true := by
      cases gd with
      | none => simp [Region.wanted]
      | some g =>
        obtain ⟨j, want⟩ := g
        refine wanted_of_gd (s := ⟨V ++ envL (fun j => listed.getD j false) lx 0 env, E ++ H⟩) hokF rfl ?_
        have hgr : gdOf (V ++ envF) l.toArray j want = some true := hgr
        rw [← hgr]
        unfold gdOf
        cases hd : (l.toArray[j]?).bind (·.dst) with
        | none => rfl
        | some d =>
          simp only
          rw [hlF d (by unfold Oper.looksAt; simp only [List.mem_append]; exact .inr (by have hd2 := hd; simp only [List.getElem?_toArray] at hd2; simp [hd2]))]
    have hany : look (envL (fun j => (listed.setIfInBounds i true).getD j false) lx 0 env) t = .any := by
      rw [← envL_at lx 0 i env _ .any hli rfl]
      refine envL_congr lx 0 env env rfl fun j oj xj hj hdj => ?_
      have hloj : l[j]? = some oj := by simpa using hlx j oj xj hj
      have hji := (hsole j oj hloj).1 hdj
      rw [Nat.zero_add, hset, if_pos hji]
      simp; omega
    have hcs' : cs = (done ++ [i]) ++ rest' := by rw [hcs, List.append_assoc]; rfl
    have hdone' : ∀ c ∈ done ++ [i], (listed.setIfInBounds i true).getD c false = true := fun c hc => by
      rw [hset]
      split
      · rfl
      · rcases List.mem_append.1 hc with h | h
        · exact hdone c h
        · rename_i hne; exact absurd (List.mem_singleton.1 h) hne
    have hnr : i ∉ rest' := fun hm => by
      have hc := chainB_drop done (i :: rest') (by rw [← hcs]; exact hch)
      simp only [chainB, Bool.and_eq_true] at hc
      have := List.all_eq_true.1 hc.1 i hm
      have := reach_of_ready hinv.closed hi this
      rw [hun] at this; cases this
    have hrest' : ∀ c ∈ rest', (listed.setIfInBounds i true).getD c false = false := fun c hc => by
      rw [hset, if_neg (fun (h : c = i) => hnr (by rw [← h]; exact hc))]
      exact hrest c (List.mem_cons_of_mem _ hc)
    -- what the step leaves
    have done1 : ∀ (v : AV) (E' : Hp) (a' : Act) (w' : World), a'.defers = [] → a'.tmps.size = n → chG P n H l rest' ((t, v) :: (V ++ envF)) E' Kf → (∀ y ∈ E', fresh H y.1) → OkW cx (E' ++ H) w' →
        (∀ s, Rep w' (imm cx w' (E' ++ H)) (a'.tmps.getD s undef) (look ((t, v) :: (V ++ envL (fun j => listed.getD j false) lx 0 env)) s)) →
        DInvG P cx n l lx env H cs k z Kf envF (listed.setIfInBounds i true) a' w' := by
      intro v E' a' w' hdf hsz hF' hfr' hw' hR
      refine ⟨hz, hbh, done ++ [i], rest', (t, v) :: V, E', hcs', hdone', hrest', by simpa using hF', hfr', fun s hs => ?_, by simp [hinv.lsize], closed_set hinv.closed hi, fun s h1 h2 => ?_, hdf, hsz, fun s => ?_, hw'⟩
      · have hRs := hR s
        by_cases hst : s = t
        · subst hst
          refine ⟨by simpa [look] using hRs, hany, i, by simp, by rw [hlo]; rfl⟩
        · have hs' : s ∈ V.map (·.1) := by
            simp only [List.map_cons, List.mem_cons] at hs
            rcases hs with h | h
            · exact absurd h hst
            · exact h
          obtain ⟨_, h2, c, hc, hcd⟩ := hV s hs'
          simp only [look, if_neg hst] at hRs ⊢
          rw [look_app, if_pos hs'] at hRs
          refine ⟨hRs, ?_, c, List.mem_append_left _ hc, hcd⟩
          rw [hother s (by simp only; intro h; exact hst (Option.some.inj h).symm)]
          exact h2
      · rw [getD_set_ne true (by simp at hilt; omega)]; exact hinv.tail s h1 h2
      · have hRs := hR s
        show Rep w' _ _ (look (envL _ lx 0 env) s)
        by_cases hst : s = t
        · subst hst
          rw [hany]; exact .any _
        · rw [hother s (by simp only; intro h; exact hst (Option.some.inj h).symm)]
          simp only [look, if_neg hst] at hRs
          rw [look_app] at hRs
          split at hRs
          · rename_i hs'; rw [(hV s hs').2.1]; exact .any _
          · exact hRs
    unfold chS at hF
    unfold wpOp
    rw [hoi]
    simp only
    rw [if_pos hwant]
    refine .inl ?_
    cases hmk : mkV P (V ++ envF) op with
    | some q =>
      rw [hmk] at hF
      simp only at hF
      obtain ⟨hq, hF⟩ := hF
      have hmk' : mkV P (V ++ envL (fun j => listed.getD j false) lx 0 env) op = some q := by rw [← hmk]; exact mkV_congr hopd
      have he : eff P ⟨some t, op, ty, pos, aft, gd⟩ (fun s' => ∃ b, fresh (E ++ H) b ∧ s' = ⟨(t, q.2.2 b) :: (V ++ envL (fun j => listed.getD j false) lx 0 env), (b, q.2.1) :: (E ++ H)⟩) ⟨V ++ envL (fun j => listed.getD j false) lx 0 env, E ++ H⟩ :=
        mkV_eff hmk' hq fun b hb => ⟨b, hb, rfl⟩
      refine eff_sound (o := ⟨some t, op, ty, pos, aft, gd⟩) (cx := cx) htn he _ _ (fun s' a' w' hs' ok' => ?_) a w hokF
      obtain ⟨b, hb, rfl⟩ := hs'
      have hbE : fresh H b := fun y hy => hb y (List.mem_append_right _ hy)
      refine hX _ _ (done1 (q.2.2 b) ((b, q.2.1) :: E) a' w' ok'.defers ok'.size ((hF.out b).out hb) (fun y hy => ?_) ok'.world ok'.reps)
      rcases List.mem_cons.1 hy with rfl | hy
      · exact hbE
      · exact hfr y hy
    | none =>
      rw [hmk] at hF
      simp only at hF
      cases hcv : calleeV (V ++ envF) op with
      | none =>
        rw [hcv] at hF
        simp only at hF
        split at hF
        · rename_i args ts
          split at hF
          · rename_i T u d x hts hargs
            obtain ⟨hob, hF⟩ := hF
            have hog : ogs (V ++ envL (fun j => listed.getD j false) lx 0 env) args.toList = ogs (V ++ envF) args.toList := ogs_congr fun y hy => hopd y (by simp [Op.operands, Call.operands]; simpa using hy)
            have he : eff P ⟨some t, .call ⟨.builtin .append, args, ts⟩, ty, pos, aft, gd⟩ (fun s' => ∃ r H', s' = ⟨(t, r) :: (V ++ envL (fun j => listed.getD j false) lx 0 env), H'⟩ ∧ splA H H' fun E' => chG P n H l rest' ((t, r) :: (V ++ envF)) E' Kf) ⟨V ++ envL (fun j => listed.getD j false) lx 0 env, E ++ H⟩ := by
              unfold eff
              simp only [hts]
              rw [hog, hargs]
              exact ⟨hob, appE_mono (fun r H' hr => ⟨r, H', rfl, hr⟩) hF⟩
            refine eff_sound (o := ⟨some t, .call ⟨.builtin .append, args, ts⟩, ty, pos, aft, gd⟩) (cx := cx) htn he _ _ (fun s' a' w' hs' ok' => ?_) a w hokF
            obtain ⟨r, H', rfl, hsp, hK⟩ := hs'
            have hE : H' = H'.take (H'.length - H.length) ++ H := by
              conv => lhs; rw [← List.take_append_drop (H'.length - H.length) H']
              rw [hsp]
            have okw := ok'.world
            have okr := ok'.reps
            simp only at okw okr
            rw [hE] at okw okr
            have hsz : H'.take (H'.length - H.length) = H'.take (H'.length - H.length) := rfl
            generalize H'.take (H'.length - H.length) = E' at okw okr hK hE
            refine hX _ _ (done1 r E' a' w' ok'.defers ok'.size hK (fun y hy => ?_) okw okr)
            exact fresh_app okw.nodup y hy
          · exact hF.elim
        · exact hF.elim
      | some g =>
        rw [hcv] at hF
        obtain ⟨hg1, hF⟩ := hF
        refine effW_call (ops := l.toArray) (o := ⟨some t, op, ty, pos, aft, gd⟩) hcv hg1 hF hinv.ok.defers hinv.ok.size hinv.ok.world (fun u hu => by rw [← hlF u hu]; exact hokF.reps u) fun v y E' w' hpst hf hv hw' hI => ?_
        have hts : t < a.tmps.size := by rw [hinv.ok.size]; exact htn
        refine hX _ _ (done1 y E' _ w' hinv.ok.defers (by simp [Act.put, hinv.ok.size]) hpst hf hw' fun s => ?_)
        by_cases hst : s = t
        · subst hst; simpa [look, Act.put, hts] using hv
        · simp only [look, if_neg hst]
          have e : (a.put (some t) v).tmps.getD s undef = a.tmps.getD s undef := by simp [Act.put, Array.getElem?_setIfInBounds_ne (Ne.symm hst)]
          rw [e]
          exact (hokF.reps s).mono hI
  · have hSt := hSi.2 hic _ hfr
    obtain ⟨hdst, hst⟩ := hSt
    unfold wpOp
    rw [hoi]
    simp only
    have hnV : ∀ s ∈ V.map (·.1), o.dst ≠ some s := fun s hs hd => by
      obtain ⟨_, _, c, hc, hcd⟩ := hV s hs
      have hcc : c ∈ cs := by rw [hcs]; exact List.mem_append_left _ hc
      obtain ⟨_, oc, tc, hoc, htc, hsc⟩ := hso.at_ c hcc
      rw [hoc] at hcd
      simp only [Option.bind_some, htc, Option.some.injEq] at hcd
      subst hcd
      have := (hsc i o hlo).1 hd
      exact hic (by rw [this]; exact hcc)
    have := hst a w X R hinv.ok.defers hinv.ok.size hinv.ok.world (fun t ht => by rw [← hlook t ht]; exact hinv.ok.reps t) (fun v w' hv hw' hI => by
      refine hX _ _ ⟨hz, hbh, done, rest, V, E, hcs, fun c hc => by rw [hset]; split <;> first | rfl | exact hdone c hc, fun c hc => ?_, hF, hfr, fun s hs => ?_, dinv_put hD hlx hinv hi hli hdst hv hw' hI⟩
      · rw [hset, if_neg (fun h => hic (by rw [hcs, ← h]; exact List.mem_append_right _ hc))]
        exact hrest c hc
      · obtain ⟨h1, h2, h3⟩ := hV s hs
        have e : (a.put o.dst v).tmps.getD s undef = a.tmps.getD s undef := by
          cases hdd : o.dst with
          | none => rfl
          | some d =>
            have : d ≠ s := fun h => hnV s hs (by rw [hdd, h])
            simp [Act.put, Array.getElem?_setIfInBounds_ne this]
        rw [e]
        exact ⟨h1.mono hI, by rw [hother s (hnV s hs)]; exact h2, h3⟩)
    split
    · rename_i hw; rw [if_pos hw] at this; exact .inl this
    · rename_i hw; rw [if_neg hw] at this; exact this
theorem drawG_fin {l : List Oper} {cs : List Nat} {k z : Nat} {lx : List (Oper × AV)} {env envF : List (Nat × AV)} {K : St → Prop} {R : Exit → Act → World → Prop} (hR : ∀ s a w, K s → Ok cx n s a w → R .normal a w)
    (hD : DrawOk l.toArray l.toArray.size) (hso : SoleG l cs k) (hr : ∀ i, k ≤ i → i < l.toArray.size → ∀ j, k ≤ j → j < i → reach l.toArray 12 i j = true) (hcsk : ∀ c ∈ cs, c < k)
    (hEF : ∀ t, look envF t = look (envL (fun j => decide (j < k)) lx 0 env) t) {listed : Array Bool} {a : Act} {w : World}
    (inv : DInvG P cx n l lx env H cs k z (fun env' E => rvc P n l.toArray (l.drop k) K ⟨env', E ++ H⟩) envF listed a w) (hall : ∀ j, j < k → listed.getD j false = true) :
    wpAny P .any l.toArray R (l.toArray.size - k) listed a w := by
  obtain ⟨done, rest, V, E, hcs, hdone, hrest, hF, hfr, hV, hinv⟩ := inv.ph
  have hr0 : rest = [] := by
    cases rest with
    | nil => rfl
    | cons c r =>
      have h1 := hrest c (List.mem_cons_self ..)
      have h2 := hcsk c (by rw [hcs]; simp)
      rw [hall c h2] at h1; cases h1
  subst hr0
  have hli : ∀ j, listed.getD j false = decide (j < k) := fun j => by
    by_cases hj : j < k
    · rw [hall j hj, decide_eq_true hj]
    · rw [inv.behind j (by omega), decide_eq_false hj]
  have hok : Ok cx n ⟨V ++ envF, E ++ H⟩ a w := by
    refine ⟨hinv.ok.defers, hinv.ok.size, fun t => ?_, hinv.ok.world⟩
    show Rep w _ _ (look (V ++ envF) t)
    rw [look_app]
    split
    · rename_i hm; exact (hV t hm).1
    · rw [hEF]
      have := hinv.ok.reps t
      have e : (fun j => listed.getD j false) = fun j => decide (j < k) := funext hli
      simp only [e] at this
      exact this
  have hK : rvc P n l.toArray (l.drop k) K ⟨V ++ envF, E ++ H⟩ := by
    simpa [chG] using hF
  have hwl := rvc_sound (cx := cx) _ _ hK R hR a w hok
  have hdl : (l.drop k).length = l.toArray.size - k := by simp
  have := tail_to (P := P) (k0 := k) hD.back hr (l.drop k) k listed a w (Nat.le_refl _) (fun j => by simp [List.getElem?_drop]) (by have := hso.le; simp; omega) hinv.lsize (fun j hj => hli j) hwl
  rwa [hdl] at this
def drawGAF (P : Program) (n : Nat) (l : List Oper) (K : St → Prop) (cs : List Nat) (k : Nat) (s : St) : Prop :=
  nvc P n l.toArray cs [] 0 (l.take k) (fun env => chG P n [] l cs env s.H fun env' E => rvc P n l.toArray (l.drop k) K ⟨env', E ++ []⟩) s.env
theorem WP.drawGA {id k : Nat} {cs : List Nat} {l : List Oper} {Q : Exit → St → Prop} {s : St} (hm : P.follows .mixedOrders = true) (hB : drawB l.toArray l.length = true) (hc : chainB l.toArray cs = true) (hs : soleG l cs k = true)
    (hT : tailN l.toArray k 0 = true) (h : drawGAF P n l (Q .normal) cs k s) : WP P cx n (.region id l.toArray true) Q s := by
  intro a w ok0
  have hD : DrawOk l.toArray l.toArray.size := by have := drawB_spec hB; simpa using this
  have hso := soleG_spec hs
  have hkl := hso.le
  have hr := tailN_spec hT (Nat.zero_le k)
  unfold drawGAF at h
  obtain ⟨E0, hE0⟩ : ∃ E0, E0 = s.H := ⟨_, rfl⟩
  obtain ⟨H0, hH0⟩ : ∃ H0 : Hp, H0 = [] := ⟨_, rfl⟩
  have hperm : s.H.Perm (E0 ++ H0) := by rw [hE0, hH0, List.append_nil]
  rw [← hE0, ← hH0] at h
  have ok : Ok cx n ⟨s.env, E0 ++ H0⟩ a w := Ok.permH hperm ok0
  have hfr : ∀ y ∈ E0, fresh H0 y.1 := fresh_app ok.world.nodup
  obtain ⟨xs, x1, S1, K1⟩ := nvc_seq (cx := cx) _ _ _ h
  generalize hA1 : (l.take k).zip xs = A at S1 K1
  have la : A.length = k := by rw [← hA1]; simp [x1]; omega
  have fa : A.map (·.1) = l.take k := by rw [← hA1]; exact List.map_fst_zip (by omega)
  obtain ⟨D, hDD⟩ : ∃ D : List (Oper × AV), D = (l.drop k).map fun o => (o, AV.any) := ⟨_, rfl⟩
  have fD : D.map (·.1) = l.drop k := by rw [hDD, List.map_map]; exact List.map_id' _
  obtain ⟨lx, hlxe⟩ : ∃ lx, lx = A ++ D := ⟨_, rfl⟩
  have hlxf : lx.map (·.1) = l := by rw [hlxe, List.map_append, fa, fD, List.take_append_drop]
  have llx : lx.length = l.length := by have := congrArg List.length hlxf; simpa using this
  have hlx : ∀ (j : Nat) o x, lx[j]? = some (o, x) → l.toArray[j]? = some o := by
    intro j o x hj
    have h1 : (lx.map (·.1))[j]? = some o := by rw [List.getElem?_map, hj]; rfl
    rw [hlxf] at h1; simpa using h1
  have hS : SeqG (fun i o x env => 0 ≤ i → i < k → CN P cx n l.toArray cs H0 0 i o x env) lx s.env := by
    rw [hlxe]
    refine SeqG.app (fun i o x hi _ _ => S1 i o x hi) (fun i o x hi _ hlt => ?_)
    omega
  obtain ⟨envF, hF⟩ : ∃ e, e = envL (fun _ => true) A 0 s.env := ⟨_, rfl⟩
  rw [← hF] at K1
  have hEF : ∀ t, look envF t = look (envL (fun j => decide (j < k)) lx 0 s.env) t := by
    intro t
    rw [hlxe, envL_append, envL_none D _ _ (fun j hj => by simp; omega), hF]
    congr 1
    exact envL_ext A 0 _ fun j _ hj => by simp; omega
  have hcsk : ∀ c ∈ cs, c < k := fun c hc => (hso.at_ c hc).1
  refine wp_region_any hm ?_
  have okw : Ok cx n ⟨s.env, E0 ++ H0⟩ a { w with drawn := w.drawn + 1 } := by
    have hIw : ∀ c, imm cx w (E0 ++ H0) c → imm cx { w with drawn := w.drawn + 1 } (E0 ++ H0) c ∧ ({ w with drawn := w.drawn + 1 } : World).heap[c]? = w.heap[c]? := fun c hc => ⟨hc, rfl⟩
    refine ⟨ok.defers, ok.size, fun i => (ok.reps i).mono hIw, ⟨ok.world.nodup, ok.world.keys, fun x hx => (ok.world.mem x hx).mono hIw rfl, ⟨ok.world.ext.os, ok.world.ext.tape, ok.world.ext.output, ok.world.ext.size, ok.world.ext.blk⟩, ok.world.ro⟩⟩
  have henv0 : envL (fun j => (Array.replicate l.toArray.size false).getD j false) lx 0 s.env = s.env := envL_none _ _ _ fun j _ => getD_rep_false _ _
  have inv0 : DInvG P cx n l lx s.env H0 cs k 0 (fun env' E => rvc P n l.toArray (l.drop k) (Q .normal) ⟨env', E ++ H0⟩) envF (Array.replicate l.toArray.size false) a { w with drawn := w.drawn + 1 } := by
    refine ⟨fun j hj => by omega, fun j _ => getD_rep_false _ _, [], cs, [], E0, rfl, fun i hi => (by cases hi), fun i _ => getD_rep_false _ _, K1, hfr, fun t ht => (by cases ht), by simp, fun j oj _ hl => ?_, fun t ht ht' => by simp at ht'; omega, ?_⟩
    · rw [getD_rep_false] at hl; cases hl
    · rw [henv0]; exact okw
  have hcount : ((List.range k).filter fun i => !(Array.replicate l.toArray.size false).getD i false).length = k := by
    have : ((List.range k).filter fun i => !(Array.replicate l.toArray.size false).getD i false) = List.range k := by
      rw [List.filter_eq_self]
      intro j _
      rw [getD_rep_false]
      rfl
    rw [this]; simp
  have hDl : DrawOk l.toArray lx.length := by rw [llx]; simpa using hD
  have := head_to (P := P) (ops := l.toArray) (k := k) (R := fun e a' w' => ∃ s', Q e s' ∧ Ok cx n s' a' w') (g := l.toArray.size - k) (Inv := DInvG P cx n l lx s.env H0 cs k 0 (fun env' E => rvc P n l.toArray (l.drop k) (Q .normal) ⟨env', E ++ H0⟩) envF)
    (by simpa using hkl) hD.back
    (fun li a w inv i hi hri j hj => by
      obtain ⟨_, oi, hoi, _⟩ := mem_ready.1 hri
      obtain ⟨_, _, _, _, _, _, _, _, _, _, hinv⟩ := inv.ph
      exact reach_of_ready hinv.closed hri (hr i hi (Array.getElem?_eq_some_iff.1 hoi).1 j (Nat.zero_le _) (by omega)))
    (fun _ _ _ inv => by obtain ⟨_, _, _, _, _, _, _, _, _, _, hinv⟩ := inv.ph; exact hinv.closed)
    (fun _ _ _ inv => by obtain ⟨_, _, _, _, _, _, _, _, _, _, hinv⟩ := inv.ph; exact hinv.lsize)
    (fun li a w i X inv hi hik hX => dinvG_step hDl hlx llx hS hc hso hEF inv hi hik hX)
    (fun li a w inv hall => drawG_fin (fun s a w hk ok => ⟨s, hk, ok⟩) hD hso (fun i hi his j hj hji => hr i hi his j (Nat.zero_le _) hji) hcsk hEF inv hall)
    k _ a _ hcount inv0
  have hN : k + (l.toArray.size - k) = l.toArray.size := by simp; omega
  rw [hN] at this
  exact this
end
end Go.Proofs.YtpjnhcjfkgjbnaaDoor
