/-
  The walks and the laws that the statement leans on, part 10.
-/
import Derived.LaidMore
import Derived.OpenShut
import Derived.MakeChecks
import Derived.Test.YteoajodoejoccaaP9
namespace Go.Proofs.Yteoajodoejoccaa
open Go
set_option linter.unusedSimpArgs false
set_option linter.unusedVariables false
section
variable {P : Program} {cx : Cx} {n : Nat} {ops : Array Oper} {H : Hp}
def mkV (P : Program) (env : List (Nat × AV)) : Op → Option (Prop × MB × (Nat → AV))
  | .alloc T => (zmb P T).map fun m => (True, m, fun b => pt b 0)
  | .makeSlice T x y => match mkz P T, (og env x).2, (og env y).2 with
    | some (e, bytes, k), .lit (.int _ l), .lit (.int _ c) => some ((og env x).1 ∧ (og env y).1 ∧ 0 ≤ l ∧ l ≤ c ∧ (bytes : Int) * c ≤ 281474976710656 ∧ c ≤ 9223372036854775807,
        .zs k (List.replicate l.toNat 0) c.toNat e, fun b => ms b 0 l.toNat c.toNat)
    | _, _, _ => none
  | .buildSlice T len parts => match apT P T with
    | some (e, sz, _) => match fillA (plN sz len 0) (List.replicate (len * sz) .any) (ogp env parts.toList).2 with
      | some cs => some ((ogp env parts.toList).1 ∧ len * sz ≤ 16777216, rowMB (elk P T) cs (len * sz) e, fun b => ms b 0 len len)
      | none => none
    | none => none
  | _ => none
theorem mkV_congr {env env' : List (Nat × AV)} {op : Op} (h : ∀ x ∈ op.operands, opd env x = opd env' x) : mkV P env op = mkV P env' op := by
  cases op with
  | buildSlice T len parts =>
    have : ogp env parts.toList = ogp env' parts.toList := ogp_congr fun x hx => h x.2 (by simp [Op.operands]; exact ⟨x.1, by simpa using hx⟩)
    simp only [mkV, this]
  | makeSlice T x y =>
    have h1 : og env x = og env' x := og_congr (h x (by simp [Op.operands]))
    have h2 : og env y = og env' y := og_congr (h y (by simp [Op.operands]))
    simp only [mkV, h1, h2]
  | _ => rfl
theorem mkV_eff {s : St} {o : Oper} {K : St → Prop} {q : Prop × MB × (Nat → AV)} (h : mkV P s.env o.op = some q) (hc : q.1) (hk : ∀ b, fresh s.H b → K ⟨(s.put o.dst (q.2.2 b)).env, (b, q.2.1) :: s.H⟩) : eff P o K s := by
  unfold mkV at h
  split at h
  · rename_i T hop
    cases hz : zmb P T with
    | none => rw [hz] at h; cases h
    | some m =>
      rw [hz] at h
      simp only [Option.map_some, Option.some.injEq] at h
      subst h
      unfold eff
      rw [hop]
      simp only [hz]
      exact ⟨fun b => ⟨fun hf => hk b hf⟩⟩
  · rename_i T x y hop
    split at h
    · rename_i e bytes k kk l kc c hT hx hy
      simp only [Option.some.injEq] at h
      subst h
      unfold eff
      rw [hop]
      simp only [hT, hx, hy]
      exact ⟨hc.1, hc.2.1, hc.2.2.1, hc.2.2.2.1, hc.2.2.2.2.1, hc.2.2.2.2.2, ⟨fun b => ⟨fun hf => hk b hf⟩⟩⟩
    · cases h
  · rename_i T len parts hop
    split at h
    · rename_i e sz by_ hT
      split at h
      · rename_i cs hcs
        simp only [Option.some.injEq] at h
        subst h
        unfold eff
        rw [hop]
        simp only [hT, hcs]
        exact ⟨hc.1, hc.2, ⟨fun b => ⟨fun hf => hk b hf⟩⟩⟩
      · cases h
    · cases h
  · cases h
def splA (H H' : Hp) (K : Hp → Prop) : Prop := H'.drop (H'.length - H.length) = H ∧ K (H'.take (H'.length - H.length))
theorem appE_mono {H : Hp} {T u : TypeId} {d x : AV} {K K' : AV → Hp → Prop} (hk : ∀ r H', K r H' → K' r H') (h : appE P H T u d x K) : appE P H T u d x K' := by
  unfold appE at h ⊢
  refine ⟨h.1, ?_⟩
  have h := h.2
  have mZ : ∀ {H e bytes b n cap s0 ty k zs p ys}, appZ H e bytes b n cap s0 ty k zs p ys K → appZ H e bytes b n cap s0 ty k zs p ys K' := by
    intro H e bytes b n cap s0 ty k zs p ys h
    unfold appZ at h ⊢
    obtain ⟨h1, h2, h3, h4, h5, h6, h7, h8⟩ := h
    exact ⟨h1, h2, h3, h4, h5, h6, h7, ⟨fun b' => ⟨fun c' => ⟨fun hf => hk _ _ (((h8.out b').out c').out hf)⟩⟩⟩⟩
  have mC : ∀ {H e sz bytes b n cap s0 ty cs p m ds}, appC H e sz bytes b n cap s0 ty cs p m ds K → appC H e sz bytes b n cap s0 ty cs p m ds K' := by
    intro H e sz bytes b n cap s0 ty cs p m ds h
    unfold appC at h ⊢
    obtain ⟨h1, h2, h3, h4, h5, h6, h7, h8, h9⟩ := h
    exact ⟨h1, h2, h3, h4, h5, h6, h7, h8, ⟨fun b' => ⟨fun c' => ⟨fun hf => hk _ _ (((h9.out b').out c').out hf)⟩⟩⟩⟩
  have mS : ∀ {H e sz bytes b n cap s0 ty cs p m ds}, appS H e sz bytes b n cap s0 ty cs p m ds K → appS H e sz bytes b n cap s0 ty cs p m ds K' := by
    intro H e sz bytes b n cap s0 ty cs p m ds h
    unfold appS at h ⊢
    obtain ⟨h1, h2, h3, h4, h5, h6, h7, h8⟩ := h
    exact ⟨h1, h2, h3, h4, h5, h6, h7, hk _ _ h8⟩
  have mNZ : ∀ {H e bytes k p ys}, appNZ H e bytes k p ys K → appNZ H e bytes k p ys K' := by
    intro H e bytes k p ys h
    unfold appNZ at h ⊢
    obtain ⟨h1, h2, h3, h4⟩ := h
    exact ⟨h1, h2, h3, ⟨⟨fun hz => hk _ _ (h4.fst.out hz)⟩, ⟨fun hz => ⟨fun b' => ⟨fun c' => ⟨fun hf => hk _ _ ((((h4.snd.out hz).out b').out c').out hf)⟩⟩⟩⟩⟩⟩
  have mNC : ∀ {H e sz bytes p m ds}, appNC H e sz bytes p m ds K → appNC H e sz bytes p m ds K' := by
    intro H e sz bytes p m ds h
    unfold appNC at h ⊢
    obtain ⟨h1, h2, h3, h4, h5⟩ := h
    exact ⟨h1, h2, h3, h4, ⟨⟨fun hz => hk _ _ (h5.fst.out hz)⟩, ⟨fun hz => ⟨fun b' => ⟨fun c' => ⟨fun hf => hk _ _ ((((h5.snd.out hz).out b').out c').out hf)⟩⟩⟩⟩⟩⟩
  cases hT : apT P T with
  | none => rw [hT] at h; exact h.elim
  | some p =>
    obtain ⟨e, sz, bytes⟩ := p
    rw [hT] at h
    simp only at h ⊢
    split at h
    · refine ⟨h.1, ?_⟩
      have h := h.2
      split at h
      · exact ⟨h.1, mZ h.2⟩
      · split at h
        · split at h
          · rename_i hb; simp only [hb, if_true]; exact mS h
          · rename_i hb; simp only [if_neg hb]; exact mC h
        · exact mC h
      · exact h.elim
    · split at h
      · exact ⟨h.1, mNZ h.2⟩
      · exact mNC h
    · exact h.elim
def chS (P : Program) (H : Hp) (op : Op) (env : List (Nat × AV)) (E : Hp) (K : AV → Hp → Prop) : Prop :=
  match mkV P env op with
  | some q => q.1 ∧ Nu fun b => Fr (fresh (E ++ H) b) (K (q.2.2 b) ((b, q.2.1) :: E))
  | none => match calleeV env op with
    | some g => g.1 ∧ WCt P g.2.1 g.2.2 E H K
    | none => match op with
      | .call ⟨.builtin .append, args, ts⟩ => match ts.toList, (ogs env args.toList).2 with
        | [T, u], [d, x] => (ogs env args.toList).1 ∧ appE P (E ++ H) T u d x fun r H' => splA H H' fun E' => K r E'
        | _, _ => False
      | _ => False
def chF (P : Program) (n : Nat) (H : Hp) (l : List Oper) : List Nat → List (Nat × AV) → Hp → (List (Nat × AV) → Hp → Prop) → Prop
  | [], env, E, K => K env E
  | c :: r, env, E, K => match l.drop c with
    | ⟨some t, op, _, _, _, none⟩ :: _ => t < n ∧ chS P H op env E fun x E' => chF P n H l r ((t, x) :: env) E' K
    | _ => False
def nvc (P : Program) (n : Nat) (ops : Array Oper) (cs : List Nat) (H : Hp) : Nat → List Oper → (List (Nat × AV) → Prop) → List (Nat × AV) → Prop
  | _, [], K, env => K env
  | i, o :: rest, K, env =>
    if i ∈ cs then nvc P n ops cs H (i + 1) rest K (putE env o.dst .any)
    else okd n o.dst ∧ xst P ops H o env fun x => nvc P n ops cs H (i + 1) rest K (putE env o.dst x)
def CN (P : Program) (cx : Cx) (n : Nat) (ops : Array Oper) (cs : List Nat) (H : Hp) (i0 i : Nat) (o : Oper) (x : AV) (env : List (Nat × AV)) : Prop :=
  (i0 + i ∈ cs → x = .any) ∧ (i0 + i ∉ cs → StdyE P cx n ops o env H x)
theorem nvc_seq {cs : List Nat} {K : List (Nat × AV) → Prop} : ∀ (l : List Oper) (i0 : Nat) (env : List (Nat × AV)), nvc P n ops cs H i0 l K env →
    ∃ xs : List AV, xs.length = l.length ∧ SeqG (CN P cx n ops cs H i0) (l.zip xs) env ∧ K (envL (fun _ => true) (l.zip xs) 0 env)
  | [], i0, env, h => ⟨[], rfl, fun i o x hi => by simp at hi, h⟩
  | o :: rest, i0, env, h => by
    unfold nvc at h
    have shift : ∀ (x : AV) (xs : List AV), SeqG (CN P cx n ops cs H (i0 + 1)) (rest.zip xs) (putE env o.dst x) → CN P cx n ops cs H i0 0 o x env → SeqG (CN P cx n ops cs H i0) ((o :: rest).zip (x :: xs)) env := by
      intro x xs h1 h0
      rw [List.zip_cons_cons]
      refine SeqG.cons h0 fun i o' x' hi => ?_
      have h2 := h1 i o' x' hi
      have e : i0 + (i + 1) = i0 + 1 + i := by omega
      show CN P cx n ops cs H i0 (i + 1) o' x' _
      unfold CN at h2 ⊢
      rw [e]
      exact h2
    have fin : ∀ (x : AV) (xs : List AV), K (envL (fun _ => true) (rest.zip xs) 0 (putE env o.dst x)) → K (envL (fun _ => true) ((o :: rest).zip (x :: xs)) 0 env) := by
      intro x xs hk
      rw [List.zip_cons_cons]
      simp only [envL, if_true]
      rw [show (0 + 1 : Nat) = 1 + 0 from rfl, envL_shiftk 1]
      exact hk
    split at h
    · rename_i hm
      obtain ⟨xs, x1, x2, x3⟩ := nvc_seq rest (i0 + 1) _ h
      exact ⟨.any :: xs, by simp [x1], shift _ _ x2 ⟨fun _ => rfl, fun hn => absurd hm hn⟩, fin _ _ x3⟩
    · rename_i hm
      obtain ⟨hd, h⟩ := h
      obtain ⟨x, _, hSE, h⟩ := xst_stdy (cx := cx) hd h
      obtain ⟨xs, x1, x2, x3⟩ := nvc_seq rest (i0 + 1) _ h
      exact ⟨x :: xs, by simp [x1], shift _ _ x2 ⟨fun hn => absurd hn hm, fun _ => hSE⟩, fin _ _ x3⟩
def chainB (ops : Array Oper) : List Nat → Bool
  | [] => true
  | u :: r => r.all (fun v => reach ops 12 v u) && chainB ops r
def soleN (l : List Oper) (cs : List Nat) (k : Nat) : Bool :=
  decide (k ≤ l.length) && cs.all fun c => decide (c < k) && match l[c]? with
    | some o => o.dst.isSome && o.guard.isNone && (List.range l.length).all fun j => match l[j]? with
      | some oj => (decide (j = c) || !(oj.dst == o.dst)) && (decide (j < c) || match oj.dst with
        | some u => !((o.looksAt l.toArray).contains u)
        | none => true)
      | none => false
    | none => false
structure SoleN (l : List Oper) (cs : List Nat) (k : Nat) : Prop where
  le : k ≤ l.length
  at_ : ∀ c ∈ cs, c < k ∧ ∃ o t, l[c]? = some o ∧ o.dst = some t ∧ o.guard = none ∧ ∀ j oj, l[j]? = some oj → (oj.dst = some t → j = c) ∧ ∀ u, oj.dst = some u → u ∈ o.looksAt l.toArray → j < c
theorem soleN_spec {l : List Oper} {cs : List Nat} {k : Nat} (h : soleN l cs k = true) : SoleN l cs k := by
  unfold soleN at h
  simp only [Bool.and_eq_true, decide_eq_true_eq] at h
  refine ⟨h.1, fun c hc => ?_⟩
  have h1 := List.all_eq_true.1 h.2 c hc
  simp only [Bool.and_eq_true, decide_eq_true_eq] at h1
  obtain ⟨hck, h1⟩ := h1
  refine ⟨hck, ?_⟩
  split at h1
  case h_2 => cases h1
  rename_i o ho
  simp only [Bool.and_eq_true] at h1
  obtain ⟨⟨hd, hg⟩, h1⟩ := h1
  obtain ⟨t, ht⟩ := Option.isSome_iff_exists.1 hd
  refine ⟨o, t, ho, ht, by simpa using hg, fun j oj hj => ?_⟩
  have hjl : j < l.length := (List.getElem?_eq_some_iff.1 hj).1
  have h2 := List.all_eq_true.1 h1 j (List.mem_range.2 hjl)
  rw [hj] at h2
  simp only [Bool.and_eq_true, Bool.or_eq_true, decide_eq_true_eq] at h2
  refine ⟨fun hdj => ?_, fun u hu hl => ?_⟩
  · rcases h2.1 with h3 | h3
    · exact h3
    · rw [hdj, ht] at h3; simp at h3
  · rcases h2.2 with h3 | h3
    · exact h3
    · rw [hu] at h3
      simp only [Bool.not_eq_true', List.contains_eq_mem, decide_eq_false_iff_not] at h3
      exact absurd hl h3
theorem look_app {t : Nat} {e : List (Nat × AV)} : ∀ V : List (Nat × AV), look (V ++ e) t = if t ∈ V.map (·.1) then look V t else look e t
  | [] => by simp
  | (u, v) :: V => by
    simp only [List.cons_append, look, List.map_cons, List.mem_cons]
    by_cases h : t = u
    · simp [h]
    · rw [if_neg h, look_app V]
      by_cases hm : t ∈ V.map (·.1)
      · rw [if_pos hm, if_pos (.inr hm), if_neg h]
      · rw [if_neg hm, if_neg (by rintro (h1 | h1); exact h h1; exact hm h1)]
theorem chainB_drop {ops : Array Oper} : ∀ (d r : List Nat), chainB ops (d ++ r) = true → chainB ops r = true
  | [], r, h => h
  | u :: d, r, h => by
    simp only [List.cons_append, chainB, Bool.and_eq_true] at h
    exact chainB_drop d r h.2
structure DInvN (P : Program) (cx : Cx) (n : Nat) (l : List Oper) (lx : List (Oper × AV)) (env : List (Nat × AV)) (H : Hp) (cs : List Nat) (k z : Nat) (Kf : List (Nat × AV) → Hp → Prop) (envF : List (Nat × AV)) (listed : Array Bool) (a : Act) (w : World) : Prop where
  zero : ∀ j, j < z → listed.getD j false = true
  behind : ∀ j, k ≤ j → listed.getD j false = false
  ph : ∃ done rest V E, cs = done ++ rest ∧ (∀ i ∈ done, listed.getD i false = true) ∧ (∀ i ∈ rest, listed.getD i false = false) ∧ chF P n H l rest (V ++ envF) E Kf ∧ (∀ y ∈ E, fresh H y.1) ∧
    (∀ t ∈ V.map (·.1), Rep w (imm cx w (E ++ H)) (a.tmps.getD t undef) (look V t) ∧ look (envL (fun j => listed.getD j false) lx 0 env) t = .any ∧ ∃ c ∈ done, (l[c]?).bind (·.dst) = some t) ∧
    DInv cx n l.toArray lx env (E ++ H) listed a w
theorem dinvN_step {l : List Oper} {cs : List Nat} {k z : Nat} {Kf : List (Nat × AV) → Hp → Prop} {envF : List (Nat × AV)} {lx : List (Oper × AV)} {env : List (Nat × AV)} {listed : Array Bool} {a : Act} {w : World} {i : Nat}
    (hD : DrawOk l.toArray lx.length) (hlx : ∀ (j : Nat) o x, lx[j]? = some (o, x) → l.toArray[j]? = some o) (hll : lx.length = l.length)
    (hS : SeqG (fun i o x env => z ≤ i → i < k → CN P cx n l.toArray cs H 0 i o x env) lx env) (hch : chainB l.toArray cs = true) (hso : SoleN l cs k)
    (hEF : ∀ t, look envF t = look (envL (fun j => decide (j < k)) lx 0 env) t)
    (inv : DInvN P cx n l lx env H cs k z Kf envF listed a w) (hi : i ∈ Region.ready .any l.toArray listed) (hik : i < k) {R : Exit → Act → World → Prop} {X : Act → World → Prop}
    (hX : ∀ a' w', DInvN P cx n l lx env H cs k z Kf envF (listed.setIfInBounds i true) a' w' → X a' w') : wpOp P l.toArray R i X a w := by
  obtain ⟨done, rest, V, E, hcs, hdone, hrest, hF, hfr, hV, hinv⟩ := inv.ph
  have hkl := hso.le
  obtain ⟨⟨o, x⟩, hp⟩ : ∃ p, lx[i]'(by omega) = p := ⟨_, rfl⟩
  have hli : lx[i]? = some (o, x) := by rw [List.getElem?_eq_getElem (by omega), hp]
  have hoi := hlx i o x hli
  have hlo : l[i]? = some o := by simpa using hoi
  have hilt : i < l.toArray.size := (Array.getElem?_eq_some_iff.1 hoi).1
  have hun : listed.getD i false = false := by
    have := (mem_ready.1 hi).1
    rwa [getD_bool (by rw [hinv.lsize]; exact hilt)] at this
  have hzi : z ≤ i := by
    apply Classical.byContradiction; intro hn
    have := inv.zero i (by omega)
    rw [hun] at this; cases this
  have hSi := hS i o x hli hzi hik
  unfold CN at hSi
  rw [Nat.zero_add] at hSi
  have hset : ∀ j, (listed.setIfInBounds i true).getD j false = if j = i then true else listed.getD j false := by
    intro j
    by_cases hji : j = i
    · subst hji
      have : j < listed.size := by rw [hinv.lsize]; exact hilt
      simp [this]
    · rw [if_neg hji, getD_set_ne false (Ne.symm hji)]
  have hz : ∀ j, j < z → (listed.setIfInBounds i true).getD j false = true := fun j hj => by
    rw [hset]; split
    · rfl
    · exact inv.zero j hj
  have hbh : ∀ j, k ≤ j → (listed.setIfInBounds i true).getD j false = false := fun j hj => by rw [hset, if_neg (by omega)]; exact inv.behind j hj
  have hlook := dinv_look hD hlx hinv hi hli
  -- a slot that the i-th does not write
  have hother : ∀ t, o.dst ≠ some t → look (envL (fun j => (listed.setIfInBounds i true).getD j false) lx 0 env) t = look (envL (fun j => listed.getD j false) lx 0 env) t := by
    intro t ht
    refine envL_congr lx 0 env env rfl fun j oj xj hj hdj => ?_
    rw [Nat.zero_add, hset]
    by_cases hji : j = i
    · subst hji
      rw [hli] at hj
      cases hj
      exact absurd hdj ht
    · rw [if_neg hji]
  by_cases hic : i ∈ cs
  · obtain ⟨_, o', t, ho', hdt, hg, hsole⟩ := hso.at_ i hic
    rw [hlo] at ho'
    obtain rfl := Option.some.inj ho'
    have hx := hSi.1 hic
    subst hx
    -- it is the chain's next
    have hir : i ∈ rest := by
      rw [hcs] at hic
      rcases List.mem_append.1 hic with h | h
      · have := hdone i h; rw [hun] at this; cases this
      · exact h
    obtain ⟨c0, rest', hr'⟩ : ∃ c0 rest', rest = c0 :: rest' := by
      cases rest with
      | nil => cases hir
      | cons c r => exact ⟨c, r, rfl⟩
    subst hr'
    have hi0 : i = c0 := by
      rcases List.mem_cons.1 hir with h | h
      · exact h
      · have hc := chainB_drop done (c0 :: rest') (by rw [← hcs]; exact hch)
        simp only [chainB, Bool.and_eq_true] at hc
        have := List.all_eq_true.1 hc.1 i h
        have := reach_of_ready hinv.closed hi this
        rw [hrest c0 (List.mem_cons_self ..)] at this
        cases this
    subst hi0
    have hVt : t ∉ V.map (·.1) := fun hm => by
      obtain ⟨_, _, c, hc, hcd⟩ := hV t hm
      have hcl : (l[c]?).isSome := by
        cases hlc : l[c]? with
        | none => rw [hlc] at hcd; cases hcd
        | some _ => rfl
      obtain ⟨oc, hoc⟩ := Option.isSome_iff_exists.1 hcl
      rw [hoc] at hcd
      have := (hsole c oc hoc).1 hcd
      have h2 := hdone c hc
      rw [this] at h2; rw [hun] at h2; cases h2
    have hdrop : l.drop i = o :: l.drop (i + 1) := by
      have hil : i < l.length := by simpa using hilt
      rw [List.drop_eq_getElem_cons hil]
      congr 1
      rw [List.getElem?_eq_getElem hil] at hlo
      exact Option.some.inj hlo
    have hokF : Ok cx n ⟨V ++ envL (fun j => listed.getD j false) lx 0 env, E ++ H⟩ a w := by
      refine ⟨hinv.ok.defers, hinv.ok.size, fun u => ?_, hinv.ok.world⟩
      show Rep w _ _ (look (V ++ _) u)
      rw [look_app]
      split
      · rename_i hm; exact (hV u hm).1
      · exact hinv.ok.reps u
    have hlF : ∀ u ∈ o.looksAt l.toArray, look (V ++ envL (fun j => listed.getD j false) lx 0 env) u = look (V ++ envF) u := by
      intro u hu
      rw [look_app, look_app]
      split
      · rfl
      · rw [hEF]
        refine envL_congr lx 0 env env rfl fun j oj xj hj hdj => ?_
        rw [Nat.zero_add]
        have hoj := hlx j oj xj hj
        have hloj : l[j]? = some oj := by simpa using hoj
        by_cases hjk : j < k
        · have hji : j < i := (hsole j oj hloj).2 u hdj hu
          rw [decide_eq_true hjk]
          rcases hD.slot i j o oj u hoi (List.getElem?_eq_some_iff.1 hj).1 hoj hdj (.inl hu) (by omega) with ⟨_, h2⟩ | ⟨h1, _⟩
          · exact ready_waits hi hoi h2
          · omega
        · rw [inv.behind j (by omega), decide_eq_false hjk]
    have hopd : ∀ y ∈ o.op.operands, opd (V ++ envL (fun j => listed.getD j false) lx 0 env) y = opd (V ++ envF) y := by
      intro y hy
      refine opd_congr fun u hu => ?_
      subst hu
      exact hlF u (by unfold Oper.looksAt; exact List.mem_append_left _ (List.mem_filterMap.2 ⟨Operand.tmp u, by simpa using hy, rfl⟩))
    unfold chF at hF
    rw [hdrop] at hF
    obtain ⟨dst, op, ty, pos, aft, gd⟩ := o
    simp only at hdt hg hF hopd
    subst hdt hg
    simp only at hF
    obtain ⟨htn, hF⟩ := hF
    have hany : look (envL (fun j => (listed.setIfInBounds i true).getD j false) lx 0 env) t = .any := by
      rw [← envL_at lx 0 i env _ .any hli rfl]
      refine envL_congr lx 0 env env rfl fun j oj xj hj hdj => ?_
      have hloj : l[j]? = some oj := by simpa using hlx j oj xj hj
      have hji := (hsole j oj hloj).1 hdj
      rw [Nat.zero_add, hset, if_pos hji]
      simp; omega
    have hcs' : cs = (done ++ [i]) ++ rest' := by rw [hcs, List.append_assoc]; rfl
    have hdone' : ∀ c ∈ done ++ [i], (listed.setIfInBounds i true).getD c false = true := fun c hc => by
      rw [hset]
      split
      · rfl
      · rcases List.mem_append.1 hc with h | h
        · exact hdone c h
        · rename_i hne; exact absurd (List.mem_singleton.1 h) hne
    have hnr : i ∉ rest' := fun hm => by
      have hc := chainB_drop done (i :: rest') (by rw [← hcs]; exact hch)
      simp only [chainB, Bool.and_eq_true] at hc
      have := List.all_eq_true.1 hc.1 i hm
      have := reach_of_ready hinv.closed hi this
      rw [hun] at this; cases this
    have hrest' : ∀ c ∈ rest', (listed.setIfInBounds i true).getD c false = false := fun c hc => by
      rw [hset, if_neg (fun (h : c = i) => hnr (by rw [← h]; exact hc))]
      exact hrest c (List.mem_cons_of_mem _ hc)
    -- what the step leaves
    have done1 : ∀ (v : AV) (E' : Hp) (a' : Act) (w' : World), a'.defers = [] → a'.tmps.size = n → chF P n H l rest' ((t, v) :: (V ++ envF)) E' Kf → (∀ y ∈ E', fresh H y.1) → OkW cx (E' ++ H) w' →
        (∀ s, Rep w' (imm cx w' (E' ++ H)) (a'.tmps.getD s undef) (look ((t, v) :: (V ++ envL (fun j => listed.getD j false) lx 0 env)) s)) →
        DInvN P cx n l lx env H cs k z Kf envF (listed.setIfInBounds i true) a' w' := by
      intro v E' a' w' hdf hsz hF' hfr' hw' hR
      refine ⟨hz, hbh, done ++ [i], rest', (t, v) :: V, E', hcs', hdone', hrest', by simpa using hF', hfr', fun s hs => ?_, by simp [hinv.lsize], closed_set hinv.closed hi, fun s h1 h2 => ?_, hdf, hsz, fun s => ?_, hw'⟩
      · have hRs := hR s
        by_cases hst : s = t
        · subst hst
          refine ⟨by simpa [look] using hRs, hany, i, by simp, by rw [hlo]; rfl⟩
        · have hs' : s ∈ V.map (·.1) := by
            simp only [List.map_cons, List.mem_cons] at hs
            rcases hs with h | h
            · exact absurd h hst
            · exact h
          obtain ⟨_, h2, c, hc, hcd⟩ := hV s hs'
          simp only [look, if_neg hst] at hRs ⊢
          rw [look_app, if_pos hs'] at hRs
          refine ⟨hRs, ?_, c, List.mem_append_left _ hc, hcd⟩
          rw [hother s (by simp only; intro h; exact hst (Option.some.inj h).symm)]
          exact h2
      · rw [getD_set_ne true (by simp at hilt; omega)]; exact hinv.tail s h1 h2
      · have hRs := hR s
        show Rep w' _ _ (look (envL _ lx 0 env) s)
        by_cases hst : s = t
        · subst hst
          rw [hany]; exact .any _
        · rw [hother s (by simp only; intro h; exact hst (Option.some.inj h).symm)]
          simp only [look, if_neg hst] at hRs
          rw [look_app] at hRs
          split at hRs
          · rename_i hs'; rw [(hV s hs').2.1]; exact .any _
          · exact hRs
    unfold chS at hF
    unfold wpOp
    rw [hoi]
    simp only
    rw [if_pos (by simp [Region.wanted])]
    refine .inl ?_
    cases hmk : mkV P (V ++ envF) op with
    | some q =>
      rw [hmk] at hF
      simp only at hF
      obtain ⟨hq, hF⟩ := hF
      have hmk' : mkV P (V ++ envL (fun j => listed.getD j false) lx 0 env) op = some q := by rw [← hmk]; exact mkV_congr hopd
      have he : eff P ⟨some t, op, ty, pos, aft, none⟩ (fun s' => ∃ b, fresh (E ++ H) b ∧ s' = ⟨(t, q.2.2 b) :: (V ++ envL (fun j => listed.getD j false) lx 0 env), (b, q.2.1) :: (E ++ H)⟩) ⟨V ++ envL (fun j => listed.getD j false) lx 0 env, E ++ H⟩ :=
        mkV_eff hmk' hq fun b hb => ⟨b, hb, rfl⟩
      refine eff_sound (o := ⟨some t, op, ty, pos, aft, none⟩) (cx := cx) htn he _ _ (fun s' a' w' hs' ok' => ?_) a w hokF
      obtain ⟨b, hb, rfl⟩ := hs'
      have hbE : fresh H b := fun y hy => hb y (List.mem_append_right _ hy)
      refine hX _ _ (done1 (q.2.2 b) ((b, q.2.1) :: E) a' w' ok'.defers ok'.size ((hF.out b).out hb) (fun y hy => ?_) ok'.world ok'.reps)
      rcases List.mem_cons.1 hy with rfl | hy
      · exact hbE
      · exact hfr y hy
    | none =>
      rw [hmk] at hF
      simp only at hF
      cases hcv : calleeV (V ++ envF) op with
      | none =>
        rw [hcv] at hF
        simp only at hF
        split at hF
        · rename_i args ts
          split at hF
          · rename_i T u d x hts hargs
            obtain ⟨hob, hF⟩ := hF
            have hog : ogs (V ++ envL (fun j => listed.getD j false) lx 0 env) args.toList = ogs (V ++ envF) args.toList := ogs_congr fun y hy => hopd y (by simp [Op.operands, Call.operands]; simpa using hy)
            have he : eff P ⟨some t, .call ⟨.builtin .append, args, ts⟩, ty, pos, aft, none⟩ (fun s' => ∃ r H', s' = ⟨(t, r) :: (V ++ envL (fun j => listed.getD j false) lx 0 env), H'⟩ ∧ splA H H' fun E' => chF P n H l rest' ((t, r) :: (V ++ envF)) E' Kf) ⟨V ++ envL (fun j => listed.getD j false) lx 0 env, E ++ H⟩ := by
              unfold eff
              simp only [hts]
              rw [hog, hargs]
              exact ⟨hob, appE_mono (fun r H' hr => ⟨r, H', rfl, hr⟩) hF⟩
            refine eff_sound (o := ⟨some t, .call ⟨.builtin .append, args, ts⟩, ty, pos, aft, none⟩) (cx := cx) htn he _ _ (fun s' a' w' hs' ok' => ?_) a w hokF
            obtain ⟨r, H', rfl, hsp, hK⟩ := hs'
            have hE : H' = H'.take (H'.length - H.length) ++ H := by
              conv => lhs; rw [← List.take_append_drop (H'.length - H.length) H']
              rw [hsp]
            have okw := ok'.world
            have okr := ok'.reps
            simp only at okw okr
            rw [hE] at okw okr
            have hsz : H'.take (H'.length - H.length) = H'.take (H'.length - H.length) := rfl
            generalize H'.take (H'.length - H.length) = E' at okw okr hK hE
            refine hX _ _ (done1 r E' a' w' ok'.defers ok'.size hK (fun y hy => ?_) okw okr)
            exact fresh_app okw.nodup y hy
          · exact hF.elim
        · exact hF.elim
      | some g =>
        rw [hcv] at hF
        obtain ⟨hg1, hF⟩ := hF
        refine effW_call (ops := l.toArray) (o := ⟨some t, op, ty, pos, aft, none⟩) hcv hg1 hF hinv.ok.defers hinv.ok.size hinv.ok.world (fun u hu => by rw [← hlF u hu]; exact hokF.reps u) fun v y E' w' hpst hf hv hw' hI => ?_
        have hts : t < a.tmps.size := by rw [hinv.ok.size]; exact htn
        refine hX _ _ (done1 y E' _ w' hinv.ok.defers (by simp [Act.put, hinv.ok.size]) hpst hf hw' fun s => ?_)
        by_cases hst : s = t
        · subst hst; simpa [look, Act.put, hts] using hv
        · simp only [look, if_neg hst]
          have e : (a.put (some t) v).tmps.getD s undef = a.tmps.getD s undef := by simp [Act.put, Array.getElem?_setIfInBounds_ne (Ne.symm hst)]
          rw [e]
          exact (hokF.reps s).mono hI
  · have hSt := hSi.2 hic _ hfr
    obtain ⟨hdst, hst⟩ := hSt
    unfold wpOp
    rw [hoi]
    simp only
    have hnV : ∀ s ∈ V.map (·.1), o.dst ≠ some s := fun s hs hd => by
      obtain ⟨_, _, c, hc, hcd⟩ := hV s hs
      have hcc : c ∈ cs := by rw [hcs]; exact List.mem_append_left _ hc
      obtain ⟨_, oc, tc, hoc, htc, _, hsc⟩ := hso.at_ c hcc
      rw [hoc] at hcd
      simp only [Option.bind_some, htc, Option.some.injEq] at hcd
      subst hcd
      have := (hsc i o hlo).1 hd
      exact hic (by rw [this]; exact hcc)
    have := hst a w X R hinv.ok.defers hinv.ok.size hinv.ok.world (fun t ht => by rw [← hlook t ht]; exact hinv.ok.reps t) (fun v w' hv hw' hI => by
      refine hX _ _ ⟨hz, hbh, done, rest, V, E, hcs, fun c hc => by rw [hset]; split <;> first | rfl | exact hdone c hc, fun c hc => ?_, hF, hfr, fun s hs => ?_, dinv_put hD hlx hinv hi hli hdst hv hw' hI⟩
      · rw [hset, if_neg (fun h => hic (by rw [hcs, ← h]; exact List.mem_append_right _ hc))]
        exact hrest c hc
      · obtain ⟨h1, h2, h3⟩ := hV s hs
        have e : (a.put o.dst v).tmps.getD s undef = a.tmps.getD s undef := by
          cases hdd : o.dst with
          | none => rfl
          | some d =>
            have : d ≠ s := fun h => hnV s hs (by rw [hdd, h])
            simp [Act.put, Array.getElem?_setIfInBounds_ne this]
        rw [e]
        exact ⟨h1.mono hI, by rw [hother s (hnV s hs)]; exact h2, h3⟩)
    split
    · rename_i hw; rw [if_pos hw] at this; exact .inl this
    · rename_i hw; rw [if_neg hw] at this; exact this
def tailN (ops : Array Oper) (k z : Nat) : Bool :=
  (List.range ops.size).all fun i => decide (i < k) || (List.range i).all fun j => decide (j < z) || reach ops 12 i j
def drawNF (P : Program) (n : Nat) (l : List Oper) (K : St → Prop) (cs : List Nat) (k : Nat) (bs : List Nat) (s : St) : Prop :=
  match splitH bs s.H with
  | some q => nvc P n l.toArray cs q.2 0 (l.take k) (fun env => chF P n q.2 l cs env q.1 fun env' E => rvc P n l.toArray (l.drop k) K ⟨env', E ++ q.2⟩) s.env
  | none => False
theorem drawN_fin {l : List Oper} {cs : List Nat} {k z : Nat} {lx : List (Oper × AV)} {env envF : List (Nat × AV)} {K : St → Prop} {R : Exit → Act → World → Prop} (hR : ∀ s a w, K s → Ok cx n s a w → R .normal a w)
    (hD : DrawOk l.toArray l.toArray.size) (hso : SoleN l cs k) (hr : ∀ i, k ≤ i → i < l.toArray.size → ∀ j, k ≤ j → j < i → reach l.toArray 12 i j = true) (hcsk : ∀ c ∈ cs, c < k)
    (hEF : ∀ t, look envF t = look (envL (fun j => decide (j < k)) lx 0 env) t) {listed : Array Bool} {a : Act} {w : World}
    (inv : DInvN P cx n l lx env H cs k z (fun env' E => rvc P n l.toArray (l.drop k) K ⟨env', E ++ H⟩) envF listed a w) (hall : ∀ j, j < k → listed.getD j false = true) :
    wpAny P .any l.toArray R (l.toArray.size - k) listed a w := by
  obtain ⟨done, rest, V, E, hcs, hdone, hrest, hF, hfr, hV, hinv⟩ := inv.ph
  have hr0 : rest = [] := by
    cases rest with
    | nil => rfl
    | cons c r =>
      have h1 := hrest c (List.mem_cons_self ..)
      have h2 := hcsk c (by rw [hcs]; simp)
      rw [hall c h2] at h1; cases h1
  subst hr0
  have hli : ∀ j, listed.getD j false = decide (j < k) := fun j => by
    by_cases hj : j < k
    · rw [hall j hj, decide_eq_true hj]
    · rw [inv.behind j (by omega), decide_eq_false hj]
  have hok : Ok cx n ⟨V ++ envF, E ++ H⟩ a w := by
    refine ⟨hinv.ok.defers, hinv.ok.size, fun t => ?_, hinv.ok.world⟩
    show Rep w _ _ (look (V ++ envF) t)
    rw [look_app]
    split
    · rename_i hm; exact (hV t hm).1
    · rw [hEF]
      have := hinv.ok.reps t
      have e : (fun j => listed.getD j false) = fun j => decide (j < k) := funext hli
      simp only [e] at this
      exact this
  have hK : rvc P n l.toArray (l.drop k) K ⟨V ++ envF, E ++ H⟩ := by
    simpa [chF] using hF
  have hwl := rvc_sound (cx := cx) _ _ hK R hR a w hok
  have hdl : (l.drop k).length = l.toArray.size - k := by simp
  have := tail_to (P := P) (k0 := k) hD.back hr (l.drop k) k listed a w (Nat.le_refl _) (fun j => by simp [List.getElem?_drop]) (by have := hso.le; simp; omega) hinv.lsize (fun j hj => hli j) hwl
  rwa [hdl] at this
theorem tailN_spec {ops : Array Oper} {k z : Nat} (h : tailN ops k z = true) (hz : z ≤ k) : ∀ i, k ≤ i → i < ops.size → ∀ j, z ≤ j → j < i → reach ops 12 i j = true := fun i hi his j hj hji => by
  have := List.all_eq_true.1 h i (List.mem_range.2 his)
  rw [Bool.or_eq_true] at this
  rcases this with h | h
  · have := of_decide_eq_true h; omega
  · have := List.all_eq_true.1 h j (List.mem_range.2 hji)
    rw [Bool.or_eq_true] at this
    rcases this with h | h
    · have := of_decide_eq_true h; omega
    · exact h
def drawNF1 (P : Program) (n : Nat) (l : List Oper) (K : St → Prop) (cs : List Nat) (k : Nat) (bs : List Nat) (s : St) : Prop :=
  match l with
  | ⟨some d, .move (.tmp x), _, _, _, none⟩ :: l1 => d < n ∧ match splitH bs s.H with
    | some q => nvc P n l.toArray cs q.2 1 (l1.take (k - 1)) (fun env => chF P n q.2 l cs env q.1 fun env' E => rvc P n l.toArray (l.drop k) K ⟨env', E ++ q.2⟩) ((d, look s.env x) :: s.env)
    | none => False
  | _ => False
theorem WP.drawN1 {id k : Nat} {cs bs : List Nat} {l : List Oper} {Q : Exit → St → Prop} {s : St} (hm : P.follows .mixedOrders = true) (hB : drawB l.toArray l.length = true) (hc : chainB l.toArray cs = true) (hs : soleN l cs k = true)
    (hT : tailN l.toArray k 1 = true) (hF : firstB l.toArray = true) (hN : Region.noSelect l.toArray = true) (hk1 : (decide (1 ≤ k) && isMv (l[0]?)) = true) (h : drawNF1 P n l (Q .normal) cs k bs s) : WP P cx n (.region id l.toArray true) Q s := by
  intro a w ok0
  have hD : DrawOk l.toArray l.toArray.size := by have := drawB_spec hB; simpa using this
  have hso := soleN_spec hs
  have hkl := hso.le
  simp only [Bool.and_eq_true, decide_eq_true_eq] at hk1
  obtain ⟨hk1, _⟩ := hk1
  have hr := tailN_spec hT hk1
  unfold drawNF1 at h
  split at h
  case h_2 => exact h.elim
  rename_i d x ty0 p0 af0 l1 hx
  obtain ⟨o0, ho0⟩ : ∃ o0 : Oper, o0 = ⟨some d, .move (.tmp x), ty0, p0, af0, none⟩ := ⟨_, rfl⟩
  rw [← ho0] at h hB hc hs hT hF hN hD hso hkl hr ⊢
  obtain ⟨hdn, h⟩ := h
  split at h
  case h_2 => exact h.elim
  rename_i sp hsp
  obtain ⟨E0, H0⟩ := sp
  have hperm := splitH_perm hsp
  simp only at h hperm
  have ok : Ok cx n ⟨s.env, E0 ++ H0⟩ a w := Ok.permH hperm ok0
  have hfr : ∀ y ∈ E0, fresh H0 y.1 := fresh_app ok.world.nodup
  obtain ⟨env0, henv0⟩ : ∃ env0, env0 = (d, look s.env x) :: s.env := ⟨_, rfl⟩
  rw [← henv0] at h
  obtain ⟨xs, x1, S1, K1⟩ := nvc_seq (cx := cx) _ _ _ h
  generalize hA1 : (l1.take (k - 1)).zip xs = A at S1 K1
  have hll : (o0 :: l1).length = l1.length + 1 := by simp
  have la : A.length = k - 1 := by rw [← hA1]; simp [x1]; omega
  have fa : A.map (·.1) = l1.take (k - 1) := by rw [← hA1]; exact List.map_fst_zip (by omega)
  obtain ⟨D, hDD⟩ : ∃ D : List (Oper × AV), D = (l1.drop (k - 1)).map fun o => (o, AV.any) := ⟨_, rfl⟩
  have fD : D.map (·.1) = l1.drop (k - 1) := by rw [hDD, List.map_map]; exact List.map_id' _
  obtain ⟨lx, hlxe⟩ : ∃ lx, lx = (o0, look s.env x) :: (A ++ D) := ⟨_, rfl⟩
  have hlxf : lx.map (·.1) = o0 :: l1 := by rw [hlxe, List.map_cons, List.map_append, fa, fD, List.take_append_drop]
  have llx : lx.length = (o0 :: l1).length := by have := congrArg List.length hlxf; simpa using this
  have hlx : ∀ (j : Nat) o x, lx[j]? = some (o, x) → (o0 :: l1).toArray[j]? = some o := by
    intro j o x hj
    have h1 : (lx.map (·.1))[j]? = some o := by rw [List.getElem?_map, hj]; rfl
    rw [hlxf] at h1; simpa using h1
  have e0 : putE s.env o0.dst (look s.env x) = env0 := by rw [ho0, henv0]; rfl
  have hS : SeqG (fun i o x env => 1 ≤ i → i < k → CN P cx n (o0 :: l1).toArray cs H0 0 i o x env) lx s.env := by
    rw [hlxe]
    refine SeqG.cons (fun h => by omega) ?_
    rw [e0]
    refine SeqG.app (fun i o x hi _ _ => ?_) (fun i o x hi _ hlt => ?_)
    · have := S1 i o x hi
      unfold CN at this ⊢
      rw [show 0 + (i + 1) = 1 + i by omega]
      exact this
    · omega
  obtain ⟨envF, hEf⟩ : ∃ e, e = envL (fun _ => true) A 0 env0 := ⟨_, rfl⟩
  rw [← hEf] at K1
  have hEF : ∀ t, look envF t = look (envL (fun j => decide (j < k)) lx 0 s.env) t := by
    intro t
    rw [hlxe]
    simp only [envL]
    rw [if_pos (by simp; omega), e0, envL_append, envL_none D _ _ (fun j hj => by simp; omega), hEf, show 0 + 1 = 1 + 0 from rfl, envL_shiftk 1 A 0]
    congr 1
    exact envL_ext A 0 _ fun j _ hj => by simp; omega
  have hcsk : ∀ c ∈ cs, c < k := fun c hc => (hso.at_ c hc).1
  have hoi0 : (o0 :: l1).toArray[0]? = some o0 := by simp
  have h0cs : 0 ∉ cs ∨ True := .inr trivial
  have okw : Ok cx n ⟨s.env, E0 ++ H0⟩ a { w with drawn := w.drawn + 1 } := by
    have hIw : ∀ c, imm cx w (E0 ++ H0) c → imm cx { w with drawn := w.drawn + 1 } (E0 ++ H0) c ∧ ({ w with drawn := w.drawn + 1 } : World).heap[c]? = w.heap[c]? := fun c hc => ⟨hc, rfl⟩
    refine ⟨ok.defers, ok.size, fun i => (ok.reps i).mono hIw, ⟨ok.world.nodup, ok.world.keys, fun x hx => (ok.world.mem x hx).mono hIw rfl, ⟨ok.world.ext.os, ok.world.ext.tape, ok.world.ext.output, ok.world.ext.size, ok.world.ext.blk⟩, ok.world.ro⟩⟩
  refine Go.wp_mono (wp_region_any (Q := fun e a' w' => e = .normal ∧ ∃ s', Q .normal s' ∧ Ok cx n s' a' w') hm ?_) (fun e a' w' he => by
    obtain ⟨rfl, s', hq, hok⟩ := he; exact ⟨s', hq, hok⟩)
  generalize ({ w with drawn := w.drawn + 1 } : World) = w1 at okw
  clear ok
  have hF' := hF
  unfold firstB at hF'
  rw [hoi0] at hF'
  simp only [Bool.and_eq_true] at hF'
  obtain ⟨hf1, hf2⟩ := hF'
  have hsz1 : (o0 :: l1).toArray.size = l1.length + 1 := by simp
  have hrep : ∀ j, (Array.replicate (o0 :: l1).toArray.size false).getD j false = false := fun j => getD_rep_false _ _
  rw [show (o0 :: l1).toArray.size = l1.length + 1 from hsz1]
  rw [hsz1] at hrep
  have hl0 : ∀ j, ((Array.replicate (l1.length + 1) false).setIfInBounds 0 true).getD j false = decide (j = 0) := by
    intro j
    by_cases hj : j = 0
    · subst hj; simp
    · rw [getD_set_ne false (Ne.symm hj), hrep]; simp [hj]
  refine wpAny_first (ops := (o0 :: l1).toArray) (i := 0) (oi := o0) (v := a.eval (.tmp x)) hoi0 (fun j o cs b hj => Region.noSelect_spec hN j o cs b hj) (fun c a w hp => by cases hp.1) l1.length _ a w1
    (fun j oj hj hj0 _ hno => ?_) (mem_ready.2 ⟨by simp, o0, hoi0, fun e he hb => ?_⟩) ?_ ?_
  · have hjs := (Array.getElem?_eq_some_iff.1 hj).1
    have := List.all_eq_true.1 hf2 j (List.mem_range.2 hjs)
    rw [hj] at this
    simp only [Bool.or_eq_true, decide_eq_true_eq] at this
    rcases this with (h | h) | h
    · exact absurd h hj0
    · obtain ⟨e, he, hb, he0⟩ := waits_spec h
      exact absurd he0 (hno e he hb)
    · exact h
  · have := Array.all_eq_true'.1 hf1 e he
    rw [hb] at this; cases this
  · refine .inl ⟨by rw [ho0]; rfl, fun w' => ?_⟩
    rw [ho0]
    simp [execOp]
  have hput : Ok cx n ⟨env0, E0 ++ H0⟩ (a.put o0.dst (a.eval (.tmp x))) w1 := by
    have := okw.put (d := some d) hdn (v := a.eval (.tmp x)) (x := look s.env x) (okw.reps x)
    rw [ho0, henv0]
    exact this
  have hcl0 : Closed (o0 :: l1).toArray ((Array.replicate (l1.length + 1) false).setIfInBounds 0 true) := by
    intro j oj hj hl c hw
    rw [hl0] at hl
    have hj0 := of_decide_eq_true hl
    subst hj0
    rw [hoi0] at hj
    cases hj
    obtain ⟨e, he, hb, _⟩ := waits_spec hw
    have := Array.all_eq_true'.1 hf1 e he
    rw [hb] at this; cases this
  have henvl : ∀ f : Nat → Bool, f 0 = true → (∀ j, 0 < j → f j = false) → envL f lx 0 s.env = env0 := by
    intro f h0 h1
    rw [hlxe]
    simp only [envL, h0, if_true]
    rw [envL_none _ _ _ fun j hj => h1 j (by omega), e0]
  by_cases h0c : 0 ∈ cs
  · -- a chain does not begin with a move: its formula says no
    exfalso
    cases cs with
    | nil => cases h0c
    | cons c r =>
      obtain ⟨_, oc, tc, hoc, _, _, hsc⟩ := hso.at_ 0 h0c
      have hchain := hc
      rcases List.mem_cons.1 h0c with hz | hz
      · subst hz
        unfold chF at K1
        rw [List.drop_zero, ho0] at K1
        obtain ⟨_, K1⟩ := K1
        unfold chS at K1
        simp [mkV, calleeV] at K1
      · simp only [chainB, Bool.and_eq_true] at hchain
        have := List.all_eq_true.1 hchain.1 0 hz
        simp only [reach, hoi0] at this
        rw [Bool.or_eq_true] at this
        rcases this with h | h
        · obtain ⟨e, he, hb, _⟩ := waits_spec h
          have := Array.all_eq_true'.1 hf1 e he
          rw [hb] at this; cases this
        · simp at h
  have inv0 : DInvN P cx n (o0 :: l1) lx s.env H0 cs k 1 (fun env' E => rvc P n (o0 :: l1).toArray ((o0 :: l1).drop k) (Q .normal) ⟨env', E ++ H0⟩) envF ((Array.replicate (l1.length + 1) false).setIfInBounds 0 true) (a.put o0.dst (a.eval (.tmp x))) w1 := by
    refine ⟨fun j hj => by rw [hl0]; simp; omega, fun j hj => by rw [hl0]; simp; omega, [], cs, [], E0, rfl, fun i hi => (by cases hi), fun i hi => ?_, K1, hfr, fun t ht => (by cases ht), by simp, hcl0, fun t ht ht' => by simp at ht' llx; omega, ?_⟩
    · rw [hl0]; simp; rintro rfl; exact h0c hi
    · rw [henvl _ (by rw [hl0]; simp) (fun j hj => by rw [hl0]; simp; omega)]
      exact hput
  have hcount : ((List.range k).filter fun i => !((Array.replicate (l1.length + 1) false).setIfInBounds 0 true).getD i false).length = k - 1 := by
    have e : (fun i => !((Array.replicate (l1.length + 1) false).setIfInBounds 0 true).getD i false) = fun i => !decide (i ≤ 0) := by funext i; rw [hl0]; simp
    rw [e]
    exact count_gt 0 k
  have hDl : DrawOk (o0 :: l1).toArray lx.length := by rw [llx]; simpa using hD
  have := head_to (P := P) (ops := (o0 :: l1).toArray) (k := k) (R := fun e a' w' => e = .normal ∧ ∃ s', Q .normal s' ∧ Ok cx n s' a' w') (g := (o0 :: l1).toArray.size - k) (Inv := DInvN P cx n (o0 :: l1) lx s.env H0 cs k 1 (fun env' E => rvc P n (o0 :: l1).toArray ((o0 :: l1).drop k) (Q .normal) ⟨env', E ++ H0⟩) envF)
    (by simpa using hkl) hD.back
    (fun li a w inv i hi hri j hj => by
      obtain ⟨_, oi, hoi, _⟩ := mem_ready.1 hri
      obtain ⟨_, _, _, _, _, _, _, _, _, _, hinv⟩ := inv.ph
      by_cases hj0 : j = 0
      · subst hj0; exact inv.zero 0 (by omega)
      · exact reach_of_ready hinv.closed hri (hr i hi (Array.getElem?_eq_some_iff.1 hoi).1 j (by omega) (by omega)))
    (fun _ _ _ inv => by obtain ⟨_, _, _, _, _, _, _, _, _, _, hinv⟩ := inv.ph; exact hinv.closed)
    (fun _ _ _ inv => by obtain ⟨_, _, _, _, _, _, _, _, _, _, hinv⟩ := inv.ph; exact hinv.lsize)
    (fun li a w i X inv hi hik hX => dinvN_step hDl hlx llx hS hc hso hEF inv hi hik hX)
    (fun li a w inv hall => drawN_fin (fun s a w hk ok => ⟨rfl, s, hk, ok⟩) hD hso (fun i hi his j hj hji => hr i hi his j (by omega) hji) hcsk hEF inv hall)
    (k - 1) _ _ _ hcount inv0
  have hNN : k - 1 + ((o0 :: l1).toArray.size - k) = l1.length := by rw [hsz1]; simp at hkl; omega
  rw [hNN] at this
  exact this
end
end Go.Proofs.Yteoajodoejoccaa
namespace Go.Proofs.Yteoajodoejoccaa
open Go
set_option linter.unusedSimpArgs false
set_option linter.unusedVariables false
theorem CallV.newC {P : Program} {f : FuncId} {args : List AV} {H F R : Hp} {F0 : Nat → Nat → Hp} {post : AV → Hp → Prop} {φ : Nat → Nat → Prop} {x : Nat → Nat → AV} {m : Nat → Nat → MB}
    (h : ACt P f args F (fun r F' => ∃ b c, φ b c ∧ r = x b c ∧ F' = (b, m b c) :: F0 b c)) (hP : H.Perm (F ++ R)) (hk : ∀ b c, (F0 b c).map (·.1) = F.map (·.1))
    (hp : Nu fun b => Nu fun c => Fr (φ b c ∧ fresh H b) (post (x b c) ((b, m b c) :: (F0 b c ++ R)))) : CallV P f args H post :=
  ⟨F, R, _, hP, h, fun r F' hr hn => by
    obtain ⟨b, c, e0, e1, e2⟩ := hr
    subst e1 e2
    exact ((hp.out b).out c).out ⟨e0, fresh_perm hP (hk b c) hn⟩⟩
theorem rep_frz {w : World} {I I0 : Nat → Prop} {b : Nat} {k : IntKind} {zs : List Int} {s0 ty : Nat} {v : Value} {x : AV} (hm : MOk w I0 b (.zs k zs s0 ty)) (hb : I b) (hr' : Rep w I v x) : Rep w I v (frz b k zs x) := by
  unfold frz
  split
  · rename_i b' off m cap
    split
    · rename_i he
      subst he
      split
      · rename_i hc
        obtain ⟨c1, c2, c3⟩ := hc
        have := hr'.lit_inv
        subst this
        obtain ⟨cur, d1, d2, d3, d4⟩ := hm
        have hl : ((zs.drop off).take m).length = m := by simp; omega
        have hrr : Rep w I (.slice (some ⟨b', off, none⟩) ((zs.drop off).take m).length cap) (.slz k ((zs.drop off).take m)) := by
          refine .slz _ _ _ _ (by omega) c3 (.inr ⟨b', off, rfl, hb, fun j hj => ?_⟩)
          have hj' : j < m := by omega
          rw [cell_of_block d1, d4 _ (by omega)]
          have : off + j < zs.length := by omega
          simp [List.getD, hj']
        rw [hl] at hrr
        exact hrr
      · exact .any _
    · exact hr'
  · exact hr'
def frzL (b : Nat) (k : IntKind) (zs : List Int) (cs : List AV) : List AV := cs.map (frz b k zs)
def frzM (b : Nat) (k : IntKind) (zs : List Int) : MB → MB
  | .cells cs sz ty => .cells (frzL b k zs cs) sz ty
  | m => m
def frzH (b : Nat) (k : IntKind) (zs : List Int) : Hp → Hp
  | [] => []
  | (c, m) :: r => (c, frzM b k zs m) :: frzH b k zs r
theorem frzH_map {b : Nat} {k : IntKind} {zs : List Int} : ∀ H : Hp, frzH b k zs H = H.map fun p => (p.1, frzM b k zs p.2)
  | [] => rfl
  | (c, m) :: r => by simp [frzH, frzH_map r]
theorem Wk.freezeH {env : List (Nat × AV)} {H : Hp} (b : Nat) {k : IntKind} {zs : List Int} {s0 ty : Nat} (hg : hget H b = some (.zs k zs s0 ty)) : Wk ⟨env, H⟩ ⟨frzE b k zs env, frzH b k zs (hdel H b)⟩ := by
  intro cx n a w ok
  obtain ⟨hw, hI, hb⟩ := ok.world.lose (w' := w) (hget_mem hg) rfl rfl rfl rfl (fun _ _ => rfl)
  have hm := ok.world.mem _ (hget_mem hg)
  have hkey : (frzH b k zs (hdel H b)).map (·.1) = (hdel H b).map (·.1) := by rw [frzH_map, List.map_map]; rfl
  have himm : ∀ c, imm cx w (hdel H b) c → imm cx w (frzH b k zs (hdel H b)) c ∧ w.heap[c]? = w.heap[c]? := by
    intro c hc
    refine ⟨?_, rfl⟩
    rcases hc with h | ⟨h1, h2, h3⟩
    · exact .inl h
    · refine .inr ⟨h1, h2, fun x hx => ?_⟩
      rw [frzH_map] at hx
      obtain ⟨y, hy, rfl⟩ := List.mem_map.1 hx
      exact h3 y hy
  have hb' := (himm b hb).1
  refine ⟨ok.defers, ok.size, fun i => ?_, ?_⟩
  · show Rep w _ _ (look (frzE b k zs env) i)
    rw [look_frzE]
    exact rep_frz hm hb' (((ok.reps i).mono hI).mono himm)
  · refine ⟨by rw [hkey]; exact hw.nodup, fun x hx => ?_, fun x hx => ?_, hw.ext, fun x hx hT => ?_⟩
    · rw [frzH_map] at hx
      obtain ⟨y, hy, rfl⟩ := List.mem_map.1 hx
      exact hw.keys y hy
    · rw [frzH_map] at hx
      obtain ⟨y, hy, rfl⟩ := List.mem_map.1 hx
      have h1 := (hw.mem y hy).mono himm rfl
      obtain ⟨c, m⟩ := y
      cases m with
      | cells cs sz ty =>
        obtain ⟨cur, e1, e2, e3, e4⟩ := h1
        refine ⟨cur, e1, e2, by simpa [frzL] using e3, fun i hi => ?_⟩
        have hi' : i < cs.length := by simpa [frzL] using hi
        have := rep_frz hm hb' (e4 i hi')
        simpa [frzL] using this
      | zs _ _ _ _ => exact h1
      | obj _ => exact h1
      | ro _ _ _ _ => exact h1
    · rw [frzH_map] at hx
      obtain ⟨y, hy, rfl⟩ := List.mem_map.1 hx
      have := hw.ro y hy hT
      obtain ⟨c, m⟩ := y
      cases m with
      | ro _ _ _ _ => rfl
      | _ => cases this
theorem ACt.frm {P : Program} {f : FuncId} {args : List AV} {H F R : Hp} {p q : AV → Hp → Prop} (h : ACt P f args F p) (hP : H.Perm (F ++ R))
    (hq : ∀ r F', p r F' → ((F' ++ R).map (·.1)).Nodup → ∃ H' D, (F' ++ R).Perm (H' ++ D) ∧ q r H') : ACt P f args H q := by
  intro cx vs hK hKT hw hs hv
  have hw1 := hw.perm hP
  have hIp : ∀ b, imm cx cx.w0 H b → imm cx cx.w0 (F ++ R) b := fun b hb => (imm_perm hP).1 hb
  have hI : ∀ b, imm cx cx.w0 H b → b < cx.w0.heap.size ∧ (b ∉ F.map (·.1) ∨ b ∈ roK F) := fun b hb => ⟨imm_lt hw1.ext.size hb, imm_out hw1 (hIp b hb)⟩
  have hT := roK_lt hw1
  have hnd := hw1.nodup
  rw [List.map_append, List.nodup_append] at hnd
  have := h ⟨cx.w0, imm cx cx.w0 H, F.map (·.1), roK F, hI, hT⟩ vs rfl rfl ⟨hnd.1, fun x hx => .inl (List.mem_map_of_mem hx), fun x hx => (hw1.mem x (List.mem_append_left _ hx)).mono (fun b hb => ⟨.inl ((imm_perm hP).2 hb), rfl⟩) rfl,
    ⟨rfl, rfl, rfl, Nat.le_refl _, fun _ _ _ => rfl⟩, roK_ro hnd.1⟩ hs (fun i hi => (hv i hi).mono fun b hb => ⟨.inl hb, rfl⟩)
  refine this.mono ?_
  rintro e w' ⟨v, r, F', he, hpost, hw', hr⟩
  obtain ⟨c1, c2, c3⟩ := call_frame hIp hw1 hw'
  obtain ⟨H', D, d1, d2⟩ := hq r F' hpost c1.nodup
  have c4 := (c1.perm d1).drop
  exact ⟨v, r, H', he, d2, c4.1, hr.mono fun b hb => ⟨c4.2 b ((imm_perm d1).1 (c3 b hb)), rfl⟩⟩
theorem WCt.updM {P : Program} {f : FuncId} {args : List AV} {E F F0 R H0 : Hp} {post : AV → Hp → Prop} {x : AV} (h : ACt P f args F (fun r F' => r = x ∧ F' = F0)) (hP : E.Perm (F ++ R)) (hp : post x (F0 ++ R)) : WCt P f args E H0 post :=
  ⟨F, R, _, hP, h, fun r F' hr _ => by obtain ⟨e1, e2⟩ := hr; subst e1 e2; exact hp⟩
theorem ACt.frzG {P : Program} {f : FuncId} {args args' : List AV} {b : Nat} {k : IntKind} {zs : List Int} {s0 ty : Nat} {F : Hp} {p : AV → Hp → Prop} (h : ACt P f args' F p) (he : args.map (Proofs.Yteoajodoejoccaa.frz b k zs) = args') :
    ACt P f args ((b, .zs k zs s0 ty) :: F) p := by
  intro cx vs hK hKT hw hs hv
  subst he
  have hbl := keys_lt hw _ (List.mem_cons_self ..)
  have hnd := hw.nodup
  simp only [List.map_cons, List.nodup_cons] at hnd
  have himm : ∀ c, imm cx cx.w0 ((b, .zs k zs s0 ty) :: F) c → cx.I c := by
    rintro c (hc | ⟨h1, h2, h3⟩)
    · exact hc
    · rcases h1 with h1 | h1
      · rw [hK] at h1
        obtain ⟨x, hx, he⟩ := List.mem_map.1 h1
        exact absurd he (h3 x hx)
      · omega
  have hKT : cx.T = roK F := hKT
  have hI : ∀ c, (cx.I c ∨ c = b) → c < cx.w0.heap.size ∧ (c ∉ F.map (·.1) ∨ c ∈ roK F) := by
    rintro c (hc | rfl)
    · refine ⟨(cx.hI c hc).1, ?_⟩
      rcases (cx.hI c hc).2 with h | h
      · exact .inl fun hm => h (by rw [hK]; exact List.mem_cons_of_mem _ hm)
      · exact .inr (hKT ▸ h)
    · exact ⟨hbl, .inl hnd.1⟩
  have hT : ∀ c ∈ roK F, c < cx.w0.heap.size := fun c hc => cx.hT c (hKT ▸ hc)
  have := h ⟨cx.w0, fun c => cx.I c ∨ c = b, F.map (·.1), roK F, hI, hT⟩ vs rfl rfl
    ⟨hnd.2, fun x hx => .inl (List.mem_map_of_mem hx), fun x hx => (hw.mem x (List.mem_cons_of_mem _ hx)).mono (fun c hc => ⟨.inl (.inl (himm c hc)), rfl⟩) rfl, ⟨rfl, rfl, rfl, Nat.le_refl _, fun _ _ _ => rfl⟩, roK_ro hnd.2⟩
    (by simpa using hs) (fun i hi => by
      have hi' : i < args.length := by simpa using hi
      have := rep_frz (hw.mem _ (List.mem_cons_self ..)) (I := fun c => cx.I c ∨ c = b) (.inr rfl) ((hv i hi').mono fun c hc => ⟨.inl hc, rfl⟩)
      simpa [List.getD, List.getElem?_map, hi'] using this)
  refine this.mono ?_
  rintro e w' ⟨v, r, F', he, hp, hw', hr⟩
  have e1 := hw.ext
  have e2 := hw'.ext
  have hsz : cx.w0.heap.size ≤ w'.heap.size := e2.size
  have hkey : ∀ x ∈ F', x.1 ∈ cx.K ∨ cx.w0.heap.size ≤ x.1 := fun x hx => by
    rcases hw'.keys x hx with h | h
    · exact .inl (by rw [hK]; exact List.mem_cons_of_mem _ h)
    · exact .inr h
  have hbF : ∀ x ∈ F', x.1 ≠ b := fun x hx he => by
    rcases hw'.keys x hx with h | h
    · exact hnd.1 (he ▸ h)
    · simp only at h; omega
  have hIm : ∀ c, imm ⟨cx.w0, fun c => cx.I c ∨ c = b, F.map (·.1), roK F, hI, hT⟩ w' F' c → imm cx w' F' c := by
    rintro c ((hc | rfl) | ⟨h1, h2, h3⟩)
    · exact .inl hc
    · exact .inr ⟨.inl (by rw [hK]; exact List.mem_cons_self ..), by omega, hbF⟩
    · refine .inr ⟨?_, h2, h3⟩
      rcases h1 with h1 | h1
      · exact .inl (by rw [hK]; exact List.mem_cons_of_mem _ h1)
      · exact .inr h1
  refine ⟨v, r, F', he, hp, ⟨hw'.nodup, hkey, fun x hx => (hw'.mem x hx).mono (fun c hc => ⟨hIm c hc, rfl⟩) rfl, ?_, fun x hx hxT => hw'.ro x hx (by show x.1 ∈ roK F; rw [← hKT]; exact hxT)⟩, hr.mono fun c hc => ⟨hIm c hc, rfl⟩⟩
  exact ⟨e2.os.trans e1.os, e2.tape.trans e1.tape, e2.output.trans e1.output, Nat.le_trans e1.size e2.size, fun c hc hk => (e2.blk c hc (by
    rcases hk with hk | hk
    · exact .inl fun hm => hk (by rw [hK]; exact List.mem_cons_of_mem _ hm)
    · exact .inr (by show c ∈ roK F; rw [← hKT]; exact hk))).trans (e1.blk c hc hk)⟩
theorem CallV.frzE {P : Program} {f : FuncId} {args args' : List AV} {H F R : Hp} {post : AV → Hp → Prop} {Γ : Type} {x : Γ → AV} {m : Γ → Hp} (b : Nat) {k : IntKind} {zs : List Int} {s0 ty : Nat} (hg : hget H b = some (.zs k zs s0 ty))
    (h : ACt P f args' F (fun r F' => ∃ g, r = x g ∧ F' = m g)) (he : args.map (Proofs.Yteoajodoejoccaa.frz b k zs) = args') (hP : (hdel H b).Perm (F ++ R)) (hp : ∀ g, post (x g) (m g ++ R)) : CallV P f args H post :=
  ⟨(b, .zs k zs s0 ty) :: F, R, _, (hget_perm hg).trans (List.Perm.cons _ hP), h.frzG he, fun r F' hr _ => by obtain ⟨g, e1, e2⟩ := hr; subst e1 e2; exact hp g⟩
theorem WP.drawKk {P : Program} {cx : Cx} {n : Nat} {id : Nat} (k : Nat) {l : List Oper} {Q : Exit → St → Prop} {s : St} (hm : P.follows .mixedOrders = true) (hB : drawB l.toArray k = true)
    (h : dvc P n l.toArray (l.take k) (rvc P n l.toArray (l.drop k) (Q .normal)) s) : WP P cx n (.region id l.toArray true) Q s :=
  WP.draw hm hB (dvc_mono _ _ _ _ _ (fun s hs => rvc_sound _ s hs) h)
theorem ACt.lookU {P : Program} {f : FuncId} {args : List AV} {H F R : Hp} {x : AV} (h : ACt P f args F (fun r F' => r = x ∧ F' = F)) (hP : H.Perm (F ++ R)) : ACt P f args H (fun r F' => r = x ∧ F' = H) :=
  ACt.frm h hP fun r F' hr _ => by
    obtain ⟨e1, e2⟩ := hr
    subst e1 e2
    exact ⟨H, [], by rw [List.append_nil]; exact hP.symm, rfl, rfl⟩
section
variable {P : Program} {cx : Cx} {n : Nat} {ops : Array Oper} {H : Hp}
def drawNTF (P : Program) (n : Nat) (l : List Oper) (K : St → Prop) (cs : List Nat) (k : Nat) (s : St) : Prop :=
  match s.H with
  | x :: T => nvc P n l.toArray cs [x] 0 (l.take k) (fun env => chF P n [x] l cs env T fun env' E => rvc P n l.toArray (l.drop k) K ⟨env', E ++ [x]⟩) s.env
  | [] => False
theorem WCt.exM {f : FuncId} {args : List AV} {E F R H0 : Hp} {post : AV → Hp → Prop} {Γ : Type} {x : Γ → AV} {m : Γ → Hp} (h : ACt P f args F (fun r F' => ∃ g, r = x g ∧ F' = m g)) (hP : E.Perm (F ++ R)) (hp : ∀ g, post (x g) (m g ++ R)) : WCt P f args E H0 post :=
  ⟨F, R, _, hP, h, fun r F' hr _ => by obtain ⟨g, e1, e2⟩ := hr; subst e1 e2; exact hp g⟩
end
end Go.Proofs.Yteoajodoejoccaa
namespace Go.Proofs.Yteoajodoejoccaa
open Go
set_option linter.unusedSimpArgs false
set_option linter.unusedVariables false
def TabOk (w : World) (x : Nat × MB) : Prop := ∃ (k : IntKind) (zs : List Int) (ty : TypeId) (cur : Array Value), x.2 = .zs k zs zs.length ty ∧ w.heap[x.1]? = some (.cells cur ty (0, 0)) ∧ cur.toList = zs.map (Value.int k)
theorem TabOk.same {w w' : World} {I : Nat → Prop} {x : Nat × MB} (h : TabOk w x) (h' : MOk w' I x.1 x.2) : w'.heap[x.1]? = w.heap[x.1]? := by
  obtain ⟨k, zs, ty, cur, e1, e2, e3⟩ := h
  rw [e1] at h'
  obtain ⟨cur', c1, c2, c3, c4⟩ := h'
  have hs : cur.size = zs.length := by have := congrArg List.length e3; simpa using this
  rw [e2, c1]
  have : cur' = cur := by
    apply Array.ext' 
    apply List.ext_getElem?
    intro i
    by_cases hi : i < zs.length
    · rw [Array.getElem?_toList, c4 i hi, e3]; simp [List.getD, hi]
    · rw [List.getElem?_eq_none (by simp; omega), List.getElem?_eq_none (by simp; omega)]
  rw [this]
def TabR (w : World) (x : Nat × MB) : Prop := ∃ (k : IntKind) (zs : List Int) (ty : TypeId) (cur : Array Value), x.2 = .ro k zs zs.length ty ∧ w.heap[x.1]? = some (.cells cur ty (0, 0)) ∧ cur.toList = zs.map (Value.int k)
theorem TabR.ro {w : World} {x : Nat × MB} (h : TabR w x) : isRo x.2 = true := by
  obtain ⟨k, zs, ty, cur, e1, -⟩ := h
  rw [e1]; rfl
end Go.Proofs.Yteoajodoejoccaa
namespace Go.Proofs.Yteoajodoejoccaa
open Go
set_option linter.unusedSimpArgs false
set_option linter.unusedVariables false
theorem fr0 : ¬ ((1 : Nat) = 0) := Nat.one_ne_zero
theorem fr0S : Sm (¬ ((1 : Nat) = 0)) := Sm.mk Nat.one_ne_zero
theorem Yo {p : Prop} (h : p := by first | assumption | omega | decide | trivial | (intro hob; simp only [hob, ZF]; done) | (intros; (repeat' refine And.intro ?_ ?_) <;> first | assumption | omega | trivial | decide) | (intros; simp only [ZE] at *; (repeat' refine And.intro ?_ ?_) <;> first | assumption | omega | trivial)) : p := h
theorem Yog {P : Program} {rs : List ResultVar} {post : AV → Hp → Prop} {s : St} (h : OutQ P rs post s) : OutQ P rs post s := h
theorem Yx {p : Prop} (h : ¬ p := by intro hcs; first | exact False.elim hcs | (exfalso; omega)) : ¬ p := h
theorem Yxc {p q : Prop} (h : ¬ p) : Cs p q := ⟨fun hp => (h hp).elim⟩
theorem Yq {P Q : Prop} (q : Q) (h : P = Q := by (conv => lhs; simp only [SeqQ, BlkQ, LoopQ, BodyQ, ↓reduceIte, Nat.reduceEqDiff, reduceCtorEq, look, true_and]) <;> exact rfl) : P := h.mpr q
theorem Ys {P Q : Prop} (q : Q) (h : P = Q := by (try (conv => lhs; simp -dsimp only [ZK, rvc, capA, appA, litL, mkfv, drawF, headN, pureH, stp, dvc, calleeOf, gcall, pev, eff, newB, okd, og, ogs, ogo, ogp, slv, bltv, opd, litv, strip, one, both, putE, St.put, look, gdOf, gdv, picka, pickv, pickw, binv, bini, bins, binb, binp, binq, isSlT, bina, shp, eqCells, unv, convv, nilv, faddv, addp, idxav, idxp, load1, load1m, loadn, loadnm, loadv, hget, hset, hrep, hdel, slicev, slice3v, bnd, shift1, lenv, capv, IntKind.bits, extractv, fieldv, indexv, min2v, max2v, mkiv, tasv, tasz, cellsA, fillA, buildv, stC, oneC, rowMB, intsA, plN, appE, appZ, appC, appS, srcB, appNZ, appNC, VwL, srcC, srcZ, srcM, isBoolT, isPtrT, isSliceT, uOk, Value.oneCell', Nat.reducePow, Int.reducePow, Nat.reduceAdd, Nat.reduceMul, Nat.reduceSub, Nat.reduceLT, Nat.reduceLeDiff, Nat.reduceEqDiff, Nat.reduceBEq, Nat.reduceDiv, Nat.reduceMod, ↓reduceIte, reduceCtorEq, Int.reduceToNat, Int.reduceLT, Int.reduceLE, drawAF, alF, drawSF, drawMF, mkS, drawCF, xvc, xst, splitH, calleeV, drawWF, drawNF, drawNF1, drawNTF, nvc, chF, chS, splA, mkV, SeqQ, BlkQ, LoopQ, BodyQ, FA.out, FR.out])) <;> exact rfl) : P := h.mpr q
theorem Yu {p G R : Prop} (h : p → Sm R → G := by intro c r; exact CallV.upd (by simp only [hget, ↓reduceIte, FA.out, FR.out]; first | done | rfl) c r.out) (c : p) (r : Sm R) : G := h c r
theorem Yw1 {p G R : Prop} (h : p → Sm R → G := by intro c r; exact CallV.updM c (perm1 (by simp only [hget, hdel, ↓reduceIte, FA.out, FR.out]; first | done | rfl)) r.out) (c : p) (r : Sm R) : G := h c r
theorem Yl1 {p G R : Prop} (h : p → Sm R → G := by intro c r; first | exact CallV.updM c (perm1 (by simp only [hget, hdel, ↓reduceIte, FA.out, FR.out]; first | done | rfl)) r.out | exact ExF.up ⟨_, (perm1 (by simp only [hget, hdel, ↓reduceIte, FA.out, FR.out]; first | done | rfl))⟩ c r.out | exact ExG.up ⟨_, (perm1 (by simp only [hget, hdel, ↓reduceIte, FA.out, FR.out]; first | done | rfl))⟩ (fun _ => c) r.out | exact ExG.upJ ⟨_, (perm1 (by simp only [hget, hdel, ↓reduceIte, FA.out, FR.out]; first | done | rfl))⟩ (fun _ => c) r.out | exact ExG.upI ⟨_, (perm1 (by simp only [hget, hdel, ↓reduceIte, FA.out, FR.out]; first | done | rfl))⟩ (fun _ => c) Yo r.out) (c : p) (r : Sm R) : G := h c r
theorem Yg {P : Program} {rs : List ResultVar} {post : AV → Hp → Prop} {s : St} {Q : Prop} (q : Q) (h1 : (resv P s.H s.env rs).1 := by simp only [resv, ZK, look, loadv, loadn, loadnm, load1, load1m, hget, ↓reduceIte, Nat.reduceEqDiff, Nat.reduceAdd, Nat.reduceMul, Nat.reduceLeDiff, Nat.reduceLT, reduceCtorEq, FA.out, FR.out])
    (h2 : post (resA (resv P s.H s.env rs).2) [] = Q := by (try (conv => lhs; skip; (try simp only [resv, resA, Fn, ZK, look, loadv, loadn, loadnm, load1, load1m, hget, ↓reduceIte, Nat.reduceEqDiff, Nat.reduceAdd, Nat.reduceMul, Nat.reduceLeDiff, Nat.reduceLT, reduceCtorEq, FA.out, FR.out]); (try simp [resA, Fn, look, FA.out, FR.out]))) <;> exact rfl) : OutQ P rs post s := OutQ.all h1 (h2.mpr q)
theorem Ysn {P Q : Prop} (q : Q) (h : P = Q := by (try (conv => lhs; simp -dsimp only [ZK, rvc, capA, appA, litL, mkfv, drawF, headN, pureH, stp, dvc, calleeOf, gcall, pev, eff, newB, okd, og, ogs, ogo, ogp, slv, bltv, opd, litv, strip, one, both, putE, St.put, look, gdOf, gdv, picka, pickv, pickw, binv, bini, bins, binb, binp, binq, isSlT, bina, shp, eqCells, unv, convv, nilv, faddv, addp, idxav, idxp, load1, load1m, loadn, loadnm, loadv, hget, hset, hrep, hdel, slicev, slice3v, bnd, shift1, lenv, capv, IntKind.bits, extractv, fieldv, indexv, min2v, max2v, mkiv, tasv, tasz, cellsA, fillA, buildv, stC, oneC, rowMB, intsA, plN, appE, appZ, appC, appS, srcB, appNZ, appNC, VwL, srcC, srcZ, srcM, isBoolT, isPtrT, isSliceT, uOk, Value.oneCell', Nat.reducePow, Int.reducePow, Nat.reduceAdd, Nat.reduceMul, Nat.reduceSub, Nat.reduceLT, Nat.reduceLeDiff, Nat.reduceEqDiff, Nat.reduceBEq, Nat.reduceDiv, Nat.reduceMod, ↓reduceIte, reduceCtorEq, Int.reduceToNat, Int.reduceLT, Int.reduceLE, drawAF, alF, drawSF, drawMF, mkS, drawCF, xvc, xst, splitH, calleeV, drawWF, drawNF, drawNF1, drawNTF, nvc, chF, chS, splA, mkV, SeqQ, BlkQ, LoopQ, BodyQ, FA.out, FR])) <;> exact rfl) : P := h.mpr q
theorem Yun {p G R : Prop} (h : p → Sm R → G := by intro c r; exact CallV.upd (by simp only [hget, ↓reduceIte, FA.out, FR]; first | done | rfl) c r.out) (c : p) (r : Sm R) : G := h c r
theorem Yvn {p G R : Prop} (h : p → Sm R → G := by intro c r; first | exact CallV.row (by simp only [hget, ↓reduceIte, FA.out, FR]; first | done | rfl) c r.out | exact CallV.mkrow c r.out | exact CallV.upd (by simp only [hget, ↓reduceIte, FA.out, FR]; first | done | rfl) c r.out | exact CallV.mkobj c r.out) (c : p) (r : Sm R) : G := h c r
theorem Ygn {P : Program} {rs : List ResultVar} {post : AV → Hp → Prop} {s : St} {Q : Prop} (q : Q) (h1 : (resv P s.H s.env rs).1 := by simp only [resv, ZK, look, loadv, loadn, loadnm, load1, load1m, hget, ↓reduceIte, Nat.reduceEqDiff, Nat.reduceAdd, Nat.reduceMul, Nat.reduceLeDiff, Nat.reduceLT, reduceCtorEq, FA.out, FR])
    (h2 : post (resA (resv P s.H s.env rs).2) [] = Q := by (try (conv => lhs; skip; (try simp only [resv, resA, Fn, ZK, look, loadv, loadn, loadnm, load1, load1m, hget, ↓reduceIte, Nat.reduceEqDiff, Nat.reduceAdd, Nat.reduceMul, Nat.reduceLeDiff, Nat.reduceLT, reduceCtorEq, FA.out, FR]); (try simp [resA, Fn, look, FA.out, FR]))) <;> exact rfl) : OutQ P rs post s := OutQ.all h1 (h2.mpr q)
theorem Yc {p G R : Prop} (h : p → Sm R → G := by intro c r; first | exact CallV.fn c r.out | exact ExF.mk c r.out | exact ExG.mk (fun _ => c) r.out | exact ExG.mkJ (fun _ => c) r.out | exact ExG.mkI Yo (fun _ => c) r.out) (c : p) (r : Sm R) : G := h c r
theorem Yfr {p K : Prop} (h : Fr p K) : Fr p K := h
theorem Yf {p F K q : Prop} (f : Sm F) (r : q → Sm (p ∧ F) → Sm K) (h : p → q := by first | exact fun h => (And.intro h.1 h.2.1 : _ ≤ _ ∧ _ ≤ _) | exact fun h => (h.1 : _ ≤ _) | exact fun _ => True.intro) : Fr p K := ⟨fun h' => (r (h h') ⟨h', f.out⟩).out⟩
end Go.Proofs.Yteoajodoejoccaa
