/-
  The walks and the laws that the statement leans on, part 8.
-/
import Derived.ChangeReads
import Derived.Laws.Externs
import Derived.Test.YteoajodoejoccaaP7
namespace Go.Proofs.Yteoajodoejoccaa
open Go
set_option linter.unusedSimpArgs false
set_option linter.unusedVariables false
section
variable {P : Program} {cx : Cx} {n : Nat} {ops : Array Oper} {H E : Hp}
theorem hget_app {b : Nat} {m : MB} (hf : ∀ p ∈ E, fresh H p.1) (h : hget H b = some m) : hget (E ++ H) b = some m := by
  induction E with
  | nil => exact h
  | cons p r ih =>
    obtain ⟨b0, m0⟩ := p
    simp only [List.cons_append, hget]
    have h1 := hf (b0, m0) (List.mem_cons_self ..) _ (hget_mem h)
    rw [if_neg h1.1]
    exact ih fun q hq => hf q (List.mem_cons_of_mem _ hq)
theorem load1_app {x : AV} (hf : ∀ p ∈ E, fresh H p.1) (h : (load1 H x).1) : load1 (E ++ H) x = load1 H x := by
  by_cases hx : ∃ b off, x = pt b off
  · obtain ⟨b, off, rfl⟩ := hx
    simp only [load1] at h ⊢
    cases hg : hget H b with
    | none => rw [hg] at h; exact h.elim
    | some m => rw [hget_app hf hg]
  · unfold load1
    split <;> first | rfl | exact absurd ⟨_, _, rfl⟩ hx
theorem loadn_app {x : AV} {c : Nat} (hf : ∀ p ∈ E, fresh H p.1) (h : (loadn H c x).1) : loadn (E ++ H) c x = loadn H c x := by
  by_cases hx : ∃ b off, x = pt b off
  · obtain ⟨b, off, rfl⟩ := hx
    simp only [loadn] at h ⊢
    cases hg : hget H b with
    | none => rw [hg] at h; exact h.elim
    | some m => rw [hget_app hf hg]
  · unfold loadn
    split <;> first | rfl | exact absurd ⟨_, _, rfl⟩ hx
theorem loadv_app {T : TypeId} {x : AV} (hf : ∀ p ∈ E, fresh H p.1) (h : (loadv P H T x).1) : loadv P (E ++ H) T x = loadv P H T x := by
  unfold loadv at h ⊢
  split
  · rename_i ht; rw [ht] at h; exact load1_app hf h
  · rename_i c ht; rw [ht] at h; exact loadn_app hf h
  · rfl
theorem convv_app {s d : TypeId} {x : AV} {r : Prop × AV} (hf : ∀ p ∈ E, fresh H p.1) (h : convv P H s d x = some r) (hr : r.1) : convv P (E ++ H) s d x = some r := by
  by_cases hy : ∃ b off, x = pt b off
  · obtain ⟨b, off, rfl⟩ := hy
    cases hd : P.underlying d with
    | none => simp only [convv, hd] at h; cases h
    | some td =>
      cases td <;> simp only [convv, hd] at h ⊢ <;> first | exact h | skip
      all_goals
        cases hg : hget H b with
        | none => rw [hg] at h; cases h; exact hr.elim
        | some mb => rw [hg] at h; rw [hget_app hf hg]; exact h
  by_cases hx : ∃ b off m cap, x = ms b off m cap
  · obtain ⟨b, off, m, cap, rfl⟩ := hx
    cases hd : P.underlying d with
    | none => simp only [convv, hd] at h; cases h
    | some td =>
      cases td <;> simp only [convv, hd] at h ⊢ <;> first | exact h | skip
      cases hg : hget H b with
      | none => rw [hg] at h; cases h; exact hr.elim
      | some mb => rw [hg] at h; rw [hget_app hf hg]; exact h
  · have : convv P (E ++ H) s d x = convv P H s d x := by
      unfold convv
      split
      · rfl
      · split <;> first | rfl | exact absurd ⟨_, _, _, _, rfl⟩ hx
      · split <;> first | rfl | exact absurd ⟨_, _, rfl⟩ hy
      · split <;> first | rfl | exact absurd ⟨_, _, rfl⟩ hy
      · rfl
    rw [this]; exact h
theorem pev_app {env : List (Nat × AV)} {op : Op} {r : Prop × AV} (hf : ∀ p ∈ E, fresh H p.1) (h : pev P H env op = some r) (hr : r.1) : pev P (E ++ H) env op = some r := by
  cases op <;> first | exact h | skip
  case slice T x lo hi mx => cases mx <;> cases lo <;> cases hi <;> exact h
  case makeFunc fn _ _ => cases fn <;> exact h
  case load T a =>
    simp only [pev, Option.some.injEq] at h ⊢
    subst h
    unfold one at hr ⊢
    rw [loadv_app hf hr.2]
  case convert s d x =>
    simp only [pev] at h ⊢
    cases hc : convv P H s d (og env x).2 with
    | none => rw [hc] at h; cases h
    | some q =>
      rw [hc] at h
      simp only [Option.map_some, Option.some.injEq] at h
      subst h
      rw [convv_app hf hc hr.2]
      rfl
def StdyE (P : Program) (cx : Cx) (n : Nat) (ops : Array Oper) (o : Oper) (env : List (Nat × AV)) (H : Hp) (x : AV) : Prop :=
  ∀ E : Hp, (∀ p ∈ E, fresh H p.1) → Stdy P cx n ops o env (E ++ H) x
def SeqvE (P : Program) (cx : Cx) (n : Nat) (ops : Array Oper) (H : Hp) (lx : List (Oper × AV)) (env : List (Nat × AV)) : Prop :=
  ∀ i o x, lx[i]? = some (o, x) → StdyE P cx n ops o (envL (fun j => decide (j < i)) lx 0 env) H x
theorem dvc_seqvE {K : St → Prop} : ∀ (l : List Oper) (s : St), dvc P n ops l K s → ∃ xs : List AV, xs.length = l.length ∧ SeqvE P cx n ops s.H (l.zip xs) s.env ∧
    K ⟨envL (fun _ => true) (l.zip xs) 0 s.env, s.H⟩
  | [], s, h => ⟨[], rfl, fun i o x h => by simp at h, h⟩
  | o :: rest, s, ⟨hd, h⟩ => by
    have step : ∀ x, StdyE P cx n ops o s.env s.H x → dvc P n ops rest K (s.put o.dst x) → ∃ xs : List AV, xs.length = (o :: rest).length ∧ SeqvE P cx n ops s.H ((o :: rest).zip xs) s.env ∧
        K ⟨envL (fun _ => true) ((o :: rest).zip xs) 0 s.env, s.H⟩ := by
      intro x hx hr
      obtain ⟨xs, h1, h2, h3⟩ := dvc_seqvE rest _ hr
      rw [put_eq] at h2 h3
      refine ⟨x :: xs, by simp [h1], fun i o' x' hi => ?_, ?_⟩
      · cases i with
        | zero =>
          simp at hi
          obtain ⟨rfl, rfl⟩ := hi
          have : envL (fun j => decide (j < 0)) ((o :: rest).zip (x :: xs)) 0 s.env = s.env := by
            have hno : ∀ (l : List (Oper × AV)) (k : Nat) (env : List (Nat × AV)), envL (fun j => decide (j < 0)) l k env = env := by
              intro l
              induction l with
              | nil => intro k env; rfl
              | cons p r ih => intro k env; obtain ⟨o, x⟩ := p; simp only [envL]; exact ih _ _
            exact hno _ _ _
          rw [this]
          exact hx
        | succ i =>
          have := h2 i o' x' (by simpa using hi)
          simp only [List.zip_cons_cons, envL, Nat.zero_lt_succ, decide_true, if_true, envL_shift]
          simpa using this
      · simp only [List.zip_cons_cons, envL, if_true, envL_shift]
        exact h3
    split at h
    · rename_i hg
      split at h
      · rename_i r hr
        exact step r.2 (fun E hE => stdy_pev hd hg (pev_app hE hr h.1) h.1) h.2
      · split at h
        · rename_i q hq
          obtain ⟨hob, x, h1, h2⟩ := h
          exact step x (fun E hE => stdy_call hd hg (dcall_app (dcall_of (s := s) hq hob h1))) h2
        · exact h.elim
    · rename_i j want hg
      split at h
      · rename_i c hc
        split at h
        · rename_i r hr
          refine step _ (fun E hE => ?_) h.2
          by_cases hct : c = true
          · exact stdy_pevG hd hg hc (pev_app hE hr (h.1 hct)) h.1
          · refine ⟨hd, fun a w X R h1 h2 h3 h4 h5 => ?_⟩
            have ok := ok_renv h1 h2 h3 h4
            rw [wanted_of_gd ok hg (by rw [gdOf_renv hg]; exact hc)]
            rw [if_neg hct]
            have hcf : c = false := by cases c <;> simp_all
            subst hcf
            exact h5 undef w (.gdf _) h3 fun c hc => ⟨hc, rfl⟩
        · split at h
          · rename_i q hq
            obtain ⟨hob, x, h1, h2⟩ := h
            exact step _ (fun E hE => stdy_callG hd hg hc fun hct => dcall_app (dcall_of (s := s) hq (hob hct) (h1 hct))) h2
          · exact h.elim
      · exact h.elim
/-! ### One step, whatever it does to memory -/
theorem dinv_before {lx : List (Oper × AV)} {env : List (Nat × AV)} {listed : Array Bool} {a : Act} {w : World} {i : Nat} {o : Oper} {x : AV} (hD : DrawOk ops lx.length) (hlx : ∀ (j : Nat) o x, lx[j]? = some (o, x) → ops[j]? = some o)
    (inv : DInv cx n ops lx env H listed a w) (hi : i ∈ Region.ready .any ops listed) (hli : lx[i]? = some (o, x)) :
    listed.getD i false = false ∧ i < ops.size ∧ ∀ t, (t ∈ o.looksAt ops ∨ o.dst = some t) → ∀ (j : Nat) oj xj, lx[j]? = some (oj, xj) → oj.dst = some t → j ≠ i → (listed.getD j false = decide (j < i)) := by
  have hoi := hlx i o x hli
  have hun := (mem_ready.1 hi).1
  have hilt : i < ops.size := (Array.getElem?_eq_some_iff.1 hoi).1
  have hun' : listed.getD i false = false := by rw [← getD_bool (by rw [inv.lsize]; exact hilt)]; exact hun
  refine ⟨hun', hilt, ?_⟩
  intro t ht j oj xj hj hd hji
  have hjk : j < lx.length := (List.getElem?_eq_some_iff.1 hj).1
  rcases hD.slot i j o oj t hoi hjk (hlx j oj xj hj) hd ht (Ne.symm hji) with ⟨h1, h2⟩ | ⟨h1, h2⟩
  · rw [ready_waits hi hoi h2]; simp [h1]
  · have : listed.getD j false = false := by
      cases hl : listed.getD j false with
      | false => rfl
      | true => have := inv.closed j oj (hlx j oj xj hj) hl i h2; rw [hun'] at this; cases this
    rw [this]; simp; omega
theorem dinv_look {lx : List (Oper × AV)} {env : List (Nat × AV)} {listed : Array Bool} {a : Act} {w : World} {i : Nat} {o : Oper} {x : AV} (hD : DrawOk ops lx.length) (hlx : ∀ (j : Nat) o x, lx[j]? = some (o, x) → ops[j]? = some o)
    (inv : DInv cx n ops lx env H listed a w) (hi : i ∈ Region.ready .any ops listed) (hli : lx[i]? = some (o, x)) :
    ∀ t ∈ o.looksAt ops, look (envL (fun j => listed.getD j false) lx 0 env) t = look (envL (fun j => decide (j < i)) lx 0 env) t := by
  obtain ⟨hun', hilt, hbefore⟩ := dinv_before hD hlx inv hi hli
  intro t ht
  refine envL_congr lx 0 env env rfl fun j oj xj hj hd => ?_
  rw [Nat.zero_add]
  by_cases hji : j = i
  · subst hji; rw [hun']; simp
  · exact hbefore t (.inl ht) j oj xj hj hd hji
theorem dinv_put {lx : List (Oper × AV)} {env : List (Nat × AV)} {H' : Hp} {listed : Array Bool} {a : Act} {w w' : World} {i : Nat} {o : Oper} {x : AV} {v : Value} (hD : DrawOk ops lx.length) (hlx : ∀ (j : Nat) o x, lx[j]? = some (o, x) → ops[j]? = some o)
    (inv : DInv cx n ops lx env H listed a w) (hi : i ∈ Region.ready .any ops listed) (hli : lx[i]? = some (o, x)) (hdst : okd n o.dst)
    (hv : Rep w' (imm cx w' H') v x) (hw' : OkW cx H' w') (hI : ∀ c, imm cx w H c → imm cx w' H' c ∧ w'.heap[c]? = w.heap[c]?) :
    DInv cx n ops lx env H' (listed.setIfInBounds i true) (a.put o.dst v) w' := by
  obtain ⟨hun', hilt, hbefore⟩ := dinv_before hD hlx inv hi hli
  have hik : i < lx.length := (List.getElem?_eq_some_iff.1 hli).1
  have hset : ∀ j, (listed.setIfInBounds i true).getD j false = if j = i then true else listed.getD j false := by
    intro j
    by_cases hji : j = i
    · subst hji
      have : j < listed.size := by rw [inv.lsize]; exact hilt
      simp [this]
    · rw [if_neg hji, getD_set_ne false (Ne.symm hji)]
  refine ⟨by simp [inv.lsize], closed_set inv.closed hi, fun t ht ht' => by rw [getD_set_ne true (by omega)]; exact inv.tail t ht ht', ?_⟩
  refine ⟨by cases o.dst <;> exact inv.ok.defers, by cases o.dst <;> simp [Act.put, inv.ok.size], fun t => ?_, hw'⟩
  have hold := (inv.ok.reps t).mono hI
  by_cases hd : o.dst = some t
  · have e1 : look (envL (fun j => (listed.setIfInBounds i true).getD j false) lx 0 env) t = x := by
      rw [← envL_at lx 0 i env o x hli hd]
      refine envL_congr lx 0 env env rfl fun j oj xj hj hdj => ?_
      rw [Nat.zero_add, hset]
      by_cases hji : j = i
      · subst hji; simp
      · rw [if_neg hji, hbefore t (.inr hd) j oj xj hj hdj hji]
        rw [Bool.eq_iff_iff]; simp; omega
    show Rep w' (imm cx w' H') _ (look (envL _ lx 0 env) t)
    rw [e1, hd]
    have : t < a.tmps.size := by rw [inv.ok.size]; rw [hd] at hdst; exact hdst
    simpa [Act.put, this] using hv
  · have e1 : look (envL (fun j => (listed.setIfInBounds i true).getD j false) lx 0 env) t = look (envL (fun j => listed.getD j false) lx 0 env) t := by
      refine envL_congr lx 0 env env rfl fun j oj xj hj hdj => ?_
      rw [Nat.zero_add, hset]
      by_cases hji : j = i
      · subst hji
        rw [hli] at hj
        cases hj
        exact absurd hdj hd
      · rw [if_neg hji]
    show Rep w' (imm cx w' H') _ (look (envL _ lx 0 env) t)
    rw [e1]
    have e2 : (a.put o.dst v).tmps.getD t undef = a.tmps.getD t undef := by
      cases hdd : o.dst with
      | none => rfl
      | some d =>
        have : d ≠ t := fun h => hd (by rw [hdd, h])
        simp [Act.put, Array.getElem?_setIfInBounds_ne this]
    rw [e2]
    exact hold
theorem dinv_stepS {lx : List (Oper × AV)} {env : List (Nat × AV)} {listed : Array Bool} {a : Act} {w : World} {i : Nat} {o : Oper} {x : AV} (hD : DrawOk ops lx.length) (hlx : ∀ (j : Nat) o x, lx[j]? = some (o, x) → ops[j]? = some o)
    (hli : lx[i]? = some (o, x)) (hS : Stdy P cx n ops o (envL (fun j => decide (j < i)) lx 0 env) H x) (inv : DInv cx n ops lx env H listed a w) (hi : i ∈ Region.ready .any ops listed) {R : Exit → Act → World → Prop} {X : Act → World → Prop}
    (hX : ∀ v w', DInv cx n ops lx env H (listed.setIfInBounds i true) (a.put o.dst v) w' → X (a.put o.dst v) w') : wpOp P ops R i X a w := by
  obtain ⟨hdst, hst⟩ := hS
  have hlook := dinv_look hD hlx inv hi hli
  unfold wpOp
  rw [hlx i o x hli]
  simp only
  have := hst a w X R inv.ok.defers inv.ok.size inv.ok.world (fun t ht => by rw [← hlook t ht]; exact inv.ok.reps t) (fun v w' hv hw' hI => hX v w' (dinv_put hD hlx inv hi hli hdst hv hw' hI))
  have hput : a.put o.dst undef = a.put o.dst undef := rfl
  split
  · rename_i hw; rw [if_pos hw] at this; exact .inl this
  · rename_i hw; rw [if_neg hw] at this; exact this
theorem head_any' {k : Nat} {R : Exit → Act → World → Prop} {Inv : Array Bool → Act → World → Prop} (hD : DrawOk ops k) (hcl : ∀ listed a w, Inv listed a w → Closed ops listed) (hsz : ∀ listed a w, Inv listed a w → listed.size = ops.size)
    (hstep : ∀ listed a w i (X : Act → World → Prop), Inv listed a w → i ∈ Region.ready .any ops listed → i < k → (∀ a' w', Inv (listed.setIfInBounds i true) a' w' → X a' w') → wpOp P ops R i X a w) {g : Nat}
    (hfin : ∀ listed a w, Inv listed a w → (∀ j, j < k → listed.getD j false = true) → wpAny P .any ops R g listed a w) :
    ∀ (u : Nat) (listed : Array Bool) (a : Act) (w : World), ((List.range k).filter fun i => !listed.getD i false).length = u → Inv listed a w → wpAny P .any ops R (u + g) listed a w
  | 0, listed, a, w, hu, inv => by
    rw [Nat.zero_add]
    refine hfin listed a w inv fun j hj => ?_
    have := List.eq_nil_of_length_eq_zero hu
    rw [List.filter_eq_nil_iff] at this
    simpa using this j (List.mem_range.2 hj)
  | u + 1, listed, a, w, hu, inv => by
    have hls := hsz _ _ _ inv
    rw [show u + 1 + g = (u + g) + 1 by omega]
    obtain ⟨m, hm1, hm2⟩ : ∃ m, m < k ∧ listed.getD m false = false := by
      cases hf : ((List.range k).filter fun i => !listed.getD i false) with
      | nil => rw [hf] at hu; cases hu
      | cons m r =>
        have : m ∈ (List.range k).filter fun i => !listed.getD i false := by rw [hf]; exact List.mem_cons_self ..
        rw [List.mem_filter] at this
        exact ⟨m, List.mem_range.1 this.1, by simpa using this.2⟩
    obtain ⟨i0, h1, h2, h3⟩ := least (p := fun i => listed.getD i false) hm2
    have hi0 : i0 < ops.size := by have := hD.le; omega
    have hready0 : i0 ∈ Region.ready .any ops listed := by
      refine mem_ready.2 ⟨by rw [getD_bool (by rw [hls]; exact hi0)]; exact h2, ops[i0], Array.getElem?_eq_getElem hi0, fun e he hb => h3 _ (hD.back i0 _ (Array.getElem?_eq_getElem hi0) e he hb)⟩
    refine ⟨fun h => (by rw [h] at hready0; cases hready0), fun i hi => ?_⟩
    obtain ⟨hun, oi, hoi, _⟩ := mem_ready.1 hi
    have hilt : i < ops.size := (Array.getElem?_eq_some_iff.1 hoi).1
    have hik : i < k := by
      rcases Nat.lt_or_ge i k with h | h
      · exact h
      · have := hD.tail i oi hoi h m (by omega) listed (hcl _ _ _ inv) hi
        rw [hm2] at this
        cases this
    have hun' : listed.getD i false = false := by rw [← getD_bool (by rw [hls]; exact hilt)]; exact hun
    refine hstep listed a w i _ inv hi hik fun a' w' inv' => head_any' hD hcl hsz hstep hfin u _ a' w' ?_ inv'
    have hcount : ∀ (l : List Nat), l.Nodup → i ∈ l → (l.filter fun j => !listed.getD j false).length = ((l.filter fun j => !(listed.setIfInBounds i true).getD j false).length) + 1 := by
      intro l
      induction l with
      | nil => intro _ h; cases h
      | cons c r ih =>
        intro hn hmem
        simp only [List.nodup_cons] at hn
        by_cases hci : c = i
        · subst hci
          have hset : (listed.setIfInBounds c true).getD c false = true := by
            have : c < listed.size := by rw [hls]; exact hilt
            simp [this]
          have hrest : (r.filter fun j => !listed.getD j false) = r.filter fun j => !(listed.setIfInBounds c true).getD j false := by
            refine List.filter_congr fun j hj => ?_
            have : j ≠ c := fun h => hn.1 (h ▸ hj)
            rw [getD_set_ne false (Ne.symm this)]
          rw [List.filter_cons, List.filter_cons, hun', hset, hrest]
          simp
        · have hmem' : i ∈ r := by rcases List.mem_cons.1 hmem with h | h; exact absurd h.symm hci; exact h
          have := ih hn.2 hmem'
          rw [List.filter_cons, List.filter_cons, getD_set_ne false (Ne.symm hci)]
          split
          · simp only [List.length_cons]; omega
          · exact this
    have := hcount (List.range k) List.nodup_range (List.mem_range.2 hik)
    omega
/-! ### The private block -/
theorem envL_append {f : Nat → Bool} : ∀ (l1 l2 : List (Oper × AV)) (k : Nat) (env : List (Nat × AV)), envL f (l1 ++ l2) k env = envL f l2 (k + l1.length) (envL f l1 k env)
  | [], l2, k, env => by simp [envL]
  | (o, x) :: r, l2, k, env => by
    simp only [List.cons_append, envL, List.length_cons]
    rw [envL_append r l2 (k + 1)]
    congr 1
    omega
structure PB where
  ia : Nat
  is : Nat
  t : Nat
  m0 : MB
  m1 : MB
def SeqP (P : Program) (cx : Cx) (n : Nat) (ops : Array Oper) (H : Hp) (lx : List (Oper × AV)) (env : List (Nat × AV)) (q : PB) : Prop :=
  ∀ i o x, lx[i]? = some (o, x) →
    if i = q.ia then o.guard = none ∧ x = .any ∧ o.dst = some q.t ∧ q.t < n ∧ ∃ T, o.op = .alloc T ∧ zmb P T = some q.m0
    else if i = q.is then o.guard = none ∧ x = .any ∧ o.dst = none ∧ ∃ T y, o.op = .store T (.tmp q.t) y ∧ (og (envL (fun j => decide (j < i)) lx 0 env) y).1 ∧
      (stC P T q.m0 0 (og (envL (fun j => decide (j < i)) lx 0 env) y).2).1 ∧ (stC P T q.m0 0 (og (envL (fun j => decide (j < i)) lx 0 env) y).2).2 = q.m1
    else StdyE P cx n ops o (envL (fun j => decide (j < i)) lx 0 env) H x
structure DInvP (cx : Cx) (n : Nat) (ops : Array Oper) (lx : List (Oper × AV)) (env : List (Nat × AV)) (H : Hp) (q : PB) (listed : Array Bool) (a : Act) (w : World) : Prop where
  lsize : listed.size = ops.size
  ph : (listed.getD q.ia false = false ∧ listed.getD q.is false = false ∧ DInv cx n ops lx env H listed a w) ∨
    (listed.getD q.ia false = true ∧ ∃ b, fresh H b ∧ a.tmps.getD q.t undef = .pointer (some ⟨b, 0, none⟩) ∧ DInv cx n ops lx env ((b, if listed.getD q.is false then q.m1 else q.m0) :: H) listed a w)
theorem fresh_one {b : Nat} {m : MB} (h : fresh H b) : ∀ p ∈ [(b, m)], fresh H p.1 := by
  intro p hp
  simp at hp
  subst hp
  exact h
theorem dinvP_step {lx : List (Oper × AV)} {env : List (Nat × AV)} {q : PB} {listed : Array Bool} {a : Act} {w : World} {i : Nat} (hD : DrawOk ops lx.length) (hlx : ∀ (j : Nat) o x, lx[j]? = some (o, x) → ops[j]? = some o)
    (hS : SeqP P cx n ops H lx env q) (hsole : ∀ j o x, lx[j]? = some (o, x) → o.dst = some q.t → j = q.ia) (has : q.ia < q.is) (hal : q.ia < lx.length)
    (inv : DInvP cx n ops lx env H q listed a w) (hi : i ∈ Region.ready .any ops listed) (hik : i < lx.length) {R : Exit → Act → World → Prop} {X : Act → World → Prop}
    (hX : ∀ a' w', DInvP cx n ops lx env H q (listed.setIfInBounds i true) a' w' → X a' w') : wpOp P ops R i X a w := by
  obtain ⟨⟨o, x⟩, hp⟩ : ∃ p, lx[i] = p := ⟨_, rfl⟩
  have hli : lx[i]? = some (o, x) := by rw [List.getElem?_eq_getElem hik, hp]
  have hoi := hlx i o x hli
  have hSi := hS i o x hli
  have hilt : i < ops.size := (Array.getElem?_eq_some_iff.1 hoi).1
  have hset : ∀ j, (listed.setIfInBounds i true).getD j false = if j = i then true else listed.getD j false := by
    intro j
    by_cases hji : j = i
    · subst hji
      have : j < listed.size := by rw [inv.lsize]; exact hilt
      simp [this]
    · rw [if_neg hji, getD_set_ne false (Ne.symm hji)]
  have hls : (listed.setIfInBounds i true).size = ops.size := by simp [inv.lsize]
  by_cases hia : i = q.ia
  · rw [if_pos hia] at hSi
    obtain ⟨hg, rfl, hdt, htn, T, hop, hz⟩ := hSi
    rcases inv.ph with ⟨h1, h1', hinv⟩ | ⟨h1, _⟩
    · obtain ⟨z, hz1, hz2⟩ := zmb_spec (w := w) hz
      have hrun : (execOp a.eval o).run P w = .ok (.value (.pointer (some ⟨w.heap.size, 0, none⟩))) (w.alloc (.cells z.cells T)) := by
        simp only [execOp, hop, Sem.run_bind, run_alloc_of hz1, Result.andThen_ok, Sem.run_pure]
      have hm : MOk (w.alloc (.cells z.cells T)) (imm cx (w.alloc (.cells z.cells T)) ((w.heap.size, q.m0) :: H)) w.heap.size q.m0 :=
        hz2 _ _ _ (by rw [heap_alloc]; exact Array.getElem?_push_size)
      obtain ⟨hw', hI⟩ := hinv.ok.world.push (w' := w.alloc (.cells z.cells T)) (ob := .cells z.cells T) (m := q.m0) rfl rfl rfl rfl hm
      have hfr : fresh H w.heap.size := fun y hy => by have := keys_lt hinv.ok.world y hy; omega
      unfold wpOp
      rw [hoi]
      simp only
      rw [if_pos (by simp [Region.wanted, hg])]
      refine .inl ?_
      unfold Oper.wp
      rw [hrun]
      refine hX _ _ ⟨hls, .inr ⟨by rw [hset, if_pos hia.symm], w.heap.size, hfr, ?_, ?_⟩⟩
      · rw [hdt]
        have : q.t < a.tmps.size := by rw [hinv.ok.size]; exact htn
        simp [Act.put, this]
      · have hiss : (listed.setIfInBounds i true).getD q.is false = false := by rw [hset, if_neg (by omega)]; exact h1'
        rw [hiss]
        exact dinv_put hD hlx hinv hi hli (by rw [hdt]; exact htn) (.any _) hw' hI
    · have := (mem_ready.1 hi).1
      rw [getD_bool (by rw [inv.lsize]; exact hilt), hia, h1] at this
      cases this
  · rw [if_neg hia] at hSi
    by_cases his : i = q.is
    · rw [if_pos his] at hSi
      obtain ⟨hg, rfl, hdn, T, y, hop, hy1, hy2, hy3⟩ := hSi
      have halisted : listed.getD q.ia false = true := by
        obtain ⟨⟨oa, xa⟩, hpa⟩ : ∃ p, lx[q.ia] = p := ⟨_, rfl⟩
        have hla : lx[q.ia]? = some (oa, xa) := by rw [List.getElem?_eq_getElem hal, hpa]
        have hSa := hS q.ia oa xa hla
        rw [if_pos rfl] at hSa
        have hlk : q.t ∈ o.looksAt ops := by
          unfold Oper.looksAt
          rw [hop]
          exact List.mem_append_left _ (List.mem_filterMap.2 ⟨Operand.tmp q.t, by simp [Op.operands], rfl⟩)
        rcases hD.slot i q.ia o oa q.t hoi hal (hlx _ _ _ hla) hSa.2.2.1 (.inl hlk) (by omega) with ⟨_, h2⟩ | ⟨h1, _⟩
        · exact ready_waits hi hoi h2
        · omega
      rcases inv.ph with ⟨h1, _⟩ | ⟨h1, b, hfr, hb, hinv⟩
      · rw [h1] at halisted; cases halisted
      · have hun : listed.getD q.is false = false := by
          have := (mem_ready.1 hi).1
          rw [getD_bool (by rw [inv.lsize]; exact hilt), his] at this
          exact this
        rw [hun] at hinv
        simp only [Bool.false_eq_true, if_false] at hinv
        have hlook := dinv_look hD hlx hinv hi hli
        have hoeq : og (envL (fun j => listed.getD j false) lx 0 env) y = og (envL (fun j => decide (j < i)) lx 0 env) y := by
          refine og_congr (opd_congr fun t ht => ?_)
          subst ht
          exact hlook t (by unfold Oper.looksAt; rw [hop]; exact List.mem_append_left _ (List.mem_filterMap.2 ⟨Operand.tmp t, by simp [Op.operands], rfl⟩))
        have hrep := hinv.ok.og (x := y) (by simp only; rw [hoeq]; exact hy1)
        simp only [hoeq] at hrep
        obtain ⟨w', r1, r2, r3⟩ := run_store_of (P := P) (H := (b, q.m0) :: H) hinv.ok.world (b := b) (off := 0) (m := q.m0) (by simp [hget]) hrep hy2
        rw [hy3] at r2 r3
        simp only [hset, Proofs.Yteoajodoejoccaa.hset, if_true] at r2 r3
        have hrun : (execOp a.eval o).run P w = .ok .skip w' := by
          have he : a.eval (.tmp q.t) = .pointer (some ⟨b, 0, none⟩) := hb
          simp only [execOp, hop, Sem.run_bind, he, r1, Result.andThen_ok, Sem.run_pure]
        unfold wpOp
        rw [hoi]
        simp only
        rw [if_pos (by simp [Region.wanted, hg])]
        refine .inl ?_
        unfold Oper.wp
        rw [hrun]
        have hd := dinv_put (v := undef) hD hlx hinv hi hli (by rw [hdn]; trivial) (.any _) r2 r3
        have hpn : a.put o.dst undef = a := by rw [hdn]; rfl
        have hXX : X (a.put o.dst undef) w' := by
          refine hX _ _ ⟨hls, .inr ⟨by rw [hset, if_neg (by omega)]; exact h1, b, hfr, ?_, ?_⟩⟩
          · rw [hpn]; exact hb
          · have hiss : (listed.setIfInBounds i true).getD q.is false = true := by rw [hset, if_pos his.symm]
            rw [hiss, if_pos rfl]
            exact hd
        exact hXX
    · rw [if_neg his] at hSi
      have hnt : ∀ v, (a.put o.dst v).tmps.getD q.t undef = a.tmps.getD q.t undef := by
        intro v
        cases hdd : o.dst with
        | none => rfl
        | some d =>
          have : d ≠ q.t := fun h => hia (hsole i o x hli (by rw [hdd, h]))
          simp [Act.put, Array.getElem?_setIfInBounds_ne this]
      rcases inv.ph with ⟨h1, h1', hinv⟩ | ⟨h1, b, hfr, hb, hinv⟩
      · refine dinv_stepS hD hlx hli (by simpa using hSi [] (by simp)) hinv hi fun v w' hd => hX _ _ ⟨hls, .inl ⟨?_, ?_, hd⟩⟩
        · rw [hset, if_neg (by omega)]; exact h1
        · rw [hset, if_neg (by omega)]; exact h1'
      · refine dinv_stepS hD hlx hli (hSi _ (fresh_one hfr)) hinv hi fun v w' hd => hX _ _ ⟨hls, .inr ⟨?_, b, hfr, ?_, ?_⟩⟩
        · rw [hset, if_neg (by omega)]; exact h1
        · rw [hnt]; exact hb
        · have e : (listed.setIfInBounds i true).getD q.is false = listed.getD q.is false := by rw [hset, if_neg (fun h => his h.symm)]
          rw [e]; exact hd
def drawF (P : Program) (n : Nat) (l : List Oper) (K : St → Prop) (ia is k : Nat) (s : St) : Prop :=
  dvc P n l.toArray (l.take ia) (fun s1 => match l.drop ia with
    | ⟨some t, .alloc T, _, _, _, none⟩ :: r => match zmb P T with
      | some m0 => t < n ∧ dvc P n l.toArray (r.take (is - ia - 1)) (fun s2 => match r.drop (is - ia - 1) with
        | ⟨none, .store T' (.tmp t') y, _, _, _, none⟩ :: q => t' = t ∧ (og s2.env y).1 ∧ (stC P T' m0 0 (og s2.env y).2).1 ∧ dvc P n l.toArray (q.take (k - is - 1)) (fun s3 =>
            newB s3.H (stC P T' m0 0 (og s2.env y).2).2 fun b H => rvc P n l.toArray (q.drop (k - is - 1)) K ⟨(t, pt b 0) :: s3.env, H⟩) s2
        | _ => False) ⟨(t, .any) :: s1.env, s1.H⟩
      | none => False
    | _ => False) s
theorem envL_ext {f g : Nat → Bool} : ∀ (l : List (Oper × AV)) (k : Nat) (env : List (Nat × AV)), (∀ j, k ≤ j → j < k + l.length → f j = g j) → envL f l k env = envL g l k env
  | [], _, _, _ => rfl
  | (o, x) :: r, k, env, h => by
    simp only [envL]
    rw [h k (Nat.le_refl _) (by simp)]
    exact envL_ext r (k + 1) _ fun j h1 h2 => h j (by omega) (by simp; omega)
theorem envL_none {f : Nat → Bool} : ∀ (l : List (Oper × AV)) (k : Nat) (env : List (Nat × AV)), (∀ j, k ≤ j → f j = false) → envL f l k env = env
  | [], _, _, _ => rfl
  | (o, x) :: r, k, env, h => by
    simp only [envL]
    rw [h k (Nat.le_refl _)]
    simp only [Bool.false_eq_true, if_false]
    exact envL_none r (k + 1) env fun j hj => h j (by omega)
theorem envL_shiftk {f : Nat → Bool} (c : Nat) : ∀ (l : List (Oper × AV)) (k : Nat) (env : List (Nat × AV)), envL f l (c + k) env = envL (fun j => f (c + j)) l k env
  | [], _, _ => rfl
  | (o, x) :: r, k, env => by simp only [envL]; exact envL_shiftk c r (k + 1) _
def SeqG (C : Nat → Oper → AV → List (Nat × AV) → Prop) (lx : List (Oper × AV)) (env : List (Nat × AV)) : Prop :=
  ∀ i o x, lx[i]? = some (o, x) → C i o x (envL (fun j => decide (j < i)) lx 0 env)
theorem SeqG.app {C : Nat → Oper → AV → List (Nat × AV) → Prop} {A B : List (Oper × AV)} {env : List (Nat × AV)} (hA : SeqG C A env) (hB : SeqG (fun i => C (A.length + i)) B (envL (fun _ => true) A 0 env)) : SeqG C (A ++ B) env := by
  intro i o x hi
  rw [envL_append]
  by_cases hlt : i < A.length
  · rw [List.getElem?_append_left hlt] at hi
    rw [envL_none B _ _ (fun j hj => by simp; omega)]
    exact hA i o x hi
  · rw [List.getElem?_append_right (by omega)] at hi
    have := hB (i - A.length) o x hi
    dsimp only at this
    rw [show A.length + (i - A.length) = i by omega] at this
    have e1 : envL (fun j => decide (j < i)) A 0 env = envL (fun _ => true) A 0 env := envL_ext A 0 env fun j _ hj => by simp; omega
    rw [e1, Nat.zero_add, show A.length = A.length + 0 from rfl, envL_shiftk A.length B 0]
    have e2 : envL (fun j => decide (A.length + j < i)) B 0 (envL (fun _ => true) A 0 env) = envL (fun j => decide (j < i - A.length)) B 0 (envL (fun _ => true) A 0 env) :=
      envL_ext B 0 _ fun j _ _ => by rw [Bool.eq_iff_iff]; simp; omega
    rw [e2]
    exact this
theorem SeqG.one {C : Nat → Oper → AV → List (Nat × AV) → Prop} {o : Oper} {x : AV} {env : List (Nat × AV)} (h : C 0 o x env) : SeqG C [(o, x)] env := by
  intro i o' x' hi
  cases i with
  | zero => simp at hi; obtain ⟨rfl, rfl⟩ := hi; simpa [envL] using h
  | succ i => simp at hi
def soleB (l : List Oper) (ia is k : Nat) : Bool :=
  decide (ia < is) && decide (is < k) && decide (k ≤ l.length) && (List.range k).all fun j => decide (j = ia) || !((l[j]?).bind (·.dst) == (l[ia]?).bind (·.dst))
theorem WP.drawP {id k ia is : Nat} {l : List Oper} {Q : Exit → St → Prop} {s : St} (hm : P.follows .mixedOrders = true) (hB : drawB l.toArray k = true) (hA : soleB l ia is k = true)
    (h : drawF P n l (Q .normal) ia is k s) : WP P cx n (.region id l.toArray true) Q s := by
  intro a w ok
  have hD := drawB_spec hB
  unfold soleB at hA
  simp only [Bool.and_eq_true, decide_eq_true_eq] at hA
  obtain ⟨⟨⟨has, hisk⟩, hkl⟩, hso⟩ := hA
  obtain ⟨xs1, x1, S1, K1⟩ := dvc_seqvE (cx := cx) _ _ h
  simp only at K1
  split at K1
  case h_2 => exact K1.elim
  rename_i t T ty1 p1 af1 r hr
  split at K1
  case h_2 => exact K1.elim
  rename_i m0 hz
  obtain ⟨htn, K1⟩ := K1
  obtain ⟨xs2, x2, S2, K2⟩ := dvc_seqvE (cx := cx) _ _ K1
  simp only at K2 S2
  split at K2
  case h_2 => exact K2.elim
  rename_i T' t' y ty2 p2 af2 q hq
  obtain ⟨rfl, hy1, hy2, K2⟩ := K2
  obtain ⟨xs3, x3, S3, K3⟩ := dvc_seqvE (cx := cx) _ _ K2
  simp only at K3 S3
  obtain ⟨al, hal⟩ : ∃ al : Oper, al = ⟨some t', .alloc T, ty1, p1, af1, none⟩ := ⟨_, rfl⟩
  obtain ⟨st, hst⟩ : ∃ st : Oper, st = ⟨none, .store T' (.tmp t') y, ty2, p2, af2, none⟩ := ⟨_, rfl⟩
  rw [← hal] at hr
  rw [← hst] at hq
  generalize hA1 : (l.take ia).zip xs1 = A1 at S1 K1 K2 K3 S2 S3 hy1 hy2
  generalize hA2 : (r.take (is - ia - 1)).zip xs2 = A2 at S2 K2 K3 S3 hy1 hy2
  generalize hA3 : (q.take (k - is - 1)).zip xs3 = A3 at S3 K3
  have hlr : r.length = l.length - ia - 1 := by have := congrArg List.length hr; simp at this; omega
  have hlq : q.length = l.length - is - 1 := by have := congrArg List.length hq; simp at this; omega
  have l1 : A1.length = ia := by rw [← hA1]; simp [x1]; omega
  have l2 : A2.length = is - ia - 1 := by rw [← hA2]; simp [x2]; omega
  have l3 : A3.length = k - is - 1 := by rw [← hA3]; simp [x3]; omega
  have f1 : A1.map (·.1) = l.take ia := by rw [← hA1]; exact List.map_fst_zip (by omega)
  have f2 : A2.map (·.1) = r.take (is - ia - 1) := by rw [← hA2]; exact List.map_fst_zip (by omega)
  have f3 : A3.map (·.1) = q.take (k - is - 1) := by rw [← hA3]; exact List.map_fst_zip (by omega)
  obtain ⟨lx, hlxe⟩ : ∃ lx, lx = A1 ++ ([(al, AV.any)] ++ (A2 ++ ([(st, AV.any)] ++ A3))) := ⟨_, rfl⟩
  have hfst : lx.map (·.1) = l.take k := by
    have e1 : l.take k = l.take ia ++ (l.drop ia).take (k - ia) := by rw [← List.take_add]; congr 1; omega
    have e2 : (al :: r).take (k - ia) = al :: r.take (k - ia - 1) := by rw [show k - ia = (k - ia - 1) + 1 by omega]; rfl
    have e3 : r.take (k - ia - 1) = r.take (is - ia - 1) ++ (r.drop (is - ia - 1)).take (k - is) := by rw [← List.take_add]; congr 1; omega
    have e4 : (st :: q).take (k - is) = st :: q.take (k - is - 1) := by rw [show k - is = (k - is - 1) + 1 by omega]; rfl
    rw [e1, hr, e2, e3, hq, e4, hlxe]
    simp [f1, f2, f3]
  have hlen : lx.length = k := by have := congrArg List.length hfst; simp at this; omega
  have hlx : ∀ (j : Nat) o x, lx[j]? = some (o, x) → l.toArray[j]? = some o := by
    intro j o x hj
    have h1 : (lx.map (·.1))[j]? = some o := by rw [List.getElem?_map, hj]; rfl
    rw [hfst, List.getElem?_take] at h1
    split at h1
    · simpa using h1
    · cases h1
  have hdrop : q.drop (k - is - 1) = l.drop k := by
    have e1 : l.drop k = (l.drop ia).drop (k - ia) := by rw [List.drop_drop]; congr 1; omega
    have e2 : (al :: r).drop (k - ia) = r.drop (k - ia - 1) := by rw [show k - ia = (k - ia - 1) + 1 by omega]; rfl
    have e3 : r.drop (k - ia - 1) = (r.drop (is - ia - 1)).drop (k - is) := by rw [List.drop_drop]; congr 1; omega
    have e4 : (st :: q).drop (k - is) = q.drop (k - is - 1) := by rw [show k - is = (k - is - 1) + 1 by omega]; rfl
    rw [e1, hr, e2, e3, hq, e4]
  have henvA : envL (fun _ => true) (A2 ++ ([(st, AV.any)] ++ A3)) 0 ((t', AV.any) :: envL (fun _ => true) A1 0 s.env) = envL (fun _ => true) A3 0 (envL (fun _ => true) A2 0 ((t', AV.any) :: envL (fun _ => true) A1 0 s.env)) := by
    rw [envL_append, envL_append, Nat.zero_add]
    simp only [envL, if_true, hst, putE]
    rw [show A2.length + [(({ dst := none, op := .store T' (.tmp t') y, type := ty2, pos := p2, after := af2, guard := none } : Oper), AV.any)].length = A2.length + 1 + 0 from rfl, envL_shiftk (A2.length + 1) A3 0]
  obtain ⟨pb, hpb⟩ : ∃ pb : PB, pb = ⟨ia, is, t', m0, (stC P T' m0 0 (og (envL (fun _ => true) A2 0 ((t', AV.any) :: envL (fun _ => true) A1 0 s.env)) y).2).2⟩ := ⟨_, rfl⟩
  have hSP : SeqP P cx n l.toArray s.H lx s.env pb := by
    show SeqG (fun i o x env => if i = pb.ia then o.guard = none ∧ x = .any ∧ o.dst = some pb.t ∧ pb.t < n ∧ ∃ T, o.op = .alloc T ∧ zmb P T = some pb.m0
      else if i = pb.is then o.guard = none ∧ x = .any ∧ o.dst = none ∧ ∃ T y, o.op = .store T (.tmp pb.t) y ∧ (og env y).1 ∧ (stC P T pb.m0 0 (og env y).2).1 ∧ (stC P T pb.m0 0 (og env y).2).2 = pb.m1
      else StdyE P cx n l.toArray o env s.H x) lx s.env
    rw [hlxe]
    refine SeqG.app (fun i o x hi => ?_) (SeqG.app (SeqG.one ?_) (SeqG.app (fun i o x hi => ?_) (SeqG.app (SeqG.one ?_) fun i o x hi => ?_)))
    · have hlt := (List.getElem?_eq_some_iff.1 hi).1
      try dsimp only
      rw [if_neg (by rw [hpb]; simp only; omega), if_neg (by rw [hpb]; simp only; omega)]
      exact S1 i o x hi
    · try dsimp only
      rw [if_pos (by rw [hpb]; simp only; omega), hpb, hal]
      exact ⟨rfl, rfl, rfl, htn, T, rfl, hz⟩
    · have hlt := (List.getElem?_eq_some_iff.1 hi).1
      try dsimp only
      rw [if_neg (by rw [hpb]; simp; omega), if_neg (by rw [hpb]; simp; omega)]
      have := S2 i o x hi
      simp only [envL, if_true, hal, putE] at this ⊢
      exact this
    · try dsimp only
      rw [if_neg (by rw [hpb]; simp; omega), if_pos (by rw [hpb]; simp; omega), hpb, hst]
      refine ⟨rfl, rfl, rfl, T', y, rfl, ?_⟩
      simp only [envL, if_true, hal, putE]
      first | exact ⟨hy1, hy2, rfl⟩ | exact ⟨hy1, hy2, trivial⟩ | exact ⟨hy1, hy2⟩
    · have hlt := (List.getElem?_eq_some_iff.1 hi).1
      try dsimp only
      rw [if_neg (by rw [hpb]; simp; omega), if_neg (by rw [hpb]; simp; omega)]
      have := S3 i o x hi
      simp only [envL, if_true, hal, hst, putE] at this ⊢
      exact this
  have hsole : ∀ j o x, lx[j]? = some (o, x) → o.dst = some pb.t → j = pb.ia := by
    intro j o x hj hd
    have hjk : j < k := by have := (List.getElem?_eq_some_iff.1 hj).1; omega
    have h1 := List.all_eq_true.1 hso j (List.mem_range.2 hjk)
    have h2 : l[j]? = some o := by simpa using hlx j o x hj
    have h3 : l[ia]? = some al := by
      have : (l.drop ia)[0]? = some al := by rw [hr]; rfl
      simpa using this
    rw [h2, h3] at h1
    simp only [Option.bind_some, hd, hpb, hal, beq_self_eq_true, Bool.not_true, Bool.or_false, decide_eq_true_eq] at h1
    rw [h1, hpb]
  rw [← hlen] at hD
  refine wp_region_any hm ?_
  have ok' : Ok cx n s a { w with drawn := w.drawn + 1 } := by
    have hIw : ∀ b, imm cx w s.H b → imm cx { w with drawn := w.drawn + 1 } s.H b ∧ ({ w with drawn := w.drawn + 1 } : World).heap[b]? = w.heap[b]? := fun b hb => ⟨hb, rfl⟩
    refine ⟨ok.defers, ok.size, fun i => (ok.reps i).mono hIw, ⟨ok.world.nodup, ok.world.keys, fun x hx => (ok.world.mem x hx).mono hIw rfl, ⟨ok.world.ext.os, ok.world.ext.tape, ok.world.ext.output, ok.world.ext.size, ok.world.ext.blk⟩, ok.world.ro⟩⟩
  have henv0 : envL (fun j => (Array.replicate l.toArray.size false).getD j false) lx 0 s.env = s.env := envL_none _ _ _ fun j _ => getD_rep_false _ _
  have inv0 : DInvP cx n l.toArray lx s.env s.H pb (Array.replicate l.toArray.size false) a { w with drawn := w.drawn + 1 } := by
    refine ⟨by simp, .inl ⟨getD_rep_false _ _, getD_rep_false _ _, ⟨by simp, fun j oj _ hl => ?_, fun t _ ht => ?_, ?_⟩⟩⟩
    · rw [getD_rep_false] at hl; cases hl
    · have : t < l.length := by simpa using ht
      simp [this]
    · rw [henv0]; exact ok'
  have hia : pb.ia = ia := by rw [hpb]
  have his : pb.is = is := by rw [hpb]
  have htt : pb.t = t' := by rw [hpb]
  have hfin : ∀ listed a w, DInvP cx n l.toArray lx s.env s.H pb listed a w → (∀ j, j < lx.length → listed.getD j false = true) →
      wpAny P .any l.toArray (fun e a' w' => ∃ s', Q e s' ∧ Ok cx n s' a' w') (l.drop k).length listed a w := by
    intro listed a w inv hall
    rcases inv.ph with ⟨g1, _⟩ | ⟨_, b, hfr, hb, hinv⟩
    · rw [hia, hall ia (by omega)] at g1; cases g1
    · rw [his, hall is (by omega), if_pos rfl] at hinv
      have henv : ∀ t, look (envL (fun j => listed.getD j false) lx 0 s.env) t = look (envL (fun _ => true) A3 0 (envL (fun _ => true) A2 0 ((t', AV.any) :: envL (fun _ => true) A1 0 s.env))) t := by
        intro t
        have e1 : envL (fun j => listed.getD j false) lx 0 s.env = envL (fun _ => true) lx 0 s.env := envL_ext lx 0 _ fun j _ hj => hall j (by omega)
        rw [e1, ← henvA, hlxe, envL_append, envL_append, Nat.zero_add]
        simp only [envL, if_true, hal, putE]
        rw [show A1.length + [(({ dst := some t', op := .alloc T, type := ty1, pos := p1, after := af1, guard := none } : Oper), AV.any)].length = A1.length + 1 + 0 from rfl, envL_shiftk (A1.length + 1) _ 0]
      have hok : Ok cx n ⟨(t', pt b 0) :: envL (fun _ => true) A3 0 (envL (fun _ => true) A2 0 ((t', AV.any) :: envL (fun _ => true) A1 0 s.env)), (b, pb.m1) :: s.H⟩ a w := by
        refine ⟨hinv.ok.defers, hinv.ok.size, fun t => ?_, hinv.ok.world⟩
        simp only [look]
        split
        · rename_i ht
          rw [ht, ← htt, hb]
          exact .lit _
        · have := hinv.ok.reps t
          simp only [henv t] at this
          exact this
      have hK := (K3.out b).out hfr
      rw [hdrop] at hK
      have hm1 : pb.m1 = (stC P T' m0 0 (og (envL (fun _ => true) A2 0 ((t', AV.any) :: envL (fun _ => true) A1 0 s.env)) y).2).2 := by rw [hpb]
      rw [hm1] at hok
      have hwl := rvc_sound (cx := cx) _ _ hK (fun e a' w' => ∃ s', Q e s' ∧ Ok cx n s' a' w') (fun s' a' w' hk ok' => ⟨s', hk, ok'⟩) a w hok
      refine tail_any (k0 := k) (by rw [hlen] at hD; exact hD) (l.drop k) k listed a w (Nat.le_refl _) (fun j => by simp [List.getElem?_drop]) (by simp; omega) inv.lsize (fun j hj => ?_) hwl
      by_cases hjk : j < k
      · rw [hall j (by omega)]; simp [hjk]
      · have := hinv.tail j (by omega) hj
        rw [getD_bool (by rw [inv.lsize]; exact hj)] at this
        rw [this]; simp; omega
  have hcount : ((List.range lx.length).filter fun i => !(Array.replicate l.toArray.size false).getD i false).length = k := by
    rw [hlen]
    have : ((List.range k).filter fun i => !(Array.replicate l.toArray.size false).getD i false) = List.range k := by
      rw [List.filter_eq_self]
      intro j _
      rw [getD_rep_false]
      rfl
    rw [this]; simp
  have := head_any' hD (fun _ _ _ inv => by rcases inv.ph with ⟨_, _, h⟩ | ⟨_, b, _, _, h⟩ <;> exact h.closed) (fun _ _ _ inv => inv.lsize) (fun listed a w i X inv hi hik hX => dinvP_step hD hlx hSP hsole (by rw [hia, his]; exact has) (by rw [hia]; omega) inv hi hik hX) hfin k _ a _ hcount inv0
  have hN : k + (l.drop k).length = l.toArray.size := by simp; omega
  rw [hN] at this
  exact this
end
end Go.Proofs.Yteoajodoejoccaa
namespace Go.Proofs.Yteoajodoejoccaa
open Go
set_option linter.unusedSimpArgs false
set_option linter.unusedVariables false
inductive Ty where
  | int (k : IntKind)
  | bool
  | str
  | row (k : IntKind)
  | sl (e : Ty)
  | st (fs : List Ty)
mutual
def Shp : Ty → List AV → Prop
  | .int k, xs => ∃ n, xs = [iv k n] ∧ (Lit.int k n).wf = true
  | .bool, xs => ∃ b, xs = [bv b]
  | .str, xs => ∃ s, xs = [.lit (.string s)] ∧ s.size ≤ maxLen
  | .row k, xs => ∃ zs : List Int, xs = [.slz k zs] ∧ ∀ n ∈ zs, (Lit.int k n).wf = true
  | .sl e, xs => ∃ rows : List (List AV), xs = [.sl rows.length rows.flatten] ∧ ∀ r ∈ rows, Shp e r
  | .st fs, xs => ShpL fs xs
def ShpL : List Ty → List AV → Prop
  | [], xs => xs = []
  | t :: ts, xs => ∃ a b, xs = a ++ b ∧ Shp t a ∧ ShpL ts b
end
def fsOk (P : Program) (r : TypeId → Ty → Bool) (total : Nat) : Nat → List Field → List Ty → Bool
  | off, [], [] => off == total
  | off, f :: fs, t :: ts => f.offset == off && r f.type t && fsOk P r total (off + P.cellsOf f.type) fs ts
  | _, _, _ => false
def tyOk (P : Program) : Nat → TypeId → Ty → Bool
  | 0, _, _ => false
  | d + 1, T, ty => match P.underlying T with
    | some (.int k) => match ty with
      | .int k' => decide (k = k') && P.cellsOf T == 1
      | _ => false
    | some .bool => match ty with
      | .bool => P.cellsOf T == 1
      | _ => false
    | some .string => match ty with
      | .str => P.cellsOf T == 1
      | _ => false
    | some (.slice e) => match ty with
      | .row k => (match P.underlying e with
        | some (.int k') => decide (k = k')
        | _ => false) && P.cellsOf e == 1 && P.cellsOf T == 1
      | .sl ety => tyOk P d e ety && P.cellsOf T == 1
      | _ => false
    | some (.struct fs) => match ty with
      | .st tys => fsOk P (tyOk P d) (P.cellsOf T) 0 fs.toList tys
      | _ => false
    | _ => false
theorem mapM_some {α β : Type} {f : α → Option β} : ∀ {l : List α} {ys : List β}, l.mapM f = some ys → ys.length = l.length ∧ ∀ i (h : i < l.length) (h' : i < ys.length), f l[i] = some ys[i]
  | [], ys, h => by
    simp at h
    subst h
    exact ⟨rfl, fun i h => by simp at h⟩
  | x :: r, ys, h => by
    rw [List.mapM_cons] at h
    cases hx : f x with
    | none => rw [hx] at h; simp at h
    | some y =>
      rw [hx] at h
      cases hr : r.mapM f with
      | none => rw [hr] at h; simp at h
      | some zs =>
        rw [hr] at h
        simp at h
        subst h
        obtain ⟨h1, h2⟩ := mapM_some hr
        refine ⟨by simp [h1], fun i hi hi' => ?_⟩
        cases i with
        | zero => simpa using hx
        | succ i => simpa using h2 i (by simpa using hi) (by simpa using hi')
theorem flatten_get {sz : Nat} : ∀ {rows : List (List AV)}, (∀ r ∈ rows, r.length = sz) → rows.flatten.length = rows.length * sz ∧ ∀ i j (hi : i < rows.length) (hj : j < sz), rows.flatten.getD (i * sz + j) .any = (rows.getD i []).getD j .any
  | [], _ => ⟨by simp, fun i j hi => by simp at hi⟩
  | r :: rs, h => by
    have hr := h r (List.mem_cons_self ..)
    obtain ⟨h1, h2⟩ := flatten_get (rows := rs) fun q hq => h q (List.mem_cons_of_mem _ hq)
    refine ⟨by simp [h1, hr, Nat.succ_mul]; omega, fun i j hi hj => ?_⟩
    cases i with
    | zero =>
      simp only [List.flatten_cons, Nat.zero_mul, Nat.zero_add, List.getD, List.getElem?_cons_zero, Option.getD_some]
      rw [List.getElem?_append_left (by omega)]
    | succ i =>
      have := h2 i j (by simpa using hi) hj
      simp only [List.flatten_cons, List.getD] at this ⊢
      rw [List.getElem?_append_right (by rw [hr, Nat.succ_mul]; omega)]
      rw [show (i + 1) * sz + j - r.length = i * sz + j by rw [hr, Nat.succ_mul]; omega]
      simpa using this
section
variable {H : Type} {enc : TypeId × Value → H} {P : Program} {w : World} {spare : Nat → Bool} {held : Bool}
def Opens (w : World) (ty : Ty) (sz : Nat) (cs : List Value) : Prop :=
  ∃ xs, Shp ty xs ∧ xs.length = sz ∧ cs.length = sz ∧ ∀ i (hi : i < xs.length), Rep w (fun b => b < w.heap.size) (cs.getD i undef) xs[i]
theorem cells?_some {a : Addr} {n : Nat} {cs : List Value} (h : w.cells? 0 a n = some cs) : cs.length = n ∧ ∀ j, j < n → w.cell? (a.add j) = some (cs.getD j undef) := by
  unfold World.cells? at h
  rw [if_pos (Nat.zero_le _)] at h
  obtain ⟨h1, h2⟩ := mapM_some h
  simp only [List.length_range] at h1
  refine ⟨h1, fun j hj => ?_⟩
  have := h2 j (by simpa using hj) (by omega)
  simp only [List.getElem_range] at this
  rw [this]
  simp [List.getD, show j < cs.length by omega]
theorem add_at {a : Addr} {v : Value} (h : w.cell? (a.add 0) = some v) : a.block < w.heap.size ∧ ∃ b off, a = ⟨b, off, none⟩ := by
  have := World.cell?_lt h
  unfold Addr.add at this
  rw [if_pos rfl] at this
  obtain ⟨h1, h2⟩ := this
  obtain ⟨b, off, sp⟩ := a
  simp only at h1 h2
  subst h2
  exact ⟨h1, b, off, rfl⟩
theorem opens_elems {e : TypeId} {fuel len : Nat} {a : Addr} {elems : List (DataW H × List MemPlace)} {Q : Nat → List Value → Prop} (hc : 0 < P.cellsOf e)
    (hm : ((List.range len).mapM fun i => (w.cells? 0 (a.add (i * P.cellsOf e)) (P.cellsOf e)).bind (DataW.trod enc P w 0 spare held fuel e)) = some elems)
    (hQ : ∀ (i : Nat) (cs : List Value) (r : DataW H × List MemPlace), DataW.trod enc P w 0 spare held fuel e cs = some r → Q i cs) :
    len = 0 ∨ ∃ b off, a = ⟨b, off, none⟩ ∧ b < w.heap.size ∧ ∀ i, i < len → ∃ cs, cs.length = P.cellsOf e ∧ Q i cs ∧ ∀ j, j < P.cellsOf e → w.cell? ⟨b, off + (i * P.cellsOf e + j), none⟩ = some (cs.getD j undef) := by
  obtain ⟨h1, h2⟩ := mapM_some hm
  have hel : ∀ i, i < len → ∃ cs, cs.length = P.cellsOf e ∧ Q i cs ∧ ∀ j, j < P.cellsOf e → w.cell? ((a.add (i * P.cellsOf e)).add j) = some (cs.getD j undef) := by
    intro i hi
    have := h2 i (by simpa using hi) (by simp at h1; omega)
    simp only [List.getElem_range] at this
    cases hc : w.cells? 0 (a.add (i * P.cellsOf e)) (P.cellsOf e) with
    | none => rw [hc] at this; simp at this
    | some cs =>
      rw [hc] at this
      obtain ⟨g1, g2⟩ := cells?_some hc
      exact ⟨cs, g1, hQ i cs _ this, g2⟩
  by_cases h0 : len = 0
  · exact .inl h0
  · obtain ⟨cs0, _, _, g⟩ := hel 0 (by omega)
    have g0 := g 0 hc
    rw [Nat.zero_mul] at g0
    have g0' : w.cell? (a.add 0) = some (cs0.getD 0 undef) := by
      have : (a.add 0).add 0 = a.add 0 := by simp [Addr.add]
      rw [this] at g0
      exact g0
    obtain ⟨hb, b, off, rfl⟩ := add_at g0'
    refine .inr ⟨b, off, rfl, hb, fun i hi => ?_⟩
    obtain ⟨cs, c1, c2, c3⟩ := hel i hi
    refine ⟨cs, c1, c2, fun j hj => ?_⟩
    have := c3 j hj
    rw [Addr.add_none, Addr.add_none] at this
    rw [← Nat.add_assoc]
    exact this
theorem choose_list {α : Type} {R : Nat → α → Prop} : ∀ (n : Nat), (∀ i, i < n → ∃ x, R i x) → ∃ l : List α, l.length = n ∧ ∀ i (h : i < l.length), R i l[i]
  | 0, _ => ⟨[], rfl, fun i h => by simp at h⟩
  | n + 1, h => by
    obtain ⟨l, h1, h2⟩ := choose_list n fun i hi => h i (by omega)
    obtain ⟨x, hx⟩ := h n (by omega)
    refine ⟨l ++ [x], by simp [h1], fun i hi => ?_⟩
    by_cases hlt : i < l.length
    · rw [List.getElem_append_left hlt]; exact h2 i hlt
    · rw [List.getElem_append_right (by omega)]
      have : i = n := by simp at hi; omega
      subst this
      simpa [h1] using hx
theorem opens_fields {d : Nat} (ih : ∀ (ty : Ty) (T : TypeId) (fuel : Nat) (cs : List Value) (r : DataW H × List MemPlace), tyOk P d T ty = true → DataW.trod enc P w 0 spare held fuel T cs = some r → Opens w ty (P.cellsOf T) cs)
    {cs : List Value} {fuel total : Nat} (hcs : cs.length = total) : ∀ (fs : List Field) (tys : List Ty) (off : Nat) (rs : List (DataW H × List MemPlace)), fsOk P (tyOk P d) total off fs tys = true →
      (fs.mapM fun f => DataW.trod enc P w 0 spare held fuel f.type ((cs.drop f.offset).take (P.cellsOf f.type))) = some rs → off ≤ total ∧ ∃ xs, ShpL tys xs ∧ xs.length = total - off ∧ ∀ i (hi : i < xs.length), Rep w (fun b => b < w.heap.size) (cs.getD (off + i) undef) xs[i]
  | [], [], off, rs, h, _ => by
    simp only [fsOk, beq_iff_eq] at h
    refine ⟨by omega, [], by simp [ShpL], by simp; omega, fun i hi => by simp at hi⟩
  | f :: fs, t :: ts, off, rs, h, hr => by
    simp only [fsOk, Bool.and_eq_true, beq_iff_eq] at h
    obtain ⟨⟨h1, h2⟩, h3⟩ := h
    rw [List.mapM_cons] at hr
    cases hx : DataW.trod enc P w 0 spare held fuel f.type ((cs.drop f.offset).take (P.cellsOf f.type)) with
    | none => rw [hx] at hr; simp at hr
    | some y =>
      rw [hx] at hr
      cases hrr : (fs.mapM fun f => DataW.trod enc P w 0 spare held fuel f.type ((cs.drop f.offset).take (P.cellsOf f.type))) with
      | none => rw [hrr] at hr; simp at hr
      | some zs =>
        obtain ⟨hle, xs2, s2, l2, r2⟩ := opens_fields ih hcs fs ts _ zs h3 hrr
        obtain ⟨xs1, s1, l1, c1, r1⟩ := ih t f.type fuel _ y h2 hx
        refine ⟨by omega, xs1 ++ xs2, ⟨xs1, xs2, rfl, s1, s2⟩, by simp [l1, l2]; omega, fun i hi => ?_⟩
        by_cases hlt : i < xs1.length
        · rw [List.getElem_append_left hlt]
          have := r1 i hlt
          have e : ((cs.drop f.offset).take (P.cellsOf f.type)).getD i undef = cs.getD (off + i) undef := by
            simp only [List.getD, List.getElem?_take, List.getElem?_drop, h1]
            rw [if_pos (by omega)]
          rw [e] at this
          exact this
        · rw [List.getElem_append_right (by omega)]
          have hi2 : i - xs1.length < xs2.length := by simp at hi; omega
          have := r2 (i - xs1.length) hi2
          rw [show off + P.cellsOf f.type + (i - xs1.length) = off + i by omega] at this
          exact this
  | [], _ :: _, _, _, h, _ => by simp [fsOk] at h
  | _ :: _, [], _, _, h, _ => by simp [fsOk] at h
theorem opens : ∀ (d : Nat) (ty : Ty) (T : TypeId) (fuel : Nat) (cs : List Value) (r : DataW H × List MemPlace), tyOk P d T ty = true → DataW.trod enc P w 0 spare held fuel T cs = some r → Opens w ty (P.cellsOf T) cs
  | 0, _, _, _, _, _, h, _ => by simp [tyOk] at h
  | d + 1, ty, T, 0, cs, r, _, hr => by simp [DataW.trod] at hr
  | d + 1, ty, T, fuel + 1, cs, r, h, hr => by
    have ih := opens d
    rw [DataW.trod_step] at hr
    unfold tyOk at h
    unfold DataW.trodStep at hr
    cases hu : P.underlying T with
    | none => rw [hu] at h; cases h
    | some td =>
      rw [hu] at h hr
      cases td with
      | int k =>
        cases ty <;> simp only at h <;> try (cases h)
        rename_i k'
        simp only [Bool.and_eq_true, decide_eq_true_eq, beq_iff_eq] at h
        obtain ⟨rfl, hc⟩ := h
        split at hr <;> first | (rename_i he _; cases he; done) | skip
        all_goals (first | (simp at *; done) | skip)
        rename_i k2 k3 n heq
        simp only [Option.some.injEq, TypeDesc.int.injEq] at heq
        subst heq
        split at hr
        · rename_i hk
          obtain ⟨rfl, hwf⟩ := hk
          exact ⟨[iv k3 n], ⟨n, rfl, hwf⟩, by simp [hc], by simp [hc], fun i hi => by
            have : i = 0 := by simp at hi; omega
            subst this
            exact .lit _⟩
        · cases hr
      | bool =>
        cases ty <;> simp only at h <;> try (cases h)
        simp only [beq_iff_eq] at h
        split at hr <;> first | (simp at *; done) | skip
        all_goals (first | (simp_all; done) | skip)
        rename_i b heq
        exact ⟨[bv b], ⟨b, rfl⟩, by simp [h], by simp [h], fun i hi => by
          have : i = 0 := by simp at hi; omega
          subst this
          exact .lit _⟩
      | string =>
        cases ty <;> simp only at h <;> try (cases h)
        simp only [beq_iff_eq] at h
        split at hr <;> first | (simp at *; done) | skip
        all_goals (first | (simp_all; done) | skip)
        rename_i s heq
        split at hr
        · rename_i hs
          exact ⟨[.lit (.string s)], ⟨s, rfl, hs⟩, by simp [h], by simp [h], fun i hi => by
            have : i = 0 := by simp at hi; omega
            subst this
            exact .lit _⟩
        · cases hr
      | slice e =>
        have hcs : (cs = [.slice none 0 0]) ∨ ∃ a len cap elems, cs = [.slice (some a) len cap] ∧ len ≤ cap ∧ cap ≤ maxLen ∧
            ((List.range len).mapM fun i => (w.cells? 0 (a.add (i * P.cellsOf e)) (P.cellsOf e)).bind (DataW.trod enc P w 0 spare held fuel e)) = some elems := by
          split at hr <;> first | (exfalso; simp at *; done) | skip
          all_goals (first | (left; rfl) | skip)
          all_goals (first | (exfalso; simp_all; done) | skip)
          rename_i e' a len cap heq
          simp only [Option.some.injEq, TypeDesc.slice.injEq] at heq
          subst heq
          split at hr
          · rename_i hk
            cases hm : ((List.range len).mapM fun i => (w.cells? 0 (a.add (i * P.cellsOf e)) (P.cellsOf e)).bind (DataW.trod enc P w 0 spare held fuel e)) with
            | none => simp [hm] at hr
            | some elems => exact .inr ⟨a, len, cap, elems, rfl, hk.2.1, hk.2.2, hm⟩
          · cases hr
        cases ty <;> simp only at h <;> try (cases h)
        · rename_i k
          simp only [Bool.and_eq_true, beq_iff_eq] at h
          obtain ⟨⟨h1, h2⟩, h3⟩ := h
          have hue : P.underlying e = some (.int k) := by
            split at h1
            · rename_i k' hk; rw [hk]; simp at h1; rw [h1]
            · cases h1
          rcases hcs with rfl | ⟨a, len, cap, elems, rfl, hl, hm, hel⟩
          · exact ⟨[.slz k []], ⟨[], rfl, by simp⟩, by simp [h3], by simp [h3], fun i hi => by
              have : i = 0 := by simp at hi; omega
              subst this
              exact Rep.nilz (.lit _)⟩
          · have hz : ∃ zs : List Int, zs.length = len ∧ (∀ n ∈ zs, (Lit.int k n).wf = true) ∧ Spot w (fun b => b < w.heap.size) (some a) zs.length (fun i => .int k (zs.getD i 0)) := by
              rcases opens_elems (Q := fun _ cs => ∃ n, cs = [.int k n] ∧ (Lit.int k n).wf = true) (by omega) hel (fun i cs r htr => by
                cases fuel with
                | zero => simp [DataW.trod] at htr
                | succ fuel =>
                  rw [DataW.trod_step] at htr
                  unfold DataW.trodStep at htr
                  rw [hue] at htr
                  split at htr <;> first | (exfalso; simp at *; done) | skip
                  all_goals (first | (exfalso; simp_all; done) | skip)
                  rename_i k2 k3 n heq
                  simp only [Option.some.injEq, TypeDesc.int.injEq] at heq
                  subst heq
                  split at htr
                  · rename_i hk
                    obtain ⟨rfl, hwf⟩ := hk
                    exact ⟨n, rfl, hwf⟩
                  · cases htr) with h0 | ⟨b, off, rfl, hb, hall⟩
              · exact ⟨[], by simp [h0], by simp, .inl rfl⟩
              · obtain ⟨zs, z1, z2⟩ := choose_list (R := fun i n => (Lit.int k n).wf = true ∧ w.cell? ⟨b, off + i, none⟩ = some (.int k n)) len fun i hi => by
                  obtain ⟨cs, c1, ⟨n, rfl, hwf⟩, c3⟩ := hall i hi
                  have := c3 0 (by omega)
                  rw [h2] at this
                  exact ⟨n, hwf, by simpa using this⟩
                refine ⟨zs, z1, fun n hn => ?_, .inr ⟨b, off, rfl, hb, fun i hi => ?_⟩⟩
                · obtain ⟨i, hi, rfl⟩ := List.getElem_of_mem hn
                  exact (z2 i hi).1
                · rw [(z2 i hi).2]
                  simp [List.getD, hi]
            obtain ⟨zs, z1, z2, z3⟩ := hz
            refine ⟨[.slz k zs], ⟨zs, rfl, z2⟩, by simp [h3], by simp [h3], fun i hi => ?_⟩
            have : i = 0 := by simp at hi; omega
            subst this
            have := Rep.slz (some a) k zs cap (by omega) hm z3
            rw [z1] at this
            exact this
        · rename_i ety
          simp only [Bool.and_eq_true, beq_iff_eq] at h
          obtain ⟨h1, h3⟩ := h
          rcases hcs with rfl | ⟨a, len, cap, elems, rfl, hl, hm, hel⟩
          · exact ⟨[.sl 0 []], ⟨[], rfl, by simp⟩, by simp [h3], by simp [h3], fun i hi => by
              have : i = 0 := by simp at hi; omega
              subst this
              exact Rep.nils (.lit _)⟩
          · by_cases hc0 : P.cellsOf e = 0
            · obtain ⟨m1, m2⟩ := mapM_some hel
              have hrows : ∀ i, i < len → ∃ xs : List AV, Shp ety xs ∧ xs.length = 0 := fun i hi => by
                have := m2 i (by simpa using hi) (by simp at m1; omega)
                simp only [List.getElem_range] at this
                cases hcc : w.cells? 0 (a.add (i * P.cellsOf e)) (P.cellsOf e) with
                | none => rw [hcc] at this; simp at this
                | some cs =>
                  rw [hcc] at this
                  obtain ⟨xs, s1, s2, _⟩ := ih ety e fuel cs _ h1 this
                  exact ⟨xs, s1, by rw [s2, hc0]⟩
              obtain ⟨rows, r1, r2⟩ := choose_list (R := fun _ xs => Shp ety xs ∧ xs.length = 0) len hrows
              obtain ⟨f1, _⟩ := flatten_get (sz := 0) (rows := rows) fun r hr => by obtain ⟨i, hi, rfl⟩ := List.getElem_of_mem hr; exact (r2 i hi).2
              refine ⟨[.sl rows.length rows.flatten], ⟨rows, rfl, fun r hr => by obtain ⟨i, hi, rfl⟩ := List.getElem_of_mem hr; exact (r2 i hi).1⟩, by simp [h3], by simp [h3], fun i hi => ?_⟩
              have : i = 0 := by simp at hi; omega
              subst this
              simp only [List.getD_cons_zero, List.getElem_cons_zero]
              rw [r1]
              exact .sl _ _ _ _ (fun _ => undef) hl hm (.inl (by rw [f1]; simp)) fun j hj => by rw [f1] at hj; simp at hj
            · rcases opens_elems (Q := fun _ cs => Opens w ety (P.cellsOf e) cs) (by omega) hel (fun i cs r htr => ih ety e fuel cs r h1 htr) with h0 | ⟨b, off, rfl, hb, hall⟩
              · subst h0
                exact ⟨[.sl 0 []], ⟨[], rfl, by simp⟩, by simp [h3], by simp [h3], fun i hi => by
                  have : i = 0 := by simp at hi; omega
                  subst this
                  exact .sl _ _ _ _ (fun _ => undef) hl hm (.inl rfl) fun j hj => by simp at hj⟩
              · obtain ⟨rows, r1, r2⟩ := choose_list (R := fun i xs => Shp ety xs ∧ xs.length = P.cellsOf e ∧ ∀ j (hj : j < xs.length), ∃ v, w.cell? ⟨b, off + (i * P.cellsOf e + j), none⟩ = some v ∧ Rep w (fun b => b < w.heap.size) v xs[j]) len fun i hi => by
                  obtain ⟨cs, c1, ⟨xs, s1, s2, s3, s4⟩, c3⟩ := hall i hi
                  exact ⟨xs, s1, s2, fun j hj => ⟨_, c3 j (by omega), s4 j hj⟩⟩
                obtain ⟨f1, f2⟩ := flatten_get (sz := P.cellsOf e) (rows := rows) fun r hr => by obtain ⟨i, hi, rfl⟩ := List.getElem_of_mem hr; exact (r2 i hi).2.1
                refine ⟨[.sl rows.length rows.flatten], ⟨rows, rfl, fun r hr => by obtain ⟨i, hi, rfl⟩ := List.getElem_of_mem hr; exact (r2 i hi).1⟩, by simp [h3], by simp [h3], fun i hi => ?_⟩
                have : i = 0 := by simp at hi; omega
                subst this
                simp only [List.getD_cons_zero, List.getElem_cons_zero]
                rw [r1]
                have hcell : ∀ m, m < rows.flatten.length → ∃ v, w.cell? ⟨b, off + m, none⟩ = some v ∧ Rep w (fun b => b < w.heap.size) v (rows.flatten.getD m .any) := by
                  intro m hm
                  rw [f1] at hm
                  have hi' : m / P.cellsOf e < rows.length := by rw [Nat.div_lt_iff_lt_mul (by omega)]; exact hm
                  have hj' : m % P.cellsOf e < P.cellsOf e := Nat.mod_lt _ (by omega)
                  have hmm : m / P.cellsOf e * P.cellsOf e + m % P.cellsOf e = m := by rw [Nat.mul_comm]; exact Nat.div_add_mod m _
                  obtain ⟨_, g2, g3⟩ := r2 _ hi'
                  obtain ⟨v, v1, v2⟩ := g3 (m % P.cellsOf e) (by rw [g2]; exact hj')
                  rw [hmm] at v1
                  refine ⟨v, v1, ?_⟩
                  have := f2 _ _ hi' hj'
                  rw [hmm] at this
                  rw [this]
                  simp only [List.getD, List.getElem?_eq_getElem hi', Option.getD_some]
                  rw [List.getElem?_eq_getElem (by rw [g2]; exact hj')]
                  exact v2
                refine .sl _ _ _ _ (fun m => (w.cell? ⟨b, off + m, none⟩).getD undef) hl hm (.inr ⟨b, off, rfl, hb, fun m hm => ?_⟩) fun m hm => ?_
                · obtain ⟨v, v1, _⟩ := hcell m hm
                  simp only [v1, Option.getD_some]
                · obtain ⟨v, v1, v2⟩ := hcell m hm
                  simp only [v1, Option.getD_some]
                  have e9 : rows.flatten.getD m .any = rows.flatten[m] := by rw [List.getD_eq_getElem?_getD, List.getElem?_eq_getElem hm, Option.getD_some]
                  rw [e9] at v2
                  exact v2
      | struct fs =>
        cases ty <;> simp only at h <;> try (cases h)
        rename_i tys
        split at hr <;> first | (exfalso; simp at *; done) | skip
        all_goals (first | (exfalso; simp_all; done) | skip)
        rename_i cs' fs' heq
        simp only [Option.some.injEq, TypeDesc.struct.injEq] at heq
        subst heq
        split at hr
        · rename_i hlen
          obtain ⟨rs, hm, _⟩ := Option.map_eq_some_iff.1 hr
          obtain ⟨_, xs, s1, s2, s3⟩ := opens_fields ih hlen fs.toList tys 0 rs h hm
          exact ⟨xs, s1, by omega, hlen, fun i hi => by simpa using s3 i hi⟩
        · cases hr
      | _ => simp at h
end
theorem open_one {H : Type} {enc : TypeId × Value → H} {P : Program} {w : World} {spare : Nat → Bool} {held : Bool} {ty : Ty} {T : TypeId} {v : Value} {d : DataW H} {ps : List MemPlace} (ht : tyOk P 20 T ty = true) (hc : v.cells.toList = [v])
    (h : DataW.Trod enc P w 0 spare held T v d ps) : ∃ x, Shp ty [x] ∧ Rep w (fun b => b < w.heap.size) v x := by
  obtain ⟨fuel, hf⟩ := h
  obtain ⟨xs, s1, s2, s3, s4⟩ := opens 20 ty T fuel _ _ ht hf
  rw [hc] at s3 s4
  simp at s3
  match xs, s2 with
  | [x], _ => exact ⟨x, s1, by simpa using s4 0 (by simp)⟩
  | [], h2 => simp at h2; omega
  | _ :: _ :: _, h2 => simp at h2; omega
end Go.Proofs.Yteoajodoejoccaa
namespace Go.Proofs.Yteoajodoejoccaa
open Go
set_option linter.unusedVariables false
def ndF : Hp → Prop
  | [] => True
  | (b, _) :: r => fresh r b ∧ ndF r
theorem ndF_of : ∀ {H : Hp}, (H.map (·.1)).Nodup → ndF H
  | [], _ => trivial
  | (b, m) :: r, h => by
    simp only [List.map_cons, List.nodup_cons] at h
    refine ⟨fun x hx => ?_, ndF_of h.2⟩
    have : x.1 ≠ b := fun he => h.1 (he ▸ List.mem_map_of_mem hx)
    exact ⟨this, fun he => this he.symm⟩
theorem WP.nd {P : Program} {cx : Cx} {n : Nat} {c : Code} {Q : Exit → St → Prop} {s : St} (h : ndF s.H → WP P cx n c Q s) : WP P cx n c Q s := fun a w ok => h (ndF_of ok.world.nodup) a w ok
end Go.Proofs.Yteoajodoejoccaa
