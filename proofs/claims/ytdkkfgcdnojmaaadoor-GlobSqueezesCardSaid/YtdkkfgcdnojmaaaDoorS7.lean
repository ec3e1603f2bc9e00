/-
  The walks and the laws that the statement leans on, part 7.
-/
import Derived.Test.YtdkkfgcdnojmaaaDoorS6
namespace Go.Proofs.YtdkkfgcdnojmaaaDoor
open Go
set_option linter.unusedSimpArgs false
set_option linter.unusedVariables false
section
variable {P : Program} {cx : Cx} {n : Nat} {ops : Array Oper}
def dcall (P : Program) (s : St) (op : Op) (x : AV) : Prop :=
  match op with
  | .call cl => match cl.callee with
    | .value (.func f) => (ogs s.env cl.args.toList).1 ∧ DCt P f (ogs s.env cl.args.toList).2 s.H x
    | .invoke rc m => match (og s.env rc).2 with
      | .ifc t y => match mthOf P t m with
        | some f => (og s.env rc).1 ∧ (ogs s.env cl.args.toList).1 ∧ DCt P f (y :: (ogs s.env cl.args.toList).2) s.H x
        | none => False
      | _ => False
    | _ => False
  | _ => False
theorem dcall_of {P : Program} {s : St} {op : Op} {q : Prop × FuncId × List AV} {x : AV} (h : calleeOf P s.env op = some q) (hq : q.1) (hct : DCt P q.2.1 q.2.2 s.H x) : dcall P s op x := by
  unfold calleeOf at h
  split at h
  · rename_i c
    unfold dcall
    simp only
    split at h
    · rename_i f hf
      cases h
      try simp only [hf]
      exact ⟨hq, hct⟩
    · rename_i rc m hf
      split at h
      · rename_i t y hrc
        split at h
        · rename_i f hm
          cases h
          try simp only [hf, hrc, hm]
          exact ⟨hq.1, hq.2, hct⟩
        · cases h
      · cases h
    · cases h
  · cases h
def dvc (P : Program) (n : Nat) (ops : Array Oper) : List Oper → (St → Prop) → St → Prop
  | [], K, s => K s
  | o :: rest, K, s => okd n o.dst ∧ match o.guard with
    | none => match pev P s.H s.env o.op with
      | some r => r.1 ∧ dvc P n ops rest K (s.put o.dst r.2)
      | none => match calleeOf P s.env o.op with
        | some q => q.1 ∧ ExF P q.2.1 q.2.2 s.H fun x => dvc P n ops rest K (s.put o.dst x)
        | none => False
    | some (j, want) => match gdOf s.env ops j want with
      | some c => match pev P s.H s.env o.op with
        | some r => (c = true → r.1) ∧ dvc P n ops rest K (s.put o.dst (.gd c r.2))
        | none => match calleeOf P s.env o.op with
          | some q => (c = true → q.1) ∧ ExG c P q.2.1 q.2.2 s.H fun x => dvc P n ops rest K (s.put o.dst (.gd c x))
          | none => False
      | none => False
def Stdy (P : Program) (cx : Cx) (n : Nat) (ops : Array Oper) (o : Oper) (env : List (Nat × AV)) (H : Hp) (x : AV) : Prop :=
  okd n o.dst ∧ ∀ (a : Act) (w : World) (X : Act → World → Prop) (R : Exit → Act → World → Prop), a.defers = [] → a.tmps.size = n → OkW cx H w →
    (∀ t ∈ o.looksAt ops, Rep w (imm cx w H) (a.tmps.getD t undef) (look env t)) →
    (∀ v w', Rep w' (imm cx w' H) v x → OkW cx H w' → (∀ c, imm cx w H c → imm cx w' H c ∧ w'.heap[c]? = w.heap[c]?) → X (a.put o.dst v) w') →
    if Region.wanted o (yielded ops a.tmps) then o.wp P a w X R else X (a.put o.dst undef) w
def renv (env : List (Nat × AV)) (ts : List Nat) : List (Nat × AV) := ts.map fun t => (t, look env t)
theorem look_renv {env : List (Nat × AV)} : ∀ {ts : List Nat} {t : Nat}, (t ∈ ts → look (renv env ts) t = look env t) ∧ (t ∉ ts → look (renv env ts) t = .any)
  | [], t => ⟨fun h => by simp at h, fun _ => rfl⟩
  | t' :: ts, t => by
    have ih := look_renv (env := env) (ts := ts) (t := t)
    simp only [renv, List.map_cons, look]
    by_cases h : t = t'
    · subst h; simp
    · simp only [if_neg h, List.mem_cons, h, false_or]
      exact ih
theorem opd_congr {env env' : List (Nat × AV)} {x : Operand} (h : ∀ t, x = .tmp t → look env t = look env' t) : opd env x = opd env' x := by
  cases x <;> simp only [opd]
  exact h _ rfl
theorem og_congr {env env' : List (Nat × AV)} {x : Operand} (h : opd env x = opd env' x) : og env x = og env' x := by unfold og; rw [h]
theorem ogs_congr {env env' : List (Nat × AV)} : ∀ {l : List Operand}, (∀ x ∈ l, opd env x = opd env' x) → ogs env l = ogs env' l
  | [], _ => rfl
  | x :: r, h => by
    simp only [ogs]
    rw [og_congr (h x (List.mem_cons_self ..)), ogs_congr fun y hy => h y (List.mem_cons_of_mem _ hy)]
theorem ogp_congr {env env' : List (Nat × AV)} : ∀ {l : List (Nat × Operand)}, (∀ x ∈ l, opd env x.2 = opd env' x.2) → ogp env l = ogp env' l
  | [], _ => rfl
  | (i, x) :: r, h => by
    simp only [ogp]
    rw [og_congr (h (i, x) (List.mem_cons_self ..)), ogp_congr fun y hy => h y (List.mem_cons_of_mem _ hy)]
theorem ogo_congr {env env' : List (Nat × AV)} {x : Option Operand} (h : ∀ y, x = some y → opd env y = opd env' y) : ogo env x = ogo env' x := by
  cases x with
  | none => rfl
  | some y => simp only [ogo]; rw [og_congr (h y rfl)]
theorem pev_congr {H : Hp} {env env' : List (Nat × AV)} {op : Op} (h : ∀ x ∈ op.operands, opd env x = opd env' x) : pev P H env op = pev P H env' op := by
  cases op <;> simp only [Op.operands] at h <;> simp only [pev]
  case move x => rw [og_congr (h x (by simp))]
  case assign x => rw [og_congr (h x (by simp))]
  case pick c a b => rw [og_congr (h c (by simp)), h a (by simp), h b (by simp)]
  case binOp op T x y T' => rw [og_congr (h x (by simp)), og_congr (h y (by simp))]
  case unOp op T x => rw [og_congr (h x (by simp))]
  case convert s d x => rw [og_congr (h x (by simp))]
  case nilCheck x => rw [og_congr (h x (by simp))]
  case fieldAddr T x f => rw [og_congr (h x (by simp))]
  case field T x f => rw [og_congr (h x (by simp))]
  case indexAddr T x i => rw [og_congr (h x (by simp)), og_congr (h i (by simp))]
  case index T x i => rw [og_congr (h x (by simp)), og_congr (h i (by simp))]
  case load T x => rw [og_congr (h x (by simp))]
  case extract T x => rw [og_congr (h _ (by simp))]
  case makeInterface T x => rw [og_congr (h x (by simp))]
  case typeAssert x xT T ok => rw [og_congr (h x (by simp))]
  case makeFunc fn fi ca =>
    cases fn with
    | func f =>
      simp only [pev]
      rw [ogs_congr (env := env) (env' := env') (l := fi.toList) fun x hx => h x (by simp; exact .inl (by simpa using hx)), ogs_congr (env := env) (env' := env') (l := ca.toList) fun x hx => h x (by simp; exact .inr (by simpa using hx))]
    | _ => rfl
  case build T parts =>
    rw [ogp_congr (env' := env') fun x hx => h x.2 (by simp; exact ⟨x.1, by simpa using hx⟩)]
  case slice T x lo hi mx =>
    cases mx with
    | some m =>
      cases lo with
      | none => rfl
      | some l =>
        cases hi with
        | none => rfl
        | some h' =>
          simp only [pev]
          rw [og_congr (h x (by simp)), og_congr (h l (by simp)), og_congr (h h' (by simp)), og_congr (h m (by simp))]
    | none =>
      simp only [pev]
      rw [og_congr (h x (by simp)), ogo_congr (x := lo) fun y hy => h y (by simp [hy]), ogo_congr (x := hi) fun y hy => h y (by simp [hy])]
  case call c =>
    cases hc : c.callee with
    | builtin b =>
      simp only
      rw [ogs_congr (env' := env') fun x hx => h x (by simp [Call.operands, hc]; simpa using hx)]
    | _ => rfl
theorem dcall_congr {s s' : St} {op : Op} {x : AV} (hH : s.H = s'.H) (h : ∀ x ∈ op.operands, opd s.env x = opd s'.env x) : dcall P s op x ↔ dcall P s' op x := by
  cases op <;> simp only [dcall, hH]
  rename_i c
  cases hc : c.callee with
  | value f =>
    cases f <;> simp only
    rw [ogs_congr (env' := s'.env) fun x hx => h x (by simp [Op.operands, Call.operands, hc]; exact .inr (by simpa using hx))]
  | invoke rc m =>
    simp only
    rw [ogs_congr (env' := s'.env) fun x hx => h x (by simp [Op.operands, Call.operands, hc]; exact .inr (by simpa using hx)), og_congr (x := rc) (h rc (by simp [Op.operands, Call.operands, hc]))]
  | _ => rfl
theorem ok_renv {o : Oper} {env : List (Nat × AV)} {H : Hp} {a : Act} {w : World} (hd : a.defers = []) (hs : a.tmps.size = n) (hw : OkW cx H w)
    (hr : ∀ t ∈ o.looksAt ops, Rep w (imm cx w H) (a.tmps.getD t undef) (look env t)) : Ok cx n ⟨renv env (o.looksAt ops), H⟩ a w := by
  refine ⟨hd, hs, fun i => ?_, hw⟩
  by_cases hi : i ∈ o.looksAt ops
  · rw [(look_renv (env := env)).1 hi]; exact hr i hi
  · rw [(look_renv (env := env)).2 hi]; exact .any _
theorem opd_renv {o : Oper} {env : List (Nat × AV)} : ∀ x ∈ o.op.operands, opd env x = opd (renv env (o.looksAt ops)) x := by
  intro x hx
  refine opd_congr fun t ht => ?_
  subst ht
  exact ((look_renv (env := env)).1 (List.mem_append_left _ (List.mem_filterMap.2 ⟨Operand.tmp t, by simpa using hx, rfl⟩))).symm
theorem gdOf_renv {o : Oper} {env : List (Nat × AV)} {j : Nat} {want : Bool} (hg : o.guard = some (j, want)) : gdOf (renv env (o.looksAt ops)) ops j want = gdOf env ops j want := by
  unfold gdOf
  cases hd : (ops[j]?).bind (·.dst) with
  | none => rfl
  | some d =>
    simp only
    rw [(look_renv (env := env)).1]
    unfold Oper.looksAt
    rw [hg]
    simp only [List.mem_append]
    exact .inr (by simp [hd])
theorem stdy_pev {o : Oper} {env : List (Nat × AV)} {H : Hp} {r : Prop × AV} (hd : okd n o.dst) (hg : o.guard = none) (hr : pev P H env o.op = some r) (hob : r.1) : Stdy P cx n ops o env H r.2 := by
  refine ⟨hd, fun a w X R h1 h2 h3 h4 h5 => ?_⟩
  have ok := ok_renv h1 h2 h3 h4
  rw [if_pos (by simp [Region.wanted, hg])]
  obtain ⟨v, hv, hrep⟩ := pev_sound (n := n) (cx := cx) (s := ⟨renv env (o.looksAt ops), H⟩) (by rw [← pev_congr opd_renv]; exact hr) hob a w ok
  unfold Oper.wp
  rw [hv]
  exact h5 v w hrep h3 fun c hc => ⟨hc, rfl⟩
theorem stdy_pevG {o : Oper} {env : List (Nat × AV)} {H : Hp} {r : Prop × AV} {j : Nat} {want c : Bool} (hd : okd n o.dst) (hg : o.guard = some (j, want)) (hc : gdOf env ops j want = some c)
    (hr : pev P H env o.op = some r) (hob : c = true → r.1) : Stdy P cx n ops o env H (.gd c r.2) := by
  refine ⟨hd, fun a w X R h1 h2 h3 h4 h5 => ?_⟩
  have ok := ok_renv h1 h2 h3 h4
  rw [wanted_of_gd ok hg (by rw [gdOf_renv hg]; exact hc)]
  cases c with
  | true =>
    rw [if_pos rfl]
    obtain ⟨v, hv, hrep⟩ := pev_sound (n := n) (cx := cx) (s := ⟨renv env (o.looksAt ops), H⟩) (by rw [← pev_congr opd_renv]; exact hr) (hob rfl) a w ok
    unfold Oper.wp
    rw [hv]
    exact h5 v w (.gdt _ _ hrep) h3 fun c hc => ⟨hc, rfl⟩
  | false =>
    rw [if_neg (by simp)]
    exact h5 undef w (.gdf _) h3 fun c hc => ⟨hc, rfl⟩
theorem dcall_wp {o : Oper} {s : St} {x : AV} {a : Act} {w : World} {X : Act → World → Prop} {R : Exit → Act → World → Prop} (ok : Ok cx n s a w) (h : dcall P s o.op x)
    (h5 : ∀ v w', Rep w' (imm cx w' s.H) v x → OkW cx s.H w' → (∀ c, imm cx w s.H c → imm cx w' s.H c ∧ w'.heap[c]? = w.heap[c]?) → X (a.put o.dst v) w') : o.wp P a w X R := by
  obtain ⟨dst, op, type, pos, after, guard⟩ := o
  simp only at h h5
  unfold dcall at h
  split at h
  · rename_i cl
    obtain ⟨callee, args, ts⟩ := cl
    simp only at h
    split at h
    · rename_i f
      obtain ⟨hob, hct⟩ := h
      have hlen := ogs_length (env := s.env) args.toList
      have := run_dct (vs := args.map a.eval) ok hct
        (by rw [hlen]; simp) (fun i hi => by
          have := ok.ogs hob i (by rw [hlen] at hi; exact hi)
          simpa [List.getD] using this)
      unfold Oper.wp
      have hrun : (execOp a.eval ⟨dst, .call ⟨.value (.func f), args, ts⟩, type, pos, after, guard⟩).run P w = (callFunc f (args.map a.eval)).run P w := by
        simp only [execOp, resolve, Act.eval, Deferred.ofValue, Sem.run_bind, Sem.run_pure, Result.andThen_ok, invoke, Array.append_empty, Array.empty_append]
        try simp
      refine this.upon hrun ?_
      rintro e w' ⟨v, rfl, hrep, c1, c2⟩
      exact ⟨_, rfl, h5 v w' hrep c1 c2⟩
    · rename_i rc m
      split at h
      · rename_i t y hrc
        split at h
        · rename_i f hf
          obtain ⟨hob1, hob, hct⟩ := h
          have hlen := ogs_length (env := s.env) args.toList
          have hrv := ok.og hob1
          rw [hrc] at hrv
          obtain ⟨u, hu, hur⟩ : ∃ u, a.eval rc = .iface t u ∧ Rep w (imm cx w s.H) u y := by
            generalize a.eval rc = z at hrv
            cases hrv with
            | ifc _ u _ r => exact ⟨u, rfl, r⟩
          have := run_dct (vs := #[u] ++ args.map a.eval) ok hct
            (by simp [hlen]; omega) (fun i hi => by
              cases i with
              | zero => simpa only [Array.getD_eq_getD_getElem?, app1_get?, if_true, Option.getD_some, List.getD_cons_zero] using hur
              | succ i =>
                have := ok.ogs hob i (by simp [hlen] at hi; simpa using hi)
                simpa [List.getD, app1_get?] using this)
          unfold Oper.wp
          have hrun : (execOp a.eval ⟨dst, .call ⟨.invoke rc m, args, ts⟩, type, pos, after, guard⟩).run P w = (callFunc f (#[u] ++ args.map a.eval)).run P w := by
            simp only [execOp, resolve, Sem.run_bind, Sem.run_pure, Result.andThen_ok, hu]
            rw [run_invoke hf]
          refine this.upon hrun ?_
          rintro e w' ⟨v, rfl, hrep, c1, c2⟩
          exact ⟨_, rfl, h5 v w' hrep c1 c2⟩
        · exact h.elim
      · exact h.elim
    · exact h.elim
  · exact h.elim
theorem stdy_call {o : Oper} {env : List (Nat × AV)} {H : Hp} {x : AV} (hd : okd n o.dst) (hg : o.guard = none) (h : dcall P ⟨env, H⟩ o.op x) : Stdy P cx n ops o env H x := by
  refine ⟨hd, fun a w X R h1 h2 h3 h4 h5 => ?_⟩
  have ok := ok_renv h1 h2 h3 h4
  rw [if_pos (by simp [Region.wanted, hg])]
  exact dcall_wp ok ((dcall_congr (s := ⟨env, H⟩) (s' := ⟨renv env (o.looksAt ops), H⟩) rfl opd_renv).1 h) h5
theorem stdy_callG {o : Oper} {env : List (Nat × AV)} {H : Hp} {x : AV} {j : Nat} {want c : Bool} (hd : okd n o.dst) (hg : o.guard = some (j, want)) (hc : gdOf env ops j want = some c)
    (h : c = true → dcall P ⟨env, H⟩ o.op x) : Stdy P cx n ops o env H (.gd c x) := by
  refine ⟨hd, fun a w X R h1 h2 h3 h4 h5 => ?_⟩
  have ok := ok_renv h1 h2 h3 h4
  rw [wanted_of_gd ok hg (by rw [gdOf_renv hg]; exact hc)]
  cases c with
  | true =>
    rw [if_pos rfl]
    exact dcall_wp ok ((dcall_congr (s := ⟨env, H⟩) (s' := ⟨renv env (o.looksAt ops), H⟩) rfl opd_renv).1 (h rfl)) fun v w' hv => h5 v w' (.gdt _ _ hv)
  | false =>
    rw [if_neg (by simp)]
    exact h5 undef w (.gdf _) h3 fun c hc => ⟨hc, rfl⟩
/-! ### The slots, some operations done, some not -/
def putE (env : List (Nat × AV)) (d : Option Tmp) (x : AV) : List (Nat × AV) :=
  match d with
  | some d => (d, x) :: env
  | none => env
theorem put_eq (s : St) (d : Option Tmp) (x : AV) : s.put d x = ⟨putE s.env d x, s.H⟩ := by cases d <;> rfl
def envL (f : Nat → Bool) : List (Oper × AV) → Nat → List (Nat × AV) → List (Nat × AV)
  | [], _, env => env
  | (o, x) :: r, k, env => envL f r (k + 1) (if f k then putE env o.dst x else env)
theorem look_putE {env : List (Nat × AV)} {d : Option Tmp} {x : AV} {t : Nat} : look (putE env d x) t = if d = some t then x else look env t := by
  cases d with
  | none => simp [putE]
  | some d =>
    simp only [putE, look, Option.some.injEq]
    by_cases h : t = d
    · subst h; simp
    · rw [if_neg h, if_neg fun h' => h h'.symm]
theorem envL_congr {f g : Nat → Bool} {t : Nat} : ∀ (l : List (Oper × AV)) (k : Nat) (env env' : List (Nat × AV)), look env t = look env' t →
    (∀ i o x, l[i]? = some (o, x) → o.dst = some t → f (k + i) = g (k + i)) → look (envL f l k env) t = look (envL g l k env') t
  | [], _, _, _, h, _ => h
  | (o, x) :: r, k, env, env', h, hw => by
    refine envL_congr r (k + 1) _ _ ?_ fun i o' x' hi hd => by have := hw (i + 1) o' x' (by simpa using hi) hd; rwa [show k + 1 + i = k + (i + 1) by omega]
    by_cases hd : o.dst = some t
    · have := hw 0 o x rfl hd
      rw [show f k = g k from this]
      split
      · rw [look_putE, look_putE, if_pos hd, if_pos hd]
      · exact h
    · split <;> split <;> (try simp only [look_putE, if_neg hd]) <;> exact h
theorem envL_at {t : Nat} : ∀ (l : List (Oper × AV)) (k i : Nat) (env : List (Nat × AV)) (o : Oper) (x : AV), l[i]? = some (o, x) → o.dst = some t →
    look (envL (fun j => decide (j < k + i + 1)) l k env) t = x
  | [], _, _, _, _, _, h, _ => by simp at h
  | (o', x') :: r, k, 0, env, o, x, h, hd => by
    simp at h
    obtain ⟨rfl, rfl⟩ := h
    simp only [envL]
    have : look (envL (fun j => decide (j < k + 0 + 1)) r (k + 1) (if decide (k < k + 0 + 1) = true then putE env o'.dst x' else env)) t = look (envL (fun _ => false) r (k + 1) (putE env o'.dst x')) t :=
      envL_congr r (k + 1) _ _ (by rw [if_pos (by simp)]) fun i _ _ _ _ => by simp
    rw [this]
    have hno : ∀ (l : List (Oper × AV)) (k : Nat) (env : List (Nat × AV)), envL (fun _ => false) l k env = env := by
      intro l
      induction l with
      | nil => intro k env; rfl
      | cons p r ih => intro k env; obtain ⟨o, x⟩ := p; simp only [envL]; exact ih _ _
    rw [hno, look_putE, if_pos hd]
  | (o', x') :: r, k, i + 1, env, o, x, h, hd => by
    simp only [envL]
    have := envL_at r (k + 1) i (if decide (k < k + (i + 1) + 1) = true then putE env o'.dst x' else env) o x (by simpa using h) hd
    rwa [show k + 1 + i + 1 = k + (i + 1) + 1 by omega] at this
def Seqv (P : Program) (cx : Cx) (n : Nat) (ops : Array Oper) (H : Hp) (lx : List (Oper × AV)) (env : List (Nat × AV)) : Prop :=
  ∀ i o x, lx[i]? = some (o, x) → Stdy P cx n ops o (envL (fun j => decide (j < i)) lx 0 env) H x
theorem envL_shift {f : Nat → Bool} : ∀ (l : List (Oper × AV)) (k : Nat) (env : List (Nat × AV)), envL f l (k + 1) env = envL (fun j => f (j + 1)) l k env
  | [], _, _ => rfl
  | (o, x) :: r, k, env => by simp only [envL]; exact envL_shift r (k + 1) _
theorem dvc_seqv {K : St → Prop} : ∀ (l : List Oper) (s : St), dvc P n ops l K s → ∃ xs : List AV, xs.length = l.length ∧ Seqv P cx n ops s.H (l.zip xs) s.env ∧
    K ⟨envL (fun _ => true) (l.zip xs) 0 s.env, s.H⟩
  | [], s, h => ⟨[], rfl, fun i o x h => by simp at h, h⟩
  | o :: rest, s, ⟨hd, h⟩ => by
    have step : ∀ x, Stdy P cx n ops o s.env s.H x → dvc P n ops rest K (s.put o.dst x) → ∃ xs : List AV, xs.length = (o :: rest).length ∧ Seqv P cx n ops s.H ((o :: rest).zip xs) s.env ∧
        K ⟨envL (fun _ => true) ((o :: rest).zip xs) 0 s.env, s.H⟩ := by
      intro x hx hr
      obtain ⟨xs, h1, h2, h3⟩ := dvc_seqv rest _ hr
      rw [put_eq] at h2 h3
      refine ⟨x :: xs, by simp [h1], fun i o' x' hi => ?_, ?_⟩
      · cases i with
        | zero =>
          simp at hi
          obtain ⟨rfl, rfl⟩ := hi
          have : envL (fun j => decide (j < 0)) ((o :: rest).zip (x :: xs)) 0 s.env = s.env := by
            have hno : ∀ (l : List (Oper × AV)) (k : Nat) (env : List (Nat × AV)), envL (fun j => decide (j < 0)) l k env = env := by
              intro l
              induction l with
              | nil => intro k env; rfl
              | cons p r ih => intro k env; obtain ⟨o, x⟩ := p; simp only [envL]; exact ih _ _
            exact hno _ _ _
          rw [this]
          exact hx
        | succ i =>
          have := h2 i o' x' (by simpa using hi)
          simp only [List.zip_cons_cons, envL, Nat.zero_lt_succ, decide_true, if_true, envL_shift]
          simpa using this
      · simp only [List.zip_cons_cons, envL, if_true, envL_shift]
        exact h3
    split at h
    · rename_i hg
      split at h
      · rename_i r hr
        exact step r.2 (stdy_pev hd hg hr h.1) h.2
      · split at h
        · rename_i q hq
          obtain ⟨hob, x, h1, h2⟩ := h
          exact step x (stdy_call hd hg (dcall_of (s := s) hq hob h1)) h2
        · exact h.elim
    · rename_i j want hg
      split at h
      · rename_i c hc
        split at h
        · rename_i r hr
          exact step _ (stdy_pevG hd hg hc hr h.1) h.2
        · split at h
          · rename_i q hq
            obtain ⟨hob, x, h1, h2⟩ := h
            exact step _ (stdy_callG hd hg hc fun hct => dcall_of (s := s) hq (hob hct) (h1 hct)) h2
          · exact h.elim
      · exact h.elim
/-! ### What is asked of a region's edges -/
def waits (o : Oper) (j : Nat) : Bool := o.after.any fun e => Region.binds .any e && e.on == j
def reach (ops : Array Oper) : Nat → Nat → Nat → Bool
  | 0, i, j => match ops[i]? with | some oi => waits oi j | none => false
  | f + 1, i, j => match ops[i]? with | some oi => waits oi j || (List.range i).any (fun m => waits oi m && reach ops f m j) | none => false
def drawB (ops : Array Oper) (k : Nat) : Bool :=
  decide (k ≤ ops.size) &&
  (List.range ops.size).all fun i => match ops[i]? with
    | none => false
    | some oi =>
      oi.after.all (fun e => !Region.binds .any e || decide (e.on < i)) &&
      (decide (i < k) || (List.range i).all (reach ops 6 i)) &&
      (List.range k).all fun j => match ops[j]? with
        | none => false
        | some oj => match oj.dst with
          | none => true
          | some t => decide (i = j) || !((oi.looksAt ops).contains t || oi.dst == some t) || (decide (j < i) && waits oi j) || (decide (i < j) && waits oj i)
theorem waits_spec {o : Oper} {j : Nat} (h : waits o j = true) : ∃ e ∈ o.after, Region.binds .any e = true ∧ e.on = j := by
  obtain ⟨e, he, hb⟩ := Array.any_eq_true'.1 h
  simp only [Bool.and_eq_true, beq_iff_eq] at hb
  exact ⟨e, he, hb.1, hb.2⟩
def Closed (ops : Array Oper) (listed : Array Bool) : Prop := ∀ (j : Nat) oj, ops[j]? = some oj → listed.getD j false = true → ∀ i, waits oj i = true → listed.getD i false = true
theorem ready_waits {listed : Array Bool} {i j : Nat} {oi : Oper} (hi : i ∈ Region.ready .any ops listed) (hoi : ops[i]? = some oi) (hw : waits oi j = true) : listed.getD j false = true := by
  obtain ⟨_, o, ho, hall⟩ := mem_ready.1 hi
  have : o = oi := Option.some.inj (ho.symm.trans hoi)
  subst this
  obtain ⟨e, he, hb, rfl⟩ := waits_spec hw
  exact hall e he hb
theorem reach_listed {listed : Array Bool} (hc : Closed ops listed) : ∀ (f i j : Nat), reach ops f i j = true → (∀ oi, ops[i]? = some oi → ∀ m, waits oi m = true → listed.getD m false = true) → listed.getD j false = true
  | 0, i, j, h, hi => by
    unfold reach at h
    split at h
    · rename_i oi ho; exact hi oi ho j h
    · cases h
  | f + 1, i, j, h, hi => by
    unfold reach at h
    split at h
    · rename_i oi ho
      rw [Bool.or_eq_true] at h
      rcases h with h | h
      · exact hi oi ho j h
      · obtain ⟨m, _, hm⟩ := List.any_eq_true.1 h
        rw [Bool.and_eq_true] at hm
        exact reach_listed hc f m j hm.2 fun om hom c hw => hc m om hom (hi oi ho m hm.1) c hw
    · cases h
structure DrawOk (ops : Array Oper) (k : Nat) : Prop where
  le : k ≤ ops.size
  back : ∀ (i : Nat) oi, ops[i]? = some oi → ∀ e ∈ oi.after, Region.binds .any e = true → e.on < i
  tail : ∀ (i : Nat) oi, ops[i]? = some oi → k ≤ i → ∀ j, j < i → ∀ listed, Closed ops listed → i ∈ Region.ready .any ops listed → listed.getD j false = true
  slot : ∀ (i j : Nat) oi oj t, ops[i]? = some oi → j < k → ops[j]? = some oj → oj.dst = some t → (t ∈ oi.looksAt ops ∨ oi.dst = some t) → i ≠ j → (j < i ∧ waits oi j = true) ∨ (i < j ∧ waits oj i = true)
theorem drawB_spec {k : Nat} (h : drawB ops k = true) : DrawOk ops k := by
  unfold drawB at h
  rw [Bool.and_eq_true] at h
  obtain ⟨h1, h2⟩ := h
  have hall : ∀ (i : Nat) oi, ops[i]? = some oi → _ := fun i oi hi => by
    have hlt : i < ops.size := (Array.getElem?_eq_some_iff.1 hi).1
    have := List.all_eq_true.1 h2 i (List.mem_range.2 hlt)
    rw [hi] at this
    simp only [Bool.and_eq_true] at this
    exact this
  refine ⟨of_decide_eq_true h1, fun i oi hi e he hb => ?_, fun i oi hi hk j hj listed hc hr => ?_, fun i j oi oj t hi hj hoj hd ht hij => ?_⟩
  · have := Array.all_eq_true'.1 (hall i oi hi).1.1 e he
    simpa [hb] using this
  · have := (hall i oi hi).1.2
    simp only [Bool.or_eq_true, decide_eq_true_eq] at this
    rcases this with h | h
    · omega
    · exact reach_listed hc 6 i j (List.all_eq_true.1 h j (List.mem_range.2 hj)) fun oi' hoi' m hw => ready_waits hr hoi' hw
  · have := List.all_eq_true.1 (hall i oi hi).2 j (List.mem_range.2 hj)
    simp only [hoj, hd] at this
    simp only [Bool.or_eq_true, Bool.and_eq_true, decide_eq_true_eq, Bool.not_eq_true'] at this
    rcases this with ((h | h) | h) | h
    · exact absurd h hij
    · exfalso
      rcases ht with ht | ht
      · simp [ht] at h
      · simp [ht] at h
    · exact .inl h
    · exact .inr h
theorem closed_set {listed : Array Bool} {i : Nat} (hc : Closed ops listed) (hi : i ∈ Region.ready .any ops listed) : Closed ops (listed.setIfInBounds i true) := by
  intro j oj hj hl c hw
  by_cases hij : i = j
  · subst hij
    exact getD_set_true (ready_waits hi hj hw)
  · rw [getD_set_ne false hij] at hl
    exact getD_set_true (hc j oj hj hl c hw)
structure DInv (cx : Cx) (n : Nat) (ops : Array Oper) (lx : List (Oper × AV)) (env : List (Nat × AV)) (H : Hp) (listed : Array Bool) (a : Act) (w : World) : Prop where
  lsize : listed.size = ops.size
  closed : Closed ops listed
  tail : ∀ t, lx.length ≤ t → t < ops.size → listed.getD t true = false
  ok : Ok cx n ⟨envL (fun j => listed.getD j false) lx 0 env, H⟩ a w
theorem getD_bool {listed : Array Bool} {i : Nat} (h : i < listed.size) : listed.getD i true = listed.getD i false := by simp [h]
theorem dinv_step {P : Program} {lx : List (Oper × AV)} {env : List (Nat × AV)} {H : Hp} {listed : Array Bool} {a : Act} {w : World} {i : Nat} (hD : DrawOk ops lx.length) (hlx : ∀ (j : Nat) o x, lx[j]? = some (o, x) → ops[j]? = some o)
    (hS : Seqv P cx n ops H lx env) (inv : DInv cx n ops lx env H listed a w) (hi : i ∈ Region.ready .any ops listed) (hik : i < lx.length) {R : Exit → Act → World → Prop} {X : Act → World → Prop}
    (hX : ∀ a' w', DInv cx n ops lx env H (listed.setIfInBounds i true) a' w' → X a' w') : wpOp P ops R i X a w := by
  obtain ⟨⟨o, x⟩, hp⟩ : ∃ p, lx[i] = p := ⟨_, rfl⟩
  have hli : lx[i]? = some (o, x) := by rw [List.getElem?_eq_getElem hik, hp]
  have hoi := hlx i o x hli
  have hun := (mem_ready.1 hi).1
  have hilt : i < ops.size := (Array.getElem?_eq_some_iff.1 hoi).1
  have hun' : listed.getD i false = false := by rw [← getD_bool (by rw [inv.lsize]; exact hilt)]; exact hun
  have hbefore : ∀ t, (t ∈ o.looksAt ops ∨ o.dst = some t) → ∀ (j : Nat) oj xj, lx[j]? = some (oj, xj) → oj.dst = some t → j ≠ i → (listed.getD j false = decide (j < i)) := by
    intro t ht j oj xj hj hd hji
    have hjk : j < lx.length := (List.getElem?_eq_some_iff.1 hj).1
    rcases hD.slot i j o oj t hoi hjk (hlx j oj xj hj) hd ht (Ne.symm hji) with ⟨h1, h2⟩ | ⟨h1, h2⟩
    · rw [ready_waits hi hoi h2]; simp [h1]
    · have : listed.getD j false = false := by
        cases hl : listed.getD j false with
        | false => rfl
        | true => have := inv.closed j oj (hlx j oj xj hj) hl i h2; rw [hun'] at this; cases this
      rw [this]; simp; omega
  have hlook : ∀ t ∈ o.looksAt ops, look (envL (fun j => listed.getD j false) lx 0 env) t = look (envL (fun j => decide (j < i)) lx 0 env) t := by
    intro t ht
    refine envL_congr lx 0 env env rfl fun j oj xj hj hd => ?_
    rw [Nat.zero_add]
    by_cases hji : j = i
    · subst hji; rw [hun']; simp
    · exact hbefore t (.inl ht) j oj xj hj hd hji
  obtain ⟨hdst, hst⟩ := hS i o x hli
  unfold wpOp
  rw [hoi]
  simp only
  have hset : ∀ j, (listed.setIfInBounds i true).getD j false = if j = i then true else listed.getD j false := by
    intro j
    by_cases hji : j = i
    · subst hji
      have : j < listed.size := by rw [inv.lsize]; exact hilt
      simp [this]
    · rw [if_neg hji, getD_set_ne false (Ne.symm hji)]
  have hfin : ∀ v w', Rep w' (imm cx w' H) v x → OkW cx H w' → (∀ c, imm cx w H c → imm cx w' H c ∧ w'.heap[c]? = w.heap[c]?) → X (a.put o.dst v) w' := by
    intro v w' hv hw' hI
    refine hX _ _ ⟨by simp [inv.lsize], closed_set inv.closed hi, fun t ht ht' => by rw [getD_set_ne true (by omega)]; exact inv.tail t ht ht', ?_⟩
    refine ⟨by cases o.dst <;> exact inv.ok.defers, by cases o.dst <;> simp [Act.put, inv.ok.size], fun t => ?_, hw'⟩
    have hold := (inv.ok.reps t).mono hI
    by_cases hd : o.dst = some t
    · have e1 : look (envL (fun j => (listed.setIfInBounds i true).getD j false) lx 0 env) t = x := by
        rw [← envL_at lx 0 i env o x hli hd]
        refine envL_congr lx 0 env env rfl fun j oj xj hj hdj => ?_
        rw [Nat.zero_add, hset]
        by_cases hji : j = i
        · subst hji; simp
        · rw [if_neg hji, hbefore t (.inr hd) j oj xj hj hdj hji]
          rw [Bool.eq_iff_iff]; simp; omega
      show Rep w' (imm cx w' H) _ (look (envL _ lx 0 env) t)
      rw [e1, hd]
      have : t < a.tmps.size := by rw [inv.ok.size]; rw [hd] at hdst; exact hdst
      simpa [Act.put, this] using hv
    · have e1 : look (envL (fun j => (listed.setIfInBounds i true).getD j false) lx 0 env) t = look (envL (fun j => listed.getD j false) lx 0 env) t := by
        refine envL_congr lx 0 env env rfl fun j oj xj hj hdj => ?_
        rw [Nat.zero_add, hset]
        by_cases hji : j = i
        · subst hji
          rw [hli] at hj
          cases hj
          exact absurd hdj hd
        · rw [if_neg hji]
      show Rep w' (imm cx w' H) _ (look (envL _ lx 0 env) t)
      rw [e1]
      have e2 : (a.put o.dst v).tmps.getD t undef = a.tmps.getD t undef := by
        cases hdd : o.dst with
        | none => rfl
        | some d =>
          have : d ≠ t := fun h => hd (by rw [hdd, h])
          simp [Act.put, Array.getElem?_setIfInBounds_ne this]
      rw [e2]
      exact hold
  have := hst a w X R inv.ok.defers inv.ok.size inv.ok.world (fun t ht => by rw [← hlook t ht]; exact inv.ok.reps t) hfin
  split
  · rename_i hw; rw [if_pos hw] at this; exact .inl this
  · rename_i hw; rw [if_neg hw] at this; exact this
end
end Go.Proofs.YtdkkfgcdnojmaaaDoor
namespace Go.Proofs.YtdkkfgcdnojmaaaDoor
open Go
set_option linter.unusedSimpArgs false
set_option linter.unusedVariables false
section
variable {P : Program} {cx : Cx} {n : Nat} {ops : Array Oper}
theorem tail_any {k0 : Nat} (hD : DrawOk ops k0) {R : Exit → Act → World → Prop} : ∀ (l : List Oper) (k : Nat) (listed : Array Bool) (a : Act) (w : World), k0 ≤ k → (∀ j, l[j]? = ops[k + j]?) → k + l.length = ops.size →
    listed.size = ops.size → (∀ j, j < ops.size → listed.getD j false = decide (j < k)) → wpList P ops R l a w → wpAny P .any ops R l.length listed a w
  | [], k, listed, a, w, hk, hl, hsz, hls, hlist, h => by
    refine ⟨?_, h⟩
    refine List.eq_nil_iff_forall_not_mem.2 fun j hj => ?_
    obtain ⟨h1, o, ho, _⟩ := mem_ready.1 hj
    have hjlt : j < ops.size := (Array.getElem?_eq_some_iff.1 ho).1
    have := hlist j hjlt
    rw [getD_bool (by omega), this] at h1
    simp at h1
    simp at hsz
    omega
  | o :: l, k, listed, a, w, hk, hl, hsz, hls, hlist, h => by
    have h0 : ops[k]? = some o := by simpa using (hl 0).symm
    have hklt : k < ops.size := (Array.getElem?_eq_some_iff.1 h0).1
    have hready : k ∈ Region.ready .any ops listed := by
      refine mem_ready.2 ⟨?_, o, h0, fun e he hb => ?_⟩
      · rw [getD_bool (by omega), hlist k hklt]; simp
      · have := hD.back k o h0 e he hb
        rw [hlist _ (by omega)]; simp; exact this
    refine ⟨fun h1 => (by rw [h1] at hready; cases hready), fun i hi => ?_⟩
    have hik : i = k := by
      obtain ⟨h1, oi, hoi, _⟩ := mem_ready.1 hi
      have hilt : i < ops.size := (Array.getElem?_eq_some_iff.1 hoi).1
      rw [getD_bool (by omega), hlist i hilt] at h1
      simp at h1
      by_cases h2 : i = k
      · exact h2
      · have hcl : Closed ops listed := fun j oj hj hl c hw => by
          obtain ⟨e, he, hb, rfl⟩ := waits_spec hw
          have h3 := hD.back j oj hj e he hb
          have h4 : j < ops.size := (Array.getElem?_eq_some_iff.1 hj).1
          rw [hlist j h4] at hl
          simp at hl
          rw [hlist _ (by omega)]
          simp; omega
        have := hD.tail i oi hoi (by omega) k (by omega) listed hcl hi
        rw [hlist k hklt] at this
        simp at this
    subst hik
    have hw : wpOp P ops R i (wpList P ops R l) a w := by unfold wpOp; simp only [h0]; exact h
    refine wpOp_mono (fun a' w' h' => tail_any hD l (i + 1) _ a' w' (by omega) (fun j => by have := hl (j + 1); simpa [Nat.add_assoc, Nat.add_comm 1 j] using this) (by simp at hsz; omega) (by simp [hls]) (fun j hj => ?_) h') hw
    by_cases hji : j = i
    · subst hji
      have : j < listed.size := by omega
      simp [this]
    · rw [getD_set_ne false (Ne.symm hji), hlist j hj, Bool.eq_iff_iff]
      simp
      omega
theorem least {p : Nat → Bool} : ∀ {m : Nat}, p m = false → ∃ i, i ≤ m ∧ p i = false ∧ ∀ j, j < i → p j = true := by
  intro m
  induction m using Nat.strongRecOn with
  | _ m ih =>
    intro hm
    by_cases h : ∃ j, j < m ∧ p j = false
    · obtain ⟨j, hj, hpj⟩ := h
      obtain ⟨i, h1, h2, h3⟩ := ih j hj hpj
      exact ⟨i, by omega, h2, h3⟩
    · refine ⟨m, Nat.le_refl _, hm, fun j hj => ?_⟩
      cases hp : p j with
      | true => rfl
      | false => exact absurd ⟨j, hj, hp⟩ h
theorem head_any {lx : List (Oper × AV)} {env : List (Nat × AV)} {H : Hp} {R : Exit → Act → World → Prop} (hD : DrawOk ops lx.length) (hlx : ∀ (j : Nat) o x, lx[j]? = some (o, x) → ops[j]? = some o) (hS : Seqv P cx n ops H lx env) {g : Nat}
    (hfin : ∀ listed a w, DInv cx n ops lx env H listed a w → (∀ j, j < lx.length → listed.getD j false = true) → wpAny P .any ops R g listed a w) :
    ∀ (u : Nat) (listed : Array Bool) (a : Act) (w : World), ((List.range lx.length).filter fun i => !listed.getD i false).length = u → DInv cx n ops lx env H listed a w → wpAny P .any ops R (u + g) listed a w
  | 0, listed, a, w, hu, inv => by
    rw [Nat.zero_add]
    refine hfin listed a w inv fun j hj => ?_
    have := List.eq_nil_of_length_eq_zero hu
    rw [List.filter_eq_nil_iff] at this
    simpa using this j (List.mem_range.2 hj)
  | u + 1, listed, a, w, hu, inv => by
    rw [show u + 1 + g = (u + g) + 1 by omega]
    obtain ⟨m, hm1, hm2⟩ : ∃ m, m < lx.length ∧ listed.getD m false = false := by
      cases hf : ((List.range lx.length).filter fun i => !listed.getD i false) with
      | nil => rw [hf] at hu; cases hu
      | cons m r =>
        have : m ∈ (List.range lx.length).filter fun i => !listed.getD i false := by rw [hf]; exact List.mem_cons_self ..
        rw [List.mem_filter] at this
        exact ⟨m, List.mem_range.1 this.1, by simpa using this.2⟩
    obtain ⟨i0, h1, h2, h3⟩ := least (p := fun i => listed.getD i false) hm2
    have hi0 : i0 < ops.size := by have := hD.le; omega
    have hready0 : i0 ∈ Region.ready .any ops listed := by
      refine mem_ready.2 ⟨by rw [getD_bool (by rw [inv.lsize]; exact hi0)]; exact h2, ops[i0], Array.getElem?_eq_getElem hi0, fun e he hb => h3 _ (hD.back i0 _ (Array.getElem?_eq_getElem hi0) e he hb)⟩
    refine ⟨fun h => (by rw [h] at hready0; cases hready0), fun i hi => ?_⟩
    obtain ⟨hun, oi, hoi, _⟩ := mem_ready.1 hi
    have hilt : i < ops.size := (Array.getElem?_eq_some_iff.1 hoi).1
    have hik : i < lx.length := by
      rcases Nat.lt_or_ge i lx.length with h | h
      · exact h
      · have := hD.tail i oi hoi h m (by omega) listed inv.closed hi
        rw [hm2] at this
        cases this
    have hun' : listed.getD i false = false := by rw [← getD_bool (by rw [inv.lsize]; exact hilt)]; exact hun
    refine dinv_step hD hlx hS inv hi hik fun a' w' inv' => head_any hD hlx hS hfin u _ a' w' ?_ inv'
    have hcount : ∀ (l : List Nat), l.Nodup → i ∈ l → (l.filter fun j => !listed.getD j false).length = ((l.filter fun j => !(listed.setIfInBounds i true).getD j false).length) + 1 := by
      intro l
      induction l with
      | nil => intro _ h; cases h
      | cons c r ih =>
        intro hn hmem
        simp only [List.nodup_cons] at hn
        by_cases hci : c = i
        · subst hci
          have hset : (listed.setIfInBounds c true).getD c false = true := by
            have : c < listed.size := by rw [inv.lsize]; exact hilt
            simp [this]
          have hrest : (r.filter fun j => !listed.getD j false) = r.filter fun j => !(listed.setIfInBounds c true).getD j false := by
            refine List.filter_congr fun j hj => ?_
            have : j ≠ c := fun h => hn.1 (h ▸ hj)
            rw [getD_set_ne false (Ne.symm this)]
          rw [List.filter_cons, List.filter_cons, hun', hset, hrest]
          simp
        · have hmem' : i ∈ r := by rcases List.mem_cons.1 hmem with h | h; exact absurd h.symm hci; exact h
          have := ih hn.2 hmem'
          rw [List.filter_cons, List.filter_cons, getD_set_ne false (Ne.symm hci)]
          split
          · simp only [List.length_cons]; omega
          · exact this
    have := hcount (List.range lx.length) List.nodup_range (List.mem_range.2 hik)
    omega
theorem getD_rep_false (m j : Nat) : (Array.replicate m false).getD j false = false := by
  rcases Nat.lt_or_ge j m with h | h
  · simp [h]
  · simp [h]
theorem draw_any {k : Nat} {l : List Oper} {Q : Exit → St → Prop} {s : St} (hB : drawB l.toArray k = true)
    (h : dvc P n l.toArray (l.take k) (fun s' => RP P cx n l.toArray (l.drop k) (Q .normal) s') s) {a : Act} {w : World} (ok : Ok cx n s a w) :
    wpAny P .any l.toArray (fun e a' w' => ∃ s', Q e s' ∧ Ok cx n s' a' w') l.toArray.size (Array.replicate l.toArray.size false) a { w with drawn := w.drawn + 1 } := by
  have hD := drawB_spec hB
  have hkl : k ≤ l.length := by simpa using hD.le
  obtain ⟨xs, hx1, hx2, hx3⟩ := dvc_seqv (cx := cx) _ _ h
  have htl : (l.take k).length = k := by simp; omega
  have hzl : ((l.take k).zip xs).length = k := by simp [hx1]; omega
  have hlx : ∀ (j : Nat) o x, ((l.take k).zip xs)[j]? = some (o, x) → l.toArray[j]? = some o := by
    intro j o x hj
    rw [List.getElem?_zip_eq_some] at hj
    have := hj.1
    rw [List.getElem?_take] at this
    split at this
    · simpa using this
    · cases this
  rw [← hzl] at hD
  have ok' : Ok cx n s a { w with drawn := w.drawn + 1 } := by
    have hIw : ∀ b, imm cx w s.H b → imm cx { w with drawn := w.drawn + 1 } s.H b ∧ ({ w with drawn := w.drawn + 1 } : World).heap[b]? = w.heap[b]? := fun b hb => ⟨hb, rfl⟩
    refine ⟨ok.defers, ok.size, fun i => (ok.reps i).mono hIw, ⟨ok.world.nodup, ok.world.keys, fun x hx => (ok.world.mem x hx).mono hIw rfl, ⟨ok.world.ext.os, ok.world.ext.tape, ok.world.ext.output, ok.world.ext.size, ok.world.ext.blk⟩, ok.world.ro⟩⟩
  have henv0 : envL (fun j => (Array.replicate l.toArray.size false).getD j false) ((l.take k).zip xs) 0 s.env = s.env := by
    have hf : (fun j => (Array.replicate l.toArray.size false).getD j false) = fun _ => false := by
      funext j
      exact getD_rep_false _ _
    rw [hf]
    have hno : ∀ (l : List (Oper × AV)) (k : Nat) (env : List (Nat × AV)), envL (fun _ => false) l k env = env := by
      intro l
      induction l with
      | nil => intro k env; rfl
      | cons p r ih => intro k env; obtain ⟨o, x⟩ := p; simp only [envL]; exact ih _ _
    exact hno _ _ _
  have inv0 : DInv cx n l.toArray ((l.take k).zip xs) s.env s.H (Array.replicate l.toArray.size false) a { w with drawn := w.drawn + 1 } := by
    refine ⟨by simp, fun j oj _ hl => ?_, fun t _ ht => ?_, ?_⟩
    · rw [getD_rep_false] at hl; cases hl
    · have : t < l.length := by simpa using ht
      simp [this]
    · rw [henv0]; exact ok'
  have hfin : ∀ listed a w, DInv cx n l.toArray ((l.take k).zip xs) s.env s.H listed a w → (∀ j, j < ((l.take k).zip xs).length → listed.getD j false = true) →
      wpAny P .any l.toArray (fun e a' w' => ∃ s', Q e s' ∧ Ok cx n s' a' w') (l.drop k).length listed a w := by
    intro listed a w inv hall
    have henv : ∀ t, look (envL (fun j => listed.getD j false) ((l.take k).zip xs) 0 s.env) t = look (envL (fun _ => true) ((l.take k).zip xs) 0 s.env) t := by
      intro t
      refine envL_congr _ 0 _ _ rfl fun j o x hj _ => ?_
      rw [Nat.zero_add]
      exact hall j (List.getElem?_eq_some_iff.1 hj).1
    have hok : Ok cx n ⟨envL (fun _ => true) ((l.take k).zip xs) 0 s.env, s.H⟩ a w :=
      ⟨inv.ok.defers, inv.ok.size, fun t => by have := inv.ok.reps t; rw [henv t] at this; exact this, inv.ok.world⟩
    have hwl := hx3 (fun e a' w' => ∃ s', Q e s' ∧ Ok cx n s' a' w') (fun s' a' w' hk ok' => ⟨s', hk, ok'⟩) a w hok
    refine tail_any (k0 := k) (by rw [hzl] at hD; exact hD) (l.drop k) k listed a w (Nat.le_refl _) (fun j => by simp [List.getElem?_drop]) (by simp; omega) inv.lsize (fun j hj => ?_) hwl
    by_cases hjk : j < k
    · rw [hall j (by rw [hzl]; exact hjk)]; simp [hjk]
    · have := inv.tail j (by rw [hzl]; omega) hj
      rw [getD_bool (by rw [inv.lsize]; exact hj)] at this
      rw [this]; simp; omega
  have hcount : ((List.range ((l.take k).zip xs).length).filter fun i => !(Array.replicate l.toArray.size false).getD i false).length = k := by
    rw [hzl]
    have : ((List.range k).filter fun i => !(Array.replicate l.toArray.size false).getD i false) = List.range k := by
      rw [List.filter_eq_self]
      intro j _
      rw [getD_rep_false]
      rfl
    rw [this]; simp
  have := head_any hD hlx hx2 hfin k _ a _ hcount inv0
  have hN : k + (l.drop k).length = l.toArray.size := by simp; omega
  rw [hN] at this
  exact this
theorem WP.draw {id k : Nat} {l : List Oper} {Q : Exit → St → Prop} {s : St} (hm : P.follows .mixedOrders = true) (hB : drawB l.toArray k = true)
    (h : dvc P n l.toArray (l.take k) (fun s' => RP P cx n l.toArray (l.drop k) (Q .normal) s') s) : WP P cx n (.region id l.toArray true) Q s :=
  fun a w ok => wp_region_any hm (draw_any hB h ok)
def pureH : Op → Bool
  | .store .. => false
  | .alloc .. => false
  | .box .. => false
  | .buildSlice .. => false
  | .call c => match c.callee with
    | .builtin .append => false
    | .builtin .unsafeString => false
    | _ => true
  | _ => true
def headN : List Oper → Nat
  | [] => 0
  | o :: r => if pureH o.op then headN r + 1 else 0
theorem dvc_mono : ∀ (ops : Array Oper) (l : List Oper) (K K' : St → Prop) (s : St), (∀ s, K s → K' s) → dvc P n ops l K s → dvc P n ops l K' s := by
  intro ops l
  induction l with
  | nil => intro K K' s hk h; exact hk s h
  | cons o r ih =>
    intro K K' s hk h
    obtain ⟨hd, h⟩ := h
    refine ⟨hd, ?_⟩
    split at h
    · split at h
      · exact ⟨h.1, ih _ _ _ hk h.2⟩
      · split at h
        · obtain ⟨h0, x, h1, h2⟩ := h; exact ⟨h0, x, h1, ih _ _ _ hk h2⟩
        · exact h
    · split at h
      · split at h
        · exact ⟨h.1, ih _ _ _ hk h.2⟩
        · split at h
          · obtain ⟨h0, x, h1, h2⟩ := h; exact ⟨h0, x, h1, ih _ _ _ hk h2⟩
          · exact h
      · exact h
theorem WP.drawK {id k : Nat} {l : List Oper} {Q : Exit → St → Prop} {s : St} (hk : headN l = k) (hm : P.follows .mixedOrders = true) (hB : drawB l.toArray k = true)
    (h : dvc P n l.toArray (l.take k) (rvc P n l.toArray (l.drop k) (Q .normal)) s) : WP P cx n (.region id l.toArray true) Q s :=
  WP.draw hm hB (dvc_mono _ _ _ _ _ (fun s hs => rvc_sound _ s hs) h)
/-! ## The way in and out -/
def resv (P : Program) (H : Hp) (env : List (Nat × AV)) : List ResultVar → Prop × List AV
  | [] => (True, [])
  | .tmp t :: r => ((resv P H env r).1, look env t :: (resv P H env r).2)
  | .cell t T :: r => ((loadv P H T (look env t)).1 ∧ (resv P H env r).1, (loadv P H T (look env t)).2 :: (resv P H env r).2)
def resA : List AV → AV
  | [x] => x
  | xs => .tup xs
def Wk (s s' : St) : Prop := ∀ (cx : Cx) (n : Nat) (a : Act) (w : World), Ok cx n s a w → Ok cx n s' a w
def OutQ (P : Program) (rs : List ResultVar) (post : AV → Hp → Prop) (s : St) : Prop :=
  ∃ s', Wk s s' ∧ (resv P s'.H s'.env rs).1 ∧ ∃ F' R, s'.H.Perm (F' ++ R) ∧ post (resA (resv P s'.H s'.env rs).2) F'
def BodyQ (P : Program) (rs : List ResultVar) (post : AV → Hp → Prop) : Exit → St → Prop
  | .normal, s => OutQ P rs post s
  | .ret, s => OutQ P rs post s
  | _, _ => False
theorem OutQ.all {rs : List ResultVar} {post : AV → Hp → Prop} {s : St} (h1 : (resv P s.H s.env rs).1) (h2 : post (resA (resv P s.H s.env rs).2) []) : OutQ P rs post s :=
  ⟨s, fun _ _ _ _ h => h, h1, [], s.H, by simp, h2⟩
theorem OutQ.drop {rs : List ResultVar} {post : AV → Hp → Prop} {s : St} (F' R : Hp) (hp : s.H.Perm (F' ++ R)) (h1 : (resv P s.H s.env rs).1) (h2 : post (resA (resv P s.H s.env rs).2) F') : OutQ P rs post s :=
  ⟨s, fun _ _ _ _ h => h, h1, F', R, hp, h2⟩
theorem OutQ.wk {rs : List ResultVar} {post : AV → Hp → Prop} {s s' : St} (hw : Wk s s') (h : OutQ P rs post s') : OutQ P rs post s := by
  obtain ⟨s2, h1, h2⟩ := h
  exact ⟨s2, fun cx n a w ok => h1 cx n a w (hw cx n a w ok), h2⟩
theorem WP.wk {c : Code} {Q : Exit → St → Prop} {s s' : St} (hw : Wk s s') (h : WP P cx n c Q s') : WP P cx n c Q s := fun a w ok => h a w (hw cx n a w ok)
def frz (b : Nat) (k : IntKind) (zs : List Int) : AV → AV
  | .lit (.slice (some ⟨b', off, none⟩) m cap) => if b' = b then (if off + m ≤ zs.length ∧ m ≤ cap ∧ cap ≤ maxLen then .slz k ((zs.drop off).take m) else .any) else .lit (.slice (some ⟨b', off, none⟩) m cap)
  | x => x
def frzE (b : Nat) (k : IntKind) (zs : List Int) : List (Nat × AV) → List (Nat × AV)
  | [] => []
  | (i, x) :: r => (i, frz b k zs x) :: frzE b k zs r
theorem look_frzE {b : Nat} {k : IntKind} {zs : List Int} : ∀ (env : List (Nat × AV)) (i : Nat), look (frzE b k zs env) i = frz b k zs (look env i)
  | [], _ => rfl
  | (j, x) :: r, i => by
    simp only [frzE, look]
    split
    · rfl
    · exact look_frzE r i
theorem Wk.freeze {env : List (Nat × AV)} {H : Hp} (b : Nat) {k : IntKind} {zs : List Int} {s0 ty : Nat} (hg : hget H b = some (.zs k zs s0 ty)) : Wk ⟨env, H⟩ ⟨frzE b k zs env, hdel H b⟩ := by
  intro cx n a w ok
  obtain ⟨hw, hI, hb⟩ := ok.world.lose (w' := w) (hget_mem hg) rfl rfl rfl rfl (fun _ _ => rfl)
  refine ⟨ok.defers, ok.size, fun i => ?_, hw⟩
  have hr := ok.reps i
  show Rep w _ _ (look (frzE b k zs env) i)
  rw [look_frzE]
  have hr' := hr.mono hI
  generalize (a.tmps.getD i undef) = v at *
  change Rep w (imm cx w (hdel H b)) v (look env i) at hr'
  generalize look env i = x at hr'
  unfold frz
  split
  · rename_i b' off m cap
    split
    · rename_i he
      subst he
      split
      · rename_i hc
        obtain ⟨c1, c2, c3⟩ := hc
        have := hr'.lit_inv
        subst this
        obtain ⟨cur, d1, d2, d3, d4⟩ := ok.world.mem _ (hget_mem hg)
        have hl : ((zs.drop off).take m).length = m := by simp; omega
        have hrr : Rep w (imm cx w (hdel H b')) (.slice (some ⟨b', off, none⟩) ((zs.drop off).take m).length cap) (.slz k ((zs.drop off).take m)) := by
          refine .slz _ _ _ _ (by omega) c3 (.inr ⟨b', off, rfl, hb, fun j hj => ?_⟩)
          have hj' : j < m := by omega
          rw [cell_of_block d1, d4 _ (by omega)]
          have : off + j < zs.length := by omega
          simp [List.getD, hj']
        rw [hl] at hrr
        exact hrr
      · exact .any _
    · exact hr'
  · exact hr'
def argE : Nat → List AV → List (Nat × AV)
  | _, [] => []
  | i, x :: r => (i, x) :: argE (i + 1) r
theorem look_argE : ∀ (l : List AV) (k i : Nat), look (argE k l) i = if k ≤ i then l.getD (i - k) .any else .any
  | [], k, i => by simp [argE, look]
  | x :: r, k, i => by
    simp only [argE, look]
    split
    · rename_i h; subst h; simp
    · rename_i h
      rw [look_argE r (k + 1) i]
      by_cases hk : k ≤ i
      · rw [if_pos hk, if_pos (by omega)]
        rw [show i - k = (i - (k + 1)) + 1 by omega]
        simp
      · rw [if_neg hk, if_neg (by omega)]
theorem rep_resA {w : World} {I : Nat → Prop} : ∀ {vs : List Value} {xs : List AV}, vs.length = xs.length → (∀ i (hi : i < xs.length), Rep w I (vs.getD i undef) xs[i]) →
    Rep w I (if h : vs.toArray.size = 1 then vs.toArray[0] else .tuple vs.toArray) (resA xs)
  | [v], [x], _, h3 => by simpa [resA] using h3 0 (by simp)
  | [], [], _, _ => .tup _ _ rfl fun i hi => by simp at hi
  | v1 :: v2 :: r, x1 :: x2 :: xr, h2, h3 => .tup _ _ (by simpa using h2) fun i hi => by have := h3 i hi; simpa [List.getD] using this
  | [], x :: r, h2, _ => by simp at h2
  | v :: r, [], h2, _ => by simp at h2
  | [v], x1 :: x2 :: r, h2, _ => by simp at h2
  | v1 :: v2 :: r, [x], h2, _ => by simp at h2
theorem results_of {fn : Func} {s : St} {a : Act} {w : World} (ok : Ok cx n s a w) (h : (resv P s.H s.env fn.results.toList).1) :
    ∃ v, (results fn a.tmps).run P w = .ok v w ∧ Rep w (imm cx w s.H) v (resA (resv P s.H s.env fn.results.toList).2) := by
  have key : ∀ (rs : List ResultVar), (resv P s.H s.env rs).1 → ∃ vs : List Value, (rs.mapM fun (r : ResultVar) => (match r with
      | .tmp t => pure (a.tmps.getD t undef)
      | .cell c t => do loadVar t (← asAddr (a.tmps.getD c undef)) : Sem Value)).run P w = .ok vs w ∧ vs.length = (resv P s.H s.env rs).2.length ∧
        ∀ i (hi : i < (resv P s.H s.env rs).2.length), Rep w (imm cx w s.H) (vs.getD i undef) (resv P s.H s.env rs).2[i] := by
    intro rs
    induction rs with
    | nil => intro _; exact ⟨[], by simp, rfl, fun i hi => by simp [resv] at hi⟩
    | cons r rs ih =>
      intro h
      cases r with
      | tmp t =>
        obtain ⟨vs, h1, h2, h3⟩ := ih h
        refine ⟨a.tmps.getD t undef :: vs, by simp only [List.mapM_cons, Sem.run_bind, Sem.run_pure, Result.andThen_ok, h1], by simp [resv, h2], fun i hi => ?_⟩
        cases i with
        | zero => simpa [resv] using ok.reps t
        | succ i => simpa [resv] using h3 i (by simpa [resv] using hi)
      | cell c t =>
        obtain ⟨vs, h1, h2, h3⟩ := ih h.2
        obtain ⟨ad, u, e1, e2, e3⟩ := run_loadVar_of (P := P) ok.world (ok.reps c) h.1
        refine ⟨u :: vs, by
            have hA : (asAddr (.pointer (some ad))).run P w = .ok ad w := rfl
            rw [List.mapM_cons]
            simp only [Sem.run_bind]
            rw [e1, hA]
            simp only [Result.andThen_ok, e2]
            rw [h1]
            rfl, by simp [resv, h2], fun i hi => ?_⟩
        cases i with
        | zero => simpa [resv] using e3
        | succ i => simpa [resv] using h3 i (by simpa [resv] using hi)
  obtain ⟨vs, h1, h2, h3⟩ := key _ h
  have hrun : (results fn a.tmps).run P w = .ok (if h : vs.toArray.size = 1 then vs.toArray[0] else .tuple vs.toArray) w := by
    unfold results
    simp only [Sem.run_bind, Array.mapM_eq_mapM_toList, Sem.run_map]
    exact congrArg (fun r : Result (List Value) => (r.andThen fun a w' => Result.ok a.toArray w').andThen fun a w' => Sem.run P (pure (if h : a.size = 1 then a[0] else Value.tuple a)) w') h1
  refine ⟨_, hrun, ?_⟩
  exact rep_resA h2 h3
theorem ACt.intro {f : FuncId} {fn : Func} {c : Code} {args : List AV} {F : Hp} {post : AV → Hp → Prop} (hf : P.funcs[f]? = some fn) (hb : fn.body = some c) (hname : (fn.name == "runtime.NumGoroutine") = false)
    (hn : args.length ≤ fn.ntmps) (h : ∀ cx : Cx, WP P cx fn.ntmps c (BodyQ P fn.results.toList post) ⟨argE 0 args, F⟩) : ACt P f args F post := by
  intro cx vs hK hKT hw hs hv
  refine .inl ⟨?_, ?_⟩
  · simp [callFunc, program, Sem.run, hf, hb]
    simpa using hname
  · refine calls_of_wp hf hb ?_
    have hK' : ∀ b, b ∈ cx.K → ∃ x ∈ F, x.1 = b := fun b hb => by rw [hK] at hb; exact List.mem_map.1 hb
    have ok : Ok cx fn.ntmps ⟨argE 0 args, F⟩ { tmps := vs ++ Array.replicate (fn.ntmps - vs.size) undef, defers := [] } cx.w0 := by
      refine ⟨rfl, by simp; omega, fun i => ?_, hw⟩
      rw [look_argE]
      simp only [Nat.zero_le, if_true, Nat.sub_zero]
      by_cases hi : i < args.length
      · have := hv i hi
        have hi' : i < vs.size := by omega
        have e : (vs ++ Array.replicate (fn.ntmps - vs.size) undef).getD i undef = vs.getD i undef := by simp [Array.getElem?_append, hi']
        rw [e]
        exact this.mono fun b hb => ⟨.inl hb, rfl⟩
      · have : args.getD i .any = .any := by simp [List.getD, List.getElem?_eq_none (Nat.le_of_not_lt hi)]
        rw [this]
        exact .any _
    refine Go.wp_mono (h cx _ _ ok) ?_
    rintro e a w ⟨s, q, ok'⟩
    have fin : OutQ P fn.results.toList post s → a.defers = [] ∧ ∃ v, (results fn a.tmps).run P w = .ok v w ∧ ∃ v' r F', Ending.returned v = .returned v' ∧ post r F' ∧ OkW cx F' w ∧ Rep w (imm cx w F') v' r := by
      rintro ⟨s', hwk, q1, F', R, hp, q2⟩
      have ok2 := hwk _ _ _ _ ok'
      obtain ⟨v, r1, r2⟩ := results_of ok2 q1
      have hd := (ok2.world.perm hp).drop
      exact ⟨ok'.defers, v, r1, v, _, F', rfl, q2, hd.1, r2.mono fun b hb => ⟨hd.2 b ((imm_perm hp).1 hb), rfl⟩⟩
    cases e with
    | normal => exact fin q
    | ret => exact fin q
    | exit id => exact q.elim
    | goto l => exact q.elim
    | panic ch => exact q.elim
    | outgrown => exact q.elim
end
theorem ACt.law {P : Program} {f : FuncId} {args : List AV} (h : ACt P f args [] fun r _ => r = bv true) (hb : ((P.funcs[f]?).any fun fn => fn.body.isSome && !(fn.name == "runtime.NumGoroutine")) = true) {w : World} {vs : Array Value} (hs : vs.size = args.length)
    (hv : ∀ i, i < args.length → Rep w (fun b => b < w.heap.size) (vs.getD i undef) (args.getD i .any)) :
    Calls P f vs w fun e w' => e = .returned (.bool true) ∧ Go.RowKit.Below w.heap.size w w' := by
  have := h ⟨w, fun b => b < w.heap.size, [], [], fun b hb => ⟨hb, by simp⟩, fun b hb => by simp at hb⟩ vs rfl rfl ⟨by simp, fun x hx => by simp at hx, fun x hx => by simp at hx, ⟨rfl, rfl, rfl, Nat.le_refl _, fun _ _ _ => rfl⟩, fun x hx => by simp at hx⟩ hs hv
  obtain ⟨fn, hf, hb⟩ : ∃ fn, P.funcs[f]? = some fn ∧ (fn.body.isSome && !(fn.name == "runtime.NumGoroutine")) = true := by
    cases e : P.funcs[f]? with
    | none => rw [e] at hb; cases hb
    | some fn => exact ⟨fn, rfl, by rw [e] at hb; exact hb⟩
  have hcl : (callFunc f vs).run P w = .ok (.enter f vs) w := by
    simp at hb
    obtain ⟨h1, h2⟩ := hb
    obtain ⟨c, hc⟩ := Option.isSome_iff_exists.1 h1
    simp [callFunc, program, Sem.run, hf, hc, h2]
  rcases Or.symm this with ⟨v, w', h1, _⟩ | ⟨_, this⟩
  · exact absurd (h1.symm.trans hcl) (by simp)
  refine this.mono ?_
  rintro e w' ⟨v, r, F', rfl, rfl, hw, hr⟩
  rw [hr.lit_inv]
  exact ⟨rfl, ⟨hw.ext.os, hw.ext.tape, hw.ext.output, hw.ext.size, fun k hk => hw.ext.blk k hk (by simp)⟩⟩
end Go.Proofs.YtdkkfgcdnojmaaaDoor
namespace Go.Proofs.YtdkkfgcdnojmaaaDoor
open Go
set_option linter.unusedSimpArgs false
theorem drop_getD0 {α : Type} (l : List α) (i : Nat) (d : α) : (l.drop i).getD 0 d = l.getD i d := by simp [List.getD]
theorem fresh_nil (b : Nat) : fresh [] b = True := by simp [fresh]
theorem fresh_cons (b0 : Nat) (m : MB) (H : Hp) (b : Nat) : fresh ((b0, m) :: H) b = ((b0 ≠ b ∧ b ≠ b0) ∧ fresh H b) := by simp [fresh]
theorem freshBut_nil (b b' : Nat) : freshBut [] b b' = True := by simp [freshBut]
theorem freshBut_cons (b0 : Nat) (m : MB) (H : Hp) (b b' : Nat) : freshBut ((b0, m) :: H) b b' = ((b0 = b ∨ (b0 ≠ b' ∧ b' ≠ b0)) ∧ freshBut H b b') := by simp [freshBut]
theorem intsA_map (k : IntKind) : ∀ l : List Int, intsA k (l.map (iv k)) = some l
  | [] => rfl
  | x :: r => by simp only [List.map_cons, intsA, if_true, intsA_map k r, Option.map_some]
theorem wrap_i64 {n : Int} (h1 : -9223372036854775808 ≤ n) (h2 : n ≤ 9223372036854775807) : IntKind.i64.wrap n = n := by
  simp only [IntKind.wrap, IntKind.bits, IntKind.signed]
  simp
  omega
theorem wrap_u64 {n : Int} (h1 : 0 ≤ n) (h2 : n ≤ 18446744073709551615) : IntKind.u64.wrap n = n := by
  simp only [IntKind.wrap, IntKind.bits, IntKind.signed]
  simp
  omega
theorem wrap_u32 {n : Int} (h1 : 0 ≤ n) (h2 : n ≤ 4294967295) : IntKind.u32.wrap n = n := by
  simp only [IntKind.wrap, IntKind.bits, IntKind.signed]
  simp
  omega
theorem wrap_u8 {n : Int} (h1 : 0 ≤ n) (h2 : n ≤ 255) : IntKind.u8.wrap n = n := by
  simp only [IntKind.wrap, IntKind.bits, IntKind.signed]
  simp
  omega
end Go.Proofs.YtdkkfgcdnojmaaaDoor
