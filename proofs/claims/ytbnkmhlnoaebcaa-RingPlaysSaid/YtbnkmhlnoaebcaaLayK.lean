/-
  Regions that draw their order: operations that only compute may come in any order; what is left comes behind them, in the text's order.
-/
import Derived.Test.YtbnkmhlnoaebcaaLayJ
namespace Go.Proofs.Ytbnkmhlnoaebcaa
open Go
set_option linter.unusedSimpArgs false
set_option linter.unusedVariables false

section
variable {P : Program} {cx : Cx} {n : Nat} {ops : Array Oper}

/-- A call that only computes. -/
def dcall (P : Program) (s : St) (op : Op) (x : AV) : Prop :=
  match op with
  | .call cl => match cl.callee with
    | .value (.func f) => (ogs s.env cl.args.toList).1 ∧ DCt P f (ogs s.env cl.args.toList).2 s.H x
    | .invoke rc m => match (og s.env rc).2 with
      | .ifc t y => match mthOf P t m with
        | some f => (og s.env rc).1 ∧ (ogs s.env cl.args.toList).1 ∧ DCt P f (y :: (ogs s.env cl.args.toList).2) s.H x
        | none => False
      | _ => False
    | _ => False
  | _ => False

theorem dcall_of {P : Program} {s : St} {op : Op} {q : Prop × FuncId × List AV} {x : AV} (h : calleeOf P s.env op = some q) (hq : q.1) (hct : DCt P q.2.1 q.2.2 s.H x) : dcall P s op x := by
  unfold calleeOf at h
  split at h
  · rename_i c
    unfold dcall
    simp only
    split at h
    · rename_i f hf
      cases h
      simp only [hf]
      exact ⟨hq, hct⟩
    · rename_i rc m hf
      split at h
      · rename_i t y hrc
        split at h
        · rename_i f hm
          cases h
          simp only [hf, hrc, hm]
          exact ⟨hq.1, hq.2, hct⟩
        · cases h
      · cases h
    · cases h
  · cases h

def dvc (P : Program) (n : Nat) (ops : Array Oper) : List Oper → (St → Prop) → St → Prop
  | [], K, s => K s
  | o :: rest, K, s => okd n o.dst ∧ match o.guard with
    | none => match pev P s.H s.env o.op with
      | some r => r.1 ∧ dvc P n ops rest K (s.put o.dst r.2)
      | none => match calleeOf P s.env o.op with
        | some q => q.1 ∧ ExF P q.2.1 q.2.2 s.H fun x => dvc P n ops rest K (s.put o.dst x)
        | none => False
    | some (j, want) => match gdOf s.env ops j want with
      | some c => match pev P s.H s.env o.op with
        | some r => (c = true → r.1) ∧ dvc P n ops rest K (s.put o.dst (.gd c r.2))
        | none => match calleeOf P s.env o.op with
          | some q => (c = true → q.1) ∧ ExG c P q.2.1 q.2.2 s.H fun x => dvc P n ops rest K (s.put o.dst (.gd c x))
          | none => False
      | none => False

/-- In whatever order: an operation that looks at these slots yields this. -/
def Stdy (P : Program) (cx : Cx) (n : Nat) (ops : Array Oper) (o : Oper) (env : List (Nat × AV)) (H : Hp) (x : AV) : Prop :=
  okd n o.dst ∧ ∀ (a : Act) (w : World) (X : Act → World → Prop) (R : Exit → Act → World → Prop), a.defers = [] → a.tmps.size = n → OkW cx H w →
    (∀ t ∈ o.looksAt ops, Rep w (imm cx w H) (a.tmps.getD t undef) (look env t)) →
    (∀ v w', Rep w' (imm cx w' H) v x → OkW cx H w' → (∀ c, imm cx w H c → imm cx w' H c ∧ w'.heap[c]? = w.heap[c]?) → X (a.put o.dst v) w') →
    if Region.wanted o (yielded ops a.tmps) then o.wp P a w X R else X (a.put o.dst undef) w

def renv (env : List (Nat × AV)) (ts : List Nat) : List (Nat × AV) := ts.map fun t => (t, look env t)

theorem look_renv {env : List (Nat × AV)} : ∀ {ts : List Nat} {t : Nat}, (t ∈ ts → look (renv env ts) t = look env t) ∧ (t ∉ ts → look (renv env ts) t = .any)
  | [], t => ⟨fun h => by simp at h, fun _ => rfl⟩
  | t' :: ts, t => by
    have ih := look_renv (env := env) (ts := ts) (t := t)
    simp only [renv, List.map_cons, look]
    by_cases h : t = t'
    · subst h; simp
    · simp only [if_neg h, List.mem_cons, h, false_or]
      exact ih

theorem opd_congr {env env' : List (Nat × AV)} {x : Operand} (h : ∀ t, x = .tmp t → look env t = look env' t) : opd env x = opd env' x := by
  cases x <;> simp only [opd]
  exact h _ rfl

theorem og_congr {env env' : List (Nat × AV)} {x : Operand} (h : opd env x = opd env' x) : og env x = og env' x := by unfold og; rw [h]

theorem ogs_congr {env env' : List (Nat × AV)} : ∀ {l : List Operand}, (∀ x ∈ l, opd env x = opd env' x) → ogs env l = ogs env' l
  | [], _ => rfl
  | x :: r, h => by
    simp only [ogs]
    rw [og_congr (h x (List.mem_cons_self ..)), ogs_congr fun y hy => h y (List.mem_cons_of_mem _ hy)]

theorem ogp_congr {env env' : List (Nat × AV)} : ∀ {l : List (Nat × Operand)}, (∀ x ∈ l, opd env x.2 = opd env' x.2) → ogp env l = ogp env' l
  | [], _ => rfl
  | (i, x) :: r, h => by
    simp only [ogp]
    rw [og_congr (h (i, x) (List.mem_cons_self ..)), ogp_congr fun y hy => h y (List.mem_cons_of_mem _ hy)]

theorem ogo_congr {env env' : List (Nat × AV)} {x : Option Operand} (h : ∀ y, x = some y → opd env y = opd env' y) : ogo env x = ogo env' x := by
  cases x with
  | none => rfl
  | some y => simp only [ogo]; rw [og_congr (h y rfl)]

theorem pev_congr {H : Hp} {env env' : List (Nat × AV)} {op : Op} (h : ∀ x ∈ op.operands, opd env x = opd env' x) : pev P H env op = pev P H env' op := by
  cases op <;> simp only [Op.operands] at h <;> simp only [pev]
  case move x => rw [og_congr (h x (by simp))]
  case assign x => rw [og_congr (h x (by simp))]
  case pick c a b => rw [og_congr (h c (by simp)), h a (by simp), h b (by simp)]
  case binOp op T x y T' => rw [og_congr (h x (by simp)), og_congr (h y (by simp))]
  case unOp op T x => rw [og_congr (h x (by simp))]
  case convert s d x => rw [og_congr (h x (by simp))]
  case nilCheck x => rw [og_congr (h x (by simp))]
  case fieldAddr T x f => rw [og_congr (h x (by simp))]
  case field T x f => rw [og_congr (h x (by simp))]
  case indexAddr T x i => rw [og_congr (h x (by simp)), og_congr (h i (by simp))]
  case index T x i => rw [og_congr (h x (by simp)), og_congr (h i (by simp))]
  case load T x => rw [og_congr (h x (by simp))]
  case extract T x => rw [og_congr (h _ (by simp))]
  case makeInterface T x => rw [og_congr (h x (by simp))]
  case build T parts =>
    rw [ogp_congr (env' := env') fun x hx => h x.2 (by simp; exact ⟨x.1, by simpa using hx⟩)]
  case slice T x lo hi mx =>
    cases mx with
    | some m => rfl
    | none =>
      simp only [pev]
      rw [og_congr (h x (by simp)), ogo_congr (x := lo) fun y hy => h y (by simp [hy]), ogo_congr (x := hi) fun y hy => h y (by simp [hy])]
  case call c =>
    cases hc : c.callee with
    | builtin b =>
      simp only
      rw [ogs_congr (env' := env') fun x hx => h x (by simp [Call.operands, hc]; simpa using hx)]
    | _ => rfl

theorem dcall_congr {s s' : St} {op : Op} {x : AV} (hH : s.H = s'.H) (h : ∀ x ∈ op.operands, opd s.env x = opd s'.env x) : dcall P s op x ↔ dcall P s' op x := by
  cases op <;> simp only [dcall, hH]
  rename_i c
  cases hc : c.callee with
  | value f =>
    cases f <;> simp only
    rw [ogs_congr (env' := s'.env) fun x hx => h x (by simp [Op.operands, Call.operands, hc]; exact .inr (by simpa using hx))]
  | invoke rc m =>
    simp only
    rw [ogs_congr (env' := s'.env) fun x hx => h x (by simp [Op.operands, Call.operands, hc]; exact .inr (by simpa using hx)), og_congr (x := rc) (h rc (by simp [Op.operands, Call.operands, hc]))]
  | _ => rfl

theorem ok_renv {o : Oper} {env : List (Nat × AV)} {H : Hp} {a : Act} {w : World} (hd : a.defers = []) (hs : a.tmps.size = n) (hw : OkW cx H w)
    (hr : ∀ t ∈ o.looksAt ops, Rep w (imm cx w H) (a.tmps.getD t undef) (look env t)) : Ok cx n ⟨renv env (o.looksAt ops), H⟩ a w := by
  refine ⟨hd, hs, fun i => ?_, hw⟩
  by_cases hi : i ∈ o.looksAt ops
  · rw [(look_renv (env := env)).1 hi]; exact hr i hi
  · rw [(look_renv (env := env)).2 hi]; exact .any _

theorem opd_renv {o : Oper} {env : List (Nat × AV)} : ∀ x ∈ o.op.operands, opd env x = opd (renv env (o.looksAt ops)) x := by
  intro x hx
  refine opd_congr fun t ht => ?_
  subst ht
  exact ((look_renv (env := env)).1 (List.mem_append_left _ (List.mem_filterMap.2 ⟨Operand.tmp t, by simpa using hx, rfl⟩))).symm

theorem gdOf_renv {o : Oper} {env : List (Nat × AV)} {j : Nat} {want : Bool} (hg : o.guard = some (j, want)) : gdOf (renv env (o.looksAt ops)) ops j want = gdOf env ops j want := by
  unfold gdOf
  cases hd : (ops[j]?).bind (·.dst) with
  | none => rfl
  | some d =>
    simp only
    rw [(look_renv (env := env)).1]
    unfold Oper.looksAt
    rw [hg]
    simp only [List.mem_append]
    exact .inr (by simp [hd])

theorem stdy_pev {o : Oper} {env : List (Nat × AV)} {H : Hp} {r : Prop × AV} (hd : okd n o.dst) (hg : o.guard = none) (hr : pev P H env o.op = some r) (hob : r.1) : Stdy P cx n ops o env H r.2 := by
  refine ⟨hd, fun a w X R h1 h2 h3 h4 h5 => ?_⟩
  have ok := ok_renv h1 h2 h3 h4
  rw [if_pos (by simp [Region.wanted, hg])]
  obtain ⟨v, hv, hrep⟩ := pev_sound (n := n) (cx := cx) (s := ⟨renv env (o.looksAt ops), H⟩) (by rw [← pev_congr opd_renv]; exact hr) hob a w ok
  unfold Oper.wp
  rw [hv]
  exact h5 v w hrep h3 fun c hc => ⟨hc, rfl⟩

theorem stdy_pevG {o : Oper} {env : List (Nat × AV)} {H : Hp} {r : Prop × AV} {j : Nat} {want c : Bool} (hd : okd n o.dst) (hg : o.guard = some (j, want)) (hc : gdOf env ops j want = some c)
    (hr : pev P H env o.op = some r) (hob : c = true → r.1) : Stdy P cx n ops o env H (.gd c r.2) := by
  refine ⟨hd, fun a w X R h1 h2 h3 h4 h5 => ?_⟩
  have ok := ok_renv h1 h2 h3 h4
  rw [wanted_of_gd ok hg (by rw [gdOf_renv hg]; exact hc)]
  cases c with
  | true =>
    rw [if_pos rfl]
    obtain ⟨v, hv, hrep⟩ := pev_sound (n := n) (cx := cx) (s := ⟨renv env (o.looksAt ops), H⟩) (by rw [← pev_congr opd_renv]; exact hr) (hob rfl) a w ok
    unfold Oper.wp
    rw [hv]
    exact h5 v w (.gdt _ _ hrep) h3 fun c hc => ⟨hc, rfl⟩
  | false =>
    rw [if_neg (by simp)]
    exact h5 undef w (.gdf _) h3 fun c hc => ⟨hc, rfl⟩

theorem dcall_wp {o : Oper} {s : St} {x : AV} {a : Act} {w : World} {X : Act → World → Prop} {R : Exit → Act → World → Prop} (ok : Ok cx n s a w) (h : dcall P s o.op x)
    (h5 : ∀ v w', Rep w' (imm cx w' s.H) v x → OkW cx s.H w' → (∀ c, imm cx w s.H c → imm cx w' s.H c ∧ w'.heap[c]? = w.heap[c]?) → X (a.put o.dst v) w') : o.wp P a w X R := by
  obtain ⟨dst, op, type, pos, after, guard⟩ := o
  simp only at h h5
  unfold dcall at h
  split at h
  · rename_i cl
    obtain ⟨callee, args, ts⟩ := cl
    simp only at h
    split at h
    · rename_i f
      obtain ⟨hob, hct⟩ := h
      have hlen := ogs_length (env := s.env) args.toList
      have := run_dct (vs := args.map a.eval) ok hct
        (by rw [hlen]; simp) (fun i hi => by
          have := ok.ogs hob i (by rw [hlen] at hi; exact hi)
          simpa [List.getD] using this)
      unfold Oper.wp
      have hrun : (execOp a.eval ⟨dst, .call ⟨.value (.func f), args, ts⟩, type, pos, after, guard⟩).run P w = (callFunc f (args.map a.eval)).run P w := by
        simp only [execOp, resolve, Act.eval, Deferred.ofValue, Sem.run_bind, Sem.run_pure, Result.andThen_ok, invoke, Array.append_empty, Array.empty_append]
        try simp
      refine this.upon hrun ?_
      rintro e w' ⟨v, rfl, hrep, c1, c2⟩
      exact ⟨_, rfl, h5 v w' hrep c1 c2⟩
    · rename_i rc m
      split at h
      · rename_i t y hrc
        split at h
        · rename_i f hf
          obtain ⟨hob1, hob, hct⟩ := h
          have hlen := ogs_length (env := s.env) args.toList
          have hrv := ok.og hob1
          rw [hrc] at hrv
          obtain ⟨u, hu, hur⟩ : ∃ u, a.eval rc = .iface t u ∧ Rep w (imm cx w s.H) u y := by
            generalize a.eval rc = z at hrv
            cases hrv with
            | ifc _ u _ r => exact ⟨u, rfl, r⟩
          have := run_dct (vs := #[u] ++ args.map a.eval) ok hct
            (by simp [hlen]; omega) (fun i hi => by
              cases i with
              | zero => simpa only [Array.getD_eq_getD_getElem?, app1_get?, if_true, Option.getD_some, List.getD_cons_zero] using hur
              | succ i =>
                have := ok.ogs hob i (by simp [hlen] at hi; simpa using hi)
                simpa [List.getD, app1_get?] using this)
          unfold Oper.wp
          have hrun : (execOp a.eval ⟨dst, .call ⟨.invoke rc m, args, ts⟩, type, pos, after, guard⟩).run P w = (callFunc f (#[u] ++ args.map a.eval)).run P w := by
            simp only [execOp, resolve, Sem.run_bind, Sem.run_pure, Result.andThen_ok, hu]
            rw [run_invoke hf]
          refine this.upon hrun ?_
          rintro e w' ⟨v, rfl, hrep, c1, c2⟩
          exact ⟨_, rfl, h5 v w' hrep c1 c2⟩
        · exact h.elim
      · exact h.elim
    · exact h.elim
  · exact h.elim

/-- With more blocks of ours beside it. -/
theorem dcall_app {env : List (Nat × AV)} {H E : Hp} {op : Op} {x : AV} (h : dcall P ⟨env, H⟩ op x) : dcall P ⟨env, E ++ H⟩ op x := by
  unfold dcall at h ⊢
  split at h
  · rename_i cl
    split at h
    · rename_i f hf
      simp only [hf]
      exact ⟨h.1, h.2.app E⟩
    · rename_i rc m hf
      split at h
      · rename_i t y hrc
        split at h
        · rename_i f hm
          simp only [hf, hrc, hm]
          exact ⟨h.1, h.2.1, h.2.2.app E⟩
        · exact h.elim
      · exact h.elim
    · exact h.elim
  · exact h.elim

theorem stdy_call {o : Oper} {env : List (Nat × AV)} {H : Hp} {x : AV} (hd : okd n o.dst) (hg : o.guard = none) (h : dcall P ⟨env, H⟩ o.op x) : Stdy P cx n ops o env H x := by
  refine ⟨hd, fun a w X R h1 h2 h3 h4 h5 => ?_⟩
  have ok := ok_renv h1 h2 h3 h4
  rw [if_pos (by simp [Region.wanted, hg])]
  exact dcall_wp ok ((dcall_congr (s := ⟨env, H⟩) (s' := ⟨renv env (o.looksAt ops), H⟩) rfl opd_renv).1 h) h5

theorem stdy_callG {o : Oper} {env : List (Nat × AV)} {H : Hp} {x : AV} {j : Nat} {want c : Bool} (hd : okd n o.dst) (hg : o.guard = some (j, want)) (hc : gdOf env ops j want = some c)
    (h : c = true → dcall P ⟨env, H⟩ o.op x) : Stdy P cx n ops o env H (.gd c x) := by
  refine ⟨hd, fun a w X R h1 h2 h3 h4 h5 => ?_⟩
  have ok := ok_renv h1 h2 h3 h4
  rw [wanted_of_gd ok hg (by rw [gdOf_renv hg]; exact hc)]
  cases c with
  | true =>
    rw [if_pos rfl]
    exact dcall_wp ok ((dcall_congr (s := ⟨env, H⟩) (s' := ⟨renv env (o.looksAt ops), H⟩) rfl opd_renv).1 (h rfl)) fun v w' hv => h5 v w' (.gdt _ _ hv)
  | false =>
    rw [if_neg (by simp)]
    exact h5 undef w (.gdf _) h3 fun c hc => ⟨hc, rfl⟩

/-! ### The slots, some operations done, some not -/

def putE (env : List (Nat × AV)) (d : Option Tmp) (x : AV) : List (Nat × AV) :=
  match d with
  | some d => (d, x) :: env
  | none => env

theorem put_eq (s : St) (d : Option Tmp) (x : AV) : s.put d x = ⟨putE s.env d x, s.H⟩ := by cases d <;> rfl

def envL (f : Nat → Bool) : List (Oper × AV) → Nat → List (Nat × AV) → List (Nat × AV)
  | [], _, env => env
  | (o, x) :: r, k, env => envL f r (k + 1) (if f k then putE env o.dst x else env)

theorem look_putE {env : List (Nat × AV)} {d : Option Tmp} {x : AV} {t : Nat} : look (putE env d x) t = if d = some t then x else look env t := by
  cases d with
  | none => simp [putE]
  | some d =>
    simp only [putE, look, Option.some.injEq]
    by_cases h : t = d
    · subst h; simp
    · rw [if_neg h, if_neg fun h' => h h'.symm]

theorem envL_congr {f g : Nat → Bool} {t : Nat} : ∀ (l : List (Oper × AV)) (k : Nat) (env env' : List (Nat × AV)), look env t = look env' t →
    (∀ i o x, l[i]? = some (o, x) → o.dst = some t → f (k + i) = g (k + i)) → look (envL f l k env) t = look (envL g l k env') t
  | [], _, _, _, h, _ => h
  | (o, x) :: r, k, env, env', h, hw => by
    refine envL_congr r (k + 1) _ _ ?_ fun i o' x' hi hd => by have := hw (i + 1) o' x' (by simpa using hi) hd; rwa [show k + 1 + i = k + (i + 1) by omega]
    by_cases hd : o.dst = some t
    · have := hw 0 o x rfl hd
      rw [show f k = g k from this]
      split
      · rw [look_putE, look_putE, if_pos hd, if_pos hd]
      · exact h
    · split <;> split <;> (try simp only [look_putE, if_neg hd]) <;> exact h

/-- Up to the i-th, in the text's order. -/
theorem envL_at {t : Nat} : ∀ (l : List (Oper × AV)) (k i : Nat) (env : List (Nat × AV)) (o : Oper) (x : AV), l[i]? = some (o, x) → o.dst = some t →
    look (envL (fun j => decide (j < k + i + 1)) l k env) t = x
  | [], _, _, _, _, _, h, _ => by simp at h
  | (o', x') :: r, k, 0, env, o, x, h, hd => by
    simp at h
    obtain ⟨rfl, rfl⟩ := h
    simp only [envL]
    have : look (envL (fun j => decide (j < k + 0 + 1)) r (k + 1) (if decide (k < k + 0 + 1) = true then putE env o'.dst x' else env)) t = look (envL (fun _ => false) r (k + 1) (putE env o'.dst x')) t :=
      envL_congr r (k + 1) _ _ (by rw [if_pos (by simp)]) fun i _ _ _ _ => by simp
    rw [this]
    have hno : ∀ (l : List (Oper × AV)) (k : Nat) (env : List (Nat × AV)), envL (fun _ => false) l k env = env := by
      intro l
      induction l with
      | nil => intro k env; rfl
      | cons p r ih => intro k env; obtain ⟨o, x⟩ := p; simp only [envL]; exact ih _ _
    rw [hno, look_putE, if_pos hd]
  | (o', x') :: r, k, i + 1, env, o, x, h, hd => by
    simp only [envL]
    have := envL_at r (k + 1) i (if decide (k < k + (i + 1) + 1) = true then putE env o'.dst x' else env) o x (by simpa using h) hd
    rwa [show k + 1 + i + 1 = k + (i + 1) + 1 by omega] at this

/-- Every one of them is steady where the text has it. -/
def Seqv (P : Program) (cx : Cx) (n : Nat) (ops : Array Oper) (H : Hp) (lx : List (Oper × AV)) (env : List (Nat × AV)) : Prop :=
  ∀ i o x, lx[i]? = some (o, x) → Stdy P cx n ops o (envL (fun j => decide (j < i)) lx 0 env) H x

theorem envL_shift {f : Nat → Bool} : ∀ (l : List (Oper × AV)) (k : Nat) (env : List (Nat × AV)), envL f l (k + 1) env = envL (fun j => f (j + 1)) l k env
  | [], _, _ => rfl
  | (o, x) :: r, k, env => by simp only [envL]; exact envL_shift r (k + 1) _

theorem dvc_seqv {K : St → Prop} : ∀ (l : List Oper) (s : St), dvc P n ops l K s → ∃ xs : List AV, xs.length = l.length ∧ Seqv P cx n ops s.H (l.zip xs) s.env ∧
    K ⟨envL (fun _ => true) (l.zip xs) 0 s.env, s.H⟩
  | [], s, h => ⟨[], rfl, fun i o x h => by simp at h, h⟩
  | o :: rest, s, ⟨hd, h⟩ => by
    have step : ∀ x, Stdy P cx n ops o s.env s.H x → dvc P n ops rest K (s.put o.dst x) → ∃ xs : List AV, xs.length = (o :: rest).length ∧ Seqv P cx n ops s.H ((o :: rest).zip xs) s.env ∧
        K ⟨envL (fun _ => true) ((o :: rest).zip xs) 0 s.env, s.H⟩ := by
      intro x hx hr
      obtain ⟨xs, h1, h2, h3⟩ := dvc_seqv rest _ hr
      rw [put_eq] at h2 h3
      refine ⟨x :: xs, by simp [h1], fun i o' x' hi => ?_, ?_⟩
      · cases i with
        | zero =>
          simp at hi
          obtain ⟨rfl, rfl⟩ := hi
          have : envL (fun j => decide (j < 0)) ((o :: rest).zip (x :: xs)) 0 s.env = s.env := by
            have hno : ∀ (l : List (Oper × AV)) (k : Nat) (env : List (Nat × AV)), envL (fun j => decide (j < 0)) l k env = env := by
              intro l
              induction l with
              | nil => intro k env; rfl
              | cons p r ih => intro k env; obtain ⟨o, x⟩ := p; simp only [envL]; exact ih _ _
            exact hno _ _ _
          rw [this]
          exact hx
        | succ i =>
          have := h2 i o' x' (by simpa using hi)
          simp only [List.zip_cons_cons, envL, Nat.zero_lt_succ, decide_true, if_true, envL_shift]
          simpa using this
      · simp only [List.zip_cons_cons, envL, if_true, envL_shift]
        exact h3
    split at h
    · rename_i hg
      split at h
      · rename_i r hr
        exact step r.2 (stdy_pev hd hg hr h.1) h.2
      · split at h
        · rename_i q hq
          obtain ⟨hob, x, h1, h2⟩ := h
          exact step x (stdy_call hd hg (dcall_of (s := s) hq hob h1)) h2
        · exact h.elim
    · rename_i j want hg
      split at h
      · rename_i c hc
        split at h
        · rename_i r hr
          exact step _ (stdy_pevG hd hg hc hr h.1) h.2
        · split at h
          · rename_i q hq
            obtain ⟨hob, x, h1, h2⟩ := h
            exact step _ (stdy_callG hd hg hc fun hct => dcall_of (s := s) hq (hob hct) (h1 hct)) h2
          · exact h.elim
      · exact h.elim

/-! ### What is asked of a region's edges -/

def waits (o : Oper) (j : Nat) : Bool := o.after.any fun e => Region.binds .any e && e.on == j

/-- The i-th waits for the j-th, at once or through others. -/
def reach (ops : Array Oper) : Nat → Nat → Nat → Bool
  | 0, i, j => match ops[i]? with | some oi => waits oi j | none => false
  | f + 1, i, j => match ops[i]? with | some oi => waits oi j || (List.range i).any (fun m => waits oi m && reach ops f m j) | none => false

/-- The first k operations may come in whatever order their edges allow; each that looks at a slot waits for those that write it ahead of it, and those behind wait for it. The others come one behind the other. -/
def drawB (ops : Array Oper) (k : Nat) : Bool :=
  decide (k ≤ ops.size) &&
  (List.range ops.size).all fun i => match ops[i]? with
    | none => false
    | some oi =>
      oi.after.all (fun e => !Region.binds .any e || decide (e.on < i)) &&
      (decide (i < k) || (List.range i).all (reach ops 6 i)) &&
      (List.range k).all fun j => match ops[j]? with
        | none => false
        | some oj => match oj.dst with
          | none => true
          | some t => decide (i = j) || !((oi.looksAt ops).contains t || oi.dst == some t) || (decide (j < i) && waits oi j) || (decide (i < j) && waits oj i)

theorem waits_spec {o : Oper} {j : Nat} (h : waits o j = true) : ∃ e ∈ o.after, Region.binds .any e = true ∧ e.on = j := by
  obtain ⟨e, he, hb⟩ := Array.any_eq_true'.1 h
  simp only [Bool.and_eq_true, beq_iff_eq] at hb
  exact ⟨e, he, hb.1, hb.2⟩

/-- Whatever has come up, all that it waits for has. -/
def Closed (ops : Array Oper) (listed : Array Bool) : Prop := ∀ (j : Nat) oj, ops[j]? = some oj → listed.getD j false = true → ∀ i, waits oj i = true → listed.getD i false = true

theorem ready_waits {listed : Array Bool} {i j : Nat} {oi : Oper} (hi : i ∈ Region.ready .any ops listed) (hoi : ops[i]? = some oi) (hw : waits oi j = true) : listed.getD j false = true := by
  obtain ⟨_, o, ho, hall⟩ := mem_ready.1 hi
  have : o = oi := Option.some.inj (ho.symm.trans hoi)
  subst this
  obtain ⟨e, he, hb, rfl⟩ := waits_spec hw
  exact hall e he hb

theorem reach_listed {listed : Array Bool} (hc : Closed ops listed) : ∀ (f i j : Nat), reach ops f i j = true → (∀ oi, ops[i]? = some oi → ∀ m, waits oi m = true → listed.getD m false = true) → listed.getD j false = true
  | 0, i, j, h, hi => by
    unfold reach at h
    split at h
    · rename_i oi ho; exact hi oi ho j h
    · cases h
  | f + 1, i, j, h, hi => by
    unfold reach at h
    split at h
    · rename_i oi ho
      rw [Bool.or_eq_true] at h
      rcases h with h | h
      · exact hi oi ho j h
      · obtain ⟨m, _, hm⟩ := List.any_eq_true.1 h
        rw [Bool.and_eq_true] at hm
        exact reach_listed hc f m j hm.2 fun om hom c hw => hc m om hom (hi oi ho m hm.1) c hw
    · cases h

structure DrawOk (ops : Array Oper) (k : Nat) : Prop where
  le : k ≤ ops.size
  back : ∀ (i : Nat) oi, ops[i]? = some oi → ∀ e ∈ oi.after, Region.binds .any e = true → e.on < i
  tail : ∀ (i : Nat) oi, ops[i]? = some oi → k ≤ i → ∀ j, j < i → ∀ listed, Closed ops listed → i ∈ Region.ready .any ops listed → listed.getD j false = true
  slot : ∀ (i j : Nat) oi oj t, ops[i]? = some oi → j < k → ops[j]? = some oj → oj.dst = some t → (t ∈ oi.looksAt ops ∨ oi.dst = some t) → i ≠ j → (j < i ∧ waits oi j = true) ∨ (i < j ∧ waits oj i = true)

theorem drawB_spec {k : Nat} (h : drawB ops k = true) : DrawOk ops k := by
  unfold drawB at h
  rw [Bool.and_eq_true] at h
  obtain ⟨h1, h2⟩ := h
  have hall : ∀ (i : Nat) oi, ops[i]? = some oi → _ := fun i oi hi => by
    have hlt : i < ops.size := (Array.getElem?_eq_some_iff.1 hi).1
    have := List.all_eq_true.1 h2 i (List.mem_range.2 hlt)
    rw [hi] at this
    simp only [Bool.and_eq_true] at this
    exact this
  refine ⟨of_decide_eq_true h1, fun i oi hi e he hb => ?_, fun i oi hi hk j hj listed hc hr => ?_, fun i j oi oj t hi hj hoj hd ht hij => ?_⟩
  · have := Array.all_eq_true'.1 (hall i oi hi).1.1 e he
    simpa [hb] using this
  · have := (hall i oi hi).1.2
    simp only [Bool.or_eq_true, decide_eq_true_eq] at this
    rcases this with h | h
    · omega
    · exact reach_listed hc 6 i j (List.all_eq_true.1 h j (List.mem_range.2 hj)) fun oi' hoi' m hw => ready_waits hr hoi' hw
  · have := List.all_eq_true.1 (hall i oi hi).2 j (List.mem_range.2 hj)
    simp only [hoj, hd] at this
    simp only [Bool.or_eq_true, Bool.and_eq_true, decide_eq_true_eq, Bool.not_eq_true'] at this
    rcases this with ((h | h) | h) | h
    · exact absurd h hij
    · exfalso
      rcases ht with ht | ht
      · simp [ht] at h
      · simp [ht] at h
    · exact .inl h
    · exact .inr h

theorem closed_set {listed : Array Bool} {i : Nat} (hc : Closed ops listed) (hi : i ∈ Region.ready .any ops listed) : Closed ops (listed.setIfInBounds i true) := by
  intro j oj hj hl c hw
  by_cases hij : i = j
  · subst hij
    exact getD_set_true (ready_waits hi hj hw)
  · rw [getD_set_ne false hij] at hl
    exact getD_set_true (hc j oj hj hl c hw)

/-- What is known when so many have come up. -/
structure DInv (cx : Cx) (n : Nat) (ops : Array Oper) (lx : List (Oper × AV)) (env : List (Nat × AV)) (H : Hp) (listed : Array Bool) (a : Act) (w : World) : Prop where
  lsize : listed.size = ops.size
  closed : Closed ops listed
  tail : ∀ t, lx.length ≤ t → t < ops.size → listed.getD t true = false
  ok : Ok cx n ⟨envL (fun j => listed.getD j false) lx 0 env, H⟩ a w

theorem getD_bool {listed : Array Bool} {i : Nat} (h : i < listed.size) : listed.getD i true = listed.getD i false := by simp [h]

theorem dinv_step {P : Program} {lx : List (Oper × AV)} {env : List (Nat × AV)} {H : Hp} {listed : Array Bool} {a : Act} {w : World} {i : Nat} (hD : DrawOk ops lx.length) (hlx : ∀ (j : Nat) o x, lx[j]? = some (o, x) → ops[j]? = some o)
    (hS : Seqv P cx n ops H lx env) (inv : DInv cx n ops lx env H listed a w) (hi : i ∈ Region.ready .any ops listed) (hik : i < lx.length) {R : Exit → Act → World → Prop} {X : Act → World → Prop}
    (hX : ∀ a' w', DInv cx n ops lx env H (listed.setIfInBounds i true) a' w' → X a' w') : wpOp P ops R i X a w := by
  obtain ⟨⟨o, x⟩, hp⟩ : ∃ p, lx[i] = p := ⟨_, rfl⟩
  have hli : lx[i]? = some (o, x) := by rw [List.getElem?_eq_getElem hik, hp]
  have hoi := hlx i o x hli
  have hun := (mem_ready.1 hi).1
  have hilt : i < ops.size := (Array.getElem?_eq_some_iff.1 hoi).1
  have hun' : listed.getD i false = false := by rw [← getD_bool (by rw [inv.lsize]; exact hilt)]; exact hun
  have hbefore : ∀ t, (t ∈ o.looksAt ops ∨ o.dst = some t) → ∀ (j : Nat) oj xj, lx[j]? = some (oj, xj) → oj.dst = some t → j ≠ i → (listed.getD j false = decide (j < i)) := by
    intro t ht j oj xj hj hd hji
    have hjk : j < lx.length := (List.getElem?_eq_some_iff.1 hj).1
    rcases hD.slot i j o oj t hoi hjk (hlx j oj xj hj) hd ht (Ne.symm hji) with ⟨h1, h2⟩ | ⟨h1, h2⟩
    · rw [ready_waits hi hoi h2]; simp [h1]
    · have : listed.getD j false = false := by
        cases hl : listed.getD j false with
        | false => rfl
        | true => have := inv.closed j oj (hlx j oj xj hj) hl i h2; rw [hun'] at this; cases this
      rw [this]; simp; omega
  have hlook : ∀ t ∈ o.looksAt ops, look (envL (fun j => listed.getD j false) lx 0 env) t = look (envL (fun j => decide (j < i)) lx 0 env) t := by
    intro t ht
    refine envL_congr lx 0 env env rfl fun j oj xj hj hd => ?_
    rw [Nat.zero_add]
    by_cases hji : j = i
    · subst hji; rw [hun']; simp
    · exact hbefore t (.inl ht) j oj xj hj hd hji
  obtain ⟨hdst, hst⟩ := hS i o x hli
  unfold wpOp
  rw [hoi]
  simp only
  have hset : ∀ j, (listed.setIfInBounds i true).getD j false = if j = i then true else listed.getD j false := by
    intro j
    by_cases hji : j = i
    · subst hji
      have : j < listed.size := by rw [inv.lsize]; exact hilt
      simp [this]
    · rw [if_neg hji, getD_set_ne false (Ne.symm hji)]
  have hfin : ∀ v w', Rep w' (imm cx w' H) v x → OkW cx H w' → (∀ c, imm cx w H c → imm cx w' H c ∧ w'.heap[c]? = w.heap[c]?) → X (a.put o.dst v) w' := by
    intro v w' hv hw' hI
    refine hX _ _ ⟨by simp [inv.lsize], closed_set inv.closed hi, fun t ht ht' => by rw [getD_set_ne true (by omega)]; exact inv.tail t ht ht', ?_⟩
    refine ⟨by cases o.dst <;> exact inv.ok.defers, by cases o.dst <;> simp [Act.put, inv.ok.size], fun t => ?_, hw'⟩
    have hold := (inv.ok.reps t).mono hI
    by_cases hd : o.dst = some t
    · have e1 : look (envL (fun j => (listed.setIfInBounds i true).getD j false) lx 0 env) t = x := by
        rw [← envL_at lx 0 i env o x hli hd]
        refine envL_congr lx 0 env env rfl fun j oj xj hj hdj => ?_
        rw [Nat.zero_add, hset]
        by_cases hji : j = i
        · subst hji; simp
        · rw [if_neg hji, hbefore t (.inr hd) j oj xj hj hdj hji]
          rw [Bool.eq_iff_iff]; simp; omega
      show Rep w' (imm cx w' H) _ (look (envL _ lx 0 env) t)
      rw [e1, hd]
      have : t < a.tmps.size := by rw [inv.ok.size]; rw [hd] at hdst; exact hdst
      simpa [Act.put, this] using hv
    · have e1 : look (envL (fun j => (listed.setIfInBounds i true).getD j false) lx 0 env) t = look (envL (fun j => listed.getD j false) lx 0 env) t := by
        refine envL_congr lx 0 env env rfl fun j oj xj hj hdj => ?_
        rw [Nat.zero_add, hset]
        by_cases hji : j = i
        · subst hji
          rw [hli] at hj
          cases hj
          exact absurd hdj hd
        · rw [if_neg hji]
      show Rep w' (imm cx w' H) _ (look (envL _ lx 0 env) t)
      rw [e1]
      have e2 : (a.put o.dst v).tmps.getD t undef = a.tmps.getD t undef := by
        cases hdd : o.dst with
        | none => rfl
        | some d =>
          have : d ≠ t := fun h => hd (by rw [hdd, h])
          simp [Act.put, Array.getElem?_setIfInBounds_ne this]
      rw [e2]
      exact hold
  have := hst a w X R inv.ok.defers inv.ok.size inv.ok.world (fun t ht => by rw [← hlook t ht]; exact inv.ok.reps t) hfin
  split
  · rename_i hw; rw [if_pos hw] at this; exact .inl this
  · rename_i hw; rw [if_neg hw] at this; exact this
end
end Go.Proofs.Ytbnkmhlnoaebcaa
