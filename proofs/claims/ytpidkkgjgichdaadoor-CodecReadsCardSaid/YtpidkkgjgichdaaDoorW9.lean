/-
  The walks and the laws that the statement leans on, part 9.
-/
import Derived.Test.YtpidkkgjgichdaaDoorW8
namespace Go.Proofs.YtpidkkgjgichdaaDoor
open Go
set_option linter.unusedSimpArgs false
set_option linter.unusedVariables false
section
variable {P : Program} {cx : Cx} {n : Nat} {ops : Array Oper}
def ECt (P : Program) (f : FuncId) (args : List AV) (E : Hp) (x : AV) (E' : Hp) : Prop :=
  ∃ F R F0, E.Perm (F ++ R) ∧ E' = F0 ++ R ∧ F0.map (·.1) = F.map (·.1) ∧ ACt P f args F (fun r F' => r = x ∧ F' = F0)
theorem run_ect {f : FuncId} {args : List AV} {x : AV} {env : List (Nat × AV)} {E H0 E' : Hp} {a : Act} {w : World} {vs : Array Value} (ok : Ok cx n ⟨env, E ++ H0⟩ a w) (h : ECt P f args E x E') (hs : vs.size = args.length)
    (hv : ∀ i, i < args.length → Rep w (imm cx w (E ++ H0)) (vs.getD i undef) (args.getD i .any)) :
    CallX P f vs w fun e w' => ∃ v, e = .returned v ∧ Rep w' (imm cx w' (E' ++ H0)) v x ∧ OkW cx (E' ++ H0) w' ∧ ∀ c, imm cx w (E ++ H0) c → imm cx w' (E' ++ H0) c ∧ w'.heap[c]? = w.heap[c]? := by
  obtain ⟨F, R, F0, hP0, rfl, hk, hct⟩ := h
  have hP : (E ++ H0).Perm (F ++ (R ++ H0)) := by rw [← List.append_assoc]; exact hP0.append_right H0
  have hw := ok.world.perm hP
  have hIp : ∀ b, imm cx w (E ++ H0) b → imm cx w (F ++ (R ++ H0)) b := fun b hb => (imm_perm hP).1 hb
  have hI : ∀ b, imm cx w (E ++ H0) b → b < w.heap.size ∧ (b ∉ F.map (·.1) ∨ b ∈ roK F) := fun b hb => ⟨imm_lt hw.ext.size hb, imm_out hw (hIp b hb)⟩
  have hT := roK_lt hw
  have hnd := hw.nodup
  rw [List.map_append, List.nodup_append] at hnd
  have := hct ⟨w, imm cx w (E ++ H0), F.map (·.1), roK F, hI, hT⟩ vs rfl rfl ⟨hnd.1, fun x hx => .inl (List.mem_map_of_mem hx), fun x hx => (hw.mem x (List.mem_append_left _ hx)).mono (fun b hb => ⟨.inl ((imm_perm hP).2 hb), rfl⟩) rfl,
    ⟨rfl, rfl, rfl, Nat.le_refl _, fun _ _ _ => rfl⟩, roK_ro hnd.1⟩ hs hv
  refine this.mono ?_
  rintro e w' ⟨v, r, F', he, ⟨rfl, rfl⟩, hw', hr⟩
  obtain ⟨c1, c2, c3⟩ := call_frame hIp hw hw'
  rw [List.append_assoc]
  exact ⟨v, he, hr.mono fun b hb => ⟨c3 b hb, rfl⟩, c1, fun c hc => c2 c (hIp c hc)⟩
def calleeV (env : List (Nat × AV)) : Op → Option (Prop × FuncId × List AV)
  | .call c => match c.callee with
    | .value (.func f) => some ((ogs env c.args.toList).1, f, (ogs env c.args.toList).2)
    | _ => none
  | _ => none
def EffE (P : Program) (cx : Cx) (n : Nat) (ops : Array Oper) (o : Oper) (env : List (Nat × AV)) (E H0 : Hp) (x : AV) (E' : Hp) : Prop :=
  okd n o.dst ∧ o.guard = none ∧ ∀ (a : Act) (w : World) (X : Act → World → Prop) (R : Exit → Act → World → Prop), a.defers = [] → a.tmps.size = n → OkW cx (E ++ H0) w →
    (∀ t ∈ o.looksAt ops, Rep w (imm cx w (E ++ H0)) (a.tmps.getD t undef) (look env t)) →
    (∀ v w', Rep w' (imm cx w' (E' ++ H0)) v x → OkW cx (E' ++ H0) w' → (∀ c, imm cx w (E ++ H0) c → imm cx w' (E' ++ H0) c ∧ w'.heap[c]? = w.heap[c]?) → X (a.put o.dst v) w') → o.wp P a w X R
theorem effE_call {o : Oper} {env : List (Nat × AV)} {E H0 E' : Hp} {x : AV} {q : Prop × FuncId × List AV} (hd : okd n o.dst) (hg : o.guard = none) (hc : calleeV env o.op = some q) (hq : q.1) (h : ECt P q.2.1 q.2.2 E x E') :
    EffE P cx n ops o env E H0 x E' := by
  refine ⟨hd, hg, fun a w X R h1 h2 h3 h4 h5 => ?_⟩
  have ok := ok_renv h1 h2 h3 h4
  have hre := opd_renv (ops := ops) (o := o) (env := env)
  obtain ⟨dst, op, type, pos, after, guard⟩ := o
  simp only at hc hd h5 hre ok
  unfold calleeV at hc
  split at hc
  · rename_i cl
    obtain ⟨callee, args, ts⟩ := cl
    simp only at hc
    split at hc
    · rename_i f
      simp only [Option.some.injEq] at hc
      subst hc
      simp only at hq h
      have he : ogs env args.toList = ogs (renv env (Oper.looksAt ops ⟨dst, .call ⟨.value (.func f), args, ts⟩, type, pos, after, guard⟩)) args.toList :=
        ogs_congr fun x hx => hre x (by simp [Op.operands, Call.operands]; exact .inr (by simpa using hx))
      rw [he] at hq h
      have hlen := ogs_length (env := renv env (Oper.looksAt ops ⟨dst, .call ⟨.value (.func f), args, ts⟩, type, pos, after, guard⟩)) args.toList
      have := run_ect (vs := args.map a.eval) ok h (by rw [hlen]; simp) (fun i hi => by
        have := ok.ogs hq i (by rw [hlen] at hi; exact hi)
        simpa [List.getD] using this)
      unfold Oper.wp
      have hrun : (execOp a.eval ⟨dst, .call ⟨.value (.func f), args, ts⟩, type, pos, after, guard⟩).run P w = (callFunc f (args.map a.eval)).run P w := by
        simp only [execOp, resolve, Act.eval, Deferred.ofValue, Sem.run_bind, Sem.run_pure, Result.andThen_ok, invoke, Array.append_empty, Array.empty_append]
        try simp
      refine this.upon hrun ?_
      rintro e w' ⟨v, rfl, hrep, c1, c2⟩
      exact ⟨_, rfl, h5 v w' hrep c1 c2⟩
    · cases hc
  · cases hc
theorem hget_left {b : Nat} {m : MB} {H0 : Hp} : ∀ {E : Hp}, hget E b = some m → hget (E ++ H0) b = some m
  | [], h => by cases h
  | (b', m') :: r, h => by
    simp only [hget, List.cons_append] at h ⊢
    split
    · rename_i e; rw [if_pos e] at h; exact h
    · rename_i e; rw [if_neg e] at h; exact hget_left h
theorem hset_left {b : Nat} {m m' : MB} {H0 : Hp} : ∀ {E : Hp}, hget E b = some m → hset (E ++ H0) b m' = hset E b m' ++ H0
  | [], h => by cases h
  | (b', m2) :: r, h => by
    simp only [hget, hset, List.cons_append] at h ⊢
    split
    · rfl
    · rename_i e
      rw [if_neg e] at h
      rw [List.cons_append, hset_left h]
theorem effE_store {o : Oper} {T : TypeId} {ad y : Operand} {env : List (Nat × AV)} {E H0 : Hp} {b off : Nat} {m : MB} (hd : okd n o.dst) (hg : o.guard = none) (ho : o.op = .store T ad y) (ha : (og env ad).1)
    (had : (og env ad).2 = .lit (.pointer (some ⟨b, off, none⟩))) (hb : hget E b = some m) (hx : (og env y).1) (hst : (stC P T m off (og env y).2).1) :
    EffE P cx n ops o env E H0 (.lit undef) (hset E b (stC P T m off (og env y).2).2) := by
  refine ⟨hd, hg, fun a w X R h1 h2 h3 h4 h5 => ?_⟩
  have ok := ok_renv h1 h2 h3 h4
  have hre := opd_renv (ops := ops) (o := o) (env := env)
  obtain ⟨dst, op, type, pos, after, guard⟩ := o
  simp only at ho hd h5 hre ok
  subst ho
  have e1 : og env ad = og (renv env (Oper.looksAt ops ⟨dst, .store T ad y, type, pos, after, guard⟩)) ad := og_congr (hre ad (by simp [Op.operands]))
  have e2 : og env y = og (renv env (Oper.looksAt ops ⟨dst, .store T ad y, type, pos, after, guard⟩)) y := og_congr (hre y (by simp [Op.operands]))
  rw [e1] at ha had
  rw [e2] at hx hst h5
  have hv := ok.og ha
  rw [had] at hv
  have hv := hv.lit_inv
  obtain ⟨w', r1, r2, r3⟩ := run_store_of (P := P) ok.world (hget_left hb) (ok.og hx) hst
  rw [hset_left hb] at r2 r3
  unfold Oper.wp
  have hrun : (execOp a.eval ⟨dst, .store T ad y, type, pos, after, guard⟩).run P w = .ok .skip w' := by
    simp only [execOp, Sem.run_bind, hv, r1, Result.andThen_ok, Sem.run_pure]
  rw [hrun]
  exact h5 undef w' (.lit _) r2 r3
def ExW (P : Program) (f : FuncId) (args : List AV) (E : Hp) (K : AV → Hp → Prop) (d : Hd K := .mk) : Prop := ∃ x E', ECt P f args E x E' ∧ K x E'
theorem ExW.mk {f : FuncId} {args : List AV} {E F R F0 : Hp} {K : AV → Hp → Prop} {x : AV} (hP : E.Perm (F ++ R)) (h : ACt P f args F (fun r F' => r = x ∧ F' = F0)) (hk : F0.map (·.1) = F.map (·.1)) (hK : K x (F0 ++ R)) : ExW P f args E K :=
  ⟨x, F0 ++ R, ⟨F, R, F0, hP, rfl, hk, h⟩, hK⟩
def xst (P : Program) (ops : Array Oper) (H : Hp) (o : Oper) (env : List (Nat × AV)) (K : AV → Prop) : Prop :=
  match o.guard with
  | none => match pev P H env o.op with
    | some r => r.1 ∧ K r.2
    | none => match calleeOf P env o.op with
      | some q => q.1 ∧ ExF P q.2.1 q.2.2 H fun x => K x
      | none => False
  | some (j, want) => match gdOf env ops j want with
    | some c => match pev P H env o.op with
      | some r => (c = true → r.1) ∧ K (.gd c r.2)
      | none => match calleeOf P env o.op with
        | some q => (c = true → q.1) ∧ ExG c P q.2.1 q.2.2 H fun x => K (.gd c x)
        | none => False
    | none => False
theorem xst_stdy {o : Oper} {env : List (Nat × AV)} {H : Hp} {K : AV → Prop} (hd : okd n o.dst) (h : xst P ops H o env K) : ∃ x, Stdy P cx n ops o env H x ∧ StdyE P cx n ops o env H x ∧ K x := by
  unfold xst at h
  split at h
  · rename_i hg
    split at h
    · rename_i r hr
      exact ⟨r.2, stdy_pev hd hg hr h.1, fun E hE => stdy_pev hd hg (pev_app hE hr h.1) h.1, h.2⟩
    · split at h
      · rename_i q hq
        obtain ⟨hob, x, h1, h2⟩ := h
        exact ⟨x, stdy_call hd hg (dcall_of (s := ⟨env, H⟩) hq hob h1), fun E hE => stdy_call hd hg (dcall_app (dcall_of (s := ⟨env, H⟩) hq hob h1)), h2⟩
      · exact h.elim
  · rename_i j want hg
    split at h
    · rename_i c hc
      split at h
      · rename_i r hr
        refine ⟨_, stdy_pevG hd hg hc hr h.1, fun E hE => ?_, h.2⟩
        by_cases hct : c = true
        · exact stdy_pevG hd hg hc (pev_app hE hr (h.1 hct)) h.1
        · refine ⟨hd, fun a w X R h1 h2 h3 h4 h5 => ?_⟩
          have ok := ok_renv h1 h2 h3 h4
          rw [wanted_of_gd ok hg (by rw [gdOf_renv hg]; exact hc)]
          rw [if_neg hct]
          have hcf : c = false := by cases c <;> simp_all
          subst hcf
          exact h5 undef w (.gdf _) h3 fun c hc => ⟨hc, rfl⟩
      · split at h
        · rename_i q hq
          obtain ⟨hob, x, h1, h2⟩ := h
          exact ⟨_, stdy_callG hd hg hc fun hct => dcall_of (s := ⟨env, H⟩) hq (hob hct) (h1 hct), fun E hE => stdy_callG hd hg hc fun hct => dcall_app (dcall_of (s := ⟨env, H⟩) hq (hob hct) (h1 hct)), h2⟩
        · exact h.elim
    · exact h.elim
def xvc (P : Program) (n : Nat) (ops : Array Oper) (ws ls : List Nat) (H0 : Hp) : Nat → List Oper → (List (Nat × AV) → Hp → Prop) → List (Nat × AV) → Hp → Prop
  | _, [], K, env, E => K env E
  | i, o :: rest, K, env, E => okd n o.dst ∧
    if i ∈ ws then o.guard = none ∧ match o.op with
      | .store T ad y => match (og env ad).2 with
        | .lit (.pointer (some ⟨b, off, none⟩)) => match hget E b with
          | some m => (og env ad).1 ∧ (og env y).1 ∧ (stC P T m off (og env y).2).1 ∧ xvc P n ops ws ls H0 (i + 1) rest K (putE env o.dst (.lit undef)) (hset E b (stC P T m off (og env y).2).2)
          | none => False
        | _ => False
      | _ => match calleeV env o.op with
        | some q => q.1 ∧ ExW P q.2.1 q.2.2 E fun x E' => xvc P n ops ws ls H0 (i + 1) rest K (putE env o.dst x) E'
        | none => False
    else xst P ops (if i ∈ ls then E ++ H0 else H0) o env fun x => xvc P n ops ws ls H0 (i + 1) rest K (putE env o.dst x) E
theorem SeqG.cons {C : Nat → Oper → AV → List (Nat × AV) → Prop} {o : Oper} {x : AV} {r : List (Oper × AV)} {env : List (Nat × AV)} (h0 : C 0 o x env) (h : SeqG (fun i => C (i + 1)) r (putE env o.dst x)) : SeqG C ((o, x) :: r) env := by
  have := SeqG.app (C := C) (A := [(o, x)]) (B := r) (env := env) (SeqG.one h0) (by
    simp only [envL, if_true, List.length_cons, List.length_nil]
    have e : (fun i => C (0 + 1 + i)) = fun i => C (i + 1) := by funext i; rw [show 0 + 1 + i = i + 1 by omega]
    rw [e]; exact h)
  exact this
def CX (P : Program) (cx : Cx) (n : Nat) (ops : Array Oper) (ws ls : List Nat) (H0 : Hp) (i0 : Nat) (Ev : Nat → Hp) (i : Nat) (o : Oper) (x : AV) (env : List (Nat × AV)) : Prop :=
  (i0 + i ∈ ws → EffE P cx n ops o env (Ev i) H0 x (Ev (i + 1))) ∧ (i0 + i ∉ ws → Ev (i + 1) = Ev i ∧ (i0 + i ∈ ls → Stdy P cx n ops o env (Ev i ++ H0) x) ∧ (i0 + i ∉ ls → StdyE P cx n ops o env H0 x))
theorem xvc_seq {ws ls : List Nat} {H0 : Hp} {K : List (Nat × AV) → Hp → Prop} : ∀ (l : List Oper) (i0 : Nat) (env : List (Nat × AV)) (E : Hp), xvc P n ops ws ls H0 i0 l K env E →
    ∃ (xs : List AV) (Ev : Nat → Hp), xs.length = l.length ∧ Ev 0 = E ∧ (∀ i, ((Ev i).map (·.1)).Perm (E.map (·.1))) ∧ SeqG (CX P cx n ops ws ls H0 i0 Ev) (l.zip xs) env ∧ K (envL (fun _ => true) (l.zip xs) 0 env) (Ev l.length)
  | [], i0, env, E, h => ⟨[], fun _ => E, rfl, rfl, fun _ => .refl _, fun i o x hi => by simp at hi, h⟩
  | o :: rest, i0, env, E, h => by
    unfold xvc at h
    obtain ⟨hd, h⟩ := h
    have fin : ∀ (x : AV) (E1 : Hp), ((E1.map (·.1)).Perm (E.map (·.1))) → (i0 ∈ ws → EffE P cx n ops o env E H0 x E1) → (i0 ∉ ws → E1 = E ∧ (i0 ∈ ls → Stdy P cx n ops o env (E ++ H0) x) ∧ (i0 ∉ ls → StdyE P cx n ops o env H0 x)) →
        xvc P n ops ws ls H0 (i0 + 1) rest K (putE env o.dst x) E1 → ∃ (xs : List AV) (Ev : Nat → Hp), xs.length = (o :: rest).length ∧ Ev 0 = E ∧ (∀ i, ((Ev i).map (·.1)).Perm (E.map (·.1))) ∧
          SeqG (CX P cx n ops ws ls H0 i0 Ev) ((o :: rest).zip xs) env ∧ K (envL (fun _ => true) ((o :: rest).zip xs) 0 env) (Ev (o :: rest).length) := by
      intro x E1 hp hA hB hx
      obtain ⟨xs, Ev, g1, g2, g3, g4, g5⟩ := xvc_seq rest (i0 + 1) _ _ hx
      refine ⟨x :: xs, fun i => match i with | 0 => E | i + 1 => Ev i, by simp [g1], rfl, fun i => ?_, ?_, ?_⟩
      · cases i with
        | zero => exact .refl _
        | succ i => exact (g3 i).trans hp
      · rw [List.zip_cons_cons]
        refine SeqG.cons ⟨fun hi => ?_, fun hi => ?_⟩ (fun i o' x' hi => ?_)
        · simp only [Nat.add_zero, Nat.zero_add, g2] at hi ⊢; exact hA hi
        · simp only [Nat.add_zero, Nat.zero_add, g2] at hi ⊢; exact hB hi
        · have := g4 i o' x' hi
          unfold CX at this ⊢
          dsimp only
          rw [show i0 + (i + 1) = i0 + 1 + i by omega]
          exact this
      · simp only [List.zip_cons_cons, envL, if_true, List.length_cons, envL_shift]
        exact g5
    by_cases hw : i0 ∈ ws
    · rw [if_pos hw] at h
      obtain ⟨hg, h⟩ := h
      split at h
      · rename_i T ad y ho
        split at h
        · rename_i b off had
          split at h
          · rename_i m hm
            obtain ⟨ha, hy, hst, hk⟩ := h
            exact fin (.lit undef) _ (by rw [hset_keys]) (fun _ => effE_store hd hg ho ha had hm hy hst) (fun hn => absurd hw hn) hk
          · exact h.elim
        · exact h.elim
      · split at h
        · rename_i q hq
          obtain ⟨hob, x, E1, hE, hk⟩ := h
          refine fin x E1 ?_ (fun _ => effE_call hd hg hq hob hE) (fun hn => absurd hw hn) hk
          obtain ⟨F, R, F0, hP, rfl, hkk, _⟩ := hE
          rw [List.map_append, hkk, ← List.map_append]
          exact (hP.map _).symm
        · exact h.elim
    · rw [if_neg hw] at h
      obtain ⟨x, s1, s2, hk⟩ := xst_stdy (cx := cx) hd h
      refine fin x E (.refl _) (fun hn => absurd hn hw) (fun _ => ⟨rfl, fun hl => ?_, fun hl => ?_⟩) hk
      · rw [if_pos hl] at s1; exact s1
      · rw [if_neg hl] at s2; exact s2
/-! ### The order -/
def chB (ops : Array Oper) (c : Nat) (ws ls : List Nat) : Bool :=
  ws.all (fun v => decide (v < c) && ws.all fun u => !decide (u < v) || reach ops 12 v u) && ls.all fun l => ws.all fun v => (!decide (v < l) || reach ops 12 l v) && (!decide (l < v) || reach ops 12 v l)
def cutB (ops : Array Oper) (c : Nat) : Bool :=
  decide (c < ops.size) && (List.range c).all (reach ops 12 c) && (List.range ops.size).all fun j => decide (j ≤ c) || reach ops 12 j c
theorem reach_of_listed {listed : Array Bool} (hc : Closed ops listed) {f i j : Nat} {oi : Oper} (ho : ops[i]? = some oi) (hl : listed.getD i false = true) (h : reach ops f i j = true) : listed.getD j false = true :=
  reach_listed hc f i j h fun oi' ho' m hw => hc i oi' ho' hl m hw
theorem reach_of_ready {listed : Array Bool} (hc : Closed ops listed) {f i j : Nat} (hi : i ∈ Region.ready .any ops listed) (h : reach ops f i j = true) : listed.getD j false = true :=
  reach_listed hc f i j h fun oi' ho' m hw => ready_waits hi ho' hw
structure DInvX (cx : Cx) (n : Nat) (ops : Array Oper) (lx : List (Oper × AV)) (env : List (Nat × AV)) (H0 : Hp) (ws : List Nat) (c : Nat) (Ev : Nat → Hp) (listed : Array Bool) (a : Act) (w : World) : Prop where
  lsize : listed.size = ops.size
  behind : ∀ j, c ≤ j → listed.getD j false = false
  inv : ∃ m, m ≤ c ∧ (∀ j ∈ ws, listed.getD j false = decide (j < m)) ∧ DInv cx n ops lx env (Ev m ++ H0) listed a w
theorem ev_eq {ws : List Nat} {c : Nat} {Ev : Nat → Hp} (hE : ∀ j, j < c → j ∉ ws → Ev (j + 1) = Ev j) : ∀ (d m : Nat), m + d ≤ c → (∀ j ∈ ws, ¬ (m ≤ j ∧ j < m + d)) → Ev (m + d) = Ev m
  | 0, m, _, _ => rfl
  | d + 1, m, h1, h2 => by
    have hn : m + d ∉ ws := fun hm => h2 _ hm ⟨by omega, by omega⟩
    rw [← Nat.add_assoc, hE (m + d) (by omega) hn]
    exact ev_eq hE d m (by omega) fun j hj hh => h2 j hj ⟨hh.1, by omega⟩
theorem ev_same {ws : List Nat} {c : Nat} {Ev : Nat → Hp} (hE : ∀ j, j < c → j ∉ ws → Ev (j + 1) = Ev j) {m i : Nat} (hm : m ≤ c) (hi : i ≤ c) (h : ∀ j ∈ ws, (j < m ↔ j < i)) : Ev m = Ev i := by
  rcases Nat.le_total m i with hmi | hmi
  · obtain ⟨d, rfl⟩ := Nat.exists_eq_add_of_le hmi
    exact (ev_eq hE d m hi fun j hj hh => by have := (h j hj).2 hh.2; omega).symm
  · obtain ⟨d, rfl⟩ := Nat.exists_eq_add_of_le hmi
    exact ev_eq hE d i hm fun j hj hh => by have := (h j hj).1 hh.2; omega
theorem dinvX_step {lx : List (Oper × AV)} {env : List (Nat × AV)} {H0 : Hp} {ws ls : List Nat} {c : Nat} {Ev : Nat → Hp} {listed : Array Bool} {a : Act} {w : World} {i : Nat} (hD : DrawOk ops lx.length) (hlx : ∀ (j : Nat) o x, lx[j]? = some (o, x) → ops[j]? = some o)
    (hS : SeqG (fun i o x env => i < c → CX P cx n ops ws ls H0 0 Ev i o x env) lx env) (hcl : c ≤ lx.length) (hch : chB ops c ws ls = true) (hfr : ∀ i, ∀ p ∈ Ev i, fresh H0 p.1)
    (inv : DInvX cx n ops lx env H0 ws c Ev listed a w) (hi : i ∈ Region.ready .any ops listed) (hik : i < c) {R : Exit → Act → World → Prop} {X : Act → World → Prop}
    (hX : ∀ a' w', DInvX cx n ops lx env H0 ws c Ev (listed.setIfInBounds i true) a' w' → X a' w') : wpOp P ops R i X a w := by
  obtain ⟨⟨o, x⟩, hp⟩ : ∃ p, lx[i] = p := ⟨_, rfl⟩
  have hli : lx[i]? = some (o, x) := by rw [List.getElem?_eq_getElem (by omega), hp]
  have hoi := hlx i o x hli
  have hilt : i < ops.size := (Array.getElem?_eq_some_iff.1 hoi).1
  obtain ⟨m, hmc, hm, hinv⟩ := inv.inv
  have hcl2 := hinv.closed
  unfold chB at hch
  rw [Bool.and_eq_true] at hch
  obtain ⟨hch1, hch2⟩ := hch
  have hws : ∀ v ∈ ws, v < c ∧ ∀ u ∈ ws, u < v → reach ops 12 v u = true := fun v hv => by
    have := List.all_eq_true.1 hch1 v hv
    rw [Bool.and_eq_true] at this
    refine ⟨of_decide_eq_true this.1, fun u hu huv => ?_⟩
    have := List.all_eq_true.1 this.2 u hu
    simpa [huv] using this
  have hls : ∀ l ∈ ls, ∀ v ∈ ws, (v < l → reach ops 12 l v = true) ∧ (l < v → reach ops 12 v l = true) := fun l hl v hv => by
    have := List.all_eq_true.1 (List.all_eq_true.1 hch2 l hl) v hv
    rw [Bool.and_eq_true] at this
    refine ⟨fun h => ?_, fun h => ?_⟩
    · simpa [h] using this.1
    · simpa [h] using this.2
  have hun : listed.getD i false = false := by
    have := (mem_ready.1 hi).1
    rwa [getD_bool (by rw [inv.lsize]; exact hilt)] at this
  have hset : ∀ j, (listed.setIfInBounds i true).getD j false = if j = i then true else listed.getD j false := by
    intro j
    by_cases hji : j = i
    · subst hji
      have : j < listed.size := by rw [inv.lsize]; exact hilt
      simp [this]
    · rw [if_neg hji, getD_set_ne false (Ne.symm hji)]
  have hlsz : (listed.setIfInBounds i true).size = ops.size := by simp [inv.lsize]
  have hbeh : ∀ j, c ≤ j → (listed.setIfInBounds i true).getD j false = false := fun j hj => by rw [hset, if_neg (by omega)]; exact inv.behind j hj
  have hE : ∀ j, j < c → j ∉ ws → Ev (j + 1) = Ev j := fun j hj hn => by
    obtain ⟨⟨oj, xj⟩, hpj⟩ : ∃ p, lx[j]'(by omega) = p := ⟨_, rfl⟩
    have hlj : lx[j]? = some (oj, xj) := by rw [List.getElem?_eq_getElem (by omega), hpj]
    have := (hS j oj xj hlj hj).2 (by rw [Nat.zero_add]; exact hn)
    exact this.1
  have hSi := hS i o x hli hik
  unfold CX at hSi
  rw [Nat.zero_add] at hSi
  by_cases hiw : i ∈ ws
  · obtain ⟨hd, hg, hef⟩ := hSi.1 hiw
    have hlow : ∀ j ∈ ws, j < i → listed.getD j false = true := fun j hj hji => reach_of_ready hcl2 hi ((hws i hiw).2 j hj hji)
    have hmi : ¬ i < m := fun h => by have := hm i hiw; rw [hun, decide_eq_true h] at this; cases this
    have hev : Ev m = Ev i := ev_same hE hmc (by omega) fun j hj => ⟨fun h => by omega, fun h => by
      have h1 := hlow j hj h
      rw [hm j hj] at h1
      exact of_decide_eq_true h1⟩
    rw [hev] at hinv
    have hlook := dinv_look hD hlx hinv hi hli
    have hwp := hef a w X R hinv.ok.defers hinv.ok.size hinv.ok.world (fun t ht => by rw [← hlook t ht]; exact hinv.ok.reps t) (fun v w' hv hw' hI => by
      have hd2 := dinv_put hD hlx hinv hi hli hd hv hw' hI
      refine hX _ _ ⟨hlsz, hbeh, i + 1, by omega, fun j hj => ?_, hd2⟩
      rw [hset]
      by_cases hji : j = i
      · subst hji; simp
      · rw [if_neg hji]
        by_cases hlt : j < i
        · rw [hlow j hj hlt, decide_eq_true (by omega)]
        · rw [hm j hj, decide_eq_false (by omega), decide_eq_false (by omega)])
    unfold wpOp
    rw [hoi]
    simp only
    rw [if_pos (by simp [Region.wanted, hg])]
    exact .inl hwp
  · obtain ⟨_, h1, h2⟩ := hSi.2 hiw
    have hnew : ∀ j ∈ ws, (listed.setIfInBounds i true).getD j false = decide (j < m) := fun j hj => by
      rw [hset, if_neg (fun h => hiw (by rw [← h]; exact hj))]; exact hm j hj
    have hst : Stdy P cx n ops o (envL (fun j => decide (j < i)) lx 0 env) (Ev m ++ H0) x := by
      by_cases hil : i ∈ ls
      · have hev : Ev m = Ev i := ev_same hE hmc (by omega) fun j hj => by
          have hji : j ≠ i := fun h => hiw (h ▸ hj)
          refine ⟨fun h => ?_, fun h => ?_⟩
          · apply Classical.byContradiction; intro hn
            have hl : listed.getD j false = true := by rw [hm j hj, decide_eq_true h]
            obtain ⟨oj, hoj⟩ : ∃ oj, ops[j]? = some oj := ⟨_, Array.getElem?_eq_getElem (by have := (hws j hj).1; have := hD.le; omega)⟩
            have := reach_of_listed hcl2 hoj hl ((hls i hil j hj).2 (by omega))
            rw [hun] at this; cases this
          · have := reach_of_ready hcl2 hi ((hls i hil j hj).1 h)
            rw [hm j hj] at this
            exact of_decide_eq_true this
        rw [hev]; exact h1 hil
      · exact h2 hil (Ev m) (hfr m)
    exact dinv_stepS hD hlx hli hst hinv hi fun v w' hd => hX _ _ ⟨hlsz, hbeh, m, hmc, hnew, hd⟩
/-! ### Ahead of the parting, the parting, behind it -/
theorem head_to {k : Nat} {R : Exit → Act → World → Prop} {Inv : Array Bool → Act → World → Prop} (hle : k ≤ ops.size) (hback : ∀ (i : Nat) oi, ops[i]? = some oi → ∀ e ∈ oi.after, Region.binds .any e = true → e.on < i)
    (htail : ∀ listed a w, Inv listed a w → ∀ i, k ≤ i → i ∈ Region.ready .any ops listed → ∀ j, j < k → listed.getD j false = true)
    (hcl : ∀ listed a w, Inv listed a w → Closed ops listed) (hsz : ∀ listed a w, Inv listed a w → listed.size = ops.size)
    (hstep : ∀ listed a w i (X : Act → World → Prop), Inv listed a w → i ∈ Region.ready .any ops listed → i < k → (∀ a' w', Inv (listed.setIfInBounds i true) a' w' → X a' w') → wpOp P ops R i X a w) {g : Nat}
    (hfin : ∀ listed a w, Inv listed a w → (∀ j, j < k → listed.getD j false = true) → wpAny P .any ops R g listed a w) :
    ∀ (u : Nat) (listed : Array Bool) (a : Act) (w : World), ((List.range k).filter fun i => !listed.getD i false).length = u → Inv listed a w → wpAny P .any ops R (u + g) listed a w
  | 0, listed, a, w, hu, inv => by
    rw [Nat.zero_add]
    refine hfin listed a w inv fun j hj => ?_
    have := List.eq_nil_of_length_eq_zero hu
    rw [List.filter_eq_nil_iff] at this
    simpa using this j (List.mem_range.2 hj)
  | u + 1, listed, a, w, hu, inv => by
    have hls := hsz _ _ _ inv
    rw [show u + 1 + g = (u + g) + 1 by omega]
    obtain ⟨m, hm1, hm2⟩ : ∃ m, m < k ∧ listed.getD m false = false := by
      cases hf : ((List.range k).filter fun i => !listed.getD i false) with
      | nil => rw [hf] at hu; cases hu
      | cons m r =>
        have : m ∈ (List.range k).filter fun i => !listed.getD i false := by rw [hf]; exact List.mem_cons_self ..
        rw [List.mem_filter] at this
        exact ⟨m, List.mem_range.1 this.1, by simpa using this.2⟩
    obtain ⟨i0, h1, h2, h3⟩ := least (p := fun i => listed.getD i false) hm2
    have hi0 : i0 < ops.size := by omega
    have hready0 : i0 ∈ Region.ready .any ops listed := by
      refine mem_ready.2 ⟨by rw [getD_bool (by rw [hls]; exact hi0)]; exact h2, ops[i0], Array.getElem?_eq_getElem hi0, fun e he hb => h3 _ (hback i0 _ (Array.getElem?_eq_getElem hi0) e he hb)⟩
    refine ⟨fun h => (by rw [h] at hready0; cases hready0), fun i hi => ?_⟩
    obtain ⟨hun, oi, hoi, _⟩ := mem_ready.1 hi
    have hilt : i < ops.size := (Array.getElem?_eq_some_iff.1 hoi).1
    have hik : i < k := by
      rcases Nat.lt_or_ge i k with h | h
      · exact h
      · have := htail listed a w inv i h hi m hm1
        rw [hm2] at this
        cases this
    have hun' : listed.getD i false = false := by rw [← getD_bool (by rw [hls]; exact hilt)]; exact hun
    refine hstep listed a w i _ inv hi hik fun a' w' inv' => head_to hle hback htail hcl hsz hstep hfin u _ a' w' ?_ inv'
    have hcount : ∀ (l : List Nat), l.Nodup → i ∈ l → (l.filter fun j => !listed.getD j false).length = ((l.filter fun j => !(listed.setIfInBounds i true).getD j false).length) + 1 := by
      intro l
      induction l with
      | nil => intro _ h; cases h
      | cons c r ih =>
        intro hn hmem
        simp only [List.nodup_cons] at hn
        by_cases hci : c = i
        · subst hci
          have hset : (listed.setIfInBounds c true).getD c false = true := by
            have : c < listed.size := by rw [hls]; exact hilt
            simp [this]
          have hrest : (r.filter fun j => !listed.getD j false) = r.filter fun j => !(listed.setIfInBounds c true).getD j false := by
            refine List.filter_congr fun j hj => ?_
            have : j ≠ c := fun h => hn.1 (h ▸ hj)
            rw [getD_set_ne false (Ne.symm this)]
          rw [List.filter_cons, List.filter_cons, hun', hset, hrest]
          simp
        · have hmem' : i ∈ r := by rcases List.mem_cons.1 hmem with h | h; exact absurd h.symm hci; exact h
          have := ih hn.2 hmem'
          rw [List.filter_cons, List.filter_cons, getD_set_ne false (Ne.symm hci)]
          split
          · simp only [List.length_cons]; omega
          · exact this
    have := hcount (List.range k) List.nodup_range (List.mem_range.2 hik)
    omega
theorem Stdy.congr {o : Oper} {env env' : List (Nat × AV)} {H : Hp} {x : AV} (h : ∀ t, look env t = look env' t) (hS : Stdy P cx n ops o env H x) : Stdy P cx n ops o env' H x :=
  ⟨hS.1, fun a w X R h1 h2 h3 h4 h5 => hS.2 a w X R h1 h2 h3 (fun t ht => by rw [h t]; exact h4 t ht) h5⟩
theorem envL_same {s : List (Nat × AV)} {f : Nat → Bool} : ∀ (l : List Oper) (k : Nat) (env : List (Nat × AV)), (∀ t, look env t = look s t) →
    ∀ t, look (envL f (l.map fun o => (o, match o.dst with | some d => look s d | none => .any)) k env) t = look s t
  | [], _, env, h, t => h t
  | o :: r, k, env, h, t => by
    simp only [List.map_cons, envL]
    refine envL_same r (k + 1) _ (fun t => ?_) t
    split
    · rw [look_putE]
      split
      · rename_i hd; rw [hd]
      · exact h t
    · exact h t
theorem count_gt (c : Nat) : ∀ N, ((List.range N).filter fun i => !decide (i ≤ c)).length = N - (c + 1)
  | 0 => by simp
  | N + 1 => by
    rw [List.range_succ, List.filter_append, List.length_append, count_gt c N]
    by_cases h : N ≤ c
    · simp [h]; omega
    · simp [h]; omega
theorem rest_any {c : Nat} {l : List Oper} (hops : l.toArray = ops) (hD : DrawOk ops ops.size) (hc : c < ops.size) {s : St} {K : St → Prop} {R : Exit → Act → World → Prop} (h : dvc P n ops (l.drop (c + 1)) K s) (hR : ∀ s a w, K s → Ok cx n s a w → R .normal a w)
    {listed : Array Bool} {a : Act} {w : World} (hls : listed.size = ops.size) (hl : ∀ j, listed.getD j false = decide (j ≤ c)) (hcl : Closed ops listed) (ok : Ok cx n s a w) :
    wpAny P .any ops R (ops.size - (c + 1)) listed a w := by
  have hlen : l.length = ops.size := by rw [← hops]; simp
  obtain ⟨xs, x1, S1, K1⟩ := dvc_seqv (cx := cx) _ _ h
  obtain ⟨A, hA⟩ : ∃ A : List (Oper × AV), A = (l.take (c + 1)).map fun o => (o, match o.dst with | some d => look s.env d | none => .any) := ⟨_, rfl⟩
  obtain ⟨B, hB⟩ : ∃ B, B = (l.drop (c + 1)).zip xs := ⟨_, rfl⟩
  rw [← hB] at S1 K1
  have lA : A.length = c + 1 := by rw [hA]; simp; omega
  have lB : B.length = ops.size - (c + 1) := by rw [hB]; simp [x1]; omega
  have fB : B.map (·.1) = l.drop (c + 1) := by rw [hB]; exact List.map_fst_zip (by omega)
  have fA : A.map (·.1) = l.take (c + 1) := by rw [hA, List.map_map]; exact List.map_id' _
  obtain ⟨lx, hlxe⟩ : ∃ lx, lx = A ++ B := ⟨_, rfl⟩
  have llx : lx.length = ops.size := by rw [hlxe, List.length_append, lA, lB]; omega
  have hlx : ∀ (j : Nat) o x, lx[j]? = some (o, x) → ops[j]? = some o := by
    intro j o x hj
    have h1 : (lx.map (·.1))[j]? = some o := by rw [List.getElem?_map, hj]; rfl
    rw [hlxe, List.map_append, fA, fB, List.take_append_drop] at h1
    rw [← hops]; simpa using h1
  have henvA : ∀ (f : Nat → Bool) t, look (envL f A 0 s.env) t = look s.env t := fun f t => by rw [hA]; exact envL_same _ 0 _ (fun _ => rfl) t
  have hbase : ∀ (f : Nat → Bool) t, look (envL f lx 0 s.env) t = look (envL (fun j => f (c + 1 + j)) B 0 s.env) t := by
    intro f t
    rw [hlxe, envL_append, Nat.zero_add, lA, show c + 1 = c + 1 + 0 from rfl, envL_shiftk (c + 1) B 0]
    exact envL_congr B 0 _ _ (henvA f t) fun _ _ _ _ _ => rfl
  have inv0 : DInv cx n ops lx s.env s.H listed a w := by
    refine ⟨hls, hcl, fun t ht ht' => by omega, ok.defers, ok.size, fun t => ?_, ok.world⟩
    have e : look (envL (fun j => listed.getD j false) lx 0 s.env) t = look s.env t := by
      rw [hbase]
      rw [envL_none B 0 s.env fun j _ => by rw [hl]; simp; omega]
    rw [e]; exact ok.reps t
  have hD' : DrawOk ops lx.length := by rw [llx]; exact hD
  have hcount : ((List.range ops.size).filter fun i => !listed.getD i false).length = ops.size - (c + 1) := by
    have e : (fun i => !listed.getD i false) = fun i => !decide (i ≤ c) := by funext i; rw [hl]
    rw [e]
    exact count_gt c ops.size
  have := head_to (P := P) (ops := ops) (k := ops.size) (R := R) (g := 0) (Inv := fun li a w => (∀ j, j ≤ c → li.getD j false = true) ∧ DInv cx n ops lx s.env s.H li a w) (Nat.le_refl _) hD.back
    (fun li _ _ _ i hi hr => by
      obtain ⟨_, oi, hoi, _⟩ := mem_ready.1 hr
      have := (Array.getElem?_eq_some_iff.1 hoi).1
      omega)
    (fun _ _ _ inv => inv.2.closed) (fun _ _ _ inv => inv.2.lsize)
    (fun li a w i X inv hi hik hX => by
      have hun : li.getD i false = false := by
        have := (mem_ready.1 hi).1
        rwa [getD_bool (by rw [inv.2.lsize]; exact hik)] at this
      have hci : c < i := by
        apply Classical.byContradiction; intro hn
        rw [inv.1 i (by omega)] at hun; cases hun
      obtain ⟨⟨o, x⟩, hp⟩ : ∃ p, lx[i]'(by omega) = p := ⟨_, rfl⟩
      have hli : lx[i]? = some (o, x) := by rw [List.getElem?_eq_getElem (by omega), hp]
      have hBi : B[i - (c + 1)]? = some (o, x) := by
        rw [hlxe, List.getElem?_append_right (by omega), lA] at hli
        exact hli
      have hS := S1 _ _ _ hBi
      refine dinv_stepS hD' hlx hli (hS.congr fun t => ?_) inv.2 hi fun v w' hd => hX _ _ ⟨fun j hj => ?_, hd⟩
      · rw [hbase]
        congr 1
        refine envL_ext B 0 _ fun j _ _ => ?_
        rw [Bool.eq_iff_iff]; simp; omega
      · rw [getD_set_ne false (by omega)]; exact inv.1 j hj)
    (fun li a w inv hall => by
      refine ⟨?_, ?_⟩
      · apply List.eq_nil_iff_forall_not_mem.2
        intro i hi
        obtain ⟨hun, oi, hoi, _⟩ := mem_ready.1 hi
        have hilt := (Array.getElem?_eq_some_iff.1 hoi).1
        rw [getD_bool (by rw [inv.2.lsize]; exact hilt), hall i hilt] at hun
        cases hun
      · refine hR _ _ _ K1 ⟨inv.2.ok.defers, inv.2.ok.size, fun t => ?_, inv.2.ok.world⟩
        have e : look (envL (fun j => li.getD j false) lx 0 s.env) t = look (envL (fun _ => true) B 0 s.env) t := by
          rw [hbase]
          congr 1
          exact envL_ext B 0 _ fun j _ hj => hall _ (by omega)
        have := inv.2.ok.reps t
        simp only [e] at this
        exact this)
    _ listed a w hcount ⟨fun j hj => by rw [hl]; simp; omega, inv0⟩
  rwa [Nat.add_zero] at this
def splitH : List Nat → Hp → Option (Hp × Hp)
  | [], H => some ([], H)
  | b :: bs, H => match hget H b with
    | some m => match splitH bs (hdel H b) with
      | some q => some ((b, m) :: q.1, q.2)
      | none => none
    | none => none
theorem splitH_perm : ∀ {bs : List Nat} {H : Hp} {q : Hp × Hp}, splitH bs H = some q → H.Perm (q.1 ++ q.2)
  | [], H, q, h => by cases h; exact .refl _
  | b :: bs, H, q, h => by
    unfold splitH at h
    split at h
    · rename_i m hm
      split at h
      · rename_i q' hq'
        cases h
        exact (hget_perm hm).trans (List.Perm.cons _ (splitH_perm hq'))
      · cases h
    · cases h
def drawCF (P : Program) (n : Nat) (l : List Oper) (K : St → Prop) (c : Nat) (ws ls bs : List Nat) (s : St) : Prop :=
  match splitH bs s.H with
  | some q => xvc P n l.toArray ws ls q.2 0 (l.take c) (fun env E => match l.drop c with
    | o :: r => okd n o.dst ∧ o.guard = none ∧ eff P o (fun s' => dvc P n l.toArray r K s') ⟨env, E ++ q.2⟩
    | [] => False) s.env q.1
  | none => False
theorem WP.drawC {id c : Nat} {ws ls bs : List Nat} {l : List Oper} {Q : Exit → St → Prop} {s : St} (hm : P.follows .mixedOrders = true) (hB : drawB l.toArray l.length = true) (hcut : cutB l.toArray c = true) (hch : chB l.toArray c ws ls = true)
    (h : drawCF P n l (Q .normal) c ws ls bs s) : WP P cx n (.region id l.toArray true) Q s := by
  intro a w ok0
  have hD : DrawOk l.toArray l.toArray.size := by have := drawB_spec hB; simpa using this
  unfold cutB at hcut
  simp only [Bool.and_eq_true, decide_eq_true_eq] at hcut
  obtain ⟨⟨hcs, hc1⟩, hc2⟩ := hcut
  have hcl : c < l.length := by simpa using hcs
  have hr1 : ∀ j, j < c → reach l.toArray 12 c j = true := fun j hj => List.all_eq_true.1 hc1 j (List.mem_range.2 hj)
  have hr2 : ∀ j, c < j → j < l.toArray.size → reach l.toArray 12 j c = true := fun j hj hjs => by
    have := List.all_eq_true.1 hc2 j (List.mem_range.2 hjs)
    rw [Bool.or_eq_true] at this
    rcases this with h | h
    · have := of_decide_eq_true h; omega
    · exact h
  unfold drawCF at h
  split at h
  case h_2 => exact h.elim
  rename_i q hq
  obtain ⟨E0, H0⟩ := q
  simp only at h
  have hperm := splitH_perm hq
  simp only at hperm
  have ok : Ok cx n ⟨s.env, E0 ++ H0⟩ a w := Ok.permH hperm ok0
  have hnd := ok.world.nodup
  simp only [List.map_append, List.nodup_append] at hnd
  obtain ⟨xs, Ev, g1, g2, g3, g4, g5⟩ := xvc_seq (cx := cx) _ _ _ _ h
  have hfr : ∀ i, ∀ p ∈ Ev i, fresh H0 p.1 := fun i p hp r hr => by
    have h1 : p.1 ∈ E0.map (·.1) := (g3 i).mem_iff.1 (List.mem_map_of_mem hp)
    have hne := hnd.2.2 _ h1 _ (List.mem_map_of_mem hr)
    exact ⟨Ne.symm hne, hne⟩
  have lt : (l.take c).length = c := by simp; omega
  rw [lt] at g5
  obtain ⟨A, hA⟩ : ∃ A, A = (l.take c).zip xs := ⟨_, rfl⟩
  rw [← hA] at g4 g5
  have lA : A.length = c := by rw [hA]; simp [g1]; omega
  have fA : A.map (·.1) = l.take c := by rw [hA]; exact List.map_fst_zip (by omega)
  obtain ⟨D, hDD⟩ : ∃ D : List (Oper × AV), D = (l.drop c).map fun o => (o, AV.any) := ⟨_, rfl⟩
  have fD : D.map (·.1) = l.drop c := by rw [hDD, List.map_map]; exact List.map_id' _
  obtain ⟨lx, hlxe⟩ : ∃ lx, lx = A ++ D := ⟨_, rfl⟩
  have hlxf : lx.map (·.1) = l := by rw [hlxe, List.map_append, fA, fD, List.take_append_drop]
  have llx : lx.length = l.toArray.size := by have := congrArg List.length hlxf; simpa using this
  have hlx : ∀ (j : Nat) o x, lx[j]? = some (o, x) → l.toArray[j]? = some o := by
    intro j o x hj
    have h1 : (lx.map (·.1))[j]? = some o := by rw [List.getElem?_map, hj]; rfl
    rw [hlxf] at h1; simpa using h1
  have hS : SeqG (fun i o x env => i < c → CX P cx n l.toArray ws ls H0 0 Ev i o x env) lx s.env := by
    rw [hlxe]
    refine SeqG.app (fun i o x hi _ => g4 i o x hi) fun i o x hi hlt => ?_
    omega
  have hD' : DrawOk l.toArray lx.length := by rw [llx]; exact hD
  refine wp_region_any hm ?_
  have ok' : Ok cx n ⟨s.env, E0 ++ H0⟩ a { w with drawn := w.drawn + 1 } := by
    have hIw : ∀ b, imm cx w (E0 ++ H0) b → imm cx { w with drawn := w.drawn + 1 } (E0 ++ H0) b ∧ ({ w with drawn := w.drawn + 1 } : World).heap[b]? = w.heap[b]? := fun b hb => ⟨hb, rfl⟩
    refine ⟨ok.defers, ok.size, fun i => (ok.reps i).mono hIw, ⟨ok.world.nodup, ok.world.keys, fun x hx => (ok.world.mem x hx).mono hIw rfl, ⟨ok.world.ext.os, ok.world.ext.tape, ok.world.ext.output, ok.world.ext.size, ok.world.ext.blk⟩, ok.world.ro⟩⟩
  have henv0 : envL (fun j => (Array.replicate l.toArray.size false).getD j false) lx 0 s.env = s.env := envL_none _ _ _ fun j _ => getD_rep_false _ _
  have inv0 : DInvX cx n l.toArray lx s.env H0 ws c Ev (Array.replicate l.toArray.size false) a { w with drawn := w.drawn + 1 } := by
    refine ⟨by simp, fun j _ => getD_rep_false _ _, 0, Nat.zero_le _, fun j _ => by rw [getD_rep_false]; simp, by simp, fun j oj _ hl => ?_, fun t ht ht' => by omega, ?_⟩
    · rw [getD_rep_false] at hl; cases hl
    · rw [henv0, g2]; exact ok'
  have hcount : ((List.range c).filter fun i => !(Array.replicate l.toArray.size false).getD i false).length = c := by
    have : ((List.range c).filter fun i => !(Array.replicate l.toArray.size false).getD i false) = List.range c := by
      rw [List.filter_eq_self]
      intro j _
      rw [getD_rep_false]
      rfl
    rw [this]; simp
  have hrc : ∀ listed, Closed l.toArray listed → ∀ i, c ≤ i → i ∈ Region.ready .any l.toArray listed → ∀ j, j < c → listed.getD j false = true := by
    intro listed hcd i hi hr j hj
    by_cases hic : i = c
    · subst hic; exact reach_of_ready hcd hr (hr1 j hj)
    · obtain ⟨_, oi, hoi, _⟩ := mem_ready.1 hr
      have his := (Array.getElem?_eq_some_iff.1 hoi).1
      have hlc := reach_of_ready hcd hr (hr2 i (by omega) his)
      exact reach_of_listed hcd (Array.getElem?_eq_getElem hcs) hlc (hr1 j hj)
  have := head_to (P := P) (ops := l.toArray) (k := c) (R := fun e a' w' => ∃ s', Q e s' ∧ Ok cx n s' a' w') (g := l.toArray.size - c) (Inv := DInvX cx n l.toArray lx s.env H0 ws c Ev) (Nat.le_of_lt hcs) hD.back (fun li a w inv => hrc li (by obtain ⟨m, _, _, hi⟩ := inv.inv; exact hi.closed))
    (fun _ _ _ inv => by obtain ⟨m, _, _, hi⟩ := inv.inv; exact hi.closed) (fun _ _ _ inv => inv.lsize)
    (fun li a w i X inv hi hik hX => dinvX_step hD' hlx hS (by omega) hch hfr inv hi hik hX)
    (fun li a w inv hall => by
      obtain ⟨m, hmc, hmw, hinv⟩ := inv.inv
      have hli : ∀ j, li.getD j false = decide (j < c) := fun j => by
        by_cases hj : j < c
        · rw [hall j hj, decide_eq_true hj]
        · rw [inv.behind j (by omega), decide_eq_false hj]
      have hwsc : ∀ v ∈ ws, v < c := fun v hv => by
        unfold chB at hch
        rw [Bool.and_eq_true] at hch
        have := List.all_eq_true.1 hch.1 v hv
        rw [Bool.and_eq_true] at this
        exact of_decide_eq_true this.1
      have hE : ∀ j, j < c → j ∉ ws → Ev (j + 1) = Ev j := fun j hj hn => by
        obtain ⟨⟨oj, xj⟩, hpj⟩ : ∃ p, lx[j]'(by omega) = p := ⟨_, rfl⟩
        have hlj : lx[j]? = some (oj, xj) := by rw [List.getElem?_eq_getElem (by omega), hpj]
        exact ((hS j oj xj hlj hj).2 (by rw [Nat.zero_add]; exact hn)).1
      have hev : Ev m = Ev c := ev_same hE hmc (Nat.le_refl _) fun j hj => by
        have h1 := hwsc j hj
        have h2 := hmw j hj
        rw [hall j h1] at h2
        have := of_decide_eq_true h2.symm
        exact ⟨fun _ => h1, fun _ => this⟩
      rw [hev] at hinv
      have henv : ∀ t, look (envL (fun j => li.getD j false) lx 0 s.env) t = look (envL (fun _ => true) A 0 s.env) t := by
        intro t
        rw [hlxe, envL_append, envL_none D _ _ (fun j hj => by rw [hli, decide_eq_false (by omega)])]
        rw [envL_ext (g := fun _ => true) A 0 s.env fun j _ hj => by rw [hli, decide_eq_true (by omega)]]
      have hok : Ok cx n ⟨envL (fun _ => true) A 0 s.env, Ev c ++ H0⟩ a w := by
        refine ⟨hinv.ok.defers, hinv.ok.size, fun t => ?_, hinv.ok.world⟩
        have := hinv.ok.reps t
        simp only [henv t] at this
        exact this
      have K5 := g5
      split at K5
      case h_2 => exact K5.elim
      rename_i o r hor
      obtain ⟨hod, hog, hoe⟩ := K5
      have hoc : l.toArray[c]? = some o := by
        have : (l.drop c)[0]? = some o := by rw [hor]; rfl
        simpa using this
      have hrr : r = l.drop (c + 1) := by
        have : (l.drop c).drop 1 = r := by rw [hor]; rfl
        rw [← this, List.drop_drop]
      have hready : Region.ready .any l.toArray li ≠ [] := by
        intro hnil
        have : c ∈ Region.ready .any l.toArray li := by
          refine mem_ready.2 ⟨by rw [getD_bool (by rw [inv.lsize]; exact hcs), hli]; simp, o, hoc, fun e he hb => by
            have := hD.back c o hoc e he hb
            rw [hli, decide_eq_true this]⟩
        rw [hnil] at this; cases this
      rw [show l.toArray.size - c = (l.toArray.size - (c + 1)) + 1 by omega]
      refine ⟨fun h => absurd h hready, fun i hi => ?_⟩
      have hic : i = c := by
        obtain ⟨hun, oi, hoi, _⟩ := mem_ready.1 hi
        have hilt := (Array.getElem?_eq_some_iff.1 hoi).1
        rw [getD_bool (by rw [inv.lsize]; exact hilt), hli] at hun
        have h1 : ¬ i < c := of_decide_eq_false hun
        apply Classical.byContradiction; intro hne
        have := reach_of_ready hinv.closed hi (hr2 i (by omega) hilt)
        rw [hli] at this
        have := of_decide_eq_true this
        omega
      subst hic
      have hlsz : (li.setIfInBounds i true).size = l.toArray.size := by simp [inv.lsize]
      have hl2 : ∀ j, (li.setIfInBounds i true).getD j false = decide (j ≤ i) := by
        intro j
        by_cases hji : j = i
        · subst hji
          have : j < li.size := by rw [inv.lsize]; exact hcs
          simp [this]
        · rw [getD_set_ne false (Ne.symm hji), hli]
          rw [Bool.eq_iff_iff]; simp; omega
      have hcl2 := closed_set hinv.closed hi
      unfold wpOp
      rw [hoc]
      simp only
      rw [if_pos (by simp [Region.wanted, hog])]
      refine .inl ?_
      refine eff_sound (cx := cx) hod hoe _ _ (fun s' a' w' hs' ok'' => ?_) a w hok
      rw [hrr] at hs'
      exact rest_any rfl hD hcs hs' (fun s a w hk ok => ⟨s, hk, ok⟩) hlsz hl2 hcl2 ok'')
    c _ a _ hcount inv0
  have hN : c + (l.toArray.size - c) = l.toArray.size := by omega
  rw [hN] at this
  exact this
end
end Go.Proofs.YtpidkkgjgichdaaDoor
namespace Go.Proofs.YtpidkkgjgichdaaDoor
open Go
set_option linter.unusedSimpArgs false
set_option linter.unusedVariables false
section
variable {P : Program} {cx : Cx} {n : Nat} {ops : Array Oper} {H : Hp}
theorem tail_to {k0 : Nat} (hback : ∀ (i : Nat) oi, ops[i]? = some oi → ∀ e ∈ oi.after, Region.binds .any e = true → e.on < i) (hr : ∀ i, k0 ≤ i → i < ops.size → ∀ j, k0 ≤ j → j < i → reach ops 12 i j = true) {R : Exit → Act → World → Prop} :
    ∀ (l : List Oper) (k : Nat) (listed : Array Bool) (a : Act) (w : World), k0 ≤ k → (∀ j, l[j]? = ops[k + j]?) → k + l.length = ops.size →
    listed.size = ops.size → (∀ j, j < ops.size → listed.getD j false = decide (j < k)) → wpList P ops R l a w → wpAny P .any ops R l.length listed a w
  | [], k, listed, a, w, hk, hl, hsz, hls, hlist, h => by
    refine ⟨?_, h⟩
    refine List.eq_nil_iff_forall_not_mem.2 fun j hj => ?_
    obtain ⟨h1, o, ho, _⟩ := mem_ready.1 hj
    have hjlt : j < ops.size := (Array.getElem?_eq_some_iff.1 ho).1
    have := hlist j hjlt
    rw [getD_bool (by omega), this] at h1
    simp at h1
    simp at hsz
    omega
  | o :: l, k, listed, a, w, hk, hl, hsz, hls, hlist, h => by
    have h0 : ops[k]? = some o := by simpa using (hl 0).symm
    have hklt : k < ops.size := (Array.getElem?_eq_some_iff.1 h0).1
    have hready : k ∈ Region.ready .any ops listed := by
      refine mem_ready.2 ⟨?_, o, h0, fun e he hb => ?_⟩
      · rw [getD_bool (by omega), hlist k hklt]; simp
      · have := hback k o h0 e he hb
        rw [hlist _ (by omega)]; simp; exact this
    refine ⟨fun h1 => (by rw [h1] at hready; cases hready), fun i hi => ?_⟩
    have hik : i = k := by
      obtain ⟨h1, oi, hoi, _⟩ := mem_ready.1 hi
      have hilt : i < ops.size := (Array.getElem?_eq_some_iff.1 hoi).1
      rw [getD_bool (by omega), hlist i hilt] at h1
      simp at h1
      by_cases h2 : i = k
      · exact h2
      · have hcl : Closed ops listed := fun j oj hj hl c hw => by
          obtain ⟨e, he, hb, rfl⟩ := waits_spec hw
          have h3 := hback j oj hj e he hb
          have h4 : j < ops.size := (Array.getElem?_eq_some_iff.1 hj).1
          rw [hlist j h4] at hl
          simp at hl
          rw [hlist _ (by omega)]
          simp; omega
        have := reach_of_ready hcl hi (hr i (by omega) hilt k hk (by omega))
        rw [hlist k hklt] at this
        simp at this
    subst hik
    have hw : wpOp P ops R i (wpList P ops R l) a w := by unfold wpOp; simp only [h0]; exact h
    refine wpOp_mono (fun a' w' h' => tail_to hback hr l (i + 1) _ a' w' (by omega) (fun j => by have := hl (j + 1); simpa [Nat.add_assoc, Nat.add_comm 1 j] using this) (by simp at hsz; omega) (by simp [hls]) (fun j hj => ?_) h') hw
    by_cases hji : j = i
    · subst hji
      have : j < listed.size := by omega
      simp [this]
    · rw [getD_set_ne false (Ne.symm hji), hlist j hj, Bool.eq_iff_iff]
      simp
      omega
def mkS (P : Program) (env : List (Nat × AV)) : Op → Option (Prop × MB × Nat)
  | .buildSlice T len parts => match apT P T with
    | some (e, sz, _) => match fillA (plN sz len 0) (List.replicate (len * sz) .any) (ogp env parts.toList).2 with
      | some cs => some ((ogp env parts.toList).1 ∧ len * sz ≤ 16777216, rowMB (elk P T) cs (len * sz) e, len)
      | none => none
    | none => none
  | _ => none
def drawMF (P : Program) (n : Nat) (l : List Oper) (K : St → Prop) (ia k : Nat) (s : St) : Prop :=
  match l with
  | ⟨some d, .move (.tmp x), _, _, _, none⟩ :: l1 => d < n ∧ dvc P n l.toArray (l1.take (ia - 1)) (fun s1 => match l1.drop (ia - 1) with
    | ⟨some t, op, _, _, _, none⟩ :: r => match mkS P s1.env op with
      | some q => t < n ∧ q.1 ∧ dvc P n l.toArray (r.take (k - ia - 1)) (fun s3 => newB s3.H q.2.1 fun b H => rvc P n l.toArray (r.drop (k - ia - 1)) K ⟨(t, ms b 0 q.2.2 q.2.2) :: s3.env, H⟩) ⟨(t, .any) :: s1.env, s1.H⟩
      | none => False
    | _ => False) ⟨(d, look s.env x) :: s.env, s.H⟩
  | _ => False
end
end Go.Proofs.YtpidkkgjgichdaaDoor
namespace Go.Proofs.YtpidkkgjgichdaaDoor
open Go
set_option linter.unusedSimpArgs false
set_option linter.unusedVariables false
section
variable {P : Program} {cx : Cx} {n : Nat} {ops : Array Oper}
def WCt (P : Program) (f : FuncId) (args : List AV) (E H0 : Hp) (post : AV → Hp → Prop) (d : Hd post := .mk) : Prop :=
  ∃ F R p, E.Perm (F ++ R) ∧ ACt P f args F p ∧ ∀ r F', p r F' → (((F' ++ R) ++ H0).map (·.1)).Nodup → post r (F' ++ R)
theorem run_wct {f : FuncId} {args : List AV} {env : List (Nat × AV)} {E H0 : Hp} {post : AV → Hp → Prop} {a : Act} {w : World} {vs : Array Value} (ok : Ok cx n ⟨env, E ++ H0⟩ a w) (h : WCt P f args E H0 post) (hs : vs.size = args.length)
    (hv : ∀ i, i < args.length → Rep w (imm cx w (E ++ H0)) (vs.getD i undef) (args.getD i .any)) :
    CallX P f vs w fun e w' => ∃ v x E', e = .returned v ∧ post x E' ∧ (∀ y ∈ E', fresh H0 y.1) ∧ Rep w' (imm cx w' (E' ++ H0)) v x ∧ OkW cx (E' ++ H0) w' ∧
      ∀ c, imm cx w (E ++ H0) c → imm cx w' (E' ++ H0) c ∧ w'.heap[c]? = w.heap[c]? := by
  obtain ⟨F, R, p, hP0, hct, hpost⟩ := h
  have hP : (E ++ H0).Perm (F ++ (R ++ H0)) := by rw [← List.append_assoc]; exact hP0.append_right H0
  have hw := ok.world.perm hP
  have hIp : ∀ b, imm cx w (E ++ H0) b → imm cx w (F ++ (R ++ H0)) b := fun b hb => (imm_perm hP).1 hb
  have hI : ∀ b, imm cx w (E ++ H0) b → b < w.heap.size ∧ (b ∉ F.map (·.1) ∨ b ∈ roK F) := fun b hb => ⟨imm_lt hw.ext.size hb, imm_out hw (hIp b hb)⟩
  have hT := roK_lt hw
  have hnd := hw.nodup
  rw [List.map_append, List.nodup_append] at hnd
  have := hct ⟨w, imm cx w (E ++ H0), F.map (·.1), roK F, hI, hT⟩ vs rfl rfl ⟨hnd.1, fun x hx => .inl (List.mem_map_of_mem hx), fun x hx => (hw.mem x (List.mem_append_left _ hx)).mono (fun b hb => ⟨.inl ((imm_perm hP).2 hb), rfl⟩) rfl,
    ⟨rfl, rfl, rfl, Nat.le_refl _, fun _ _ _ => rfl⟩, roK_ro hnd.1⟩ hs hv
  refine this.mono ?_
  rintro e w' ⟨v, r, F', he, hp, hw', hr⟩
  obtain ⟨c1, c2, c3⟩ := call_frame hIp hw hw'
  rw [show F' ++ (R ++ H0) = F' ++ R ++ H0 from (List.append_assoc ..).symm] at c1 c2 c3
  exact ⟨v, r, F' ++ R, he, hpost r F' hp c1.nodup, fresh_app c1.nodup, hr.mono fun b hb => ⟨c3 b hb, rfl⟩, c1, fun c hc => c2 c (hIp c hc)⟩
theorem effW_call {o : Oper} {env : List (Nat × AV)} {E H0 : Hp} {post : AV → Hp → Prop} {q : Prop × FuncId × List AV} (hc : calleeV env o.op = some q) (hq : q.1) (h : WCt P q.2.1 q.2.2 E H0 post)
    {a : Act} {w : World} {X : Act → World → Prop} {R : Exit → Act → World → Prop} (h1 : a.defers = []) (h2 : a.tmps.size = n) (h3 : OkW cx (E ++ H0) w)
    (h4 : ∀ t ∈ o.looksAt ops, Rep w (imm cx w (E ++ H0)) (a.tmps.getD t undef) (look env t))
    (h5 : ∀ v x E' w', post x E' → (∀ y ∈ E', fresh H0 y.1) → Rep w' (imm cx w' (E' ++ H0)) v x → OkW cx (E' ++ H0) w' → (∀ c, imm cx w (E ++ H0) c → imm cx w' (E' ++ H0) c ∧ w'.heap[c]? = w.heap[c]?) → X (a.put o.dst v) w') : o.wp P a w X R := by
  have ok := ok_renv h1 h2 h3 h4
  have hre := opd_renv (ops := ops) (o := o) (env := env)
  obtain ⟨dst, op, type, pos, after, guard⟩ := o
  simp only at hc h5 hre ok
  unfold calleeV at hc
  split at hc
  · rename_i cl
    obtain ⟨callee, args, ts⟩ := cl
    simp only at hc
    split at hc
    · rename_i f
      simp only [Option.some.injEq] at hc
      subst hc
      simp only at hq h
      have he : ogs env args.toList = ogs (renv env (Oper.looksAt ops ⟨dst, .call ⟨.value (.func f), args, ts⟩, type, pos, after, guard⟩)) args.toList :=
        ogs_congr fun x hx => hre x (by simp [Op.operands, Call.operands]; exact .inr (by simpa using hx))
      rw [he] at hq h
      have hlen := ogs_length (env := renv env (Oper.looksAt ops ⟨dst, .call ⟨.value (.func f), args, ts⟩, type, pos, after, guard⟩)) args.toList
      have := run_wct (vs := args.map a.eval) ok h (by rw [hlen]; simp) (fun i hi => by
        have := ok.ogs hq i (by rw [hlen] at hi; exact hi)
        simpa [List.getD] using this)
      unfold Oper.wp
      have hrun : (execOp a.eval ⟨dst, .call ⟨.value (.func f), args, ts⟩, type, pos, after, guard⟩).run P w = (callFunc f (args.map a.eval)).run P w := by
        simp only [execOp, resolve, Act.eval, Deferred.ofValue, Sem.run_bind, Sem.run_pure, Result.andThen_ok, invoke, Array.append_empty, Array.empty_append]
        try simp
      refine this.upon hrun ?_
      rintro e w' ⟨v, x, E', rfl, hp, hf, hrep, c1, c2⟩
      exact ⟨_, rfl, h5 v x E' w' hp hf hrep c1 c2⟩
    · cases hc
  · cases hc
def drawWF (P : Program) (n : Nat) (l : List Oper) (K : St → Prop) (c k : Nat) (bs : List Nat) (s : St) : Prop :=
  match splitH bs s.H with
  | some q => dvc P n l.toArray (l.take c) (fun s1 => match l.drop c with
    | ⟨some t, op, _, _, _, none⟩ :: r => t < n ∧ match calleeV s1.env op with
      | some g => g.1 ∧ dvc P n l.toArray (r.take (k - c - 1)) (fun s3 => WCt P g.2.1 g.2.2 q.1 q.2 fun x E' => rvc P n l.toArray (r.drop (k - c - 1)) K ⟨(t, x) :: s3.env, E' ++ q.2⟩) ⟨(t, .any) :: s1.env, s1.H⟩
      | none => False
    | _ => False) ⟨s.env, q.2⟩
  | none => False
theorem WCt.row {f : FuncId} {args : List AV} {E H0 : Hp} {b : Nat} {m : MB} {k : IntKind} {ty : TypeId} {zs : List Int} {post : AV → Hp → Prop} (hg : hget E b = some m) (h : ACt P f args [(b, m)] (Row k ty zs))
    (hp : Nu fun b' => Nu fun cap' => Fr (zs.length ≤ cap' ∧ cap' ≤ maxLen ∧ fresh (hdel E b ++ H0) b') (post (ms b' 0 zs.length cap') ((b', .zs k zs cap' ty) :: hdel E b))) : WCt P f args E H0 post := by
  refine ⟨[(b, m)], hdel E b, _, hget_perm hg, h, ?_⟩
  rintro r F' ⟨b', cap', h1, h2, rfl, rfl⟩ hn
  exact ((hp.out b').out cap').out ⟨h1, h2, fresh_of_nodup hn⟩
theorem WCt.mkrow {f : FuncId} {args : List AV} {E H0 : Hp} {k : IntKind} {ty : TypeId} {zs : List Int} {post : AV → Hp → Prop} (h : ACt P f args [] (Row k ty zs))
    (hp : Nu fun b' => Nu fun cap' => Fr (zs.length ≤ cap' ∧ cap' ≤ maxLen ∧ fresh (E ++ H0) b') (post (ms b' 0 zs.length cap') ((b', .zs k zs cap' ty) :: E))) : WCt P f args E H0 post := by
  refine ⟨[], E, _, by simp, h, ?_⟩
  rintro r F' ⟨b', cap', h1, h2, rfl, rfl⟩ hn
  exact ((hp.out b').out cap').out ⟨h1, h2, fresh_of_nodup hn⟩
theorem ACt.fz {f : FuncId} {args : List AV} {F F0 : Hp} {k : IntKind} {ty : TypeId} {zs : List Int}
    (h : ACt P f args F (fun r F' => ∃ q : {p : Nat × Nat // zs.length ≤ p.2 ∧ p.2 ≤ 9223372036854775807}, r = ms q.1.1 0 zs.length q.1.2 ∧ F' = (q.1.1, .zs k zs q.1.2 ty) :: F0)) :
    ACt P f args F (fun r F' => r = .slz k zs ∧ F' = F0) := by
  intro cx vs h1 h1' h2 h3 h4
  refine (h cx vs h1 h1' h2 h3 h4).mono ?_
  rintro e w' ⟨v, r, F', he, ⟨q, rfl, rfl⟩, hw, hr⟩
  have hv := hr.lit_inv
  have hp : OkW cx (F0 ++ [(q.1.1, .zs k zs q.1.2 ty)]) w' := hw.perm (List.perm_append_comm (l₁ := [(q.1.1, MB.zs k zs q.1.2 ty)]))
  obtain ⟨d1, d2⟩ := hp.drop
  refine ⟨v, _, F0, he, ⟨rfl, rfl⟩, d1, ?_⟩
  rw [hv]
  have hm := hw.mem _ (List.mem_cons_self ..)
  have hlt := hm.lt
  obtain ⟨cur, e1, e2, e3, e4⟩ := hm
  have hn := hw.nodup
  simp only [List.map_cons, List.nodup_cons] at hn
  refine .slz _ _ _ _ q.2.1 (by rw [maxLen_eq]; exact q.2.2) (.inr ⟨q.1.1, 0, rfl, .inr ⟨hw.keys _ (List.mem_cons_self ..), hlt, fun x hx he => hn.1 (List.mem_map.2 ⟨x, hx, he⟩)⟩, fun i hi => ?_⟩)
  rw [Nat.zero_add, cell_of_block e1, e4 i hi]
theorem ACt.fzRow {f : FuncId} {args : List AV} {F : Hp} {k : IntKind} {ty : TypeId} {zs : List Int} (h : ACt P f args F (Row k ty zs)) : ACt P f args F (fun r F' => r = .slz k zs ∧ F' = []) := by
  refine ACt.fz (ty := ty) (h.mono ?_)
  rintro r F' ⟨b, cap, h1, h2, rfl, rfl⟩
  exact ⟨⟨(b, cap), h1, by rw [maxLen_eq] at h2; exact h2⟩, rfl, rfl⟩
end
end Go.Proofs.YtpidkkgjgichdaaDoor
