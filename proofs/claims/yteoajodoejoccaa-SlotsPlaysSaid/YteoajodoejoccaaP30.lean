/-
  The walks and the laws that the statement leans on, part 30.
-/
import Derived.Test.YteoajodoejoccaaP10
namespace Go.Proofs.Yteoajodoejoccaa
open Go
set_option linter.unusedVariables false
set_option linter.unusedSimpArgs false
def fvOf (env : List (Nat × AV)) : Op → Option (Prop × FuncId × List AV)
  | .call c => match c.callee with
    | .value x => match (og env x).2 with
      | .lit (.func (.func f) fi ca) => some ((og env x).1 ∧ (ogs env c.args.toList).1, f, appA (capA fi.toList) (appA (ogs env c.args.toList).2 (capA ca.toList)))
      | _ => none
    | _ => none
  | _ => none
def kst (P : Program) (s : St) (o : Oper) (K : AV → Prop) : Prop :=
  match pev P s.H s.env o.op with
  | some r => r.1 ∧ K r.2
  | none => match calleeOf P s.env o.op with
    | some q => q.1 ∧ ExF P q.2.1 q.2.2 s.H fun x => K x
    | none => match fvOf s.env o.op with
      | some q => q.1 ∧ ExF P q.2.1 q.2.2 s.H fun x => K x
      | none => False
def dkn (P : Program) (n : Nat) (ops : Array Oper) : List Oper → (St → Prop) → St → Prop
  | [], K, s => K s
  | o :: rest, K, s => okd n o.dst ∧ match o.guard with
    | none => kst P s o fun x => dkn P n ops rest K (s.put o.dst x)
    | some (j, want) => match gdOf s.env ops j want with
      | some true => kst P s o fun x => dkn P n ops rest K (s.put o.dst x)
      | some false => dkn P n ops rest K (s.put o.dst (.lit undef))
      | none => False
section
variable {P : Program} {cx : Cx} {n : Nat} {ops : Array Oper}
def PW (P : Program) (cx : Cx) (n : Nat) (ops : Array Oper) (o : Oper) (env : List (Nat × AV)) (H : Hp) (x : AV) : Prop :=
  ∀ (a : Act) (w : World) (X : Act → World → Prop) (R : Exit → Act → World → Prop), a.defers = [] → a.tmps.size = n → OkW cx H w →
    (∀ t ∈ o.looksAt ops, Rep w (imm cx w H) (a.tmps.getD t undef) (look env t)) →
    (∀ v w', Rep w' (imm cx w' H) v x → OkW cx H w' → (∀ c, imm cx w H c → imm cx w' H c ∧ w'.heap[c]? = w.heap[c]?) → X (a.put o.dst v) w') → o.wp P a w X R
theorem pw_stdy {o : Oper} {env : List (Nat × AV)} {H : Hp} {x : AV} (hd : okd n o.dst) (hg : o.guard = none) (h : PW P cx n ops o env H x) : Stdy P cx n ops o env H x :=
  ⟨hd, fun a w X R h1 h2 h3 h4 h5 => by
    rw [if_pos (by simp [Region.wanted, hg])]
    exact h a w X R h1 h2 h3 h4 h5⟩
theorem pw_stdyT {o : Oper} {env : List (Nat × AV)} {H : Hp} {x : AV} {j : Nat} {want : Bool} (hd : okd n o.dst) (hg : o.guard = some (j, want)) (hc : gdOf env ops j want = some true) (h : PW P cx n ops o env H x) : Stdy P cx n ops o env H x :=
  ⟨hd, fun a w X R h1 h2 h3 h4 h5 => by
    have ok := ok_renv h1 h2 h3 h4
    rw [wanted_of_gd ok hg (by rw [gdOf_renv hg]; exact hc), if_pos rfl]
    exact h a w X R h1 h2 h3 h4 h5⟩
theorem stdyF {o : Oper} {env : List (Nat × AV)} {H : Hp} {j : Nat} {want : Bool} (hd : okd n o.dst) (hg : o.guard = some (j, want)) (hc : gdOf env ops j want = some false) : Stdy P cx n ops o env H (.lit undef) :=
  ⟨hd, fun a w X R h1 h2 h3 h4 h5 => by
    have ok := ok_renv h1 h2 h3 h4
    rw [wanted_of_gd ok hg (by rw [gdOf_renv hg]; exact hc), if_neg (by simp)]
    exact h5 undef w (.lit _) h3 fun c hc => ⟨hc, rfl⟩⟩
theorem pw_fv {o : Oper} {env : List (Nat × AV)} {H : Hp} {x : AV} {q : Prop × FuncId × List AV} (hq : fvOf env o.op = some q) (hob : q.1) (hct : DCt P q.2.1 q.2.2 H x) : PW P cx n ops o env H x := by
  intro a w X R h1 h2 h3 h4 h5
  have ok := ok_renv h1 h2 h3 h4
  have hre := opd_renv (ops := ops) (o := o) (env := env)
  obtain ⟨dst, op, type, pos, after, guard⟩ := o
  simp only at hq h5 hre ok
  unfold fvOf at hq
  split at hq
  case h_2 => cases hq
  rename_i cl
  obtain ⟨callee, args, ts⟩ := cl
  simp only at hq
  split at hq
  case h_2 => cases hq
  rename_i fx
  split at hq
  case h_2 => cases hq
  rename_i f fi ca hfv
  cases hq
  simp only at hob hct
  obtain ⟨hob1, hob2⟩ := hob
  obtain ⟨E, hE⟩ : ∃ E, E = renv env (Oper.looksAt ops ⟨dst, .call ⟨.value fx, args, ts⟩, type, pos, after, guard⟩) := ⟨_, rfl⟩
  rw [← hE] at ok hre
  have e1 : og env fx = og E fx := og_congr (hre fx (by simp [Op.operands, Call.operands]))
  have e2 : ogs env args.toList = ogs E args.toList := ogs_congr fun y hy => hre y (by simp [Op.operands, Call.operands]; exact .inr (by simpa using hy))
  rw [e1] at hob1 hfv
  rw [e2] at hob2 hct
  rw [capA_eq, capA_eq, appA_eq, appA_eq] at hct
  have hlen := ogs_length (env := E) args.toList
  have hfx := ok.og hob1
  rw [hfv] at hfx
  have hfx := hfx.lit_inv
  have := run_dct (vs := (fi ++ args.map a.eval) ++ ca) ok hct (by simp [hlen] <;> omega) (fun i hi => by
          simp only [List.length_append, List.length_map, Array.length_toList, hlen] at hi
          simp only [Array.getD_eq_getD_getElem?, Array.getElem?_append, Array.size_append, Array.size_map, List.getD_eq_getElem?_getD, List.getElem?_append, List.length_map, Array.length_toList, hlen]
          by_cases h1 : i < fi.size
          · rw [if_pos (by omega), if_pos h1, if_pos h1]
            simp [h1]
            exact .lit _
          · rw [if_neg h1]
            by_cases h2 : i - fi.size < args.size
            · rw [if_pos (by omega), if_neg h1, if_pos h2]
              have := ok.ogs hob2 (i - fi.size) (by simpa using h2)
              simpa [List.getD] using this
            · rw [if_neg (by omega), if_neg h2]
              have h3 : i - (fi.size + args.size) < ca.size := by omega
              rw [show i - fi.size - args.size = i - (fi.size + args.size) by omega]
              simp [h3, h1]
              exact .lit _)
  unfold Oper.wp
  have hrun : (execOp a.eval ⟨dst, .call ⟨.value fx, args, ts⟩, type, pos, after, guard⟩).run P w = (callFunc f ((fi ++ args.map a.eval) ++ ca)).run P w := by
    simp only [execOp, resolve, hfx, Deferred.ofValue, Sem.run_bind, Sem.run_pure, Result.andThen_ok, invoke]
  refine this.upon hrun ?_
  rintro e w' ⟨v, rfl, hrep, c1, c2⟩
  exact ⟨_, rfl, h5 v w' hrep c1 c2⟩
theorem kst_pw {o : Oper} {s : St} {K : AV → Prop} (h : kst P s o K) : ∃ x, PW P cx n ops o s.env s.H x ∧ K x := by
  unfold kst at h
  split at h
  · rename_i r hr
    refine ⟨r.2, fun a w X R h1 h2 h3 h4 h5 => ?_, h.2⟩
    have ok := ok_renv h1 h2 h3 h4
    obtain ⟨v, hv, hrep⟩ := pev_sound (n := n) (cx := cx) (s := ⟨renv s.env (o.looksAt ops), s.H⟩) (by rw [← pev_congr opd_renv]; exact hr) h.1 a w ok
    unfold Oper.wp
    rw [hv]
    exact h5 v w hrep h3 fun c hc => ⟨hc, rfl⟩
  · split at h
    · rename_i q hq
      obtain ⟨hob, x, h1, h2⟩ := h
      refine ⟨x, fun a w X R k1 k2 k3 k4 k5 => ?_, h2⟩
      have ok := ok_renv k1 k2 k3 k4
      exact dcall_wp ok ((dcall_congr (s := ⟨s.env, s.H⟩) (s' := ⟨renv s.env (o.looksAt ops), s.H⟩) rfl opd_renv).1 (dcall_of (s := s) hq hob h1)) k5
    · split at h
      · rename_i q hq
        obtain ⟨hob, x, h1, h2⟩ := h
        exact ⟨x, pw_fv hq hob h1, h2⟩
      · exact h.elim
theorem kst_mono {s : St} {o : Oper} {K K' : AV → Prop} (hk : ∀ x, K x → K' x) (h : kst P s o K) : kst P s o K' := by
  unfold kst at *
  split at h
  · exact ⟨h.1, hk _ h.2⟩
  · split at h
    · obtain ⟨h0, x, h1, h2⟩ := h; exact ⟨h0, x, h1, hk _ h2⟩
    · split at h
      · obtain ⟨h0, x, h1, h2⟩ := h; exact ⟨h0, x, h1, hk _ h2⟩
      · exact h
theorem dkn_mono : ∀ (ops : Array Oper) (l : List Oper) (K K' : St → Prop) (s : St), (∀ s, K s → K' s) → dkn P n ops l K s → dkn P n ops l K' s := by
  intro ops l
  induction l with
  | nil => intro K K' s hk h; exact hk s h
  | cons o r ih =>
    intro K K' s hk h
    obtain ⟨hd, h⟩ := h
    refine ⟨hd, ?_⟩
    split at h
    · exact kst_mono (fun x hx => ih _ _ _ hk hx) h
    · split at h
      · exact kst_mono (fun x hx => ih _ _ _ hk hx) h
      · exact ih _ _ _ hk h
      · exact h
theorem dkn_seqv {K : St → Prop} : ∀ (l : List Oper) (s : St), dkn P n ops l K s → ∃ xs : List AV, xs.length = l.length ∧ Seqv P cx n ops s.H (l.zip xs) s.env ∧
    K ⟨envL (fun _ => true) (l.zip xs) 0 s.env, s.H⟩
  | [], s, h => ⟨[], rfl, fun i o x h => by simp at h, h⟩
  | o :: rest, s, ⟨hd, h⟩ => by
    have step : ∀ x, Stdy P cx n ops o s.env s.H x → dkn P n ops rest K (s.put o.dst x) → ∃ xs : List AV, xs.length = (o :: rest).length ∧ Seqv P cx n ops s.H ((o :: rest).zip xs) s.env ∧
        K ⟨envL (fun _ => true) ((o :: rest).zip xs) 0 s.env, s.H⟩ := by
      intro x hx hr
      obtain ⟨xs, h1, h2, h3⟩ := dkn_seqv rest _ hr
      rw [put_eq] at h2 h3
      refine ⟨x :: xs, by simp [h1], fun i o' x' hi => ?_, ?_⟩
      · cases i with
        | zero =>
          simp at hi
          obtain ⟨rfl, rfl⟩ := hi
          have : envL (fun j => decide (j < 0)) ((o :: rest).zip (x :: xs)) 0 s.env = s.env := by
            have hno : ∀ (l : List (Oper × AV)) (k : Nat) (env : List (Nat × AV)), envL (fun j => decide (j < 0)) l k env = env := by
              intro l
              induction l with
              | nil => intro k env; rfl
              | cons p r ih => intro k env; obtain ⟨o, x⟩ := p; simp only [envL]; exact ih _ _
            exact hno _ _ _
          rw [this]
          exact hx
        | succ i =>
          have := h2 i o' x' (by simpa using hi)
          simp only [List.zip_cons_cons, envL, Nat.zero_lt_succ, decide_true, if_true, envL_shift]
          simpa using this
      · simp only [List.zip_cons_cons, envL, if_true, envL_shift]
        exact h3
    split at h
    · rename_i hg
      obtain ⟨x, h1, h2⟩ := kst_pw (ops := ops) (cx := cx) (n := n) h
      exact step x (pw_stdy hd hg h1) h2
    · rename_i j want hg
      split at h
      · rename_i hc
        obtain ⟨x, h1, h2⟩ := kst_pw (ops := ops) (cx := cx) (n := n) h
        exact step x (pw_stdyT hd hg hc h1) h2
      · rename_i hc
        exact step _ (stdyF hd hg hc) h
      · exact h.elim
theorem WP.drawV {id k : Nat} {l : List Oper} {Q : Exit → St → Prop} {s : St} (hm : P.follows .mixedOrders = true) (hB : drawB l.toArray k = true)
    (h0 : dkn P n l.toArray (l.take k) (rvc P n l.toArray (l.drop k) (Q .normal)) s) : WP P cx n (.region id l.toArray true) Q s := by
  have h : dkn P n l.toArray (l.take k) (fun s' => RP P cx n l.toArray (l.drop k) (Q .normal) s') s := dkn_mono _ _ _ _ _ (fun s hs => rvc_sound _ s hs) h0
  intro a w ok
  have hD := drawB_spec hB
  have hkl : k ≤ l.length := by simpa using hD.le
  obtain ⟨xs, hx1, hx2, hx3⟩ := dkn_seqv (cx := cx) _ _ h
  have htl : (l.take k).length = k := by simp; omega
  have hzl : ((l.take k).zip xs).length = k := by simp [hx1]; omega
  have hlx : ∀ (j : Nat) o x, ((l.take k).zip xs)[j]? = some (o, x) → l.toArray[j]? = some o := by
    intro j o x hj
    rw [List.getElem?_zip_eq_some] at hj
    have := hj.1
    rw [List.getElem?_take] at this
    split at this
    · simpa using this
    · cases this
  rw [← hzl] at hD
  refine wp_region_any hm ?_
  have ok' : Ok cx n s a { w with drawn := w.drawn + 1 } := by
    have hIw : ∀ b, imm cx w s.H b → imm cx { w with drawn := w.drawn + 1 } s.H b ∧ ({ w with drawn := w.drawn + 1 } : World).heap[b]? = w.heap[b]? := fun b hb => ⟨hb, rfl⟩
    refine ⟨ok.defers, ok.size, fun i => (ok.reps i).mono hIw, ⟨ok.world.nodup, ok.world.keys, fun x hx => (ok.world.mem x hx).mono hIw rfl, ⟨ok.world.ext.os, ok.world.ext.tape, ok.world.ext.output, ok.world.ext.size, ok.world.ext.blk⟩, ok.world.ro⟩⟩
  have henv0 : envL (fun j => (Array.replicate l.toArray.size false).getD j false) ((l.take k).zip xs) 0 s.env = s.env := by
    have hf : (fun j => (Array.replicate l.toArray.size false).getD j false) = fun _ => false := by
      funext j
      exact getD_rep_false _ _
    rw [hf]
    have hno : ∀ (l : List (Oper × AV)) (k : Nat) (env : List (Nat × AV)), envL (fun _ => false) l k env = env := by
      intro l
      induction l with
      | nil => intro k env; rfl
      | cons p r ih => intro k env; obtain ⟨o, x⟩ := p; simp only [envL]; exact ih _ _
    exact hno _ _ _
  have inv0 : DInv cx n l.toArray ((l.take k).zip xs) s.env s.H (Array.replicate l.toArray.size false) a { w with drawn := w.drawn + 1 } := by
    refine ⟨by simp, fun j oj _ hl => ?_, fun t _ ht => ?_, ?_⟩
    · rw [getD_rep_false] at hl; cases hl
    · have : t < l.length := by simpa using ht
      simp [this]
    · rw [henv0]; exact ok'
  have hfin : ∀ listed a w, DInv cx n l.toArray ((l.take k).zip xs) s.env s.H listed a w → (∀ j, j < ((l.take k).zip xs).length → listed.getD j false = true) →
      wpAny P .any l.toArray (fun e a' w' => ∃ s', Q e s' ∧ Ok cx n s' a' w') (l.drop k).length listed a w := by
    intro listed a w inv hall
    have henv : ∀ t, look (envL (fun j => listed.getD j false) ((l.take k).zip xs) 0 s.env) t = look (envL (fun _ => true) ((l.take k).zip xs) 0 s.env) t := by
      intro t
      refine envL_congr _ 0 _ _ rfl fun j o x hj _ => ?_
      rw [Nat.zero_add]
      exact hall j (List.getElem?_eq_some_iff.1 hj).1
    have hok : Ok cx n ⟨envL (fun _ => true) ((l.take k).zip xs) 0 s.env, s.H⟩ a w :=
      ⟨inv.ok.defers, inv.ok.size, fun t => by have := inv.ok.reps t; rw [henv t] at this; exact this, inv.ok.world⟩
    have hwl := hx3 (fun e a' w' => ∃ s', Q e s' ∧ Ok cx n s' a' w') (fun s' a' w' hk ok' => ⟨s', hk, ok'⟩) a w hok
    refine tail_any (k0 := k) (by rw [hzl] at hD; exact hD) (l.drop k) k listed a w (Nat.le_refl _) (fun j => by simp [List.getElem?_drop]) (by simp; omega) inv.lsize (fun j hj => ?_) hwl
    by_cases hjk : j < k
    · rw [hall j (by rw [hzl]; exact hjk)]; simp [hjk]
    · have := inv.tail j (by rw [hzl]; omega) hj
      rw [getD_bool (by rw [inv.lsize]; exact hj)] at this
      rw [this]; simp; omega
  have hcount : ((List.range ((l.take k).zip xs).length).filter fun i => !(Array.replicate l.toArray.size false).getD i false).length = k := by
    rw [hzl]
    have : ((List.range k).filter fun i => !(Array.replicate l.toArray.size false).getD i false) = List.range k := by
      rw [List.filter_eq_self]
      intro j _
      rw [getD_rep_false]
      rfl
    rw [this]; simp
  have := head_any hD hlx hx2 hfin k _ a _ hcount inv0
  have hN : k + (l.drop k).length = l.toArray.size := by simp; omega
  rw [hN] at this
  exact this
end
end Go.Proofs.Yteoajodoejoccaa
