/-
  Every operation that leaves memory as it is, in one function; new blocks and stores; the walk over a list of operations as a formula.
-/
import Derived.Test.YtbnkmhlnoaebcaaLayE
namespace Go.Proofs.Ytbnkmhlnoaebcaa
open Go
set_option linter.unusedSimpArgs false
set_option linter.unusedVariables false

def ogs (env : List (Nat × AV)) : List Operand → Prop × List AV
  | [] => (True, [])
  | x :: r => ((og env x).1 ∧ (ogs env r).1, (og env x).2 :: (ogs env r).2)

def ogo (env : List (Nat × AV)) : Option Operand → Prop × Option AV
  | none => (True, none)
  | some x => ((og env x).1, some (og env x).2)

def ogp (env : List (Nat × AV)) : List (Nat × Operand) → Prop × List (Nat × AV)
  | [] => (True, [])
  | (i, x) :: r => ((og env x).1 ∧ (ogp env r).1, (i, (og env x).2) :: (ogp env r).2)

def slv (P : Program) (T : TypeId) (x : Prop × AV) (lo hi : Prop × Option AV) : Prop × AV :=
  (x.1 ∧ lo.1 ∧ hi.1 ∧ (slicev P T x.2 lo.2 hi.2).1, (slicev P T x.2 lo.2 hi.2).2)

def bltv (P : Program) (b : Builtin) (ts : List TypeId) (xs : Prop × List AV) : Option (Prop × AV) :=
  match b with
  | .len => match ts, xs.2 with
    | [T], [x] => some (xs.1 ∧ (lenv P T x).1, (lenv P T x).2)
    | _, _ => none
  | .min => match xs.2 with
    | [x, y] => some (xs.1 ∧ (min2v x y).1, (min2v x y).2)
    | _ => none
  | .max => match xs.2 with
    | [x, y] => some (xs.1 ∧ (max2v x y).1, (max2v x y).2)
    | _ => none
  | _ => none

def pev (P : Program) (H : Hp) (env : List (Nat × AV)) : Op → Option (Prop × AV)
  | .move x => some (og env x)
  | .assign x => some (og env x)
  | .pick c a b => some ((og env c).1 ∧ (picka (og env c).2 (opd env a) (opd env b)).1, (picka (og env c).2 (opd env a) (opd env b)).2)
  | .binOp op T x y _ => some (both (og env x) (og env y) (binv P T op))
  | .unOp op _ x => some (one (og env x) (unv op))
  | .convert src dst x => (convv P H src dst (og env x).2).map fun r => ((og env x).1 ∧ r.1, r.2)
  | .nilCheck x => some (one (og env x) nilv)
  | .fieldAddr T x f => some (one (og env x) (faddv P T f))
  | .field T x f => some (one (og env x) (fieldv P T f))
  | .indexAddr T x i => some (both (og env x) (og env i) (idxav P T))
  | .index T x i => some (both (og env x) (og env i) (indexv P T))
  | .load T a => some (one (og env a) (loadv P H T))
  | .slice T x lo hi none => some (slv P T (og env x) (ogo env lo) (ogo env hi))
  | .extract t ix => some (one (og env t) (extractv ix))
  | .makeInterface T x => some (one (og env x) (mkiv P T))
  | .build T parts => some ((ogp env parts.toList).1 ∧ (buildv P T (ogp env parts.toList).2).1, (buildv P T (ogp env parts.toList).2).2)
  | .call c => match c.callee with
    | .builtin b => bltv P b c.argTypes.toList (ogs env c.args.toList)
    | _ => none
  | _ => none

section
variable {P : Program} {cx : Cx} {n : Nat} {s : St} {o : Oper} {a : Act} {w : World}

theorem rep_strip {I : Nat → Prop} {v : Value} {x : AV} (h : Rep w I v x) (hs : (strip x).1) : Rep w I v (strip x).2 := by
  cases x <;> simp only [strip] at hs ⊢ <;> first | exact h | exact h.gd_true hs

theorem Ok.og (ok : Ok cx n s a w) {x : Operand} (h : (og s.env x).1) : Rep w (imm cx w s.H) (a.eval x) (og s.env x).2 := rep_strip (ok.opd x) h

theorem Ok.ogs (ok : Ok cx n s a w) : ∀ {l : List Operand}, (ogs s.env l).1 → ∀ i, i < l.length → Rep w (imm cx w s.H) ((l.map a.eval).getD i undef) ((Proofs.Ytbnkmhlnoaebcaa.ogs s.env l).2.getD i .any)
  | [], _, i, hi => by simp at hi
  | x :: r, h, 0, _ => by simpa [Proofs.Ytbnkmhlnoaebcaa.ogs] using ok.og h.1
  | x :: r, h, i + 1, hi => by
    have := Ok.ogs ok (l := r) h.2 i (by simpa using hi)
    simpa [Proofs.Ytbnkmhlnoaebcaa.ogs] using this

theorem ogs_length {env : List (Nat × AV)} : ∀ (l : List Operand), (ogs env l).2.length = l.length
  | [] => rfl
  | x :: r => by simp [ogs, ogs_length r]

theorem Ok.ogo (ok : Ok cx n s a w) {x : Option Operand} (h : (ogo s.env x).1) : BV w (imm cx w s.H) (x.map a.eval) (Proofs.Ytbnkmhlnoaebcaa.ogo s.env x).2 := by
  cases x with
  | none => trivial
  | some x => exact ok.og h

theorem ogp_keys {env : List (Nat × AV)} : ∀ (l : List (Nat × Operand)), (ogp env l).2.map (·.1) = l.map (·.1)
  | [] => rfl
  | (i, x) :: r => by simp [ogp, ogp_keys r]

theorem Ok.ogp (ok : Ok cx n s a w) : ∀ {l : List (Nat × Operand)}, (ogp s.env l).1 → ∀ i, i < (Proofs.Ytbnkmhlnoaebcaa.ogp s.env l).2.length →
    Rep w (imm cx w s.H) ((l.map fun p => a.eval p.2).getD i undef) (((Proofs.Ytbnkmhlnoaebcaa.ogp s.env l).2.map (·.2)).getD i .any)
  | [], _, i, hi => by simp [Proofs.Ytbnkmhlnoaebcaa.ogp] at hi
  | (j, x) :: r, h, 0, _ => by simpa [Proofs.Ytbnkmhlnoaebcaa.ogp] using ok.og h.1
  | (j, x) :: r, h, i + 1, hi => by
    have := Ok.ogp ok (l := r) h.2 i (by simpa [Proofs.Ytbnkmhlnoaebcaa.ogp] using hi)
    simpa [Proofs.Ytbnkmhlnoaebcaa.ogp] using this

theorem run_bltv {c : Call} {b : Builtin} {r : Prop × AV} (ok : Ok cx n s a w) (hb : c.callee = .builtin b) (hr : bltv P b c.argTypes.toList (ogs s.env c.args.toList) = some r) (h : r.1) (ho : o.op = .call c) :
    ∃ v, (execOp a.eval o).run P w = .ok (.value v) w ∧ Rep w (imm cx w s.H) v r.2 := by
  obtain ⟨callee, args, ts⟩ := c
  obtain ⟨args⟩ := args
  obtain ⟨ts⟩ := ts
  simp only at hb hr
  subst hb
  have hlen := ogs_length (env := s.env) args
  unfold bltv at hr
  split at hr
  · split at hr
    · rename_i T x h2
      cases hr
      rw [h2] at hlen
      match args, hlen with
      | [y], _ =>
        have hv := ok.ogs h.1 0 (by simp)
        rw [h2] at hv
        obtain ⟨u, hu, hr⟩ := run_len (P := P) hv o.type h.2
        refine ⟨u, ?_, hr⟩
        simp only [execOp, ho, resolve, invoke, builtin, List.map_toArray, List.map_cons, List.map_nil, Sem.run_bind, Sem.run_pure, Result.andThen_ok]
        simp at hu
        rw [hu]
        rfl
    · cases hr
  · split at hr
    · rename_i x y h2
      cases hr
      rw [h2] at hlen
      match args, hlen with
      | [y1, y2], _ =>
        have hv1 := ok.ogs h.1 0 (by simp)
        have hv2 := ok.ogs h.1 1 (by simp)
        rw [h2] at hv1 hv2
        obtain ⟨u, hu, hr⟩ := run_min2 (P := P) o.type ⟨ts⟩ hv1 hv2 h.2
        refine ⟨u, ?_, hr⟩
        simp only [execOp, ho, resolve, invoke, builtin, List.map_toArray, List.map_cons, List.map_nil, Sem.run_bind, Sem.run_pure, Result.andThen_ok]
        simp at hu
        rw [hu]
        rfl
    · cases hr
  · split at hr
    · rename_i x y h2
      cases hr
      rw [h2] at hlen
      match args, hlen with
      | [y1, y2], _ =>
        have hv1 := ok.ogs h.1 0 (by simp)
        have hv2 := ok.ogs h.1 1 (by simp)
        rw [h2] at hv1 hv2
        obtain ⟨u, hu, hr⟩ := run_max2 (P := P) o.type ⟨ts⟩ hv1 hv2 h.2
        refine ⟨u, ?_, hr⟩
        simp only [execOp, ho, resolve, invoke, builtin, List.map_toArray, List.map_cons, List.map_nil, Sem.run_bind, Sem.run_pure, Result.andThen_ok]
        simp at hu
        rw [hu]
        rfl
    · cases hr
  · cases hr

/-- What the function says is so. -/
theorem pev_sound {r : Prop × AV} (h : pev P s.H s.env o.op = some r) (hob : r.1) : PE P cx n o s r.2 := by
  intro a w ok
  obtain ⟨dst, op, type, pos, after, guard⟩ := o
  simp only at h
  unfold pev at h
  split at h
  · cases h; exact ⟨_, rfl, ok.og hob⟩
  · cases h; exact ⟨_, rfl, ok.og hob⟩
  · rename_i c x y
    cases h
    obtain ⟨t, ht, hr⟩ := rep_pick (ok.og hob.1) (ok.opd x) (ok.opd y) hob.2
    refine ⟨_, ?_, hr⟩
    simp only [execOp, Sem.run_bind, ht, asBool, Sem.run_pure, Result.andThen_ok]
  · rename_i bop T x y T'
    cases h
    obtain ⟨v, hv, hr⟩ := run_binv (P := P) (T := T) (x := x) (y := y) (ok.og hob.1) (ok.og hob.2.1) hob.2.2
    refine ⟨v, ?_, hr⟩
    simp only [execOp, Sem.run_bind] at hv ⊢
    rw [hv]
    rfl
  · cases h
    obtain ⟨v, hv, hr⟩ := run_unv (P := P) (ok.og hob.1) hob.2
    refine ⟨v, ?_, hr⟩
    simp only [execOp, Sem.run_bind, hv, Result.andThen_ok, Sem.run_pure]
  · rename_i src dst' x
    cases hc : convv P s.H src dst' (og s.env x).2 with
    | none => rw [hc] at h; cases h
    | some r' =>
      rw [hc] at h
      cases h
      obtain ⟨v, hv, hr⟩ := run_conv (P := P) ok.world (ok.og hob.1) hc hob.2
      refine ⟨v, ?_, hr⟩
      simp only [execOp, Sem.run_bind, hv, Result.andThen_ok, Sem.run_pure]
  · cases h
    obtain ⟨v, hv, hr⟩ := run_nil (P := P) (ok.og hob.1) hob.2
    refine ⟨v, ?_, hr⟩
    simp only [execOp]
    exact hv
  · cases h
    obtain ⟨v, hv, hr⟩ := run_fadd (P := P) (ok.og hob.1) hob.2
    refine ⟨v, ?_, hr⟩
    simp only [execOp, Sem.run_bind, hv, Result.andThen_ok, Sem.run_pure]
  · cases h
    obtain ⟨v, hv, hr⟩ := run_field (P := P) (ok.og hob.1) hob.2
    refine ⟨v, ?_, hr⟩
    simp only [execOp, Sem.run_bind, hv, Result.andThen_ok, Sem.run_pure]
  · cases h
    obtain ⟨v, hv, hr⟩ := run_idx (P := P) (ok.og hob.1) (ok.og hob.2.1) hob.2.2
    refine ⟨v, ?_, hr⟩
    simp only [execOp, Sem.run_bind, hv, Result.andThen_ok, Sem.run_pure]
  · cases h
    obtain ⟨v, hv, hr⟩ := run_index (P := P) (ok.og hob.1) (ok.og hob.2.1) hob.2.2
    refine ⟨v, ?_, hr⟩
    simp only [execOp, Sem.run_bind, hv, Result.andThen_ok, Sem.run_pure]
  · cases h
    obtain ⟨v, hv, hr⟩ := run_load_of (P := P) ok.world (ok.og hob.1) hob.2
    refine ⟨v, ?_, hr⟩
    simp only [execOp, Sem.run_bind, hv, Result.andThen_ok, Sem.run_pure]
  · rename_i T x lo hi
    cases h
    obtain ⟨v, hv, hr⟩ := run_slice (P := P) (ok.og hob.1) (ok.ogo hob.2.1) (ok.ogo hob.2.2.1) hob.2.2.2
    refine ⟨v, ?_, hr⟩
    simp only [execOp, Sem.run_bind, Option.map_none, hv, Result.andThen_ok, Sem.run_pure]
  · cases h
    obtain ⟨v, hv, hr⟩ := run_extract (P := P) (ok.og hob.1) hob.2
    refine ⟨v, ?_, hr⟩
    simp only [execOp, Sem.run_bind, hv, Result.andThen_ok, Sem.run_pure]
  · cases h
    have := ok.og hob.1
    refine ⟨.iface _ _, ?_, .ifc _ _ _ this⟩
    simp only [execOp, Sem.run_bind, run_makeInterface w _ _ hob.2, Result.andThen_ok, Sem.run_pure]
  · rename_i T parts
    cases h
    have hl : ((parts.map fun (p : Nat × Operand) => (p.1, a.eval p.2)).toList.map (·.2)) = parts.toList.map fun p => a.eval p.2 := by simp
    obtain ⟨v, hv, hr⟩ := run_buildv (P := P) (T := T) (vparts := parts.map fun (p : Nat × Operand) => (p.1, a.eval p.2)) (parts := (ogp s.env parts.toList).2) (by rw [ogp_keys]; simp)
      (fun i hi => by rw [hl]; exact ok.ogp hob.1 i hi) hob.2
    refine ⟨v, ?_, hr⟩
    simp only [execOp, Sem.run_bind]
    rw [hv]
    rfl
  · rename_i c
    split at h
    · rename_i b hb
      exact run_bltv ok hb h hob rfl
    · cases h
  · cases h
end

/-! ## Memory changes -/

section
variable {P : Program} {cx : Cx} {w : World} {H : Hp}

theorem keys_lt (h : OkW cx H w) : ∀ x ∈ H, x.1 < w.heap.size := fun x hx => (h.mem x hx).lt

/-- A new block. -/
theorem OkW.push (h : OkW cx H w) {w' : World} {ob : Obj} {m : MB} (hh : w'.heap = w.heap.push ob) (ho : w'.os = w.os) (ht : w'.tape = w.tape) (hp : w'.output = w.output)
    (hm : MOk w' (imm cx w' ((w.heap.size, m) :: H)) w.heap.size m) : OkW cx ((w.heap.size, m) :: H) w' ∧
      ∀ b, imm cx w H b → imm cx w' ((w.heap.size, m) :: H) b ∧ w'.heap[b]? = w.heap[b]? := by
  have hsz : w'.heap.size = w.heap.size + 1 := by rw [hh]; simp
  have hold : ∀ b, b < w.heap.size → w'.heap[b]? = w.heap[b]? := fun b hb => by rw [hh, Array.getElem?_push, if_neg (by omega)]
  have hI : ∀ b, imm cx w H b → imm cx w' ((w.heap.size, m) :: H) b ∧ w'.heap[b]? = w.heap[b]? := by
    intro b hb
    have hlt := imm_lt h.ext.size hb
    refine ⟨?_, hold b hlt⟩
    rcases hb with hb | ⟨h1, h2, h3⟩
    · exact .inl hb
    · refine .inr ⟨h1, by omega, fun x hx => ?_⟩
      rcases List.mem_cons.1 hx with rfl | hx
      · simp only; omega
      · exact h3 x hx
  refine ⟨⟨?_, ?_, ?_, ?_⟩, hI⟩
  · rw [List.map_cons, List.nodup_cons]
    refine ⟨fun hmem => ?_, h.nodup⟩
    obtain ⟨x, hx, he⟩ := List.mem_map.1 hmem
    have := keys_lt h x hx
    omega
  · intro x hx
    rcases List.mem_cons.1 hx with rfl | hx
    · exact .inr h.ext.size
    · exact h.keys x hx
  · intro x hx
    rcases List.mem_cons.1 hx with rfl | hx
    · exact hm
    · exact (h.mem x hx).mono hI (hold _ (keys_lt h x hx))
  · exact ⟨ho.trans h.ext.os, ht.trans h.ext.tape, hp.trans h.ext.output, by have := h.ext.size; omega, fun b hb hk => (hold b (by have := h.ext.size; omega)).trans (h.ext.blk b hb hk)⟩

def hset : Hp → Nat → MB → Hp
  | [], _, _ => []
  | (b', m') :: r, b, m => if b = b' then (b', m) :: r else (b', m') :: hset r b m

theorem hset_keys (b : Nat) (m : MB) : ∀ H : Hp, (hset H b m).map (·.1) = H.map (·.1)
  | [] => rfl
  | (b', m') :: r => by
    simp only [hset]
    split
    · rfl
    · simp [hset_keys b m r]

theorem hset_mem {b : Nat} {m : MB} : ∀ {H : Hp}, (H.map (·.1)).Nodup → ∀ x ∈ hset H b m, (x = (b, m)) ∨ (x ∈ H ∧ x.1 ≠ b)
  | [], _, x, hx => by cases hx
  | (b', m') :: r, hn, x, hx => by
    simp only [List.map_cons, List.nodup_cons] at hn
    simp only [hset] at hx
    split at hx
    · rename_i he
      subst he
      rcases List.mem_cons.1 hx with rfl | hx
      · exact .inl rfl
      · exact .inr ⟨List.mem_cons_of_mem _ hx, fun he => hn.1 (List.mem_map.2 ⟨x, hx, he⟩)⟩
    · rename_i he
      rcases List.mem_cons.1 hx with rfl | hx
      · exact .inr ⟨List.mem_cons_self .., fun h => he h.symm⟩
      · rcases hset_mem hn.2 x hx with h | h
        · exact .inl h
        · exact .inr ⟨List.mem_cons_of_mem _ h.1, h.2⟩

theorem imm_keys {w w' : World} {H H' : Hp} (hk : H'.map (·.1) = H.map (·.1)) (hs : w.heap.size = w'.heap.size) {b : Nat} (h : imm cx w H b) : imm cx w' H' b := by
  rcases h with h | ⟨h1, h2, h3⟩
  · exact .inl h
  · refine .inr ⟨h1, by omega, fun x hx => ?_⟩
    have : x.1 ∈ H.map (·.1) := by rw [← hk]; exact List.mem_map_of_mem hx
    obtain ⟨y, hy, he⟩ := List.mem_map.1 this
    rw [← he]
    exact h3 y hy

/-- One of our own blocks is written. -/
theorem OkW.write (h : OkW cx H w) {w' : World} {b : Nat} {m m' : MB} (hb : (b, m) ∈ H) (hsz : w'.heap.size = w.heap.size) (ho : w'.os = w.os) (ht : w'.tape = w.tape) (hp : w'.output = w.output)
    (hold : ∀ k, k ≠ b → w'.heap[k]? = w.heap[k]?) (hm : MOk w' (imm cx w' (hset H b m')) b m') : OkW cx (hset H b m') w' ∧
      ∀ k, imm cx w H k → imm cx w' (hset H b m') k ∧ w'.heap[k]? = w.heap[k]? := by
  have hI : ∀ k, imm cx w H k → imm cx w' (hset H b m') k ∧ w'.heap[k]? = w.heap[k]? := by
    intro k hk
    refine ⟨imm_keys (hset_keys _ _ _) hsz.symm hk, hold k fun he => ?_⟩
    exact imm_key h.keys hk (b, m) hb he.symm
  refine ⟨⟨by rw [hset_keys]; exact h.nodup, fun x hx => ?_, fun x hx => ?_, ?_⟩, hI⟩
  · rcases hset_mem h.nodup x hx with rfl | hx
    · exact h.keys (b, m) hb
    · exact h.keys x hx.1
  · rcases hset_mem h.nodup x hx with rfl | hx
    · exact hm
    · exact (h.mem x hx.1).mono hI (hold _ hx.2)
  · refine ⟨ho.trans h.ext.os, ht.trans h.ext.tape, hp.trans h.ext.output, by have := h.ext.size; omega, fun k hk hK => ?_⟩
    rw [hold k fun he => ?_]
    · exact h.ext.blk k hk hK
    · subst he
      rcases h.keys (k, m) hb with h1 | h1
      · exact hK h1
      · simp only at h1; omega

end
end Go.Proofs.Ytbnkmhlnoaebcaa
