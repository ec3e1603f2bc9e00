/-
  The walks and the laws that the statement leans on, part 3.
-/
import Derived.Test.YtpidkkgjgichdaaDoorZ2
namespace Go.Proofs.YtpidkkgjgichdaaDoor
open Go
set_option linter.unusedSimpArgs false
set_option linter.unusedVariables false
def ogs (env : List (Nat × AV)) : List Operand → Prop × List AV
  | [] => (True, [])
  | x :: r => ((og env x).1 ∧ (ogs env r).1, (og env x).2 :: (ogs env r).2)
def ogo (env : List (Nat × AV)) : Option Operand → Prop × Option AV
  | none => (True, none)
  | some x => ((og env x).1, some (og env x).2)
def ogp (env : List (Nat × AV)) : List (Nat × Operand) → Prop × List (Nat × AV)
  | [] => (True, [])
  | (i, x) :: r => ((og env x).1 ∧ (ogp env r).1, (i, (og env x).2) :: (ogp env r).2)
def slv (P : Program) (T : TypeId) (x : Prop × AV) (lo hi : Prop × Option AV) : Prop × AV :=
  (x.1 ∧ lo.1 ∧ hi.1 ∧ (slicev P T x.2 lo.2 hi.2).1, (slicev P T x.2 lo.2 hi.2).2)
def bltv (P : Program) (b : Builtin) (ts : List TypeId) (xs : Prop × List AV) : Option (Prop × AV) :=
  match b with
  | .len => match ts, xs.2 with
    | [T], [x] => some (xs.1 ∧ (lenv P T x).1, (lenv P T x).2)
    | _, _ => none
  | .cap => match ts, xs.2 with
    | [T], [x] => some (xs.1 ∧ (capv P T x).1, (capv P T x).2)
    | _, _ => none
  | .min => match xs.2 with
    | [x, y] => some (xs.1 ∧ (min2v x y).1, (min2v x y).2)
    | _ => none
  | .max => match xs.2 with
    | [x, y] => some (xs.1 ∧ (max2v x y).1, (max2v x y).2)
    | _ => none
  | .unsafeSliceData => match xs.2 with
    | [.lit (.slice (some ⟨b, off, none⟩) _ c)] => some (xs.1 ∧ c ≠ 0, pt b off)
    | [.lit (.slice none _ _)] => some (xs.1, .lit (.pointer none))
    | _ => none
  | .unsafeString => match ts, xs.2 with
    | [_, _], [.lit (.pointer none), .lit (.int .i64 l)] => some (xs.1 ∧ l = 0, .lit (.string .empty))
    | _, _ => none
  | _ => none
def pev (P : Program) (H : Hp) (env : List (Nat × AV)) : Op → Option (Prop × AV)
  | .move x => some (og env x)
  | .assign x => some (og env x)
  | .pick c a b => some ((og env c).1 ∧ (picka (og env c).2 (opd env a) (opd env b)).1, (picka (og env c).2 (opd env a) (opd env b)).2)
  | .binOp op T x y _ => some (both (og env x) (og env y) (binv P T op))
  | .unOp op _ x => some (one (og env x) (unv op))
  | .convert src dst x => (convv P H src dst (og env x).2).map fun r => ((og env x).1 ∧ r.1, r.2)
  | .nilCheck x => some (one (og env x) nilv)
  | .fieldAddr T x f => some (one (og env x) (faddv P T f))
  | .field T x f => some (one (og env x) (fieldv P T f))
  | .indexAddr T x i => some (both (og env x) (og env i) (idxav P T))
  | .index T x i => some (both (og env x) (og env i) (indexv P T))
  | .load T a => some (one (og env a) (loadv P H T))
  | .slice T x lo hi none => some (slv P T (og env x) (ogo env lo) (ogo env hi))
  | .slice T x (some l) (some h) (some m) => some ((og env x).1 ∧ (og env l).1 ∧ (og env h).1 ∧ (og env m).1 ∧ (slice3v P T (og env x).2 (og env l).2 (og env h).2 (og env m).2).1, (slice3v P T (og env x).2 (og env l).2 (og env h).2 (og env m).2).2)
  | .extract t ix => some (one (og env t) (extractv ix))
  | .makeInterface T x => some (one (og env x) (mkiv P T))
  | .typeAssert x _ T ok => some (one (og env x) (tasv P T ok))
  | .build T parts => some ((ogp env parts.toList).1 ∧ (buildv P T (ogp env parts.toList).2).1, (buildv P T (ogp env parts.toList).2).2)
  | .call c => match c.callee with
    | .builtin b => bltv P b c.argTypes.toList (ogs env c.args.toList)
    | _ => none
  | _ => none
section
variable {P : Program} {cx : Cx} {n : Nat} {s : St} {o : Oper} {a : Act} {w : World}
theorem rep_strip {I : Nat → Prop} {v : Value} {x : AV} (h : Rep w I v x) (hs : (strip x).1) : Rep w I v (strip x).2 := by
  cases x <;> simp only [strip] at hs ⊢ <;> first | exact h | exact h.gd_true hs
theorem Ok.og (ok : Ok cx n s a w) {x : Operand} (h : (og s.env x).1) : Rep w (imm cx w s.H) (a.eval x) (og s.env x).2 := rep_strip (ok.opd x) h
theorem Ok.ogs (ok : Ok cx n s a w) : ∀ {l : List Operand}, (ogs s.env l).1 → ∀ i, i < l.length → Rep w (imm cx w s.H) ((l.map a.eval).getD i undef) ((Proofs.YtpidkkgjgichdaaDoor.ogs s.env l).2.getD i .any)
  | [], _, i, hi => by simp at hi
  | x :: r, h, 0, _ => by simpa [Proofs.YtpidkkgjgichdaaDoor.ogs] using ok.og h.1
  | x :: r, h, i + 1, hi => by
    have := Ok.ogs ok (l := r) h.2 i (by simpa using hi)
    simpa [Proofs.YtpidkkgjgichdaaDoor.ogs] using this
theorem ogs_length {env : List (Nat × AV)} : ∀ (l : List Operand), (ogs env l).2.length = l.length
  | [] => rfl
  | x :: r => by simp [ogs, ogs_length r]
theorem Ok.ogo (ok : Ok cx n s a w) {x : Option Operand} (h : (ogo s.env x).1) : BV w (imm cx w s.H) (x.map a.eval) (Proofs.YtpidkkgjgichdaaDoor.ogo s.env x).2 := by
  cases x with
  | none => trivial
  | some x => exact ok.og h
theorem ogp_keys {env : List (Nat × AV)} : ∀ (l : List (Nat × Operand)), (ogp env l).2.map (·.1) = l.map (·.1)
  | [] => rfl
  | (i, x) :: r => by simp [ogp, ogp_keys r]
theorem Ok.ogp (ok : Ok cx n s a w) : ∀ {l : List (Nat × Operand)}, (ogp s.env l).1 → ∀ i, i < (Proofs.YtpidkkgjgichdaaDoor.ogp s.env l).2.length →
    Rep w (imm cx w s.H) ((l.map fun p => a.eval p.2).getD i undef) (((Proofs.YtpidkkgjgichdaaDoor.ogp s.env l).2.map (·.2)).getD i .any)
  | [], _, i, hi => by simp [Proofs.YtpidkkgjgichdaaDoor.ogp] at hi
  | (j, x) :: r, h, 0, _ => by simpa [Proofs.YtpidkkgjgichdaaDoor.ogp] using ok.og h.1
  | (j, x) :: r, h, i + 1, hi => by
    have := Ok.ogp ok (l := r) h.2 i (by simpa [Proofs.YtpidkkgjgichdaaDoor.ogp] using hi)
    simpa [Proofs.YtpidkkgjgichdaaDoor.ogp] using this
theorem run_bltv {c : Call} {b : Builtin} {r : Prop × AV} (ok : Ok cx n s a w) (hb : c.callee = .builtin b) (hr : bltv P b c.argTypes.toList (ogs s.env c.args.toList) = some r) (h : r.1) (ho : o.op = .call c) :
    ∃ v, (execOp a.eval o).run P w = .ok (.value v) w ∧ Rep w (imm cx w s.H) v r.2 := by
  obtain ⟨callee, args, ts⟩ := c
  obtain ⟨args⟩ := args
  obtain ⟨ts⟩ := ts
  simp only at hb hr
  subst hb
  have hlen := ogs_length (env := s.env) args
  unfold bltv at hr
  split at hr
  · split at hr
    · rename_i T x h2
      cases hr
      rw [h2] at hlen
      match args, hlen with
      | [y], _ =>
        have hv := ok.ogs h.1 0 (by simp)
        rw [h2] at hv
        obtain ⟨u, hu, hr⟩ := run_len (P := P) hv o.type h.2
        refine ⟨u, ?_, hr⟩
        simp only [execOp, ho, resolve, invoke, builtin, List.map_toArray, List.map_cons, List.map_nil, Sem.run_bind, Sem.run_pure, Result.andThen_ok]
        simp at hu
        rw [hu]
        rfl
    · cases hr
  · split at hr
    · rename_i T x h2
      cases hr
      rw [h2] at hlen
      match args, hlen with
      | [y], _ =>
        have hv := ok.ogs h.1 0 (by simp)
        rw [h2] at hv
        obtain ⟨u, hu, hr⟩ := run_cap (P := P) hv o.type h.2
        refine ⟨u, ?_, hr⟩
        simp only [execOp, ho, resolve, invoke, builtin, List.map_toArray, List.map_cons, List.map_nil, Sem.run_bind, Sem.run_pure, Result.andThen_ok]
        simp at hu
        rw [hu]
        rfl
    · cases hr
  · split at hr
    · rename_i x y h2
      cases hr
      rw [h2] at hlen
      match args, hlen with
      | [y1, y2], _ =>
        have hv1 := ok.ogs h.1 0 (by simp)
        have hv2 := ok.ogs h.1 1 (by simp)
        rw [h2] at hv1 hv2
        obtain ⟨u, hu, hr⟩ := run_min2 (P := P) o.type ⟨ts⟩ hv1 hv2 h.2
        refine ⟨u, ?_, hr⟩
        simp only [execOp, ho, resolve, invoke, builtin, List.map_toArray, List.map_cons, List.map_nil, Sem.run_bind, Sem.run_pure, Result.andThen_ok]
        simp at hu
        rw [hu]
        rfl
    · cases hr
  · split at hr
    · rename_i x y h2
      cases hr
      rw [h2] at hlen
      match args, hlen with
      | [y1, y2], _ =>
        have hv1 := ok.ogs h.1 0 (by simp)
        have hv2 := ok.ogs h.1 1 (by simp)
        rw [h2] at hv1 hv2
        obtain ⟨u, hu, hr⟩ := run_max2 (P := P) o.type ⟨ts⟩ hv1 hv2 h.2
        refine ⟨u, ?_, hr⟩
        simp only [execOp, ho, resolve, invoke, builtin, List.map_toArray, List.map_cons, List.map_nil, Sem.run_bind, Sem.run_pure, Result.andThen_ok]
        simp at hu
        rw [hu]
        rfl
    · cases hr
  · split at hr
    · rename_i b off nn c h2
      cases hr
      rw [h2] at hlen
      match args, hlen with
      | [y], _ =>
        have hv := ok.ogs h.1 0 (by simp)
        rw [h2] at hv
        have hv := hv.lit_inv
        have hu := Lib.run_unsafeSliceData_row (P := P) w ⟨ts⟩ o.type ⟨b, off, none⟩ nn c h.2
        refine ⟨.pointer (some ⟨b, off, none⟩), ?_, .lit _⟩
        simp only [execOp, ho, resolve, invoke, builtin, List.map_toArray, List.map_cons, List.map_nil, Sem.run_bind, Sem.run_pure, Result.andThen_ok]
        simp at hv
        rw [hv, hu]
        rfl
    · cases hr
      rename_i nn c h2
      rw [h2] at hlen
      match args, hlen with
      | [y], _ =>
        have hv := ok.ogs h 0 (by simp)
        rw [h2] at hv
        have hv := hv.lit_inv
        refine ⟨.pointer none, ?_, .lit _⟩
        simp only [execOp, ho, resolve, invoke, builtin, List.map_toArray, List.map_cons, List.map_nil, Sem.run_bind, Sem.run_pure, Result.andThen_ok]
        simp at hv
        rw [hv]
        rfl
    · cases hr
  · split at hr
    · rename_i l h2
      cases hr
      rw [h2] at hlen
      match args, hlen with
      | [y, z], _ =>
        obtain ⟨hob, rfl⟩ := h
        have hv := ok.ogs hob 0 (by simp)
        have hv2 := ok.ogs hob 1 (by simp)
        rw [h2] at hv hv2
        simp at hv hv2
        have hv := hv.lit_inv
        have hv2 := hv2.lit_inv
        refine ⟨.string .empty, ?_, .lit _⟩
        simp only [execOp, ho, resolve, invoke, builtin, List.map_toArray, List.map_cons, List.map_nil, Sem.run_bind, Sem.run_pure, Result.andThen_ok]
        rw [hv, hv2]
        rfl
    · cases hr
  · cases hr
theorem pev_sound {r : Prop × AV} (h : pev P s.H s.env o.op = some r) (hob : r.1) : PE P cx n o s r.2 := by
  intro a w ok
  obtain ⟨dst, op, type, pos, after, guard⟩ := o
  simp only at h
  unfold pev at h
  split at h
  · cases h; exact ⟨_, rfl, ok.og hob⟩
  · cases h; exact ⟨_, rfl, ok.og hob⟩
  · rename_i c x y
    cases h
    obtain ⟨t, ht, hr⟩ := rep_pick (ok.og hob.1) (ok.opd x) (ok.opd y) hob.2
    refine ⟨_, ?_, hr⟩
    simp only [execOp, Sem.run_bind, ht, asBool, Sem.run_pure, Result.andThen_ok]
  · rename_i bop T x y T'
    cases h
    obtain ⟨v, hv, hr⟩ := run_binv (P := P) (T := T) (x := x) (y := y) (ok.og hob.1) (ok.og hob.2.1) hob.2.2
    refine ⟨v, ?_, hr⟩
    simp only [execOp, Sem.run_bind] at hv ⊢
    rw [hv]
    rfl
  · cases h
    obtain ⟨v, hv, hr⟩ := run_unv (P := P) (ok.og hob.1) hob.2
    refine ⟨v, ?_, hr⟩
    simp only [execOp, Sem.run_bind, hv, Result.andThen_ok, Sem.run_pure]
  · rename_i src dst' x
    cases hc : convv P s.H src dst' (og s.env x).2 with
    | none => rw [hc] at h; cases h
    | some r' =>
      rw [hc] at h
      cases h
      obtain ⟨v, hv, hr⟩ := run_conv (P := P) ok.world (ok.og hob.1) hc hob.2
      refine ⟨v, ?_, hr⟩
      simp only [execOp, Sem.run_bind, hv, Result.andThen_ok, Sem.run_pure]
  · cases h
    obtain ⟨v, hv, hr⟩ := run_nil (P := P) (ok.og hob.1) hob.2
    refine ⟨v, ?_, hr⟩
    simp only [execOp]
    exact hv
  · cases h
    obtain ⟨v, hv, hr⟩ := run_fadd (P := P) (ok.og hob.1) hob.2
    refine ⟨v, ?_, hr⟩
    simp only [execOp, Sem.run_bind, hv, Result.andThen_ok, Sem.run_pure]
  · cases h
    obtain ⟨v, hv, hr⟩ := run_field (P := P) (ok.og hob.1) hob.2
    refine ⟨v, ?_, hr⟩
    simp only [execOp, Sem.run_bind, hv, Result.andThen_ok, Sem.run_pure]
  · cases h
    obtain ⟨v, hv, hr⟩ := run_idx (P := P) (ok.og hob.1) (ok.og hob.2.1) hob.2.2
    refine ⟨v, ?_, hr⟩
    simp only [execOp, Sem.run_bind, hv, Result.andThen_ok, Sem.run_pure]
  · cases h
    obtain ⟨v, hv, hr⟩ := run_index (P := P) (ok.og hob.1) (ok.og hob.2.1) hob.2.2
    refine ⟨v, ?_, hr⟩
    simp only [execOp, Sem.run_bind, hv, Result.andThen_ok, Sem.run_pure]
  · cases h
    obtain ⟨v, hv, hr⟩ := run_load_of (P := P) ok.world (ok.og hob.1) hob.2
    refine ⟨v, ?_, hr⟩
    simp only [execOp, Sem.run_bind, hv, Result.andThen_ok, Sem.run_pure]
  · rename_i T x lo hi
    cases h
    obtain ⟨v, hv, hr⟩ := run_slice (P := P) (ok.og hob.1) (ok.ogo hob.2.1) (ok.ogo hob.2.2.1) hob.2.2.2
    refine ⟨v, ?_, hr⟩
    simp only [execOp, Sem.run_bind, Option.map_none, hv, Result.andThen_ok, Sem.run_pure]
  · cases h
    obtain ⟨v, hv, hr⟩ := run_slice3 (P := P) (w := w) (ok.og hob.1) (ok.og hob.2.1) (ok.og hob.2.2.1) (ok.og hob.2.2.2.1) hob.2.2.2.2
    refine ⟨v, ?_, hr⟩
    simp only [execOp, Sem.run_bind, Option.map_some, hv, Result.andThen_ok, Sem.run_pure]
  · cases h
    obtain ⟨v, hv, hr⟩ := run_extract (P := P) (ok.og hob.1) hob.2
    refine ⟨v, ?_, hr⟩
    simp only [execOp, Sem.run_bind, hv, Result.andThen_ok, Sem.run_pure]
  · cases h
    have := ok.og hob.1
    refine ⟨.iface _ _, ?_, .ifc _ _ _ this⟩
    simp only [execOp, Sem.run_bind, run_makeInterface w _ _ hob.2, Result.andThen_ok, Sem.run_pure]
  · rename_i x xT T ok'
    cases h
    obtain ⟨v, hv, hr⟩ := run_tas (P := P) (w := w) (xT := xT) (ok.og hob.1) hob.2
    refine ⟨v, ?_, hr⟩
    simp only [execOp, Sem.run_bind, hv, Result.andThen_ok, Sem.run_pure]
  · rename_i T parts
    cases h
    have hl : ((parts.map fun (p : Nat × Operand) => (p.1, a.eval p.2)).toList.map (·.2)) = parts.toList.map fun p => a.eval p.2 := by simp
    obtain ⟨v, hv, hr⟩ := run_buildv (P := P) (T := T) (vparts := parts.map fun (p : Nat × Operand) => (p.1, a.eval p.2)) (parts := (ogp s.env parts.toList).2) (by rw [ogp_keys]; simp)
      (fun i hi => by rw [hl]; exact ok.ogp hob.1 i hi) hob.2
    refine ⟨v, ?_, hr⟩
    simp only [execOp, Sem.run_bind]
    rw [hv]
    rfl
  · rename_i c
    split at h
    · rename_i b hb
      exact run_bltv ok hb h hob rfl
    · cases h
  · cases h
end
/-! ## Memory changes -/
section
variable {P : Program} {cx : Cx} {w : World} {H : Hp}
theorem keys_lt (h : OkW cx H w) : ∀ x ∈ H, x.1 < w.heap.size := fun x hx => (h.mem x hx).lt
theorem OkW.push (h : OkW cx H w) {w' : World} {ob : Obj} {m : MB} (hh : w'.heap = w.heap.push ob) (ho : w'.os = w.os) (ht : w'.tape = w.tape) (hp : w'.output = w.output)
    (hm : MOk w' (imm cx w' ((w.heap.size, m) :: H)) w.heap.size m) : OkW cx ((w.heap.size, m) :: H) w' ∧
      ∀ b, imm cx w H b → imm cx w' ((w.heap.size, m) :: H) b ∧ w'.heap[b]? = w.heap[b]? := by
  have hsz : w'.heap.size = w.heap.size + 1 := by rw [hh]; simp
  have hold : ∀ b, b < w.heap.size → w'.heap[b]? = w.heap[b]? := fun b hb => by rw [hh, Array.getElem?_push, if_neg (by omega)]
  have hI : ∀ b, imm cx w H b → imm cx w' ((w.heap.size, m) :: H) b ∧ w'.heap[b]? = w.heap[b]? := by
    intro b hb
    have hlt := imm_lt h.ext.size hb
    refine ⟨?_, hold b hlt⟩
    rcases hb with hb | ⟨h1, h2, h3⟩
    · exact .inl hb
    · refine .inr ⟨h1, by omega, fun x hx => ?_⟩
      rcases List.mem_cons.1 hx with rfl | hx
      · simp only; omega
      · exact h3 x hx
  refine ⟨⟨?_, ?_, ?_, ?_⟩, hI⟩
  · rw [List.map_cons, List.nodup_cons]
    refine ⟨fun hmem => ?_, h.nodup⟩
    obtain ⟨x, hx, he⟩ := List.mem_map.1 hmem
    have := keys_lt h x hx
    omega
  · intro x hx
    rcases List.mem_cons.1 hx with rfl | hx
    · exact .inr h.ext.size
    · exact h.keys x hx
  · intro x hx
    rcases List.mem_cons.1 hx with rfl | hx
    · exact hm
    · exact (h.mem x hx).mono hI (hold _ (keys_lt h x hx))
  · exact ⟨ho.trans h.ext.os, ht.trans h.ext.tape, hp.trans h.ext.output, by have := h.ext.size; omega, fun b hb hk => (hold b (by have := h.ext.size; omega)).trans (h.ext.blk b hb hk)⟩
def hset : Hp → Nat → MB → Hp
  | [], _, _ => []
  | (b', m') :: r, b, m => if b = b' then (b', m) :: r else (b', m') :: hset r b m
theorem hset_keys (b : Nat) (m : MB) : ∀ H : Hp, (hset H b m).map (·.1) = H.map (·.1)
  | [] => rfl
  | (b', m') :: r => by
    simp only [hset]
    split
    · rfl
    · simp [hset_keys b m r]
theorem hset_mem {b : Nat} {m : MB} : ∀ {H : Hp}, (H.map (·.1)).Nodup → ∀ x ∈ hset H b m, (x = (b, m)) ∨ (x ∈ H ∧ x.1 ≠ b)
  | [], _, x, hx => by cases hx
  | (b', m') :: r, hn, x, hx => by
    simp only [List.map_cons, List.nodup_cons] at hn
    simp only [hset] at hx
    split at hx
    · rename_i he
      subst he
      rcases List.mem_cons.1 hx with rfl | hx
      · exact .inl rfl
      · exact .inr ⟨List.mem_cons_of_mem _ hx, fun he => hn.1 (List.mem_map.2 ⟨x, hx, he⟩)⟩
    · rename_i he
      rcases List.mem_cons.1 hx with rfl | hx
      · exact .inr ⟨List.mem_cons_self .., fun h => he h.symm⟩
      · rcases hset_mem hn.2 x hx with h | h
        · exact .inl h
        · exact .inr ⟨List.mem_cons_of_mem _ h.1, h.2⟩
theorem imm_keys {w w' : World} {H H' : Hp} (hk : H'.map (·.1) = H.map (·.1)) (hs : w.heap.size = w'.heap.size) {b : Nat} (h : imm cx w H b) : imm cx w' H' b := by
  rcases h with h | ⟨h1, h2, h3⟩
  · exact .inl h
  · refine .inr ⟨h1, by omega, fun x hx => ?_⟩
    have : x.1 ∈ H.map (·.1) := by rw [← hk]; exact List.mem_map_of_mem hx
    obtain ⟨y, hy, he⟩ := List.mem_map.1 this
    rw [← he]
    exact h3 y hy
theorem OkW.write (h : OkW cx H w) {w' : World} {b : Nat} {m m' : MB} (hb : (b, m) ∈ H) (hsz : w'.heap.size = w.heap.size) (ho : w'.os = w.os) (ht : w'.tape = w.tape) (hp : w'.output = w.output)
    (hold : ∀ k, k ≠ b → w'.heap[k]? = w.heap[k]?) (hm : MOk w' (imm cx w' (hset H b m')) b m') : OkW cx (hset H b m') w' ∧
      ∀ k, imm cx w H k → imm cx w' (hset H b m') k ∧ w'.heap[k]? = w.heap[k]? := by
  have hI : ∀ k, imm cx w H k → imm cx w' (hset H b m') k ∧ w'.heap[k]? = w.heap[k]? := by
    intro k hk
    refine ⟨imm_keys (hset_keys _ _ _) hsz.symm hk, hold k fun he => ?_⟩
    exact imm_key h.keys hk (b, m) hb he.symm
  refine ⟨⟨by rw [hset_keys]; exact h.nodup, fun x hx => ?_, fun x hx => ?_, ?_⟩, hI⟩
  · rcases hset_mem h.nodup x hx with rfl | hx
    · exact h.keys (b, m) hb
    · exact h.keys x hx.1
  · rcases hset_mem h.nodup x hx with rfl | hx
    · exact hm
    · exact (h.mem x hx.1).mono hI (hold _ hx.2)
  · refine ⟨ho.trans h.ext.os, ht.trans h.ext.tape, hp.trans h.ext.output, by have := h.ext.size; omega, fun k hk hK => ?_⟩
    rw [hold k fun he => ?_]
    · exact h.ext.blk k hk hK
    · subst he
      rcases h.keys (k, m) hb with h1 | h1
      · exact hK h1
      · simp only at h1; omega
end
end Go.Proofs.YtpidkkgjgichdaaDoor
namespace Go.Proofs.YtpidkkgjgichdaaDoor
open Go
set_option linter.unusedSimpArgs false
set_option linter.unusedVariables false
def fresh (H : Hp) (b : Nat) : Prop := ∀ x ∈ H, x.1 ≠ b ∧ b ≠ x.1
def intsV (k : IntKind) : List Value → Option (List Int)
  | [] => some []
  | .int k' n :: r => if k = k' then (intsV k r).map (n :: ·) else none
  | _ => none
def intsA (k : IntKind) : List AV → Option (List Int)
  | [] => some []
  | .lit (.int k' n) :: r => if k = k' then (intsA k r).map (n :: ·) else none
  | _ => none
theorem intsA_spec {k : IntKind} : ∀ {cs : List AV} {zs : List Int}, intsA k cs = some zs → cs = zs.map (iv k)
  | [], zs, h => by cases h; rfl
  | x :: r, zs, h => by
    cases x <;> try (simp [intsA] at h; done)
    rename_i v
    cases v <;> try (simp [intsA] at h; done)
    rename_i k' m
    simp only [intsA] at h
    split at h
    · rename_i hk
      subst hk
      cases hr : intsA k r with
      | none => rw [hr] at h; cases h
      | some ys =>
        rw [hr] at h
        cases h
        simp [intsA_spec hr]
    · cases h
def zer (P : Program) (T : TypeId) : Option (List Value) := (P.info? T).bind fun i => i.zero.map fun z => z.cells.toList
def zmb (P : Program) (T : TypeId) : Option MB :=
  match zer P T with
  | some vs => match P.underlying T with
    | some (.array _ e) => match P.underlying e with
      | some (.int k) => match intsV k vs with
        | some zs => some (.zs k zs zs.length T)
        | none => none
      | _ => some (.cells (vs.map .lit) vs.length T)
    | _ => some (.cells (vs.map .lit) vs.length T)
  | none => none
section
variable {P : Program} {cx : Cx} {w : World} {H : Hp} {I : Nat → Prop}
theorem MOk.to_cells {b sz : Nat} {k : IntKind} {zs : List Int} {ty : TypeId} (h : MOk w I b (.zs k zs sz ty)) : MOk w I b (.cells (zs.map (iv k)) sz ty) := by
  obtain ⟨cur, h1, h2, h3, h4⟩ := h
  refine ⟨cur, h1, h2, by simpa using h3, fun i hi => ?_⟩
  have hi' : i < zs.length := by simpa using hi
  have := h4 i hi'
  simp only [List.getElem_map]
  refine Rep.of_eq ?_
  simp [this, List.getD, hi']
theorem MOk.to_zs {b sz : Nat} {k : IntKind} {zs : List Int} {ty : TypeId} (h : MOk w I b (.cells (zs.map (iv k)) sz ty)) : MOk w I b (.zs k zs sz ty) := by
  obtain ⟨cur, h1, h2, h3, h4⟩ := h
  have h3' : zs.length ≤ sz := by simpa using h3
  refine ⟨cur, h1, h2, h3', fun i hi => ?_⟩
  have := h4 i (by simpa using hi)
  simp only [List.getElem_map] at this
  have := this.lit_inv
  have hlt : i < cur.size := by omega
  simp [hlt] at this
  simp [hlt, this, List.getD, hi]
theorem MOk.new {b : Nat} {vs : Array Value} {cs : List AV} {ty : TypeId} (hb : w.heap[b]? = some (.cells vs ty (0, 0))) (h : RepL w I vs cs) : MOk w I b (.cells cs cs.length ty) :=
  ⟨vs, hb, h.1, Nat.le_refl _, h.2⟩
theorem intsV_spec {k : IntKind} : ∀ {vs : List Value} {zs : List Int}, intsV k vs = some zs → vs = zs.map (Value.int k)
  | [], zs, h => by cases h; rfl
  | v :: r, zs, h => by
    cases v <;> try (simp [intsV] at h; done)
    rename_i k' m
    simp only [intsV] at h
    split at h
    · rename_i hk
      subst hk
      cases hr : intsV k r with
      | none => rw [hr] at h; cases h
      | some ys =>
        rw [hr] at h
        cases h
        simp [intsV_spec hr]
    · cases h
theorem zmb_spec {T : TypeId} {m : MB} (h : zmb P T = some m) : ∃ z, (zeroValue T).run P w = .ok z w ∧
    ∀ (w' : World) (I : Nat → Prop) (b : Nat), w'.heap[b]? = some (.cells z.cells T (0, 0)) → MOk w' I b m := by
  unfold zmb at h
  cases hz : zer P T with
  | none => rw [hz] at h; cases h
  | some vs =>
    rw [hz] at h
    unfold zer at hz
    cases hi : P.info? T with
    | none => rw [hi] at hz; cases hz
    | some i =>
      rw [hi] at hz
      cases hzz : i.zero with
      | none => simp [hzz] at hz
      | some z =>
        simp [hzz] at hz
        subst hz
        have hcells : ∀ (w' : World) (I : Nat → Prop) (b : Nat), w'.heap[b]? = some (.cells z.cells T (0, 0)) → MOk w' I b (.cells (z.cells.toList.map .lit) z.cells.toList.length T) := by
          intro w' I b hb
          have := MOk.new (I := I) hb (rep_zero z.cells)
          simpa using this
        refine ⟨z, by simp [zeroValue, typeInfo, program, Sem.run, hi, hzz], ?_⟩
        simp only at h
        split at h
        · split at h
          · split at h
            · rename_i zs hs
              cases h
              intro w' I b hb
              have h1 := hcells w' I b hb
              have h2 := intsV_spec hs
              have h3 := congrArg (List.map AV.lit) h2
              rw [List.map_map] at h3
              rw [h3] at h1
              have h4 := h1.to_zs
              have h5 : z.cells.toList.length = zs.length := by rw [h2]; simp
              rw [h5] at h4
              exact h4
            · cases h
          · cases h; exact hcells
        · cases h; exact hcells
theorem heap_alloc (w : World) (ob : Obj) : (w.alloc ob).heap = w.heap.push ob := rfl
theorem Ok.push {n : Nat} {s : St} {a : Act} (ok : Ok cx n s a w) {w' : World} {ob : Obj} {m : MB} (hh : w'.heap = w.heap.push ob) (ho : w'.os = w.os) (ht : w'.tape = w.tape) (hp : w'.output = w.output)
    (hm : MOk w' (imm cx w' ((w.heap.size, m) :: s.H)) w.heap.size m) : Ok cx n { s with H := (w.heap.size, m) :: s.H } a w' ∧ fresh s.H w.heap.size := by
  have := ok.world.push hh ho ht hp hm
  exact ⟨ok.world_to this.1 this.2, fun x hx => by have := keys_lt ok.world x hx; omega⟩
theorem imm_push {w' : World} {ob : Obj} {m : MB} (hw : OkW cx H w) (hh : w'.heap = w.heap.push ob) : ∀ b, imm cx w H b → imm cx w' ((w.heap.size, m) :: H) b ∧ w'.heap[b]? = w.heap[b]? := by
  intro b hb
  have hlt := imm_lt hw.ext.size hb
  have hsz : w'.heap.size = w.heap.size + 1 := by rw [hh]; simp
  refine ⟨?_, by rw [hh, Array.getElem?_push, if_neg (by omega)]⟩
  rcases hb with hb | ⟨h1, h2, h3⟩
  · exact .inl hb
  · refine .inr ⟨h1, by omega, fun x hx => ?_⟩
    rcases List.mem_cons.1 hx with rfl | hx
    · simp only; omega
    · exact h3 x hx
/-! ### A store -/
def oneC : AV → Bool
  | .lit v => v.oneCell'
  | .sl _ _ => true
  | .slz _ _ => true
  | .ip _ => true
  | .ipz _ _ => true
  | .ifc _ _ => true
  | _ => false
theorem one_of_oneC {v : Value} {x : AV} (hv : Rep w I v x) (h : oneC x = true) : v.oneCell' = true := by
  cases hv <;> first | exact h | rfl | (simp [oneC] at h; done)
theorem cells_of_one {v : Value} (h : v.oneCell' = true) : v.cells = #[v] := by cases v <;> first | rfl | simp [Value.oneCell'] at h
def stC (P : Program) (T : TypeId) (m : MB) (off : Nat) (x : AV) : Prop × MB :=
  match tyc P T with
  | some none => match m with
    | .cells cs sz ty => (off < cs.length ∧ oneC x = true, .cells (cs.set off x) sz ty)
    | .zs k zs sz ty => match x with
      | .lit (.int k' n) => (k = k' ∧ off < zs.length, .zs k (zs.set off n) sz ty)
      | _ => (False, m)
    | .obj _ => (False, m)
  | some (some c) => match x with
    | .agg ds => match m with
      | .cells cs sz ty => (ds.length = c ∧ off + c ≤ cs.length ∧ ds.all oneC = true, .cells (cs.take off ++ ds ++ cs.drop (off + c)) sz ty)
      | .zs k zs sz ty => match intsA k ds with
        | some ys => (ys.length = c ∧ off + c ≤ zs.length, .zs k (zs.take off ++ ys ++ zs.drop (off + c)) sz ty)
        | none => (False, m)
      | .obj _ => (False, m)
    | _ => (False, m)
  | none => (False, m)
theorem splice_getD (l : List Value) (vs : List Value) (off i : Nat) (h : off + vs.length ≤ l.length) :
    (l.take off ++ vs ++ l.drop (off + vs.length)).getD i undef = if off ≤ i ∧ i < off + vs.length then vs.getD (i - off) undef else l.getD i undef := by
  by_cases h1 : i < off
  · rw [if_neg (by omega)]
    simp only [List.getD]
    rw [List.getElem?_append_left (by simp; omega), List.getElem?_append_left (by simp; omega), List.getElem?_take_of_lt h1]
  · by_cases h2 : i < off + vs.length
    · rw [if_pos (by omega)]
      simp only [List.getD]
      rw [List.getElem?_append_left (by simp; omega), List.getElem?_append_right (by simp; omega)]
      simp [show min off l.length = off by omega]
    · rw [if_neg (by omega)]
      simp only [List.getD]
      rw [List.getElem?_append_right (by simp; omega)]
      simp [List.getElem?_drop, show min off l.length = off by omega]
      congr 2
      omega
theorem run_storeCells_cells (hw : OkW cx H w) {b off sz : Nat} {cs ds : List AV} {ty : TypeId} {vs : List Value} (hg : (b, MB.cells cs sz ty) ∈ H) (hoff : off + ds.length ≤ cs.length)
    (hvl : vs.length = ds.length) (hv : ∀ i (hi : i < ds.length), Rep w (imm cx w H) (vs.getD i undef) ds[i]) (h1 : ∀ v ∈ vs, v.oneCell' = true) :
    ∃ w', (storeCells ⟨b, off, none⟩ vs).run P w = .ok () w' ∧ OkW cx (hset H b (.cells (cs.take off ++ ds ++ cs.drop (off + ds.length)) sz ty)) w' ∧
      ∀ k, imm cx w H k → imm cx w' (hset H b (.cells (cs.take off ++ ds ++ cs.drop (off + ds.length)) sz ty)) k ∧ w'.heap[k]? = w.heap[k]? := by
  obtain ⟨cur, c1, c2, c3, c4⟩ := hw.mem _ hg
  have hst := run_storeCells_at P b off ty vs 0 cur w c1 (by simp; omega) h1
  refine ⟨_, hst, ?_⟩
  simp only [Nat.add_zero]
  have hlen : (cs.take off ++ ds ++ cs.drop (off + ds.length)).length = cs.length := by simp; omega
  generalize hrow : (cur.toList.take off ++ vs ++ cur.toList.drop (off + vs.length)).toArray = row
  have hkeep : ∀ k, k ≠ b → (w.setRow b row).heap[k]? = w.heap[k]? := fun k hk => setRow_other w b k _ hk
  refine hw.write hg (by simp) rfl rfl rfl hkeep ?_
  refine ⟨row, setRow_heap w b cur _ ty _ c1, by rw [← hrow]; simp; omega, by omega, fun i hi => ?_⟩
  rw [hlen] at hi
  have hI : ∀ k, imm cx w H k → imm cx (w.setRow b row) (hset H b (.cells (cs.take off ++ ds ++ cs.drop (off + ds.length)) sz ty)) k ∧ (w.setRow b row).heap[k]? = w.heap[k]? :=
    fun k hk => ⟨imm_keys (hset_keys _ _ _) (by simp) hk, hkeep k fun he => imm_key hw.keys hk _ hg he.symm⟩
  have hget : row.getD i undef = if off ≤ i ∧ i < off + vs.length then vs.getD (i - off) undef else cur.getD i undef := by
    rw [← hrow]
    have := splice_getD cur.toList vs off i (by simp; omega)
    simpa [List.getD] using this
  rw [hget]
  by_cases hin : off ≤ i ∧ i < off + vs.length
  · rw [if_pos hin]
    have e1 : (cs.take off ++ ds ++ cs.drop (off + ds.length))[i]'(by omega) = ds[i - off]'(by omega) := by
      rw [List.getElem_append_left (by simp; omega), List.getElem_append_right (by simp; omega)]
      simp [show min off cs.length = off by omega]
    rw [e1]
    exact (hv (i - off) (by omega)).mono hI
  · rw [if_neg hin]
    have e1 : (cs.take off ++ ds ++ cs.drop (off + ds.length))[i]'(by omega) = cs[i] := by
      by_cases hlt : i < off
      · rw [List.getElem_append_left (by simp; omega), List.getElem_append_left (by simp; omega)]
        simp
      · rw [List.getElem_append_right (by simp; omega)]
        simp only [List.getElem_drop, List.length_append, List.length_take]
        congr 1
        omega
    rw [e1]
    exact (c4 i hi).mono hI
theorem OkW.as_cells {b sz : Nat} {k : IntKind} {zs : List Int} {ty : TypeId} (hw : OkW cx H w) (hg : (b, MB.zs k zs sz ty) ∈ H) :
    OkW cx (hset H b (.cells (zs.map (iv k)) sz ty)) w ∧ (b, MB.cells (zs.map (iv k)) sz ty) ∈ hset H b (.cells (zs.map (iv k)) sz ty) ∧
      ∀ c, imm cx w H c ↔ imm cx w (hset H b (.cells (zs.map (iv k)) sz ty)) c := by
  have hI : ∀ c, imm cx w H c ↔ imm cx w (hset H b (.cells (zs.map (iv k)) sz ty)) c :=
    fun c => ⟨imm_keys (hset_keys _ _ _) rfl, imm_keys (hset_keys _ _ _).symm rfl⟩
  refine ⟨⟨by rw [hset_keys]; exact hw.nodup, fun x hx => ?_, fun x hx => ?_, hw.ext⟩, ?_, hI⟩
  · rcases hset_mem hw.nodup x hx with rfl | hx
    · exact hw.keys (b, MB.zs k zs sz ty) hg
    · exact hw.keys x hx.1
  · rcases hset_mem hw.nodup x hx with rfl | hx
    · exact (hw.mem _ hg).to_cells.mono (fun c hc => ⟨(hI c).1 hc, rfl⟩) rfl
    · exact (hw.mem x hx.1).mono (fun c hc => ⟨(hI c).1 hc, rfl⟩) rfl
  · have hn := hw.nodup
    clear hI hw
    induction H with
    | nil => cases hg
    | cons p r ih =>
      obtain ⟨b', m'⟩ := p
      simp only [List.map_cons, List.nodup_cons] at hn
      simp only [hset]
      split
      · rename_i he; subst he; exact List.mem_cons_self ..
      · rename_i he
        rcases List.mem_cons.1 hg with h | h
        · cases h; exact absurd rfl he
        · exact List.mem_cons_of_mem _ (ih h hn.2)
theorem hset_hset (b : Nat) (m m' : MB) : ∀ H : Hp, hset (hset H b m) b m' = hset H b m'
  | [] => rfl
  | (b', x) :: r => by
    simp only [hset]
    split
    · rename_i h; subst h; simp [hset]
    · rename_i h; simp [hset, h, hset_hset b m m' r]
theorem OkW.as_zs {b sz : Nat} {k : IntKind} {zs : List Int} {ty : TypeId} (hw : OkW cx (hset H b (.cells (zs.map (iv k)) sz ty)) w) :
    OkW cx (hset H b (.zs k zs sz ty)) w ∧ ∀ c, imm cx w (hset H b (.cells (zs.map (iv k)) sz ty)) c ↔ imm cx w (hset H b (.zs k zs sz ty)) c := by
  have hk : (hset H b (.zs k zs sz ty)).map (·.1) = (hset H b (.cells (zs.map (iv k)) sz ty)).map (·.1) := by rw [hset_keys, hset_keys]
  have hI : ∀ c, imm cx w (hset H b (.cells (zs.map (iv k)) sz ty)) c ↔ imm cx w (hset H b (.zs k zs sz ty)) c :=
    fun c => ⟨imm_keys hk rfl, imm_keys hk.symm rfl⟩
  have hmem : ∀ x ∈ hset H b (.zs k zs sz ty), (x = (b, .zs k zs sz ty) ∧ (b, MB.cells (zs.map (iv k)) sz ty) ∈ hset H b (.cells (zs.map (iv k)) sz ty)) ∨ x ∈ hset H b (.cells (zs.map (iv k)) sz ty) := by
    clear hw hI hk
    induction H with
    | nil => intro x hx; cases hx
    | cons p r ih =>
      obtain ⟨b', m'⟩ := p
      intro x hx
      simp only [hset] at hx ⊢
      split at hx
      · rename_i he
        simp only [if_pos he]
        rcases List.mem_cons.1 hx with rfl | hx
        · subst he; exact .inl ⟨rfl, List.mem_cons_self ..⟩
        · exact .inr (List.mem_cons_of_mem _ hx)
      · rename_i he
        simp only [if_neg he]
        rcases List.mem_cons.1 hx with rfl | hx
        · exact .inr (List.mem_cons_self ..)
        · rcases ih x hx with ⟨h1, h2⟩ | h
          · exact .inl ⟨h1, List.mem_cons_of_mem _ h2⟩
          · exact .inr (List.mem_cons_of_mem _ h)
  refine ⟨⟨by rw [hk]; exact hw.nodup, fun x hx => ?_, fun x hx => ?_, hw.ext⟩, hI⟩
  · rcases hmem x hx with ⟨rfl, h⟩ | h
    · exact hw.keys (b, MB.cells (zs.map (iv k)) sz ty) h
    · exact hw.keys x h
  · rcases hmem x hx with ⟨rfl, h⟩ | h
    · exact (hw.mem _ h).to_zs.mono (fun c hc => ⟨(hI c).1 hc, rfl⟩) rfl
    · exact (hw.mem x h).mono (fun c hc => ⟨(hI c).1 hc, rfl⟩) rfl
theorem run_storeCells_zs (hw : OkW cx H w) {b off sz : Nat} {k : IntKind} {zs ys : List Int} {ty : TypeId} (hg : (b, MB.zs k zs sz ty) ∈ H) (hoff : off + ys.length ≤ zs.length) :
    ∃ w', (storeCells ⟨b, off, none⟩ (ys.map (Value.int k))).run P w = .ok () w' ∧ OkW cx (hset H b (.zs k (zs.take off ++ ys ++ zs.drop (off + ys.length)) sz ty)) w' ∧
      ∀ c, imm cx w H c → imm cx w' (hset H b (.zs k (zs.take off ++ ys ++ zs.drop (off + ys.length)) sz ty)) c ∧ w'.heap[c]? = w.heap[c]? := by
  obtain ⟨h1, h2, h3⟩ := hw.as_cells hg
  obtain ⟨w', r1, r2, r3⟩ := run_storeCells_cells (P := P) h1 (ds := ys.map (iv k)) (vs := ys.map (Value.int k)) (off := off) h2 (by simpa using hoff) (by simp)
    (fun i hi => by
      have hi' : i < ys.length := by simpa using hi
      simp only [List.getElem_map]
      exact Rep.of_eq (by simp [List.getD, hi'])) (fun v hv => by obtain ⟨y, _, rfl⟩ := List.mem_map.1 hv; rfl)
  rw [hset_hset] at r2 r3
  have e : (zs.map (iv k)).take off ++ ys.map (iv k) ++ (zs.map (iv k)).drop (off + (ys.map (iv k)).length) = (zs.take off ++ ys ++ zs.drop (off + ys.length)).map (iv k) := by simp
  rw [e] at r2 r3
  obtain ⟨z1, z2⟩ := r2.as_zs
  exact ⟨w', r1, z1, fun c hc => ⟨(z2 c).1 (r3 c ((h3 c).1 hc)).1, (r3 c ((h3 c).1 hc)).2⟩⟩
theorem run_store_of {T : TypeId} {b off : Nat} {m : MB} {v : Value} {x : AV} (hw : OkW cx H w) (hg : hget H b = some m) (hv : Rep w (imm cx w H) v x) (h : (stC P T m off x).1) :
    ∃ w', (Instr.storeAt T (.pointer (some ⟨b, off, none⟩)) v).run P w = .ok () w' ∧ OkW cx (hset H b (stC P T m off x).2) w' ∧
      ∀ c, imm cx w H c → imm cx w' (hset H b (stC P T m off x).2) c ∧ w'.heap[c]? = w.heap[c]? := by
  have hmem := hget_mem hg
  unfold stC at h ⊢
  have key : ∀ vs : List Value, v.cells.toList = vs → (∃ i, P.info? T = some i ∧ i.size = vs.length) →
      (Instr.storeAt T (.pointer (some ⟨b, off, none⟩)) v).run P w = (storeCells ⟨b, off, none⟩ vs).run P w := by
    rintro vs rfl ⟨i, hi, hs⟩
    have hsz : v.cells.size = i.size := by rw [hs]; simp
    simp [Instr.storeAt, Instr.sureAddr, storeVar, run_sizeOf_info hi, hsz]
  split at h
  · rename_i ht
    obtain ⟨d, i, hd, hi, hs, _, _⟩ := tyc_one ht
    split at h
    · rename_i cs sz ty
      obtain ⟨h1, h2⟩ := h
      have ho := one_of_oneC hv h2
      obtain ⟨w', r1, r2, r3⟩ := run_storeCells_cells (P := P) hw (off := off) (ds := [x]) (vs := [v]) hmem (by simp; omega) rfl
        (fun j hj => by have : j = 0 := by simp at hj; omega
                        subst this; simpa using hv) (by simpa using ho)
      have e : cs.take off ++ [x] ++ cs.drop (off + [x].length) = cs.set off x := by
        rw [List.set_eq_take_append_cons_drop, if_pos h1]; simp
      rw [e] at r2 r3
      exact ⟨w', by rw [key [v] (by rw [cells_of_one ho]) ⟨i, hi, by simp [hs]⟩]; exact r1, r2, r3⟩
    · rename_i k zs sz ty
      split at h
      · rename_i k' n
        obtain ⟨rfl, h1⟩ := h
        have := hv.lit_inv; subst this
        obtain ⟨w', r1, r2, r3⟩ := run_storeCells_zs (P := P) hw (off := off) (ys := [n]) hmem (by simp; omega)
        have e : zs.take off ++ [n] ++ zs.drop (off + [n].length) = zs.set off n := by
          rw [List.set_eq_take_append_cons_drop, if_pos h1]; simp
        rw [e] at r2 r3
        exact ⟨w', by rw [key [.int k n] rfl ⟨i, hi, by simp [hs]⟩]; exact r1, r2, r3⟩
      · exact h.elim
    · exact h.elim
  · rename_i c ht
    have hinfo : ∃ i, P.info? T = some i ∧ i.size = c := by
      unfold tyc at ht
      split at ht
      · cases ht
      · split at ht
        · cases ht
        · rename_i i hi
          split at ht
          · cases ht; exact ⟨i, hi, rfl⟩
          · cases ht; exact ⟨i, hi, rfl⟩
          · split at ht <;> cases ht
    obtain ⟨i, hi, hs⟩ := hinfo
    split at h
    · rename_i ds
      cases hv with
      | agg vs ds hvs hr =>
        split at h
        · rename_i cs sz ty
          obtain ⟨rfl, h1, h2⟩ := h
          obtain ⟨w', r1, r2, r3⟩ := run_storeCells_cells (P := P) hw (off := off) (ds := ds) (vs := vs.toList) hmem h1 (by simpa using hvs)
            (fun j hj => by have := hr j hj; simpa [List.getD] using this)
            (fun u hu => by
              obtain ⟨j, hj, rfl⟩ := List.getElem_of_mem hu
              have hj' : j < vs.size := by simpa using hj
              have hjd : j < ds.length := by omega
              have := hr j hjd
              simp [hj'] at this
              exact one_of_oneC (by simpa using this) (List.all_eq_true.1 h2 _ (List.getElem_mem hjd)))
          exact ⟨w', by rw [key vs.toList rfl ⟨i, hi, by simp [hs, hvs]⟩]; exact r1, r2, r3⟩
        · rename_i k zs sz ty
          cases hys : intsA k ds with
          | none => rw [hys] at h; exact h.elim
          | some ys =>
            rw [hys] at h
            obtain ⟨rfl, h1⟩ := h
            have hds := intsA_spec hys
            have hvs' : vs.toList = ys.map (Value.int k) := by
              apply List.ext_getElem
              · rw [hds] at hvs; simpa using hvs
              · intro j hj1 hj2
                have hjd : j < ds.length := by simp at hj1; omega
                have := hr j hjd
                subst hds
                simp only [List.getElem_map] at this
                have := this.lit_inv
                have hj' : j < vs.size := by simpa using hj1
                simp [hj'] at this
                simpa using this
            obtain ⟨w', r1, r2, r3⟩ := run_storeCells_zs (P := P) hw (off := off) (ys := ys) hmem h1
            exact ⟨w', by rw [key _ hvs' ⟨i, hi, by simp [hs]⟩]; exact r1, r2, r3⟩
        · exact h.elim
    · exact h.elim
  · exact h.elim
def stL (m : MB) (off : Nat) (ds : List AV) : Prop × MB :=
  match m with
  | .cells cs sz ty => (off + ds.length ≤ cs.length ∧ ds.all oneC = true, .cells (cs.take off ++ ds ++ cs.drop (off + ds.length)) sz ty)
  | .zs k zs sz ty => match intsA k ds with
    | some ys => (off + ys.length ≤ zs.length, .zs k (zs.take off ++ ys ++ zs.drop (off + ys.length)) sz ty)
    | none => (False, m)
  | .obj _ => (False, m)
theorem run_storeL {b off : Nat} {m : MB} {vs : List Value} {ds : List AV} (hw : OkW cx H w) (hg : hget H b = some m) (hvl : vs.length = ds.length) (hv : ∀ i (hi : i < ds.length), Rep w (imm cx w H) (vs.getD i undef) ds[i])
    (h : (stL m off ds).1) : ∃ w', (storeCells ⟨b, off, none⟩ vs).run P w = .ok () w' ∧ OkW cx (hset H b (stL m off ds).2) w' ∧
      ∀ c, imm cx w H c → imm cx w' (hset H b (stL m off ds).2) c ∧ w'.heap[c]? = w.heap[c]? := by
  have hmem := hget_mem hg
  cases m with
  | cells cs sz ty =>
    obtain ⟨h1, h2⟩ := h
    exact run_storeCells_cells (P := P) hw hmem h1 hvl hv (fun u hu => by
      obtain ⟨j, hj, rfl⟩ := List.getElem_of_mem hu
      have hjd : j < ds.length := by omega
      have := hv j hjd
      rw [List.getD_eq_getElem?_getD, List.getElem?_eq_getElem hj, Option.getD_some] at this
      exact one_of_oneC this (List.all_eq_true.1 h2 _ (List.getElem_mem hjd)))
  | zs k zs sz ty =>
    simp only [stL] at h ⊢
    cases hys : intsA k ds with
    | none => rw [hys] at h; exact h.elim
    | some ys =>
      rw [hys] at h
      simp only
      have hds := intsA_spec hys
      have hvs' : vs = ys.map (Value.int k) := by
        apply List.ext_getElem
        · rw [hds] at hvl; simpa using hvl
        · intro j hj1 hj2
          have hjd : j < ds.length := by omega
          have := hv j hjd
          subst hds
          simp only [List.getElem_map] at this
          have := this.lit_inv
          rw [List.getD_eq_getElem?_getD, List.getElem?_eq_getElem hj1, Option.getD_some] at this
          simpa using this
      subst hvs'
      exact run_storeCells_zs (P := P) hw hmem h
  | obj o => exact h.elim
end
end Go.Proofs.YtpidkkgjgichdaaDoor
