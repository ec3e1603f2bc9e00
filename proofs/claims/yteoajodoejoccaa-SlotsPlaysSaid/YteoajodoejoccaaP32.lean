/-
  The walks and the laws that the statement leans on, part 32.
-/
import Derived.RangeFuncLeaves
import Derived.Test.YteoajodoejoccaaP31
namespace Go.Proofs.Yteoajodoejoccaa
open Go
set_option linter.unusedVariables false
set_option linter.unusedSimpArgs false
def lpO (st : LoopState) (pe : Option Code) (fn : FuncId) (tmps : Array Value) (ps : Array Tmp) (assign body : Code) (D : Nat) : MB :=
  .obj (.loop { state := st, pending := pe, fn := fn, tmps := tmps, params := ps, assign := assign, body := body, defers := D })
section
variable {P : Program} {cx : Cx} {n : Nat}
theorem Ok.setObj {env : List (Nat × AV)} {L : Nat} {o : Obj} {Hr : Hp} {a : Act} {w : World} (ok : Ok cx n ⟨env, (L, .obj o) :: Hr⟩ a w) (o' : Obj) : Ok cx n ⟨env, (L, .obj o') :: Hr⟩ a (w.putObj L o') := by
  have hm : w.heap[L]? = some o := ok.world.mem (L, .obj o) (List.mem_cons_self ..)
  have hlt := (Array.getElem?_eq_some_iff.1 hm).1
  have h := ok.world.write (w' := w.putObj L o') (b := L) (m := .obj o) (m' := .obj o') (List.mem_cons_self ..) World.putObj_size rfl rfl rfl (fun k hk => World.putObj_heap_other hk) (World.putObj_heap_same hlt)
  have e : hset ((L, MB.obj o) :: Hr) L (.obj o') = (L, .obj o') :: Hr := by simp [hset]
  rw [e] at h
  exact ok.world_to h.1 h.2
def RdQ (L : Nat) (rec : LoopState → Option Code → MB) (post : AV → Hp → Prop) : Exit → St → Prop
  | .normal, s => ∃ H2, Sub s ⟨[], (L, rec .busy none) :: H2⟩ ∧ post (bv true) ((L, rec .ready none) :: H2)
  | .ret, s => ∃ H2, Sub s ⟨[], (L, rec .busy none) :: H2⟩ ∧ post (bv false) ((L, rec .done (some .ret)) :: H2)
  | _, _ => False
theorem yield_act {L : Nat} {fn : FuncId} {tmps : Array Value} {p : Tmp} {assign body : Code} {D : Nat} {Hr : Hp} {x : AV} {env0 : List (Nat × AV)} {post : AV → Hp → Prop}
    (hn : tmps.size = n) (henv : ∀ w I i, Rep w I (tmps.getD i undef) (look env0 i)) (hp : p < n)
    (h : ∀ cx, WPr P cx n L assign (fun e s1 => e = .normal ∧ s1.H = (L, lpO .ready none fn tmps #[p] assign body D) :: Hr ∧
      WPr P cx n L body (RdQ L (fun st pe => lpO st pe fn tmps #[p] assign body D) post) ⟨s1.env, (L, lpO .busy none fn tmps #[p] assign body D) :: Hr⟩) ⟨(p, x) :: env0, (L, lpO .ready none fn tmps #[p] assign body D) :: Hr⟩) :
    YAct P L [x] ((L, lpO .ready none fn tmps #[p] assign body D) :: Hr) post := by
  intro cx vs hK hKT hw hs hv
  have hm : cx.w0.heap[L]? = some (.loop { state := .ready, pending := none, fn := fn, tmps := tmps, params := #[p], assign := assign, body := body, defers := D }) := hw.mem _ (List.mem_cons_self ..)
  obtain ⟨v, rfl⟩ : ∃ v, vs = #[v] := by
    have h1 : vs.size = 1 := hs
    exact ⟨vs[0], Array.ext (by simp [h1]) fun i h2 h3 => by
      have : i = 0 := by simp at h3; omega
      subst this; rfl⟩
  have hv0 : Rep cx.w0 cx.I v x := by simpa using hv 0 (by simp)
  refine ⟨fn, _, assign, body, run_yield hm (by simp), roundIn_of_wpIn trivial ?_⟩
  have hI : ∀ b, cx.I b → imm cx cx.w0 ((L, lpO .ready none fn tmps #[p] assign body D) :: Hr) b := fun b hb => .inl hb
  have ok : Ok cx n ⟨(p, x) :: env0, (L, lpO .ready none fn tmps #[p] assign body D) :: Hr⟩ { tmps := (#[p].zip #[v]).foldl (fun tmps (t, a) => tmps.setIfInBounds t a) tmps, defers := [] } cx.w0 := by
    have e : (#[p].zip #[v]).foldl (fun tmps (t, a) => tmps.setIfInBounds t a) tmps = tmps.setIfInBounds p v := by simp
    rw [e]
    refine ⟨rfl, by simp [hn], fun i => ?_, hw⟩
    simp only [look]
    by_cases hi : i = p
    · subst hi
      rw [if_pos rfl]
      simp [hn, hp]
      exact hv0.mono fun b hb => ⟨hI b hb, rfl⟩
    · rw [if_neg hi]
      have := henv cx.w0 (imm cx cx.w0 ((L, lpO .ready none fn tmps #[p] assign body D) :: Hr)) i
      simpa [Array.getElem?_setIfInBounds_ne (Ne.symm hi)] using this
  refine wpIn_mono (h cx _ _ ok) ?_
  rintro e a1 w1 ⟨s1, ⟨rfl, hH, hb⟩, ok1⟩
  obtain ⟨env1, H1⟩ := s1
  simp only at hH
  subst hH
  have hm1 : w1.heap[L]? = some (.loop { state := .ready, pending := none, fn := fn, tmps := tmps, params := #[p], assign := assign, body := body, defers := D }) := ok1.world.mem _ (List.mem_cons_self ..)
  refine ⟨_, run_beginRound hm1 rfl, ?_⟩
  refine wpIn_mono (hb _ _ (ok1.setObj _)) ?_
  rintro e a2 w2 ⟨s2, hq, ok2⟩
  cases e with
  | normal =>
    obtain ⟨H2, hsub, hp2⟩ := hq
    have ok3 := ok2.sub hsub
    have hm3 : w2.heap[L]? = some (.loop { state := .busy, pending := none, fn := fn, tmps := tmps, params := #[p], assign := assign, body := body, defers := D }) := ok3.world.mem _ (List.mem_cons_self ..)
    have ok4 := ok3.setObj (.loop { state := .ready, pending := none, fn := fn, tmps := tmps, params := #[p], assign := assign, body := body, defers := D })
    exact ⟨_, _, run_endRound none hm3, .bool true, bv true, _, rfl, hp2, ok4.world, .lit _⟩
  | ret =>
    obtain ⟨H2, hsub, hp2⟩ := hq
    have ok3 := ok2.sub hsub
    have hm3 : w2.heap[L]? = some (.loop { state := .busy, pending := none, fn := fn, tmps := tmps, params := #[p], assign := assign, body := body, defers := D }) := ok3.world.mem _ (List.mem_cons_self ..)
    have ok4 := ok3.setObj (.loop { state := .done, pending := some .ret, fn := fn, tmps := tmps, params := #[p], assign := assign, body := body, defers := D })
    exact ⟨_, _, run_endRound (some .ret) hm3, .bool false, bv false, _, rfl, hp2, ok4.world, .lit _⟩
  | exit id => exact hq.elim
  | goto l => exact hq.elim
  | panic ch => exact hq.elim
  | outgrown => exact hq.elim
theorem YAct.mono {l : Nat} {args : List AV} {F : Hp} {p q : AV → Hp → Prop} (h : YAct P l args F p) (hq : ∀ r F', p r F' → q r F') : YAct P l args F q :=
  fun cx vs h1 h1' h2 h3 h4 => (h cx vs h1 h1' h2 h3 h4).mono fun e w' ⟨v, r, F', a, b, c, d⟩ => ⟨v, r, F', a, hq r F' b, c, d⟩
theorem YAct.perm {l : Nat} {args : List AV} {F F2 : Hp} {p : AV → Hp → Prop} (hP : F2.Perm F) (h : YAct P l args F p) : YAct P l args F2 p := by
  intro cx vs h1 h1' h2 h3 h4
  have hw := h2.perm hP
  have hI : ∀ b, cx.I b → b < cx.w0.heap.size ∧ (b ∉ F.map (·.1) ∨ b ∈ roK F) := fun b hb => by
    have h5 := cx.hI b hb
    refine ⟨h5.1, ?_⟩
    rcases h5.2 with h6 | h6
    · rw [h1] at h6
      exact .inl fun hm => h6 ((hP.map _).mem_iff.2 hm)
    · rw [h1'] at h6
      obtain ⟨x, hx, e1, e2⟩ := roK_mem.1 h6
      exact .inr (roK_mem.2 ⟨x, hP.mem_iff.1 hx, e1, e2⟩)
  have hT : ∀ b ∈ roK F, b < cx.w0.heap.size := fun b hb => by
    obtain ⟨x, hx, e1, e2⟩ := roK_mem.1 hb
    exact cx.hT b (by rw [h1']; exact roK_mem.2 ⟨x, hP.mem_iff.2 hx, e1, e2⟩)
  have hnd := hw.nodup
  have := h ⟨cx.w0, cx.I, F.map (·.1), roK F, hI, hT⟩ vs rfl rfl ⟨hnd, fun x hx => .inl (List.mem_map_of_mem hx), fun x hx => ?_, ⟨rfl, rfl, rfl, Nat.le_refl _, fun _ _ _ => rfl⟩, roK_ro hnd⟩ h3 h4
  · refine this.mono ?_
    rintro e w' ⟨v, r, F', he, hp, hw', hr⟩
    have hKm : ∀ b, b ∈ cx.K ↔ b ∈ F.map (·.1) := fun b => by rw [h1]; exact (hP.map _).mem_iff
    have hTm : ∀ b, b ∈ cx.T ↔ b ∈ roK F := fun b => by
      rw [h1']
      constructor
      · intro hb
        obtain ⟨x, hx, e1, e2⟩ := roK_mem.1 hb
        exact roK_mem.2 ⟨x, hP.mem_iff.1 hx, e1, e2⟩
      · intro hb
        obtain ⟨x, hx, e1, e2⟩ := roK_mem.1 hb
        exact roK_mem.2 ⟨x, hP.mem_iff.2 hx, e1, e2⟩
    have himm : ∀ b, imm ⟨cx.w0, cx.I, F.map (·.1), roK F, hI, hT⟩ w' F' b → imm cx w' F' b := by
      rintro b (hb | ⟨hb1, hb2, hb3⟩)
      · exact .inl hb
      · exact .inr ⟨hb1.imp (hKm b).2 id, hb2, hb3⟩
    refine ⟨v, r, F', he, hp, ⟨hw'.nodup, fun x hx => (hw'.keys x hx).imp (hKm _).2 id, fun x hx => (hw'.mem x hx).mono (fun b hb => ⟨himm b hb, rfl⟩) rfl, ⟨hw'.ext.os, hw'.ext.tape, hw'.ext.output, hw'.ext.size, fun b hb hk => hw'.ext.blk b hb (hk.imp (fun h => fun h2 => h ((hKm b).2 h2)) (hTm b).1)⟩, fun x hx hT2 => hw'.ro x hx ((hTm _).1 hT2)⟩, hr.mono fun b hb => ⟨himm b hb, rfl⟩⟩
  · refine (hw.mem x hx).mono (fun b hb => ⟨?_, rfl⟩) rfl
    rcases hb with hb | ⟨hb1, hb2, hb3⟩
    · exact .inl hb
    · refine .inr ⟨?_, hb2, hb3⟩
      rcases hb1 with hb1 | hb1
      · rw [h1] at hb1; exact .inl ((hP.map _).mem_iff.1 hb1)
      · exact .inr hb1
/-! ## The statement -/
abbrev mkO (D : Nat) : Deferred := { target := .collected D, args := #[] }
theorem range_rule {g : Operand} {p : Tmp} {assign body : Code} {T : Exit → Act → World → Prop} {a : Act} {w : World} {env : List (Nat × AV)} {H : Hp} {gf : FuncId} {lb : List Value} {Γ : Type} {st : Γ → LoopState} {pe : Γ → Option Code} {H3 : Γ → Hp}
    (ok : Ok cx n ⟨env, H⟩ a w) (hg : look env (match g with | .tmp t => t | _ => n) = .lit (.func (.func gf) #[] lb.toArray)) (hgt : ∃ t, g = .tmp t)
    (hst : ∀ q, st q ≠ .busy) (hpe : ∀ q, pe q = none ∨ pe q = some .ret)
    (eg : ∀ args w, (callFunc gf args).run P w = .ok (.enter gf args) w)
    (hcall : ∀ (fn : FuncId) (tmps : Array Value) (L D : Nat), tmps.size = n → (∀ i u, look env i = .lit u → tmps.getD i undef = u) →
      ACt P gf (.lit (.func (.yield L) #[] #[]) :: lb.map AV.lit) ((L, lpO .ready none fn tmps #[p] assign body D) :: (D, .obj (.deferred (some []))) :: H)
        (fun r F' => ∃ q : Γ, F' = (L, lpO (st q) (pe q) fn tmps #[p] assign body D) :: (D, .obj (.deferred (some []))) :: H3 q))
    (hT : ∀ (q : Γ) (L D : Nat) (o : Obj) (a' : Act) (w' : World), a'.defers = [mkO D] → Ok cx n ⟨env, (L, .obj o) :: (D, .obj (.deferred (some []))) :: H3 q⟩ { a' with defers := [] } w' → T (match pe q with | none => .normal | some _ => .ret) a' w') :
    (Code.rangeFunc g #[p] assign body).wpIn Fence.wide 0 P T a w := by
  obtain ⟨t, rfl⟩ := hgt
  simp only at hg
  have hge : a.eval (.tmp t) = .func (.func gf) #[] lb.toArray := by
    have := ok.reps t
    rw [hg] at this
    exact this.lit_inv
  refine wpIn_rangeFunc ?_
  intro fn _
  have hlit : ∀ i u, look env i = .lit u → a.tmps.getD i undef = u := fun i u hu => by
    have := ok.reps i
    rw [hu] at this
    exact this.lit_inv
  obtain ⟨ok1, f1⟩ := ok.push (w' := w.alloc (.deferred (some []))) (ob := .deferred (some [])) (m := .obj (.deferred (some []))) rfl rfl rfl rfl (by show (w.alloc (.deferred (some []))).heap[w.heap.size]? = _; rw [heap_alloc]; exact Array.getElem?_push_size)
  obtain ⟨ok2, f2⟩ := ok1.push (w' := (w.alloc (.deferred (some []))).alloc (.loop { state := .ready, pending := none, fn := fn, tmps := a.tmps, params := #[p], assign := assign, body := body, defers := w.heap.size })) (ob := .loop { state := .ready, pending := none, fn := fn, tmps := a.tmps, params := #[p], assign := assign, body := body, defers := w.heap.size }) (m := lpO .ready none fn a.tmps #[p] assign body w.heap.size) rfl rfl rfl rfl (by
    show ((w.alloc (.deferred (some []))).alloc _).heap[(w.alloc (.deferred (some []))).heap.size]? = _; rw [heap_alloc]; exact Array.getElem?_push_size)
  have hsz : (w.alloc (.deferred (some []))).heap.size = w.heap.size + 1 := World.size_alloc ..
  rw [hsz] at ok2
  simp only at ok2
  obtain ⟨W1, hW1⟩ : ∃ W1, W1 = (w.alloc (.deferred (some []))).alloc (.loop { state := .ready, pending := none, fn := fn, tmps := a.tmps, params := #[p], assign := assign, body := body, defers := w.heap.size }) := ⟨_, rfl⟩
  rw [← hW1] at ok2
  have hc := run_callV (vs := #[.func (.yield (w.heap.size + 1)) #[] #[]] ++ lb.toArray) ok2 (CallV.on _ [] (by rw [List.append_nil]) (hcall fn a.tmps (w.heap.size + 1) w.heap.size ok.size hlit) (post := fun r F' => ∃ q : Γ, F' = (w.heap.size + 1, lpO (st q) (pe q) fn a.tmps #[p] assign body w.heap.size) :: (w.heap.size, .obj (.deferred (some []))) :: H3 q) (fun r F' h => by rw [List.append_nil]; exact h))
    (by simp) (fun i hi => by
      cases i with
      | zero => simp; exact .lit _
      | succ i =>
        simp only [List.length_cons, List.length_map] at hi
        have hi' : i < lb.length := by omega
        simp [List.getElem?_map, hi', Array.getElem?_append]
        exact .lit _)
  rcases hc with ⟨_, hc2⟩ | ⟨v, w', h, _⟩
  rotate_left
  · rw [eg] at h; cases h
  refine ⟨w.heap.size + 1, [mkO w.heap.size], W1, { target := .fn (.func gf) lb.toArray, args := #[.func (.yield (w.heap.size + 1)) #[] #[]] }, W1, gf, #[.func (.yield (w.heap.size + 1)) #[] #[]] ++ lb.toArray, W1, ?_, ?_, fun _ _ => trivial, ?_, fun h => (by cases h), ?_⟩
  · rw [hW1]; exact run_enterLoop_outer _ _ _ _ _
  · simp only [resolve, hge]
    simp [go_sem]
  · simp [invoke, go_sem, eg]
  · refine ((callsIn_wide (n := 0)).2 hc2).mono ?_
    rintro e w3 ⟨v, r, H', rfl, ⟨q, rfl⟩, ok3, -⟩
    simp only at ok3
    have hm3 : w3.heap[w.heap.size + 1]? = some (.loop { state := st q, pending := pe q, fn := fn, tmps := a.tmps, params := #[p], assign := assign, body := body, defers := w.heap.size }) := ok3.world.mem _ (List.mem_cons_self ..)
    have ok4 := ok3.setObj (.loop { state := .exhausted, pending := pe q, fn := fn, tmps := a.tmps, params := #[p], assign := assign, body := body, defers := w.heap.size })
    refine ⟨pe q, _, run_endLoop hm3 (hst q), ?_⟩
    have hdf : ({ a with defers := [mkO w.heap.size] ++ a.defers } : Act).defers = [mkO w.heap.size] := by show [mkO w.heap.size] ++ a.defers = _; rw [ok.defers]; rfl
    have hok : Ok cx n ⟨env, (w.heap.size + 1, .obj (.loop { state := .exhausted, pending := pe q, fn := fn, tmps := a.tmps, params := #[p], assign := assign, body := body, defers := w.heap.size })) :: (w.heap.size, .obj (.deferred (some []))) :: H3 q⟩ { ({ a with defers := [mkO w.heap.size] ++ a.defers } : Act) with defers := [] } (w3.putObj (w.heap.size + 1) (.loop { state := .exhausted, pending := pe q, fn := fn, tmps := a.tmps, params := #[p], assign := assign, body := body, defers := w.heap.size })) :=
      ⟨rfl, ok4.size, ok4.reps, ok4.world⟩
    have := hT q (w.heap.size + 1) w.heap.size _ _ _ hdf hok
    rcases hpe q with h | h
    · rw [h] at this ⊢; exact this
    · rw [h] at this ⊢; exact wpIn_ret this
/-! ## Operations with deferred calls that wait -/
abbrev dfA (d : List Deferred) (a : Act) : Act := { a with defers := a.defers ++ d }
theorem put_dfA (d : List Deferred) (a : Act) (t : Option Tmp) (v : Value) : (dfA d a).put t v = dfA d (a.put t v) := by cases t <;> rfl
theorem eval_dfA (d : List Deferred) (a : Act) : (dfA d a).eval = a.eval := by funext x; cases x <;> rfl
theorem wpList_dfA (d : List Deferred) {ops : Array Oper} {Q : Exit → Act → World → Prop} (hQ : ¬ LetsOut Q) : ∀ (l : List Oper) (a : Act) (w : World), wpList P ops Q l a w →
    wpList P ops (fun e a' w' => ∃ a1, Q e a1 w' ∧ a' = dfA d a1) l (dfA d a) w
  | [], a, w, h => ⟨a, h, rfl⟩
  | o :: r, a, w, h => by
    unfold wpList at h ⊢
    have e1 : yielded ops (dfA d a).tmps = yielded ops a.tmps := rfl
    rw [e1]
    split
    · rename_i hw
      rw [if_pos hw] at h
      rcases h with h | h
      · left
        unfold Oper.wp at h ⊢
        rw [eval_dfA]
        generalize (execOp a.eval o).run P w = q at h ⊢
        cases q with
        | ok x w' =>
          cases x with
          | value v => show wpList P ops _ r ((dfA d a).put o.dst v) w'; rw [put_dfA]; exact wpList_dfA d hQ r _ _ h
          | skip => show wpList P ops _ r ((dfA d a).put o.dst undef) w'; rw [put_dfA]; exact wpList_dfA d hQ r _ _ h
          | defer df =>
            have := wpList_dfA d hQ r _ _ h
            show wpList P ops _ r (({ (dfA d a) with defers := df :: (dfA d a).defers } : Act).put o.dst undef) w'
            rw [show ({ (dfA d a) with defers := df :: (dfA d a).defers } : Act) = dfA d { a with defers := df :: a.defers } from rfl, put_dfA]
            exact this
          | enter f args =>
            exact Calls.mono h fun e w'' he => by
              cases e with
              | returned v => show wpList P ops _ r ((dfA d a).put o.dst v) w''; rw [put_dfA]; exact wpList_dfA d hQ r _ _ he
              | panicked ch => exact ⟨a, he, rfl⟩
              | outgrown => exact absurd he hQ
          | row row args => exact Rows.mono h fun v w'' he => by rw [put_dfA]; exact wpList_dfA d hQ r _ _ he
          | _ => exact h.elim
        | halt x w' =>
          cases x with
          | panic v => exact ⟨a, h, rfl⟩
          | _ => exact h.elim
      · exact absurd h.2 hQ
    · rename_i hw
      rw [if_neg hw] at h
      rw [put_dfA]
      exact wpList_dfA d hQ r _ _ h
theorem pl_region {id : Nat} {l : List Oper} {T : Exit → Act → World → Prop} {s : St} {a : Act} {w : World} (ok : Ok cx n s a w)
    (h : ∀ K : St → Prop, (∀ s', (∀ a1 w', Ok cx n s' a1 w' → T .normal a1 w') → K s') → rvc P n l.toArray l K s) : (Code.region id l.toArray false).wpIn Fence.wide 0 P T a w :=
  (wpIn_wide (n := 0)).2 (wp_region_lit (rvc_sound (cx := cx) _ _ (h _ fun _ h => h) T (fun s a w hk ok => hk a w ok) a w ok))
def NrQ (cx : Cx) (n : Nat) (K : St → Prop) : Exit → Act → World → Prop
  | .normal, a, w => ∃ s', K s' ∧ Ok cx n s' a w
  | _, _, _ => False
theorem df_region {id : Nat} {l : List Oper} {T : Exit → Act → World → Prop} {K : St → Prop} {s : St} {a0 : Act} {w : World} (d : List Deferred) (hd : l.all ndo = true) (ok : Ok cx n s a0 w)
    (h : rvc P n l.toArray l K s) (hT : ∀ s' a1 w', K s' → Ok cx n s' a1 w' → T .normal (dfA d a1) w') : (Code.region id l.toArray false).wpIn Fence.wide 0 P T (dfA d a0) w := by
  have h1 := rvc_sound (cx := cx) _ _ h (NrQ cx n K) (fun s a w hk ok => ⟨s, hk, ok⟩) a0 w ok
  have n1 : ¬ LetsOut (NrQ cx n K) := by rintro ⟨_, _, h⟩; exact h
  have n2 : ¬ LetsOut (fun e a' w' => ∃ a1, NrQ cx n K e a1 w' ∧ a' = dfA d a1) := by rintro ⟨_, _, _, h, _⟩; exact h
  have h2 := wpList_in (ro := none) (m := 0) n2 _ _ _ hd (wpList_dfA d n1 _ _ _ h1)
  have h3 : (Code.region id l.toArray false).wpIn Fence.wide 0 P _ (dfA d a0) w := wpIn_region_lit h2
  refine wpIn_mono h3 ?_
  rintro e a w ⟨a1, h4, rfl⟩
  cases e with
  | normal => obtain ⟨s', hk, ok'⟩ := h4; exact hT s' a1 w hk ok'
  | _ => exact h4.elim
theorem df_regionK {id : Nat} {l : List Oper} {T : Exit → Act → World → Prop} {s : St} {a0 : Act} {w : World} (d : List Deferred) (hd : l.all ndo = true) (ok : Ok cx n s a0 w)
    (h : ∀ K : St → Prop, (∀ s', (∀ a1 w', Ok cx n s' a1 w' → T .normal (dfA d a1) w') → K s') → rvc P n l.toArray l K s) : (Code.region id l.toArray false).wpIn Fence.wide 0 P T (dfA d a0) w :=
  df_region d hd ok (h _ fun _ h => h) (fun s' a1 w' hk ok' => hk a1 w' ok')
theorem WPr.nd {L : Nat} {c : Code} {Q : Exit → St → Prop} {s : St} (h : ndF s.H → WPr P cx n L c Q s) : WPr P cx n L c Q s := fun a w ok => h (ndF_of ok.world.nodup) a w ok
theorem enter_of {f : FuncId} {fn : Func} {c : Code} (hf : P.funcs[f]? = some fn) (hb : fn.body = some c) (hname : (fn.name == "runtime.NumGoroutine") = false) (args : Array Value) (w : World) : (callFunc f args).run P w = .ok (.enter f args) w := by
  simp [callFunc, program, Sem.run, hf, hb]
  simpa using hname
def MkQ (P : Program) (cx : Cx) (n : Nat) (rs : List ResultVar) (post : AV → Hp → Prop) : Exit → Act → World → Prop := fun e a' w' =>
  (e = .normal ∨ e = .ret) ∧ ∃ (D : Nat) (env : List (Nat × AV)) (Hr : Hp), a'.defers = [mkO D] ∧ Ok cx n ⟨env, (D, .obj (.deferred (some []))) :: Hr⟩ { a' with defers := [] } w' ∧ OutQ P rs post ⟨env, Hr⟩
theorem ACt.introM {f : FuncId} {fn : Func} {c : Code} {args : List AV} {F : Hp} {post : AV → Hp → Prop} (hf : P.funcs[f]? = some fn) (hb : fn.body = some c) (hname : (fn.name == "runtime.NumGoroutine") = false)
    (hn : args.length ≤ fn.ntmps) (h : ∀ cx a w, Ok cx fn.ntmps ⟨argE 0 args, F⟩ a w → c.wpIn Fence.wide 0 P (MkQ P cx fn.ntmps fn.results.toList post) a w) : ACt P f args F post := by
  intro cx vs hK hKT hw hs hv
  refine .inl ⟨?_, ?_⟩
  · simp [callFunc, program, Sem.run, hf, hb]
    simpa using hname
  · refine (callsIn_wide (n := 0)).1 (callsIn_of_wp_marks hf hb trivial ?_ rfl)
    have ok : Ok cx fn.ntmps ⟨argE 0 args, F⟩ { tmps := vs ++ Array.replicate (fn.ntmps - vs.size) undef, defers := [] } cx.w0 := by
      refine ⟨rfl, by simp; omega, fun i => ?_, hw⟩
      rw [look_argE]
      simp only [Nat.zero_le, if_true, Nat.sub_zero]
      by_cases hi : i < args.length
      · have := hv i hi
        have hi' : i < vs.size := by omega
        have e : (vs ++ Array.replicate (fn.ntmps - vs.size) undef).getD i undef = vs.getD i undef := by simp [Array.getElem?_append, hi']
        rw [e]
        exact this.mono fun b hb => ⟨.inl hb, rfl⟩
      · have : args.getD i .any = .any := by simp [List.getD, List.getElem?_eq_none (Nat.le_of_not_lt hi)]
        rw [this]
        exact .any _
    refine wpIn_mono (h cx _ _ ok) ?_
    rintro e a w ⟨he, D, env, Hr, hd, ok', s2, hwk, q1, F', R, hp, q2⟩
    have hm : w.heap[D]? = some (.deferred (some [])) := ok'.world.mem _ (List.mem_cons_self ..)
    have ok2 := hwk _ _ _ _ ((ok'.setObj (.deferred none)).sub (s' := ⟨env, Hr⟩) ⟨⟨[(D, .obj (.deferred none))], List.perm_append_comm (l₁ := [_])⟩, fun i => .inr rfl⟩)
    obtain ⟨v, r1, r2⟩ := results_of ok2 q1
    have hd2 := (ok2.world.perm hp).drop
    have fin : LeavesInM Fence.wide 0 P fn a.tmps (fun e w' => ∃ v r F', e = .returned v ∧ post r F' ∧ OkW cx F' w' ∧ Rep w' (imm cx w' F') v r) a.defers .returning w := by
      rw [hd]
      refine ⟨by simp, .inl ⟨D, _, rfl, run_takeDeferred hm, v, r1, v, _, F', rfl, q2, hd2.1, r2.mono fun b hb => ⟨hd2.2 b ((imm_perm hp).1 hb), rfl⟩⟩⟩
    rcases he with rfl | rfl
    · exact fin
    · exact fin
end
end Go.Proofs.Yteoajodoejoccaa
