/-
  The walks and the laws that the statement leans on, part 31.
-/
import Derived.RangeFuncRecord
import Derived.OrdersIn
import Derived.TacticsIn
import Derived.Test.YteoajodoejoccaaP10
namespace Go.Proofs.Yteoajodoejoccaa
open Go
set_option linter.unusedVariables false
set_option linter.unusedSimpArgs false
abbrev Rd (ro : Option Nat) : Fence := { Fence.wide with round := ro }
def ndo (o : Oper) : Bool := match o.op with
  | .defer _ => false
  | _ => true
theorem ndo_spec {o : Oper} (h : ndo o = true) : ∀ c, o.op ≠ .defer c := fun c e => by
  unfold ndo at h
  rw [e] at h
  cases h
section
variable {P : Program} {ro : Option Nat} {m : Nat} {ops : Array Oper} {Q : Exit → Act → World → Prop}
theorem rows_in {row : String} {args : Array Value} {w : World} {R : Value → World → Prop} (h : Rows P row args w R) : RowsIn (Rd ro) m P row args w R :=
  fun c cs _ => let ⟨v, w', r, s⟩ := h c cs; ⟨v, w', r, stepsIn_wide.2 s⟩
theorem calls_in {f : FuncId} {args : Array Value} {w : World} {R : Ending → World → Prop} (h : Calls P f args w R) : CallsIn (Rd ro) m P f args w R :=
  (callsIn_wide (n := m)).2 h
theorem upon_in {o : Oper} {a : Act} {next : Act → World → Prop} {r : Result Next} (h : o.upon P a next Q r) : o.uponIn (Rd ro) m P a next Q r := by
  cases r with
  | ok x w' =>
    cases x with
    | value v => exact h
    | skip => exact h
    | defer d => exact h
    | enter f args => exact ⟨fun h => (by cases h), calls_in h⟩
    | row row args => exact ⟨fun h => (by cases h), rows_in h⟩
    | _ => exact h.elim
  | halt x w' => cases x <;> exact h
theorem wp_in {o : Oper} {a : Act} {w : World} {next : Act → World → Prop} (hd : ndo o = true) (h : o.wp P a w next Q) : o.wpIn (Rd ro) m P a w next Q :=
  ⟨fun _ _ => trivial, by rw [Oper.semAt_eq _ _ _ (ndo_spec hd)]; exact upon_in h⟩
theorem wpList_in (hQ : ¬ LetsOut Q) : ∀ (l : List Oper) (a : Act) (w : World), l.all ndo = true → wpList P ops Q l a w → wpListIn (Rd ro) m P ops Q l a w
  | [], a, w, _, h => h
  | o :: r, a, w, hl, h => by
    rw [List.all_cons, Bool.and_eq_true] at hl
    unfold wpList at h
    unfold wpListIn
    split
    · rename_i hw
      rw [if_pos hw] at h
      rcases h with h | h
      · exact wp_in hl.1 (Oper.wp_mono (fun a w => wpList_in hQ r a w hl.2) h)
      · exact absurd h.2 hQ
    · rename_i hw
      rw [if_neg hw] at h
      exact ⟨fun _ _ => trivial, wpList_in hQ r _ w hl.2 h⟩
theorem wpOp_in (hQ : ¬ LetsOut Q) (hl : ops.toList.all ndo = true) {i : Nat} {K : Act → World → Prop} {a : Act} {w : World} (h : wpOp P ops Q i K a w) : wpOpIn (Rd ro) m P ops Q i K a w := by
  unfold wpOp at h
  unfold wpOpIn
  cases ho : ops[i]? with
  | none => rw [ho] at h; exact h
  | some o =>
    rw [ho] at h
    simp only at h ⊢
    have hd : ndo o = true := List.all_eq_true.1 hl o (by
      obtain ⟨h1, h2⟩ := Array.getElem?_eq_some_iff.1 ho
      rw [← h2]; exact Array.getElem_mem_toList h1)
    split
    · rename_i hw
      rw [if_pos hw] at h
      rcases h with h | h
      · exact wp_in hd h
      · exact absurd h.2 hQ
    · rename_i hw
      rw [if_neg hw] at h
      exact ⟨fun _ _ => trivial, h⟩
theorem wpAny_in (hQ : ¬ LetsOut Q) (hl : ops.toList.all ndo = true) {md : Region.Mode} : ∀ (fuel : Nat) (listed : Array Bool) (a : Act) (w : World), wpAny P md ops Q fuel listed a w → wpAnyIn (Rd ro) m P md ops Q fuel listed a w
  | 0, listed, a, w, h => h
  | fuel + 1, listed, a, w, h => ⟨h.1, fun i hi => wpOpIn_mono (fun a w => wpAny_in hQ hl fuel _ a w) (wpOp_in hQ hl (h.2 i hi))⟩
end
def WPr (P : Program) (cx : Cx) (n L : Nat) (c : Code) (Q : Exit → St → Prop) (s : St) : Prop :=
  ∀ a w, Ok cx n s a w → c.wpIn (Rd (some L)) 0 P (fun e a' w' => ∃ s', Q e s' ∧ Ok cx n s' a' w') a w
section
variable {P : Program} {cx : Cx} {n L : Nat} {Q : Exit → St → Prop} {s : St}
theorem WPr.sub {c : Code} {s' : St} (hs : Sub s s') (h : WPr P cx n L c Q s') : WPr P cx n L c Q s := fun a w ok => h a w (ok.sub hs)
theorem WPr.seq {c1 c2 : Code} (h : ∀ K : St → Prop, (∀ s, WPr P cx n L c2 Q s → K s) → WPr P cx n L c1 (SeqQ K Q) s) : WPr P cx n L (.seq c1 c2) Q s := by
  intro a w ok
  refine Go.wpIn_seq (Go.wpIn_mono (h _ (fun _ h => h) a w ok) ?_)
  rintro e a' w' ⟨s', q, ok'⟩
  cases e with
  | normal => exact q a' w' ok'
  | exit id => exact ⟨s', q, ok'⟩
  | goto l => exact ⟨s', q, ok'⟩
  | ret => exact ⟨s', q, ok'⟩
  | panic ch => exact ⟨s', q, ok'⟩
  | outgrown => exact ⟨s', q, ok'⟩
theorem WPr.block {id : Nat} {c : Code} (h : WPr P cx n L c (BlkQ id Q) s) : WPr P cx n L (.block id c) Q s := by
  intro a w ok
  refine Go.wpIn_block (Go.wpIn_mono (h a w ok) ?_)
  rintro e a' w' ⟨s', q, ok'⟩
  cases e with
  | exit id' =>
    simp only [BlkQ] at q
    simp only [Exit.inBlock]
    split
    · rename_i h; rw [if_pos h] at q; exact ⟨s', q, ok'⟩
    · rename_i h; rw [if_neg h] at q; exact ⟨s', q, ok'⟩
  | normal => exact ⟨s', q, ok'⟩
  | goto l => exact ⟨s', q, ok'⟩
  | ret => exact ⟨s', q, ok'⟩
  | panic ch => exact ⟨s', q, ok'⟩
  | outgrown => exact ⟨s', q, ok'⟩
theorem WPr.skip (h : Q .normal s) : WPr P cx n L .skip Q s := fun _ _ ok => Go.wpIn_skip ⟨s, h, ok⟩
theorem WPr.ret (h : Q .ret s) : WPr P cx n L .ret Q s := fun _ _ ok => Go.wpIn_ret ⟨s, h, ok⟩
theorem WPr.cond {c : Operand} {x y : Code} {t : Bool} (hc : opd s.env c = bv t) (ht : t = true → WPr P cx n L x Q s) (hf : t = false → WPr P cx n L y Q s) : WPr P cx n L (.cond c x y) Q s := by
  intro a w ok
  have hv := ok.opd c
  rw [hc] at hv
  exact Go.wpIn_cond_split (t := t) hv.lit_inv (fun h => ht h a w ok) (fun h => hf h a w ok)
theorem no_out (hQ : ∀ s, ¬ Q .outgrown s) : ¬ LetsOut (fun e a' w' => ∃ s', Q e s' ∧ Ok cx n s' a' w') := fun ⟨a, w, s, h, _⟩ => hQ s h
theorem WPr.region {id : Nat} {l : List Oper} (hd : l.all ndo = true) (h : rvc P n l.toArray l (Q .normal) s) (hQ : ∀ s, ¬ Q .outgrown s := by exact fun _ h => h) : WPr P cx n L (.region id l.toArray false) Q s :=
  fun a w ok => wpIn_region_lit (wpList_in (no_out hQ) _ _ _ hd (rvc_sound _ _ h _ (fun _ _ _ hk ok' => ⟨_, hk, ok'⟩) a w ok))
theorem WPr.drawKk {id : Nat} (k : Nat) {l : List Oper} (hm : P.follows .mixedOrders = true) (hB : drawB l.toArray k = true) (hd : l.all ndo = true)
    (h : dvc P n l.toArray (l.take k) (rvc P n l.toArray (l.drop k) (Q .normal)) s) (hQ : ∀ s, ¬ Q .outgrown s := by exact fun _ h => h) : WPr P cx n L (.region id l.toArray true) Q s :=
  fun a w ok => wpIn_region_any hm (wpAny_in (no_out hQ) (by simpa using hd) _ _ _ _ (draw_any hB (dvc_mono _ _ _ _ _ (fun s hs => rvc_sound _ s hs) h) ok))
end
/-! ## Calls of yield -/
def YieldX (P : Program) (l : Nat) (vs : Array Value) (w : World) (R : Ending → World → Prop) : Prop :=
  ∃ fn tmps assign body, (Instr.yield l vs).run P w = .ok (.round l fn tmps assign body) w ∧ RoundIn (Rd none) 0 P l fn tmps assign body w R
theorem YieldX.mono {P : Program} {l : Nat} {vs : Array Value} {w : World} {R R' : Ending → World → Prop} (h : YieldX P l vs w R) (hR : ∀ e w', R e w' → R' e w') : YieldX P l vs w R' :=
  let ⟨fn, t, a, b, h1, h2⟩ := h; ⟨fn, t, a, b, h1, h2.mono hR⟩
def YAct (P : Program) (l : Nat) (args : List AV) (F : Hp) (post : AV → Hp → Prop) : Prop :=
  ∀ (cx : Cx) (vs : Array Value), cx.K = F.map (·.1) → cx.T = roK F → OkW cx F cx.w0 → vs.size = args.length → (∀ i, i < args.length → Rep cx.w0 cx.I (vs.getD i undef) (args.getD i .any)) →
    YieldX P l vs cx.w0 fun e w' => ∃ v r F', e = .returned v ∧ post r F' ∧ OkW cx F' w' ∧ Rep w' (imm cx w' F') v r
section
variable {P : Program} {cx : Cx} {n : Nat} {s : St}
theorem run_yct {l : Nat} {args : List AV} {post : AV → Hp → Prop} {a : Act} {w : World} {vs : Array Value} (ok : Ok cx n s a w) (h : YAct P l args s.H post) (hs : vs.size = args.length)
    (hv : ∀ i, i < args.length → Rep w (imm cx w s.H) (vs.getD i undef) (args.getD i .any)) :
    YieldX P l vs w fun e w' => ∃ v r H', e = .returned v ∧ post r H' ∧ Ok cx n { s with H := H' } a w' ∧ Rep w' (imm cx w' H') v r := by
  have hw : OkW cx (s.H ++ []) w := by rw [List.append_nil]; exact ok.world
  have hIp : ∀ b, imm cx w s.H b → imm cx w (s.H ++ []) b := fun b hb => by rw [List.append_nil]; exact hb
  have hI : ∀ b, imm cx w s.H b → b < w.heap.size ∧ (b ∉ s.H.map (·.1) ∨ b ∈ roK s.H) := fun b hb => ⟨imm_lt hw.ext.size hb, imm_out hw (hIp b hb)⟩
  have hT := roK_lt hw
  have := h ⟨w, imm cx w s.H, s.H.map (·.1), roK s.H, hI, hT⟩ vs rfl rfl ⟨ok.world.nodup, fun x hx => .inl (List.mem_map_of_mem hx), fun x hx => (ok.world.mem x hx).mono (fun b hb => ⟨.inl hb, rfl⟩) rfl,
    ⟨rfl, rfl, rfl, Nat.le_refl _, fun _ _ _ => rfl⟩, roK_ro ok.world.nodup⟩ hs hv
  refine this.mono ?_
  rintro e w' ⟨v, r, F', he, hpost, hw', hr⟩
  obtain ⟨c1, c2, c3⟩ := call_frame hIp hw hw'
  rw [List.append_nil] at c1
  refine ⟨v, r, F', he, hpost, ok.world_to c1 (fun b hb => ?_), hr.mono fun b hb => ⟨?_, rfl⟩⟩
  · have := c2 b (hIp b hb); rwa [List.append_nil] at this
  · have := c3 b hb; rwa [List.append_nil] at this
theorem wpListIn_app {F : Fence} {m : Nat} {ops : Array Oper} {Q R : Exit → Act → World → Prop} {l2 : List Oper} (h2 : ∀ a w, R .normal a w → wpListIn F m P ops Q l2 a w)
    (hne : ∀ e a w, e ≠ .normal → R e a w → Q e a w) : ∀ (l1 : List Oper) (a : Act) (w : World), wpListIn F m P ops R l1 a w → wpListIn F m P ops Q (l1 ++ l2) a w
  | [], a, w, h => h2 a w h
  | o :: r, a, w, h => by
    rw [List.cons_append]
    unfold wpListIn at h ⊢
    split
    · rename_i hw
      rw [if_pos hw] at h
      have h' := Oper.wpIn_mono (fun a w => wpListIn_app h2 hne r a w) h
      exact ⟨h'.1, by
        have h3 := h'.2
        generalize (o.semAt F.round a.eval).run P w = q at h3 ⊢
        cases q with
        | ok x w' =>
          cases x with
          | enter f args => exact ⟨h3.1, h3.2.mono fun e w'' he => by
              cases e with
              | returned v => exact he
              | panicked ch => exact hne _ _ _ (by simp) he
              | outgrown => obtain ⟨a0, w0, h0⟩ := he; exact ⟨a0, w0, hne _ _ _ (by simp) h0⟩⟩
          | round l f t az b => exact ⟨h3.1, h3.2.mono fun e w'' he => by
              cases e with
              | returned v => exact he
              | panicked ch => exact hne _ _ _ (by simp) he
              | outgrown => obtain ⟨a0, w0, h0⟩ := he; exact ⟨a0, w0, hne _ _ _ (by simp) h0⟩⟩
          | _ => exact h3
        | halt x w' =>
          cases x with
          | panic v => exact hne _ _ _ (by simp) h3
          | _ => exact h3⟩
    · rename_i hw
      rw [if_neg hw] at h
      exact ⟨h.1, wpListIn_app h2 hne r _ w h.2⟩
theorem WP.regionY {id : Nat} {l1 l2 : List Oper} {o : Oper} {Q : Exit → St → Prop} {L : Nat} {fx x : Operand} {ts : Array TypeId} {K1 : St → Prop}
    (ho : o.op = .call ⟨.value fx, #[x], ts⟩) (hg : o.guard = none) (hdst : okd n o.dst)
    (hd : l1.all ndo = true ∧ l2.all ndo = true) (hQ : ∀ s, ¬ Q .outgrown s)
    (h1 : rvc P n (l1 ++ o :: l2).toArray l1 K1 s)
    (h2 : ∀ s1, K1 s1 → (og s1.env fx).2 = .lit (.func (.yield L) #[] #[]) ∧ (og s1.env fx).1 ∧ (ogs s1.env [x]).1 ∧
      YAct P L (ogs s1.env [x]).2 s1.H fun r H => rvc P n (l1 ++ o :: l2).toArray l2 (Q .normal) (({ s1 with H := H } : St).put o.dst r)) :
    WP P cx n (.region id (l1 ++ o :: l2).toArray false) Q s := by
  intro a w ok
  refine (wpIn_wide (n := 0)).1 ?_
  show (Code.region id (l1 ++ o :: l2).toArray false).wpIn (Rd none) 0 P _ a w
  refine wpIn_region_lit ?_
  have hno : ¬ LetsOut (fun e a' w' => ∃ s', Q e s' ∧ Ok cx n s' a' w') := no_out hQ
  refine wpListIn_app (R := fun e a' w' => match e with
    | .normal => ∃ s1, K1 s1 ∧ Ok cx n s1 a' w'
    | _ => False) ?_ (fun e a w he h => by cases e <;> first | exact absurd rfl he | exact h.elim) l1 a w
    (wpList_in (fun ⟨_, _, h⟩ => h) _ _ _ hd.1 (rvc_sound _ _ h1 _ (fun s a w hk ok => ⟨s, hk, ok⟩) a w ok))
  rintro a1 w1 ⟨s1, hk1, ok1⟩
  obtain ⟨e1, e2, e3, hy⟩ := h2 s1 hk1
  refine wpListIn_plain hg fun K hK => ?_
  have hfx := ok1.og e2
  rw [e1] at hfx
  have hfx := hfx.lit_inv
  have hlen := ogs_length (env := s1.env) [x]
  have c2 := run_yct (n := n) (vs := #[a1.eval x]) ok1 hy (by simp [hlen]) (fun i hi => by
    have := ok1.ogs e3 i (by rw [hlen] at hi; simpa using hi)
    simpa [List.getD] using this)
  obtain ⟨fn, tm, az, bd, y1, y2⟩ := c2
  refine ⟨fun _ _ => trivial, ?_⟩
  have hrun : (o.semAt (Rd none).round a1.eval).run P w1 = (Instr.yield L #[a1.eval x]).run P w1 := by
    show (execOp a1.eval o).run P w1 = _
    obtain ⟨dst, op, type, pos, after, guard⟩ := o
    simp only at ho
    subst ho
    simp only [execOp, resolve, hfx, Deferred.ofValue, Sem.run_bind, Sem.run_pure, Result.andThen_ok, invoke, List.map_toArray, List.map_cons, List.map_nil, Array.empty_append]
  rw [hrun, y1]
  refine ⟨fun h => (by cases h), y2.mono ?_⟩
  rintro e w' ⟨v, r, H', rfl, hk, ok', hr⟩
  refine hK _ _ (wpList_in hno _ _ _ hd.2 (rvc_sound _ _ hk _ (fun s a w hk ok => ⟨s, hk, ok⟩) _ _ (ok'.put hdst hr)))
theorem WP.regionZ {id : Nat} {l1 l2 : List Oper} {o : Oper} {Q : Exit → St → Prop} {L : Nat} {fx x : Operand} {ts : Array TypeId}
    (ho : o.op = .call ⟨.value fx, #[x], ts⟩) (hg : o.guard = none) (hdst : okd n o.dst)
    (hd : l1.all ndo = true ∧ l2.all ndo = true) (hQ : ∀ s, ¬ Q .outgrown s)
    (h : ∀ K : St → Prop, (∀ s1, ((og s1.env fx).2 = .lit (.func (.yield L) #[] #[]) ∧ (og s1.env fx).1 ∧ (ogs s1.env [x]).1 ∧
      YAct P L (ogs s1.env [x]).2 s1.H fun r H => rvc P n (l1 ++ o :: l2).toArray l2 (Q .normal) (({ s1 with H := H } : St).put o.dst r)) → K s1) → rvc P n (l1 ++ o :: l2).toArray l1 K s) :
    WP P cx n (.region id (l1 ++ o :: l2).toArray false) Q s :=
  WP.regionY ho hg hdst hd hQ (h _ fun _ h => h) (fun _ h => h)
end
end Go.Proofs.Yteoajodoejoccaa
