/-
  The walks and the laws that the statement leans on, part 5.
-/
import Derived.Test.YtdkkfgcdnojmaaaDoorS4
namespace Go.Proofs.YtdkkfgcdnojmaaaDoor
open Go
set_option linter.unusedSimpArgs false
set_option linter.unusedVariables false
/-! ## Contracts -/
inductive Hd {α : Type} (a : α) : Type | mk | mk2
def CallX (P : Program) (f : FuncId) (vs : Array Value) (w : World) (R : Ending → World → Prop) : Prop :=
  ((callFunc f vs).run P w = .ok (.enter f vs) w ∧ Calls P f vs w R) ∨ ∃ v w', (callFunc f vs).run P w = .ok (.value v) w' ∧ R (.returned v) w'
theorem CallX.mono {P : Program} {f : FuncId} {vs : Array Value} {w : World} {R R' : Ending → World → Prop} (h : CallX P f vs w R) (hR : ∀ e w', R e w' → R' e w') : CallX P f vs w R' := by
  rcases h with ⟨h1, h2⟩ | ⟨v, w', h1, h2⟩
  · exact .inl ⟨h1, h2.mono hR⟩
  · exact .inr ⟨v, w', h1, hR _ _ h2⟩
theorem CallX.upon {P : Program} {f : FuncId} {vs : Array Value} {w : World} {R : Ending → World → Prop} {o : Oper} {a : Act} {next : Act → World → Prop} {Q : Exit → Act → World → Prop} {r : Result Next}
    (h : CallX P f vs w R) (hr : r = (callFunc f vs).run P w) (hR : ∀ e w', R e w' → ∃ v, e = .returned v ∧ next (a.put o.dst v) w') : o.upon P a next Q r := by
  rcases h with ⟨h1, h2⟩ | ⟨v, w', h1, h2⟩
  · rw [hr, h1, Oper.upon_enter]
    refine h2.mono ?_
    intro e w' he
    obtain ⟨v, rfl, hn⟩ := hR e w' he
    exact hn
  · rw [hr, h1, Oper.upon_value]
    obtain ⟨v', e, hn⟩ := hR _ w' h2
    cases e
    exact hn
def ACt (P : Program) (f : FuncId) (args : List AV) (F : Hp) (post : AV → Hp → Prop) : Prop :=
  ∀ (cx : Cx) (vs : Array Value), cx.K = F.map (·.1) → cx.T = roK F → OkW cx F cx.w0 → vs.size = args.length → (∀ i, i < args.length → Rep cx.w0 cx.I (vs.getD i undef) (args.getD i .any)) →
    CallX P f vs cx.w0 fun e w' => ∃ v r F', e = .returned v ∧ post r F' ∧ OkW cx F' w' ∧ Rep w' (imm cx w' F') v r
def Fn (x : AV) : AV → Hp → Prop := fun r F' => r = x ∧ F' = []
def ExC {α : Type} (p : α → Prop) : Prop := ∃ x, p x
theorem ExC.mk {α : Type} {q p : α → Prop} {x : α} (h : q x) (hp : p x) : ExC fun x => q x ∧ p x := ⟨x, h, hp⟩
def CallV (P : Program) (f : FuncId) (args : List AV) (H : Hp) (post : AV → Hp → Prop) (d : Hd post := .mk) : Prop :=
  ∃ F R p, H.Perm (F ++ R) ∧ ACt P f args F p ∧ ∀ r F', p r F' → ((F' ++ R).map (·.1)).Nodup → post r (F' ++ R)
section
variable {P : Program} {cx : Cx} {n : Nat} {K : St → Prop} {s : St}
theorem ACt.mono {f : FuncId} {args : List AV} {F : Hp} {p q : AV → Hp → Prop} (h : ACt P f args F p) (hq : ∀ r F', p r F' → q r F') : ACt P f args F q :=
  fun cx vs h1 h1' h2 h3 h4 => (h cx vs h1 h1' h2 h3 h4).mono fun e w' ⟨v, r, F', a, b, c, d⟩ => ⟨v, r, F', a, hq r F' b, c, d⟩
theorem CallV.fn {f : FuncId} {args : List AV} {H : Hp} {x : AV} {post : AV → Hp → Prop} (h : ACt P f args [] (Fn x)) (hp : post x H) : CallV P f args H post :=
  ⟨[], H, Fn x, .refl _, h, fun r F' ⟨h1, h2⟩ _ => by subst h1 h2; exact hp⟩
theorem CallV.pure {f : FuncId} {args : List AV} {H : Hp} {p : AV → Hp → Prop} {post : AV → Hp → Prop} (h : ACt P f args [] p) (hp : ∀ r F', p r F' → post r (F' ++ H)) : CallV P f args H post :=
  ⟨[], H, p, .refl _, h, fun r F' hr _ => hp r F' hr⟩
theorem CallV.on {f : FuncId} {args : List AV} {H : Hp} {p : AV → Hp → Prop} {post : AV → Hp → Prop} (F R : Hp) (hP : H.Perm (F ++ R)) (h : ACt P f args F p) (hp : ∀ r F', p r F' → post r (F' ++ R)) : CallV P f args H post :=
  ⟨F, R, p, hP, h, fun r F' hr _ => hp r F' hr⟩
theorem CallV.get {f : FuncId} {args : List AV} {H : Hp} {p q : AV → Hp → Prop} (h : CallV P f args H p) (hq : ∀ r H', p r H' → q r H') : CallV P f args H q :=
  match h with
  | ⟨F, R, p', hP, hct, hp⟩ => ⟨F, R, p', hP, hct, fun r F' h1 h2 => hq r _ (hp r F' h1 h2)⟩
def DCt (P : Program) (f : FuncId) (args : List AV) (H : Hp) (x : AV) : Prop := CallV P f args H (fun r F' => r = x ∧ F'.Perm H)
theorem DCt.fn {f : FuncId} {args : List AV} {H : Hp} {x : AV} (h : ACt P f args [] (Fn x)) : DCt P f args H x := CallV.fn h ⟨rfl, .refl _⟩
theorem DCt.app {f : FuncId} {args : List AV} {H : Hp} {x : AV} (h : DCt P f args H x) (E : Hp) : DCt P f args (E ++ H) x := by
  obtain ⟨F, R, p, hP, hct, hp⟩ := h
  refine ⟨F, R ++ E, p, ?_, hct, fun r F' h1 h2 => ?_⟩
  · rw [← List.append_assoc]
    exact List.perm_append_comm.trans (hP.append_right E)
  · rw [← List.append_assoc] at h2 ⊢
    have hn : ((F' ++ R).map (·.1)).Nodup := by
      rw [List.map_append, List.nodup_append] at h2
      exact h2.1
    obtain ⟨e1, e2⟩ := hp r F' h1 hn
    exact ⟨e1, (e2.append_right E).trans List.perm_append_comm⟩
theorem imm_out {w : World} {F R : Hp} (hw : OkW cx (F ++ R) w) {b : Nat} (hb : imm cx w (F ++ R) b) : b ∉ F.map (·.1) ∨ b ∈ roK F := by
  by_cases hm : b ∈ F.map (·.1)
  · obtain ⟨x, hx, he⟩ := List.mem_map.1 hm
    cases hr : isRo x.2 with
    | true => exact .inr (roK_mem.2 ⟨x, hx, he, hr⟩)
    | false => exact absurd he (imm_key hw.keys hw.ro hb x (List.mem_append_left _ hx) hr)
  · exact .inl hm
theorem roK_lt {w : World} {F R : Hp} (hw : OkW cx (F ++ R) w) : ∀ b ∈ roK F, b < w.heap.size := fun b hb => by
  obtain ⟨x, hx, he, -⟩ := roK_mem.1 hb
  rw [← he]; exact keys_lt hw x (List.mem_append_left _ hx)
theorem call_frame {w w' : World} {F R F' : Hp} {I : Nat → Prop} (hI0 : ∀ b, I b → imm cx w (F ++ R) b) {hI : ∀ b, I b → b < w.heap.size ∧ (b ∉ F.map (·.1) ∨ b ∈ roK F)} {hT : ∀ b ∈ roK F, b < w.heap.size} (hw : OkW cx (F ++ R) w)
    (hw' : OkW ⟨w, I, F.map (·.1), roK F, hI, hT⟩ F' w') : OkW cx (F' ++ R) w' ∧ (∀ b, imm cx w (F ++ R) b → imm cx w' (F' ++ R) b ∧ w'.heap[b]? = w.heap[b]?) ∧
      ∀ b, imm ⟨w, I, F.map (·.1), roK F, hI, hT⟩ w' F' b → imm cx w' (F' ++ R) b := by
  have hnd := hw.nodup
  rw [List.map_append, List.nodup_append] at hnd
  obtain ⟨hn1, hn2, hn3⟩ := hnd
  have hsz := hw'.ext.size
  have hRlt : ∀ x ∈ R, x.1 < w.heap.size := fun x hx => keys_lt hw x (List.mem_append_right _ hx)
  have hRF : ∀ x ∈ R, x.1 ∉ F.map (·.1) := fun x hx hm => hn3 _ hm _ (List.mem_map_of_mem hx) rfl
  have hF'R : ∀ y ∈ F', ∀ x ∈ R, y.1 ≠ x.1 := by
    intro y hy x hx he
    rcases hw'.keys y hy with h | h
    · exact hRF x hx (he ▸ h)
    · have := hRlt x hx; (try simp only at h); omega
  have hIF : ∀ b, imm cx w (F ++ R) b → imm cx w' (F' ++ R) b ∧ w'.heap[b]? = w.heap[b]? := by
    intro b hb
    have hlt := imm_lt hw.ext.size hb
    refine ⟨?_, hw'.ext.blk b hlt (imm_out hw hb)⟩
    rcases hb with hb | ⟨h1, h2, h3⟩
    · exact .inl hb
    · refine .inr ⟨h1, by (try simp only at hsz); omega, fun x hx => ?_⟩
      rcases List.mem_append.1 hx with hx | hx
      · intro he
        rcases hw'.keys x hx with h | h
        · obtain ⟨y, hy, he2⟩ := List.mem_map.1 h
          exact h3 y (List.mem_append_left _ hy) (he2.trans he)
        · (try simp only at h); omega
      · exact h3 x (List.mem_append_right _ hx)
  have hIC : ∀ b, imm ⟨w, I, F.map (·.1), roK F, hI, hT⟩ w' F' b → imm cx w' (F' ++ R) b := by
    rintro b (hb | ⟨h1, h2, h3⟩)
    · exact (hIF b (hI0 b hb)).1
    · refine .inr ⟨?_, h2, fun x hx => ?_⟩
      · rcases h1 with h1 | h1
        · obtain ⟨x, hx, he⟩ := List.mem_map.1 h1
          rcases hw.keys x (List.mem_append_left _ hx) with h | h
          · exact .inl (he ▸ h)
          · exact .inr (he ▸ h)
        · have := hw.ext.size; (try simp only at h1); exact .inr (by omega)
      · rcases List.mem_append.1 hx with hx | hx
        · exact h3 x hx
        · intro he
          rcases h1 with h1 | h1
          · exact hRF x hx (he ▸ h1)
          · have := hRlt x hx; (try simp only at h1); omega
  refine ⟨⟨?_, fun x hx => ?_, fun x hx => ?_, ?_, fun x hx hxT => ?_⟩, hIF, hIC⟩
  · rw [List.map_append, List.nodup_append]
    refine ⟨hw'.nodup, hn2, fun a ha b hb he => ?_⟩
    obtain ⟨y, hy, rfl⟩ := List.mem_map.1 ha
    obtain ⟨x, hx, rfl⟩ := List.mem_map.1 hb
    exact hF'R y hy x hx he
  · rcases List.mem_append.1 hx with hx | hx
    · rcases hw'.keys x hx with h | h
      · obtain ⟨y, hy, he⟩ := List.mem_map.1 h
        rcases hw.keys y (List.mem_append_left _ hy) with h | h
        · exact .inl (he ▸ h)
        · exact .inr (he ▸ h)
      · have := hw.ext.size; (try simp only at h); exact .inr (by omega)
    · exact hw.keys x (List.mem_append_right _ hx)
  · rcases List.mem_append.1 hx with hx | hx
    · exact (hw'.mem x hx).mono (fun b hb => ⟨hIC b hb, rfl⟩) rfl
    · refine (hw.mem x (List.mem_append_right _ hx)).mono hIF (hw'.ext.blk _ (hRlt x hx) (.inl (hRF x hx)))
  · refine ⟨hw'.ext.os.trans hw.ext.os, hw'.ext.tape.trans hw.ext.tape, hw'.ext.output.trans hw.ext.output, Nat.le_trans hw.ext.size hsz, fun b hb hk => ?_⟩
    have hb2 : b < w.heap.size := by have := hw.ext.size; omega
    rw [hw'.ext.blk b hb2 ?_]
    · exact hw.ext.blk b hb hk
    · by_cases hm : b ∈ F.map (·.1)
      · obtain ⟨x, hx, he⟩ := List.mem_map.1 hm
        rcases hk with hk | hk
        · rcases hw.keys x (List.mem_append_left _ hx) with h | h
          · exact absurd (he ▸ h) hk
          · (try simp only at h); omega
        · exact .inr (roK_mem.2 ⟨x, hx, he, hw.ro x (List.mem_append_left _ hx) (he ▸ hk)⟩)
      · exact .inl hm
  · rcases List.mem_append.1 hx with hx | hx
    · rcases hw'.keys x hx with h | h
      · obtain ⟨y, hy, he⟩ := List.mem_map.1 h
        have h2 := hw.ro y (List.mem_append_left _ hy) (by rw [he]; exact hxT)
        exact hw'.ro x hx (roK_mem.2 ⟨y, hy, he, h2⟩)
      · have := hw.ext.size; have := cx.hT _ hxT; (try simp only at h); omega
    · exact hw.ro x (List.mem_append_right _ hx) hxT
theorem run_callV {f : FuncId} {args : List AV} {post : AV → Hp → Prop} {a : Act} {w : World} {vs : Array Value} (ok : Ok cx n s a w) (h : CallV P f args s.H post) (hs : vs.size = args.length)
    (hv : ∀ i, i < args.length → Rep w (imm cx w s.H) (vs.getD i undef) (args.getD i .any)) :
    CallX P f vs w fun e w' => ∃ v r H', e = .returned v ∧ post r H' ∧ Ok cx n { s with H := H' } a w' ∧ Rep w' (imm cx w' H') v r := by
  obtain ⟨F, R, p, hP, hct, hp⟩ := h
  have hw := ok.world.perm hP
  have hIp : ∀ b, imm cx w s.H b → imm cx w (F ++ R) b := fun b hb => (imm_perm hP).1 hb
  have hI : ∀ b, imm cx w s.H b → b < w.heap.size ∧ (b ∉ F.map (·.1) ∨ b ∈ roK F) := fun b hb => ⟨imm_lt hw.ext.size hb, imm_out hw (hIp b hb)⟩
  have hT := roK_lt hw
  have hnd := hw.nodup
  rw [List.map_append, List.nodup_append] at hnd
  have := hct ⟨w, imm cx w s.H, F.map (·.1), roK F, hI, hT⟩ vs rfl rfl ⟨hnd.1, fun x hx => .inl (List.mem_map_of_mem hx), fun x hx => (hw.mem x (List.mem_append_left _ hx)).mono (fun b hb => ⟨.inl ((imm_perm hP).2 hb), rfl⟩) rfl,
    ⟨rfl, rfl, rfl, Nat.le_refl _, fun _ _ _ => rfl⟩, roK_ro hnd.1⟩ hs hv
  refine this.mono ?_
  rintro e w' ⟨v, r, F', he, hpost, hw', hr⟩
  obtain ⟨c1, c2, c3⟩ := call_frame hIp hw hw'
  exact ⟨v, r, F' ++ R, he, hp r F' hpost c1.nodup, ok.world_to c1 (fun b hb => c2 b (hIp b hb)), hr.mono fun b hb => ⟨c3 b hb, rfl⟩⟩
theorem run_dct {f : FuncId} {args : List AV} {x : AV} {a : Act} {w : World} {vs : Array Value} (ok : Ok cx n s a w) (h : DCt P f args s.H x) (hs : vs.size = args.length)
    (hv : ∀ i, i < args.length → Rep w (imm cx w s.H) (vs.getD i undef) (args.getD i .any)) :
    CallX P f vs w fun e w' => ∃ v, e = .returned v ∧ Rep w' (imm cx w' s.H) v x ∧ OkW cx s.H w' ∧ ∀ c, imm cx w s.H c → imm cx w' s.H c ∧ w'.heap[c]? = w.heap[c]? := by
  obtain ⟨F, R, p, hP, hct, hp⟩ := h
  have hw := ok.world.perm hP
  have hIp : ∀ b, imm cx w s.H b → imm cx w (F ++ R) b := fun b hb => (imm_perm hP).1 hb
  have hI : ∀ b, imm cx w s.H b → b < w.heap.size ∧ (b ∉ F.map (·.1) ∨ b ∈ roK F) := fun b hb => ⟨imm_lt hw.ext.size hb, imm_out hw (hIp b hb)⟩
  have hT := roK_lt hw
  have hnd := hw.nodup
  rw [List.map_append, List.nodup_append] at hnd
  have := hct ⟨w, imm cx w s.H, F.map (·.1), roK F, hI, hT⟩ vs rfl rfl ⟨hnd.1, fun x hx => .inl (List.mem_map_of_mem hx), fun x hx => (hw.mem x (List.mem_append_left _ hx)).mono (fun b hb => ⟨.inl ((imm_perm hP).2 hb), rfl⟩) rfl,
    ⟨rfl, rfl, rfl, Nat.le_refl _, fun _ _ _ => rfl⟩, roK_ro hnd.1⟩ hs hv
  refine this.mono ?_
  rintro e w' ⟨v, r, F', he, hpost, hw', hr⟩
  obtain ⟨c1, c2, c3⟩ := call_frame hIp hw hw'
  obtain ⟨rfl, hq⟩ := hp r F' hpost c1.nodup
  exact ⟨v, he, hr.mono fun b hb => ⟨(imm_perm hq).1 (c3 b hb), rfl⟩, c1.perm hq, fun c hc => ⟨(imm_perm hq).1 (c2 c (hIp c hc)).1, (c2 c (hIp c hc)).2⟩⟩
/-! ## Operations that change memory, as formulas -/
def elk (P : Program) (T : TypeId) : Option IntKind :=
  match P.underlying T with
  | some (.slice e) => match P.underlying e with
    | some (.int k) => some k
    | _ => none
  | _ => none
def rowMB (k : Option IntKind) (cs : List AV) (sz : Nat) (ty : TypeId) : MB :=
  match k with
  | some k => match intsA k cs with
    | some zs => .zs k zs sz ty
    | none => .cells cs sz ty
  | none => .cells cs sz ty
def plN (sz : Nat) : Nat → Nat → List (Nat × Nat)
  | 0, _ => []
  | n + 1, k => (k * sz, sz) :: plN sz n (k + 1)
/-! Marks on what comes next, for the walk's driver: a new block's number; what is known of it; two ways on; a case. -/
structure Nu (p : Nat → Prop) : Prop where
  out : ∀ b, p b
structure Fr (p q : Prop) (d : Hd q := .mk) : Prop where
  out : p → q
structure Two (p q : Prop) : Prop where
  fst : p
  snd : q
structure Cs (p q : Prop) (d : Hd q := .mk) : Prop where
  out : p → q
def appZ (H : Hp) (e bytes b n cap s0 ty : Nat) (k : IntKind) (zs : List Int) (p : Prop) (ys : List Int) (K : AV → Hp → Prop) : Prop :=
  p ∧ ty = e ∧ zs.length = n ∧ cap = s0 ∧ cap ≤ maxLen ∧ n + ys.length ≤ maxLen ∧ (n + ys.length) * bytes ≤ 140737488355328 ∧
    Nu fun b' => Nu fun cap' => Fr (n + ys.length ≤ cap' ∧ cap' ≤ maxLen ∧ freshBut H b b') (K (ms b' 0 (n + ys.length) cap') (hrep H b b' (.zs k (zs ++ ys) cap' e)))
def appC (H : Hp) (e sz bytes b n cap s0 ty : Nat) (cs : List AV) (p : Prop) (m : Nat) (ds : List AV) (K : AV → Hp → Prop) : Prop :=
  p ∧ ty = e ∧ cs.length = n * sz ∧ cap * sz = s0 ∧ cap ≤ maxLen ∧ ds.all oneC = true ∧ n + m ≤ maxLen ∧ (n + m) * bytes ≤ 140737488355328 ∧
    Nu fun b' => Nu fun cap' => Fr (n + m ≤ cap' ∧ cap' ≤ maxLen ∧ freshBut H b b') (K (ms b' 0 (n + m) cap') (hrep H b b' (.cells (cs ++ ds) (cap' * sz) e)))
def srcB : AV → Option Nat
  | .lit (.slice (some ⟨b, _, none⟩) _ _) => some b
  | _ => none
def appS (H : Hp) (e sz bytes b n cap s0 ty : Nat) (cs : List AV) (p : Prop) (m : Nat) (ds : List AV) (K : AV → Hp → Prop) : Prop :=
  p ∧ ty = e ∧ cap * sz = s0 ∧ cap ≤ maxLen ∧ n + m ≤ cap ∧ (n + m) * bytes ≤ 140737488355328 ∧ (stL (.cells cs s0 ty) (n * sz) ds).1 ∧
    K (ms b 0 (n + m) cap) (hset H b (stL (.cells cs s0 ty) (n * sz) ds).2)
def appNZ (H : Hp) (e bytes : Nat) (k : IntKind) (p : Prop) (ys : List Int) (K : AV → Hp → Prop) : Prop :=
  p ∧ ys.length ≤ maxLen ∧ ys.length * bytes ≤ 140737488355328 ∧ Two (Cs (ys.length = 0) (K (.lit (.slice none 0 0)) H))
    (Cs (0 < ys.length) (Nu fun b' => Nu fun cap' => Fr (ys.length ≤ cap' ∧ cap' ≤ maxLen ∧ fresh H b') (K (ms b' 0 ys.length cap') ((b', .zs k ys cap' e) :: H))))
def appNC (H : Hp) (e sz bytes : Nat) (p : Prop) (m : Nat) (ds : List AV) (K : AV → Hp → Prop) : Prop :=
  p ∧ ds.all oneC = true ∧ m ≤ maxLen ∧ m * bytes ≤ 140737488355328 ∧ Two (Cs (m = 0) (K (.lit (.slice none 0 0)) H))
    (Cs (0 < m) (Nu fun b' => Nu fun cap' => Fr (m ≤ cap' ∧ cap' ≤ maxLen ∧ fresh H b') (K (ms b' 0 m cap') ((b', .cells ds (cap' * sz) e) :: H))))
def appE (P : Program) (H : Hp) (T u : TypeId) (dst src : AV) (K : AV → Hp → Prop) : Prop :=
  uOk P u src ∧ match apT P T with
  | none => False
  | some (e, sz, bytes) => match dst with
    | .lit (.slice (some ⟨b, off, none⟩) n cap) => off = 0 ∧ match hget H b with
      | some (.zs k zs s0 ty) => sz = 1 ∧ appZ H e bytes b n cap s0 ty k zs (srcZ P T H k src).1 (srcZ P T H k src).2 K
      | some (.cells cs s0 ty) => match srcB src with
        | some b' => if b' = b then appS H e sz bytes b n cap s0 ty cs (srcC H sz src).1 (srcC H sz src).2.1 (srcC H sz src).2.2 K
            else appC H e sz bytes b n cap s0 ty cs (srcC H sz src).1 (srcC H sz src).2.1 (srcC H sz src).2.2 K
        | none => appC H e sz bytes b n cap s0 ty cs (srcC H sz src).1 (srcC H sz src).2.1 (srcC H sz src).2.2 K
      | _ => False
    | .lit (.slice none 0 0) => match elk P T with
      | some k => sz = 1 ∧ appNZ H e bytes k (srcZ P T H k src).1 (srcZ P T H k src).2 K
      | none => appNC H e sz bytes (srcC H sz src).1 (srcC H sz src).2.1 (srcC H sz src).2.2 K
    | _ => False
theorem append_nil {H : Hp} {t u ty e : TypeId} {sz bytes m : Nat} {x : Value} {news : List Value} {ds : List AV} {w : World} (hT : apT P t = some (e, sz, bytes))
    (hw : OkW cx H w) (hA : ∀ i z, P.underlying t = some (.slice e) → P.info? e = some i → i.zero = some z → z.cells.size = i.size → i.size = sz → ApR P w t u e i z x m news) (hl : news.length = ds.length)
    (hr : ∀ i (hi : i < ds.length), Rep w (imm cx w H) (news.getD i undef) ds[i]) (hm : 0 < m) (h63 : m ≤ maxLen) (hb : m * bytes ≤ 140737488355328) :
    ∃ b' cap' w', (Builtin.append_ #[t, u] ty #[.slice none 0 0, x]).run P w = .ok (.slice (some ⟨b', 0, none⟩) m cap') w' ∧
      m ≤ cap' ∧ cap' ≤ maxLen ∧ fresh H b' ∧ OkW cx ((b', .cells ds (cap' * sz) e) :: H) w' ∧
      ∀ c, imm cx w H c → imm cx w' ((b', .cells ds (cap' * sz) e) :: H) c ∧ w'.heap[c]? = w.heap[c]? := by
  unfold apT at hT
  split at hT
  · rename_i e' ht
    split at hT
    · rename_i i hi
      split at hT
      · rename_i z hz
        split at hT
        case isFalse => cases hT
        rename_i hzs
        cases hT
        have hs := hA i z ht hi hz hzs rfl
        have hso : SrcOk P w i.size (.slice none 0 0) 0 [] := srcOk_empty
        have hrun := hs.grow (ty := ty) hso (by omega) (by simp only [maxLen] at h63; omega) (by simpa using hb)
        have hge := grownCap_ge w (0 + m) 0 e
        have hcm' := grownCap_le_maxLen w (0 + m) 0 e (by omega)
        generalize grownCap w (0 + m) 0 e = cap' at hrun hge hcm'
        simp only [Nat.zero_add] at hrun hge
        generalize hrow : ([] : List Value).toArray ++ news.toArray ++ Builtin.zeroCells z.cells (cap' - m) = row at hrun
        have hrs : row.size = cap' * i.size := by
          rw [← hrow]
          simp only [Array.size_append, List.size_toArray, List.length_nil, size_zeroCells, hzs, hs.size, Nat.zero_add, ← Nat.add_mul]
          congr 1
          omega
        have hpush := hw.push (w' := w.drew.alloc (.cells row e)) (ob := .cells row e) (m := .cells ds (cap' * i.size) e) rfl rfl rfl rfl
          ⟨row, by rw [heap_alloc]; exact Array.getElem?_push_size, hrs, by rw [← hrs, ← hrow]; simp; omega, fun j hj => by
            have hI := imm_push (m := .cells ds (cap' * i.size) e) hw (heap_alloc w.drew (.cells row e))
            have e1 : row.getD j undef = news.getD j undef := by
              rw [← hrow]
              simp [List.getD, Array.getElem?_append, hl, hj]
            rw [e1]
            exact (hr j hj).mono hI⟩
        refine ⟨w.heap.size, cap', _, hrun, hge, hcm', fun y hy => by have := keys_lt hw y hy; omega, hpush.1, hpush.2⟩
      · cases hT
    · cases hT
  · cases hT
theorem ApR_src {w : World} {T u e sz : Nat} {x : Value} {a : AV} {m : Nat} {news : List Value} (hu : uOk P u a) (hni : ∀ k l, a ≠ .lit (.int k l)) (hs : SrcOk P w sz x m news) :
    ∀ i z, P.underlying T = some (.slice e) → P.info? e = some i → i.zero = some z → z.cells.size = i.size → i.size = sz → ApR P w T u e i z x m news := by
  intro i z ht hi hz hzs his
  have hu' : ∃ du, P.underlying u = some du ∧ (du = .string ∨ ∃ e', du = .slice e') := by
    unfold uOk at hu
    split at hu
    · exact absurd rfl (hni _ _)
    · rcases hu with h | ⟨e, h⟩
      · exact ⟨_, h, .inl rfl⟩
      · exact ⟨_, h, .inr ⟨_, rfl⟩⟩
  obtain ⟨du, hu1, hu2⟩ := hu'
  exact ApR.of_src ht hu1 hu2 hi hz (by rw [his]; exact hs)
theorem srcZ_ap {H : Hp} {w : World} {T u e bytes : Nat} {k : IntKind} {v : Value} {x : AV} (hw : OkW cx H w) (hv : Rep w (imm cx w H) v x) (hu : uOk P u x) (hT : apT P T = some (e, 1, bytes)) (h : (srcZ P T H k x).1) :
    ∀ i z, P.underlying T = some (.slice e) → P.info? e = some i → i.zero = some z → z.cells.size = i.size → i.size = 1 → ApR P w T u e i z v (srcZ P T H k x).2.length ((srcZ P T H k x).2.map (Value.int k)) := by
  intro i z ht hi hz hzs his
  by_cases hni : ∀ k l, x ≠ .lit (.int k l)
  · have hs := srcZ_sound (P := P) (T := T) hw hv hni (k := k) (Prod.eta _).symm h
    exact ApR_src hu hni hs i z ht hi hz hzs his
  · have : ∃ k l, x = .lit (.int k l) := by
      apply Classical.byContradiction
      intro hc
      exact hni fun k l he => hc ⟨k, l, he⟩
    obtain ⟨k', l, rfl⟩ := this
    have := hv.lit_inv; subst this
    obtain ⟨ku, hku⟩ := hu
    simp only [srcZ, srcM] at h ⊢
    cases hm : mkz P T with
    | none => rw [hm] at h; exact h.elim
    | some q =>
      obtain ⟨e2, b2, k2⟩ := q
      rw [hm] at h
      obtain ⟨rfl, h0, h1⟩ := h
      have hzk : z = .int k2 0 := by
        unfold mkz at hm
        rw [ht] at hm
        simp only [hi, hz] at hm
        split at hm
        · rename_i k3 hz3
          split at hm
          · cases hm; simpa using hz3
          · exact absurd his ‹_›
        · cases hm
      subst hzk
      have hap := ApR.zeros (P := P) (w := w) (k := k') ht hku hi hz hzs h0 h1
      have e1 : (Builtin.zeroCells (Value.int k2 0).cells l.toNat).toList = (List.replicate l.toNat (0 : Int)).map (Value.int k2) := by
        apply List.ext_getElem
        · simp [Builtin.zeroCells, Value.cells]
        · intro j h2 h3
          simp [Builtin.zeroCells, Value.cells, Nat.mod_one]
      rw [e1] at hap
      simpa using hap
theorem run_appE {H : Hp} {T u ty : TypeId} {dst src : AV} {Kp : AV → Hp → Prop} {a : Act} {w : World} {vd vx : Value} (hw : OkW cx H w) (hd : Rep w (imm cx w H) vd dst) (hx : Rep w (imm cx w H) vx src)
    (h : appE P H T u dst src Kp) : ∃ v x H' w', (Builtin.append_ #[T, u] ty #[vd, vx]).run P w = .ok v w' ∧ Kp x H' ∧ OkW cx H' w' ∧ (∀ c, imm cx w H c → imm cx w' H' c ∧ w'.heap[c]? = w.heap[c]?) ∧ v = (match x with | .lit v => v | _ => undef) ∧ ∃ v', x = .lit v' := by
  obtain ⟨hu, h⟩ := h
  cases hT : apT P T with
  | none => rw [hT] at h; exact h.elim
  | some p =>
    obtain ⟨e, sz, bytes⟩ := p
    rw [hT] at h
    simp only at h
    split at h
    · rename_i b off n cap
      obtain ⟨rfl, h⟩ := h
      have := hd.lit_inv; subst this
      cases hg : hget H b with
      | none => rw [hg] at h; exact h.elim
      | some mb =>
        rw [hg] at h
        cases mb with
        | zs k zs s0 ty0 =>
          obtain ⟨rfl, h⟩ := h
          obtain ⟨hp, rfl, hn, rfl, hcm, h63, hby, hK⟩ := h
          have hsrc := srcZ_ap (P := P) (T := T) (u := u) hw hx hu (k := k) hT hp
          have hmem := hget_mem hg
          obtain ⟨hw1, hI1⟩ := hw.conv (m' := .cells (zs.map (iv k)) cap ty0) hmem (fun I hm => hm.to_cells)
          obtain ⟨b', cap', w', r1, r2, r3, r4, r5, r6⟩ := append_own (P := P) (T0 := 0) (ty := ty) (ds := (srcZ P T H k src).2.map (iv k)) (cs := zs.map (iv k)) hT hw1 (hset_get hg) (by simp [hn]) (by omega) hcm hsrc (by simp)
            (fun i hi => by
              have hi' : i < (srcZ P T H k src).2.length := by simpa using hi
              simp only [List.getElem_map]
              exact Rep.of_eq (getD_map_lt _ _ _ _ hi')) (by rw [List.all_eq_true]; intro y hy; obtain ⟨z, _, rfl⟩ := List.mem_map.1 hy; rfl) h63 hby
          have hrep2 : ∀ H0 : Hp, hrep (hset H0 b (.cells (zs.map (iv k)) cap ty0)) b b' (.cells (zs.map (iv k) ++ (srcZ P T H k src).2.map (iv k)) (cap' * 1) ty0) = hrep H0 b b' (.cells ((zs ++ (srcZ P T H k src).2).map (iv k)) cap' ty0) := by
            intro H0
            rw [Nat.mul_one, ← List.map_append]
            induction H0 with
            | nil => rfl
            | cons p r ih =>
              obtain ⟨b0, m0⟩ := p
              simp only [hset, hrep]
              split
              · rename_i he; subst he; simp [hrep]
              · rename_i he; simp only [hrep, if_neg he]; rw [ih]
          rw [hrep2] at r5 r6
          have hfr : freshBut H b b' := by
            intro x hx
            have : x.1 ∈ (hset H b (.cells (zs.map (iv k)) cap ty0)).map (·.1) := by rw [hset_keys]; exact List.mem_map_of_mem hx
            obtain ⟨y, hy, he⟩ := List.mem_map.1 this
            rw [← he]
            exact r4 y hy
          have hmem2 : ∀ H0 : Hp, hget H0 b = some (.zs k zs cap ty0) → (b', MB.cells ((zs ++ (srcZ P T H k src).2).map (iv k)) cap' ty0) ∈ hrep H0 b b' (.cells ((zs ++ (srcZ P T H k src).2).map (iv k)) cap' ty0) := by
            intro H0 h0
            induction H0 with
            | nil => cases h0
            | cons p r ih =>
              obtain ⟨b0, m0⟩ := p
              simp only [hget, hrep] at h0 ⊢
              split at h0
              · rename_i he; rw [if_pos he]; exact List.mem_cons_self ..
              · rename_i he; rw [if_neg he]; exact List.mem_cons_of_mem _ (ih h0)
          obtain ⟨hw2, hI2⟩ := r5.conv (m' := .zs k (zs ++ (srcZ P T H k src).2) cap' ty0) (hmem2 H hg) (fun I hm => hm.to_zs)
          have hset2 : ∀ H0 : Hp, (∀ x ∈ H0, x.1 = b ∨ (x.1 ≠ b' ∧ b' ≠ x.1)) → hset (hrep H0 b b' (.cells ((zs ++ (srcZ P T H k src).2).map (iv k)) cap' ty0)) b' (.zs k (zs ++ (srcZ P T H k src).2) cap' ty0) = hrep H0 b b' (.zs k (zs ++ (srcZ P T H k src).2) cap' ty0) := by
            intro H0 hf
            induction H0 with
            | nil => rfl
            | cons p r ih =>
              obtain ⟨b0, m0⟩ := p
              simp only [hrep]
              split
              · rename_i he; simp [hset]
              · rename_i he
                have h1 := hf (b0, m0) (List.mem_cons_self ..)
                have h2 : b' ≠ b0 := by rcases h1 with h1 | h1; exact absurd h1.symm he; exact h1.2
                simp only [hset, if_neg h2]; rw [ih fun x hx => hf x (List.mem_cons_of_mem _ hx)]
          rw [hset2 H hfr] at hw2 hI2
          exact ⟨_, _, _, w', r1, ((hK.out b').out cap').out ⟨r2, r3, hfr⟩, hw2, fun c hc => ⟨(hI2 c).1 (r6 c ((hI1 c).1 hc)).1, (r6 c ((hI1 c).1 hc)).2⟩, rfl, _, rfl⟩
        | cells cs s0 ty0 =>
          by_cases hsb : srcB src = some b
          · rw [hsb] at h
            simp only [if_true] at h
            obtain ⟨hp, rfl, rfl, hcm, hroom, hby, hst, hK⟩ := h
            have hni : ∀ k l, src ≠ .lit (.int k l) := by
              rintro k l rfl
              exact hp.elim
            obtain ⟨news, n1, n2, n3⟩ := srcC_sound (P := P) hw hx (sz := sz) (show srcC H sz src = ((srcC H sz src).1, (srcC H sz src).2.1, (srcC H sz src).2.2) from rfl) hp
            have ht' : ∃ i z, P.underlying T = some (.slice ty0) ∧ P.info? ty0 = some i ∧ i.zero = some z ∧ z.cells.size = i.size ∧ i.size = sz ∧ i.bytes = bytes := by
              unfold apT at hT
              split at hT
              · rename_i e' ht
                split at hT
                · rename_i i hi
                  split at hT
                  · rename_i z hz
                    split at hT
                    · rename_i hzs; cases hT; exact ⟨_, _, ht, hi, hz, hzs, rfl, rfl⟩
                    · cases hT
                  · cases hT
                · cases hT
              · cases hT
            obtain ⟨i, z, ht, hi, hz, hzs, his, hbs⟩ := ht'
            have hs := ApR_src hu hni n1 i z ht hi hz hzs his
            obtain ⟨w', r1, r2, r3⟩ := run_storeL (P := P) (m := .cells cs (cap * sz) ty0) (off := n * sz) hw hg n2 n3 hst
            refine ⟨_, _, _, w', ?_, hK, r2, r3, rfl, _, rfl⟩
            rw [hs.room (ty := ty) hroom (by rw [hbs]; exact hby), his, r1]; rfl
          have h : appC H e sz bytes b n cap s0 ty0 cs (srcC H sz src).1 (srcC H sz src).2.1 (srcC H sz src).2.2 Kp := by
            cases hsr : srcB src with
            | none => rw [hsr] at h; exact h
            | some b' =>
              rw [hsr] at h
              simp only at h
              rw [if_neg (fun e => hsb (by rw [hsr, e]))] at h
              exact h
          obtain ⟨hp, rfl, hn, rfl, hcm, hone, h63, hby, hK⟩ := h
          have hni : ∀ k l, src ≠ .lit (.int k l) := by
            rintro k l rfl
            exact hp.elim
          obtain ⟨news, n1, n2, n3⟩ := srcC_sound (P := P) hw hx (sz := sz) (show srcC H sz src = ((srcC H sz src).1, (srcC H sz src).2.1, (srcC H sz src).2.2) from rfl) hp
          obtain ⟨b', cap', w', r1, r2, r3, r4, r5, r6⟩ := append_own (P := P) (T0 := 0) (ty := ty) hT hw hg hn rfl hcm (ApR_src hu hni n1) n2 n3 hone h63 hby
          exact ⟨_, _, _, w', r1, ((hK.out b').out cap').out ⟨r2, r3, r4⟩, r5, r6, rfl, _, rfl⟩
        | obj o => exact h.elim
        | ro k0 zs0 s00 ty0 => exact h.elim
    · have hdv := hd.lit_inv; subst hdv
      have ht' : ∃ i z, P.underlying T = some (.slice e) ∧ P.info? e = some i ∧ i.zero = some z ∧ z.cells.size = i.size ∧ i.size = sz := by
        unfold apT at hT
        split at hT
        · rename_i e' ht
          split at hT
          · rename_i i hi
            split at hT
            · rename_i z hz
              split at hT
              · rename_i hzs; cases hT; exact ⟨_, _, ht, hi, hz, hzs, rfl⟩
              · cases hT
            · cases hT
          · cases hT
        · cases hT
      obtain ⟨i, z, ht, hi, hz, hzs, his⟩ := ht'
      split at h
      · rename_i k hk
        obtain ⟨rfl, hp, h63, hby, ⟨hK0, hK1⟩⟩ := h
        have hsrc := srcZ_ap (P := P) (T := T) (u := u) hw hx hu (k := k) hT hp
        by_cases hm : 0 < (srcZ P T H k src).2.length
        · obtain ⟨b', cap', w', r1, r2, r3, r4, r5, r6⟩ := append_nil (P := P) (ty := ty) (ds := (srcZ P T H k src).2.map (iv k)) hT hw hsrc (by simp)
            (fun i hi => by
              have hi' : i < (srcZ P T H k src).2.length := by simpa using hi
              simp only [List.getElem_map]
              exact Rep.of_eq (getD_map_lt _ _ _ _ hi')) hm h63 hby
          obtain ⟨hw2, hI2⟩ := r5.conv (m' := .zs k (srcZ P T H k src).2 (cap' * 1) e) (List.mem_cons_self ..) (fun I hm => hm.to_zs)
          simp only [hset, if_true, Nat.mul_one] at hw2 hI2
          simp only [Nat.mul_one] at r6
          exact ⟨_, _, _, w', r1, (((hK1.out hm).out b').out cap').out ⟨r2, r3, r4⟩, hw2, fun c hc => ⟨(hI2 c).1 (r6 c hc).1, (r6 c hc).2⟩, rfl, _, rfl⟩
        · have h0 : (srcZ P T H k src).2.length = 0 := by omega
          have h0' : (srcZ P T H k src).2 = [] := List.eq_nil_of_length_eq_zero h0
          have hrun := (hsrc i z ht hi hz hzs his).none h0 (ty := ty) (cap := 0)
          exact ⟨_, _, _, w, hrun, hK0.out h0, hw, fun c hc => ⟨hc, rfl⟩, rfl, _, rfl⟩
      · obtain ⟨hp, hone, h63, hby, ⟨hK0, hK1⟩⟩ := h
        have hni : ∀ k l, src ≠ .lit (.int k l) := by
          rintro k l rfl
          exact hp.elim
        obtain ⟨news, n1, n2, n3⟩ := srcC_sound (P := P) hw hx (sz := sz) (show srcC H sz src = ((srcC H sz src).1, (srcC H sz src).2.1, (srcC H sz src).2.2) from rfl) hp
        by_cases hm : 0 < (srcC H sz src).2.1
        · obtain ⟨b', cap', w', r1, r2, r3, r4, r5, r6⟩ := append_nil (P := P) (ty := ty) hT hw (ApR_src hu hni n1) n2 n3 hm h63 hby
          exact ⟨_, _, _, w', r1, (((hK1.out hm).out b').out cap').out ⟨r2, r3, r4⟩, r5, r6, rfl, _, rfl⟩
        · have h0 : (srcC H sz src).2.1 = 0 := by omega
          have hrun := (ApR_src hu hni n1 i z ht hi hz hzs his).none h0 (ty := ty) (cap := 0)
          exact ⟨_, _, _, w, hrun, hK0.out h0, hw, fun c hc => ⟨hc, rfl⟩, rfl, _, rfl⟩
    · exact h.elim
end
end Go.Proofs.YtdkkfgcdnojmaaaDoor
