/-
  Contracts, calls, and the walk over a list of operations as one formula, with its law; the way in and out of a function.
-/
import Derived.Test.YtndpkahhmgnhpaaLayH
namespace Go.Proofs.Ytndpkahhmgnhpaa
open Go
set_option linter.unusedSimpArgs false
set_option linter.unusedVariables false

/-! ## Contracts -/

def Callable (P : Program) (f : FuncId) : Prop := ∀ (args : Array Value) (w : World), (callFunc f args).run P w = .ok (.enter f args) w

/-- What a call of f does: of these arguments, over these blocks of the caller's, it returns, and what it returns and leaves there is so. -/
def ACt (P : Program) (f : FuncId) (args : List AV) (F : Hp) (post : AV → Hp → Prop) : Prop :=
  Callable P f ∧ ∀ (cx : Cx) (vs : Array Value), cx.K = F.map (·.1) → OkW cx F cx.w0 → vs.size = args.length → (∀ i, i < args.length → Rep cx.w0 cx.I (vs.getD i undef) (args.getD i .any)) →
    Calls P f vs cx.w0 fun e w' => ∃ v r F', e = .returned v ∧ post r F' ∧ OkW cx F' w' ∧ Rep w' (imm cx w' F') v r

/-- It computes x, and that is all. -/
def Fn (x : AV) : AV → Hp → Prop := fun r F' => r = x ∧ F' = []

/-- There is one; the walk's simp does not look behind this name. -/
def ExC {α : Type} (p : α → Prop) : Prop := ∃ x, p x

theorem ExC.mk {α : Type} {q p : α → Prop} {x : α} (h : q x) (hp : p x) : ExC fun x => q x ∧ p x := ⟨x, h, hp⟩

@[congr] theorem ExC_congr {α : Type} {p : α → Prop} : ExC p = ExC p := rfl

def CallV (P : Program) (f : FuncId) (args : List AV) (H : Hp) (post : AV → Hp → Prop) : Prop :=
  ∃ F R p, H.Perm (F ++ R) ∧ ACt P f args F p ∧ ∀ r F', p r F' → post r (F' ++ R)

@[congr] theorem CallV_congr {P : Program} {f : FuncId} {args args' : List AV} {H H' : Hp} {post : AV → Hp → Prop} (h1 : args = args') (h2 : H = H') : CallV P f args H post = CallV P f args' H' post := by rw [h1, h2]

section
variable {P : Program} {cx : Cx} {n : Nat} {K : St → Prop} {s : St}

theorem ACt.mono {f : FuncId} {args : List AV} {F : Hp} {p q : AV → Hp → Prop} (h : ACt P f args F p) (hq : ∀ r F', p r F' → q r F') : ACt P f args F q :=
  ⟨h.1, fun cx vs h1 h2 h3 h4 => (h.2 cx vs h1 h2 h3 h4).mono fun e w' ⟨v, r, F', a, b, c, d⟩ => ⟨v, r, F', a, hq r F' b, c, d⟩⟩

theorem CallV.fn {f : FuncId} {args : List AV} {H : Hp} {x : AV} {post : AV → Hp → Prop} (h : ACt P f args [] (Fn x)) (hp : post x H) : CallV P f args H post :=
  ⟨[], H, Fn x, .refl _, h, fun r F' ⟨h1, h2⟩ => by subst h1 h2; exact hp⟩

theorem CallV.pure {f : FuncId} {args : List AV} {H : Hp} {p : AV → Hp → Prop} {post : AV → Hp → Prop} (h : ACt P f args [] p) (hp : ∀ r F', p r F' → post r (F' ++ H)) : CallV P f args H post :=
  ⟨[], H, p, .refl _, h, hp⟩

theorem CallV.on {f : FuncId} {args : List AV} {H : Hp} {p : AV → Hp → Prop} {post : AV → Hp → Prop} (F R : Hp) (hP : H.Perm (F ++ R)) (h : ACt P f args F p) (hp : ∀ r F', p r F' → post r (F' ++ R)) : CallV P f args H post :=
  ⟨F, R, p, hP, h, hp⟩

/-- The callee's blocks among the caller's. -/
theorem call_frame {w w' : World} {F R F' : Hp} {I : Nat → Prop} (hI0 : ∀ b, I b → imm cx w (F ++ R) b) (hI : ∀ b, I b → b < w.heap.size ∧ b ∉ F.map (·.1)) (hw : OkW cx (F ++ R) w)
    (hw' : OkW ⟨w, I, F.map (·.1), hI⟩ F' w') : OkW cx (F' ++ R) w' ∧ (∀ b, imm cx w (F ++ R) b → imm cx w' (F' ++ R) b ∧ w'.heap[b]? = w.heap[b]?) ∧
      ∀ b, imm ⟨w, I, F.map (·.1), hI⟩ w' F' b → imm cx w' (F' ++ R) b := by
  have hnd := hw.nodup
  rw [List.map_append, List.nodup_append] at hnd
  obtain ⟨hn1, hn2, hn3⟩ := hnd
  have hsz := hw'.ext.size
  have hRlt : ∀ x ∈ R, x.1 < w.heap.size := fun x hx => keys_lt hw x (List.mem_append_right _ hx)
  have hRF : ∀ x ∈ R, x.1 ∉ F.map (·.1) := fun x hx hm => hn3 _ hm _ (List.mem_map_of_mem hx) rfl
  have hF'R : ∀ y ∈ F', ∀ x ∈ R, y.1 ≠ x.1 := by
    intro y hy x hx he
    rcases hw'.keys y hy with h | h
    · exact hRF x hx (he ▸ h)
    · have := hRlt x hx; (try simp only at h); omega
  have hIF : ∀ b, imm cx w (F ++ R) b → imm cx w' (F' ++ R) b ∧ w'.heap[b]? = w.heap[b]? := by
    intro b hb
    have hlt := imm_lt hw.ext.size hb
    have hkey := imm_key hw.keys hb
    have hbF : b ∉ F.map (·.1) := fun hm => by
      obtain ⟨x, hx, he⟩ := List.mem_map.1 hm
      exact hkey x (List.mem_append_left _ hx) he
    refine ⟨?_, hw'.ext.blk b hlt hbF⟩
    rcases hb with hb | ⟨h1, h2, h3⟩
    · exact .inl hb
    · refine .inr ⟨h1, by (try simp only at hsz); omega, fun x hx => ?_⟩
      rcases List.mem_append.1 hx with hx | hx
      · intro he
        rcases hw'.keys x hx with h | h
        · exact hbF (he ▸ h)
        · (try simp only at h); omega
      · exact h3 x (List.mem_append_right _ hx)
  have hIC : ∀ b, imm ⟨w, I, F.map (·.1), hI⟩ w' F' b → imm cx w' (F' ++ R) b := by
    rintro b (hb | ⟨h1, h2, h3⟩)
    · exact (hIF b (hI0 b hb)).1
    · refine .inr ⟨?_, h2, fun x hx => ?_⟩
      · rcases h1 with h1 | h1
        · obtain ⟨x, hx, he⟩ := List.mem_map.1 h1
          rcases hw.keys x (List.mem_append_left _ hx) with h | h
          · exact .inl (he ▸ h)
          · exact .inr (he ▸ h)
        · have := hw.ext.size; (try simp only at h1); exact .inr (by omega)
      · rcases List.mem_append.1 hx with hx | hx
        · exact h3 x hx
        · intro he
          rcases h1 with h1 | h1
          · exact hRF x hx (he ▸ h1)
          · have := hRlt x hx; (try simp only at h1); omega
  refine ⟨⟨?_, fun x hx => ?_, fun x hx => ?_, ?_⟩, hIF, hIC⟩
  · rw [List.map_append, List.nodup_append]
    refine ⟨hw'.nodup, hn2, fun a ha b hb he => ?_⟩
    obtain ⟨y, hy, rfl⟩ := List.mem_map.1 ha
    obtain ⟨x, hx, rfl⟩ := List.mem_map.1 hb
    exact hF'R y hy x hx he
  · rcases List.mem_append.1 hx with hx | hx
    · rcases hw'.keys x hx with h | h
      · obtain ⟨y, hy, he⟩ := List.mem_map.1 h
        rcases hw.keys y (List.mem_append_left _ hy) with h | h
        · exact .inl (he ▸ h)
        · exact .inr (he ▸ h)
      · have := hw.ext.size; (try simp only at h); exact .inr (by omega)
    · exact hw.keys x (List.mem_append_right _ hx)
  · rcases List.mem_append.1 hx with hx | hx
    · exact (hw'.mem x hx).mono (fun b hb => ⟨hIC b hb, rfl⟩) rfl
    · refine (hw.mem x (List.mem_append_right _ hx)).mono hIF (hw'.ext.blk _ (hRlt x hx) (hRF x hx))
  · refine ⟨hw'.ext.os.trans hw.ext.os, hw'.ext.tape.trans hw.ext.tape, hw'.ext.output.trans hw.ext.output, Nat.le_trans hw.ext.size hsz, fun b hb hk => ?_⟩
    have hb2 : b < w.heap.size := by have := hw.ext.size; omega
    rw [hw'.ext.blk b hb2 fun hm => ?_]
    · exact hw.ext.blk b hb hk
    · obtain ⟨x, hx, he⟩ := List.mem_map.1 hm
      rcases hw.keys x (List.mem_append_left _ hx) with h | h
      · exact hk (he ▸ h)
      · (try simp only at h); omega

theorem run_callV {f : FuncId} {args : List AV} {post : AV → Hp → Prop} {a : Act} {w : World} {vs : Array Value} (ok : Ok cx n s a w) (h : CallV P f args s.H post) (hs : vs.size = args.length)
    (hv : ∀ i, i < args.length → Rep w (imm cx w s.H) (vs.getD i undef) (args.getD i .any)) :
    (callFunc f vs).run P w = .ok (.enter f vs) w ∧ Calls P f vs w fun e w' => ∃ v r H', e = .returned v ∧ post r H' ∧ Ok cx n { s with H := H' } a w' ∧ Rep w' (imm cx w' H') v r := by
  obtain ⟨F, R, p, hP, ⟨hcall, hct⟩, hp⟩ := h
  refine ⟨hcall vs w, ?_⟩
  have hw := ok.world.perm hP
  have hIp : ∀ b, imm cx w s.H b → imm cx w (F ++ R) b := fun b hb => (imm_perm hP).1 hb
  have hI : ∀ b, imm cx w s.H b → b < w.heap.size ∧ b ∉ F.map (·.1) := fun b hb => ⟨imm_lt hw.ext.size hb, fun hm => by
    obtain ⟨x, hx, he⟩ := List.mem_map.1 hm
    exact imm_key hw.keys (hIp b hb) x (List.mem_append_left _ hx) he⟩
  have hnd := hw.nodup
  rw [List.map_append, List.nodup_append] at hnd
  have := hct ⟨w, imm cx w s.H, F.map (·.1), hI⟩ vs rfl ⟨hnd.1, fun x hx => .inl (List.mem_map_of_mem hx), fun x hx => (hw.mem x (List.mem_append_left _ hx)).mono (fun b hb => ⟨.inl ((imm_perm hP).2 hb), rfl⟩) rfl,
    ⟨rfl, rfl, rfl, Nat.le_refl _, fun _ _ _ => rfl⟩⟩ hs hv
  refine this.mono ?_
  rintro e w' ⟨v, r, F', he, hpost, hw', hr⟩
  obtain ⟨c1, c2, c3⟩ := call_frame hIp hI hw hw'
  exact ⟨v, r, F' ++ R, he, hp r F' hpost, ok.world_to c1 (fun b hb => c2 b (hIp b hb)), hr.mono fun b hb => ⟨c3 b hb, rfl⟩⟩

/-! ## Operations that change memory, as formulas -/

def elk (P : Program) (T : TypeId) : Option IntKind :=
  match P.underlying T with
  | some (.slice e) => match P.underlying e with
    | some (.int k) => some k
    | _ => none
  | _ => none

def rowMB (k : Option IntKind) (cs : List AV) (sz : Nat) (ty : TypeId) : MB :=
  match k with
  | some k => match intsA k cs with
    | some zs => .zs k zs sz ty
    | none => .cells cs sz ty
  | none => .cells cs sz ty

def plN (sz : Nat) : Nat → Nat → List (Nat × Nat)
  | 0, _ => []
  | n + 1, k => (k * sz, sz) :: plN sz n (k + 1)

def uOk (P : Program) (u : TypeId) : Prop := P.underlying u = some .string ∨ ∃ e, P.underlying u = some (.slice e)

def appZ (H : Hp) (e bytes b n cap s0 ty : Nat) (k : IntKind) (zs : List Int) (p : Prop) (ys : List Int) (K : AV → Hp → Prop) : Prop :=
  p ∧ ty = e ∧ zs.length = n ∧ cap = s0 ∧ cap ≤ maxLen ∧ n + ys.length ≤ maxLen ∧ (n + ys.length) * bytes ≤ 140737488355328 ∧
    ∀ b' cap', n + ys.length ≤ cap' → cap' ≤ maxLen → freshBut H b b' → K (ms b' 0 (n + ys.length) cap') (hrep H b b' (.zs k (zs ++ ys) cap' e))

def appC (H : Hp) (e sz bytes b n cap s0 ty : Nat) (cs : List AV) (p : Prop) (m : Nat) (ds : List AV) (K : AV → Hp → Prop) : Prop :=
  p ∧ ty = e ∧ cs.length = n * sz ∧ cap * sz = s0 ∧ cap ≤ maxLen ∧ ds.all oneC = true ∧ n + m ≤ maxLen ∧ (n + m) * bytes ≤ 140737488355328 ∧
    ∀ b' cap', n + m ≤ cap' → cap' ≤ maxLen → freshBut H b b' → K (ms b' 0 (n + m) cap') (hrep H b b' (.cells (cs ++ ds) (cap' * sz) e))

def appE (P : Program) (H : Hp) (T u : TypeId) (dst src : AV) (K : AV → Hp → Prop) : Prop :=
  uOk P u ∧ match apT P T with
  | none => False
  | some (e, sz, bytes) => match dst with
    | .lit (.slice (some ⟨b, off, none⟩) n cap) => off = 0 ∧ match hget H b with
      | some (.zs k zs s0 ty) => sz = 1 ∧ appZ H e bytes b n cap s0 ty k zs (srcZ H k src).1 (srcZ H k src).2 K
      | some (.cells cs s0 ty) => appC H e sz bytes b n cap s0 ty cs (srcC H sz src).1 (srcC H sz src).2.1 (srcC H sz src).2.2 K
      | _ => False
    | _ => False

theorem run_appE {H : Hp} {T u ty : TypeId} {dst src : AV} {Kp : AV → Hp → Prop} {a : Act} {w : World} {vd vx : Value} (hw : OkW cx H w) (hd : Rep w (imm cx w H) vd dst) (hx : Rep w (imm cx w H) vx src)
    (h : appE P H T u dst src Kp) : ∃ v x H' w', (Builtin.append_ #[T, u] ty #[vd, vx]).run P w = .ok v w' ∧ Kp x H' ∧ OkW cx H' w' ∧ (∀ c, imm cx w H c → imm cx w' H' c ∧ w'.heap[c]? = w.heap[c]?) ∧ v = (match x with | .lit v => v | _ => undef) ∧ ∃ v', x = .lit v' := by
  obtain ⟨hu, h⟩ := h
  have hu' : ∃ du, P.underlying u = some du ∧ (du = .string ∨ ∃ e', du = .slice e') := by
    rcases hu with h | ⟨e, h⟩
    · exact ⟨_, h, .inl rfl⟩
    · exact ⟨_, h, .inr ⟨_, rfl⟩⟩
  obtain ⟨du, hu1, hu2⟩ := hu'
  cases hT : apT P T with
  | none => rw [hT] at h; exact h.elim
  | some p =>
    obtain ⟨e, sz, bytes⟩ := p
    rw [hT] at h
    simp only at h
    split at h
    · rename_i b off n cap
      obtain ⟨rfl, h⟩ := h
      have := hd.lit_inv; subst this
      cases hg : hget H b with
      | none => rw [hg] at h; exact h.elim
      | some mb =>
        rw [hg] at h
        cases mb with
        | zs k zs s0 ty0 =>
          obtain ⟨rfl, h⟩ := h
          obtain ⟨hp, rfl, hn, rfl, hcm, h63, hby, hK⟩ := h
          have hsrc := srcZ_sound (P := P) hw hx (k := k) (Prod.eta _).symm hp
          have hmem := hget_mem hg
          obtain ⟨hw1, hI1⟩ := hw.conv (m' := .cells (zs.map (iv k)) cap ty0) hmem (fun I hm => hm.to_cells)
          obtain ⟨b', cap', w', r1, r2, r3, r4, r5, r6⟩ := append_own (P := P) (T0 := 0) (ty := ty) (ds := (srcZ H k src).2.map (iv k)) (cs := zs.map (iv k)) hT hu1 hu2 hw1 (hset_get hg) (by simp [hn]) (by omega) hcm hsrc (by simp)
            (fun i hi => by
              have hi' : i < (srcZ H k src).2.length := by simpa using hi
              simp only [List.getElem_map]
              exact Rep.of_eq (getD_map_lt _ _ _ _ hi')) (by rw [List.all_eq_true]; intro y hy; obtain ⟨z, _, rfl⟩ := List.mem_map.1 hy; rfl) h63 hby
          have hrep2 : ∀ H0 : Hp, hrep (hset H0 b (.cells (zs.map (iv k)) cap ty0)) b b' (.cells (zs.map (iv k) ++ (srcZ H k src).2.map (iv k)) (cap' * 1) ty0) = hrep H0 b b' (.cells ((zs ++ (srcZ H k src).2).map (iv k)) cap' ty0) := by
            intro H0
            rw [Nat.mul_one, ← List.map_append]
            induction H0 with
            | nil => rfl
            | cons p r ih =>
              obtain ⟨b0, m0⟩ := p
              simp only [hset, hrep]
              split
              · rename_i he; subst he; simp [hrep]
              · rename_i he; simp only [hrep, if_neg he]; rw [ih]
          rw [hrep2] at r5 r6
          have hfr : freshBut H b b' := by
            intro x hx
            have : x.1 ∈ (hset H b (.cells (zs.map (iv k)) cap ty0)).map (·.1) := by rw [hset_keys]; exact List.mem_map_of_mem hx
            obtain ⟨y, hy, he⟩ := List.mem_map.1 this
            rw [← he]
            exact r4 y hy
          have hmem2 : ∀ H0 : Hp, hget H0 b = some (.zs k zs cap ty0) → (b', MB.cells ((zs ++ (srcZ H k src).2).map (iv k)) cap' ty0) ∈ hrep H0 b b' (.cells ((zs ++ (srcZ H k src).2).map (iv k)) cap' ty0) := by
            intro H0 h0
            induction H0 with
            | nil => cases h0
            | cons p r ih =>
              obtain ⟨b0, m0⟩ := p
              simp only [hget, hrep] at h0 ⊢
              split at h0
              · rename_i he; rw [if_pos he]; exact List.mem_cons_self ..
              · rename_i he; rw [if_neg he]; exact List.mem_cons_of_mem _ (ih h0)
          obtain ⟨hw2, hI2⟩ := r5.conv (m' := .zs k (zs ++ (srcZ H k src).2) cap' ty0) (hmem2 H hg) (fun I hm => hm.to_zs)
          have hset2 : ∀ H0 : Hp, (∀ x ∈ H0, x.1 = b ∨ (x.1 ≠ b' ∧ b' ≠ x.1)) → hset (hrep H0 b b' (.cells ((zs ++ (srcZ H k src).2).map (iv k)) cap' ty0)) b' (.zs k (zs ++ (srcZ H k src).2) cap' ty0) = hrep H0 b b' (.zs k (zs ++ (srcZ H k src).2) cap' ty0) := by
            intro H0 hf
            induction H0 with
            | nil => rfl
            | cons p r ih =>
              obtain ⟨b0, m0⟩ := p
              simp only [hrep]
              split
              · rename_i he; simp [hset]
              · rename_i he
                have h1 := hf (b0, m0) (List.mem_cons_self ..)
                have h2 : b' ≠ b0 := by rcases h1 with h1 | h1; exact absurd h1.symm he; exact h1.2
                simp only [hset, if_neg h2]; rw [ih fun x hx => hf x (List.mem_cons_of_mem _ hx)]
          rw [hset2 H hfr] at hw2 hI2
          exact ⟨_, _, _, w', r1, hK b' cap' r2 r3 hfr, hw2, fun c hc => ⟨(hI2 c).1 (r6 c ((hI1 c).1 hc)).1, (r6 c ((hI1 c).1 hc)).2⟩, rfl, _, rfl⟩
        | cells cs s0 ty0 =>
          obtain ⟨hp, rfl, hn, rfl, hcm, hone, h63, hby, hK⟩ := h
          obtain ⟨news, n1, n2, n3⟩ := srcC_sound (P := P) hw hx (sz := sz) (show srcC H sz src = ((srcC H sz src).1, (srcC H sz src).2.1, (srcC H sz src).2.2) from rfl) hp
          obtain ⟨b', cap', w', r1, r2, r3, r4, r5, r6⟩ := append_own (P := P) (T0 := 0) (ty := ty) hT hu1 hu2 hw hg hn rfl hcm n1 n2 n3 hone h63 hby
          exact ⟨_, _, _, w', r1, hK b' cap' r2 r3 r4, r5, r6, rfl, _, rfl⟩
        | obj o => exact h.elim
    · exact h.elim
end
end Go.Proofs.Ytndpkahhmgnhpaa
