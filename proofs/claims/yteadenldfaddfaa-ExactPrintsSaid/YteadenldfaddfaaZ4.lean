/-
  The walks and the laws that the statement leans on, part 4.
-/
import Derived.ChangeReads
import Derived.Laws.Externs
import Derived.Test.YteadenldfaddfaaProg
import Derived.Test.YteadenldfaddfaaZ3
namespace Go.Proofs.Yteadenldfaddfaa
open Go
set_option linter.unusedSimpArgs false
set_option linter.unusedVariables false
/-- What does not hang on memory. -/
def clA : AV → Bool
  | .lit _ => true
  | .any => true
  | .agg cs => clL cs
  | .tup cs => clL cs
  | .ifc _ x => clA x
  | _ => false
where clL : List AV → Bool
  | [] => true
  | x :: r => clA x && clL r
theorem clL_get : ∀ {cs : List AV} (i : Nat) (hi : i < cs.length), clA.clL cs = true → clA cs[i] = true
  | x :: r, 0, _, h => by simp only [clA.clL, Bool.and_eq_true] at h; exact h.1
  | x :: r, i + 1, hi, h => by
    simp only [clA.clL, Bool.and_eq_true] at h
    exact clL_get (cs := r) i (by simpa using hi) h.2
theorem Rep.closed {w w' : World} {I I' : Nat → Prop} {v : Value} {x : AV} (h : Rep w I v x) : clA x = true → Rep w' I' v x := by
  induction h with
  | any v => exact fun _ => .any v
  | lit v => exact fun _ => .lit v
  | sl a n cap cs g hn hm h _ ih => intro hc; simp [clA] at hc
  | slz a k zs cap hn hm h => intro hc; simp [clA] at hc
  | ip ad cs g h _ ih => intro hc; simp [clA] at hc
  | ipz ad k zs h => intro hc; simp [clA] at hc
  | agg vs cs hs _ ih => exact fun hc => .agg vs cs hs fun i hi => ih i hi (clL_get i hi (by simpa [clA] using hc))
  | tup vs cs hs _ ih => exact fun hc => .tup vs cs hs fun i hi => ih i hi (clL_get i hi (by simpa [clA] using hc))
  | ifc t v x _ ih => exact fun hc => .ifc t v x (ih (by simpa [clA] using hc))
  | gdt v x _ ih => intro hc; simp [clA] at hc
  | gdf x => intro hc; simp [clA] at hc
theorem hget_perm {b : Nat} {m : MB} : ∀ {H : Hp}, hget H b = some m → H.Perm ([(b, m)] ++ hdel H b)
  | [], h => by cases h
  | (b0, m0) :: r, h => by
    simp only [hget, hdel] at h ⊢
    split at h
    · rename_i he; subst he; cases h; simp
    · rename_i he
      rw [if_neg he]
      have := hget_perm (H := r) h
      exact (List.Perm.cons _ this).trans (List.Perm.swap ..)
/-! ## Views -/
/-- x, looked at through blocks of H that nobody writes for a while, is y. -/
inductive Vw (H : Hp) : AV → AV → Prop
  | same (x : AV) : Vw H x x
  | row {b off n cap sz ty : Nat} {k : IntKind} {zs : List Int} (hg : hget H b = some (.zs k zs sz ty)) (h1 : off + n ≤ zs.length) (h2 : n ≤ cap) (h3 : cap ≤ maxLen) :
      Vw H (ms b off n cap) (.slz k ((zs.drop off).take n))
  | rowc {b off n cap sz ty : Nat} {cs ds : List AV} (hg : hget H b = some (.cells cs sz ty)) (h1 : off + ds.length ≤ cs.length) (h2 : n ≤ cap) (h3 : cap ≤ maxLen)
      (h : ∀ i (hi : i < ds.length), Vw H (cs.getD (off + i) .any) ds[i]) : Vw H (ms b off n cap) (.sl n ds)
  | ptc {b off sz ty : Nat} {cs ds : List AV} (hg : hget H b = some (.cells cs sz ty)) (h1 : off + ds.length ≤ cs.length)
      (h : ∀ i (hi : i < ds.length), Vw H (cs.getD (off + i) .any) ds[i]) : Vw H (pt b off) (.ip ds)
  | ptz {b off sz ty : Nat} {k : IntKind} {zs : List Int} (hg : hget H b = some (.zs k zs sz ty)) (h1 : off ≤ zs.length) : Vw H (pt b off) (.ipz k (zs.drop off))
  | agg {cs ds : List AV} (hl : ds.length = cs.length) (h : ∀ i (hi : i < ds.length), Vw H (cs.getD i .any) ds[i]) : Vw H (.agg cs) (.agg ds)
  | ifc {t : TypeId} {x y : AV} (h : Vw H x y) : Vw H (.ifc t x) (.ifc t y)
  | nils : Vw H (.lit (.slice none 0 0)) (.sl 0 [])
theorem Vw.rep {cx : Cx} {H : Hp} {w : World} {I' : Nat → Prop} (hw : OkW cx H w) (hlt : ∀ b, imm cx w H b → I' b) (hk : ∀ x ∈ H, I' x.1) {x y : AV} (h : Vw H x y) : ∀ {v : Value}, Rep w (imm cx w H) v x → Rep w I' v y := by
  induction h with
  | same x => exact fun hv => hv.mono fun b hb => ⟨hlt b hb, rfl⟩
  | @row b off n cap sz ty k zs hg h1 h2 h3 =>
    intro v hv
    have := hv.lit_inv; subst this
    obtain ⟨cur, c1, c2, c3, c4⟩ := hw.mem _ (hget_mem hg)
    have e : ((zs.drop off).take n).length = n := by simp; omega
    have : Rep w I' (.slice (some ⟨b, off, none⟩) ((zs.drop off).take n).length cap) (.slz k ((zs.drop off).take n)) := by
      refine .slz _ _ _ _ (by omega) h3 (.inr ⟨b, off, rfl, hk _ (hget_mem hg), fun i hi => ?_⟩)
      rw [e] at hi
      rw [cell_of_block c1, c4 _ (by omega)]
      simp [List.getD, List.getElem?_take, List.getElem?_drop, hi]
    rw [e] at this
    exact this
  | @rowc b off n cap sz ty cs ds hg h1 h2 h3 h ih =>
    intro v hv
    have := hv.lit_inv; subst this
    obtain ⟨cur, c1, c2, c3, c4⟩ := hw.mem _ (hget_mem hg)
    refine .sl _ _ _ _ (fun i => cur.getD (off + i) undef) h2 h3 (.inr ⟨b, off, rfl, hk _ (hget_mem hg), fun i hi => ?_⟩) fun i hi => ih i hi ?_
    · rw [cell_of_block c1]
      have : off + i < cur.size := by omega
      simp [this]
    · have h4 := c4 (off + i) (by omega)
      have : cs.getD (off + i) .any = cs[off + i]'(by omega) := by simp [List.getD, show off + i < cs.length by omega]
      rw [this]
      exact h4
  | @ptc b off sz ty cs ds hg h1 h ih =>
    intro v hv
    have := hv.lit_inv; subst this
    obtain ⟨cur, c1, c2, c3, c4⟩ := hw.mem _ (hget_mem hg)
    refine .ip _ _ (fun i => cur.getD (off + i) undef) (.inr ⟨b, off, rfl, hk _ (hget_mem hg), fun i hi => ?_⟩) fun i hi => ih i hi ?_
    · rw [cell_of_block c1]
      have : off + i < cur.size := by omega
      simp [this]
    · have h4 := c4 (off + i) (by omega)
      have : cs.getD (off + i) .any = cs[off + i]'(by omega) := by simp [List.getD, show off + i < cs.length by omega]
      rw [this]
      exact h4
  | @ptz b off sz ty k zs hg h1 =>
    intro v hv
    have := hv.lit_inv; subst this
    obtain ⟨cur, c1, c2, c3, c4⟩ := hw.mem _ (hget_mem hg)
    refine .ipz _ _ _ (.inr ⟨b, off, rfl, hk _ (hget_mem hg), fun i hi => ?_⟩)
    simp only [List.length_drop] at hi
    rw [cell_of_block c1, c4 _ (by omega)]
    simp [List.getD, List.getElem?_drop]
  | @agg cs ds hl h ih =>
    intro v hv
    cases hv with
    | agg vs cs hs r =>
      refine .agg vs ds (by omega) fun i hi => ih i hi ?_
      have hic : i < cs.length := by omega
      have : cs.getD i .any = cs[i] := by simp [List.getD, hic]
      rw [this]
      exact r i hic
  | ifc h ih =>
    intro v hv
    cases hv with
    | ifc t v x r => exact .ifc _ _ _ (ih r)
  | nils =>
    intro v hv
    have := hv.lit_inv; subst this
    exact .sl none 0 0 [] (fun _ => undef) (Nat.le_refl _) (Nat.zero_le _) (.inl rfl) (fun i hi => by simp at hi)
def VwL (H : Hp) : List AV → List AV → Prop
  | [], [] => True
  | x :: r, y :: s => Vw H x y ∧ VwL H r s
  | _, _ => False
theorem VwL.length {H : Hp} : ∀ {l m : List AV}, VwL H l m → m.length = l.length
  | [], [], _ => rfl
  | x :: r, y :: s, h => by simp [VwL.length h.2]
  | [], y :: s, h => h.elim
  | x :: r, [], h => h.elim
theorem VwL.get {H : Hp} : ∀ {l m : List AV}, VwL H l m → ∀ i, i < l.length → Vw H (l.getD i .any) (m.getD i .any)
  | x :: r, y :: s, h, 0, _ => by simpa using h.1
  | x :: r, y :: s, h, i + 1, hi => by simpa using VwL.get h.2 i (by simpa using hi)
  | [], [], _, i, hi => by simp at hi
  | [], y :: s, h, _, _ => h.elim
  | x :: r, [], h, _, _ => h.elim
/-- A callee that only reads, over blocks that are ours. -/
theorem ACt.view {P : Program} {f : FuncId} {args args' : List AV} {H : Hp} {x : AV} (h : ACt P f args' [] (Fn x)) (hc : clA x = true) (hv : VwL H args args') :
    ACt P f args H (fun r F' => r = x ∧ F' = H) := by
  intro cx vs hK hw hs hr
  have hlen := hv.length
  have := h ⟨cx.w0, fun b => b < cx.w0.heap.size, [], fun b hb => ⟨hb, by simp⟩⟩ vs rfl ⟨by simp, fun x hx => by simp at hx, fun x hx => by simp at hx, ⟨rfl, rfl, rfl, Nat.le_refl _, fun _ _ _ => rfl⟩⟩
    (by omega) (fun i hi => by
      have hi' : i < args.length := by omega
      exact (hv.get i hi').rep hw (fun b hb => imm_lt hw.ext.size hb) (fun x hx => keys_lt hw x hx) ((hr i hi').mono fun b hb => ⟨.inl hb, rfl⟩))
  refine this.mono ?_
  rintro e w' ⟨v, r, F', rfl, ⟨rfl, rfl⟩, hw', hrep⟩
  have hsame : ∀ b, b < cx.w0.heap.size → w'.heap[b]? = cx.w0.heap[b]? := fun b hb => hw'.ext.blk b hb (by simp)
  have hI : ∀ b, imm cx cx.w0 H b → imm cx w' H b ∧ w'.heap[b]? = cx.w0.heap[b]? := by
    intro b hb
    have hlt := imm_lt hw.ext.size hb
    refine ⟨?_, hsame b hlt⟩
    rcases hb with hb | ⟨h1, h2, h3⟩
    · exact .inl hb
    · exact .inr ⟨h1, by have := hw'.ext.size; simp only at this; omega, h3⟩
  refine ⟨v, _, H, rfl, ⟨rfl, rfl⟩, ⟨hw.nodup, hw.keys, fun y hy => (hw.mem y hy).mono hI (hsame _ (keys_lt hw y hy)), ?_⟩, hrep.closed hc⟩
  have e1 := hw.ext
  have e2 := hw'.ext
  exact ⟨e2.os.trans e1.os, e2.tape.trans e1.tape, e2.output.trans e1.output, Nat.le_trans e1.size e2.size, fun b hb hk => (hsame b hb).trans (e1.blk b hb hk)⟩
theorem CallV.view {P : Program} {f : FuncId} {args args' : List AV} {H : Hp} {x : AV} {post : AV → Hp → Prop} (h : ACt P f args' [] (Fn x)) (hc : clA x = true) (hv : VwL H args args') (hp : post x H) : CallV P f args H post :=
  ⟨H, [], _, by simp, h.view hc hv, by rintro r F' ⟨rfl, rfl⟩ _; simpa using hp⟩
/-- A callee that only reads a block of ours, which we give up for good: what comes back may look into it. -/
theorem ACt.frz {P : Program} {f : FuncId} {args args' : List AV} {b : Nat} {m : MB} {p : AV → Prop} (h : ACt P f args' [] (fun r F' => p r ∧ F' = [])) (hv : VwL [(b, m)] args args') :
    ACt P f args [(b, m)] (fun r F' => p r ∧ F' = []) := by
  intro cx vs hK hw hs hr
  have hlen := hv.length
  have hbl := keys_lt hw (b, m) (List.mem_cons_self ..)
  have hKb : cx.K = [b] := by rw [hK]; rfl
  have himm : ∀ c, imm cx cx.w0 [(b, m)] c → cx.I c := by
    rintro c (hc | ⟨h1, h2, h3⟩)
    · exact hc
    · have := h3 (b, m) (List.mem_cons_self ..)
      rcases h1 with h1 | h1
      · rw [hKb] at h1; simp at h1; exact absurd h1.symm this
      · omega
  have := h ⟨cx.w0, fun c => cx.I c ∨ c = b, [], fun c hc => ⟨by rcases hc with hc | rfl; exact (cx.hI c hc).1; exact hbl, by simp⟩⟩ vs rfl ⟨by simp, fun x hx => by simp at hx, fun x hx => by simp at hx, ⟨rfl, rfl, rfl, Nat.le_refl _, fun _ _ _ => rfl⟩⟩
    (by omega) (fun i hi => by
      have hi' : i < args.length := by omega
      exact (hv.get i hi').rep hw (fun c hc => .inl (himm c hc)) (fun x hx => by simp at hx; subst hx; exact .inr rfl) ((hr i hi').mono fun c hc => ⟨.inl hc, rfl⟩))
  refine this.mono ?_
  rintro e w' ⟨v, r, F', rfl, ⟨hp, rfl⟩, hw', hrep⟩
  have e1 := hw.ext
  have e2 := hw'.ext
  refine ⟨v, r, [], rfl, ⟨hp, rfl⟩, ⟨by simp, fun x hx => by simp at hx, fun x hx => by simp at hx, ?_⟩, hrep.mono fun c hc => ⟨?_, rfl⟩⟩
  · exact ⟨e2.os.trans e1.os, e2.tape.trans e1.tape, e2.output.trans e1.output, Nat.le_trans e1.size e2.size, fun c hc hk => (e2.blk c hc (by simp)).trans (e1.blk c hc hk)⟩
  · have hsz : cx.w0.heap.size ≤ w'.heap.size := e2.size
    rcases hc with (hc | rfl) | ⟨h1, h2, h3⟩
    · exact .inl hc
    · exact .inr ⟨.inl (by rw [hKb]; simp), by omega, fun x hx => by simp at hx⟩
    · rcases h1 with h1 | h1
      · simp at h1
      · exact .inr ⟨.inr h1, h2, fun x hx => by simp at hx⟩
theorem CallV.frz {P : Program} {f : FuncId} {args args' : List AV} {H : Hp} {x : AV} {post : AV → Hp → Prop} {m : MB} (b : Nat) (hg : hget H b = some m) (h : ACt P f args' [] (Fn x)) (hv : VwL [(b, m)] args args')
    (hp : post x (hdel H b)) : CallV P f args H post := by
  refine ⟨[(b, m)], hdel H b, _, hget_perm hg, h.frz (p := fun r => r = x) hv, ?_⟩
  rintro r F' ⟨rfl, rfl⟩ hn
  exact hp
/-! ## Rows of integers that a callee hands back, ours -/
/-- What comes back is a row of these integers, the caller's own. -/
def Row (k : IntKind) (ty : TypeId) (zs : List Int) (r : AV) (F' : Hp) : Prop :=
  ∃ b' cap', zs.length ≤ cap' ∧ cap' ≤ maxLen ∧ r = ms b' 0 zs.length cap' ∧ F' = [(b', .zs k zs cap' ty)]
theorem fresh_of_nodup {b' : Nat} {m' : MB} {R : Hp} (h : (([(b', m')] ++ R).map (·.1)).Nodup) : fresh R b' := by
  rw [List.map_append, List.nodup_append] at h
  intro x hx
  have := h.2.2 b' (by simp) x.1 (List.mem_map_of_mem hx)
  exact ⟨fun he => this he.symm, this⟩
theorem CallV.row {P : Program} {f : FuncId} {args : List AV} {H : Hp} {b : Nat} {m : MB} {k : IntKind} {ty : TypeId} {zs : List Int} {post : AV → Hp → Prop} (hg : hget H b = some m) (h : ACt P f args [(b, m)] (Row k ty zs))
    (hp : Nu fun b' => Nu fun cap' => Fr (zs.length ≤ cap' ∧ cap' ≤ maxLen ∧ fresh (hdel H b) b') (post (ms b' 0 zs.length cap') ((b', .zs k zs cap' ty) :: hdel H b))) : CallV P f args H post := by
  refine ⟨[(b, m)], hdel H b, _, hget_perm hg, h, ?_⟩
  rintro r F' ⟨b', cap', h1, h2, rfl, rfl⟩ hn
  exact ((hp.out b').out cap').out ⟨h1, h2, fresh_of_nodup hn⟩
/-! ## Weakenings -/
/-- A slot, known in other words. -/
theorem Wk.slot {env env' : List (Nat × AV)} {H : Hp} (h : ∀ i (w : World) (I : Nat → Prop) v, Rep w I v (look env i) → Rep w I v (look env' i)) : Wk ⟨env, H⟩ ⟨env', H⟩ :=
  fun cx n a w ok => ⟨ok.defers, ok.size, fun i => h i w _ _ (ok.reps i), ok.world⟩
theorem Rep.nils {w : World} {I : Nat → Prop} {v : Value} (h : Rep w I v (.lit (.slice none 0 0))) : Rep w I v (.sl 0 []) := by
  have := h.lit_inv; subst this
  exact .sl none 0 0 [] (fun _ => undef) (by simp) (by simp) (.inl rfl) (fun i hi => by simp at hi)
/-- What is said of the slots' front, over. -/
theorem Wk.cons {env : List (Nat × AV)} {H : Hp} {i : Nat} {x y : AV} (hl : look env i = x) (h : ∀ (w : World) (I : Nat → Prop) v, Rep w I v x → Rep w I v y) : Wk ⟨env, H⟩ ⟨(i, y) :: env, H⟩ :=
  Wk.slot fun j w I v hv => by
    simp only [look]
    split
    · rename_i hj; subst hj; rw [hl] at hv; exact h w I v hv
    · exact hv
theorem Wk.trans {s t u : St} (h1 : Wk s t) (h2 : Wk t u) : Wk s u := fun cx n a w ok => h2 cx n a w (h1 cx n a w ok)
/-- A block of cells that nobody writes from here on. -/
def frzC (b : Nat) (cs : List AV) (sz : Nat) : AV → AV
  | .lit (.slice (some ⟨b', off, none⟩) m cap) => if b' = b then (if off + m * sz ≤ cs.length ∧ m ≤ cap ∧ cap ≤ maxLen then .sl m ((cs.drop off).take (m * sz)) else .any) else .lit (.slice (some ⟨b', off, none⟩) m cap)
  | .lit (.pointer (some ⟨b', off, none⟩)) => if b' = b then .ip (cs.drop off) else .lit (.pointer (some ⟨b', off, none⟩))
  | x => x
def frzCE (b : Nat) (cs : List AV) (sz : Nat) : List (Nat × AV) → List (Nat × AV)
  | [] => []
  | (i, x) :: r => (i, frzC b cs sz x) :: frzCE b cs sz r
theorem look_frzCE {b sz : Nat} {cs : List AV} : ∀ (env : List (Nat × AV)) (i : Nat), look (frzCE b cs sz env) i = frzC b cs sz (look env i)
  | [], _ => rfl
  | (j, x) :: r, i => by
    simp only [frzCE, look]
    split
    · rfl
    · exact look_frzCE r i
theorem Wk.freezeC {env : List (Nat × AV)} {H : Hp} (b sz : Nat) {cs : List AV} {s0 ty : Nat} (hg : hget H b = some (.cells cs s0 ty)) : Wk ⟨env, H⟩ ⟨frzCE b cs sz env, hdel H b⟩ := by
  intro cx n a w ok
  obtain ⟨hw, hI, hb⟩ := ok.world.lose (w' := w) (hget_mem hg) rfl rfl rfl rfl (fun _ _ => rfl)
  obtain ⟨cur, c1, c2, c3, c4⟩ := ok.world.mem _ (hget_mem hg)
  refine ⟨ok.defers, ok.size, fun i => ?_, hw⟩
  have h := ok.reps i
  simp only [look_frzCE] at h ⊢
  generalize look env i = x at h
  have hm := h.mono hI
  unfold frzC
  split
  · rename_i b' off m cap
    split
    · rename_i he; subst he
      split
      · rename_i hc
        have := h.lit_inv
        rw [this]
        have hl : ((cs.drop off).take (m * sz)).length = m * sz := by simp; omega
        refine .sl _ _ _ _ (fun i => cur.getD (off + i) undef) hc.2.1 hc.2.2 (.inr ⟨b', off, rfl, hb, fun i hi => ?_⟩) fun i hi => ?_
        · rw [cell_of_block c1]
          have : off + i < cur.size := by rw [hl] at hi; omega
          simp [this]
        · rw [hl] at hi
          simp only [List.getElem_take, List.getElem_drop]
          exact (c4 (off + i) (by omega)).mono hI
      · exact .any _
    · exact hm
  · rename_i b' off
    split
    · rename_i he; subst he
      have := h.lit_inv
      rw [this]
      refine .ip _ _ (fun i => cur.getD (off + i) undef) (.inr ⟨b', off, rfl, hb, fun i hi => ?_⟩) fun i hi => ?_
      · rw [cell_of_block c1]
        have : off + i < cur.size := by simp at hi; omega
        simp [this]
      · simp only [List.length_drop] at hi
        simp only [List.getElem_drop]
        exact (c4 (off + i) (by omega)).mono hI
    · exact hm
  · exact hm
theorem Vw.row' {H : Hp} {b off n cap sz ty : Nat} {k : IntKind} {zs zs' : List Int} (hg : hget H b = some (.zs k zs sz ty)) (h1 : off + n ≤ zs.length) (h2 : n ≤ cap) (h3 : cap ≤ maxLen) (h4 : zs' = (zs.drop off).take n) :
    Vw H (ms b off n cap) (.slz k zs') := by
  subst h4
  exact Vw.row hg h1 h2 h3
/-- A list of views, cell by cell, from a place on. -/
def VwC (H : Hp) : List AV → List AV → Prop
  | _, [] => True
  | [], _ :: _ => False
  | x :: r, y :: s => Vw H x y ∧ VwC H r s
theorem VwC.get {H : Hp} : ∀ {l m : List AV}, VwC H l m → m.length ≤ l.length ∧ ∀ i (hi : i < m.length), Vw H (l.getD i .any) m[i]
  | _, [], _ => ⟨by simp, fun i hi => by simp at hi⟩
  | [], y :: s, h => h.elim
  | x :: r, y :: s, h => by
    obtain ⟨h1, h2⟩ := VwC.get h.2
    refine ⟨by simp; omega, fun i hi => ?_⟩
    cases i with
    | zero => simpa using h.1
    | succ i => simpa using h2 i (by simpa using hi)
theorem VwC.refl {H : Hp} : ∀ l : List AV, VwC H l l
  | [] => trivial
  | x :: r => ⟨.same x, VwC.refl r⟩
/-! ## Blocks, picked out -/
def pickB : Hp → Hp → Prop
  | _, [] => True
  | H, (b, m) :: r => hget H b = some m ∧ pickB (hdel H b) r
theorem pickB.perm : ∀ {H' H : Hp}, pickB H H' → ∃ R, H.Perm (H' ++ R)
  | [], H, _ => ⟨H, by simp⟩
  | (b, m) :: r, H, h => by
    obtain ⟨R, hR⟩ := pickB.perm h.2
    exact ⟨R, (hget_perm h.1).trans (by simpa using hR)⟩
theorem Sub.pick {env env' : List (Nat × AV)} {H H' : Hp} (hH : pickB H H') (h : ∀ p ∈ env', look env p.1 = p.2) : Sub ⟨env, H⟩ ⟨env', H'⟩ := by
  obtain ⟨R, hR⟩ := hH.perm
  exact Sub.of_env R hR h
/-! ## Ways out -/
theorem OutQ.row {P : Program} {rs : List ResultVar} {s : St} {k : IntKind} {ty : TypeId} {zs zs' : List Int} {b' n cap' : Nat} (h1 : (resv P s.H s.env rs).1) (h2 : resA (resv P s.H s.env rs).2 = ms b' 0 n cap')
    (hg : hget s.H b' = some (.zs k zs' cap' ty)) (hz : zs' = zs) (hn : zs.length = n) (hc1 : n ≤ cap') (hc2 : cap' ≤ maxLen) : OutQ P rs (Row k ty zs) s := by
  subst hz
  refine OutQ.drop [(b', .zs k zs' cap' ty)] (hdel s.H b') (hget_perm hg) h1 ⟨b', cap', by omega, hc2, ?_, rfl⟩
  rw [h2, hn]
/-- A row of ours, handed back as one that nobody writes any more. -/
theorem OutQ.fz {P : Program} {t : Tmp} {s : St} {k : IntKind} {ty s0 : TypeId} {zs zs' : List Int} {b n cap : Nat} (h2 : look s.env t = ms b 0 n cap)
    (hg : hget s.H b = some (.zs k zs' s0 ty)) (hz : zs' = zs) (hn : zs.length = n) (hc1 : n ≤ cap) (hc2 : cap ≤ maxLen) : OutQ P [.tmp t] (Fn (.slz k zs)) s := by
  subst hz
  refine OutQ.wk (Wk.freeze b hg) (OutQ.all trivial ?_)
  simp only [resv, resA, look_frzE, h2, frz, if_true]
  rw [if_pos ⟨by omega, hc1, hc2⟩, ← hn]
  simp [Fn]
end Go.Proofs.Yteadenldfaddfaa
namespace Go.Proofs.Yteadenldfaddfaa
open Go
set_option linter.unusedSimpArgs false
set_option linter.unusedVariables false
section
variable {P : Program} {cx : Cx} {n : Nat} {ops : Array Oper} {H E : Hp}
/-! ### One step, whatever it does to memory -/
/-! ### The private block -/
theorem envL_append {f : Nat → Bool} : ∀ (l1 l2 : List (Oper × AV)) (k : Nat) (env : List (Nat × AV)), envL f (l1 ++ l2) k env = envL f l2 (k + l1.length) (envL f l1 k env)
  | [], l2, k, env => by simp [envL]
  | (o, x) :: r, l2, k, env => by
    simp only [List.cons_append, envL, List.length_cons]
    rw [envL_append r l2 (k + 1)]
    congr 1
    omega
/-- The head of the region, as a formula: first what only computes; the block is made; more that computes; the block is filled; what computes behind; then the tail. -/
def drawF (P : Program) (n : Nat) (l : List Oper) (K : St → Prop) (ia is k : Nat) (s : St) : Prop :=
  dvc P n l.toArray (l.take ia) (fun s1 => match l.drop ia with
    | ⟨some t, .alloc T, _, _, _, none⟩ :: r => match zmb P T with
      | some m0 => t < n ∧ dvc P n l.toArray (r.take (is - ia - 1)) (fun s2 => match r.drop (is - ia - 1) with
        | ⟨none, .store T' (.tmp t') y, _, _, _, none⟩ :: q => t' = t ∧ (og s2.env y).1 ∧ (stC P T' m0 0 (og s2.env y).2).1 ∧ dvc P n l.toArray (q.take (k - is - 1)) (fun s3 =>
            newB s3.H (stC P T' m0 0 (og s2.env y).2).2 fun b H => rvc P n l.toArray (q.drop (k - is - 1)) K ⟨(t, pt b 0) :: s3.env, H⟩) s2
        | _ => False) ⟨(t, .any) :: s1.env, s1.H⟩
      | none => False
    | _ => False) s
theorem envL_ext {f g : Nat → Bool} : ∀ (l : List (Oper × AV)) (k : Nat) (env : List (Nat × AV)), (∀ j, k ≤ j → j < k + l.length → f j = g j) → envL f l k env = envL g l k env
  | [], _, _, _ => rfl
  | (o, x) :: r, k, env, h => by
    simp only [envL]
    rw [h k (Nat.le_refl _) (by simp)]
    exact envL_ext r (k + 1) _ fun j h1 h2 => h j (by omega) (by simp; omega)
theorem envL_none {f : Nat → Bool} : ∀ (l : List (Oper × AV)) (k : Nat) (env : List (Nat × AV)), (∀ j, k ≤ j → f j = false) → envL f l k env = env
  | [], _, _, _ => rfl
  | (o, x) :: r, k, env, h => by
    simp only [envL]
    rw [h k (Nat.le_refl _)]
    simp only [Bool.false_eq_true, if_false]
    exact envL_none r (k + 1) env fun j hj => h j (by omega)
theorem envL_shiftk {f : Nat → Bool} (c : Nat) : ∀ (l : List (Oper × AV)) (k : Nat) (env : List (Nat × AV)), envL f l (c + k) env = envL (fun j => f (c + j)) l k env
  | [], _, _ => rfl
  | (o, x) :: r, k, env => by simp only [envL]; exact envL_shiftk c r (k + 1) _
def SeqG (C : Nat → Oper → AV → List (Nat × AV) → Prop) (lx : List (Oper × AV)) (env : List (Nat × AV)) : Prop :=
  ∀ i o x, lx[i]? = some (o, x) → C i o x (envL (fun j => decide (j < i)) lx 0 env)
theorem SeqG.app {C : Nat → Oper → AV → List (Nat × AV) → Prop} {A B : List (Oper × AV)} {env : List (Nat × AV)} (hA : SeqG C A env) (hB : SeqG (fun i => C (A.length + i)) B (envL (fun _ => true) A 0 env)) : SeqG C (A ++ B) env := by
  intro i o x hi
  rw [envL_append]
  by_cases hlt : i < A.length
  · rw [List.getElem?_append_left hlt] at hi
    rw [envL_none B _ _ (fun j hj => by simp; omega)]
    exact hA i o x hi
  · rw [List.getElem?_append_right (by omega)] at hi
    have := hB (i - A.length) o x hi
    dsimp only at this
    rw [show A.length + (i - A.length) = i by omega] at this
    have e1 : envL (fun j => decide (j < i)) A 0 env = envL (fun _ => true) A 0 env := envL_ext A 0 env fun j _ hj => by simp; omega
    rw [e1, Nat.zero_add, show A.length = A.length + 0 from rfl, envL_shiftk A.length B 0]
    have e2 : envL (fun j => decide (A.length + j < i)) B 0 (envL (fun _ => true) A 0 env) = envL (fun j => decide (j < i - A.length)) B 0 (envL (fun _ => true) A 0 env) :=
      envL_ext B 0 _ fun j _ _ => by rw [Bool.eq_iff_iff]; simp; omega
    rw [e2]
    exact this
theorem SeqG.one {C : Nat → Oper → AV → List (Nat × AV) → Prop} {o : Oper} {x : AV} {env : List (Nat × AV)} (h : C 0 o x env) : SeqG C [(o, x)] env := by
  intro i o' x' hi
  cases i with
  | zero => simp at hi; obtain ⟨rfl, rfl⟩ := hi; simpa [envL] using h
  | succ i => simp at hi
end
end Go.Proofs.Yteadenldfaddfaa
namespace Go.Proofs.Yteadenldfaddfaa
open Go
set_option linter.unusedVariables false
/-- A function without a body, of plain values. -/
theorem ACt.outer {P : Program} {f : FuncId} {fn : Func} {e : Array Value → Sem Value} {ls : List Value} {x : AV} (hf : P.funcs[f]? = some fn) (hname : (fn.name == "runtime.NumGoroutine") = false)
    (hb : fn.body.isNone = true) (hn : Extern.findNext fn = none) (he : Extern.find fn = some e)
    (hr : ∀ w : World, ∃ v, (e ls.toArray).run P w = .ok v w ∧ ∀ I, Rep w I v x) : ACt P f (ls.map .lit) [] (Fn x) := by
  intro cx vs hK hw hs hv
  have hvs : vs = ls.toArray := by
    apply Array.ext
    · simpa using hs
    · intro i h1 h2
      have h3 : i < ls.length := by simpa using h2
      have := hv i (by simpa using h3)
      have e1 : (ls.map AV.lit).getD i .any = .lit ls[i] := by simp [List.getD, h3]
      have e2 : vs.getD i undef = vs[i] := by simp [h1]
      rw [e1, e2] at this
      simpa using this.lit_inv
  obtain ⟨v, h1, h2⟩ := hr cx.w0
  refine .inr ⟨v, cx.w0, ?_, v, x, [], rfl, ⟨rfl, rfl⟩, hw, h2 _⟩
  rw [run_callFunc_extern hf hname hb hn he, hvs, h1, Result.andThen_ok]
def ndF : Hp → Prop
  | [] => True
  | (b, _) :: r => fresh r b ∧ ndF r
theorem ndF_of : ∀ {H : Hp}, (H.map (·.1)).Nodup → ndF H
  | [], _ => trivial
  | (b, m) :: r, h => by
    simp only [List.map_cons, List.nodup_cons] at h
    refine ⟨fun x hx => ?_, ndF_of h.2⟩
    have : x.1 ≠ b := fun he => h.1 (he ▸ List.mem_map_of_mem hx)
    exact ⟨this, fun he => this he.symm⟩
theorem WP.nd {P : Program} {cx : Cx} {n : Nat} {c : Code} {Q : Exit → St → Prop} {s : St} (h : ndF s.H → WP P cx n c Q s) : WP P cx n c Q s := fun a w ok => h (ndF_of ok.world.nodup) a w ok
end Go.Proofs.Yteadenldfaddfaa
namespace Go.Proofs.Yteadenldfaddfaa
open Go
theorem tyc0 : tyc Try.prog 0 = some none := by kernel_rfl
theorem tyc3 : tyc Try.prog 3 = some none := by kernel_rfl
theorem zmb3 : zmb Try.prog 3 = some (.cells [(.lit (.int .i64 0))] 1 3) := by kernel_rfl
theorem tyc4 : tyc Try.prog 4 = some none := by kernel_rfl
theorem zmb4 : zmb Try.prog 4 = some (.cells [(.lit (.bool false))] 1 4) := by kernel_rfl
theorem tyc5 : tyc Try.prog 5 = some none := by kernel_rfl
theorem zmb5 : zmb Try.prog 5 = some (.cells [(.lit (.int .u8 0))] 1 5) := by kernel_rfl
theorem tyc9 : tyc Try.prog 9 = some none := by kernel_rfl
theorem zmb9 : zmb Try.prog 9 = some (.cells [(.lit (.string ⟨#[]⟩))] 1 9) := by kernel_rfl
theorem tyc21 : tyc Try.prog 21 = some none := by kernel_rfl
theorem zmb21 : zmb Try.prog 21 = some (.cells [(.lit (.int .i32 0))] 1 21) := by kernel_rfl
theorem tyc22 : tyc Try.prog 22 = some none := by kernel_rfl
theorem zmb22 : zmb Try.prog 22 = some (.cells [(.lit (.int .u64 0))] 1 22) := by kernel_rfl
theorem tyc24 : tyc Try.prog 24 = some none := by kernel_rfl
theorem zmb24 : zmb Try.prog 24 = some (.cells [(.lit (.int .i64 0))] 1 24) := by kernel_rfl
theorem tyc25 : tyc Try.prog 25 = some none := by kernel_rfl
theorem tyc27 : tyc Try.prog 27 = some none := by kernel_rfl
theorem elt27 : elt Try.prog 27 = some (none, 1) := by kernel_rfl
theorem mkz27 : mkz Try.prog 27 = none := by kernel_rfl
theorem mkc27 : mkc Try.prog 27 = some (4, 1, 1, [(.lit (.bool false))]) := by kernel_rfl
theorem apT27 : apT Try.prog 27 = some (4, 1, 1) := by kernel_rfl
theorem elk27 : elk Try.prog 27 = none := by kernel_rfl
theorem zmb27 : zmb Try.prog 27 = some (.cells [(.lit (.slice none 0 0))] 1 27) := by kernel_rfl
theorem tyc31 : tyc Try.prog 31 = some (some 2) := by kernel_rfl
theorem foff31_0 : foff Try.prog 31 0 = some 0 := by kernel_rfl
theorem fpart31_0 : fpart Try.prog 31 0 = some (0, none) := by kernel_rfl
theorem foff31_1 : foff Try.prog 31 1 = some 1 := by kernel_rfl
theorem fpart31_1 : fpart Try.prog 31 1 = some (1, none) := by kernel_rfl
theorem fe31 : flatEq Try.prog 31 [1, 1] := flatEq_of (by kernel_rfl)
theorem zmb31 : zmb Try.prog 31 = some (.cells [(.lit (.int .u64 0)), (.lit (.int .u64 0))] 2 31) := by kernel_rfl
theorem bldT31 : bldT Try.prog 31 = some ([(.int .u64 0), (.int .u64 0)], [(0, 1), (1, 1)]) := by kernel_rfl
theorem tyc35 : tyc Try.prog 35 = some none := by kernel_rfl
theorem tyc39 : tyc Try.prog 39 = some none := by kernel_rfl
theorem zmb39 : zmb Try.prog 39 = some (.cells [(.lit (.int .u64 0))] 1 39) := by kernel_rfl
theorem tyc41 : tyc Try.prog 41 = some none := by kernel_rfl
theorem tyc43 : tyc Try.prog 43 = some none := by kernel_rfl
theorem tyc45 : tyc Try.prog 45 = some none := by kernel_rfl
theorem tyc58 : tyc Try.prog 58 = some none := by kernel_rfl
theorem tyc63 : tyc Try.prog 63 = some (some 39) := by kernel_rfl
theorem elt63 : elt Try.prog 63 = some ((some 39), 1) := by kernel_rfl
theorem arr163 : arr1 Try.prog 63 = some 39 := by kernel_rfl
theorem zmb63 : zmb Try.prog 63 = some (.zs .u8 [0, 0, 0, 0, 0, 0, 0, 0, 0, 0, 0, 0, 0, 0, 0, 0, 0, 0, 0, 0, 0, 0, 0, 0, 0, 0, 0, 0, 0, 0, 0, 0, 0, 0, 0, 0, 0, 0, 0] 39 63) := by kernel_rfl
theorem bldT63 : bldT Try.prog 63 = some ([(.int .u8 0), (.int .u8 0), (.int .u8 0), (.int .u8 0), (.int .u8 0), (.int .u8 0), (.int .u8 0), (.int .u8 0), (.int .u8 0), (.int .u8 0), (.int .u8 0), (.int .u8 0), (.int .u8 0), (.int .u8 0), (.int .u8 0), (.int .u8 0), (.int .u8 0), (.int .u8 0), (.int .u8 0), (.int .u8 0), (.int .u8 0), (.int .u8 0), (.int .u8 0), (.int .u8 0), (.int .u8 0), (.int .u8 0), (.int .u8 0), (.int .u8 0), (.int .u8 0), (.int .u8 0), (.int .u8 0), (.int .u8 0), (.int .u8 0), (.int .u8 0), (.int .u8 0), (.int .u8 0), (.int .u8 0), (.int .u8 0), (.int .u8 0)], [(0, 1), (1, 1), (2, 1), (3, 1), (4, 1), (5, 1), (6, 1), (7, 1), (8, 1), (9, 1), (10, 1), (11, 1), (12, 1), (13, 1), (14, 1), (15, 1), (16, 1), (17, 1), (18, 1), (19, 1), (20, 1), (21, 1), (22, 1), (23, 1), (24, 1), (25, 1), (26, 1), (27, 1), (28, 1), (29, 1), (30, 1), (31, 1), (32, 1), (33, 1), (34, 1), (35, 1), (36, 1), (37, 1), (38, 1)]) := by kernel_rfl
theorem tyc64 : tyc Try.prog 64 = some none := by kernel_rfl
theorem elt64 : elt Try.prog 64 = some (none, 1) := by kernel_rfl
theorem mkz64 : mkz Try.prog 64 = some (5, 1, .u8) := by kernel_rfl
theorem apT64 : apT Try.prog 64 = some (5, 1, 1) := by kernel_rfl
theorem elk64 : elk Try.prog 64 = (some .u8) := by kernel_rfl
theorem zmb64 : zmb Try.prog 64 = some (.cells [(.lit (.slice none 0 0))] 1 64) := by kernel_rfl
theorem tyc67 : tyc Try.prog 67 = some none := by kernel_rfl
theorem zmb67 : zmb Try.prog 67 = some (.cells [(.lit .nilIface)] 1 67) := by kernel_rfl
theorem tyc69 : tyc Try.prog 69 = some none := by kernel_rfl
theorem elt69 : elt Try.prog 69 = some (none, 1) := by kernel_rfl
theorem mkz69 : mkz Try.prog 69 = some (3, 8, .i64) := by kernel_rfl
theorem apT69 : apT Try.prog 69 = some (3, 1, 8) := by kernel_rfl
theorem elk69 : elk Try.prog 69 = (some .i64) := by kernel_rfl
theorem zmb69 : zmb Try.prog 69 = some (.cells [(.lit (.slice none 0 0))] 1 69) := by kernel_rfl
theorem mixed : Try.prog.follows .mixedOrders = true := by kernel_rfl
end Go.Proofs.Yteadenldfaddfaa
namespace Go.Proofs.Yteadenldfaddfaa
open Go
set_option linter.unusedSimpArgs false
set_option linter.unusedVariables false
section
variable {P : Program} {f : FuncId} {args : List AV} {H F F0 R : Hp} {post : AV → Hp → Prop}
theorem DCt.updN {x : AV} (hP : H.Perm (F ++ R)) (h : ACt P f args F (fun r F' => r = x ∧ F' = F)) : DCt P f args H x :=
  ⟨F, R, _, hP, h, fun r F' hr _ => by obtain ⟨e1, e2⟩ := hr; subst e1 e2; exact ⟨rfl, hP.symm⟩⟩
theorem CallV.updN {x : AV} (hP : H.Perm (F ++ R)) (h : ACt P f args F (fun r F' => r = x ∧ F' = F0)) (hp : post x (F0 ++ R)) : CallV P f args H post :=
  ⟨F, R, _, hP, h, fun r F' hr _ => by obtain ⟨e1, e2⟩ := hr; subst e1 e2; exact hp⟩
/-- A call that may leave things in one of many ways. -/
theorem CallV.ex {Γ : Type} {x : Γ → AV} {m : Γ → Hp} (hP : H.Perm (F ++ R)) (h : ACt P f args F (fun r F' => ∃ g, r = x g ∧ F' = m g)) (hp : ∀ g, post (x g) (m g ++ R)) : CallV P f args H post :=
  ⟨F, R, _, hP, h, fun r F' hr _ => by obtain ⟨g, e1, e2⟩ := hr; subst e1 e2; exact hp g⟩
theorem ExF.up {K : AV → Prop} {x : AV} (hP : ∃ R, H.Perm (F ++ R)) (h : ACt P f args F (fun r F' => r = x ∧ F' = F)) (hk : K x) : ExF P f args H K := let ⟨_, hP⟩ := hP; ExF.on (DCt.updN hP h) hk
theorem ExG.up {c : Bool} {K : AV → Prop} {x : AV} (hP : ∃ R, H.Perm (F ++ R)) (h : c = true → ACt P f args F (fun r F' => r = x ∧ F' = F)) (hk : K x) : ExG c P f args H K := let ⟨_, hP⟩ := hP; ExG.on (fun hc => DCt.updN hP (h hc)) hk
end
end Go.Proofs.Yteadenldfaddfaa
namespace Go.Proofs.Yteadenldfaddfaa
open Go
set_option linter.unusedSimpArgs false
set_option linter.unusedVariables false
section
variable {P : Program} {cx : Cx} {n : Nat} {ops : Array Oper}
/-- A call that changes blocks of ours in one way. -/
def ECt (P : Program) (f : FuncId) (args : List AV) (E : Hp) (x : AV) (E' : Hp) : Prop :=
  ∃ F R F0, E.Perm (F ++ R) ∧ E' = F0 ++ R ∧ F0.map (·.1) = F.map (·.1) ∧ ACt P f args F (fun r F' => r = x ∧ F' = F0)
def ExW (P : Program) (f : FuncId) (args : List AV) (E : Hp) (K : AV → Hp → Prop) (d : Hd K := .mk) : Prop := ∃ x E', ECt P f args E x E' ∧ K x E'
theorem ExW.mk {f : FuncId} {args : List AV} {E F R F0 : Hp} {K : AV → Hp → Prop} {x : AV} (hP : E.Perm (F ++ R)) (h : ACt P f args F (fun r F' => r = x ∧ F' = F0)) (hk : F0.map (·.1) = F.map (·.1)) (hK : K x (F0 ++ R)) : ExW P f args E K :=
  ⟨x, F0 ++ R, ⟨F, R, F0, hP, rfl, hk, h⟩, hK⟩
theorem SeqG.cons {C : Nat → Oper → AV → List (Nat × AV) → Prop} {o : Oper} {x : AV} {r : List (Oper × AV)} {env : List (Nat × AV)} (h0 : C 0 o x env) (h : SeqG (fun i => C (i + 1)) r (putE env o.dst x)) : SeqG C ((o, x) :: r) env := by
  have := SeqG.app (C := C) (A := [(o, x)]) (B := r) (env := env) (SeqG.one h0) (by
    simp only [envL, if_true, List.length_cons, List.length_nil]
    have e : (fun i => C (0 + 1 + i)) = fun i => C (i + 1) := by funext i; rw [show 0 + 1 + i = i + 1 by omega]
    rw [e]; exact h)
  exact this
/-! ### The order -/
/-! ### Ahead of the parting, the parting, behind it -/
theorem Stdy.congr {o : Oper} {env env' : List (Nat × AV)} {H : Hp} {x : AV} (h : ∀ t, look env t = look env' t) (hS : Stdy P cx n ops o env H x) : Stdy P cx n ops o env' H x :=
  ⟨hS.1, fun a w X R h1 h2 h3 h4 h5 => hS.2 a w X R h1 h2 h3 (fun t ht => by rw [h t]; exact h4 t ht) h5⟩
end
end Go.Proofs.Yteadenldfaddfaa
namespace Go.Proofs.Yteadenldfaddfaa
open Go
set_option linter.unusedSimpArgs false
set_option linter.unusedVariables false
section
variable {P : Program} {cx : Cx} {n : Nat} {ops : Array Oper}
/-- A call over blocks of E, of whatever outcome; those of H0 are not lent. -/
def WCt (P : Program) (f : FuncId) (args : List AV) (E H0 : Hp) (post : AV → Hp → Prop) (d : Hd post := .mk) : Prop :=
  ∃ F R p, E.Perm (F ++ R) ∧ ACt P f args F p ∧ ∀ r F', p r F' → (((F' ++ R) ++ H0).map (·.1)).Nodup → post r (F' ++ R)
theorem WCt.row {f : FuncId} {args : List AV} {E H0 : Hp} {b : Nat} {m : MB} {k : IntKind} {ty : TypeId} {zs : List Int} {post : AV → Hp → Prop} (hg : hget E b = some m) (h : ACt P f args [(b, m)] (Row k ty zs))
    (hp : Nu fun b' => Nu fun cap' => Fr (zs.length ≤ cap' ∧ cap' ≤ maxLen ∧ fresh (hdel E b ++ H0) b') (post (ms b' 0 zs.length cap') ((b', .zs k zs cap' ty) :: hdel E b))) : WCt P f args E H0 post := by
  refine ⟨[(b, m)], hdel E b, _, hget_perm hg, h, ?_⟩
  rintro r F' ⟨b', cap', h1, h2, rfl, rfl⟩ hn
  exact ((hp.out b').out cap').out ⟨h1, h2, fresh_of_nodup hn⟩
/-- A new row, handed back as one that nobody writes any more. -/
theorem ACt.fz {f : FuncId} {args : List AV} {F F0 : Hp} {k : IntKind} {ty : TypeId} {zs : List Int}
    (h : ACt P f args F (fun r F' => ∃ q : {p : Nat × Nat // zs.length ≤ p.2 ∧ p.2 ≤ 9223372036854775807}, r = ms q.1.1 0 zs.length q.1.2 ∧ F' = (q.1.1, .zs k zs q.1.2 ty) :: F0)) :
    ACt P f args F (fun r F' => r = .slz k zs ∧ F' = F0) := by
  intro cx vs h1 h2 h3 h4
  refine (h cx vs h1 h2 h3 h4).mono ?_
  rintro e w' ⟨v, r, F', he, ⟨q, rfl, rfl⟩, hw, hr⟩
  have hv := hr.lit_inv
  have hp : OkW cx (F0 ++ [(q.1.1, .zs k zs q.1.2 ty)]) w' := hw.perm (List.perm_append_comm (l₁ := [(q.1.1, MB.zs k zs q.1.2 ty)]))
  obtain ⟨d1, d2⟩ := hp.drop
  refine ⟨v, _, F0, he, ⟨rfl, rfl⟩, d1, ?_⟩
  rw [hv]
  have hm := hw.mem _ (List.mem_cons_self ..)
  have hlt := hm.lt
  obtain ⟨cur, e1, e2, e3, e4⟩ := hm
  have hn := hw.nodup
  simp only [List.map_cons, List.nodup_cons] at hn
  refine .slz _ _ _ _ q.2.1 (by rw [maxLen_eq]; exact q.2.2) (.inr ⟨q.1.1, 0, rfl, .inr ⟨hw.keys _ (List.mem_cons_self ..), hlt, fun x hx he => hn.1 (List.mem_map.2 ⟨x, hx, he⟩)⟩, fun i hi => ?_⟩)
  rw [Nat.zero_add, cell_of_block e1, e4 i hi]
end
end Go.Proofs.Yteadenldfaddfaa
namespace Go.Proofs.Yteadenldfaddfaa
open Go
set_option linter.unusedSimpArgs false
set_option linter.unusedVariables false
/-- A row that nobody will write any more: so it stands in other blocks' cells too. -/
theorem rep_frz {w : World} {I I0 : Nat → Prop} {b : Nat} {k : IntKind} {zs : List Int} {s0 ty : Nat} {v : Value} {x : AV} (hm : MOk w I0 b (.zs k zs s0 ty)) (hb : I b) (hr' : Rep w I v x) : Rep w I v (frz b k zs x) := by
  unfold frz
  split
  · rename_i b' off m cap
    split
    · rename_i he
      subst he
      split
      · rename_i hc
        obtain ⟨c1, c2, c3⟩ := hc
        have := hr'.lit_inv
        subst this
        obtain ⟨cur, d1, d2, d3, d4⟩ := hm
        have hl : ((zs.drop off).take m).length = m := by simp; omega
        have hrr : Rep w I (.slice (some ⟨b', off, none⟩) ((zs.drop off).take m).length cap) (.slz k ((zs.drop off).take m)) := by
          refine .slz _ _ _ _ (by omega) c3 (.inr ⟨b', off, rfl, hb, fun j hj => ?_⟩)
          have hj' : j < m := by omega
          rw [cell_of_block d1, d4 _ (by omega)]
          have : off + j < zs.length := by omega
          simp [List.getD, hj']
        rw [hl] at hrr
        exact hrr
      · exact .any _
    · exact hr'
  · exact hr'
/-- A row of ours, given up for good: the callee sees it as one that nobody writes; beside it blocks that are lent. -/
theorem ACt.frzG {P : Program} {f : FuncId} {args args' : List AV} {b : Nat} {k : IntKind} {zs : List Int} {s0 ty : Nat} {F : Hp} {p : AV → Hp → Prop} (h : ACt P f args' F p) (he : args.map (Proofs.Yteadenldfaddfaa.frz b k zs) = args') :
    ACt P f args ((b, .zs k zs s0 ty) :: F) p := by
  intro cx vs hK hw hs hv
  subst he
  have hbl := keys_lt hw _ (List.mem_cons_self ..)
  have hnd := hw.nodup
  simp only [List.map_cons, List.nodup_cons] at hnd
  have himm : ∀ c, imm cx cx.w0 ((b, .zs k zs s0 ty) :: F) c → cx.I c := by
    rintro c (hc | ⟨h1, h2, h3⟩)
    · exact hc
    · rcases h1 with h1 | h1
      · rw [hK] at h1
        obtain ⟨x, hx, he⟩ := List.mem_map.1 h1
        exact absurd he (h3 x hx)
      · omega
  have hI : ∀ c, (cx.I c ∨ c = b) → c < cx.w0.heap.size ∧ c ∉ F.map (·.1) := by
    rintro c (hc | rfl)
    · refine ⟨(cx.hI c hc).1, fun hm => (cx.hI c hc).2 ?_⟩
      rw [hK]; exact List.mem_cons_of_mem _ hm
    · exact ⟨hbl, hnd.1⟩
  have := h ⟨cx.w0, fun c => cx.I c ∨ c = b, F.map (·.1), hI⟩ vs rfl
    ⟨hnd.2, fun x hx => .inl (List.mem_map_of_mem hx), fun x hx => (hw.mem x (List.mem_cons_of_mem _ hx)).mono (fun c hc => ⟨.inl (.inl (himm c hc)), rfl⟩) rfl, ⟨rfl, rfl, rfl, Nat.le_refl _, fun _ _ _ => rfl⟩⟩
    (by simpa using hs) (fun i hi => by
      have hi' : i < args.length := by simpa using hi
      have := rep_frz (hw.mem _ (List.mem_cons_self ..)) (I := fun c => cx.I c ∨ c = b) (.inr rfl) ((hv i hi').mono fun c hc => ⟨.inl hc, rfl⟩)
      simpa [List.getD, List.getElem?_map, hi'] using this)
  refine this.mono ?_
  rintro e w' ⟨v, r, F', he, hp, hw', hr⟩
  have e1 := hw.ext
  have e2 := hw'.ext
  have hsz : cx.w0.heap.size ≤ w'.heap.size := e2.size
  have hkey : ∀ x ∈ F', x.1 ∈ cx.K ∨ cx.w0.heap.size ≤ x.1 := fun x hx => by
    rcases hw'.keys x hx with h | h
    · exact .inl (by rw [hK]; exact List.mem_cons_of_mem _ h)
    · exact .inr h
  have hbF : ∀ x ∈ F', x.1 ≠ b := fun x hx he => by
    rcases hw'.keys x hx with h | h
    · exact hnd.1 (he ▸ h)
    · simp only at h; omega
  have hIm : ∀ c, imm ⟨cx.w0, fun c => cx.I c ∨ c = b, F.map (·.1), hI⟩ w' F' c → imm cx w' F' c := by
    rintro c ((hc | rfl) | ⟨h1, h2, h3⟩)
    · exact .inl hc
    · exact .inr ⟨.inl (by rw [hK]; exact List.mem_cons_self ..), by omega, hbF⟩
    · refine .inr ⟨?_, h2, h3⟩
      rcases h1 with h1 | h1
      · exact .inl (by rw [hK]; exact List.mem_cons_of_mem _ h1)
      · exact .inr h1
  refine ⟨v, r, F', he, hp, ⟨hw'.nodup, hkey, fun x hx => (hw'.mem x hx).mono (fun c hc => ⟨hIm c hc, rfl⟩) rfl, ?_⟩, hr.mono fun c hc => ⟨hIm c hc, rfl⟩⟩
  exact ⟨e2.os.trans e1.os, e2.tape.trans e1.tape, e2.output.trans e1.output, Nat.le_trans e1.size e2.size, fun c hc hk => (e2.blk c hc (fun hm => hk (by rw [hK]; exact List.mem_cons_of_mem _ hm))).trans (e1.blk c hc hk)⟩
theorem CallV.frzE {P : Program} {f : FuncId} {args args' : List AV} {H F R : Hp} {post : AV → Hp → Prop} {Γ : Type} {x : Γ → AV} {m : Γ → Hp} (b : Nat) {k : IntKind} {zs : List Int} {s0 ty : Nat} (hg : hget H b = some (.zs k zs s0 ty))
    (h : ACt P f args' F (fun r F' => ∃ g, r = x g ∧ F' = m g)) (he : args.map (Proofs.Yteadenldfaddfaa.frz b k zs) = args') (hP : (hdel H b).Perm (F ++ R)) (hp : ∀ g, post (x g) (m g ++ R)) : CallV P f args H post :=
  ⟨(b, .zs k zs s0 ty) :: F, R, _, (hget_perm hg).trans (List.Perm.cons _ hP), h.frzG he, fun r F' hr _ => by obtain ⟨g, e1, e2⟩ := hr; subst e1 e2; exact hp g⟩
section
variable {P : Program} {cx : Cx} {n : Nat} {ops : Array Oper} {H : Hp}
end
end Go.Proofs.Yteadenldfaddfaa
namespace Go.Proofs.Yteadenldfaddfaa
open Go
def lenN (q : Nat) : Nat := if q = 0 then 0 else Nat.log2 q + 1
theorem lenN_le {q d : Nat} : lenN q ≤ d ↔ q < 2 ^ d := by
  unfold lenN
  by_cases h : q = 0
  · subst h; simp [Nat.two_pow_pos]
  · rw [if_neg h, ← Nat.log2_lt h]; omega
/-- the bit lists -/
def valB : List Bool → Nat
  | [] => 0
  | b :: l => b.toNat + 2 * valB l
theorem valB_app : ∀ (a b : List Bool), valB (a ++ b) = valB a + 2 ^ a.length * valB b
  | [], b => by simp [valB]
  | x :: a, b => by simp [valB, valB_app a b, Nat.pow_succ, Nat.mul_add]; rw [Nat.mul_comm (2 ^ a.length) 2, Nat.mul_assoc]; omega
theorem valB_lt : ∀ l : List Bool, valB l < 2 ^ l.length
  | [] => by simp [valB]
  | b :: l => by
    have := valB_lt l
    simp only [valB, List.length_cons, Nat.pow_succ]
    cases b <;> simp <;> omega
def bitsN (n : Nat) (k : Nat) : List Bool := (List.range k).map fun i => decide (n / 2 ^ i % 2 = 1)
theorem bitsN_len (n k : Nat) : (bitsN n k).length = k := by simp [bitsN]
theorem bitsN_succ (n k : Nat) : bitsN n (k + 1) = bitsN n k ++ [decide (n / 2 ^ k % 2 = 1)] := by simp [bitsN, List.range_succ]
theorem valB_bitsN (n : Nat) : ∀ k, valB (bitsN n k) = n % 2 ^ k
  | 0 => by simp [bitsN, valB, Nat.mod_one]
  | k + 1 => by
    rw [bitsN_succ, valB_app, valB_bitsN n k, bitsN_len, Nat.pow_succ, Nat.mod_mul]
    congr 2
    simp only [valB]
    have : n / 2 ^ k % 2 < 2 := Nat.mod_lt _ (by omega)
    by_cases h : n / 2 ^ k % 2 = 1 <;> simp [h] <;> omega
def bitA (l : List Bool) (i : Nat) : Nat := if i < l.length ∧ l.getD i false = true then 1 else 0
theorem bitA_eq (l : List Bool) (i : Nat) : bitA l i = (l.getD i false).toNat := by
  unfold bitA
  by_cases h : i < l.length
  · cases e : l.getD i false <;> simp [h]
  · simp [h]
theorem valB_drop (l : List Bool) (i : Nat) : valB (l.drop i) = bitA l i + 2 * valB (l.drop (i + 1)) := by
  rw [bitA_eq]
  by_cases h : i < l.length
  · rw [List.drop_eq_getElem_cons h]; simp [valB, List.getD, List.getElem?_eq_getElem h]
  · rw [List.drop_eq_nil_of_le (by omega), List.drop_eq_nil_of_le (by omega)]; simp [valB, List.getD, List.getElem?_eq_none (show l.length ≤ i by omega)]
def plusG (a b : List Bool) : Nat → Nat → Nat → List Bool
  | 0, _, _ => []
  | n + 1, i, up => if (i < a.length ∨ i < b.length) ∨ 0 < up then decide ((bitA a i + bitA b i + up) % 2 = 1) :: plusG a b n (i + 1) ((bitA a i + bitA b i + up) / 2) else []
theorem bitA_le (l : List Bool) (i : Nat) : bitA l i ≤ 1 := by unfold bitA; split <;> omega
def plusF (a b : List Bool) : List Bool := plusG a b (max a.length b.length + 1) 0 0
theorem plusG_val (a b : List Bool) : ∀ n i up, up ≤ 1 → max a.length b.length + 1 - i ≤ n → (max a.length b.length + 1 ≤ i → up = 0) → valB (plusG a b n i up) = valB (a.drop i) + valB (b.drop i) + up
  | 0, i, up, h1, h2, h3 => by
    rw [List.drop_eq_nil_of_le (by omega), List.drop_eq_nil_of_le (by omega), h3 (by omega)]; simp [plusG, valB]
  | n + 1, i, up, h1, h2, h3 => by
    simp only [plusG]
    have ha := bitA_le a i
    have hb := bitA_le b i
    by_cases h : (i < a.length ∨ i < b.length) ∨ 0 < up
    · rw [if_pos h, valB, plusG_val a b n (i + 1) _ (by omega) (by omega) (fun h4 => ?_), valB_drop a i, valB_drop b i]
      · generalize bitA a i = x at *
        generalize bitA b i = y at *
        by_cases hh : (x + y + up) % 2 = 1 <;> simp [hh] <;> omega
      · have e1 : bitA a i = 0 := by unfold bitA; rw [if_neg (by omega)]
        have e2 : bitA b i = 0 := by unfold bitA; rw [if_neg (by omega)]
        omega
    · rw [if_neg h, List.drop_eq_nil_of_le (by omega), List.drop_eq_nil_of_le (by omega)]; simp only [valB]; omega
theorem plusF_val (a b : List Bool) : valB (plusF a b) = valB a + valB b := by
  unfold plusF
  rw [plusG_val a b _ 0 0 (by omega) (by omega) (by omega)]; simp
theorem plusG_len (a b : List Bool) : ∀ n i up, (plusG a b n i up).length ≤ n
  | 0, i, up => by simp [plusG]
  | n + 1, i, up => by
    simp only [plusG]
    split
    · have := plusG_len a b n (i + 1) ((bitA a i + bitA b i + up) / 2); simp; omega
    · simp
theorem plusF_len (a b : List Bool) : (plusF a b).length ≤ max a.length b.length + 1 := plusG_len a b _ 0 0
def timesF (a b : List Bool) : Nat → List Bool
  | 0 => []
  | i + 1 => if b.getD i false = true then plusF (timesF a b i) (List.replicate i false ++ a) else timesF a b i
theorem valB_rep : ∀ (i : Nat) (a : List Bool), valB (List.replicate i false ++ a) = 2 ^ i * valB a
  | 0, a => by simp
  | i + 1, a => by rw [List.replicate_succ, List.cons_append, valB, valB_rep i a, Nat.pow_succ]; simp; rw [← Nat.mul_assoc, Nat.mul_comm 2]
theorem valB_take (l : List Bool) (i : Nat) (h : i < l.length) : valB (l.take (i + 1)) = valB (l.take i) + 2 ^ i * (l.getD i false).toNat := by
  rw [List.take_succ_eq_append_getElem h, valB_app, List.length_take, Nat.min_eq_left (by omega)]
  simp [valB, List.getD, List.getElem?_eq_getElem h]
theorem timesF_val (a b : List Bool) : ∀ i, i ≤ b.length → valB (timesF a b i) = valB a * valB (b.take i)
  | 0, _ => by simp [timesF, valB]
  | i + 1, h => by
    rw [timesF, valB_take b i h]
    have := timesF_val a b i (by omega)
    by_cases hb : b.getD i false = true
    · rw [if_pos hb, plusF_val, this, valB_rep, hb, Nat.mul_add]; simp [Nat.mul_comm]
    · rw [if_neg hb, this, (Bool.not_eq_true _).mp hb]; simp
theorem timesF_len (a b : List Bool) : ∀ i, (timesF a b i).length ≤ a.length + i
  | 0 => by simp [timesF]
  | i + 1 => by
    have := timesF_len a b i
    have h2 := plusF_len (timesF a b i) (List.replicate i false ++ a)
    simp only [timesF]
    split <;> simp at * <;> omega
theorem wrap_u64_nat {n : Nat} (h : n < 18446744073709551616) : IntKind.u64.wrap (n : Int) = (n : Int) := wrap_u64 (by omega) (by omega)
theorem wrap_u64_big (n : Nat) : IntKind.u64.wrap (n : Int) = ((n % 18446744073709551616 : Nat) : Int) := by rw [wrap_u64_mod]; omega
theorem wrap_i64_nat {n : Nat} (h : n < 9223372036854775808) : IntKind.i64.wrap (n : Int) = (n : Int) := wrap_i64 (by omega) (by omega)
theorem ofInt_nat (n : Nat) : BitVec.ofInt 64 (n : Int) = BitVec.ofNat 64 n := by
  apply BitVec.eq_of_toNat_eq; simp
theorem and_low32 (x : Nat) (h : x < 18446744073709551616) : ibit .and .u64 (x : Int) 4294967295 = ((x % 4294967296 : Nat) : Int) := by
  have e : ibit .and .u64 (x : Int) 4294967295 = IntKind.u64.wrap ((BitVec.ofInt 64 (x : Int) &&& BitVec.ofInt 64 ((4294967295 : Nat) : Int)).toNat : Int) := rfl
  rw [e, ofInt_nat, ofInt_nat, BitVec.toNat_and, BitVec.toNat_ofNat, BitVec.toNat_ofNat, Nat.mod_eq_of_lt h, show (4294967295 : Nat) % 2 ^ 64 = 2 ^ 32 - 1 from by decide, Nat.and_two_pow_sub_one_eq_mod]
  exact wrap_u64_nat (by omega)
theorem mul_le_sq {a b : Nat} (ha : a ≤ 4294967295) (hb : b ≤ 4294967295) : a * b ≤ 18446744065119617025 := Nat.mul_le_mul ha hb
theorem mul_parts (x y : Nat) (hx : x < 18446744073709551616) (hy : y < 18446744073709551616) :
    let x0 := x % 4294967296; let x1 := x / 4294967296; let y0 := y % 4294967296; let y1 := y / 4294967296
    let t := x1 * y0 + x0 * y0 / 4294967296
    let w1 := t % 4294967296 + x0 * y1
    x0 * y0 < 18446744073709551616 ∧ x1 * y0 < 18446744073709551616 ∧ t < 18446744073709551616 ∧ x0 * y1 < 18446744073709551616 ∧ w1 < 18446744073709551616 ∧ x1 * y1 < 18446744073709551616 ∧ x1 * y1 + t / 4294967296 < 18446744073709551616 ∧
    x1 * y1 + t / 4294967296 + w1 / 4294967296 = x * y / 18446744073709551616 ∧ x * y / 18446744073709551616 < 18446744073709551616 := by
  intro x0 x1 y0 y1 t w1
  have b1 : x0 * y0 ≤ _ := mul_le_sq (show x0 ≤ 4294967295 by omega) (show y0 ≤ 4294967295 by omega)
  have b2 : x1 * y0 ≤ _ := mul_le_sq (show x1 ≤ 4294967295 by omega) (show y0 ≤ 4294967295 by omega)
  have b3 : x0 * y1 ≤ _ := mul_le_sq (show x0 ≤ 4294967295 by omega) (show y1 ≤ 4294967295 by omega)
  have b4 : x1 * y1 ≤ _ := mul_le_sq (show x1 ≤ 4294967295 by omega) (show y1 ≤ 4294967295 by omega)
  have e : x * y = x1 * y1 * 18446744073709551616 + (x1 * y0 + x0 * y1) * 4294967296 + x0 * y0 := by
    have ex : x = x1 * 4294967296 + x0 := by omega
    have ey : y = y1 * 4294967296 + y0 := by omega
    conv => lhs; rw [ex, ey]
    rw [Nat.add_mul, Nat.mul_add, Nat.mul_add, Nat.add_mul]
    have c1 : x1 * 4294967296 * (y1 * 4294967296) = x1 * y1 * 18446744073709551616 := by
      rw [Nat.mul_mul_mul_comm]
    have c2 : x1 * 4294967296 * y0 = x1 * y0 * 4294967296 := by rw [Nat.mul_right_comm]
    have c3 : x0 * (y1 * 4294967296) = x0 * y1 * 4294967296 := by rw [Nat.mul_assoc]
    omega
  have ht : t = x1 * y0 + x0 * y0 / 4294967296 := rfl
  have hw : w1 = t % 4294967296 + x0 * y1 := rfl
  clear_value x0 x1 y0 y1 t w1
  generalize x0 * y0 = p at *
  generalize x1 * y0 = q at *
  generalize x0 * y1 = r at *
  generalize x1 * y1 = s at *
  generalize x * y = z at *
  refine ⟨?_, ?_, ?_, ?_, ?_, ?_, ?_, ?_, ?_⟩ <;> omega
end Go.Proofs.Yteadenldfaddfaa
namespace Go.Proofs.Yteadenldfaddfaa
open Go
set_option linter.unusedVariables false
set_option linter.unusedSimpArgs false
theorem TFExB : ((((((type_of% tyc0) ∧ (type_of% tyc3)) ∧ ((type_of% zmb3) ∧ ((type_of% tyc4) ∧ (type_of% zmb4)))) ∧ (((type_of% tyc5) ∧ (type_of% zmb5)) ∧ ((type_of% tyc9) ∧ ((type_of% zmb9) ∧ (type_of% tyc22))))) ∧ ((((type_of% zmb22) ∧ (type_of% tyc24)) ∧ ((type_of% zmb24) ∧ ((type_of% tyc27) ∧ (type_of% elt27)))) ∧ (((type_of% mkz27) ∧ ((type_of% mkc27) ∧ (type_of% apT27))) ∧ ((type_of% elk27) ∧ ((type_of% zmb27) ∧ (type_of% tyc31)))))) ∧ (((((type_of% foff31_0) ∧ (type_of% fpart31_0)) ∧ ((type_of% foff31_1) ∧ ((type_of% fpart31_1) ∧ (type_of% fe31)))) ∧ (((type_of% zmb31) ∧ (type_of% bldT31)) ∧ ((type_of% tyc39) ∧ ((type_of% zmb39) ∧ (type_of% tyc58))))) ∧ ((((type_of% Try.underlying0) ∧ (type_of% Try.underlying3)) ∧ ((type_of% Try.underlying4) ∧ ((type_of% Try.underlying5) ∧ (type_of% Try.underlying9)))) ∧ (((type_of% Try.underlying22) ∧ ((type_of% Try.underlying24) ∧ (type_of% Try.underlying27))) ∧ ((type_of% Try.underlying31) ∧ ((type_of% Try.underlying39) ∧ (type_of% Try.underlying58))))))) :=
  ⟨⟨⟨⟨⟨tyc0, tyc3⟩, ⟨zmb3, ⟨tyc4, zmb4⟩⟩⟩, ⟨⟨tyc5, zmb5⟩, ⟨tyc9, ⟨zmb9, tyc22⟩⟩⟩⟩, ⟨⟨⟨zmb22, tyc24⟩, ⟨zmb24, ⟨tyc27, elt27⟩⟩⟩, ⟨⟨mkz27, ⟨mkc27, apT27⟩⟩, ⟨elk27, ⟨zmb27, tyc31⟩⟩⟩⟩⟩, ⟨⟨⟨⟨foff31_0, fpart31_0⟩, ⟨foff31_1, ⟨fpart31_1, fe31⟩⟩⟩, ⟨⟨zmb31, bldT31⟩, ⟨tyc39, ⟨zmb39, tyc58⟩⟩⟩⟩, ⟨⟨⟨Try.underlying0, Try.underlying3⟩, ⟨Try.underlying4, ⟨Try.underlying5, Try.underlying9⟩⟩⟩, ⟨⟨Try.underlying22, ⟨Try.underlying24, Try.underlying27⟩⟩, ⟨Try.underlying31, ⟨Try.underlying39, Try.underlying58⟩⟩⟩⟩⟩⟩
abbrev nu (n : Nat) : AV := iv .u64 (n : Int)
abbrev wideA (n : Nat) : AV := .agg [nu (n / 18446744073709551616), nu (n % 18446744073709551616)]
abbrev bl (l : List Bool) : List AV := l.map bv
theorem bl_len (l : List Bool) : (bl l).length = l.length := by simp
theorem bl_at (l : List Bool) (i : Nat) (h : i < l.length) : (bl l).getD i .any = bv (l.getD i false) := by
  simp [List.getD, h]
theorem add64_ct (x y c : Nat) (hc : c ≤ 1) : ACt Try.prog 31 [nu x, nu y, nu c] [] (Fn (.tup [nu ((x + y + c) % 18446744073709551616), nu ((x + y + c) / 18446744073709551616)])) := by
  refine ACt.outer (ls := [.int .u64 x, .int .u64 y, .int .u64 c]) (e := add64Entry) Try.func31 (by kernel_rfl) rfl (by kernel_rfl) (by kernel_rfl) fun w => ?_
  refine ⟨_, run_add64 x y c (by omega) (by omega) (by omega) (by omega) w, fun I => ?_⟩
  have e1 : ((x : Int) + y + c) % 18446744073709551616 = (((x + y + c) % 18446744073709551616 : Nat) : Int) := by omega
  have e2 : ((x : Int) + y + c) / 18446744073709551616 = (((x + y + c) / 18446744073709551616 : Nat) : Int) := by omega
  rw [e1, e2]
  exact Rep.tup _ _ rfl (fun j hj => by match j, hj with | 0, _ => exact Rep.lit _ | 1, _ => exact Rep.lit _)
theorem mul64_ct (x y : Nat) (hx : x < 18446744073709551616) (hy : y < 18446744073709551616) : ACt Try.prog 34 [nu x, nu y] [] (Fn (.tup [nu (x * y / 18446744073709551616), nu (x * y % 18446744073709551616)])) := by
  refine ACt.intro Try.func34 rfl (by kernel_rfl) (by simp [Try.ntmps34]) (fun cx => ?_)
  simp only [argE, Try.ntmps34, Try.results34]
  obtain ⟨h1, h2, h3, h4, h5, h6, h7, h8, h9⟩ := mul_parts x y hx hy
  have c0 := and_low32 x hx
  have c1 := and_low32 y hy
  have s : ∀ n : Nat, (n : Int).fdiv 4294967296 = ((n / 4294967296 : Nat) : Int) := fun n => by rw [Int.fdiv_eq_ediv_of_nonneg _ (by omega)]; simp
  have m1 : IntKind.u64.wrap (((x % 4294967296 : Nat) : Int) * ((y % 4294967296 : Nat) : Int)) = ((x % 4294967296 * (y % 4294967296) : Nat) : Int) := by rw [← Int.natCast_mul, wrap_u64_nat h1]
  have m2 : IntKind.u64.wrap (((x / 4294967296 : Nat) : Int) * ((y % 4294967296 : Nat) : Int)) = ((x / 4294967296 * (y % 4294967296) : Nat) : Int) := by rw [← Int.natCast_mul, wrap_u64_nat h2]
  have m3 : IntKind.u64.wrap (((x % 4294967296 : Nat) : Int) * ((y / 4294967296 : Nat) : Int)) = ((x % 4294967296 * (y / 4294967296) : Nat) : Int) := by rw [← Int.natCast_mul, wrap_u64_nat h4]
  have m4 : IntKind.u64.wrap (((x / 4294967296 : Nat) : Int) * ((y / 4294967296 : Nat) : Int)) = ((x / 4294967296 * (y / 4294967296) : Nat) : Int) := by rw [← Int.natCast_mul, wrap_u64_nat h6]
  have m5 : IntKind.u64.wrap ((x : Int) * (y : Int)) = ((x * y % 18446744073709551616 : Nat) : Int) := by rw [← Int.natCast_mul, wrap_u64_big]
  first | (have FRx := FR; clear FRx) | (have FR : ¬ ((1 : Nat) = 0) := Nat.one_ne_zero)
  repeat' first
    | (refine Sm.mk ?_; try simp -dsimp only [ZK, rvc, drawF, headN, pureH, stp, dvc, calleeOf, gcall, pev, eff, newB, okd, og, ogs, ogo, ogp, slv, bltv, opd, litv, strip, one, both, putE, St.put, look, gdOf, gdv, picka, pickv, pickw, binv, bini, bins, binb, binp, binq, isSlT, bina, shp, eqCells, unv, convv, nilv, faddv, addp, idxav, idxp, load1, load1m, loadn, loadnm, loadv, hget, hset, hrep, hdel, slicev, bnd, shift1, lenv, capv, IntKind.bits, extractv, fieldv, indexv, min2v, max2v, mkiv, cellsA, fillA, buildv, stC, oneC, rowMB, intsA, plN, appE, appZ, appC, appNZ, appNC, VwL, srcC, srcZ, srcM, isBoolT, isPtrT, isSliceT, uOk, Value.oneCell', Nat.reducePow, Int.reducePow, Nat.reduceAdd, Nat.reduceMul, Nat.reduceSub, Nat.reduceLT, Nat.reduceLeDiff, Nat.reduceEqDiff, Nat.reduceBEq, Nat.reduceDiv, Nat.reduceMod, ↓reduceIte, reduceCtorEq, Int.reduceToNat, Int.reduceLT, Int.reduceLE, TFExB, SeqQ, BlkQ, LoopQ, BodyQ, c0, c1, s, m1, FR])
    | (refine WP.seq fun K hK => ?_)
    | ((fail_if_success (show WP _ _ _ (.region 6 _ _) _ _)); refine WP.region (rvc_sound _ _ (Sm.out ?_)))
    | ((fail_if_success (show WP _ _ _ (.region 6 _ _) _ _)); refine WP.drawK rfl mixed (by decide +kernel) (Sm.out ?_))
    | (refine Ob.mk ?_; focus (first | assumption | omega | decide | trivial | (intro hob; simp only [hob, ZF]; done) | (intros; (repeat' refine And.intro ?_ ?_) <;> first | assumption | omega | trivial | decide) | (intros; simp only [ZE] at *; (repeat' refine And.intro ?_ ?_) <;> first | assumption | omega | trivial)))
    | (refine And.intro (Ob.out ?_) ?_)
    | (refine WP.block ?_)
    | (refine WP.cond rfl (fun hc => ?_) (fun hc => ?_) <;> (try simp only [ZC, reduceCtorEq, ZD] at hc) <;> (try (exact absurd hc (by decide))) <;> (try (exfalso; omega)))
    | ((first | refine WP.skip ?_ | refine WP.exit ?_); simp only [SeqQ, BlkQ, LoopQ, BodyQ, ↓reduceIte, Nat.reduceEqDiff, reduceCtorEq, look, true_and])
    | (refine WP.ret (Sm.out ?_))
    | (first | refine ExG.no (Sm.out ?_) | refine Or.inl (ExG.no (Sm.out ?_)) | refine Or.inl (And.intro (fun hg => absurd hg (by decide)) (ExG.no (Sm.out ?_))))
    | (refine Rt.mk ?_; refine And.intro ?_ ?_ <;> (intro hg; first | exact absurd hg (by decide) | refine Sm.out ?_))
    | (refine Nu.mk ?_; first | (fail_if_success (have := nb1)); intro nb1 | (fail_if_success (have := nb2)); intro nb2 | (fail_if_success (have := nb3)); intro nb3 | intro nbz)
    | (refine Fr.mk ?_; intro hfr; replace FR := And.intro hfr FR; clear hfr; refine Sm.out ?_)
    | (refine Two.mk ?_ ?_)
    | (refine Cs.mk ?_; intro hcs; first | exact False.elim hcs | (exfalso; omega) | (refine Sm.out ?_))
    | go_step
    | omega
    | (simp only [maxLen_eq]; omega)
  have a1 : IntKind.u64.wrap (((x / 4294967296 * (y % 4294967296) : Nat) : Int) + ((x % 4294967296 * (y % 4294967296) / 4294967296 : Nat) : Int)) = ((x / 4294967296 * (y % 4294967296) + x % 4294967296 * (y % 4294967296) / 4294967296 : Nat) : Int) := by rw [← Int.natCast_add, wrap_u64_nat h3]
  have c2 := and_low32 _ h3
  first | (have FRx := FR; clear FRx) | (have FR : ¬ ((1 : Nat) = 0) := Nat.one_ne_zero)
  repeat' first
    | (refine Sm.mk ?_; try simp -dsimp only [ZK, rvc, drawF, headN, pureH, stp, dvc, calleeOf, gcall, pev, eff, newB, okd, og, ogs, ogo, ogp, slv, bltv, opd, litv, strip, one, both, putE, St.put, look, gdOf, gdv, picka, pickv, pickw, binv, bini, bins, binb, binp, binq, isSlT, bina, shp, eqCells, unv, convv, nilv, faddv, addp, idxav, idxp, load1, load1m, loadn, loadnm, loadv, hget, hset, hrep, hdel, slicev, bnd, shift1, lenv, capv, IntKind.bits, extractv, fieldv, indexv, min2v, max2v, mkiv, cellsA, fillA, buildv, stC, oneC, rowMB, intsA, plN, appE, appZ, appC, appNZ, appNC, VwL, srcC, srcZ, srcM, isBoolT, isPtrT, isSliceT, uOk, Value.oneCell', Nat.reducePow, Int.reducePow, Nat.reduceAdd, Nat.reduceMul, Nat.reduceSub, Nat.reduceLT, Nat.reduceLeDiff, Nat.reduceEqDiff, Nat.reduceBEq, Nat.reduceDiv, Nat.reduceMod, ↓reduceIte, reduceCtorEq, Int.reduceToNat, Int.reduceLT, Int.reduceLE, TFExB, SeqQ, BlkQ, LoopQ, BodyQ, s, m2, a1, c2, FR])
    | (refine WP.seq fun K hK => ?_)
    | ((fail_if_success (show WP _ _ _ (.region 9 _ _) _ _)); refine WP.region (rvc_sound _ _ (Sm.out ?_)))
    | ((fail_if_success (show WP _ _ _ (.region 9 _ _) _ _)); refine WP.drawK rfl mixed (by decide +kernel) (Sm.out ?_))
    | (refine Ob.mk ?_; focus (first | assumption | omega | decide | trivial | (intro hob; simp only [hob, ZF]; done) | (intros; (repeat' refine And.intro ?_ ?_) <;> first | assumption | omega | trivial | decide) | (intros; simp only [ZE] at *; (repeat' refine And.intro ?_ ?_) <;> first | assumption | omega | trivial)))
    | (refine And.intro (Ob.out ?_) ?_)
    | (refine WP.block ?_)
    | (refine WP.cond rfl (fun hc => ?_) (fun hc => ?_) <;> (try simp only [ZC, reduceCtorEq, ZD] at hc) <;> (try (exact absurd hc (by decide))) <;> (try (exfalso; omega)))
    | ((first | refine WP.skip ?_ | refine WP.exit ?_); simp only [SeqQ, BlkQ, LoopQ, BodyQ, ↓reduceIte, Nat.reduceEqDiff, reduceCtorEq, look, true_and])
    | (refine WP.ret (Sm.out ?_))
    | (first | refine ExG.no (Sm.out ?_) | refine Or.inl (ExG.no (Sm.out ?_)) | refine Or.inl (And.intro (fun hg => absurd hg (by decide)) (ExG.no (Sm.out ?_))))
    | (refine Rt.mk ?_; refine And.intro ?_ ?_ <;> (intro hg; first | exact absurd hg (by decide) | refine Sm.out ?_))
    | (refine Nu.mk ?_; first | (fail_if_success (have := nb1)); intro nb1 | (fail_if_success (have := nb2)); intro nb2 | (fail_if_success (have := nb3)); intro nb3 | intro nbz)
    | (refine Fr.mk ?_; intro hfr; replace FR := And.intro hfr FR; clear hfr; refine Sm.out ?_)
    | (refine Two.mk ?_ ?_)
    | (refine Cs.mk ?_; intro hcs; first | exact False.elim hcs | (exfalso; omega) | (refine Sm.out ?_))
    | go_step
    | omega
    | (simp only [maxLen_eq]; omega)
  have a2 : IntKind.u64.wrap ((((x / 4294967296 * (y % 4294967296) + x % 4294967296 * (y % 4294967296) / 4294967296) % 4294967296 : Nat) : Int) + ((x % 4294967296 * (y / 4294967296) : Nat) : Int)) = (((x / 4294967296 * (y % 4294967296) + x % 4294967296 * (y % 4294967296) / 4294967296) % 4294967296 + x % 4294967296 * (y / 4294967296) : Nat) : Int) := by rw [← Int.natCast_add, wrap_u64_nat h5]
  have a3 : IntKind.u64.wrap (((x / 4294967296 * (y / 4294967296) : Nat) : Int) + (((x / 4294967296 * (y % 4294967296) + x % 4294967296 * (y % 4294967296) / 4294967296) / 4294967296 : Nat) : Int)) = ((x / 4294967296 * (y / 4294967296) + (x / 4294967296 * (y % 4294967296) + x % 4294967296 * (y % 4294967296) / 4294967296) / 4294967296 : Nat) : Int) := by rw [← Int.natCast_add, wrap_u64_nat h7]
  have a4 : IntKind.u64.wrap (((x / 4294967296 * (y / 4294967296) + (x / 4294967296 * (y % 4294967296) + x % 4294967296 * (y % 4294967296) / 4294967296) / 4294967296 : Nat) : Int) + ((((x / 4294967296 * (y % 4294967296) + x % 4294967296 * (y % 4294967296) / 4294967296) % 4294967296 + x % 4294967296 * (y / 4294967296)) / 4294967296 : Nat) : Int)) = ((x * y / 18446744073709551616 : Nat) : Int) := by
    rw [← Int.natCast_add, h8, wrap_u64_nat h9]
  first | (have FRx := FR; clear FRx) | (have FR : ¬ ((1 : Nat) = 0) := Nat.one_ne_zero)
  repeat' first
    | (refine Sm.mk ?_; try simp -dsimp only [ZK, rvc, drawF, headN, pureH, stp, dvc, calleeOf, gcall, pev, eff, newB, okd, og, ogs, ogo, ogp, slv, bltv, opd, litv, strip, one, both, putE, St.put, look, gdOf, gdv, picka, pickv, pickw, binv, bini, bins, binb, binp, binq, isSlT, bina, shp, eqCells, unv, convv, nilv, faddv, addp, idxav, idxp, load1, load1m, loadn, loadnm, loadv, hget, hset, hrep, hdel, slicev, bnd, shift1, lenv, capv, IntKind.bits, extractv, fieldv, indexv, min2v, max2v, mkiv, cellsA, fillA, buildv, stC, oneC, rowMB, intsA, plN, appE, appZ, appC, appNZ, appNC, VwL, srcC, srcZ, srcM, isBoolT, isPtrT, isSliceT, uOk, Value.oneCell', Nat.reducePow, Int.reducePow, Nat.reduceAdd, Nat.reduceMul, Nat.reduceSub, Nat.reduceLT, Nat.reduceLeDiff, Nat.reduceEqDiff, Nat.reduceBEq, Nat.reduceDiv, Nat.reduceMod, ↓reduceIte, reduceCtorEq, Int.reduceToNat, Int.reduceLT, Int.reduceLE, TFExB, SeqQ, BlkQ, LoopQ, BodyQ, s, m3, m4, m5, a2, a3, a4, FR])
    | (refine WP.seq fun K hK => ?_)
    | (refine WP.region (rvc_sound _ _ (Sm.out ?_)))
    | (refine WP.drawK rfl mixed (by decide +kernel) (Sm.out ?_))
    | (refine Ob.mk ?_; focus (first | assumption | omega | decide | trivial | (intro hob; simp only [hob, ZF]; done) | (intros; (repeat' refine And.intro ?_ ?_) <;> first | assumption | omega | trivial | decide) | (intros; simp only [ZE] at *; (repeat' refine And.intro ?_ ?_) <;> first | assumption | omega | trivial)))
    | (refine And.intro (Ob.out ?_) ?_)
    | (refine WP.block ?_)
    | (refine WP.cond rfl (fun hc => ?_) (fun hc => ?_) <;> (try simp only [ZC, reduceCtorEq, ZD] at hc) <;> (try (exact absurd hc (by decide))) <;> (try (exfalso; omega)))
    | ((first | refine WP.skip ?_ | refine WP.exit ?_); simp only [SeqQ, BlkQ, LoopQ, BodyQ, ↓reduceIte, Nat.reduceEqDiff, reduceCtorEq, look, true_and])
    | (refine WP.ret (Sm.out ?_))
    | (first | refine ExG.no (Sm.out ?_) | refine Or.inl (ExG.no (Sm.out ?_)) | refine Or.inl (And.intro (fun hg => absurd hg (by decide)) (ExG.no (Sm.out ?_))))
    | (refine Rt.mk ?_; refine And.intro ?_ ?_ <;> (intro hg; first | exact absurd hg (by decide) | refine Sm.out ?_))
    | (refine Nu.mk ?_; first | (fail_if_success (have := nb1)); intro nb1 | (fail_if_success (have := nb2)); intro nb2 | (fail_if_success (have := nb3)); intro nb3 | intro nbz)
    | (refine Fr.mk ?_; intro hfr; replace FR := And.intro hfr FR; clear hfr; refine Sm.out ?_)
    | (refine Two.mk ?_ ?_)
    | (refine Cs.mk ?_; intro hcs; first | exact False.elim hcs | (exfalso; omega) | (refine Sm.out ?_))
    | (refine OutQ.all ?_ ?_; (focus (simp only [resv, ZK, look, loadv, loadn, loadnm, load1, load1m, hget, ↓reduceIte, Nat.reduceEqDiff, Nat.reduceAdd, Nat.reduceMul, Nat.reduceLeDiff, Nat.reduceLT, reduceCtorEq, TFExB, s, m3, m4, m5, a2, a3, a4, FR])); (try simp only [resv, resA, Fn, ZK, look, loadv, loadn, loadnm, load1, load1m, hget, ↓reduceIte, Nat.reduceEqDiff, Nat.reduceAdd, Nat.reduceMul, Nat.reduceLeDiff, Nat.reduceLT, reduceCtorEq, TFExB, s, m3, m4, m5, a2, a3, a4, FR]); (try simp [resA, Fn, look, s, m3, m4, m5, a2, a3, a4, FR]); done)
    | go_step
    | omega
    | (simp only [maxLen_eq]; omega)
theorem times_ct (x y : Nat) (hx : x < 18446744073709551616) (hy : y < 18446744073709551616) : ACt Try.prog 23 [nu x, nu y] [] (Fn (wideA (x * y))) := by
  refine ACt.intro Try.func23 rfl (by kernel_rfl) (by simp [Try.ntmps23]) (fun cx => ?_)
  simp only [argE, Try.ntmps23, Try.results23]
  first | (have FRx := FR; clear FRx) | (have FR : ¬ ((1 : Nat) = 0) := Nat.one_ne_zero)
  repeat' first
    | (refine Sm.mk ?_; try simp -dsimp only [ZK, rvc, drawF, headN, pureH, stp, dvc, calleeOf, gcall, pev, eff, newB, okd, og, ogs, ogo, ogp, slv, bltv, opd, litv, strip, one, both, putE, St.put, look, gdOf, gdv, picka, pickv, pickw, binv, bini, bins, binb, binp, binq, isSlT, bina, shp, eqCells, unv, convv, nilv, faddv, addp, idxav, idxp, load1, load1m, loadn, loadnm, loadv, hget, hset, hrep, hdel, slicev, bnd, shift1, lenv, capv, IntKind.bits, extractv, fieldv, indexv, min2v, max2v, mkiv, cellsA, fillA, buildv, stC, oneC, rowMB, intsA, plN, appE, appZ, appC, appNZ, appNC, VwL, srcC, srcZ, srcM, isBoolT, isPtrT, isSliceT, uOk, Value.oneCell', Nat.reducePow, Int.reducePow, Nat.reduceAdd, Nat.reduceMul, Nat.reduceSub, Nat.reduceLT, Nat.reduceLeDiff, Nat.reduceEqDiff, Nat.reduceBEq, Nat.reduceDiv, Nat.reduceMod, ↓reduceIte, reduceCtorEq, Int.reduceToNat, Int.reduceLT, Int.reduceLE, TFExB, SeqQ, BlkQ, LoopQ, BodyQ, FR])
    | (first | refine CallV.fn (mul64_ct x y hx hy) (Sm.out ?_) | refine ExF.mk (mul64_ct x y hx hy) (Sm.out ?_) | refine ExG.mk (fun _ => mul64_ct x y hx hy) (Sm.out ?_) | refine ExG.mkJ (fun _ => mul64_ct x y hx hy) (Sm.out ?_) | refine ExG.mkI (Ob.out ?_) (fun _ => mul64_ct x y hx hy) (Sm.out ?_))
    | (refine WP.seq fun K hK => ?_)
    | (refine WP.region (rvc_sound _ _ (Sm.out ?_)))
    | (refine WP.drawK rfl mixed (by decide +kernel) (Sm.out ?_))
    | (refine Ob.mk ?_; focus (first | assumption | omega | decide | trivial | (intro hob; simp only [hob, ZF]; done) | (intros; (repeat' refine And.intro ?_ ?_) <;> first | assumption | omega | trivial | decide) | (intros; simp only [ZE] at *; (repeat' refine And.intro ?_ ?_) <;> first | assumption | omega | trivial)))
    | (refine And.intro (Ob.out ?_) ?_)
    | (refine WP.block ?_)
    | (refine WP.cond rfl (fun hc => ?_) (fun hc => ?_) <;> (try simp only [ZC, reduceCtorEq, ZD] at hc) <;> (try (exact absurd hc (by decide))) <;> (try (exfalso; omega)))
    | ((first | refine WP.skip ?_ | refine WP.exit ?_); simp only [SeqQ, BlkQ, LoopQ, BodyQ, ↓reduceIte, Nat.reduceEqDiff, reduceCtorEq, look, true_and])
    | (refine WP.ret (Sm.out ?_))
    | (first | refine ExG.no (Sm.out ?_) | refine Or.inl (ExG.no (Sm.out ?_)) | refine Or.inl (And.intro (fun hg => absurd hg (by decide)) (ExG.no (Sm.out ?_))))
    | (refine Rt.mk ?_; refine And.intro ?_ ?_ <;> (intro hg; first | exact absurd hg (by decide) | refine Sm.out ?_))
    | (refine Nu.mk ?_; first | (fail_if_success (have := nb1)); intro nb1 | (fail_if_success (have := nb2)); intro nb2 | (fail_if_success (have := nb3)); intro nb3 | intro nbz)
    | (refine Fr.mk ?_; intro hfr; replace FR := And.intro hfr FR; clear hfr; refine Sm.out ?_)
    | (refine Two.mk ?_ ?_)
    | (refine Cs.mk ?_; intro hcs; first | exact False.elim hcs | (exfalso; omega) | (refine Sm.out ?_))
    | (refine OutQ.all ?_ ?_; (focus (simp only [resv, ZK, look, loadv, loadn, loadnm, load1, load1m, hget, ↓reduceIte, Nat.reduceEqDiff, Nat.reduceAdd, Nat.reduceMul, Nat.reduceLeDiff, Nat.reduceLT, reduceCtorEq, TFExB, FR])); (try simp only [resv, resA, Fn, ZK, look, loadv, loadn, loadnm, load1, load1m, hget, ↓reduceIte, Nat.reduceEqDiff, Nat.reduceAdd, Nat.reduceMul, Nat.reduceLeDiff, Nat.reduceLT, reduceCtorEq, TFExB, FR]); (try simp [resA, Fn, look, FR]); done)
    | go_step
    | omega
    | (simp only [maxLen_eq]; omega)
theorem lenN_shift {k x : Nat} (h : 2 ^ k ≤ x) : lenN x = k + lenN (x / 2 ^ k) := by
  have hx : 0 < x := Nat.lt_of_lt_of_le (Nat.two_pow_pos k) h
  have a : ∀ d, lenN x ≤ k + d ↔ lenN (x / 2 ^ k) ≤ d := fun d => by
    rw [lenN_le, lenN_le, Nat.div_lt_iff_lt_mul (Nat.two_pow_pos k), Nat.pow_add, Nat.mul_comm]
  have b : k ≤ lenN x := by
    apply Classical.byContradiction; intro hk
    have := lenN_le.1 (show lenN x ≤ k - 1 + 0 by omega)
    have h2 : 2 ^ (k - 1 + 0) ≤ 2 ^ k := Nat.pow_le_pow_right (by omega) (by omega)
    omega
  have h1 := (a (lenN (x / 2 ^ k))).2 (Nat.le_refl _)
  have h2 := (a (lenN x - k)).1 (by omega)
  omega
def tab8 : ByteArray := ⟨List.toArray (List.append (List.append [0, 1, 2, 2, 3, 3, 3, 3, 4, 4, 4, 4, 4, 4, 4, 4, 5, 5, 5, 5, 5, 5, 5, 5, 5, 5, 5, 5, 5, 5, 5, 5, 6, 6, 6, 6, 6, 6, 6, 6, 6, 6, 6, 6, 6, 6, 6, 6, 6, 6, 6, 6, 6, 6, 6, 6, 6, 6, 6, 6, 6, 6, 6, 6] [7, 7, 7, 7, 7, 7, 7, 7, 7, 7, 7, 7, 7, 7, 7, 7, 7, 7, 7, 7, 7, 7, 7, 7, 7, 7, 7, 7, 7, 7, 7, 7, 7, 7, 7, 7, 7, 7, 7, 7, 7, 7, 7, 7, 7, 7, 7, 7, 7, 7, 7, 7, 7, 7, 7, 7, 7, 7, 7, 7, 7, 7, 7, 7]) (List.append [8, 8, 8, 8, 8, 8, 8, 8, 8, 8, 8, 8, 8, 8, 8, 8, 8, 8, 8, 8, 8, 8, 8, 8, 8, 8, 8, 8, 8, 8, 8, 8, 8, 8, 8, 8, 8, 8, 8, 8, 8, 8, 8, 8, 8, 8, 8, 8, 8, 8, 8, 8, 8, 8, 8, 8, 8, 8, 8, 8, 8, 8, 8, 8] [8, 8, 8, 8, 8, 8, 8, 8, 8, 8, 8, 8, 8, 8, 8, 8, 8, 8, 8, 8, 8, 8, 8, 8, 8, 8, 8, 8, 8, 8, 8, 8, 8, 8, 8, 8, 8, 8, 8, 8, 8, 8, 8, 8, 8, 8, 8, 8, 8, 8, 8, 8, 8, 8, 8, 8, 8, 8, 8, 8, 8, 8, 8, 8]))⟩
theorem tab8_eq : (⟨List.toArray (List.append (List.append [0, 1, 2, 2, 3, 3, 3, 3, 4, 4, 4, 4, 4, 4, 4, 4, 5, 5, 5, 5, 5, 5, 5, 5, 5, 5, 5, 5, 5, 5, 5, 5, 6, 6, 6, 6, 6, 6, 6, 6, 6, 6, 6, 6, 6, 6, 6, 6, 6, 6, 6, 6, 6, 6, 6, 6, 6, 6, 6, 6, 6, 6, 6, 6] [7, 7, 7, 7, 7, 7, 7, 7, 7, 7, 7, 7, 7, 7, 7, 7, 7, 7, 7, 7, 7, 7, 7, 7, 7, 7, 7, 7, 7, 7, 7, 7, 7, 7, 7, 7, 7, 7, 7, 7, 7, 7, 7, 7, 7, 7, 7, 7, 7, 7, 7, 7, 7, 7, 7, 7, 7, 7, 7, 7, 7, 7, 7, 7]) (List.append [8, 8, 8, 8, 8, 8, 8, 8, 8, 8, 8, 8, 8, 8, 8, 8, 8, 8, 8, 8, 8, 8, 8, 8, 8, 8, 8, 8, 8, 8, 8, 8, 8, 8, 8, 8, 8, 8, 8, 8, 8, 8, 8, 8, 8, 8, 8, 8, 8, 8, 8, 8, 8, 8, 8, 8, 8, 8, 8, 8, 8, 8, 8, 8] [8, 8, 8, 8, 8, 8, 8, 8, 8, 8, 8, 8, 8, 8, 8, 8, 8, 8, 8, 8, 8, 8, 8, 8, 8, 8, 8, 8, 8, 8, 8, 8, 8, 8, 8, 8, 8, 8, 8, 8, 8, 8, 8, 8, 8, 8, 8, 8, 8, 8, 8, 8, 8, 8, 8, 8, 8, 8, 8, 8, 8, 8, 8, 8]))⟩ : ByteArray) = tab8 := rfl
theorem tab8_size : tab8.size = 256 := by decide +kernel
theorem tab8_all : ∀ i : Nat, i < 256 → (tab8.data.toList.getD i 0).toNat = lenN i := by decide +kernel
theorem tab8_at (n : Nat) : (tab8.data.toList.getD (n % 256) 0).toNat = lenN (n % 256) := tab8_all (n % 256) (Nat.mod_lt _ (by omega))
theorem lenN_bd {x d : Nat} (h : x < 2 ^ d) : lenN x ≤ d := lenN_le.2 h
set_option maxHeartbeats 1000000 in
theorem len64_ct (x : Nat) (hx : x < 18446744073709551616) : ACt Try.prog 40 [nu x] [] (Fn (iv .i64 ((lenN x : Nat) : Int))) := by
  refine ACt.intro Try.func40 rfl (by kernel_rfl) (by simp [Try.ntmps40]) (fun cx => ?_)
  simp only [argE, Try.ntmps40, Try.results40]
  have s1 : ∀ n : Nat, (n : Int).fdiv 4294967296 = ((n / 4294967296 : Nat) : Int) := fun n => by rw [Int.fdiv_eq_ediv_of_nonneg _ (by omega)]; simp
  have s2 : ∀ n : Nat, (n : Int).fdiv 65536 = ((n / 65536 : Nat) : Int) := fun n => by rw [Int.fdiv_eq_ediv_of_nonneg _ (by omega)]; simp
  have s3 : ∀ n : Nat, (n : Int).fdiv 256 = ((n / 256 : Nat) : Int) := fun n => by rw [Int.fdiv_eq_ediv_of_nonneg _ (by omega)]; simp
  have w8 : ∀ n : Nat, IntKind.u8.wrap (n : Int) = ((n % 256 : Nat) : Int) := fun n => by rw [wrap_u8_mod]; omega
  have l8 : ∀ n : Nat, lenN (n % 256) ≤ 8 := fun n => lenN_bd (by have := Nat.mod_lt n (show 256 > 0 by omega); omega)
  have wl : ∀ n : Nat, IntKind.i64.wrap ((lenN (n % 256) : Nat) : Int) = ((lenN (n % 256) : Nat) : Int) := fun n => wrap_i64_nat (by have := l8 n; omega)
  have a0 : ∀ n : Nat, IntKind.i64.wrap (0 + ((lenN (n % 256) : Nat) : Int)) = ((lenN (n % 256) : Nat) : Int) := fun n => by rw [Int.zero_add]; exact wl n
  have a : ∀ (k : Int) (n : Nat), 0 ≤ k → k ≤ 1000 → IntKind.i64.wrap (k + ((lenN (n % 256) : Nat) : Int)) = k + ((lenN (n % 256) : Nat) : Int) := fun k n h1 h2 => wrap_i64 (by omega) (by have := l8 n; omega)
  have b1 : IntKind.i64.wrap (32 + 16) = 48 := by decide
  have b2 : IntKind.i64.wrap (48 + 8) = 56 := by decide
  have b3 : IntKind.i64.wrap (32 + 8) = 40 := by decide
  have b4 : IntKind.i64.wrap (0 + 16) = 16 := by decide
  have b5 : IntKind.i64.wrap (16 + 8) = 24 := by decide
  have b6 : IntKind.i64.wrap (0 + 8) = 8 := by decide
  have c8 := fun n => a 8 n (by decide) (by decide)
  have c16 := fun n => a 16 n (by decide) (by decide)
  have c24 := fun n => a 24 n (by decide) (by decide)
  have c32 := fun n => a 32 n (by decide) (by decide)
  have c40 := fun n => a 40 n (by decide) (by decide)
  have c48 := fun n => a 48 n (by decide) (by decide)
  have c56 := fun n => a 56 n (by decide) (by decide)
  have r1 : 4294967296 ≤ x → lenN x = 32 + lenN (x / 4294967296) := lenN_shift (k := 32)
  have r2 : ∀ y, 65536 ≤ y → lenN y = 16 + lenN (y / 65536) := fun y => lenN_shift (k := 16)
  have r3 : ∀ y, 256 ≤ y → lenN y = 8 + lenN (y / 256) := fun y => lenN_shift (k := 8)
  first | (have FRx := FR; clear FRx) | (have FR : ¬ ((1 : Nat) = 0) := Nat.one_ne_zero)
  repeat' first
    | (refine Sm.mk ?_; try simp -dsimp only [ZK, rvc, drawF, headN, pureH, stp, dvc, calleeOf, gcall, pev, eff, newB, okd, og, ogs, ogo, ogp, slv, bltv, opd, litv, strip, one, both, putE, St.put, look, gdOf, gdv, picka, pickv, pickw, binv, bini, bins, binb, binp, binq, isSlT, bina, shp, eqCells, unv, convv, nilv, faddv, addp, idxav, idxp, load1, load1m, loadn, loadnm, loadv, hget, hset, hrep, hdel, slicev, bnd, shift1, lenv, capv, IntKind.bits, extractv, fieldv, indexv, min2v, max2v, mkiv, cellsA, fillA, buildv, stC, oneC, rowMB, intsA, plN, appE, appZ, appC, appNZ, appNC, VwL, srcC, srcZ, srcM, isBoolT, isPtrT, isSliceT, uOk, Value.oneCell', Nat.reducePow, Int.reducePow, Nat.reduceAdd, Nat.reduceMul, Nat.reduceSub, Nat.reduceLT, Nat.reduceLeDiff, Nat.reduceEqDiff, Nat.reduceBEq, Nat.reduceDiv, Nat.reduceMod, ↓reduceIte, reduceCtorEq, Int.reduceToNat, Int.reduceLT, Int.reduceLE, TFExB, SeqQ, BlkQ, LoopQ, BodyQ, s1, s2, s3, w8, wl, tab8_eq, tab8_size, tab8_at, a0, b1, b2, b3, b4, b5, b6, c8, c16, c24, c32, c40, c48, c56, FR])
    | (refine WP.seq fun K hK => ?_)
    | (refine WP.region (rvc_sound _ _ (Sm.out ?_)))
    | (refine WP.drawK rfl mixed (by decide +kernel) (Sm.out ?_))
    | (refine Ob.mk ?_; focus (first | assumption | omega | decide | trivial | (intro hob; simp only [hob, ZF]; done) | (intros; (repeat' refine And.intro ?_ ?_) <;> first | assumption | omega | trivial | decide) | (intros; simp only [ZE] at *; (repeat' refine And.intro ?_ ?_) <;> first | assumption | omega | trivial)))
    | (refine And.intro (Ob.out ?_) ?_)
    | (refine WP.block ?_)
    | (refine WP.cond rfl (fun hc => ?_) (fun hc => ?_) <;> (try simp only [ZC, reduceCtorEq, ZD] at hc) <;> (try (exact absurd hc (by decide))) <;> (try (exfalso; omega)))
    | ((first | refine WP.skip ?_ | refine WP.exit ?_); simp only [SeqQ, BlkQ, LoopQ, BodyQ, ↓reduceIte, Nat.reduceEqDiff, reduceCtorEq, look, true_and])
    | (refine WP.ret (Sm.out ?_))
    | (first | refine ExG.no (Sm.out ?_) | refine Or.inl (ExG.no (Sm.out ?_)) | refine Or.inl (And.intro (fun hg => absurd hg (by decide)) (ExG.no (Sm.out ?_))))
    | (refine Rt.mk ?_; refine And.intro ?_ ?_ <;> (intro hg; first | exact absurd hg (by decide) | refine Sm.out ?_))
    | (refine Nu.mk ?_; first | (fail_if_success (have := nb1)); intro nb1 | (fail_if_success (have := nb2)); intro nb2 | (fail_if_success (have := nb3)); intro nb3 | intro nbz)
    | (refine Fr.mk ?_; intro hfr; replace FR := And.intro hfr FR; clear hfr; refine Sm.out ?_)
    | (refine Two.mk ?_ ?_)
    | (refine Cs.mk ?_; intro hcs; first | exact False.elim hcs | (exfalso; omega) | (refine Sm.out ?_))
    | go_step
    | omega
    | (simp only [maxLen_eq]; omega)
  all_goals (refine OutQ.all ?_ ?_; (focus (simp only [resv, ZK, look, loadv, loadn, loadnm, load1, load1m, hget, ↓reduceIte, Nat.reduceEqDiff, Nat.reduceAdd, Nat.reduceMul, Nat.reduceLeDiff, Nat.reduceLT, reduceCtorEq, TFExB])); (try simp only [resv, resA, Fn, ZK, look, loadv, loadn, loadnm, load1, load1m, hget, ↓reduceIte, Nat.reduceEqDiff, Nat.reduceAdd, Nat.reduceMul, Nat.reduceLeDiff, Nat.reduceLT, reduceCtorEq, TFExB]); (try simp [resA, Fn, look]))
  all_goals
    first
    | (rw [Nat.mod_eq_of_lt (by omega)]; done)
    | (rw [Nat.mod_eq_of_lt (by omega)]
       have q1 := r2 x
       have q2 := r2 (x / 4294967296)
       have q3 := r3 x
       have q4 := r3 (x / 4294967296)
       have q5 := r3 (x / 65536)
       have q6 := r3 (x / 4294967296 / 65536)
       omega)
theorem at_ct (l : List Bool) (i : Nat) : ACt Try.prog 30 [.sl l.length (bl l), iv .i64 i] [] (Fn (iv .i64 ((bitA l i : Nat) : Int))) := by
  refine ACt.intro Try.func30 rfl (by kernel_rfl) (by simp [Try.ntmps30]) (fun cx => ?_)
  simp only [argE, Try.ntmps30, Try.results30]
  by_cases h : i < l.length
  · have k : decide ((i : Int) < l.length) = true := by simpa using h
    have e := bl_at l i h
    unfold bitA
    cases hb : l.getD i false
    all_goals rw [hb] at e
    all_goals (
        first | (have FRx := FR; clear FRx) | (have FR : ¬ ((1 : Nat) = 0) := Nat.one_ne_zero)
        repeat' first
          | (refine Sm.mk ?_; try simp -dsimp only [ZK, rvc, drawF, headN, pureH, stp, dvc, calleeOf, gcall, pev, eff, newB, okd, og, ogs, ogo, ogp, slv, bltv, opd, litv, strip, one, both, putE, St.put, look, gdOf, gdv, picka, pickv, pickw, binv, bini, bins, binb, binp, binq, isSlT, bina, shp, eqCells, unv, convv, nilv, faddv, addp, idxav, idxp, load1, load1m, loadn, loadnm, loadv, hget, hset, hrep, hdel, slicev, bnd, shift1, lenv, capv, IntKind.bits, extractv, fieldv, indexv, min2v, max2v, mkiv, cellsA, fillA, buildv, stC, oneC, rowMB, intsA, plN, appE, appZ, appC, appNZ, appNC, VwL, srcC, srcZ, srcM, isBoolT, isPtrT, isSliceT, uOk, Value.oneCell', Nat.reducePow, Int.reducePow, Nat.reduceAdd, Nat.reduceMul, Nat.reduceSub, Nat.reduceLT, Nat.reduceLeDiff, Nat.reduceEqDiff, Nat.reduceBEq, Nat.reduceDiv, Nat.reduceMod, ↓reduceIte, reduceCtorEq, Int.reduceToNat, Int.reduceLT, Int.reduceLE, TFExB, SeqQ, BlkQ, LoopQ, BodyQ, k, e, bl_len, FR])
          | (refine WP.seq fun K hK => ?_)
          | (refine WP.region (rvc_sound _ _ (Sm.out ?_)))
          | (refine WP.drawK rfl mixed (by decide +kernel) (Sm.out ?_))
          | (refine Ob.mk ?_; focus (first | assumption | omega | decide | trivial | (intro hob; simp only [hob, ZF]; done) | (intros; (repeat' refine And.intro ?_ ?_) <;> first | assumption | omega | trivial | decide) | (intros; simp only [ZE] at *; (repeat' refine And.intro ?_ ?_) <;> first | assumption | omega | trivial)))
          | (refine And.intro (Ob.out ?_) ?_)
          | (refine WP.block ?_)
          | (refine WP.cond rfl (fun hc => ?_) (fun hc => ?_) <;> (try simp only [ZC, reduceCtorEq, ZD] at hc) <;> (try (exact absurd hc (by decide))) <;> (try (exfalso; omega)))
          | ((first | refine WP.skip ?_ | refine WP.exit ?_); simp only [SeqQ, BlkQ, LoopQ, BodyQ, ↓reduceIte, Nat.reduceEqDiff, reduceCtorEq, look, true_and])
          | (refine WP.ret (Sm.out ?_))
          | (first | refine ExG.no (Sm.out ?_) | refine Or.inl (ExG.no (Sm.out ?_)) | refine Or.inl (And.intro (fun hg => absurd hg (by decide)) (ExG.no (Sm.out ?_))))
          | (refine Rt.mk ?_; refine And.intro ?_ ?_ <;> (intro hg; first | exact absurd hg (by decide) | refine Sm.out ?_))
          | (refine Nu.mk ?_; first | (fail_if_success (have := nb1)); intro nb1 | (fail_if_success (have := nb2)); intro nb2 | (fail_if_success (have := nb3)); intro nb3 | intro nbz)
          | (refine Fr.mk ?_; intro hfr; replace FR := And.intro hfr FR; clear hfr; refine Sm.out ?_)
          | (refine Two.mk ?_ ?_)
          | (refine Cs.mk ?_; intro hcs; first | exact False.elim hcs | (exfalso; omega) | (refine Sm.out ?_))
          | go_step
          | omega
          | (simp only [maxLen_eq]; omega))
    all_goals (refine OutQ.all ?_ ?_; (focus (simp only [resv, ZK, look, loadv, loadn, loadnm, load1, load1m, hget, ↓reduceIte, Nat.reduceEqDiff, Nat.reduceAdd, Nat.reduceMul, Nat.reduceLeDiff, Nat.reduceLT, reduceCtorEq, TFExB, h])); (try simp only [resv, resA, Fn, ZK, look, loadv, loadn, loadnm, load1, load1m, hget, ↓reduceIte, Nat.reduceEqDiff, Nat.reduceAdd, Nat.reduceMul, Nat.reduceLeDiff, Nat.reduceLT, reduceCtorEq, TFExB, h]); (try simp [resA, Fn, look, h]))
  · have k : decide ((i : Int) < l.length) = false := by simpa using h
    have e : bitA l i = 0 := by unfold bitA; rw [if_neg (by omega)]
    have e2 : (bl l).getD i .any = .any := by simp [List.getD, List.getElem?_eq_none (show l.length ≤ i by omega)]
    first | (have FRx := FR; clear FRx) | (have FR : ¬ ((1 : Nat) = 0) := Nat.one_ne_zero)
    repeat' first
      | (refine Sm.mk ?_; try simp -dsimp only [ZK, rvc, drawF, headN, pureH, stp, dvc, calleeOf, gcall, pev, eff, newB, okd, og, ogs, ogo, ogp, slv, bltv, opd, litv, strip, one, both, putE, St.put, look, gdOf, gdv, picka, pickv, pickw, binv, bini, bins, binb, binp, binq, isSlT, bina, shp, eqCells, unv, convv, nilv, faddv, addp, idxav, idxp, load1, load1m, loadn, loadnm, loadv, hget, hset, hrep, hdel, slicev, bnd, shift1, lenv, capv, IntKind.bits, extractv, fieldv, indexv, min2v, max2v, mkiv, cellsA, fillA, buildv, stC, oneC, rowMB, intsA, plN, appE, appZ, appC, appNZ, appNC, VwL, srcC, srcZ, srcM, isBoolT, isPtrT, isSliceT, uOk, Value.oneCell', Nat.reducePow, Int.reducePow, Nat.reduceAdd, Nat.reduceMul, Nat.reduceSub, Nat.reduceLT, Nat.reduceLeDiff, Nat.reduceEqDiff, Nat.reduceBEq, Nat.reduceDiv, Nat.reduceMod, ↓reduceIte, reduceCtorEq, Int.reduceToNat, Int.reduceLT, Int.reduceLE, TFExB, SeqQ, BlkQ, LoopQ, BodyQ, k, e, e2, FR])
      | (refine WP.seq fun K hK => ?_)
      | (refine WP.region (rvc_sound _ _ (Sm.out ?_)))
      | (refine WP.drawK rfl mixed (by decide +kernel) (Sm.out ?_))
      | (refine Ob.mk ?_; focus (first | assumption | omega | decide | trivial | (intro hob; simp only [hob, ZF]; done) | (intros; (repeat' refine And.intro ?_ ?_) <;> first | assumption | omega | trivial | decide) | (intros; simp only [ZE] at *; (repeat' refine And.intro ?_ ?_) <;> first | assumption | omega | trivial)))
      | (refine And.intro (Ob.out ?_) ?_)
      | (refine WP.block ?_)
      | (refine WP.cond rfl (fun hc => ?_) (fun hc => ?_) <;> (try simp only [ZC, reduceCtorEq, ZD] at hc) <;> (try (exact absurd hc (by decide))) <;> (try (exfalso; omega)))
      | ((first | refine WP.skip ?_ | refine WP.exit ?_); simp only [SeqQ, BlkQ, LoopQ, BodyQ, ↓reduceIte, Nat.reduceEqDiff, reduceCtorEq, look, true_and])
      | (refine WP.ret (Sm.out ?_))
      | (first | refine ExG.no (Sm.out ?_) | refine Or.inl (ExG.no (Sm.out ?_)) | refine Or.inl (And.intro (fun hg => absurd hg (by decide)) (ExG.no (Sm.out ?_))))
      | (refine Rt.mk ?_; refine And.intro ?_ ?_ <;> (intro hg; first | exact absurd hg (by decide) | refine Sm.out ?_))
      | (refine Nu.mk ?_; first | (fail_if_success (have := nb1)); intro nb1 | (fail_if_success (have := nb2)); intro nb2 | (fail_if_success (have := nb3)); intro nb3 | intro nbz)
      | (refine Fr.mk ?_; intro hfr; replace FR := And.intro hfr FR; clear hfr; refine Sm.out ?_)
      | (refine Two.mk ?_ ?_)
      | (refine Cs.mk ?_; intro hcs; first | exact False.elim hcs | (exfalso; omega) | (refine Sm.out ?_))
      | (refine OutQ.all ?_ ?_; (focus (simp only [resv, ZK, look, loadv, loadn, loadnm, load1, load1m, hget, ↓reduceIte, Nat.reduceEqDiff, Nat.reduceAdd, Nat.reduceMul, Nat.reduceLeDiff, Nat.reduceLT, reduceCtorEq, TFExB, k, e, e2, FR])); (try simp only [resv, resA, Fn, ZK, look, loadv, loadn, loadnm, load1, load1m, hget, ↓reduceIte, Nat.reduceEqDiff, Nat.reduceAdd, Nat.reduceMul, Nat.reduceLeDiff, Nat.reduceLT, reduceCtorEq, TFExB, k, e, e2, FR]); (try simp [resA, Fn, look, k, e, e2, FR]); done)
      | go_step
      | omega
      | (simp only [maxLen_eq]; omega)
end Go.Proofs.Yteadenldfaddfaa
namespace Go.Proofs.Yteadenldfaddfaa
open Go
set_option linter.unusedVariables false
set_option linter.unusedSimpArgs false
theorem TFExF : (((((type_of% tyc0) ∧ ((type_of% tyc3) ∧ (type_of% zmb3))) ∧ (((type_of% tyc4) ∧ (type_of% zmb4)) ∧ ((type_of% tyc22) ∧ (type_of% zmb22)))) ∧ ((((type_of% tyc27) ∧ (type_of% elt27)) ∧ ((type_of% mkz27) ∧ (type_of% mkc27))) ∧ (((type_of% apT27) ∧ (type_of% elk27)) ∧ ((type_of% zmb27) ∧ (type_of% tyc31))))) ∧ (((((type_of% foff31_0) ∧ (type_of% fpart31_0)) ∧ ((type_of% foff31_1) ∧ (type_of% fpart31_1))) ∧ (((type_of% fe31) ∧ (type_of% zmb31)) ∧ ((type_of% bldT31) ∧ (type_of% tyc39)))) ∧ ((((type_of% zmb39) ∧ (type_of% Try.underlying0)) ∧ ((type_of% Try.underlying3) ∧ (type_of% Try.underlying4))) ∧ (((type_of% Try.underlying22) ∧ (type_of% Try.underlying27)) ∧ ((type_of% Try.underlying31) ∧ (type_of% Try.underlying39)))))) :=
  ⟨⟨⟨⟨tyc0, ⟨tyc3, zmb3⟩⟩, ⟨⟨tyc4, zmb4⟩, ⟨tyc22, zmb22⟩⟩⟩, ⟨⟨⟨tyc27, elt27⟩, ⟨mkz27, mkc27⟩⟩, ⟨⟨apT27, elk27⟩, ⟨zmb27, tyc31⟩⟩⟩⟩, ⟨⟨⟨⟨foff31_0, fpart31_0⟩, ⟨foff31_1, fpart31_1⟩⟩, ⟨⟨fe31, zmb31⟩, ⟨bldT31, tyc39⟩⟩⟩, ⟨⟨⟨zmb39, Try.underlying0⟩, ⟨Try.underlying3, Try.underlying4⟩⟩, ⟨⟨Try.underlying22, Try.underlying27⟩, ⟨Try.underlying31, Try.underlying39⟩⟩⟩⟩⟩
theorem bitsN_bl (n i : Nat) : bl (bitsN n i) ++ [bv (decide (n / 2 ^ i % 2 = 1))] = bl (bitsN n (i + 1)) := by rw [bitsN_succ]; simp
theorem bitsN_bl_len (n i : Nat) : (bl (bitsN n i)).length = i := by simp [bitsN]
theorem tmod_nat (a b : Nat) : (a : Int).tmod (b : Int) = ((a % b : Nat) : Int) := by rw [Int.tmod_eq_emod_of_nonneg (by omega)]; simp
theorem tdiv_nat (a b : Nat) : (a : Int).tdiv (b : Int) = ((a / b : Nat) : Int) := by rw [Int.tdiv_eq_ediv_of_nonneg (by omega)]; simp
theorem fdiv_pow (a k : Nat) : (a : Int).fdiv (2 ^ k) = ((a / 2 ^ k : Nat) : Int) := by
  rw [Int.fdiv_eq_ediv_of_nonneg _ (by exact Int.le_of_lt (Int.pow_pos (by omega)))]; simp
theorem bit_lo (h l i : Nat) (hi : i < 64) : (h * 18446744073709551616 + l) / 2 ^ i % 2 = l / 2 ^ i % 2 := by
  have e : h * 18446744073709551616 = 2 ^ i * (2 * (h * 2 ^ (63 - i))) := by
    have : (18446744073709551616 : Nat) = 2 ^ i * (2 * 2 ^ (63 - i)) := by
      rw [← Nat.pow_succ', ← Nat.pow_add, show i + (63 - i + 1) = 64 by omega]
    rw [this]; ac_rfl
  rw [e, Nat.mul_add_div (Nat.two_pow_pos i)]; omega
theorem bit_hi (h l i : Nat) (hl : l < 18446744073709551616) (hi : 64 ≤ i) : (h * 18446744073709551616 + l) / 2 ^ i % 2 = h / 2 ^ (i - 64) % 2 := by
  have e : 2 ^ i = 18446744073709551616 * 2 ^ (i - 64) := by
    rw [show (18446744073709551616 : Nat) = 2 ^ 64 from rfl, ← Nat.pow_add, show 64 + (i - 64) = i by omega]
  rw [e, ← Nat.div_div_eq_div_mul, show (h * 18446744073709551616 + l) / 18446744073709551616 = h by omega]
structure BG where
  i : Nat
  b : Nat
  cap : Nat
set_option maxRecDepth 8000 in
set_option maxHeartbeats 1000000 in
theorem bits_ct (h l : Nat) (hh : h < 18446744073709551616) (hl : l < 18446744073709551616) :
    ACt Try.prog 11 [.agg [nu h, nu l]] [] (Fn (.sl 128 (bl (bitsN (h * 18446744073709551616 + l) 128)))) := by
  refine ACt.intro Try.func11 rfl (by kernel_rfl) (by simp [Try.ntmps11]) (fun cx => ?_)
  simp only [argE, Try.ntmps11, Try.results11]
  first | (have FRx := FR; clear FRx) | (have FR : ¬ ((1 : Nat) = 0) := Nat.one_ne_zero)
  repeat' first
    | (refine Sm.mk ?_; try simp -dsimp only [ZK, rvc, drawF, headN, pureH, stp, dvc, calleeOf, gcall, pev, eff, newB, okd, og, ogs, ogo, ogp, slv, bltv, opd, litv, strip, one, both, putE, St.put, look, gdOf, gdv, picka, pickv, pickw, binv, bini, bins, binb, binp, binq, isSlT, bina, shp, eqCells, unv, convv, nilv, faddv, addp, idxav, idxp, load1, load1m, loadn, loadnm, loadv, hget, hset, hrep, hdel, slicev, bnd, shift1, lenv, capv, IntKind.bits, extractv, fieldv, indexv, min2v, max2v, mkiv, cellsA, fillA, buildv, stC, oneC, rowMB, intsA, plN, appE, appZ, appC, appNZ, appNC, VwL, srcC, srcZ, srcM, isBoolT, isPtrT, isSliceT, uOk, Value.oneCell', Nat.reducePow, Int.reducePow, Nat.reduceAdd, Nat.reduceMul, Nat.reduceSub, Nat.reduceLT, Nat.reduceLeDiff, Nat.reduceEqDiff, Nat.reduceBEq, Nat.reduceDiv, Nat.reduceMod, ↓reduceIte, reduceCtorEq, Int.reduceToNat, Int.reduceLT, Int.reduceLE, TFExF, SeqQ, BlkQ, LoopQ, BodyQ, FR])
    | (refine WP.seq fun K hK => ?_)
    | (refine WP.region (rvc_sound _ _ (Sm.out ?_)))
    | (refine WP.drawK rfl mixed (by decide +kernel) (Sm.out ?_))
    | (refine Ob.mk ?_; focus (first | assumption | omega | decide | trivial | (intro hob; simp only [hob, ZF]; done) | (intros; (repeat' refine And.intro ?_ ?_) <;> first | assumption | omega | trivial | decide) | (intros; simp only [ZE] at *; (repeat' refine And.intro ?_ ?_) <;> first | assumption | omega | trivial)))
    | (refine And.intro (Ob.out ?_) ?_)
    | (refine WP.block ?_)
    | (refine WP.cond rfl (fun hc => ?_) (fun hc => ?_) <;> (try simp only [ZC, reduceCtorEq, ZD] at hc) <;> (try (exact absurd hc (by decide))) <;> (try (exfalso; omega)))
    | ((first | refine WP.skip ?_ | refine WP.exit ?_); simp only [SeqQ, BlkQ, LoopQ, BodyQ, ↓reduceIte, Nat.reduceEqDiff, reduceCtorEq, look, true_and])
    | (refine WP.ret (Sm.out ?_))
    | (first | refine ExG.no (Sm.out ?_) | refine Or.inl (ExG.no (Sm.out ?_)) | refine Or.inl (And.intro (fun hg => absurd hg (by decide)) (ExG.no (Sm.out ?_))))
    | (refine Rt.mk ?_; refine And.intro ?_ ?_ <;> (intro hg; first | exact absurd hg (by decide) | refine Sm.out ?_))
    | (refine Nu.mk ?_; first | (fail_if_success (have := nb1)); intro nb1 | (fail_if_success (have := nb2)); intro nb2 | (fail_if_success (have := nb3)); intro nb3 | (fail_if_success (have := nb4)); intro nb4 | (fail_if_success (have := nb5)); intro nb5 | intro nbz)
    | (refine Fr.mk ?_; intro hfr; replace FR := And.intro hfr FR; clear hfr; refine Sm.out ?_)
    | (refine Two.mk ?_ ?_)
    | (refine Cs.mk ?_; intro hcs; first | exact False.elim hcs | (exfalso; omega) | (refine Sm.out ?_))
    | go_step
    | omega
    | (simp only [maxLen_eq]; omega)
  refine WP.loop (Γ := BG) (fun g => ⟨[(4, iv .i64 g.i), (3, ms g.b 0 g.i g.cap), (1, pt nb1 0)], [(g.b, .cells (bl (bitsN (h * 18446744073709551616 + l) g.i)) g.cap 4), (nb1, .cells [nu h, nu l] 2 31)]⟩)
    (fun g => g.i ≤ 128 ∧ g.i ≤ g.cap ∧ g.cap ≤ 9223372036854775807) (fun g => 128 - g.i) ⟨0, nb2, 0⟩ ⟨by simp, by simp, by simp⟩ (Sub.pick (by simp [pickB, hget, hdel, FR, bitsN, bl]) (by simp [look, bitsN, bl])) ?_
  intro ⟨i, b, cap⟩ ⟨h1, h2, h3⟩
  simp only at h1 h2 h3 ⊢
  (refine WP.nd fun hnd => ?_; simp only [ndF, fresh_cons, fresh_nil, and_true, ne_eq] at hnd; replace FR := And.intro hnd FR; clear hnd)
  by_cases hi : i < 128
  · have k1 : decide ((i : Int) < 128) = true := by simp; omega
    have g1 : IntKind.i64.wrap ((i : Int) + 1) = ((i + 1 : Nat) : Int) := by rw [wrap_i64 (by omega) (by omega)]; omega
    have m1 : (i : Int).tmod 64 = ((i % 64 : Nat) : Int) := tmod_nat i 64
    have m2 : IntKind.i64.wrap ((i % 64 : Nat) : Int) = ((i % 64 : Nat) : Int) := wrap_i64_nat (by omega)
    have m3 : IntKind.u64.wrap ((i % 64 : Nat) : Int) = ((i % 64 : Nat) : Int) := wrap_u64_nat (by omega)
    have m4 : i % 64 ≤ 64 := by omega
    have m5 : ∀ a : Nat, ((a / 2 ^ (i % 64) : Nat) : Int).tmod 2 = ((a / 2 ^ (i % 64) % 2 : Nat) : Int) := fun a => tmod_nat _ 2
    have m6 : ∀ a : Nat, IntKind.u64.wrap ((a % 2 : Nat) : Int) = ((a % 2 : Nat) : Int) := fun a => wrap_u64_nat (by omega)
    have m7 : ∀ a : Nat, (((a % 2 : Nat) : Int) == 1) = decide (a % 2 = 1) := fun a => by
      by_cases ha : a % 2 = 1
      · rw [ha]; rfl
      · rw [decide_eq_false ha]; exact beq_eq_false_iff_ne.2 (by omega)
    have m8 : ∀ a : Nat, (a : Int).fdiv (2 ^ (i % 64)) = ((a / 2 ^ (i % 64) : Nat) : Int) := fun a => fdiv_pow a _
    have e1 := bitsN_bl (h * 18446744073709551616 + l) i
    by_cases h64 : i < 64
    · have k2 : decide ((i : Int) ≥ 64) = false := by simp; omega
      rw [bit_lo h l i h64] at e1
      rw [← Nat.mod_eq_of_lt h64] at e1
      have e2 := bitsN_bl_len (h * 18446744073709551616 + l) i
      have e4 : i % 64 % 64 = i % 64 := Nat.mod_mod _ _
      have e3 : bl (bitsN (h * 18446744073709551616 + l) i) ++ [bv (decide (l / 2 ^ (i % 64) % 2 = 1))] = bl (bitsN (h * 18446744073709551616 + l) (i + 1)) := by
        have := bitsN_bl (h * 18446744073709551616 + l) i
        rw [bit_lo h l i h64] at this
        rw [Nat.mod_eq_of_lt h64]; exact this
      first | (have FRx := FR; clear FRx) | (have FR : ¬ ((1 : Nat) = 0) := Nat.one_ne_zero)
      repeat' first
        | (refine Sm.mk ?_; try simp -dsimp only [ZK, rvc, drawF, headN, pureH, stp, dvc, calleeOf, gcall, pev, eff, newB, okd, og, ogs, ogo, ogp, slv, bltv, opd, litv, strip, one, both, putE, St.put, look, gdOf, gdv, picka, pickv, pickw, binv, bini, bins, binb, binp, binq, isSlT, bina, shp, eqCells, unv, convv, nilv, faddv, addp, idxav, idxp, load1, load1m, loadn, loadnm, loadv, hget, hset, hrep, hdel, slicev, bnd, shift1, lenv, capv, IntKind.bits, extractv, fieldv, indexv, min2v, max2v, mkiv, cellsA, fillA, buildv, stC, oneC, rowMB, intsA, plN, appE, appZ, appC, appNZ, appNC, VwL, srcC, srcZ, srcM, isBoolT, isPtrT, isSliceT, uOk, Value.oneCell', Nat.reducePow, Int.reducePow, Nat.reduceAdd, Nat.reduceMul, Nat.reduceSub, Nat.reduceLT, Nat.reduceLeDiff, Nat.reduceEqDiff, Nat.reduceBEq, Nat.reduceDiv, Nat.reduceMod, ↓reduceIte, reduceCtorEq, Int.reduceToNat, Int.reduceLT, Int.reduceLE, TFExF, SeqQ, BlkQ, LoopQ, BodyQ, k1, k2, g1, m1, m2, m3, m4, m5, m6, m7, m8, e2, e3, FR])
        | (refine WP.seq fun K hK => ?_)
        | (refine WP.region (rvc_sound _ _ (Sm.out ?_)))
        | (refine WP.drawK rfl mixed (by decide +kernel) (Sm.out ?_))
        | (refine Ob.mk ?_; focus (first | assumption | omega | decide | trivial | (intro hob; simp only [hob, ZF]; done) | (intros; (repeat' refine And.intro ?_ ?_) <;> first | assumption | omega | trivial | decide) | (intros; simp only [ZE] at *; (repeat' refine And.intro ?_ ?_) <;> first | assumption | omega | trivial)))
        | (refine And.intro (Ob.out ?_) ?_)
        | (refine WP.block ?_)
        | (refine WP.cond rfl (fun hc => ?_) (fun hc => ?_) <;> (try simp only [ZC, reduceCtorEq, ZD] at hc) <;> (try (exact absurd hc (by decide))) <;> (try (exfalso; omega)))
        | ((first | refine WP.skip ?_ | refine WP.exit ?_); simp only [SeqQ, BlkQ, LoopQ, BodyQ, ↓reduceIte, Nat.reduceEqDiff, reduceCtorEq, look, true_and])
        | (refine WP.ret (Sm.out ?_))
        | (first | refine ExG.no (Sm.out ?_) | refine Or.inl (ExG.no (Sm.out ?_)) | refine Or.inl (And.intro (fun hg => absurd hg (by decide)) (ExG.no (Sm.out ?_))))
        | (refine Rt.mk ?_; refine And.intro ?_ ?_ <;> (intro hg; first | exact absurd hg (by decide) | refine Sm.out ?_))
        | (refine Nu.mk ?_; first | (fail_if_success (have := nb1)); intro nb1 | (fail_if_success (have := nb2)); intro nb2 | (fail_if_success (have := nb3)); intro nb3 | (fail_if_success (have := nb4)); intro nb4 | (fail_if_success (have := nb5)); intro nb5 | intro nbz)
        | (refine Fr.mk ?_; intro hfr; replace FR := And.intro hfr FR; clear hfr; refine Sm.out ?_)
        | (refine Two.mk ?_ ?_)
        | (refine Cs.mk ?_; intro hcs; first | exact False.elim hcs | (exfalso; omega) | (refine Sm.out ?_))
        | go_step
        | omega
        | (simp only [maxLen_eq]; omega)
      exact ⟨⟨i + 1, nb4, nb5⟩, ⟨by simp only; omega, by simp only; omega, by simp only; omega⟩, by simp only; omega, (Sub.pick (by simp [pickB, hget, hdel, FR]) (by simp [look]))⟩
    · have k2 : decide ((i : Int) ≥ 64) = true := by simp; omega
      have e2 := bitsN_bl_len (h * 18446744073709551616 + l) i
      have e3 : bl (bitsN (h * 18446744073709551616 + l) i) ++ [bv (decide (h / 2 ^ (i % 64) % 2 = 1))] = bl (bitsN (h * 18446744073709551616 + l) (i + 1)) := by
        have := bitsN_bl (h * 18446744073709551616 + l) i
        rw [bit_hi h l i hl (by omega)] at this
        rw [show i % 64 = i - 64 by omega]; exact this
      first | (have FRx := FR; clear FRx) | (have FR : ¬ ((1 : Nat) = 0) := Nat.one_ne_zero)
      repeat' first
        | (refine Sm.mk ?_; try simp -dsimp only [ZK, rvc, drawF, headN, pureH, stp, dvc, calleeOf, gcall, pev, eff, newB, okd, og, ogs, ogo, ogp, slv, bltv, opd, litv, strip, one, both, putE, St.put, look, gdOf, gdv, picka, pickv, pickw, binv, bini, bins, binb, binp, binq, isSlT, bina, shp, eqCells, unv, convv, nilv, faddv, addp, idxav, idxp, load1, load1m, loadn, loadnm, loadv, hget, hset, hrep, hdel, slicev, bnd, shift1, lenv, capv, IntKind.bits, extractv, fieldv, indexv, min2v, max2v, mkiv, cellsA, fillA, buildv, stC, oneC, rowMB, intsA, plN, appE, appZ, appC, appNZ, appNC, VwL, srcC, srcZ, srcM, isBoolT, isPtrT, isSliceT, uOk, Value.oneCell', Nat.reducePow, Int.reducePow, Nat.reduceAdd, Nat.reduceMul, Nat.reduceSub, Nat.reduceLT, Nat.reduceLeDiff, Nat.reduceEqDiff, Nat.reduceBEq, Nat.reduceDiv, Nat.reduceMod, ↓reduceIte, reduceCtorEq, Int.reduceToNat, Int.reduceLT, Int.reduceLE, TFExF, SeqQ, BlkQ, LoopQ, BodyQ, k1, k2, g1, m1, m2, m3, m4, m5, m6, m7, m8, e2, e3, FR])
        | (refine WP.seq fun K hK => ?_)
        | (refine WP.region (rvc_sound _ _ (Sm.out ?_)))
        | (refine WP.drawK rfl mixed (by decide +kernel) (Sm.out ?_))
        | (refine Ob.mk ?_; focus (first | assumption | omega | decide | trivial | (intro hob; simp only [hob, ZF]; done) | (intros; (repeat' refine And.intro ?_ ?_) <;> first | assumption | omega | trivial | decide) | (intros; simp only [ZE] at *; (repeat' refine And.intro ?_ ?_) <;> first | assumption | omega | trivial)))
        | (refine And.intro (Ob.out ?_) ?_)
        | (refine WP.block ?_)
        | (refine WP.cond rfl (fun hc => ?_) (fun hc => ?_) <;> (try simp only [ZC, reduceCtorEq, ZD] at hc) <;> (try (exact absurd hc (by decide))) <;> (try (exfalso; omega)))
        | ((first | refine WP.skip ?_ | refine WP.exit ?_); simp only [SeqQ, BlkQ, LoopQ, BodyQ, ↓reduceIte, Nat.reduceEqDiff, reduceCtorEq, look, true_and])
        | (refine WP.ret (Sm.out ?_))
        | (first | refine ExG.no (Sm.out ?_) | refine Or.inl (ExG.no (Sm.out ?_)) | refine Or.inl (And.intro (fun hg => absurd hg (by decide)) (ExG.no (Sm.out ?_))))
        | (refine Rt.mk ?_; refine And.intro ?_ ?_ <;> (intro hg; first | exact absurd hg (by decide) | refine Sm.out ?_))
        | (refine Nu.mk ?_; first | (fail_if_success (have := nb1)); intro nb1 | (fail_if_success (have := nb2)); intro nb2 | (fail_if_success (have := nb3)); intro nb3 | (fail_if_success (have := nb4)); intro nb4 | (fail_if_success (have := nb5)); intro nb5 | intro nbz)
        | (refine Fr.mk ?_; intro hfr; replace FR := And.intro hfr FR; clear hfr; refine Sm.out ?_)
        | (refine Two.mk ?_ ?_)
        | (refine Cs.mk ?_; intro hcs; first | exact False.elim hcs | (exfalso; omega) | (refine Sm.out ?_))
        | go_step
        | omega
        | (simp only [maxLen_eq]; omega)
      exact ⟨⟨i + 1, nb4, nb5⟩, ⟨by simp only; omega, by simp only; omega, by simp only; omega⟩, by simp only; omega, (Sub.pick (by simp [pickB, hget, hdel, FR]) (by simp [look]))⟩
  · have k1 : decide ((i : Int) < 128) = false := by simp; omega
    obtain rfl : i = 128 := by omega
    have e2 := bitsN_bl_len (h * 18446744073709551616 + l) 128
    have e5 : (bl (bitsN (h * 18446744073709551616 + l) 128)).take 128 = bl (bitsN (h * 18446744073709551616 + l) 128) := List.take_of_length_le (by rw [e2]; omega)
    first | (have FRx := FR; clear FRx) | (have FR : ¬ ((1 : Nat) = 0) := Nat.one_ne_zero)
    repeat' first
      | (refine Sm.mk ?_; try simp -dsimp only [ZK, rvc, drawF, headN, pureH, stp, dvc, calleeOf, gcall, pev, eff, newB, okd, og, ogs, ogo, ogp, slv, bltv, opd, litv, strip, one, both, putE, St.put, look, gdOf, gdv, picka, pickv, pickw, binv, bini, bins, binb, binp, binq, isSlT, bina, shp, eqCells, unv, convv, nilv, faddv, addp, idxav, idxp, load1, load1m, loadn, loadnm, loadv, hget, hset, hrep, hdel, slicev, bnd, shift1, lenv, capv, IntKind.bits, extractv, fieldv, indexv, min2v, max2v, mkiv, cellsA, fillA, buildv, stC, oneC, rowMB, intsA, plN, appE, appZ, appC, appNZ, appNC, VwL, srcC, srcZ, srcM, isBoolT, isPtrT, isSliceT, uOk, Value.oneCell', Nat.reducePow, Int.reducePow, Nat.reduceAdd, Nat.reduceMul, Nat.reduceSub, Nat.reduceLT, Nat.reduceLeDiff, Nat.reduceEqDiff, Nat.reduceBEq, Nat.reduceDiv, Nat.reduceMod, ↓reduceIte, reduceCtorEq, Int.reduceToNat, Int.reduceLT, Int.reduceLE, TFExF, SeqQ, BlkQ, LoopQ, BodyQ, k1, e2, FR])
      | (refine WP.seq fun K hK => ?_)
      | (refine WP.region (rvc_sound _ _ (Sm.out ?_)))
      | (refine WP.drawK rfl mixed (by decide +kernel) (Sm.out ?_))
      | (refine Ob.mk ?_; focus (first | assumption | omega | decide | trivial | (intro hob; simp only [hob, ZF]; done) | (intros; (repeat' refine And.intro ?_ ?_) <;> first | assumption | omega | trivial | decide) | (intros; simp only [ZE] at *; (repeat' refine And.intro ?_ ?_) <;> first | assumption | omega | trivial)))
      | (refine And.intro (Ob.out ?_) ?_)
      | (refine WP.block ?_)
      | (refine WP.cond rfl (fun hc => ?_) (fun hc => ?_) <;> (try simp only [ZC, reduceCtorEq, ZD] at hc) <;> (try (exact absurd hc (by decide))) <;> (try (exfalso; omega)))
      | ((first | refine WP.skip ?_ | refine WP.exit ?_); simp only [SeqQ, BlkQ, LoopQ, BodyQ, ↓reduceIte, Nat.reduceEqDiff, reduceCtorEq, look, true_and])
      | (refine WP.ret (Sm.out ?_))
      | (first | refine ExG.no (Sm.out ?_) | refine Or.inl (ExG.no (Sm.out ?_)) | refine Or.inl (And.intro (fun hg => absurd hg (by decide)) (ExG.no (Sm.out ?_))))
      | (refine Rt.mk ?_; refine And.intro ?_ ?_ <;> (intro hg; first | exact absurd hg (by decide) | refine Sm.out ?_))
      | (refine Nu.mk ?_; first | (fail_if_success (have := nb1)); intro nb1 | (fail_if_success (have := nb2)); intro nb2 | (fail_if_success (have := nb3)); intro nb3 | (fail_if_success (have := nb4)); intro nb4 | (fail_if_success (have := nb5)); intro nb5 | intro nbz)
      | (refine Fr.mk ?_; intro hfr; replace FR := And.intro hfr FR; clear hfr; refine Sm.out ?_)
      | (refine Two.mk ?_ ?_)
      | (refine Cs.mk ?_; intro hcs; first | exact False.elim hcs | (exfalso; omega) | (refine Sm.out ?_))
      | go_step
      | omega
      | (simp only [maxLen_eq]; omega)
    (refine OutQ.wk (Wk.freezeC (b) (1) (by simp only [ZK, rvc, drawF, headN, pureH, stp, dvc, calleeOf, gcall, pev, eff, newB, okd, og, ogs, ogo, ogp, slv, bltv, opd, litv, strip, one, both, putE, St.put, look, gdOf, gdv, picka, pickv, pickw, binv, bini, bins, binb, binp, binq, isSlT, bina, shp, eqCells, unv, convv, nilv, faddv, addp, idxav, idxp, load1, load1m, loadn, loadnm, loadv, hget, hset, hrep, hdel, slicev, bnd, shift1, lenv, capv, IntKind.bits, extractv, fieldv, indexv, min2v, max2v, mkiv, cellsA, fillA, buildv, stC, oneC, rowMB, intsA, plN, appE, appZ, appC, appNZ, appNC, VwL, srcC, srcZ, srcM, isBoolT, isPtrT, isSliceT, uOk, Value.oneCell', Nat.reducePow, Int.reducePow, Nat.reduceAdd, Nat.reduceMul, Nat.reduceSub, Nat.reduceLT, Nat.reduceLeDiff, Nat.reduceEqDiff, Nat.reduceBEq, Nat.reduceDiv, Nat.reduceMod, ↓reduceIte, reduceCtorEq, Int.reduceToNat, Int.reduceLT, Int.reduceLE, TFExF, SeqQ, BlkQ, LoopQ, BodyQ, e2, e5, h2, h3, FR]; first | done | rfl)) ?_; simp only [frzCE, frzC, ZK, rvc, drawF, headN, pureH, stp, dvc, calleeOf, gcall, pev, eff, newB, okd, og, ogs, ogo, ogp, slv, bltv, opd, litv, strip, one, both, putE, St.put, look, gdOf, gdv, picka, pickv, pickw, binv, bini, bins, binb, binp, binq, isSlT, bina, shp, eqCells, unv, convv, nilv, faddv, addp, idxav, idxp, load1, load1m, loadn, loadnm, loadv, hget, hset, hrep, hdel, slicev, bnd, shift1, lenv, capv, IntKind.bits, extractv, fieldv, indexv, min2v, max2v, mkiv, cellsA, fillA, buildv, stC, oneC, rowMB, intsA, plN, appE, appZ, appC, appNZ, appNC, VwL, srcC, srcZ, srcM, isBoolT, isPtrT, isSliceT, uOk, Value.oneCell', Nat.reducePow, Int.reducePow, Nat.reduceAdd, Nat.reduceMul, Nat.reduceSub, Nat.reduceLT, Nat.reduceLeDiff, Nat.reduceEqDiff, Nat.reduceBEq, Nat.reduceDiv, Nat.reduceMod, ↓reduceIte, reduceCtorEq, Int.reduceToNat, Int.reduceLT, Int.reduceLE, TFExF, SeqQ, BlkQ, LoopQ, BodyQ, e2, e5, h2, h3, FR])
    (refine OutQ.all ?_ ?_; (focus (simp only [resv, ZK, look, loadv, loadn, loadnm, load1, load1m, hget, ↓reduceIte, Nat.reduceEqDiff, Nat.reduceAdd, Nat.reduceMul, Nat.reduceLeDiff, Nat.reduceLT, reduceCtorEq, TFExF])); (try simp only [resv, resA, Fn, ZK, look, loadv, loadn, loadnm, load1, load1m, hget, ↓reduceIte, Nat.reduceEqDiff, Nat.reduceAdd, Nat.reduceMul, Nat.reduceLeDiff, Nat.reduceLT, reduceCtorEq, TFExF]); (try simp [resA, Fn, look]))
end Go.Proofs.Yteadenldfaddfaa
