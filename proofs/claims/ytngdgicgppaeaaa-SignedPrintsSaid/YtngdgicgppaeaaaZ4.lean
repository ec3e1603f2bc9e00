/-
  The walks and the laws that the statement leans on, part 4.
-/
import Derived.ChangeReads
import Derived.Laws.Externs
import Derived.Test.YtngdgicgppaeaaaProg
import Derived.Test.YtngdgicgppaeaaaZ3
namespace Go.Proofs.Ytngdgicgppaeaaa
open Go
set_option linter.unusedSimpArgs false
set_option linter.unusedVariables false
/-- What does not hang on memory. -/
def clA : AV → Bool
  | .lit _ => true
  | .any => true
  | .agg cs => clL cs
  | .tup cs => clL cs
  | .ifc _ x => clA x
  | _ => false
where clL : List AV → Bool
  | [] => true
  | x :: r => clA x && clL r
theorem clL_get : ∀ {cs : List AV} (i : Nat) (hi : i < cs.length), clA.clL cs = true → clA cs[i] = true
  | x :: r, 0, _, h => by simp only [clA.clL, Bool.and_eq_true] at h; exact h.1
  | x :: r, i + 1, hi, h => by
    simp only [clA.clL, Bool.and_eq_true] at h
    exact clL_get (cs := r) i (by simpa using hi) h.2
theorem Rep.closed {w w' : World} {I I' : Nat → Prop} {v : Value} {x : AV} (h : Rep w I v x) : clA x = true → Rep w' I' v x := by
  induction h with
  | any v => exact fun _ => .any v
  | lit v => exact fun _ => .lit v
  | sl a n cap cs g hn hm h _ ih => intro hc; simp [clA] at hc
  | slz a k zs cap hn hm h => intro hc; simp [clA] at hc
  | ip ad cs g h _ ih => intro hc; simp [clA] at hc
  | ipz ad k zs h => intro hc; simp [clA] at hc
  | agg vs cs hs _ ih => exact fun hc => .agg vs cs hs fun i hi => ih i hi (clL_get i hi (by simpa [clA] using hc))
  | tup vs cs hs _ ih => exact fun hc => .tup vs cs hs fun i hi => ih i hi (clL_get i hi (by simpa [clA] using hc))
  | ifc t v x _ ih => exact fun hc => .ifc t v x (ih (by simpa [clA] using hc))
  | gdt v x _ ih => intro hc; simp [clA] at hc
  | gdf x => intro hc; simp [clA] at hc
theorem hget_perm {b : Nat} {m : MB} : ∀ {H : Hp}, hget H b = some m → H.Perm ([(b, m)] ++ hdel H b)
  | [], h => by cases h
  | (b0, m0) :: r, h => by
    simp only [hget, hdel] at h ⊢
    split at h
    · rename_i he; subst he; cases h; simp
    · rename_i he
      rw [if_neg he]
      have := hget_perm (H := r) h
      exact (List.Perm.cons _ this).trans (List.Perm.swap ..)
/-! ## Views -/
/-- x, looked at through blocks of H that nobody writes for a while, is y. -/
inductive Vw (H : Hp) : AV → AV → Prop
  | same (x : AV) : Vw H x x
  | row {b off n cap sz ty : Nat} {k : IntKind} {zs : List Int} (hg : hget H b = some (.zs k zs sz ty)) (h1 : off + n ≤ zs.length) (h2 : n ≤ cap) (h3 : cap ≤ maxLen) :
      Vw H (ms b off n cap) (.slz k ((zs.drop off).take n))
  | rowc {b off n cap sz ty : Nat} {cs ds : List AV} (hg : hget H b = some (.cells cs sz ty)) (h1 : off + ds.length ≤ cs.length) (h2 : n ≤ cap) (h3 : cap ≤ maxLen)
      (h : ∀ i (hi : i < ds.length), Vw H (cs.getD (off + i) .any) ds[i]) : Vw H (ms b off n cap) (.sl n ds)
  | ptc {b off sz ty : Nat} {cs ds : List AV} (hg : hget H b = some (.cells cs sz ty)) (h1 : off + ds.length ≤ cs.length)
      (h : ∀ i (hi : i < ds.length), Vw H (cs.getD (off + i) .any) ds[i]) : Vw H (pt b off) (.ip ds)
  | ptz {b off sz ty : Nat} {k : IntKind} {zs : List Int} (hg : hget H b = some (.zs k zs sz ty)) (h1 : off ≤ zs.length) : Vw H (pt b off) (.ipz k (zs.drop off))
  | agg {cs ds : List AV} (hl : ds.length = cs.length) (h : ∀ i (hi : i < ds.length), Vw H (cs.getD i .any) ds[i]) : Vw H (.agg cs) (.agg ds)
  | ifc {t : TypeId} {x y : AV} (h : Vw H x y) : Vw H (.ifc t x) (.ifc t y)
  | nils : Vw H (.lit (.slice none 0 0)) (.sl 0 [])
theorem Vw.rep {cx : Cx} {H : Hp} {w : World} {I' : Nat → Prop} (hw : OkW cx H w) (hlt : ∀ b, imm cx w H b → I' b) (hk : ∀ x ∈ H, I' x.1) {x y : AV} (h : Vw H x y) : ∀ {v : Value}, Rep w (imm cx w H) v x → Rep w I' v y := by
  induction h with
  | same x => exact fun hv => hv.mono fun b hb => ⟨hlt b hb, rfl⟩
  | @row b off n cap sz ty k zs hg h1 h2 h3 =>
    intro v hv
    have := hv.lit_inv; subst this
    obtain ⟨cur, c1, c2, c3, c4⟩ := hw.mem _ (hget_mem hg)
    have e : ((zs.drop off).take n).length = n := by simp; omega
    have : Rep w I' (.slice (some ⟨b, off, none⟩) ((zs.drop off).take n).length cap) (.slz k ((zs.drop off).take n)) := by
      refine .slz _ _ _ _ (by omega) h3 (.inr ⟨b, off, rfl, hk _ (hget_mem hg), fun i hi => ?_⟩)
      rw [e] at hi
      rw [cell_of_block c1, c4 _ (by omega)]
      simp [List.getD, List.getElem?_take, List.getElem?_drop, hi]
    rw [e] at this
    exact this
  | @rowc b off n cap sz ty cs ds hg h1 h2 h3 h ih =>
    intro v hv
    have := hv.lit_inv; subst this
    obtain ⟨cur, c1, c2, c3, c4⟩ := hw.mem _ (hget_mem hg)
    refine .sl _ _ _ _ (fun i => cur.getD (off + i) undef) h2 h3 (.inr ⟨b, off, rfl, hk _ (hget_mem hg), fun i hi => ?_⟩) fun i hi => ih i hi ?_
    · rw [cell_of_block c1]
      have : off + i < cur.size := by omega
      simp [this]
    · have h4 := c4 (off + i) (by omega)
      have : cs.getD (off + i) .any = cs[off + i]'(by omega) := by simp [List.getD, show off + i < cs.length by omega]
      rw [this]
      exact h4
  | @ptc b off sz ty cs ds hg h1 h ih =>
    intro v hv
    have := hv.lit_inv; subst this
    obtain ⟨cur, c1, c2, c3, c4⟩ := hw.mem _ (hget_mem hg)
    refine .ip _ _ (fun i => cur.getD (off + i) undef) (.inr ⟨b, off, rfl, hk _ (hget_mem hg), fun i hi => ?_⟩) fun i hi => ih i hi ?_
    · rw [cell_of_block c1]
      have : off + i < cur.size := by omega
      simp [this]
    · have h4 := c4 (off + i) (by omega)
      have : cs.getD (off + i) .any = cs[off + i]'(by omega) := by simp [List.getD, show off + i < cs.length by omega]
      rw [this]
      exact h4
  | @ptz b off sz ty k zs hg h1 =>
    intro v hv
    have := hv.lit_inv; subst this
    obtain ⟨cur, c1, c2, c3, c4⟩ := hw.mem _ (hget_mem hg)
    refine .ipz _ _ _ (.inr ⟨b, off, rfl, hk _ (hget_mem hg), fun i hi => ?_⟩)
    simp only [List.length_drop] at hi
    rw [cell_of_block c1, c4 _ (by omega)]
    simp [List.getD, List.getElem?_drop]
  | @agg cs ds hl h ih =>
    intro v hv
    cases hv with
    | agg vs cs hs r =>
      refine .agg vs ds (by omega) fun i hi => ih i hi ?_
      have hic : i < cs.length := by omega
      have : cs.getD i .any = cs[i] := by simp [List.getD, hic]
      rw [this]
      exact r i hic
  | ifc h ih =>
    intro v hv
    cases hv with
    | ifc t v x r => exact .ifc _ _ _ (ih r)
  | nils =>
    intro v hv
    have := hv.lit_inv; subst this
    exact .sl none 0 0 [] (fun _ => undef) (Nat.le_refl _) (Nat.zero_le _) (.inl rfl) (fun i hi => by simp at hi)
def VwL (H : Hp) : List AV → List AV → Prop
  | [], [] => True
  | x :: r, y :: s => Vw H x y ∧ VwL H r s
  | _, _ => False
theorem VwL.length {H : Hp} : ∀ {l m : List AV}, VwL H l m → m.length = l.length
  | [], [], _ => rfl
  | x :: r, y :: s, h => by simp [VwL.length h.2]
  | [], y :: s, h => h.elim
  | x :: r, [], h => h.elim
theorem VwL.get {H : Hp} : ∀ {l m : List AV}, VwL H l m → ∀ i, i < l.length → Vw H (l.getD i .any) (m.getD i .any)
  | x :: r, y :: s, h, 0, _ => by simpa using h.1
  | x :: r, y :: s, h, i + 1, hi => by simpa using VwL.get h.2 i (by simpa using hi)
  | [], [], _, i, hi => by simp at hi
  | [], y :: s, h, _, _ => h.elim
  | x :: r, [], h, _, _ => h.elim
/-- A callee that only reads, over blocks that are ours. -/
theorem ACt.view {P : Program} {f : FuncId} {args args' : List AV} {H : Hp} {x : AV} (h : ACt P f args' [] (Fn x)) (hc : clA x = true) (hv : VwL H args args') :
    ACt P f args H (fun r F' => r = x ∧ F' = H) := by
  intro cx vs hK hw hs hr
  have hlen := hv.length
  have := h ⟨cx.w0, fun b => b < cx.w0.heap.size, [], fun b hb => ⟨hb, by simp⟩⟩ vs rfl ⟨by simp, fun x hx => by simp at hx, fun x hx => by simp at hx, ⟨rfl, rfl, rfl, Nat.le_refl _, fun _ _ _ => rfl⟩⟩
    (by omega) (fun i hi => by
      have hi' : i < args.length := by omega
      exact (hv.get i hi').rep hw (fun b hb => imm_lt hw.ext.size hb) (fun x hx => keys_lt hw x hx) ((hr i hi').mono fun b hb => ⟨.inl hb, rfl⟩))
  refine this.mono ?_
  rintro e w' ⟨v, r, F', rfl, ⟨rfl, rfl⟩, hw', hrep⟩
  have hsame : ∀ b, b < cx.w0.heap.size → w'.heap[b]? = cx.w0.heap[b]? := fun b hb => hw'.ext.blk b hb (by simp)
  have hI : ∀ b, imm cx cx.w0 H b → imm cx w' H b ∧ w'.heap[b]? = cx.w0.heap[b]? := by
    intro b hb
    have hlt := imm_lt hw.ext.size hb
    refine ⟨?_, hsame b hlt⟩
    rcases hb with hb | ⟨h1, h2, h3⟩
    · exact .inl hb
    · exact .inr ⟨h1, by have := hw'.ext.size; simp only at this; omega, h3⟩
  refine ⟨v, _, H, rfl, ⟨rfl, rfl⟩, ⟨hw.nodup, hw.keys, fun y hy => (hw.mem y hy).mono hI (hsame _ (keys_lt hw y hy)), ?_⟩, hrep.closed hc⟩
  have e1 := hw.ext
  have e2 := hw'.ext
  exact ⟨e2.os.trans e1.os, e2.tape.trans e1.tape, e2.output.trans e1.output, Nat.le_trans e1.size e2.size, fun b hb hk => (hsame b hb).trans (e1.blk b hb hk)⟩
theorem CallV.view {P : Program} {f : FuncId} {args args' : List AV} {H : Hp} {x : AV} {post : AV → Hp → Prop} (h : ACt P f args' [] (Fn x)) (hc : clA x = true) (hv : VwL H args args') (hp : post x H) : CallV P f args H post :=
  ⟨H, [], _, by simp, h.view hc hv, by rintro r F' ⟨rfl, rfl⟩ _; simpa using hp⟩
/-- A callee that only reads a block of ours, which we give up for good: what comes back may look into it. -/
theorem ACt.frz {P : Program} {f : FuncId} {args args' : List AV} {b : Nat} {m : MB} {p : AV → Prop} (h : ACt P f args' [] (fun r F' => p r ∧ F' = [])) (hv : VwL [(b, m)] args args') :
    ACt P f args [(b, m)] (fun r F' => p r ∧ F' = []) := by
  intro cx vs hK hw hs hr
  have hlen := hv.length
  have hbl := keys_lt hw (b, m) (List.mem_cons_self ..)
  have hKb : cx.K = [b] := by rw [hK]; rfl
  have himm : ∀ c, imm cx cx.w0 [(b, m)] c → cx.I c := by
    rintro c (hc | ⟨h1, h2, h3⟩)
    · exact hc
    · have := h3 (b, m) (List.mem_cons_self ..)
      rcases h1 with h1 | h1
      · rw [hKb] at h1; simp at h1; exact absurd h1.symm this
      · omega
  have := h ⟨cx.w0, fun c => cx.I c ∨ c = b, [], fun c hc => ⟨by rcases hc with hc | rfl; exact (cx.hI c hc).1; exact hbl, by simp⟩⟩ vs rfl ⟨by simp, fun x hx => by simp at hx, fun x hx => by simp at hx, ⟨rfl, rfl, rfl, Nat.le_refl _, fun _ _ _ => rfl⟩⟩
    (by omega) (fun i hi => by
      have hi' : i < args.length := by omega
      exact (hv.get i hi').rep hw (fun c hc => .inl (himm c hc)) (fun x hx => by simp at hx; subst hx; exact .inr rfl) ((hr i hi').mono fun c hc => ⟨.inl hc, rfl⟩))
  refine this.mono ?_
  rintro e w' ⟨v, r, F', rfl, ⟨hp, rfl⟩, hw', hrep⟩
  have e1 := hw.ext
  have e2 := hw'.ext
  refine ⟨v, r, [], rfl, ⟨hp, rfl⟩, ⟨by simp, fun x hx => by simp at hx, fun x hx => by simp at hx, ?_⟩, hrep.mono fun c hc => ⟨?_, rfl⟩⟩
  · exact ⟨e2.os.trans e1.os, e2.tape.trans e1.tape, e2.output.trans e1.output, Nat.le_trans e1.size e2.size, fun c hc hk => (e2.blk c hc (by simp)).trans (e1.blk c hc hk)⟩
  · have hsz : cx.w0.heap.size ≤ w'.heap.size := e2.size
    rcases hc with (hc | rfl) | ⟨h1, h2, h3⟩
    · exact .inl hc
    · exact .inr ⟨.inl (by rw [hKb]; simp), by omega, fun x hx => by simp at hx⟩
    · rcases h1 with h1 | h1
      · simp at h1
      · exact .inr ⟨.inr h1, h2, fun x hx => by simp at hx⟩
theorem CallV.frz {P : Program} {f : FuncId} {args args' : List AV} {H : Hp} {x : AV} {post : AV → Hp → Prop} {m : MB} (b : Nat) (hg : hget H b = some m) (h : ACt P f args' [] (Fn x)) (hv : VwL [(b, m)] args args')
    (hp : post x (hdel H b)) : CallV P f args H post := by
  refine ⟨[(b, m)], hdel H b, _, hget_perm hg, h.frz (p := fun r => r = x) hv, ?_⟩
  rintro r F' ⟨rfl, rfl⟩ hn
  exact hp
/-! ## Rows of integers that a callee hands back, ours -/
/-- What comes back is a row of these integers, the caller's own. -/
def Row (k : IntKind) (ty : TypeId) (zs : List Int) (r : AV) (F' : Hp) : Prop :=
  ∃ b' cap', zs.length ≤ cap' ∧ cap' ≤ maxLen ∧ r = ms b' 0 zs.length cap' ∧ F' = [(b', .zs k zs cap' ty)]
theorem fresh_of_nodup {b' : Nat} {m' : MB} {R : Hp} (h : (([(b', m')] ++ R).map (·.1)).Nodup) : fresh R b' := by
  rw [List.map_append, List.nodup_append] at h
  intro x hx
  have := h.2.2 b' (by simp) x.1 (List.mem_map_of_mem hx)
  exact ⟨fun he => this he.symm, this⟩
theorem CallV.row {P : Program} {f : FuncId} {args : List AV} {H : Hp} {b : Nat} {m : MB} {k : IntKind} {ty : TypeId} {zs : List Int} {post : AV → Hp → Prop} (hg : hget H b = some m) (h : ACt P f args [(b, m)] (Row k ty zs))
    (hp : Nu fun b' => Nu fun cap' => Fr (zs.length ≤ cap' ∧ cap' ≤ maxLen ∧ fresh (hdel H b) b') (post (ms b' 0 zs.length cap') ((b', .zs k zs cap' ty) :: hdel H b))) : CallV P f args H post := by
  refine ⟨[(b, m)], hdel H b, _, hget_perm hg, h, ?_⟩
  rintro r F' ⟨b', cap', h1, h2, rfl, rfl⟩ hn
  exact ((hp.out b').out cap').out ⟨h1, h2, fresh_of_nodup hn⟩
/-! ## Weakenings -/
/-- A slot, known in other words. -/
theorem Wk.slot {env env' : List (Nat × AV)} {H : Hp} (h : ∀ i (w : World) (I : Nat → Prop) v, Rep w I v (look env i) → Rep w I v (look env' i)) : Wk ⟨env, H⟩ ⟨env', H⟩ :=
  fun cx n a w ok => ⟨ok.defers, ok.size, fun i => h i w _ _ (ok.reps i), ok.world⟩
/-- No slice at all is a row of nothing. -/
theorem Rep.nilz {w : World} {I : Nat → Prop} {v : Value} {k : IntKind} (h : Rep w I v (.lit (.slice none 0 0))) : Rep w I v (.slz k []) := by
  have := h.lit_inv; subst this
  exact .slz none k [] 0 (by simp) (by simp) (.inl rfl)
theorem Rep.nils {w : World} {I : Nat → Prop} {v : Value} (h : Rep w I v (.lit (.slice none 0 0))) : Rep w I v (.sl 0 []) := by
  have := h.lit_inv; subst this
  exact .sl none 0 0 [] (fun _ => undef) (by simp) (by simp) (.inl rfl) (fun i hi => by simp at hi)
/-- What is said of the slots' front, over. -/
theorem Wk.cons {env : List (Nat × AV)} {H : Hp} {i : Nat} {x y : AV} (hl : look env i = x) (h : ∀ (w : World) (I : Nat → Prop) v, Rep w I v x → Rep w I v y) : Wk ⟨env, H⟩ ⟨(i, y) :: env, H⟩ :=
  Wk.slot fun j w I v hv => by
    simp only [look]
    split
    · rename_i hj; subst hj; rw [hl] at hv; exact h w I v hv
    · exact hv
theorem Wk.trans {s t u : St} (h1 : Wk s t) (h2 : Wk t u) : Wk s u := fun cx n a w ok => h2 cx n a w (h1 cx n a w ok)
/-- A block of cells that nobody writes from here on. -/
def frzC (b : Nat) (cs : List AV) (sz : Nat) : AV → AV
  | .lit (.slice (some ⟨b', off, none⟩) m cap) => if b' = b then (if off + m * sz ≤ cs.length ∧ m ≤ cap ∧ cap ≤ maxLen then .sl m ((cs.drop off).take (m * sz)) else .any) else .lit (.slice (some ⟨b', off, none⟩) m cap)
  | .lit (.pointer (some ⟨b', off, none⟩)) => if b' = b then .ip (cs.drop off) else .lit (.pointer (some ⟨b', off, none⟩))
  | x => x
def frzCE (b : Nat) (cs : List AV) (sz : Nat) : List (Nat × AV) → List (Nat × AV)
  | [] => []
  | (i, x) :: r => (i, frzC b cs sz x) :: frzCE b cs sz r
theorem look_frzCE {b sz : Nat} {cs : List AV} : ∀ (env : List (Nat × AV)) (i : Nat), look (frzCE b cs sz env) i = frzC b cs sz (look env i)
  | [], _ => rfl
  | (j, x) :: r, i => by
    simp only [frzCE, look]
    split
    · rfl
    · exact look_frzCE r i
theorem Wk.freezeC {env : List (Nat × AV)} {H : Hp} (b sz : Nat) {cs : List AV} {s0 ty : Nat} (hg : hget H b = some (.cells cs s0 ty)) : Wk ⟨env, H⟩ ⟨frzCE b cs sz env, hdel H b⟩ := by
  intro cx n a w ok
  obtain ⟨hw, hI, hb⟩ := ok.world.lose (w' := w) (hget_mem hg) rfl rfl rfl rfl (fun _ _ => rfl)
  obtain ⟨cur, c1, c2, c3, c4⟩ := ok.world.mem _ (hget_mem hg)
  refine ⟨ok.defers, ok.size, fun i => ?_, hw⟩
  have h := ok.reps i
  simp only [look_frzCE] at h ⊢
  generalize look env i = x at h
  have hm := h.mono hI
  unfold frzC
  split
  · rename_i b' off m cap
    split
    · rename_i he; subst he
      split
      · rename_i hc
        have := h.lit_inv
        rw [this]
        have hl : ((cs.drop off).take (m * sz)).length = m * sz := by simp; omega
        refine .sl _ _ _ _ (fun i => cur.getD (off + i) undef) hc.2.1 hc.2.2 (.inr ⟨b', off, rfl, hb, fun i hi => ?_⟩) fun i hi => ?_
        · rw [cell_of_block c1]
          have : off + i < cur.size := by rw [hl] at hi; omega
          simp [this]
        · rw [hl] at hi
          simp only [List.getElem_take, List.getElem_drop]
          exact (c4 (off + i) (by omega)).mono hI
      · exact .any _
    · exact hm
  · rename_i b' off
    split
    · rename_i he; subst he
      have := h.lit_inv
      rw [this]
      refine .ip _ _ (fun i => cur.getD (off + i) undef) (.inr ⟨b', off, rfl, hb, fun i hi => ?_⟩) fun i hi => ?_
      · rw [cell_of_block c1]
        have : off + i < cur.size := by simp at hi; omega
        simp [this]
      · simp only [List.length_drop] at hi
        simp only [List.getElem_drop]
        exact (c4 (off + i) (by omega)).mono hI
    · exact hm
  · exact hm
theorem Vw.row' {H : Hp} {b off n cap sz ty : Nat} {k : IntKind} {zs zs' : List Int} (hg : hget H b = some (.zs k zs sz ty)) (h1 : off + n ≤ zs.length) (h2 : n ≤ cap) (h3 : cap ≤ maxLen) (h4 : zs' = (zs.drop off).take n) :
    Vw H (ms b off n cap) (.slz k zs') := by
  subst h4
  exact Vw.row hg h1 h2 h3
/-- A list of views, cell by cell, from a place on. -/
def VwC (H : Hp) : List AV → List AV → Prop
  | _, [] => True
  | [], _ :: _ => False
  | x :: r, y :: s => Vw H x y ∧ VwC H r s
theorem VwC.get {H : Hp} : ∀ {l m : List AV}, VwC H l m → m.length ≤ l.length ∧ ∀ i (hi : i < m.length), Vw H (l.getD i .any) m[i]
  | _, [], _ => ⟨by simp, fun i hi => by simp at hi⟩
  | [], y :: s, h => h.elim
  | x :: r, y :: s, h => by
    obtain ⟨h1, h2⟩ := VwC.get h.2
    refine ⟨by simp; omega, fun i hi => ?_⟩
    cases i with
    | zero => simpa using h.1
    | succ i => simpa using h2 i (by simpa using hi)
theorem VwC.refl {H : Hp} : ∀ l : List AV, VwC H l l
  | [] => trivial
  | x :: r => ⟨.same x, VwC.refl r⟩
/-! ## Blocks, picked out -/
def pickB : Hp → Hp → Prop
  | _, [] => True
  | H, (b, m) :: r => hget H b = some m ∧ pickB (hdel H b) r
theorem pickB.perm : ∀ {H' H : Hp}, pickB H H' → ∃ R, H.Perm (H' ++ R)
  | [], H, _ => ⟨H, by simp⟩
  | (b, m) :: r, H, h => by
    obtain ⟨R, hR⟩ := pickB.perm h.2
    exact ⟨R, (hget_perm h.1).trans (by simpa using hR)⟩
theorem Sub.pick {env env' : List (Nat × AV)} {H H' : Hp} (hH : pickB H H') (h : ∀ p ∈ env', look env p.1 = p.2) : Sub ⟨env, H⟩ ⟨env', H'⟩ := by
  obtain ⟨R, hR⟩ := hH.perm
  exact Sub.of_env R hR h
/-! ## Ways out -/
theorem OutQ.row {P : Program} {rs : List ResultVar} {s : St} {k : IntKind} {ty : TypeId} {zs zs' : List Int} {b' n cap' : Nat} (h1 : (resv P s.H s.env rs).1) (h2 : resA (resv P s.H s.env rs).2 = ms b' 0 n cap')
    (hg : hget s.H b' = some (.zs k zs' cap' ty)) (hz : zs' = zs) (hn : zs.length = n) (hc1 : n ≤ cap') (hc2 : cap' ≤ maxLen) : OutQ P rs (Row k ty zs) s := by
  subst hz
  refine OutQ.drop [(b', .zs k zs' cap' ty)] (hdel s.H b') (hget_perm hg) h1 ⟨b', cap', by omega, hc2, ?_, rfl⟩
  rw [h2, hn]
/-- A row of ours, handed back as one that nobody writes any more. -/
theorem OutQ.fz {P : Program} {t : Tmp} {s : St} {k : IntKind} {ty s0 : TypeId} {zs zs' : List Int} {b n cap : Nat} (h2 : look s.env t = ms b 0 n cap)
    (hg : hget s.H b = some (.zs k zs' s0 ty)) (hz : zs' = zs) (hn : zs.length = n) (hc1 : n ≤ cap) (hc2 : cap ≤ maxLen) : OutQ P [.tmp t] (Fn (.slz k zs)) s := by
  subst hz
  refine OutQ.wk (Wk.freeze b hg) (OutQ.all trivial ?_)
  simp only [resv, resA, look_frzE, h2, frz, if_true]
  rw [if_pos ⟨by omega, hc1, hc2⟩, ← hn]
  simp [Fn]
end Go.Proofs.Ytngdgicgppaeaaa
namespace Go.Proofs.Ytngdgicgppaeaaa
open Go
set_option linter.unusedSimpArgs false
set_option linter.unusedVariables false
section
variable {P : Program} {cx : Cx} {n : Nat} {ops : Array Oper} {H E : Hp}
/-! ### One step, whatever it does to memory -/
/-! ### The private block -/
theorem envL_append {f : Nat → Bool} : ∀ (l1 l2 : List (Oper × AV)) (k : Nat) (env : List (Nat × AV)), envL f (l1 ++ l2) k env = envL f l2 (k + l1.length) (envL f l1 k env)
  | [], l2, k, env => by simp [envL]
  | (o, x) :: r, l2, k, env => by
    simp only [List.cons_append, envL, List.length_cons]
    rw [envL_append r l2 (k + 1)]
    congr 1
    omega
/-- The head of the region, as a formula: first what only computes; the block is made; more that computes; the block is filled; what computes behind; then the tail. -/
def drawF (P : Program) (n : Nat) (l : List Oper) (K : St → Prop) (ia is k : Nat) (s : St) : Prop :=
  dvc P n l.toArray (l.take ia) (fun s1 => match l.drop ia with
    | ⟨some t, .alloc T, _, _, _, none⟩ :: r => match zmb P T with
      | some m0 => t < n ∧ dvc P n l.toArray (r.take (is - ia - 1)) (fun s2 => match r.drop (is - ia - 1) with
        | ⟨none, .store T' (.tmp t') y, _, _, _, none⟩ :: q => t' = t ∧ (og s2.env y).1 ∧ (stC P T' m0 0 (og s2.env y).2).1 ∧ dvc P n l.toArray (q.take (k - is - 1)) (fun s3 =>
            newB s3.H (stC P T' m0 0 (og s2.env y).2).2 fun b H => rvc P n l.toArray (q.drop (k - is - 1)) K ⟨(t, pt b 0) :: s3.env, H⟩) s2
        | _ => False) ⟨(t, .any) :: s1.env, s1.H⟩
      | none => False
    | _ => False) s
theorem envL_ext {f g : Nat → Bool} : ∀ (l : List (Oper × AV)) (k : Nat) (env : List (Nat × AV)), (∀ j, k ≤ j → j < k + l.length → f j = g j) → envL f l k env = envL g l k env
  | [], _, _, _ => rfl
  | (o, x) :: r, k, env, h => by
    simp only [envL]
    rw [h k (Nat.le_refl _) (by simp)]
    exact envL_ext r (k + 1) _ fun j h1 h2 => h j (by omega) (by simp; omega)
theorem envL_none {f : Nat → Bool} : ∀ (l : List (Oper × AV)) (k : Nat) (env : List (Nat × AV)), (∀ j, k ≤ j → f j = false) → envL f l k env = env
  | [], _, _, _ => rfl
  | (o, x) :: r, k, env, h => by
    simp only [envL]
    rw [h k (Nat.le_refl _)]
    simp only [Bool.false_eq_true, if_false]
    exact envL_none r (k + 1) env fun j hj => h j (by omega)
theorem envL_shiftk {f : Nat → Bool} (c : Nat) : ∀ (l : List (Oper × AV)) (k : Nat) (env : List (Nat × AV)), envL f l (c + k) env = envL (fun j => f (c + j)) l k env
  | [], _, _ => rfl
  | (o, x) :: r, k, env => by simp only [envL]; exact envL_shiftk c r (k + 1) _
def SeqG (C : Nat → Oper → AV → List (Nat × AV) → Prop) (lx : List (Oper × AV)) (env : List (Nat × AV)) : Prop :=
  ∀ i o x, lx[i]? = some (o, x) → C i o x (envL (fun j => decide (j < i)) lx 0 env)
theorem SeqG.app {C : Nat → Oper → AV → List (Nat × AV) → Prop} {A B : List (Oper × AV)} {env : List (Nat × AV)} (hA : SeqG C A env) (hB : SeqG (fun i => C (A.length + i)) B (envL (fun _ => true) A 0 env)) : SeqG C (A ++ B) env := by
  intro i o x hi
  rw [envL_append]
  by_cases hlt : i < A.length
  · rw [List.getElem?_append_left hlt] at hi
    rw [envL_none B _ _ (fun j hj => by simp; omega)]
    exact hA i o x hi
  · rw [List.getElem?_append_right (by omega)] at hi
    have := hB (i - A.length) o x hi
    dsimp only at this
    rw [show A.length + (i - A.length) = i by omega] at this
    have e1 : envL (fun j => decide (j < i)) A 0 env = envL (fun _ => true) A 0 env := envL_ext A 0 env fun j _ hj => by simp; omega
    rw [e1, Nat.zero_add, show A.length = A.length + 0 from rfl, envL_shiftk A.length B 0]
    have e2 : envL (fun j => decide (A.length + j < i)) B 0 (envL (fun _ => true) A 0 env) = envL (fun j => decide (j < i - A.length)) B 0 (envL (fun _ => true) A 0 env) :=
      envL_ext B 0 _ fun j _ _ => by rw [Bool.eq_iff_iff]; simp; omega
    rw [e2]
    exact this
theorem SeqG.one {C : Nat → Oper → AV → List (Nat × AV) → Prop} {o : Oper} {x : AV} {env : List (Nat × AV)} (h : C 0 o x env) : SeqG C [(o, x)] env := by
  intro i o' x' hi
  cases i with
  | zero => simp at hi; obtain ⟨rfl, rfl⟩ := hi; simpa [envL] using h
  | succ i => simp at hi
end
end Go.Proofs.Ytngdgicgppaeaaa
namespace Go.Proofs.Ytngdgicgppaeaaa
open Go
set_option linter.unusedSimpArgs false
set_option linter.unusedVariables false
inductive Ty where
  | int (k : IntKind)
  | bool
  | str
  | row (k : IntKind)
  | sl (e : Ty)
  | st (fs : List Ty)
mutual
/-- Cells of a value of a type. -/
def Shp : Ty → List AV → Prop
  | .int k, xs => ∃ n, xs = [iv k n] ∧ (Lit.int k n).wf = true
  | .bool, xs => ∃ b, xs = [bv b]
  | .str, xs => ∃ s, xs = [.lit (.string s)] ∧ s.size ≤ maxLen
  | .row k, xs => ∃ zs : List Int, xs = [.slz k zs] ∧ ∀ n ∈ zs, (Lit.int k n).wf = true
  | .sl e, xs => ∃ rows : List (List AV), xs = [.sl rows.length rows.flatten] ∧ ∀ r ∈ rows, Shp e r
  | .st fs, xs => ShpL fs xs
def ShpL : List Ty → List AV → Prop
  | [], xs => xs = []
  | t :: ts, xs => ∃ a b, xs = a ++ b ∧ Shp t a ∧ ShpL ts b
end
def fsOk (P : Program) (r : TypeId → Ty → Bool) (total : Nat) : Nat → List Field → List Ty → Bool
  | off, [], [] => off == total
  | off, f :: fs, t :: ts => f.offset == off && r f.type t && fsOk P r total (off + P.cellsOf f.type) fs ts
  | _, _, _ => false
def tyOk (P : Program) : Nat → TypeId → Ty → Bool
  | 0, _, _ => false
  | d + 1, T, ty => match P.underlying T with
    | some (.int k) => match ty with
      | .int k' => decide (k = k') && P.cellsOf T == 1
      | _ => false
    | some .bool => match ty with
      | .bool => P.cellsOf T == 1
      | _ => false
    | some .string => match ty with
      | .str => P.cellsOf T == 1
      | _ => false
    | some (.slice e) => match ty with
      | .row k => (match P.underlying e with
        | some (.int k') => decide (k = k')
        | _ => false) && P.cellsOf e == 1 && P.cellsOf T == 1
      | .sl ety => tyOk P d e ety && P.cellsOf T == 1
      | _ => false
    | some (.struct fs) => match ty with
      | .st tys => fsOk P (tyOk P d) (P.cellsOf T) 0 fs.toList tys
      | _ => false
    | _ => false
theorem mapM_some {α β : Type} {f : α → Option β} : ∀ {l : List α} {ys : List β}, l.mapM f = some ys → ys.length = l.length ∧ ∀ i (h : i < l.length) (h' : i < ys.length), f l[i] = some ys[i]
  | [], ys, h => by
    simp at h
    subst h
    exact ⟨rfl, fun i h => by simp at h⟩
  | x :: r, ys, h => by
    rw [List.mapM_cons] at h
    cases hx : f x with
    | none => rw [hx] at h; simp at h
    | some y =>
      rw [hx] at h
      cases hr : r.mapM f with
      | none => rw [hr] at h; simp at h
      | some zs =>
        rw [hr] at h
        simp at h
        subst h
        obtain ⟨h1, h2⟩ := mapM_some hr
        refine ⟨by simp [h1], fun i hi hi' => ?_⟩
        cases i with
        | zero => simpa using hx
        | succ i => simpa using h2 i (by simpa using hi) (by simpa using hi')
theorem flatten_get {sz : Nat} : ∀ {rows : List (List AV)}, (∀ r ∈ rows, r.length = sz) → rows.flatten.length = rows.length * sz ∧ ∀ i j (hi : i < rows.length) (hj : j < sz), rows.flatten.getD (i * sz + j) .any = (rows.getD i []).getD j .any
  | [], _ => ⟨by simp, fun i j hi => by simp at hi⟩
  | r :: rs, h => by
    have hr := h r (List.mem_cons_self ..)
    obtain ⟨h1, h2⟩ := flatten_get (rows := rs) fun q hq => h q (List.mem_cons_of_mem _ hq)
    refine ⟨by simp [h1, hr, Nat.succ_mul]; omega, fun i j hi hj => ?_⟩
    cases i with
    | zero =>
      simp only [List.flatten_cons, Nat.zero_mul, Nat.zero_add, List.getD, List.getElem?_cons_zero, Option.getD_some]
      rw [List.getElem?_append_left (by omega)]
    | succ i =>
      have := h2 i j (by simpa using hi) hj
      simp only [List.flatten_cons, List.getD] at this ⊢
      rw [List.getElem?_append_right (by rw [hr, Nat.succ_mul]; omega)]
      rw [show (i + 1) * sz + j - r.length = i * sz + j by rw [hr, Nat.succ_mul]; omega]
      simpa using this
section
variable {H : Type} {enc : TypeId × Value → H} {P : Program} {w : World} {spare : Nat → Bool} {held : Bool}
def Opens (w : World) (ty : Ty) (sz : Nat) (cs : List Value) : Prop :=
  ∃ xs, Shp ty xs ∧ xs.length = sz ∧ cs.length = sz ∧ ∀ i (hi : i < xs.length), Rep w (fun b => b < w.heap.size) (cs.getD i undef) xs[i]
theorem cells?_some {a : Addr} {n : Nat} {cs : List Value} (h : w.cells? 0 a n = some cs) : cs.length = n ∧ ∀ j, j < n → w.cell? (a.add j) = some (cs.getD j undef) := by
  unfold World.cells? at h
  rw [if_pos (Nat.zero_le _)] at h
  obtain ⟨h1, h2⟩ := mapM_some h
  simp only [List.length_range] at h1
  refine ⟨h1, fun j hj => ?_⟩
  have := h2 j (by simpa using hj) (by omega)
  simp only [List.getElem_range] at this
  rw [this]
  simp [List.getD, show j < cs.length by omega]
theorem add_at {a : Addr} {v : Value} (h : w.cell? (a.add 0) = some v) : a.block < w.heap.size ∧ ∃ b off, a = ⟨b, off, none⟩ := by
  have := World.cell?_lt h
  unfold Addr.add at this
  rw [if_pos rfl] at this
  obtain ⟨h1, h2⟩ := this
  obtain ⟨b, off, sp⟩ := a
  simp only at h1 h2
  subst h2
  exact ⟨h1, b, off, rfl⟩
/-- Elements of a slice, one behind the other. -/
theorem opens_elems {e : TypeId} {fuel len : Nat} {a : Addr} {elems : List (DataW H × List MemPlace)} {Q : Nat → List Value → Prop} (hc : 0 < P.cellsOf e)
    (hm : ((List.range len).mapM fun i => (w.cells? 0 (a.add (i * P.cellsOf e)) (P.cellsOf e)).bind (DataW.trod enc P w 0 spare held fuel e)) = some elems)
    (hQ : ∀ (i : Nat) (cs : List Value) (r : DataW H × List MemPlace), DataW.trod enc P w 0 spare held fuel e cs = some r → Q i cs) :
    len = 0 ∨ ∃ b off, a = ⟨b, off, none⟩ ∧ b < w.heap.size ∧ ∀ i, i < len → ∃ cs, cs.length = P.cellsOf e ∧ Q i cs ∧ ∀ j, j < P.cellsOf e → w.cell? ⟨b, off + (i * P.cellsOf e + j), none⟩ = some (cs.getD j undef) := by
  obtain ⟨h1, h2⟩ := mapM_some hm
  have hel : ∀ i, i < len → ∃ cs, cs.length = P.cellsOf e ∧ Q i cs ∧ ∀ j, j < P.cellsOf e → w.cell? ((a.add (i * P.cellsOf e)).add j) = some (cs.getD j undef) := by
    intro i hi
    have := h2 i (by simpa using hi) (by simp at h1; omega)
    simp only [List.getElem_range] at this
    cases hc : w.cells? 0 (a.add (i * P.cellsOf e)) (P.cellsOf e) with
    | none => rw [hc] at this; simp at this
    | some cs =>
      rw [hc] at this
      obtain ⟨g1, g2⟩ := cells?_some hc
      exact ⟨cs, g1, hQ i cs _ this, g2⟩
  by_cases h0 : len = 0
  · exact .inl h0
  · obtain ⟨cs0, _, _, g⟩ := hel 0 (by omega)
    have g0 := g 0 hc
    rw [Nat.zero_mul] at g0
    have g0' : w.cell? (a.add 0) = some (cs0.getD 0 undef) := by
      have : (a.add 0).add 0 = a.add 0 := by simp [Addr.add]
      rw [this] at g0
      exact g0
    obtain ⟨hb, b, off, rfl⟩ := add_at g0'
    refine .inr ⟨b, off, rfl, hb, fun i hi => ?_⟩
    obtain ⟨cs, c1, c2, c3⟩ := hel i hi
    refine ⟨cs, c1, c2, fun j hj => ?_⟩
    have := c3 j hj
    rw [Addr.add_none, Addr.add_none] at this
    rw [← Nat.add_assoc]
    exact this
theorem choose_list {α : Type} {R : Nat → α → Prop} : ∀ (n : Nat), (∀ i, i < n → ∃ x, R i x) → ∃ l : List α, l.length = n ∧ ∀ i (h : i < l.length), R i l[i]
  | 0, _ => ⟨[], rfl, fun i h => by simp at h⟩
  | n + 1, h => by
    obtain ⟨l, h1, h2⟩ := choose_list n fun i hi => h i (by omega)
    obtain ⟨x, hx⟩ := h n (by omega)
    refine ⟨l ++ [x], by simp [h1], fun i hi => ?_⟩
    by_cases hlt : i < l.length
    · rw [List.getElem_append_left hlt]; exact h2 i hlt
    · rw [List.getElem_append_right (by omega)]
      have : i = n := by simp at hi; omega
      subst this
      simpa [h1] using hx
theorem opens_fields {d : Nat} (ih : ∀ (ty : Ty) (T : TypeId) (fuel : Nat) (cs : List Value) (r : DataW H × List MemPlace), tyOk P d T ty = true → DataW.trod enc P w 0 spare held fuel T cs = some r → Opens w ty (P.cellsOf T) cs)
    {cs : List Value} {fuel total : Nat} (hcs : cs.length = total) : ∀ (fs : List Field) (tys : List Ty) (off : Nat) (rs : List (DataW H × List MemPlace)), fsOk P (tyOk P d) total off fs tys = true →
      (fs.mapM fun f => DataW.trod enc P w 0 spare held fuel f.type ((cs.drop f.offset).take (P.cellsOf f.type))) = some rs → off ≤ total ∧ ∃ xs, ShpL tys xs ∧ xs.length = total - off ∧ ∀ i (hi : i < xs.length), Rep w (fun b => b < w.heap.size) (cs.getD (off + i) undef) xs[i]
  | [], [], off, rs, h, _ => by
    simp only [fsOk, beq_iff_eq] at h
    refine ⟨by omega, [], by simp [ShpL], by simp; omega, fun i hi => by simp at hi⟩
  | f :: fs, t :: ts, off, rs, h, hr => by
    simp only [fsOk, Bool.and_eq_true, beq_iff_eq] at h
    obtain ⟨⟨h1, h2⟩, h3⟩ := h
    rw [List.mapM_cons] at hr
    cases hx : DataW.trod enc P w 0 spare held fuel f.type ((cs.drop f.offset).take (P.cellsOf f.type)) with
    | none => rw [hx] at hr; simp at hr
    | some y =>
      rw [hx] at hr
      cases hrr : (fs.mapM fun f => DataW.trod enc P w 0 spare held fuel f.type ((cs.drop f.offset).take (P.cellsOf f.type))) with
      | none => rw [hrr] at hr; simp at hr
      | some zs =>
        obtain ⟨hle, xs2, s2, l2, r2⟩ := opens_fields ih hcs fs ts _ zs h3 hrr
        obtain ⟨xs1, s1, l1, c1, r1⟩ := ih t f.type fuel _ y h2 hx
        refine ⟨by omega, xs1 ++ xs2, ⟨xs1, xs2, rfl, s1, s2⟩, by simp [l1, l2]; omega, fun i hi => ?_⟩
        by_cases hlt : i < xs1.length
        · rw [List.getElem_append_left hlt]
          have := r1 i hlt
          have e : ((cs.drop f.offset).take (P.cellsOf f.type)).getD i undef = cs.getD (off + i) undef := by
            simp only [List.getD, List.getElem?_take, List.getElem?_drop, h1]
            rw [if_pos (by omega)]
          rw [e] at this
          exact this
        · rw [List.getElem_append_right (by omega)]
          have hi2 : i - xs1.length < xs2.length := by simp at hi; omega
          have := r2 (i - xs1.length) hi2
          rw [show off + P.cellsOf f.type + (i - xs1.length) = off + i by omega] at this
          exact this
  | [], _ :: _, _, _, h, _ => by simp [fsOk] at h
  | _ :: _, [], _, _, h, _ => by simp [fsOk] at h
theorem opens : ∀ (d : Nat) (ty : Ty) (T : TypeId) (fuel : Nat) (cs : List Value) (r : DataW H × List MemPlace), tyOk P d T ty = true → DataW.trod enc P w 0 spare held fuel T cs = some r → Opens w ty (P.cellsOf T) cs
  | 0, _, _, _, _, _, h, _ => by simp [tyOk] at h
  | d + 1, ty, T, 0, cs, r, _, hr => by simp [DataW.trod] at hr
  | d + 1, ty, T, fuel + 1, cs, r, h, hr => by
    have ih := opens d
    rw [DataW.trod_step] at hr
    unfold tyOk at h
    unfold DataW.trodStep at hr
    cases hu : P.underlying T with
    | none => rw [hu] at h; cases h
    | some td =>
      rw [hu] at h hr
      cases td with
      | int k =>
        cases ty <;> simp only at h <;> try (cases h)
        rename_i k'
        simp only [Bool.and_eq_true, decide_eq_true_eq, beq_iff_eq] at h
        obtain ⟨rfl, hc⟩ := h
        split at hr <;> first | (rename_i he _; cases he; done) | skip
        all_goals (first | (simp at *; done) | skip)
        rename_i k2 k3 n heq
        simp only [Option.some.injEq, TypeDesc.int.injEq] at heq
        subst heq
        split at hr
        · rename_i hk
          obtain ⟨rfl, hwf⟩ := hk
          exact ⟨[iv k3 n], ⟨n, rfl, hwf⟩, by simp [hc], by simp [hc], fun i hi => by
            have : i = 0 := by simp at hi; omega
            subst this
            exact .lit _⟩
        · cases hr
      | bool =>
        cases ty <;> simp only at h <;> try (cases h)
        simp only [beq_iff_eq] at h
        split at hr <;> first | (simp at *; done) | skip
        all_goals (first | (simp_all; done) | skip)
        rename_i b heq
        exact ⟨[bv b], ⟨b, rfl⟩, by simp [h], by simp [h], fun i hi => by
          have : i = 0 := by simp at hi; omega
          subst this
          exact .lit _⟩
      | string =>
        cases ty <;> simp only at h <;> try (cases h)
        simp only [beq_iff_eq] at h
        split at hr <;> first | (simp at *; done) | skip
        all_goals (first | (simp_all; done) | skip)
        rename_i s heq
        split at hr
        · rename_i hs
          exact ⟨[.lit (.string s)], ⟨s, rfl, hs⟩, by simp [h], by simp [h], fun i hi => by
            have : i = 0 := by simp at hi; omega
            subst this
            exact .lit _⟩
        · cases hr
      | slice e =>
        have hcs : (cs = [.slice none 0 0]) ∨ ∃ a len cap elems, cs = [.slice (some a) len cap] ∧ len ≤ cap ∧ cap ≤ maxLen ∧
            ((List.range len).mapM fun i => (w.cells? 0 (a.add (i * P.cellsOf e)) (P.cellsOf e)).bind (DataW.trod enc P w 0 spare held fuel e)) = some elems := by
          split at hr <;> first | (exfalso; simp at *; done) | skip
          all_goals (first | (left; rfl) | skip)
          all_goals (first | (exfalso; simp_all; done) | skip)
          rename_i e' a len cap heq
          simp only [Option.some.injEq, TypeDesc.slice.injEq] at heq
          subst heq
          split at hr
          · rename_i hk
            cases hm : ((List.range len).mapM fun i => (w.cells? 0 (a.add (i * P.cellsOf e)) (P.cellsOf e)).bind (DataW.trod enc P w 0 spare held fuel e)) with
            | none => simp [hm] at hr
            | some elems => exact .inr ⟨a, len, cap, elems, rfl, hk.2.1, hk.2.2, hm⟩
          · cases hr
        cases ty <;> simp only at h <;> try (cases h)
        · rename_i k
          simp only [Bool.and_eq_true, beq_iff_eq] at h
          obtain ⟨⟨h1, h2⟩, h3⟩ := h
          have hue : P.underlying e = some (.int k) := by
            split at h1
            · rename_i k' hk; rw [hk]; simp at h1; rw [h1]
            · cases h1
          rcases hcs with rfl | ⟨a, len, cap, elems, rfl, hl, hm, hel⟩
          · exact ⟨[.slz k []], ⟨[], rfl, by simp⟩, by simp [h3], by simp [h3], fun i hi => by
              have : i = 0 := by simp at hi; omega
              subst this
              exact Rep.nilz (.lit _)⟩
          · have hz : ∃ zs : List Int, zs.length = len ∧ (∀ n ∈ zs, (Lit.int k n).wf = true) ∧ Spot w (fun b => b < w.heap.size) (some a) zs.length (fun i => .int k (zs.getD i 0)) := by
              rcases opens_elems (Q := fun _ cs => ∃ n, cs = [.int k n] ∧ (Lit.int k n).wf = true) (by omega) hel (fun i cs r htr => by
                cases fuel with
                | zero => simp [DataW.trod] at htr
                | succ fuel =>
                  rw [DataW.trod_step] at htr
                  unfold DataW.trodStep at htr
                  rw [hue] at htr
                  split at htr <;> first | (exfalso; simp at *; done) | skip
                  all_goals (first | (exfalso; simp_all; done) | skip)
                  rename_i k2 k3 n heq
                  simp only [Option.some.injEq, TypeDesc.int.injEq] at heq
                  subst heq
                  split at htr
                  · rename_i hk
                    obtain ⟨rfl, hwf⟩ := hk
                    exact ⟨n, rfl, hwf⟩
                  · cases htr) with h0 | ⟨b, off, rfl, hb, hall⟩
              · exact ⟨[], by simp [h0], by simp, .inl rfl⟩
              · obtain ⟨zs, z1, z2⟩ := choose_list (R := fun i n => (Lit.int k n).wf = true ∧ w.cell? ⟨b, off + i, none⟩ = some (.int k n)) len fun i hi => by
                  obtain ⟨cs, c1, ⟨n, rfl, hwf⟩, c3⟩ := hall i hi
                  have := c3 0 (by omega)
                  rw [h2] at this
                  exact ⟨n, hwf, by simpa using this⟩
                refine ⟨zs, z1, fun n hn => ?_, .inr ⟨b, off, rfl, hb, fun i hi => ?_⟩⟩
                · obtain ⟨i, hi, rfl⟩ := List.getElem_of_mem hn
                  exact (z2 i hi).1
                · rw [(z2 i hi).2]
                  simp [List.getD, hi]
            obtain ⟨zs, z1, z2, z3⟩ := hz
            refine ⟨[.slz k zs], ⟨zs, rfl, z2⟩, by simp [h3], by simp [h3], fun i hi => ?_⟩
            have : i = 0 := by simp at hi; omega
            subst this
            have := Rep.slz (some a) k zs cap (by omega) hm z3
            rw [z1] at this
            exact this
        · rename_i ety
          simp only [Bool.and_eq_true, beq_iff_eq] at h
          obtain ⟨h1, h3⟩ := h
          rcases hcs with rfl | ⟨a, len, cap, elems, rfl, hl, hm, hel⟩
          · exact ⟨[.sl 0 []], ⟨[], rfl, by simp⟩, by simp [h3], by simp [h3], fun i hi => by
              have : i = 0 := by simp at hi; omega
              subst this
              exact Rep.nils (.lit _)⟩
          · by_cases hc0 : P.cellsOf e = 0
            · obtain ⟨m1, m2⟩ := mapM_some hel
              have hrows : ∀ i, i < len → ∃ xs : List AV, Shp ety xs ∧ xs.length = 0 := fun i hi => by
                have := m2 i (by simpa using hi) (by simp at m1; omega)
                simp only [List.getElem_range] at this
                cases hcc : w.cells? 0 (a.add (i * P.cellsOf e)) (P.cellsOf e) with
                | none => rw [hcc] at this; simp at this
                | some cs =>
                  rw [hcc] at this
                  obtain ⟨xs, s1, s2, _⟩ := ih ety e fuel cs _ h1 this
                  exact ⟨xs, s1, by rw [s2, hc0]⟩
              obtain ⟨rows, r1, r2⟩ := choose_list (R := fun _ xs => Shp ety xs ∧ xs.length = 0) len hrows
              obtain ⟨f1, _⟩ := flatten_get (sz := 0) (rows := rows) fun r hr => by obtain ⟨i, hi, rfl⟩ := List.getElem_of_mem hr; exact (r2 i hi).2
              refine ⟨[.sl rows.length rows.flatten], ⟨rows, rfl, fun r hr => by obtain ⟨i, hi, rfl⟩ := List.getElem_of_mem hr; exact (r2 i hi).1⟩, by simp [h3], by simp [h3], fun i hi => ?_⟩
              have : i = 0 := by simp at hi; omega
              subst this
              simp only [List.getD_cons_zero, List.getElem_cons_zero]
              rw [r1]
              exact .sl _ _ _ _ (fun _ => undef) hl hm (.inl (by rw [f1]; simp)) fun j hj => by rw [f1] at hj; simp at hj
            · rcases opens_elems (Q := fun _ cs => Opens w ety (P.cellsOf e) cs) (by omega) hel (fun i cs r htr => ih ety e fuel cs r h1 htr) with h0 | ⟨b, off, rfl, hb, hall⟩
              · subst h0
                exact ⟨[.sl 0 []], ⟨[], rfl, by simp⟩, by simp [h3], by simp [h3], fun i hi => by
                  have : i = 0 := by simp at hi; omega
                  subst this
                  exact .sl _ _ _ _ (fun _ => undef) hl hm (.inl rfl) fun j hj => by simp at hj⟩
              · obtain ⟨rows, r1, r2⟩ := choose_list (R := fun i xs => Shp ety xs ∧ xs.length = P.cellsOf e ∧ ∀ j (hj : j < xs.length), ∃ v, w.cell? ⟨b, off + (i * P.cellsOf e + j), none⟩ = some v ∧ Rep w (fun b => b < w.heap.size) v xs[j]) len fun i hi => by
                  obtain ⟨cs, c1, ⟨xs, s1, s2, s3, s4⟩, c3⟩ := hall i hi
                  exact ⟨xs, s1, s2, fun j hj => ⟨_, c3 j (by omega), s4 j hj⟩⟩
                obtain ⟨f1, f2⟩ := flatten_get (sz := P.cellsOf e) (rows := rows) fun r hr => by obtain ⟨i, hi, rfl⟩ := List.getElem_of_mem hr; exact (r2 i hi).2.1
                refine ⟨[.sl rows.length rows.flatten], ⟨rows, rfl, fun r hr => by obtain ⟨i, hi, rfl⟩ := List.getElem_of_mem hr; exact (r2 i hi).1⟩, by simp [h3], by simp [h3], fun i hi => ?_⟩
                have : i = 0 := by simp at hi; omega
                subst this
                simp only [List.getD_cons_zero, List.getElem_cons_zero]
                rw [r1]
                have hcell : ∀ m, m < rows.flatten.length → ∃ v, w.cell? ⟨b, off + m, none⟩ = some v ∧ Rep w (fun b => b < w.heap.size) v (rows.flatten.getD m .any) := by
                  intro m hm
                  rw [f1] at hm
                  have hi' : m / P.cellsOf e < rows.length := by rw [Nat.div_lt_iff_lt_mul (by omega)]; exact hm
                  have hj' : m % P.cellsOf e < P.cellsOf e := Nat.mod_lt _ (by omega)
                  have hmm : m / P.cellsOf e * P.cellsOf e + m % P.cellsOf e = m := by rw [Nat.mul_comm]; exact Nat.div_add_mod m _
                  obtain ⟨_, g2, g3⟩ := r2 _ hi'
                  obtain ⟨v, v1, v2⟩ := g3 (m % P.cellsOf e) (by rw [g2]; exact hj')
                  rw [hmm] at v1
                  refine ⟨v, v1, ?_⟩
                  have := f2 _ _ hi' hj'
                  rw [hmm] at this
                  rw [this]
                  simp only [List.getD, List.getElem?_eq_getElem hi', Option.getD_some]
                  rw [List.getElem?_eq_getElem (by rw [g2]; exact hj')]
                  exact v2
                refine .sl _ _ _ _ (fun m => (w.cell? ⟨b, off + m, none⟩).getD undef) hl hm (.inr ⟨b, off, rfl, hb, fun m hm => ?_⟩) fun m hm => ?_
                · obtain ⟨v, v1, _⟩ := hcell m hm
                  simp only [v1, Option.getD_some]
                · obtain ⟨v, v1, v2⟩ := hcell m hm
                  simp only [v1, Option.getD_some]
                  have e9 : rows.flatten.getD m .any = rows.flatten[m] := by rw [List.getD_eq_getElem?_getD, List.getElem?_eq_getElem hm, Option.getD_some]
                  rw [e9] at v2
                  exact v2
      | struct fs =>
        cases ty <;> simp only at h <;> try (cases h)
        rename_i tys
        split at hr <;> first | (exfalso; simp at *; done) | skip
        all_goals (first | (exfalso; simp_all; done) | skip)
        rename_i cs' fs' heq
        simp only [Option.some.injEq, TypeDesc.struct.injEq] at heq
        subst heq
        split at hr
        · rename_i hlen
          obtain ⟨rs, hm, _⟩ := Option.map_eq_some_iff.1 hr
          obtain ⟨_, xs, s1, s2, s3⟩ := opens_fields ih hlen fs.toList tys 0 rs h hm
          exact ⟨xs, s1, by omega, hlen, fun i hi => by simpa using s3 i hi⟩
        · cases hr
      | _ => simp at h
end
/-- A struct. -/
theorem open_st {H : Type} {enc : TypeId × Value → H} {P : Program} {w : World} {spare : Nat → Bool} {held : Bool} {ty : Ty} {T : TypeId} {cs : Array Value} {d : DataW H} {ps : List MemPlace} (ht : tyOk P 20 T ty = true)
    (h : DataW.Trod enc P w 0 spare held T (.agg cs) d ps) : ∃ xs, Shp ty xs ∧ Rep w (fun b => b < w.heap.size) (.agg cs) (.agg xs) := by
  obtain ⟨fuel, hf⟩ := h
  obtain ⟨xs, s1, s2, s3, s4⟩ := opens 20 ty T fuel _ _ ht hf
  have hcs : (Value.agg cs).cells.toList = cs.toList := rfl
  rw [hcs] at s3 s4
  refine ⟨xs, s1, .agg _ _ (by simp at s3; omega) fun i hi => ?_⟩
  have := s4 i hi
  simpa [List.getD] using this
end Go.Proofs.Ytngdgicgppaeaaa
namespace Go.Proofs.Ytngdgicgppaeaaa
open Go
set_option linter.unusedVariables false
/-- A function without a body, of plain values. -/
theorem ACt.outer {P : Program} {f : FuncId} {fn : Func} {e : Array Value → Sem Value} {ls : List Value} {x : AV} (hf : P.funcs[f]? = some fn) (hname : (fn.name == "runtime.NumGoroutine") = false)
    (hb : fn.body.isNone = true) (hn : Extern.findNext fn = none) (he : Extern.find fn = some e)
    (hr : ∀ w : World, ∃ v, (e ls.toArray).run P w = .ok v w ∧ ∀ I, Rep w I v x) : ACt P f (ls.map .lit) [] (Fn x) := by
  intro cx vs hK hw hs hv
  have hvs : vs = ls.toArray := by
    apply Array.ext
    · simpa using hs
    · intro i h1 h2
      have h3 : i < ls.length := by simpa using h2
      have := hv i (by simpa using h3)
      have e1 : (ls.map AV.lit).getD i .any = .lit ls[i] := by simp [List.getD, h3]
      have e2 : vs.getD i undef = vs[i] := by simp [h1]
      rw [e1, e2] at this
      simpa using this.lit_inv
  obtain ⟨v, h1, h2⟩ := hr cx.w0
  refine .inr ⟨v, cx.w0, ?_, v, x, [], rfl, ⟨rfl, rfl⟩, hw, h2 _⟩
  rw [run_callFunc_extern hf hname hb hn he, hvs, h1, Result.andThen_ok]
def ndF : Hp → Prop
  | [] => True
  | (b, _) :: r => fresh r b ∧ ndF r
theorem ndF_of : ∀ {H : Hp}, (H.map (·.1)).Nodup → ndF H
  | [], _ => trivial
  | (b, m) :: r, h => by
    simp only [List.map_cons, List.nodup_cons] at h
    refine ⟨fun x hx => ?_, ndF_of h.2⟩
    have : x.1 ≠ b := fun he => h.1 (he ▸ List.mem_map_of_mem hx)
    exact ⟨this, fun he => this he.symm⟩
theorem WP.nd {P : Program} {cx : Cx} {n : Nat} {c : Code} {Q : Exit → St → Prop} {s : St} (h : ndF s.H → WP P cx n c Q s) : WP P cx n c Q s := fun a w ok => h (ndF_of ok.world.nodup) a w ok
end Go.Proofs.Ytngdgicgppaeaaa
namespace Go.Proofs.Ytngdgicgppaeaaa
open Go
set_option linter.unusedVariables false
set_option linter.unusedSimpArgs false
theorem eqCells_cons (c d : AV) : ∀ r s, eqCells (c :: r) (d :: s) = ((eqCells [c] [d]).1 ∧ (eqCells r s).1, (eqCells [c] [d]).2 && (eqCells r s).2) := by
  intro r s
  cases c <;> cases d <;> try (simp [eqCells]; done)
  rename_i v w
  cases v <;> cases w <;> simp [eqCells]
theorem eqCells_append : ∀ (cs ds cs' ds' : List AV), cs.length = ds.length → eqCells (cs ++ cs') (ds ++ ds') = ((eqCells cs ds).1 ∧ (eqCells cs' ds').1, (eqCells cs ds).2 && (eqCells cs' ds').2)
  | [], [], cs', ds', _ => by simp [eqCells]
  | c :: cs, d :: ds, cs', ds', h => by
    rw [List.cons_append, List.cons_append, eqCells_cons, eqCells_append cs ds cs' ds' (by simpa using h), eqCells_cons c d cs ds]
    simp [and_assoc, Bool.and_assoc]
  | [], _ :: _, _, _, h => by simp at h
  | _ :: _, [], _, _, h => by simp at h
theorem eqFields_cons {P : Program} {w : World} {n : Nat} {xs ys : Array Value} {f : Field} {fs : List Field} {r : Bool} (h : (Op.eqFields n xs ys [f]).run P w = .ok r w) :
    (Op.eqFields n xs ys (f :: fs)).run P w = if r then (Op.eqFields n xs ys fs).run P w else .ok false w := by
  simp only [Op.eqFields] at h ⊢
  split at h
  · rename_i hn
    rw [if_pos hn]
    simp only [Sem.run_bind] at h ⊢
    cases e1 : (part f.type xs f.offset).run P w with
    | ok a w1 =>
      rw [e1] at h
      simp only [Result.andThen_ok, Sem.run_bind] at h ⊢
      cases e2 : (part f.type ys f.offset).run P w1 with
      | ok b w2 =>
        rw [e2] at h
        simp only [Result.andThen_ok, Sem.run_bind] at h ⊢
        cases e3 : (Op.equalIn n f.type a b).run P w2 with
        | ok c w3 =>
          rw [e3] at h
          simp only [Result.andThen_ok] at h ⊢
          cases c
          · simp at h; obtain ⟨rfl, rfl⟩ := h; simp
          · simp at h; obtain ⟨rfl, rfl⟩ := h; simp
        | halt x w3 => rw [e3] at h; simp [Result.andThen] at h
      | halt x w2 => rw [e2] at h; simp [Result.andThen] at h
    | halt x w1 => rw [e1] at h; simp [Result.andThen] at h
  · rename_i hn
    rw [if_neg hn]
    simp at h
    subst h
    simp
/-- a field's own cells, if it is a plain struct -/
def subB (P : Program) (T : TypeId) (sh : List Nat) : Bool :=
  !P.stoodInHeld T && decide (tyc P T = some (some sh.length)) && match P.underlying T with
  | some (.struct fs) => flatFs P 0 fs.toList sh
  | _ => false
def flat2Fs (P : Program) : Nat → List Field → List Nat → Bool
  | _, [], [] => true
  | i, f :: fs, sh =>
    if (shpT P f.type != 0) = true then flatFs P i [f] (sh.take 1) && flat2Fs P (i + 1) fs (sh.drop 1)
    else match tyc P f.type with
      | some (some m) => f.name != "_" && f.offset == i && decide (m ≤ sh.length) && subB P f.type (sh.take m) && flat2Fs P (i + m) fs (sh.drop m)
      | _ => false
  | _, _, _ => false
def flat2B (P : Program) (T : TypeId) (sh : List Nat) : Bool :=
  !P.eqGuardType P.depth T && !P.stoodInHeld T && match P.underlying T with
  | some (.struct fs) => flat2Fs P 0 fs.toList sh
  | _ => false
theorem eqCells_len : ∀ (cs ds : List AV), (eqCells cs ds).1 → cs.length = ds.length
  | [], [], _ => rfl
  | c :: cs, d :: ds, h => by
    rw [eqCells_cons] at h
    simp [eqCells_len cs ds h.2]
  | [], d :: ds, h => by simp [eqCells] at h
  | c :: cs, [], h => by cases c <;> simp [eqCells] at h
theorem flatFs_len {P : Program} : ∀ (fs : List Field) (i : Nat) (sh : List Nat), flatFs P i fs sh = true → sh.length = fs.length
  | [], i, [], _ => rfl
  | [], i, _ :: _, h => by simp [flatFs] at h
  | f :: fs, i, [], h => by simp [flatFs] at h
  | f :: fs, i, s :: sh, h => by
    simp only [flatFs, Bool.and_eq_true] at h
    simp [flatFs_len fs (i + 1) sh h.2]
theorem eqFs2 {P : Program} {w : World} {I : Nat → Prop} {xs ys : Array Value} (n : Nat) : ∀ (fs : List Field) (sh : List Nat) (i : Nat) (cs ds : List AV), flat2Fs P i fs sh = true → cs.map shp = sh → (eqCells cs ds).1 →
    (∀ j, j < cs.length → i + j < xs.size ∧ Rep w I (xs.getD (i + j) undef) (cs.getD j .any)) → (∀ j, j < ds.length → i + j < ys.size ∧ Rep w I (ys.getD (i + j) undef) (ds.getD j .any)) →
    (Op.eqFields (n + 2) xs ys fs).run P w = .ok (eqCells cs ds).2 w
  | [], sh, i, cs, ds, hf, hs, he, hx, hy => by
    cases sh with
    | cons s ss => simp [flat2Fs] at hf
    | nil =>
      cases cs with
      | cons c cs => simp at hs
      | nil => cases ds with
        | cons d ds => simp [eqCells] at he
        | nil => simp [Op.eqFields, eqCells]
  | f :: fs, sh, i, cs, ds, hf, hs, he, hx, hy => by
    have hlen := eqCells_len cs ds he
    -- the field's own cells and the rest
    have step : ∀ m : Nat, m ≤ cs.length → (∀ c1 d1, c1 = cs.take m → d1 = ds.take m → (eqCells c1 d1).1 → (Op.eqFields (n + 2) xs ys [f]).run P w = .ok (eqCells c1 d1).2 w) →
        flat2Fs P (i + m) fs (sh.drop m) = true → (Op.eqFields (n + 2) xs ys (f :: fs)).run P w = .ok (eqCells cs ds).2 w := by
      intro m hm h1 h2
      have e := eqCells_append (cs.take m) (ds.take m) (cs.drop m) (ds.drop m) (by simp; omega)
      rw [List.take_append_drop, List.take_append_drop] at e
      rw [e] at he ⊢
      have ih := eqFs2 (w := w) (I := I) (xs := xs) (ys := ys) n fs (sh.drop m) (i + m) (cs.drop m) (ds.drop m) h2 (by rw [List.map_drop, hs]) he.2
        (fun j hj => by
          have := hx (m + j) (by simp at hj; omega)
          rw [show i + m + j = i + (m + j) by omega]
          refine ⟨this.1, ?_⟩
          have h3 := this.2
          simp only [List.getD, List.getElem?_drop] at h3 ⊢
          exact h3)
        (fun j hj => by
          have := hy (m + j) (by simp at hj; omega)
          rw [show i + m + j = i + (m + j) by omega]
          refine ⟨this.1, ?_⟩
          have h3 := this.2
          simp only [List.getD, List.getElem?_drop] at h3 ⊢
          exact h3)
      rw [eqFields_cons (h1 _ _ rfl rfl he.1)]
      cases hb : (eqCells (cs.take m) (ds.take m)).2
      · simp
      · simpa using ih
    have getx : ∀ (m : Nat) (j : Nat), j < (cs.take m).length → i + j < xs.size ∧ Rep w I (xs.getD (i + j) undef) ((cs.take m).getD j .any) := fun m j hj => by
      simp only [List.length_take] at hj
      have := hx j (by omega)
      refine ⟨this.1, ?_⟩
      have h3 := this.2
      simp only [List.getD, List.getElem?_take] at h3 ⊢
      rw [if_pos (by omega)]; exact h3
    have gety : ∀ (m : Nat) (j : Nat), j < (ds.take m).length → i + j < ys.size ∧ Rep w I (ys.getD (i + j) undef) ((ds.take m).getD j .any) := fun m j hj => by
      simp only [List.length_take] at hj
      have := hy j (by omega)
      refine ⟨this.1, ?_⟩
      have h3 := this.2
      simp only [List.getD, List.getElem?_take] at h3 ⊢
      rw [if_pos (by omega)]; exact h3
    unfold flat2Fs at hf
    split at hf
    · rename_i hp
      rw [Bool.and_eq_true] at hf
      have hl := flatFs_len _ _ _ hf.1
      have hcl : 1 ≤ cs.length := by rw [← hs, List.length_take, List.length_map] at hl; simp at hl; omega
      refine step 1 hcl (fun c1 d1 h1 h2 he1 => ?_) hf.2
      subst h1 h2
      exact eqFs (I := I) (n + 1) [f] (sh.take 1) i _ _ hf.1 (by rw [List.map_take, hs]) he1 (getx 1) (gety 1)
    · split at hf
      · rename_i m hm
        simp only [Bool.and_eq_true, bne_iff_ne, beq_iff_eq, decide_eq_true_eq] at hf
        obtain ⟨⟨⟨⟨h1, h2⟩, h3⟩, h4⟩, h5⟩ := hf
        have hcl : m ≤ cs.length := by rw [← hs, List.length_map] at h3; exact h3
        refine step m hcl (fun c1 d1 g1 g2 he1 => ?_) h5
        subst g1 g2
        unfold subB at h4
        simp only [Bool.and_eq_true, Bool.not_eq_true', decide_eq_true_eq] at h4
        obtain ⟨⟨h6, _⟩, h7⟩ := h4
        split at h7
        · rename_i gs hu
          have hfo : P.fieldsOf f.type = gs := by unfold Program.fieldsOf; rw [hu]
          obtain ⟨a1, a2⟩ := run_isAgg_many (w := w) hm
          have p : ∀ zs : Array Value, (part f.type zs f.offset).run P w = .ok (.agg (zs.extract i (i + m))) w := fun zs => by
            simp [part, a1, a2, h2]
          have he2 : (Op.equalIn (n + 2) f.type (.agg (xs.extract i (i + m))) (.agg (ys.extract i (i + m)))).run P w = .ok (eqCells (cs.take m) (ds.take m)).2 w := by
            rw [run_equalIn_struct w (n + 1) f.type _ _ (by rw [hfo]; exact hu) h6, hfo]
            refine eqFs (I := I) n gs.toList (sh.take m) 0 _ _ h7 (by rw [List.map_take, hs]) he1 (fun j hj => ?_) (fun j hj => ?_)
            · have := getx m j hj
              have hj2 : j < m := by simp at hj; omega
              refine ⟨by simp; omega, ?_⟩
              have e : (xs.extract i (i + m)).getD (0 + j) undef = xs.getD (i + j) undef := by
                simp only [Array.getD_eq_getD_getElem?, Array.getElem?_extract, Nat.zero_add]
                rw [if_pos (by omega)]
              rw [e]; exact this.2
            · have := gety m j hj
              have hj2 : j < m := by simp at hj; omega
              refine ⟨by simp; omega, ?_⟩
              have e : (ys.extract i (i + m)).getD (0 + j) undef = ys.getD (i + j) undef := by
                simp only [Array.getD_eq_getD_getElem?, Array.getElem?_extract, Nat.zero_add]
                rw [if_pos (by omega)]
              rw [e]; exact this.2
          simp only [Op.eqFields, h1, ne_eq, not_false_eq_true, if_true, Sem.run_bind, p, he2, Result.andThen_ok]
          cases (eqCells (cs.take m) (ds.take m)).2 <;> simp
        · cases h7
      · cases hf
theorem flatEq_of2 {P : Program} {T : TypeId} {sh : List Nat} (h : flat2B P T sh = true) : flatEq P T sh := by
  unfold flat2B at h
  simp only [Bool.and_eq_true, Bool.not_eq_true'] at h
  obtain ⟨⟨h1, h2⟩, h3⟩ := h
  refine ⟨h1, fun w I xs ys cs ds hs hx hy he => ?_⟩
  split at h3
  · rename_i fs hu
    have hf : P.fieldsOf T = fs := by unfold Program.fieldsOf; rw [hu]
    obtain ⟨hxs, hxr⟩ : xs.size = cs.length ∧ ∀ i (hi : i < cs.length), Rep w I (xs.getD i undef) cs[i] := by cases hx; exact ⟨by assumption, by assumption⟩
    obtain ⟨hys, hyr⟩ : ys.size = ds.length ∧ ∀ i (hi : i < ds.length), Rep w I (ys.getD i undef) ds[i] := by cases hy; exact ⟨by assumption, by assumption⟩
    show (Op.equalIn (9999 + 1) T _ _).run P w = _
    rw [run_equalIn_struct w 9999 T xs ys (by rw [hf]; exact hu) h2, hf]
    refine eqFs2 (I := I) 9997 fs.toList sh 0 cs ds h3 hs he (fun j hj => ?_) (fun j hj => ?_)
    · have := hxr j hj
      rw [Nat.zero_add]
      exact ⟨by omega, by simpa [List.getD, hj] using this⟩
    · have := hyr j hj
      rw [Nat.zero_add]
      exact ⟨by omega, by simpa [List.getD, hj] using this⟩
  · cases h3
end Go.Proofs.Ytngdgicgppaeaaa
namespace Go.Proofs.Ytngdgicgppaeaaa
open Go
theorem tyc0 : tyc Try.prog 0 = some none := by kernel_rfl
theorem tyc2 : tyc Try.prog 2 = some none := by kernel_rfl
theorem zmb2 : zmb Try.prog 2 = some (.cells [(.lit (.int .i64 0))] 1 2) := by kernel_rfl
theorem tyc3 : tyc Try.prog 3 = some none := by kernel_rfl
theorem zmb3 : zmb Try.prog 3 = some (.cells [(.lit (.int .i64 0))] 1 3) := by kernel_rfl
theorem tyc4 : tyc Try.prog 4 = some none := by kernel_rfl
theorem zmb4 : zmb Try.prog 4 = some (.cells [(.lit (.bool false))] 1 4) := by kernel_rfl
theorem tyc5 : tyc Try.prog 5 = some none := by kernel_rfl
theorem zmb5 : zmb Try.prog 5 = some (.cells [(.lit (.int .u8 0))] 1 5) := by kernel_rfl
theorem tyc9 : tyc Try.prog 9 = some none := by kernel_rfl
theorem zmb9 : zmb Try.prog 9 = some (.cells [(.lit (.string ⟨#[]⟩))] 1 9) := by kernel_rfl
theorem tyc21 : tyc Try.prog 21 = some none := by kernel_rfl
theorem zmb21 : zmb Try.prog 21 = some (.cells [(.lit (.int .i32 0))] 1 21) := by kernel_rfl
theorem tyc22 : tyc Try.prog 22 = some none := by kernel_rfl
theorem zmb22 : zmb Try.prog 22 = some (.cells [(.lit (.int .u64 0))] 1 22) := by kernel_rfl
theorem tyc24 : tyc Try.prog 24 = some (some 2) := by kernel_rfl
theorem foff24_0 : foff Try.prog 24 0 = some 0 := by kernel_rfl
theorem fpart24_0 : fpart Try.prog 24 0 = some (0, none) := by kernel_rfl
theorem foff24_1 : foff Try.prog 24 1 = some 1 := by kernel_rfl
theorem fpart24_1 : fpart Try.prog 24 1 = some (1, none) := by kernel_rfl
theorem fe24 : flatEq Try.prog 24 [1, 1] := flatEq_of (by kernel_rfl)
theorem zmb24 : zmb Try.prog 24 = some (.cells [(.lit (.int .u64 0)), (.lit (.int .u64 0))] 2 24) := by kernel_rfl
theorem bldT24 : bldT Try.prog 24 = some ([(.int .u64 0), (.int .u64 0)], [(0, 1), (1, 1)]) := by kernel_rfl
theorem tyc26 : tyc Try.prog 26 = some (some 3) := by kernel_rfl
theorem foff26_0 : foff Try.prog 26 0 = some 0 := by kernel_rfl
theorem fpart26_0 : fpart Try.prog 26 0 = some (0, none) := by kernel_rfl
theorem foff26_1 : foff Try.prog 26 1 = some 1 := by kernel_rfl
theorem fpart26_1 : fpart Try.prog 26 1 = some (1, (some 2)) := by kernel_rfl
theorem zmb26 : zmb Try.prog 26 = some (.cells [(.lit (.bool false)), (.lit (.int .u64 0)), (.lit (.int .u64 0))] 3 26) := by kernel_rfl
theorem bldT26 : bldT Try.prog 26 = some ([(.bool false), (.int .u64 0), (.int .u64 0)], [(0, 1), (1, 2)]) := by kernel_rfl
theorem tyc29 : tyc Try.prog 29 = some none := by kernel_rfl
theorem zmb29 : zmb Try.prog 29 = some (.cells [(.lit (.int .i64 0))] 1 29) := by kernel_rfl
theorem tyc37 : tyc Try.prog 37 = some none := by kernel_rfl
theorem elt37 : elt Try.prog 37 = some (none, 1) := by kernel_rfl
theorem mkz37 : mkz Try.prog 37 = none := by kernel_rfl
theorem mkc37 : mkc Try.prog 37 = some (4, 1, 1, [(.lit (.bool false))]) := by kernel_rfl
theorem apT37 : apT Try.prog 37 = some (4, 1, 1) := by kernel_rfl
theorem elk37 : elk Try.prog 37 = none := by kernel_rfl
theorem zmb37 : zmb Try.prog 37 = some (.cells [(.lit (.slice none 0 0))] 1 37) := by kernel_rfl
theorem tyc42 : tyc Try.prog 42 = some none := by kernel_rfl
theorem tyc54 : tyc Try.prog 54 = some none := by kernel_rfl
theorem tyc57 : tyc Try.prog 57 = some none := by kernel_rfl
theorem tyc61 : tyc Try.prog 61 = some none := by kernel_rfl
theorem zmb61 : zmb Try.prog 61 = some (.cells [(.lit (.int .u64 0))] 1 61) := by kernel_rfl
theorem tyc64 : tyc Try.prog 64 = some none := by kernel_rfl
theorem tyc68 : tyc Try.prog 68 = some none := by kernel_rfl
theorem tyc73 : tyc Try.prog 73 = some (some 39) := by kernel_rfl
theorem elt73 : elt Try.prog 73 = some ((some 39), 1) := by kernel_rfl
theorem arr173 : arr1 Try.prog 73 = some 39 := by kernel_rfl
theorem zmb73 : zmb Try.prog 73 = some (.zs .u8 [0, 0, 0, 0, 0, 0, 0, 0, 0, 0, 0, 0, 0, 0, 0, 0, 0, 0, 0, 0, 0, 0, 0, 0, 0, 0, 0, 0, 0, 0, 0, 0, 0, 0, 0, 0, 0, 0, 0] 39 73) := by kernel_rfl
theorem bldT73 : bldT Try.prog 73 = some ([(.int .u8 0), (.int .u8 0), (.int .u8 0), (.int .u8 0), (.int .u8 0), (.int .u8 0), (.int .u8 0), (.int .u8 0), (.int .u8 0), (.int .u8 0), (.int .u8 0), (.int .u8 0), (.int .u8 0), (.int .u8 0), (.int .u8 0), (.int .u8 0), (.int .u8 0), (.int .u8 0), (.int .u8 0), (.int .u8 0), (.int .u8 0), (.int .u8 0), (.int .u8 0), (.int .u8 0), (.int .u8 0), (.int .u8 0), (.int .u8 0), (.int .u8 0), (.int .u8 0), (.int .u8 0), (.int .u8 0), (.int .u8 0), (.int .u8 0), (.int .u8 0), (.int .u8 0), (.int .u8 0), (.int .u8 0), (.int .u8 0), (.int .u8 0)], [(0, 1), (1, 1), (2, 1), (3, 1), (4, 1), (5, 1), (6, 1), (7, 1), (8, 1), (9, 1), (10, 1), (11, 1), (12, 1), (13, 1), (14, 1), (15, 1), (16, 1), (17, 1), (18, 1), (19, 1), (20, 1), (21, 1), (22, 1), (23, 1), (24, 1), (25, 1), (26, 1), (27, 1), (28, 1), (29, 1), (30, 1), (31, 1), (32, 1), (33, 1), (34, 1), (35, 1), (36, 1), (37, 1), (38, 1)]) := by kernel_rfl
theorem tyc74 : tyc Try.prog 74 = some none := by kernel_rfl
theorem tyc76 : tyc Try.prog 76 = some none := by kernel_rfl
theorem elt76 : elt Try.prog 76 = some (none, 1) := by kernel_rfl
theorem mkz76 : mkz Try.prog 76 = some (5, 1, .u8) := by kernel_rfl
theorem apT76 : apT Try.prog 76 = some (5, 1, 1) := by kernel_rfl
theorem elk76 : elk Try.prog 76 = (some .u8) := by kernel_rfl
theorem zmb76 : zmb Try.prog 76 = some (.cells [(.lit (.slice none 0 0))] 1 76) := by kernel_rfl
theorem tyc79 : tyc Try.prog 79 = some none := by kernel_rfl
theorem tyc81 : tyc Try.prog 81 = some none := by kernel_rfl
theorem elt81 : elt Try.prog 81 = some (none, 1) := by kernel_rfl
theorem mkz81 : mkz Try.prog 81 = some (3, 8, .i64) := by kernel_rfl
theorem apT81 : apT Try.prog 81 = some (3, 1, 8) := by kernel_rfl
theorem elk81 : elk Try.prog 81 = (some .i64) := by kernel_rfl
theorem zmb81 : zmb Try.prog 81 = some (.cells [(.lit (.slice none 0 0))] 1 81) := by kernel_rfl
theorem tyc86 : tyc Try.prog 86 = some none := by kernel_rfl
theorem zmb86 : zmb Try.prog 86 = some (.cells [(.lit .nilIface)] 1 86) := by kernel_rfl
theorem mixed : Try.prog.follows .mixedOrders = true := by kernel_rfl
end Go.Proofs.Ytngdgicgppaeaaa
namespace Go.Proofs.Ytngdgicgppaeaaa
open Go
set_option linter.unusedSimpArgs false
set_option linter.unusedVariables false
section
variable {P : Program} {f : FuncId} {args : List AV} {H F F0 R : Hp} {post : AV → Hp → Prop}
theorem DCt.updN {x : AV} (hP : H.Perm (F ++ R)) (h : ACt P f args F (fun r F' => r = x ∧ F' = F)) : DCt P f args H x :=
  ⟨F, R, _, hP, h, fun r F' hr _ => by obtain ⟨e1, e2⟩ := hr; subst e1 e2; exact ⟨rfl, hP.symm⟩⟩
theorem CallV.updN {x : AV} (hP : H.Perm (F ++ R)) (h : ACt P f args F (fun r F' => r = x ∧ F' = F0)) (hp : post x (F0 ++ R)) : CallV P f args H post :=
  ⟨F, R, _, hP, h, fun r F' hr _ => by obtain ⟨e1, e2⟩ := hr; subst e1 e2; exact hp⟩
/-- A call that may leave things in one of many ways. -/
theorem CallV.ex {Γ : Type} {x : Γ → AV} {m : Γ → Hp} (hP : H.Perm (F ++ R)) (h : ACt P f args F (fun r F' => ∃ g, r = x g ∧ F' = m g)) (hp : ∀ g, post (x g) (m g ++ R)) : CallV P f args H post :=
  ⟨F, R, _, hP, h, fun r F' hr _ => by obtain ⟨g, e1, e2⟩ := hr; subst e1 e2; exact hp g⟩
theorem ExF.up {K : AV → Prop} {x : AV} (hP : ∃ R, H.Perm (F ++ R)) (h : ACt P f args F (fun r F' => r = x ∧ F' = F)) (hk : K x) : ExF P f args H K := let ⟨_, hP⟩ := hP; ExF.on (DCt.updN hP h) hk
theorem ExG.up {c : Bool} {K : AV → Prop} {x : AV} (hP : ∃ R, H.Perm (F ++ R)) (h : c = true → ACt P f args F (fun r F' => r = x ∧ F' = F)) (hk : K x) : ExG c P f args H K := let ⟨_, hP⟩ := hP; ExG.on (fun hc => DCt.updN hP (h hc)) hk
end
end Go.Proofs.Ytngdgicgppaeaaa
namespace Go.Proofs.Ytngdgicgppaeaaa
open Go
set_option linter.unusedSimpArgs false
set_option linter.unusedVariables false
section
variable {P : Program} {cx : Cx} {n : Nat} {ops : Array Oper}
/-- A call that changes blocks of ours in one way. -/
def ECt (P : Program) (f : FuncId) (args : List AV) (E : Hp) (x : AV) (E' : Hp) : Prop :=
  ∃ F R F0, E.Perm (F ++ R) ∧ E' = F0 ++ R ∧ F0.map (·.1) = F.map (·.1) ∧ ACt P f args F (fun r F' => r = x ∧ F' = F0)
def ExW (P : Program) (f : FuncId) (args : List AV) (E : Hp) (K : AV → Hp → Prop) (d : Hd K := .mk) : Prop := ∃ x E', ECt P f args E x E' ∧ K x E'
theorem ExW.mk {f : FuncId} {args : List AV} {E F R F0 : Hp} {K : AV → Hp → Prop} {x : AV} (hP : E.Perm (F ++ R)) (h : ACt P f args F (fun r F' => r = x ∧ F' = F0)) (hk : F0.map (·.1) = F.map (·.1)) (hK : K x (F0 ++ R)) : ExW P f args E K :=
  ⟨x, F0 ++ R, ⟨F, R, F0, hP, rfl, hk, h⟩, hK⟩
theorem SeqG.cons {C : Nat → Oper → AV → List (Nat × AV) → Prop} {o : Oper} {x : AV} {r : List (Oper × AV)} {env : List (Nat × AV)} (h0 : C 0 o x env) (h : SeqG (fun i => C (i + 1)) r (putE env o.dst x)) : SeqG C ((o, x) :: r) env := by
  have := SeqG.app (C := C) (A := [(o, x)]) (B := r) (env := env) (SeqG.one h0) (by
    simp only [envL, if_true, List.length_cons, List.length_nil]
    have e : (fun i => C (0 + 1 + i)) = fun i => C (i + 1) := by funext i; rw [show 0 + 1 + i = i + 1 by omega]
    rw [e]; exact h)
  exact this
/-! ### The order -/
/-! ### Ahead of the parting, the parting, behind it -/
theorem Stdy.congr {o : Oper} {env env' : List (Nat × AV)} {H : Hp} {x : AV} (h : ∀ t, look env t = look env' t) (hS : Stdy P cx n ops o env H x) : Stdy P cx n ops o env' H x :=
  ⟨hS.1, fun a w X R h1 h2 h3 h4 h5 => hS.2 a w X R h1 h2 h3 (fun t ht => by rw [h t]; exact h4 t ht) h5⟩
end
end Go.Proofs.Ytngdgicgppaeaaa
namespace Go.Proofs.Ytngdgicgppaeaaa
open Go
set_option linter.unusedSimpArgs false
set_option linter.unusedVariables false
section
variable {P : Program} {cx : Cx} {n : Nat} {ops : Array Oper}
/-- A call over blocks of E, of whatever outcome; those of H0 are not lent. -/
def WCt (P : Program) (f : FuncId) (args : List AV) (E H0 : Hp) (post : AV → Hp → Prop) (d : Hd post := .mk) : Prop :=
  ∃ F R p, E.Perm (F ++ R) ∧ ACt P f args F p ∧ ∀ r F', p r F' → (((F' ++ R) ++ H0).map (·.1)).Nodup → post r (F' ++ R)
theorem WCt.row {f : FuncId} {args : List AV} {E H0 : Hp} {b : Nat} {m : MB} {k : IntKind} {ty : TypeId} {zs : List Int} {post : AV → Hp → Prop} (hg : hget E b = some m) (h : ACt P f args [(b, m)] (Row k ty zs))
    (hp : Nu fun b' => Nu fun cap' => Fr (zs.length ≤ cap' ∧ cap' ≤ maxLen ∧ fresh (hdel E b ++ H0) b') (post (ms b' 0 zs.length cap') ((b', .zs k zs cap' ty) :: hdel E b))) : WCt P f args E H0 post := by
  refine ⟨[(b, m)], hdel E b, _, hget_perm hg, h, ?_⟩
  rintro r F' ⟨b', cap', h1, h2, rfl, rfl⟩ hn
  exact ((hp.out b').out cap').out ⟨h1, h2, fresh_of_nodup hn⟩
/-- A new row, handed back as one that nobody writes any more. -/
theorem ACt.fz {f : FuncId} {args : List AV} {F F0 : Hp} {k : IntKind} {ty : TypeId} {zs : List Int}
    (h : ACt P f args F (fun r F' => ∃ q : {p : Nat × Nat // zs.length ≤ p.2 ∧ p.2 ≤ 9223372036854775807}, r = ms q.1.1 0 zs.length q.1.2 ∧ F' = (q.1.1, .zs k zs q.1.2 ty) :: F0)) :
    ACt P f args F (fun r F' => r = .slz k zs ∧ F' = F0) := by
  intro cx vs h1 h2 h3 h4
  refine (h cx vs h1 h2 h3 h4).mono ?_
  rintro e w' ⟨v, r, F', he, ⟨q, rfl, rfl⟩, hw, hr⟩
  have hv := hr.lit_inv
  have hp : OkW cx (F0 ++ [(q.1.1, .zs k zs q.1.2 ty)]) w' := hw.perm (List.perm_append_comm (l₁ := [(q.1.1, MB.zs k zs q.1.2 ty)]))
  obtain ⟨d1, d2⟩ := hp.drop
  refine ⟨v, _, F0, he, ⟨rfl, rfl⟩, d1, ?_⟩
  rw [hv]
  have hm := hw.mem _ (List.mem_cons_self ..)
  have hlt := hm.lt
  obtain ⟨cur, e1, e2, e3, e4⟩ := hm
  have hn := hw.nodup
  simp only [List.map_cons, List.nodup_cons] at hn
  refine .slz _ _ _ _ q.2.1 (by rw [maxLen_eq]; exact q.2.2) (.inr ⟨q.1.1, 0, rfl, .inr ⟨hw.keys _ (List.mem_cons_self ..), hlt, fun x hx he => hn.1 (List.mem_map.2 ⟨x, hx, he⟩)⟩, fun i hi => ?_⟩)
  rw [Nat.zero_add, cell_of_block e1, e4 i hi]
end
end Go.Proofs.Ytngdgicgppaeaaa
namespace Go.Proofs.Ytngdgicgppaeaaa
open Go
set_option linter.unusedSimpArgs false
set_option linter.unusedVariables false
/-- A row that nobody will write any more: so it stands in other blocks' cells too. -/
theorem rep_frz {w : World} {I I0 : Nat → Prop} {b : Nat} {k : IntKind} {zs : List Int} {s0 ty : Nat} {v : Value} {x : AV} (hm : MOk w I0 b (.zs k zs s0 ty)) (hb : I b) (hr' : Rep w I v x) : Rep w I v (frz b k zs x) := by
  unfold frz
  split
  · rename_i b' off m cap
    split
    · rename_i he
      subst he
      split
      · rename_i hc
        obtain ⟨c1, c2, c3⟩ := hc
        have := hr'.lit_inv
        subst this
        obtain ⟨cur, d1, d2, d3, d4⟩ := hm
        have hl : ((zs.drop off).take m).length = m := by simp; omega
        have hrr : Rep w I (.slice (some ⟨b', off, none⟩) ((zs.drop off).take m).length cap) (.slz k ((zs.drop off).take m)) := by
          refine .slz _ _ _ _ (by omega) c3 (.inr ⟨b', off, rfl, hb, fun j hj => ?_⟩)
          have hj' : j < m := by omega
          rw [cell_of_block d1, d4 _ (by omega)]
          have : off + j < zs.length := by omega
          simp [List.getD, hj']
        rw [hl] at hrr
        exact hrr
      · exact .any _
    · exact hr'
  · exact hr'
/-- A row of ours, given up for good: the callee sees it as one that nobody writes; beside it blocks that are lent. -/
theorem ACt.frzG {P : Program} {f : FuncId} {args args' : List AV} {b : Nat} {k : IntKind} {zs : List Int} {s0 ty : Nat} {F : Hp} {p : AV → Hp → Prop} (h : ACt P f args' F p) (he : args.map (Proofs.Ytngdgicgppaeaaa.frz b k zs) = args') :
    ACt P f args ((b, .zs k zs s0 ty) :: F) p := by
  intro cx vs hK hw hs hv
  subst he
  have hbl := keys_lt hw _ (List.mem_cons_self ..)
  have hnd := hw.nodup
  simp only [List.map_cons, List.nodup_cons] at hnd
  have himm : ∀ c, imm cx cx.w0 ((b, .zs k zs s0 ty) :: F) c → cx.I c := by
    rintro c (hc | ⟨h1, h2, h3⟩)
    · exact hc
    · rcases h1 with h1 | h1
      · rw [hK] at h1
        obtain ⟨x, hx, he⟩ := List.mem_map.1 h1
        exact absurd he (h3 x hx)
      · omega
  have hI : ∀ c, (cx.I c ∨ c = b) → c < cx.w0.heap.size ∧ c ∉ F.map (·.1) := by
    rintro c (hc | rfl)
    · refine ⟨(cx.hI c hc).1, fun hm => (cx.hI c hc).2 ?_⟩
      rw [hK]; exact List.mem_cons_of_mem _ hm
    · exact ⟨hbl, hnd.1⟩
  have := h ⟨cx.w0, fun c => cx.I c ∨ c = b, F.map (·.1), hI⟩ vs rfl
    ⟨hnd.2, fun x hx => .inl (List.mem_map_of_mem hx), fun x hx => (hw.mem x (List.mem_cons_of_mem _ hx)).mono (fun c hc => ⟨.inl (.inl (himm c hc)), rfl⟩) rfl, ⟨rfl, rfl, rfl, Nat.le_refl _, fun _ _ _ => rfl⟩⟩
    (by simpa using hs) (fun i hi => by
      have hi' : i < args.length := by simpa using hi
      have := rep_frz (hw.mem _ (List.mem_cons_self ..)) (I := fun c => cx.I c ∨ c = b) (.inr rfl) ((hv i hi').mono fun c hc => ⟨.inl hc, rfl⟩)
      simpa [List.getD, List.getElem?_map, hi'] using this)
  refine this.mono ?_
  rintro e w' ⟨v, r, F', he, hp, hw', hr⟩
  have e1 := hw.ext
  have e2 := hw'.ext
  have hsz : cx.w0.heap.size ≤ w'.heap.size := e2.size
  have hkey : ∀ x ∈ F', x.1 ∈ cx.K ∨ cx.w0.heap.size ≤ x.1 := fun x hx => by
    rcases hw'.keys x hx with h | h
    · exact .inl (by rw [hK]; exact List.mem_cons_of_mem _ h)
    · exact .inr h
  have hbF : ∀ x ∈ F', x.1 ≠ b := fun x hx he => by
    rcases hw'.keys x hx with h | h
    · exact hnd.1 (he ▸ h)
    · simp only at h; omega
  have hIm : ∀ c, imm ⟨cx.w0, fun c => cx.I c ∨ c = b, F.map (·.1), hI⟩ w' F' c → imm cx w' F' c := by
    rintro c ((hc | rfl) | ⟨h1, h2, h3⟩)
    · exact .inl hc
    · exact .inr ⟨.inl (by rw [hK]; exact List.mem_cons_self ..), by omega, hbF⟩
    · refine .inr ⟨?_, h2, h3⟩
      rcases h1 with h1 | h1
      · exact .inl (by rw [hK]; exact List.mem_cons_of_mem _ h1)
      · exact .inr h1
  refine ⟨v, r, F', he, hp, ⟨hw'.nodup, hkey, fun x hx => (hw'.mem x hx).mono (fun c hc => ⟨hIm c hc, rfl⟩) rfl, ?_⟩, hr.mono fun c hc => ⟨hIm c hc, rfl⟩⟩
  exact ⟨e2.os.trans e1.os, e2.tape.trans e1.tape, e2.output.trans e1.output, Nat.le_trans e1.size e2.size, fun c hc hk => (e2.blk c hc (fun hm => hk (by rw [hK]; exact List.mem_cons_of_mem _ hm))).trans (e1.blk c hc hk)⟩
theorem CallV.frzE {P : Program} {f : FuncId} {args args' : List AV} {H F R : Hp} {post : AV → Hp → Prop} {Γ : Type} {x : Γ → AV} {m : Γ → Hp} (b : Nat) {k : IntKind} {zs : List Int} {s0 ty : Nat} (hg : hget H b = some (.zs k zs s0 ty))
    (h : ACt P f args' F (fun r F' => ∃ g, r = x g ∧ F' = m g)) (he : args.map (Proofs.Ytngdgicgppaeaaa.frz b k zs) = args') (hP : (hdel H b).Perm (F ++ R)) (hp : ∀ g, post (x g) (m g ++ R)) : CallV P f args H post :=
  ⟨(b, .zs k zs s0 ty) :: F, R, _, (hget_perm hg).trans (List.Perm.cons _ hP), h.frzG he, fun r F' hr _ => by obtain ⟨g, e1, e2⟩ := hr; subst e1 e2; exact hp g⟩
section
variable {P : Program} {cx : Cx} {n : Nat} {ops : Array Oper} {H : Hp}
end
end Go.Proofs.Ytngdgicgppaeaaa
namespace Go.Proofs.Ytngdgicgppaeaaa
open Go
def lenN (q : Nat) : Nat := if q = 0 then 0 else Nat.log2 q + 1
theorem lenN_le {q d : Nat} : lenN q ≤ d ↔ q < 2 ^ d := by
  unfold lenN
  by_cases h : q = 0
  · subst h; simp [Nat.two_pow_pos]
  · rw [if_neg h, ← Nat.log2_lt h]; omega
/-- the bit lists -/
def valB : List Bool → Nat
  | [] => 0
  | b :: l => b.toNat + 2 * valB l
theorem valB_app : ∀ (a b : List Bool), valB (a ++ b) = valB a + 2 ^ a.length * valB b
  | [], b => by simp [valB]
  | x :: a, b => by simp [valB, valB_app a b, Nat.pow_succ, Nat.mul_add]; rw [Nat.mul_comm (2 ^ a.length) 2, Nat.mul_assoc]; omega
theorem valB_lt : ∀ l : List Bool, valB l < 2 ^ l.length
  | [] => by simp [valB]
  | b :: l => by
    have := valB_lt l
    simp only [valB, List.length_cons, Nat.pow_succ]
    cases b <;> simp <;> omega
def bitsN (n : Nat) (k : Nat) : List Bool := (List.range k).map fun i => decide (n / 2 ^ i % 2 = 1)
theorem bitsN_len (n k : Nat) : (bitsN n k).length = k := by simp [bitsN]
theorem bitsN_succ (n k : Nat) : bitsN n (k + 1) = bitsN n k ++ [decide (n / 2 ^ k % 2 = 1)] := by simp [bitsN, List.range_succ]
theorem valB_bitsN (n : Nat) : ∀ k, valB (bitsN n k) = n % 2 ^ k
  | 0 => by simp [bitsN, valB, Nat.mod_one]
  | k + 1 => by
    rw [bitsN_succ, valB_app, valB_bitsN n k, bitsN_len, Nat.pow_succ, Nat.mod_mul]
    congr 2
    simp only [valB]
    have : n / 2 ^ k % 2 < 2 := Nat.mod_lt _ (by omega)
    by_cases h : n / 2 ^ k % 2 = 1 <;> simp [h] <;> omega
def bitA (l : List Bool) (i : Nat) : Nat := if i < l.length ∧ l.getD i false = true then 1 else 0
theorem bitA_eq (l : List Bool) (i : Nat) : bitA l i = (l.getD i false).toNat := by
  unfold bitA
  by_cases h : i < l.length
  · cases e : l.getD i false <;> simp [h]
  · simp [h]
theorem valB_drop (l : List Bool) (i : Nat) : valB (l.drop i) = bitA l i + 2 * valB (l.drop (i + 1)) := by
  rw [bitA_eq]
  by_cases h : i < l.length
  · rw [List.drop_eq_getElem_cons h]; simp [valB, List.getD, List.getElem?_eq_getElem h]
  · rw [List.drop_eq_nil_of_le (by omega), List.drop_eq_nil_of_le (by omega)]; simp [valB, List.getD, List.getElem?_eq_none (show l.length ≤ i by omega)]
def plusG (a b : List Bool) : Nat → Nat → Nat → List Bool
  | 0, _, _ => []
  | n + 1, i, up => if (i < a.length ∨ i < b.length) ∨ 0 < up then decide ((bitA a i + bitA b i + up) % 2 = 1) :: plusG a b n (i + 1) ((bitA a i + bitA b i + up) / 2) else []
theorem bitA_le (l : List Bool) (i : Nat) : bitA l i ≤ 1 := by unfold bitA; split <;> omega
def plusF (a b : List Bool) : List Bool := plusG a b (max a.length b.length + 1) 0 0
theorem plusG_val (a b : List Bool) : ∀ n i up, up ≤ 1 → max a.length b.length + 1 - i ≤ n → (max a.length b.length + 1 ≤ i → up = 0) → valB (plusG a b n i up) = valB (a.drop i) + valB (b.drop i) + up
  | 0, i, up, h1, h2, h3 => by
    rw [List.drop_eq_nil_of_le (by omega), List.drop_eq_nil_of_le (by omega), h3 (by omega)]; simp [plusG, valB]
  | n + 1, i, up, h1, h2, h3 => by
    simp only [plusG]
    have ha := bitA_le a i
    have hb := bitA_le b i
    by_cases h : (i < a.length ∨ i < b.length) ∨ 0 < up
    · rw [if_pos h, valB, plusG_val a b n (i + 1) _ (by omega) (by omega) (fun h4 => ?_), valB_drop a i, valB_drop b i]
      · generalize bitA a i = x at *
        generalize bitA b i = y at *
        by_cases hh : (x + y + up) % 2 = 1 <;> simp [hh] <;> omega
      · have e1 : bitA a i = 0 := by unfold bitA; rw [if_neg (by omega)]
        have e2 : bitA b i = 0 := by unfold bitA; rw [if_neg (by omega)]
        omega
    · rw [if_neg h, List.drop_eq_nil_of_le (by omega), List.drop_eq_nil_of_le (by omega)]; simp only [valB]; omega
theorem plusF_val (a b : List Bool) : valB (plusF a b) = valB a + valB b := by
  unfold plusF
  rw [plusG_val a b _ 0 0 (by omega) (by omega) (by omega)]; simp
theorem plusG_len (a b : List Bool) : ∀ n i up, (plusG a b n i up).length ≤ n
  | 0, i, up => by simp [plusG]
  | n + 1, i, up => by
    simp only [plusG]
    split
    · have := plusG_len a b n (i + 1) ((bitA a i + bitA b i + up) / 2); simp; omega
    · simp
theorem plusF_len (a b : List Bool) : (plusF a b).length ≤ max a.length b.length + 1 := plusG_len a b _ 0 0
def timesF (a b : List Bool) : Nat → List Bool
  | 0 => []
  | i + 1 => if b.getD i false = true then plusF (timesF a b i) (List.replicate i false ++ a) else timesF a b i
theorem valB_rep : ∀ (i : Nat) (a : List Bool), valB (List.replicate i false ++ a) = 2 ^ i * valB a
  | 0, a => by simp
  | i + 1, a => by rw [List.replicate_succ, List.cons_append, valB, valB_rep i a, Nat.pow_succ]; simp; rw [← Nat.mul_assoc, Nat.mul_comm 2]
theorem valB_take (l : List Bool) (i : Nat) (h : i < l.length) : valB (l.take (i + 1)) = valB (l.take i) + 2 ^ i * (l.getD i false).toNat := by
  rw [List.take_succ_eq_append_getElem h, valB_app, List.length_take, Nat.min_eq_left (by omega)]
  simp [valB, List.getD, List.getElem?_eq_getElem h]
theorem timesF_val (a b : List Bool) : ∀ i, i ≤ b.length → valB (timesF a b i) = valB a * valB (b.take i)
  | 0, _ => by simp [timesF, valB]
  | i + 1, h => by
    rw [timesF, valB_take b i h]
    have := timesF_val a b i (by omega)
    by_cases hb : b.getD i false = true
    · rw [if_pos hb, plusF_val, this, valB_rep, hb, Nat.mul_add]; simp [Nat.mul_comm]
    · rw [if_neg hb, this, (Bool.not_eq_true _).mp hb]; simp
theorem timesF_len (a b : List Bool) : ∀ i, (timesF a b i).length ≤ a.length + i
  | 0 => by simp [timesF]
  | i + 1 => by
    have := timesF_len a b i
    have h2 := plusF_len (timesF a b i) (List.replicate i false ++ a)
    simp only [timesF]
    split <;> simp at * <;> omega
theorem wrap_u64_nat {n : Nat} (h : n < 18446744073709551616) : IntKind.u64.wrap (n : Int) = (n : Int) := wrap_u64 (by omega) (by omega)
theorem wrap_u64_big (n : Nat) : IntKind.u64.wrap (n : Int) = ((n % 18446744073709551616 : Nat) : Int) := by rw [wrap_u64_mod]; omega
theorem wrap_i64_nat {n : Nat} (h : n < 9223372036854775808) : IntKind.i64.wrap (n : Int) = (n : Int) := wrap_i64 (by omega) (by omega)
theorem ofInt_nat (n : Nat) : BitVec.ofInt 64 (n : Int) = BitVec.ofNat 64 n := by
  apply BitVec.eq_of_toNat_eq; simp
theorem and_low32 (x : Nat) (h : x < 18446744073709551616) : ibit .and .u64 (x : Int) 4294967295 = ((x % 4294967296 : Nat) : Int) := by
  have e : ibit .and .u64 (x : Int) 4294967295 = IntKind.u64.wrap ((BitVec.ofInt 64 (x : Int) &&& BitVec.ofInt 64 ((4294967295 : Nat) : Int)).toNat : Int) := rfl
  rw [e, ofInt_nat, ofInt_nat, BitVec.toNat_and, BitVec.toNat_ofNat, BitVec.toNat_ofNat, Nat.mod_eq_of_lt h, show (4294967295 : Nat) % 2 ^ 64 = 2 ^ 32 - 1 from by decide, Nat.and_two_pow_sub_one_eq_mod]
  exact wrap_u64_nat (by omega)
theorem mul_le_sq {a b : Nat} (ha : a ≤ 4294967295) (hb : b ≤ 4294967295) : a * b ≤ 18446744065119617025 := Nat.mul_le_mul ha hb
theorem mul_parts (x y : Nat) (hx : x < 18446744073709551616) (hy : y < 18446744073709551616) :
    let x0 := x % 4294967296; let x1 := x / 4294967296; let y0 := y % 4294967296; let y1 := y / 4294967296
    let t := x1 * y0 + x0 * y0 / 4294967296
    let w1 := t % 4294967296 + x0 * y1
    x0 * y0 < 18446744073709551616 ∧ x1 * y0 < 18446744073709551616 ∧ t < 18446744073709551616 ∧ x0 * y1 < 18446744073709551616 ∧ w1 < 18446744073709551616 ∧ x1 * y1 < 18446744073709551616 ∧ x1 * y1 + t / 4294967296 < 18446744073709551616 ∧
    x1 * y1 + t / 4294967296 + w1 / 4294967296 = x * y / 18446744073709551616 ∧ x * y / 18446744073709551616 < 18446744073709551616 := by
  intro x0 x1 y0 y1 t w1
  have b1 : x0 * y0 ≤ _ := mul_le_sq (show x0 ≤ 4294967295 by omega) (show y0 ≤ 4294967295 by omega)
  have b2 : x1 * y0 ≤ _ := mul_le_sq (show x1 ≤ 4294967295 by omega) (show y0 ≤ 4294967295 by omega)
  have b3 : x0 * y1 ≤ _ := mul_le_sq (show x0 ≤ 4294967295 by omega) (show y1 ≤ 4294967295 by omega)
  have b4 : x1 * y1 ≤ _ := mul_le_sq (show x1 ≤ 4294967295 by omega) (show y1 ≤ 4294967295 by omega)
  have e : x * y = x1 * y1 * 18446744073709551616 + (x1 * y0 + x0 * y1) * 4294967296 + x0 * y0 := by
    have ex : x = x1 * 4294967296 + x0 := by omega
    have ey : y = y1 * 4294967296 + y0 := by omega
    conv => lhs; rw [ex, ey]
    rw [Nat.add_mul, Nat.mul_add, Nat.mul_add, Nat.add_mul]
    have c1 : x1 * 4294967296 * (y1 * 4294967296) = x1 * y1 * 18446744073709551616 := by
      rw [Nat.mul_mul_mul_comm]
    have c2 : x1 * 4294967296 * y0 = x1 * y0 * 4294967296 := by rw [Nat.mul_right_comm]
    have c3 : x0 * (y1 * 4294967296) = x0 * y1 * 4294967296 := by rw [Nat.mul_assoc]
    omega
  have ht : t = x1 * y0 + x0 * y0 / 4294967296 := rfl
  have hw : w1 = t % 4294967296 + x0 * y1 := rfl
  clear_value x0 x1 y0 y1 t w1
  generalize x0 * y0 = p at *
  generalize x1 * y0 = q at *
  generalize x0 * y1 = r at *
  generalize x1 * y1 = s at *
  generalize x * y = z at *
  refine ⟨?_, ?_, ?_, ?_, ?_, ?_, ?_, ?_, ?_⟩ <;> omega
end Go.Proofs.Ytngdgicgppaeaaa
namespace Go.Proofs.Ytngdgicgppaeaaa
open Go
set_option linter.unusedVariables false
set_option linter.unusedSimpArgs false
theorem TFExB : ((((((type_of% tyc0) ∧ (type_of% tyc3)) ∧ ((type_of% zmb3) ∧ ((type_of% tyc4) ∧ (type_of% zmb4)))) ∧ (((type_of% tyc5) ∧ (type_of% zmb5)) ∧ ((type_of% tyc9) ∧ ((type_of% zmb9) ∧ (type_of% tyc22))))) ∧ ((((type_of% zmb22) ∧ (type_of% tyc24)) ∧ ((type_of% foff24_0) ∧ ((type_of% fpart24_0) ∧ (type_of% foff24_1)))) ∧ (((type_of% fpart24_1) ∧ ((type_of% fe24) ∧ (type_of% zmb24))) ∧ ((type_of% bldT24) ∧ ((type_of% tyc29) ∧ (type_of% zmb29)))))) ∧ (((((type_of% tyc37) ∧ (type_of% elt37)) ∧ ((type_of% mkz37) ∧ ((type_of% mkc37) ∧ (type_of% apT37)))) ∧ (((type_of% elk37) ∧ (type_of% zmb37)) ∧ ((type_of% tyc61) ∧ ((type_of% zmb61) ∧ (type_of% tyc68))))) ∧ ((((type_of% Try.underlying0) ∧ (type_of% Try.underlying3)) ∧ ((type_of% Try.underlying4) ∧ ((type_of% Try.underlying5) ∧ (type_of% Try.underlying9)))) ∧ (((type_of% Try.underlying22) ∧ ((type_of% Try.underlying24) ∧ (type_of% Try.underlying29))) ∧ ((type_of% Try.underlying37) ∧ ((type_of% Try.underlying61) ∧ (type_of% Try.underlying68))))))) :=
  ⟨⟨⟨⟨⟨tyc0, tyc3⟩, ⟨zmb3, ⟨tyc4, zmb4⟩⟩⟩, ⟨⟨tyc5, zmb5⟩, ⟨tyc9, ⟨zmb9, tyc22⟩⟩⟩⟩, ⟨⟨⟨zmb22, tyc24⟩, ⟨foff24_0, ⟨fpart24_0, foff24_1⟩⟩⟩, ⟨⟨fpart24_1, ⟨fe24, zmb24⟩⟩, ⟨bldT24, ⟨tyc29, zmb29⟩⟩⟩⟩⟩, ⟨⟨⟨⟨tyc37, elt37⟩, ⟨mkz37, ⟨mkc37, apT37⟩⟩⟩, ⟨⟨elk37, zmb37⟩, ⟨tyc61, ⟨zmb61, tyc68⟩⟩⟩⟩, ⟨⟨⟨Try.underlying0, Try.underlying3⟩, ⟨Try.underlying4, ⟨Try.underlying5, Try.underlying9⟩⟩⟩, ⟨⟨Try.underlying22, ⟨Try.underlying24, Try.underlying29⟩⟩, ⟨Try.underlying37, ⟨Try.underlying61, Try.underlying68⟩⟩⟩⟩⟩⟩
abbrev nu (n : Nat) : AV := iv .u64 (n : Int)
abbrev wideA (n : Nat) : AV := .agg [nu (n / 18446744073709551616), nu (n % 18446744073709551616)]
abbrev bl (l : List Bool) : List AV := l.map bv
theorem bl_len (l : List Bool) : (bl l).length = l.length := by simp
theorem bl_at (l : List Bool) (i : Nat) (h : i < l.length) : (bl l).getD i .any = bv (l.getD i false) := by
  simp [List.getD, h]
theorem add64_ct (x y c : Nat) (hc : c ≤ 1) : ACt Try.prog 41 [nu x, nu y, nu c] [] (Fn (.tup [nu ((x + y + c) % 18446744073709551616), nu ((x + y + c) / 18446744073709551616)])) := by
  refine ACt.outer (ls := [.int .u64 x, .int .u64 y, .int .u64 c]) (e := add64Entry) Try.func41 (by kernel_rfl) rfl (by kernel_rfl) (by kernel_rfl) fun w => ?_
  refine ⟨_, run_add64 x y c (by omega) (by omega) (by omega) (by omega) w, fun I => ?_⟩
  have e1 : ((x : Int) + y + c) % 18446744073709551616 = (((x + y + c) % 18446744073709551616 : Nat) : Int) := by omega
  have e2 : ((x : Int) + y + c) / 18446744073709551616 = (((x + y + c) / 18446744073709551616 : Nat) : Int) := by omega
  rw [e1, e2]
  exact Rep.tup _ _ rfl (fun j hj => by match j, hj with | 0, _ => exact Rep.lit _ | 1, _ => exact Rep.lit _)
theorem mul64_ct (x y : Nat) (hx : x < 18446744073709551616) (hy : y < 18446744073709551616) : ACt Try.prog 55 [nu x, nu y] [] (Fn (.tup [nu (x * y / 18446744073709551616), nu (x * y % 18446744073709551616)])) := by
  refine ACt.intro Try.func55 rfl (by kernel_rfl) (by simp [Try.ntmps55]) (fun cx => ?_)
  simp only [argE, Try.ntmps55, Try.results55]
  obtain ⟨h1, h2, h3, h4, h5, h6, h7, h8, h9⟩ := mul_parts x y hx hy
  have c0 := and_low32 x hx
  have c1 := and_low32 y hy
  have s : ∀ n : Nat, (n : Int).fdiv 4294967296 = ((n / 4294967296 : Nat) : Int) := fun n => by rw [Int.fdiv_eq_ediv_of_nonneg _ (by omega)]; simp
  have m1 : IntKind.u64.wrap (((x % 4294967296 : Nat) : Int) * ((y % 4294967296 : Nat) : Int)) = ((x % 4294967296 * (y % 4294967296) : Nat) : Int) := by rw [← Int.natCast_mul, wrap_u64_nat h1]
  have m2 : IntKind.u64.wrap (((x / 4294967296 : Nat) : Int) * ((y % 4294967296 : Nat) : Int)) = ((x / 4294967296 * (y % 4294967296) : Nat) : Int) := by rw [← Int.natCast_mul, wrap_u64_nat h2]
  have m3 : IntKind.u64.wrap (((x % 4294967296 : Nat) : Int) * ((y / 4294967296 : Nat) : Int)) = ((x % 4294967296 * (y / 4294967296) : Nat) : Int) := by rw [← Int.natCast_mul, wrap_u64_nat h4]
  have m4 : IntKind.u64.wrap (((x / 4294967296 : Nat) : Int) * ((y / 4294967296 : Nat) : Int)) = ((x / 4294967296 * (y / 4294967296) : Nat) : Int) := by rw [← Int.natCast_mul, wrap_u64_nat h6]
  have m5 : IntKind.u64.wrap ((x : Int) * (y : Int)) = ((x * y % 18446744073709551616 : Nat) : Int) := by rw [← Int.natCast_mul, wrap_u64_big]
  first | (have FRx := FR; clear FRx) | (have FR : ¬ ((1 : Nat) = 0) := Nat.one_ne_zero)
  repeat' first
    | (refine Sm.mk ?_; try simp -dsimp only [ZK, rvc, drawF, headN, pureH, stp, dvc, calleeOf, gcall, pev, eff, newB, okd, og, ogs, ogo, ogp, slv, bltv, opd, litv, strip, one, both, putE, St.put, look, gdOf, gdv, picka, pickv, pickw, binv, bini, bins, binb, binp, binq, isSlT, bina, shp, eqCells, unv, convv, nilv, faddv, addp, idxav, idxp, load1, load1m, loadn, loadnm, loadv, hget, hset, hrep, hdel, slicev, bnd, shift1, lenv, capv, IntKind.bits, extractv, fieldv, indexv, min2v, max2v, mkiv, cellsA, fillA, buildv, stC, oneC, rowMB, intsA, plN, appE, appZ, appC, appNZ, appNC, VwL, srcC, srcZ, srcM, isBoolT, isPtrT, isSliceT, uOk, Value.oneCell', Nat.reducePow, Int.reducePow, Nat.reduceAdd, Nat.reduceMul, Nat.reduceSub, Nat.reduceLT, Nat.reduceLeDiff, Nat.reduceEqDiff, Nat.reduceBEq, Nat.reduceDiv, Nat.reduceMod, ↓reduceIte, reduceCtorEq, Int.reduceToNat, Int.reduceLT, Int.reduceLE, TFExB, SeqQ, BlkQ, LoopQ, BodyQ, c0, c1, s, m1, FR])
    | (refine WP.seq fun K hK => ?_)
    | ((fail_if_success (show WP _ _ _ (.region 6 _ _) _ _)); refine WP.region (rvc_sound _ _ (Sm.out ?_)))
    | ((fail_if_success (show WP _ _ _ (.region 6 _ _) _ _)); refine WP.drawK rfl mixed (by decide +kernel) (Sm.out ?_))
    | (refine Ob.mk ?_; focus (first | assumption | omega | decide | trivial | (intro hob; simp only [hob, ZF]; done) | (intros; (repeat' refine And.intro ?_ ?_) <;> first | assumption | omega | trivial | decide) | (intros; simp only [ZE] at *; (repeat' refine And.intro ?_ ?_) <;> first | assumption | omega | trivial)))
    | (refine And.intro (Ob.out ?_) ?_)
    | (refine WP.block ?_)
    | (refine WP.cond rfl (fun hc => ?_) (fun hc => ?_) <;> (try simp only [ZC, reduceCtorEq, ZD] at hc) <;> (try (exact absurd hc (by decide))) <;> (try (exfalso; omega)))
    | ((first | refine WP.skip ?_ | refine WP.exit ?_); simp only [SeqQ, BlkQ, LoopQ, BodyQ, ↓reduceIte, Nat.reduceEqDiff, reduceCtorEq, look, true_and])
    | (refine WP.ret (Sm.out ?_))
    | (first | refine ExG.no (Sm.out ?_) | refine Or.inl (ExG.no (Sm.out ?_)) | refine Or.inl (And.intro (fun hg => absurd hg (by decide)) (ExG.no (Sm.out ?_))))
    | (refine Rt.mk ?_; refine And.intro ?_ ?_ <;> (intro hg; first | exact absurd hg (by decide) | refine Sm.out ?_))
    | (refine Nu.mk ?_; first | (fail_if_success (have := nb1)); intro nb1 | (fail_if_success (have := nb2)); intro nb2 | (fail_if_success (have := nb3)); intro nb3 | intro nbz)
    | (refine Fr.mk ?_; intro hfr; replace FR := And.intro hfr FR; clear hfr; refine Sm.out ?_)
    | (refine Two.mk ?_ ?_)
    | (refine Cs.mk ?_; intro hcs; first | exact False.elim hcs | (exfalso; omega) | (refine Sm.out ?_))
    | go_step
    | omega
    | (simp only [maxLen_eq]; omega)
  have a1 : IntKind.u64.wrap (((x / 4294967296 * (y % 4294967296) : Nat) : Int) + ((x % 4294967296 * (y % 4294967296) / 4294967296 : Nat) : Int)) = ((x / 4294967296 * (y % 4294967296) + x % 4294967296 * (y % 4294967296) / 4294967296 : Nat) : Int) := by rw [← Int.natCast_add, wrap_u64_nat h3]
  have c2 := and_low32 _ h3
  first | (have FRx := FR; clear FRx) | (have FR : ¬ ((1 : Nat) = 0) := Nat.one_ne_zero)
  repeat' first
    | (refine Sm.mk ?_; try simp -dsimp only [ZK, rvc, drawF, headN, pureH, stp, dvc, calleeOf, gcall, pev, eff, newB, okd, og, ogs, ogo, ogp, slv, bltv, opd, litv, strip, one, both, putE, St.put, look, gdOf, gdv, picka, pickv, pickw, binv, bini, bins, binb, binp, binq, isSlT, bina, shp, eqCells, unv, convv, nilv, faddv, addp, idxav, idxp, load1, load1m, loadn, loadnm, loadv, hget, hset, hrep, hdel, slicev, bnd, shift1, lenv, capv, IntKind.bits, extractv, fieldv, indexv, min2v, max2v, mkiv, cellsA, fillA, buildv, stC, oneC, rowMB, intsA, plN, appE, appZ, appC, appNZ, appNC, VwL, srcC, srcZ, srcM, isBoolT, isPtrT, isSliceT, uOk, Value.oneCell', Nat.reducePow, Int.reducePow, Nat.reduceAdd, Nat.reduceMul, Nat.reduceSub, Nat.reduceLT, Nat.reduceLeDiff, Nat.reduceEqDiff, Nat.reduceBEq, Nat.reduceDiv, Nat.reduceMod, ↓reduceIte, reduceCtorEq, Int.reduceToNat, Int.reduceLT, Int.reduceLE, TFExB, SeqQ, BlkQ, LoopQ, BodyQ, s, m2, a1, c2, FR])
    | (refine WP.seq fun K hK => ?_)
    | ((fail_if_success (show WP _ _ _ (.region 9 _ _) _ _)); refine WP.region (rvc_sound _ _ (Sm.out ?_)))
    | ((fail_if_success (show WP _ _ _ (.region 9 _ _) _ _)); refine WP.drawK rfl mixed (by decide +kernel) (Sm.out ?_))
    | (refine Ob.mk ?_; focus (first | assumption | omega | decide | trivial | (intro hob; simp only [hob, ZF]; done) | (intros; (repeat' refine And.intro ?_ ?_) <;> first | assumption | omega | trivial | decide) | (intros; simp only [ZE] at *; (repeat' refine And.intro ?_ ?_) <;> first | assumption | omega | trivial)))
    | (refine And.intro (Ob.out ?_) ?_)
    | (refine WP.block ?_)
    | (refine WP.cond rfl (fun hc => ?_) (fun hc => ?_) <;> (try simp only [ZC, reduceCtorEq, ZD] at hc) <;> (try (exact absurd hc (by decide))) <;> (try (exfalso; omega)))
    | ((first | refine WP.skip ?_ | refine WP.exit ?_); simp only [SeqQ, BlkQ, LoopQ, BodyQ, ↓reduceIte, Nat.reduceEqDiff, reduceCtorEq, look, true_and])
    | (refine WP.ret (Sm.out ?_))
    | (first | refine ExG.no (Sm.out ?_) | refine Or.inl (ExG.no (Sm.out ?_)) | refine Or.inl (And.intro (fun hg => absurd hg (by decide)) (ExG.no (Sm.out ?_))))
    | (refine Rt.mk ?_; refine And.intro ?_ ?_ <;> (intro hg; first | exact absurd hg (by decide) | refine Sm.out ?_))
    | (refine Nu.mk ?_; first | (fail_if_success (have := nb1)); intro nb1 | (fail_if_success (have := nb2)); intro nb2 | (fail_if_success (have := nb3)); intro nb3 | intro nbz)
    | (refine Fr.mk ?_; intro hfr; replace FR := And.intro hfr FR; clear hfr; refine Sm.out ?_)
    | (refine Two.mk ?_ ?_)
    | (refine Cs.mk ?_; intro hcs; first | exact False.elim hcs | (exfalso; omega) | (refine Sm.out ?_))
    | go_step
    | omega
    | (simp only [maxLen_eq]; omega)
  have a2 : IntKind.u64.wrap ((((x / 4294967296 * (y % 4294967296) + x % 4294967296 * (y % 4294967296) / 4294967296) % 4294967296 : Nat) : Int) + ((x % 4294967296 * (y / 4294967296) : Nat) : Int)) = (((x / 4294967296 * (y % 4294967296) + x % 4294967296 * (y % 4294967296) / 4294967296) % 4294967296 + x % 4294967296 * (y / 4294967296) : Nat) : Int) := by rw [← Int.natCast_add, wrap_u64_nat h5]
  have a3 : IntKind.u64.wrap (((x / 4294967296 * (y / 4294967296) : Nat) : Int) + (((x / 4294967296 * (y % 4294967296) + x % 4294967296 * (y % 4294967296) / 4294967296) / 4294967296 : Nat) : Int)) = ((x / 4294967296 * (y / 4294967296) + (x / 4294967296 * (y % 4294967296) + x % 4294967296 * (y % 4294967296) / 4294967296) / 4294967296 : Nat) : Int) := by rw [← Int.natCast_add, wrap_u64_nat h7]
  have a4 : IntKind.u64.wrap (((x / 4294967296 * (y / 4294967296) + (x / 4294967296 * (y % 4294967296) + x % 4294967296 * (y % 4294967296) / 4294967296) / 4294967296 : Nat) : Int) + ((((x / 4294967296 * (y % 4294967296) + x % 4294967296 * (y % 4294967296) / 4294967296) % 4294967296 + x % 4294967296 * (y / 4294967296)) / 4294967296 : Nat) : Int)) = ((x * y / 18446744073709551616 : Nat) : Int) := by
    rw [← Int.natCast_add, h8, wrap_u64_nat h9]
  first | (have FRx := FR; clear FRx) | (have FR : ¬ ((1 : Nat) = 0) := Nat.one_ne_zero)
  repeat' first
    | (refine Sm.mk ?_; try simp -dsimp only [ZK, rvc, drawF, headN, pureH, stp, dvc, calleeOf, gcall, pev, eff, newB, okd, og, ogs, ogo, ogp, slv, bltv, opd, litv, strip, one, both, putE, St.put, look, gdOf, gdv, picka, pickv, pickw, binv, bini, bins, binb, binp, binq, isSlT, bina, shp, eqCells, unv, convv, nilv, faddv, addp, idxav, idxp, load1, load1m, loadn, loadnm, loadv, hget, hset, hrep, hdel, slicev, bnd, shift1, lenv, capv, IntKind.bits, extractv, fieldv, indexv, min2v, max2v, mkiv, cellsA, fillA, buildv, stC, oneC, rowMB, intsA, plN, appE, appZ, appC, appNZ, appNC, VwL, srcC, srcZ, srcM, isBoolT, isPtrT, isSliceT, uOk, Value.oneCell', Nat.reducePow, Int.reducePow, Nat.reduceAdd, Nat.reduceMul, Nat.reduceSub, Nat.reduceLT, Nat.reduceLeDiff, Nat.reduceEqDiff, Nat.reduceBEq, Nat.reduceDiv, Nat.reduceMod, ↓reduceIte, reduceCtorEq, Int.reduceToNat, Int.reduceLT, Int.reduceLE, TFExB, SeqQ, BlkQ, LoopQ, BodyQ, s, m3, m4, m5, a2, a3, a4, FR])
    | (refine WP.seq fun K hK => ?_)
    | (refine WP.region (rvc_sound _ _ (Sm.out ?_)))
    | (refine WP.drawK rfl mixed (by decide +kernel) (Sm.out ?_))
    | (refine Ob.mk ?_; focus (first | assumption | omega | decide | trivial | (intro hob; simp only [hob, ZF]; done) | (intros; (repeat' refine And.intro ?_ ?_) <;> first | assumption | omega | trivial | decide) | (intros; simp only [ZE] at *; (repeat' refine And.intro ?_ ?_) <;> first | assumption | omega | trivial)))
    | (refine And.intro (Ob.out ?_) ?_)
    | (refine WP.block ?_)
    | (refine WP.cond rfl (fun hc => ?_) (fun hc => ?_) <;> (try simp only [ZC, reduceCtorEq, ZD] at hc) <;> (try (exact absurd hc (by decide))) <;> (try (exfalso; omega)))
    | ((first | refine WP.skip ?_ | refine WP.exit ?_); simp only [SeqQ, BlkQ, LoopQ, BodyQ, ↓reduceIte, Nat.reduceEqDiff, reduceCtorEq, look, true_and])
    | (refine WP.ret (Sm.out ?_))
    | (first | refine ExG.no (Sm.out ?_) | refine Or.inl (ExG.no (Sm.out ?_)) | refine Or.inl (And.intro (fun hg => absurd hg (by decide)) (ExG.no (Sm.out ?_))))
    | (refine Rt.mk ?_; refine And.intro ?_ ?_ <;> (intro hg; first | exact absurd hg (by decide) | refine Sm.out ?_))
    | (refine Nu.mk ?_; first | (fail_if_success (have := nb1)); intro nb1 | (fail_if_success (have := nb2)); intro nb2 | (fail_if_success (have := nb3)); intro nb3 | intro nbz)
    | (refine Fr.mk ?_; intro hfr; replace FR := And.intro hfr FR; clear hfr; refine Sm.out ?_)
    | (refine Two.mk ?_ ?_)
    | (refine Cs.mk ?_; intro hcs; first | exact False.elim hcs | (exfalso; omega) | (refine Sm.out ?_))
    | (refine OutQ.all ?_ ?_; (focus (simp only [resv, ZK, look, loadv, loadn, loadnm, load1, load1m, hget, ↓reduceIte, Nat.reduceEqDiff, Nat.reduceAdd, Nat.reduceMul, Nat.reduceLeDiff, Nat.reduceLT, reduceCtorEq, TFExB, s, m3, m4, m5, a2, a3, a4, FR])); (try simp only [resv, resA, Fn, ZK, look, loadv, loadn, loadnm, load1, load1m, hget, ↓reduceIte, Nat.reduceEqDiff, Nat.reduceAdd, Nat.reduceMul, Nat.reduceLeDiff, Nat.reduceLT, reduceCtorEq, TFExB, s, m3, m4, m5, a2, a3, a4, FR]); (try simp [resA, Fn, look, s, m3, m4, m5, a2, a3, a4, FR]); done)
    | go_step
    | omega
    | (simp only [maxLen_eq]; omega)
theorem times_ct (x y : Nat) (hx : x < 18446744073709551616) (hy : y < 18446744073709551616) : ACt Try.prog 53 [nu x, nu y] [] (Fn (wideA (x * y))) := by
  refine ACt.intro Try.func53 rfl (by kernel_rfl) (by simp [Try.ntmps53]) (fun cx => ?_)
  simp only [argE, Try.ntmps53, Try.results53]
  first | (have FRx := FR; clear FRx) | (have FR : ¬ ((1 : Nat) = 0) := Nat.one_ne_zero)
  repeat' first
    | (refine Sm.mk ?_; try simp -dsimp only [ZK, rvc, drawF, headN, pureH, stp, dvc, calleeOf, gcall, pev, eff, newB, okd, og, ogs, ogo, ogp, slv, bltv, opd, litv, strip, one, both, putE, St.put, look, gdOf, gdv, picka, pickv, pickw, binv, bini, bins, binb, binp, binq, isSlT, bina, shp, eqCells, unv, convv, nilv, faddv, addp, idxav, idxp, load1, load1m, loadn, loadnm, loadv, hget, hset, hrep, hdel, slicev, bnd, shift1, lenv, capv, IntKind.bits, extractv, fieldv, indexv, min2v, max2v, mkiv, cellsA, fillA, buildv, stC, oneC, rowMB, intsA, plN, appE, appZ, appC, appNZ, appNC, VwL, srcC, srcZ, srcM, isBoolT, isPtrT, isSliceT, uOk, Value.oneCell', Nat.reducePow, Int.reducePow, Nat.reduceAdd, Nat.reduceMul, Nat.reduceSub, Nat.reduceLT, Nat.reduceLeDiff, Nat.reduceEqDiff, Nat.reduceBEq, Nat.reduceDiv, Nat.reduceMod, ↓reduceIte, reduceCtorEq, Int.reduceToNat, Int.reduceLT, Int.reduceLE, TFExB, SeqQ, BlkQ, LoopQ, BodyQ, FR])
    | (first | refine CallV.fn (mul64_ct x y hx hy) (Sm.out ?_) | refine ExF.mk (mul64_ct x y hx hy) (Sm.out ?_) | refine ExG.mk (fun _ => mul64_ct x y hx hy) (Sm.out ?_) | refine ExG.mkJ (fun _ => mul64_ct x y hx hy) (Sm.out ?_) | refine ExG.mkI (Ob.out ?_) (fun _ => mul64_ct x y hx hy) (Sm.out ?_))
    | (refine WP.seq fun K hK => ?_)
    | (refine WP.region (rvc_sound _ _ (Sm.out ?_)))
    | (refine WP.drawK rfl mixed (by decide +kernel) (Sm.out ?_))
    | (refine Ob.mk ?_; focus (first | assumption | omega | decide | trivial | (intro hob; simp only [hob, ZF]; done) | (intros; (repeat' refine And.intro ?_ ?_) <;> first | assumption | omega | trivial | decide) | (intros; simp only [ZE] at *; (repeat' refine And.intro ?_ ?_) <;> first | assumption | omega | trivial)))
    | (refine And.intro (Ob.out ?_) ?_)
    | (refine WP.block ?_)
    | (refine WP.cond rfl (fun hc => ?_) (fun hc => ?_) <;> (try simp only [ZC, reduceCtorEq, ZD] at hc) <;> (try (exact absurd hc (by decide))) <;> (try (exfalso; omega)))
    | ((first | refine WP.skip ?_ | refine WP.exit ?_); simp only [SeqQ, BlkQ, LoopQ, BodyQ, ↓reduceIte, Nat.reduceEqDiff, reduceCtorEq, look, true_and])
    | (refine WP.ret (Sm.out ?_))
    | (first | refine ExG.no (Sm.out ?_) | refine Or.inl (ExG.no (Sm.out ?_)) | refine Or.inl (And.intro (fun hg => absurd hg (by decide)) (ExG.no (Sm.out ?_))))
    | (refine Rt.mk ?_; refine And.intro ?_ ?_ <;> (intro hg; first | exact absurd hg (by decide) | refine Sm.out ?_))
    | (refine Nu.mk ?_; first | (fail_if_success (have := nb1)); intro nb1 | (fail_if_success (have := nb2)); intro nb2 | (fail_if_success (have := nb3)); intro nb3 | intro nbz)
    | (refine Fr.mk ?_; intro hfr; replace FR := And.intro hfr FR; clear hfr; refine Sm.out ?_)
    | (refine Two.mk ?_ ?_)
    | (refine Cs.mk ?_; intro hcs; first | exact False.elim hcs | (exfalso; omega) | (refine Sm.out ?_))
    | (refine OutQ.all ?_ ?_; (focus (simp only [resv, ZK, look, loadv, loadn, loadnm, load1, load1m, hget, ↓reduceIte, Nat.reduceEqDiff, Nat.reduceAdd, Nat.reduceMul, Nat.reduceLeDiff, Nat.reduceLT, reduceCtorEq, TFExB, FR])); (try simp only [resv, resA, Fn, ZK, look, loadv, loadn, loadnm, load1, load1m, hget, ↓reduceIte, Nat.reduceEqDiff, Nat.reduceAdd, Nat.reduceMul, Nat.reduceLeDiff, Nat.reduceLT, reduceCtorEq, TFExB, FR]); (try simp [resA, Fn, look, FR]); done)
    | go_step
    | omega
    | (simp only [maxLen_eq]; omega)
theorem lenN_shift {k x : Nat} (h : 2 ^ k ≤ x) : lenN x = k + lenN (x / 2 ^ k) := by
  have hx : 0 < x := Nat.lt_of_lt_of_le (Nat.two_pow_pos k) h
  have a : ∀ d, lenN x ≤ k + d ↔ lenN (x / 2 ^ k) ≤ d := fun d => by
    rw [lenN_le, lenN_le, Nat.div_lt_iff_lt_mul (Nat.two_pow_pos k), Nat.pow_add, Nat.mul_comm]
  have b : k ≤ lenN x := by
    apply Classical.byContradiction; intro hk
    have := lenN_le.1 (show lenN x ≤ k - 1 + 0 by omega)
    have h2 : 2 ^ (k - 1 + 0) ≤ 2 ^ k := Nat.pow_le_pow_right (by omega) (by omega)
    omega
  have h1 := (a (lenN (x / 2 ^ k))).2 (Nat.le_refl _)
  have h2 := (a (lenN x - k)).1 (by omega)
  omega
def tab8 : ByteArray := ⟨List.toArray (List.append (List.append [0, 1, 2, 2, 3, 3, 3, 3, 4, 4, 4, 4, 4, 4, 4, 4, 5, 5, 5, 5, 5, 5, 5, 5, 5, 5, 5, 5, 5, 5, 5, 5, 6, 6, 6, 6, 6, 6, 6, 6, 6, 6, 6, 6, 6, 6, 6, 6, 6, 6, 6, 6, 6, 6, 6, 6, 6, 6, 6, 6, 6, 6, 6, 6] [7, 7, 7, 7, 7, 7, 7, 7, 7, 7, 7, 7, 7, 7, 7, 7, 7, 7, 7, 7, 7, 7, 7, 7, 7, 7, 7, 7, 7, 7, 7, 7, 7, 7, 7, 7, 7, 7, 7, 7, 7, 7, 7, 7, 7, 7, 7, 7, 7, 7, 7, 7, 7, 7, 7, 7, 7, 7, 7, 7, 7, 7, 7, 7]) (List.append [8, 8, 8, 8, 8, 8, 8, 8, 8, 8, 8, 8, 8, 8, 8, 8, 8, 8, 8, 8, 8, 8, 8, 8, 8, 8, 8, 8, 8, 8, 8, 8, 8, 8, 8, 8, 8, 8, 8, 8, 8, 8, 8, 8, 8, 8, 8, 8, 8, 8, 8, 8, 8, 8, 8, 8, 8, 8, 8, 8, 8, 8, 8, 8] [8, 8, 8, 8, 8, 8, 8, 8, 8, 8, 8, 8, 8, 8, 8, 8, 8, 8, 8, 8, 8, 8, 8, 8, 8, 8, 8, 8, 8, 8, 8, 8, 8, 8, 8, 8, 8, 8, 8, 8, 8, 8, 8, 8, 8, 8, 8, 8, 8, 8, 8, 8, 8, 8, 8, 8, 8, 8, 8, 8, 8, 8, 8, 8]))⟩
theorem tab8_eq : (⟨List.toArray (List.append (List.append [0, 1, 2, 2, 3, 3, 3, 3, 4, 4, 4, 4, 4, 4, 4, 4, 5, 5, 5, 5, 5, 5, 5, 5, 5, 5, 5, 5, 5, 5, 5, 5, 6, 6, 6, 6, 6, 6, 6, 6, 6, 6, 6, 6, 6, 6, 6, 6, 6, 6, 6, 6, 6, 6, 6, 6, 6, 6, 6, 6, 6, 6, 6, 6] [7, 7, 7, 7, 7, 7, 7, 7, 7, 7, 7, 7, 7, 7, 7, 7, 7, 7, 7, 7, 7, 7, 7, 7, 7, 7, 7, 7, 7, 7, 7, 7, 7, 7, 7, 7, 7, 7, 7, 7, 7, 7, 7, 7, 7, 7, 7, 7, 7, 7, 7, 7, 7, 7, 7, 7, 7, 7, 7, 7, 7, 7, 7, 7]) (List.append [8, 8, 8, 8, 8, 8, 8, 8, 8, 8, 8, 8, 8, 8, 8, 8, 8, 8, 8, 8, 8, 8, 8, 8, 8, 8, 8, 8, 8, 8, 8, 8, 8, 8, 8, 8, 8, 8, 8, 8, 8, 8, 8, 8, 8, 8, 8, 8, 8, 8, 8, 8, 8, 8, 8, 8, 8, 8, 8, 8, 8, 8, 8, 8] [8, 8, 8, 8, 8, 8, 8, 8, 8, 8, 8, 8, 8, 8, 8, 8, 8, 8, 8, 8, 8, 8, 8, 8, 8, 8, 8, 8, 8, 8, 8, 8, 8, 8, 8, 8, 8, 8, 8, 8, 8, 8, 8, 8, 8, 8, 8, 8, 8, 8, 8, 8, 8, 8, 8, 8, 8, 8, 8, 8, 8, 8, 8, 8]))⟩ : ByteArray) = tab8 := rfl
theorem tab8_size : tab8.size = 256 := by decide +kernel
theorem tab8_all : ∀ i : Nat, i < 256 → (tab8.data.toList.getD i 0).toNat = lenN i := by decide +kernel
theorem tab8_at (n : Nat) : (tab8.data.toList.getD (n % 256) 0).toNat = lenN (n % 256) := tab8_all (n % 256) (Nat.mod_lt _ (by omega))
theorem lenN_bd {x d : Nat} (h : x < 2 ^ d) : lenN x ≤ d := lenN_le.2 h
set_option maxHeartbeats 1000000 in
theorem len64_ct (x : Nat) (hx : x < 18446744073709551616) : ACt Try.prog 56 [nu x] [] (Fn (iv .i64 ((lenN x : Nat) : Int))) := by
  refine ACt.intro Try.func56 rfl (by kernel_rfl) (by simp [Try.ntmps56]) (fun cx => ?_)
  simp only [argE, Try.ntmps56, Try.results56]
  have s1 : ∀ n : Nat, (n : Int).fdiv 4294967296 = ((n / 4294967296 : Nat) : Int) := fun n => by rw [Int.fdiv_eq_ediv_of_nonneg _ (by omega)]; simp
  have s2 : ∀ n : Nat, (n : Int).fdiv 65536 = ((n / 65536 : Nat) : Int) := fun n => by rw [Int.fdiv_eq_ediv_of_nonneg _ (by omega)]; simp
  have s3 : ∀ n : Nat, (n : Int).fdiv 256 = ((n / 256 : Nat) : Int) := fun n => by rw [Int.fdiv_eq_ediv_of_nonneg _ (by omega)]; simp
  have w8 : ∀ n : Nat, IntKind.u8.wrap (n : Int) = ((n % 256 : Nat) : Int) := fun n => by rw [wrap_u8_mod]; omega
  have l8 : ∀ n : Nat, lenN (n % 256) ≤ 8 := fun n => lenN_bd (by have := Nat.mod_lt n (show 256 > 0 by omega); omega)
  have wl : ∀ n : Nat, IntKind.i64.wrap ((lenN (n % 256) : Nat) : Int) = ((lenN (n % 256) : Nat) : Int) := fun n => wrap_i64_nat (by have := l8 n; omega)
  have a0 : ∀ n : Nat, IntKind.i64.wrap (0 + ((lenN (n % 256) : Nat) : Int)) = ((lenN (n % 256) : Nat) : Int) := fun n => by rw [Int.zero_add]; exact wl n
  have a : ∀ (k : Int) (n : Nat), 0 ≤ k → k ≤ 1000 → IntKind.i64.wrap (k + ((lenN (n % 256) : Nat) : Int)) = k + ((lenN (n % 256) : Nat) : Int) := fun k n h1 h2 => wrap_i64 (by omega) (by have := l8 n; omega)
  have b1 : IntKind.i64.wrap (32 + 16) = 48 := by decide
  have b2 : IntKind.i64.wrap (48 + 8) = 56 := by decide
  have b3 : IntKind.i64.wrap (32 + 8) = 40 := by decide
  have b4 : IntKind.i64.wrap (0 + 16) = 16 := by decide
  have b5 : IntKind.i64.wrap (16 + 8) = 24 := by decide
  have b6 : IntKind.i64.wrap (0 + 8) = 8 := by decide
  have c8 := fun n => a 8 n (by decide) (by decide)
  have c16 := fun n => a 16 n (by decide) (by decide)
  have c24 := fun n => a 24 n (by decide) (by decide)
  have c32 := fun n => a 32 n (by decide) (by decide)
  have c40 := fun n => a 40 n (by decide) (by decide)
  have c48 := fun n => a 48 n (by decide) (by decide)
  have c56 := fun n => a 56 n (by decide) (by decide)
  have r1 : 4294967296 ≤ x → lenN x = 32 + lenN (x / 4294967296) := lenN_shift (k := 32)
  have r2 : ∀ y, 65536 ≤ y → lenN y = 16 + lenN (y / 65536) := fun y => lenN_shift (k := 16)
  have r3 : ∀ y, 256 ≤ y → lenN y = 8 + lenN (y / 256) := fun y => lenN_shift (k := 8)
  first | (have FRx := FR; clear FRx) | (have FR : ¬ ((1 : Nat) = 0) := Nat.one_ne_zero)
  repeat' first
    | (refine Sm.mk ?_; try simp -dsimp only [ZK, rvc, drawF, headN, pureH, stp, dvc, calleeOf, gcall, pev, eff, newB, okd, og, ogs, ogo, ogp, slv, bltv, opd, litv, strip, one, both, putE, St.put, look, gdOf, gdv, picka, pickv, pickw, binv, bini, bins, binb, binp, binq, isSlT, bina, shp, eqCells, unv, convv, nilv, faddv, addp, idxav, idxp, load1, load1m, loadn, loadnm, loadv, hget, hset, hrep, hdel, slicev, bnd, shift1, lenv, capv, IntKind.bits, extractv, fieldv, indexv, min2v, max2v, mkiv, cellsA, fillA, buildv, stC, oneC, rowMB, intsA, plN, appE, appZ, appC, appNZ, appNC, VwL, srcC, srcZ, srcM, isBoolT, isPtrT, isSliceT, uOk, Value.oneCell', Nat.reducePow, Int.reducePow, Nat.reduceAdd, Nat.reduceMul, Nat.reduceSub, Nat.reduceLT, Nat.reduceLeDiff, Nat.reduceEqDiff, Nat.reduceBEq, Nat.reduceDiv, Nat.reduceMod, ↓reduceIte, reduceCtorEq, Int.reduceToNat, Int.reduceLT, Int.reduceLE, TFExB, SeqQ, BlkQ, LoopQ, BodyQ, s1, s2, s3, w8, wl, tab8_eq, tab8_size, tab8_at, a0, b1, b2, b3, b4, b5, b6, c8, c16, c24, c32, c40, c48, c56, FR])
    | (refine WP.seq fun K hK => ?_)
    | (refine WP.region (rvc_sound _ _ (Sm.out ?_)))
    | (refine WP.drawK rfl mixed (by decide +kernel) (Sm.out ?_))
    | (refine Ob.mk ?_; focus (first | assumption | omega | decide | trivial | (intro hob; simp only [hob, ZF]; done) | (intros; (repeat' refine And.intro ?_ ?_) <;> first | assumption | omega | trivial | decide) | (intros; simp only [ZE] at *; (repeat' refine And.intro ?_ ?_) <;> first | assumption | omega | trivial)))
    | (refine And.intro (Ob.out ?_) ?_)
    | (refine WP.block ?_)
    | (refine WP.cond rfl (fun hc => ?_) (fun hc => ?_) <;> (try simp only [ZC, reduceCtorEq, ZD] at hc) <;> (try (exact absurd hc (by decide))) <;> (try (exfalso; omega)))
    | ((first | refine WP.skip ?_ | refine WP.exit ?_); simp only [SeqQ, BlkQ, LoopQ, BodyQ, ↓reduceIte, Nat.reduceEqDiff, reduceCtorEq, look, true_and])
    | (refine WP.ret (Sm.out ?_))
    | (first | refine ExG.no (Sm.out ?_) | refine Or.inl (ExG.no (Sm.out ?_)) | refine Or.inl (And.intro (fun hg => absurd hg (by decide)) (ExG.no (Sm.out ?_))))
    | (refine Rt.mk ?_; refine And.intro ?_ ?_ <;> (intro hg; first | exact absurd hg (by decide) | refine Sm.out ?_))
    | (refine Nu.mk ?_; first | (fail_if_success (have := nb1)); intro nb1 | (fail_if_success (have := nb2)); intro nb2 | (fail_if_success (have := nb3)); intro nb3 | intro nbz)
    | (refine Fr.mk ?_; intro hfr; replace FR := And.intro hfr FR; clear hfr; refine Sm.out ?_)
    | (refine Two.mk ?_ ?_)
    | (refine Cs.mk ?_; intro hcs; first | exact False.elim hcs | (exfalso; omega) | (refine Sm.out ?_))
    | go_step
    | omega
    | (simp only [maxLen_eq]; omega)
  all_goals (refine OutQ.all ?_ ?_; (focus (simp only [resv, ZK, look, loadv, loadn, loadnm, load1, load1m, hget, ↓reduceIte, Nat.reduceEqDiff, Nat.reduceAdd, Nat.reduceMul, Nat.reduceLeDiff, Nat.reduceLT, reduceCtorEq, TFExB])); (try simp only [resv, resA, Fn, ZK, look, loadv, loadn, loadnm, load1, load1m, hget, ↓reduceIte, Nat.reduceEqDiff, Nat.reduceAdd, Nat.reduceMul, Nat.reduceLeDiff, Nat.reduceLT, reduceCtorEq, TFExB]); (try simp [resA, Fn, look]))
  all_goals
    first
    | (rw [Nat.mod_eq_of_lt (by omega)]; done)
    | (rw [Nat.mod_eq_of_lt (by omega)]
       have q1 := r2 x
       have q2 := r2 (x / 4294967296)
       have q3 := r3 x
       have q4 := r3 (x / 4294967296)
       have q5 := r3 (x / 65536)
       have q6 := r3 (x / 4294967296 / 65536)
       omega)
theorem at_ct (l : List Bool) (i : Nat) : ACt Try.prog 40 [.sl l.length (bl l), iv .i64 i] [] (Fn (iv .i64 ((bitA l i : Nat) : Int))) := by
  refine ACt.intro Try.func40 rfl (by kernel_rfl) (by simp [Try.ntmps40]) (fun cx => ?_)
  simp only [argE, Try.ntmps40, Try.results40]
  by_cases h : i < l.length
  · have k : decide ((i : Int) < l.length) = true := by simpa using h
    have e := bl_at l i h
    unfold bitA
    cases hb : l.getD i false
    all_goals rw [hb] at e
    all_goals (
        first | (have FRx := FR; clear FRx) | (have FR : ¬ ((1 : Nat) = 0) := Nat.one_ne_zero)
        repeat' first
          | (refine Sm.mk ?_; try simp -dsimp only [ZK, rvc, drawF, headN, pureH, stp, dvc, calleeOf, gcall, pev, eff, newB, okd, og, ogs, ogo, ogp, slv, bltv, opd, litv, strip, one, both, putE, St.put, look, gdOf, gdv, picka, pickv, pickw, binv, bini, bins, binb, binp, binq, isSlT, bina, shp, eqCells, unv, convv, nilv, faddv, addp, idxav, idxp, load1, load1m, loadn, loadnm, loadv, hget, hset, hrep, hdel, slicev, bnd, shift1, lenv, capv, IntKind.bits, extractv, fieldv, indexv, min2v, max2v, mkiv, cellsA, fillA, buildv, stC, oneC, rowMB, intsA, plN, appE, appZ, appC, appNZ, appNC, VwL, srcC, srcZ, srcM, isBoolT, isPtrT, isSliceT, uOk, Value.oneCell', Nat.reducePow, Int.reducePow, Nat.reduceAdd, Nat.reduceMul, Nat.reduceSub, Nat.reduceLT, Nat.reduceLeDiff, Nat.reduceEqDiff, Nat.reduceBEq, Nat.reduceDiv, Nat.reduceMod, ↓reduceIte, reduceCtorEq, Int.reduceToNat, Int.reduceLT, Int.reduceLE, TFExB, SeqQ, BlkQ, LoopQ, BodyQ, k, e, bl_len, FR])
          | (refine WP.seq fun K hK => ?_)
          | (refine WP.region (rvc_sound _ _ (Sm.out ?_)))
          | (refine WP.drawK rfl mixed (by decide +kernel) (Sm.out ?_))
          | (refine Ob.mk ?_; focus (first | assumption | omega | decide | trivial | (intro hob; simp only [hob, ZF]; done) | (intros; (repeat' refine And.intro ?_ ?_) <;> first | assumption | omega | trivial | decide) | (intros; simp only [ZE] at *; (repeat' refine And.intro ?_ ?_) <;> first | assumption | omega | trivial)))
          | (refine And.intro (Ob.out ?_) ?_)
          | (refine WP.block ?_)
          | (refine WP.cond rfl (fun hc => ?_) (fun hc => ?_) <;> (try simp only [ZC, reduceCtorEq, ZD] at hc) <;> (try (exact absurd hc (by decide))) <;> (try (exfalso; omega)))
          | ((first | refine WP.skip ?_ | refine WP.exit ?_); simp only [SeqQ, BlkQ, LoopQ, BodyQ, ↓reduceIte, Nat.reduceEqDiff, reduceCtorEq, look, true_and])
          | (refine WP.ret (Sm.out ?_))
          | (first | refine ExG.no (Sm.out ?_) | refine Or.inl (ExG.no (Sm.out ?_)) | refine Or.inl (And.intro (fun hg => absurd hg (by decide)) (ExG.no (Sm.out ?_))))
          | (refine Rt.mk ?_; refine And.intro ?_ ?_ <;> (intro hg; first | exact absurd hg (by decide) | refine Sm.out ?_))
          | (refine Nu.mk ?_; first | (fail_if_success (have := nb1)); intro nb1 | (fail_if_success (have := nb2)); intro nb2 | (fail_if_success (have := nb3)); intro nb3 | intro nbz)
          | (refine Fr.mk ?_; intro hfr; replace FR := And.intro hfr FR; clear hfr; refine Sm.out ?_)
          | (refine Two.mk ?_ ?_)
          | (refine Cs.mk ?_; intro hcs; first | exact False.elim hcs | (exfalso; omega) | (refine Sm.out ?_))
          | go_step
          | omega
          | (simp only [maxLen_eq]; omega))
    all_goals (refine OutQ.all ?_ ?_; (focus (simp only [resv, ZK, look, loadv, loadn, loadnm, load1, load1m, hget, ↓reduceIte, Nat.reduceEqDiff, Nat.reduceAdd, Nat.reduceMul, Nat.reduceLeDiff, Nat.reduceLT, reduceCtorEq, TFExB, h])); (try simp only [resv, resA, Fn, ZK, look, loadv, loadn, loadnm, load1, load1m, hget, ↓reduceIte, Nat.reduceEqDiff, Nat.reduceAdd, Nat.reduceMul, Nat.reduceLeDiff, Nat.reduceLT, reduceCtorEq, TFExB, h]); (try simp [resA, Fn, look, h]))
  · have k : decide ((i : Int) < l.length) = false := by simpa using h
    have e : bitA l i = 0 := by unfold bitA; rw [if_neg (by omega)]
    have e2 : (bl l).getD i .any = .any := by simp [List.getD, List.getElem?_eq_none (show l.length ≤ i by omega)]
    first | (have FRx := FR; clear FRx) | (have FR : ¬ ((1 : Nat) = 0) := Nat.one_ne_zero)
    repeat' first
      | (refine Sm.mk ?_; try simp -dsimp only [ZK, rvc, drawF, headN, pureH, stp, dvc, calleeOf, gcall, pev, eff, newB, okd, og, ogs, ogo, ogp, slv, bltv, opd, litv, strip, one, both, putE, St.put, look, gdOf, gdv, picka, pickv, pickw, binv, bini, bins, binb, binp, binq, isSlT, bina, shp, eqCells, unv, convv, nilv, faddv, addp, idxav, idxp, load1, load1m, loadn, loadnm, loadv, hget, hset, hrep, hdel, slicev, bnd, shift1, lenv, capv, IntKind.bits, extractv, fieldv, indexv, min2v, max2v, mkiv, cellsA, fillA, buildv, stC, oneC, rowMB, intsA, plN, appE, appZ, appC, appNZ, appNC, VwL, srcC, srcZ, srcM, isBoolT, isPtrT, isSliceT, uOk, Value.oneCell', Nat.reducePow, Int.reducePow, Nat.reduceAdd, Nat.reduceMul, Nat.reduceSub, Nat.reduceLT, Nat.reduceLeDiff, Nat.reduceEqDiff, Nat.reduceBEq, Nat.reduceDiv, Nat.reduceMod, ↓reduceIte, reduceCtorEq, Int.reduceToNat, Int.reduceLT, Int.reduceLE, TFExB, SeqQ, BlkQ, LoopQ, BodyQ, k, e, e2, FR])
      | (refine WP.seq fun K hK => ?_)
      | (refine WP.region (rvc_sound _ _ (Sm.out ?_)))
      | (refine WP.drawK rfl mixed (by decide +kernel) (Sm.out ?_))
      | (refine Ob.mk ?_; focus (first | assumption | omega | decide | trivial | (intro hob; simp only [hob, ZF]; done) | (intros; (repeat' refine And.intro ?_ ?_) <;> first | assumption | omega | trivial | decide) | (intros; simp only [ZE] at *; (repeat' refine And.intro ?_ ?_) <;> first | assumption | omega | trivial)))
      | (refine And.intro (Ob.out ?_) ?_)
      | (refine WP.block ?_)
      | (refine WP.cond rfl (fun hc => ?_) (fun hc => ?_) <;> (try simp only [ZC, reduceCtorEq, ZD] at hc) <;> (try (exact absurd hc (by decide))) <;> (try (exfalso; omega)))
      | ((first | refine WP.skip ?_ | refine WP.exit ?_); simp only [SeqQ, BlkQ, LoopQ, BodyQ, ↓reduceIte, Nat.reduceEqDiff, reduceCtorEq, look, true_and])
      | (refine WP.ret (Sm.out ?_))
      | (first | refine ExG.no (Sm.out ?_) | refine Or.inl (ExG.no (Sm.out ?_)) | refine Or.inl (And.intro (fun hg => absurd hg (by decide)) (ExG.no (Sm.out ?_))))
      | (refine Rt.mk ?_; refine And.intro ?_ ?_ <;> (intro hg; first | exact absurd hg (by decide) | refine Sm.out ?_))
      | (refine Nu.mk ?_; first | (fail_if_success (have := nb1)); intro nb1 | (fail_if_success (have := nb2)); intro nb2 | (fail_if_success (have := nb3)); intro nb3 | intro nbz)
      | (refine Fr.mk ?_; intro hfr; replace FR := And.intro hfr FR; clear hfr; refine Sm.out ?_)
      | (refine Two.mk ?_ ?_)
      | (refine Cs.mk ?_; intro hcs; first | exact False.elim hcs | (exfalso; omega) | (refine Sm.out ?_))
      | (refine OutQ.all ?_ ?_; (focus (simp only [resv, ZK, look, loadv, loadn, loadnm, load1, load1m, hget, ↓reduceIte, Nat.reduceEqDiff, Nat.reduceAdd, Nat.reduceMul, Nat.reduceLeDiff, Nat.reduceLT, reduceCtorEq, TFExB, k, e, e2, FR])); (try simp only [resv, resA, Fn, ZK, look, loadv, loadn, loadnm, load1, load1m, hget, ↓reduceIte, Nat.reduceEqDiff, Nat.reduceAdd, Nat.reduceMul, Nat.reduceLeDiff, Nat.reduceLT, reduceCtorEq, TFExB, k, e, e2, FR]); (try simp [resA, Fn, look, k, e, e2, FR]); done)
      | go_step
      | omega
      | (simp only [maxLen_eq]; omega)
end Go.Proofs.Ytngdgicgppaeaaa
