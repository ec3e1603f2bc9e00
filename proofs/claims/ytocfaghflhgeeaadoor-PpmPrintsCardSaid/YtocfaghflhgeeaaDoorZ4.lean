/-
  The walks and the laws that the statement leans on, part 4.
-/
import Derived.ChangeReads
import Derived.Laws.Externs
import Derived.Test.YtocfaghflhgeeaaDoorProg
import Derived.LaidMore
import Derived.OpenShut
import Derived.MakeChecks
import Derived.Test.YtocfaghflhgeeaaDoorZ3
namespace Go.Proofs.YtocfaghflhgeeaaDoor
open Go
set_option linter.unusedSimpArgs false
set_option linter.unusedVariables false
/-- What does not hang on memory. -/
def clA : AV → Bool
  | .lit _ => true
  | .any => true
  | .agg cs => clL cs
  | .tup cs => clL cs
  | .ifc _ x => clA x
  | _ => false
where clL : List AV → Bool
  | [] => true
  | x :: r => clA x && clL r
theorem clL_get : ∀ {cs : List AV} (i : Nat) (hi : i < cs.length), clA.clL cs = true → clA cs[i] = true
  | x :: r, 0, _, h => by simp only [clA.clL, Bool.and_eq_true] at h; exact h.1
  | x :: r, i + 1, hi, h => by
    simp only [clA.clL, Bool.and_eq_true] at h
    exact clL_get (cs := r) i (by simpa using hi) h.2
theorem Rep.closed {w w' : World} {I I' : Nat → Prop} {v : Value} {x : AV} (h : Rep w I v x) : clA x = true → Rep w' I' v x := by
  induction h with
  | any v => exact fun _ => .any v
  | lit v => exact fun _ => .lit v
  | sl a n cap cs g hn hm h _ ih => intro hc; simp [clA] at hc
  | slz a k zs cap hn hm h => intro hc; simp [clA] at hc
  | ip ad cs g h _ ih => intro hc; simp [clA] at hc
  | ipz ad k zs h => intro hc; simp [clA] at hc
  | agg vs cs hs _ ih => exact fun hc => .agg vs cs hs fun i hi => ih i hi (clL_get i hi (by simpa [clA] using hc))
  | tup vs cs hs _ ih => exact fun hc => .tup vs cs hs fun i hi => ih i hi (clL_get i hi (by simpa [clA] using hc))
  | ifc t v x _ ih => exact fun hc => .ifc t v x (ih (by simpa [clA] using hc))
  | gdt v x _ ih => intro hc; simp [clA] at hc
  | gdf x => intro hc; simp [clA] at hc
theorem hget_perm {b : Nat} {m : MB} : ∀ {H : Hp}, hget H b = some m → H.Perm ([(b, m)] ++ hdel H b)
  | [], h => by cases h
  | (b0, m0) :: r, h => by
    simp only [hget, hdel] at h ⊢
    split at h
    · rename_i he; subst he; cases h; simp
    · rename_i he
      rw [if_neg he]
      have := hget_perm (H := r) h
      exact (List.Perm.cons _ this).trans (List.Perm.swap ..)
/-! ## Views -/
/-- x, looked at through blocks of H that nobody writes for a while, is y. -/
inductive Vw (H : Hp) : AV → AV → Prop
  | same (x : AV) : Vw H x x
  | row {b off n cap sz ty : Nat} {k : IntKind} {zs : List Int} (hg : hget H b = some (.zs k zs sz ty)) (h1 : off + n ≤ zs.length) (h2 : n ≤ cap) (h3 : cap ≤ maxLen) :
      Vw H (ms b off n cap) (.slz k ((zs.drop off).take n))
  | rowc {b off n cap sz ty : Nat} {cs ds : List AV} (hg : hget H b = some (.cells cs sz ty)) (h1 : off + ds.length ≤ cs.length) (h2 : n ≤ cap) (h3 : cap ≤ maxLen)
      (h : ∀ i (hi : i < ds.length), Vw H (cs.getD (off + i) .any) ds[i]) : Vw H (ms b off n cap) (.sl n ds)
  | ptc {b off sz ty : Nat} {cs ds : List AV} (hg : hget H b = some (.cells cs sz ty)) (h1 : off + ds.length ≤ cs.length)
      (h : ∀ i (hi : i < ds.length), Vw H (cs.getD (off + i) .any) ds[i]) : Vw H (pt b off) (.ip ds)
  | ptz {b off sz ty : Nat} {k : IntKind} {zs : List Int} (hg : hget H b = some (.zs k zs sz ty)) (h1 : off ≤ zs.length) : Vw H (pt b off) (.ipz k (zs.drop off))
  | agg {cs ds : List AV} (hl : ds.length = cs.length) (h : ∀ i (hi : i < ds.length), Vw H (cs.getD i .any) ds[i]) : Vw H (.agg cs) (.agg ds)
  | ifc {t : TypeId} {x y : AV} (h : Vw H x y) : Vw H (.ifc t x) (.ifc t y)
  | nils : Vw H (.lit (.slice none 0 0)) (.sl 0 [])
theorem Vw.rep {cx : Cx} {H : Hp} {w : World} {I' : Nat → Prop} (hw : OkW cx H w) (hlt : ∀ b, imm cx w H b → I' b) (hk : ∀ x ∈ H, I' x.1) {x y : AV} (h : Vw H x y) : ∀ {v : Value}, Rep w (imm cx w H) v x → Rep w I' v y := by
  induction h with
  | same x => exact fun hv => hv.mono fun b hb => ⟨hlt b hb, rfl⟩
  | @row b off n cap sz ty k zs hg h1 h2 h3 =>
    intro v hv
    have := hv.lit_inv; subst this
    obtain ⟨cur, c1, c2, c3, c4⟩ := hw.mem _ (hget_mem hg)
    have e : ((zs.drop off).take n).length = n := by simp; omega
    have : Rep w I' (.slice (some ⟨b, off, none⟩) ((zs.drop off).take n).length cap) (.slz k ((zs.drop off).take n)) := by
      refine .slz _ _ _ _ (by omega) h3 (.inr ⟨b, off, rfl, hk _ (hget_mem hg), fun i hi => ?_⟩)
      rw [e] at hi
      rw [cell_of_block c1, c4 _ (by omega)]
      simp [List.getD, List.getElem?_take, List.getElem?_drop, hi]
    rw [e] at this
    exact this
  | @rowc b off n cap sz ty cs ds hg h1 h2 h3 h ih =>
    intro v hv
    have := hv.lit_inv; subst this
    obtain ⟨cur, c1, c2, c3, c4⟩ := hw.mem _ (hget_mem hg)
    refine .sl _ _ _ _ (fun i => cur.getD (off + i) undef) h2 h3 (.inr ⟨b, off, rfl, hk _ (hget_mem hg), fun i hi => ?_⟩) fun i hi => ih i hi ?_
    · rw [cell_of_block c1]
      have : off + i < cur.size := by omega
      simp [this]
    · have h4 := c4 (off + i) (by omega)
      have : cs.getD (off + i) .any = cs[off + i]'(by omega) := by simp [List.getD, show off + i < cs.length by omega]
      rw [this]
      exact h4
  | @ptc b off sz ty cs ds hg h1 h ih =>
    intro v hv
    have := hv.lit_inv; subst this
    obtain ⟨cur, c1, c2, c3, c4⟩ := hw.mem _ (hget_mem hg)
    refine .ip _ _ (fun i => cur.getD (off + i) undef) (.inr ⟨b, off, rfl, hk _ (hget_mem hg), fun i hi => ?_⟩) fun i hi => ih i hi ?_
    · rw [cell_of_block c1]
      have : off + i < cur.size := by omega
      simp [this]
    · have h4 := c4 (off + i) (by omega)
      have : cs.getD (off + i) .any = cs[off + i]'(by omega) := by simp [List.getD, show off + i < cs.length by omega]
      rw [this]
      exact h4
  | @ptz b off sz ty k zs hg h1 =>
    intro v hv
    have := hv.lit_inv; subst this
    obtain ⟨cur, c1, c2, c3, c4⟩ := hw.mem _ (hget_mem hg)
    refine .ipz _ _ _ (.inr ⟨b, off, rfl, hk _ (hget_mem hg), fun i hi => ?_⟩)
    simp only [List.length_drop] at hi
    rw [cell_of_block c1, c4 _ (by omega)]
    simp [List.getD, List.getElem?_drop]
  | @agg cs ds hl h ih =>
    intro v hv
    cases hv with
    | agg vs cs hs r =>
      refine .agg vs ds (by omega) fun i hi => ih i hi ?_
      have hic : i < cs.length := by omega
      have : cs.getD i .any = cs[i] := by simp [List.getD, hic]
      rw [this]
      exact r i hic
  | ifc h ih =>
    intro v hv
    cases hv with
    | ifc t v x r => exact .ifc _ _ _ (ih r)
  | nils =>
    intro v hv
    have := hv.lit_inv; subst this
    exact .sl none 0 0 [] (fun _ => undef) (Nat.le_refl _) (Nat.zero_le _) (.inl rfl) (fun i hi => by simp at hi)
def VwL (H : Hp) : List AV → List AV → Prop
  | [], [] => True
  | x :: r, y :: s => Vw H x y ∧ VwL H r s
  | _, _ => False
theorem VwL.length {H : Hp} : ∀ {l m : List AV}, VwL H l m → m.length = l.length
  | [], [], _ => rfl
  | x :: r, y :: s, h => by simp [VwL.length h.2]
  | [], y :: s, h => h.elim
  | x :: r, [], h => h.elim
theorem VwL.get {H : Hp} : ∀ {l m : List AV}, VwL H l m → ∀ i, i < l.length → Vw H (l.getD i .any) (m.getD i .any)
  | x :: r, y :: s, h, 0, _ => by simpa using h.1
  | x :: r, y :: s, h, i + 1, hi => by simpa using VwL.get h.2 i (by simpa using hi)
  | [], [], _, i, hi => by simp at hi
  | [], y :: s, h, _, _ => h.elim
  | x :: r, [], h, _, _ => h.elim
/-- A callee that only reads, over blocks that are ours. -/
theorem ACt.view {P : Program} {f : FuncId} {args args' : List AV} {H : Hp} {x : AV} (h : ACt P f args' [] (Fn x)) (hc : clA x = true) (hv : VwL H args args') :
    ACt P f args H (fun r F' => r = x ∧ F' = H) := by
  intro cx vs hK hw hs hr
  have hlen := hv.length
  have := h ⟨cx.w0, fun b => b < cx.w0.heap.size, [], fun b hb => ⟨hb, by simp⟩⟩ vs rfl ⟨by simp, fun x hx => by simp at hx, fun x hx => by simp at hx, ⟨rfl, rfl, rfl, Nat.le_refl _, fun _ _ _ => rfl⟩⟩
    (by omega) (fun i hi => by
      have hi' : i < args.length := by omega
      exact (hv.get i hi').rep hw (fun b hb => imm_lt hw.ext.size hb) (fun x hx => keys_lt hw x hx) ((hr i hi').mono fun b hb => ⟨.inl hb, rfl⟩))
  refine this.mono ?_
  rintro e w' ⟨v, r, F', rfl, ⟨rfl, rfl⟩, hw', hrep⟩
  have hsame : ∀ b, b < cx.w0.heap.size → w'.heap[b]? = cx.w0.heap[b]? := fun b hb => hw'.ext.blk b hb (by simp)
  have hI : ∀ b, imm cx cx.w0 H b → imm cx w' H b ∧ w'.heap[b]? = cx.w0.heap[b]? := by
    intro b hb
    have hlt := imm_lt hw.ext.size hb
    refine ⟨?_, hsame b hlt⟩
    rcases hb with hb | ⟨h1, h2, h3⟩
    · exact .inl hb
    · exact .inr ⟨h1, by have := hw'.ext.size; simp only at this; omega, h3⟩
  refine ⟨v, _, H, rfl, ⟨rfl, rfl⟩, ⟨hw.nodup, hw.keys, fun y hy => (hw.mem y hy).mono hI (hsame _ (keys_lt hw y hy)), ?_⟩, hrep.closed hc⟩
  have e1 := hw.ext
  have e2 := hw'.ext
  exact ⟨e2.os.trans e1.os, e2.tape.trans e1.tape, e2.output.trans e1.output, Nat.le_trans e1.size e2.size, fun b hb hk => (hsame b hb).trans (e1.blk b hb hk)⟩
theorem CallV.view {P : Program} {f : FuncId} {args args' : List AV} {H : Hp} {x : AV} {post : AV → Hp → Prop} (h : ACt P f args' [] (Fn x)) (hc : clA x = true) (hv : VwL H args args') (hp : post x H) : CallV P f args H post :=
  ⟨H, [], _, by simp, h.view hc hv, by rintro r F' ⟨rfl, rfl⟩ _; simpa using hp⟩
/-- A callee that only reads a block of ours, which we give up for good: what comes back may look into it. -/
theorem ACt.frz {P : Program} {f : FuncId} {args args' : List AV} {b : Nat} {m : MB} {p : AV → Prop} (h : ACt P f args' [] (fun r F' => p r ∧ F' = [])) (hv : VwL [(b, m)] args args') :
    ACt P f args [(b, m)] (fun r F' => p r ∧ F' = []) := by
  intro cx vs hK hw hs hr
  have hlen := hv.length
  have hbl := keys_lt hw (b, m) (List.mem_cons_self ..)
  have hKb : cx.K = [b] := by rw [hK]; rfl
  have himm : ∀ c, imm cx cx.w0 [(b, m)] c → cx.I c := by
    rintro c (hc | ⟨h1, h2, h3⟩)
    · exact hc
    · have := h3 (b, m) (List.mem_cons_self ..)
      rcases h1 with h1 | h1
      · rw [hKb] at h1; simp at h1; exact absurd h1.symm this
      · omega
  have := h ⟨cx.w0, fun c => cx.I c ∨ c = b, [], fun c hc => ⟨by rcases hc with hc | rfl; exact (cx.hI c hc).1; exact hbl, by simp⟩⟩ vs rfl ⟨by simp, fun x hx => by simp at hx, fun x hx => by simp at hx, ⟨rfl, rfl, rfl, Nat.le_refl _, fun _ _ _ => rfl⟩⟩
    (by omega) (fun i hi => by
      have hi' : i < args.length := by omega
      exact (hv.get i hi').rep hw (fun c hc => .inl (himm c hc)) (fun x hx => by simp at hx; subst hx; exact .inr rfl) ((hr i hi').mono fun c hc => ⟨.inl hc, rfl⟩))
  refine this.mono ?_
  rintro e w' ⟨v, r, F', rfl, ⟨hp, rfl⟩, hw', hrep⟩
  have e1 := hw.ext
  have e2 := hw'.ext
  refine ⟨v, r, [], rfl, ⟨hp, rfl⟩, ⟨by simp, fun x hx => by simp at hx, fun x hx => by simp at hx, ?_⟩, hrep.mono fun c hc => ⟨?_, rfl⟩⟩
  · exact ⟨e2.os.trans e1.os, e2.tape.trans e1.tape, e2.output.trans e1.output, Nat.le_trans e1.size e2.size, fun c hc hk => (e2.blk c hc (by simp)).trans (e1.blk c hc hk)⟩
  · have hsz : cx.w0.heap.size ≤ w'.heap.size := e2.size
    rcases hc with (hc | rfl) | ⟨h1, h2, h3⟩
    · exact .inl hc
    · exact .inr ⟨.inl (by rw [hKb]; simp), by omega, fun x hx => by simp at hx⟩
    · rcases h1 with h1 | h1
      · simp at h1
      · exact .inr ⟨.inr h1, h2, fun x hx => by simp at hx⟩
theorem CallV.frz {P : Program} {f : FuncId} {args args' : List AV} {H : Hp} {x : AV} {post : AV → Hp → Prop} {m : MB} (b : Nat) (hg : hget H b = some m) (h : ACt P f args' [] (Fn x)) (hv : VwL [(b, m)] args args')
    (hp : post x (hdel H b)) : CallV P f args H post := by
  refine ⟨[(b, m)], hdel H b, _, hget_perm hg, h.frz (p := fun r => r = x) hv, ?_⟩
  rintro r F' ⟨rfl, rfl⟩ hn
  exact hp
/-! ## Rows of integers that a callee hands back, ours -/
/-- What comes back is a row of these integers, the caller's own. -/
def Row (k : IntKind) (ty : TypeId) (zs : List Int) (r : AV) (F' : Hp) : Prop :=
  ∃ b' cap', zs.length ≤ cap' ∧ cap' ≤ maxLen ∧ r = ms b' 0 zs.length cap' ∧ F' = [(b', .zs k zs cap' ty)]
theorem fresh_of_nodup {b' : Nat} {m' : MB} {R : Hp} (h : (([(b', m')] ++ R).map (·.1)).Nodup) : fresh R b' := by
  rw [List.map_append, List.nodup_append] at h
  intro x hx
  have := h.2.2 b' (by simp) x.1 (List.mem_map_of_mem hx)
  exact ⟨fun he => this he.symm, this⟩
theorem CallV.row {P : Program} {f : FuncId} {args : List AV} {H : Hp} {b : Nat} {m : MB} {k : IntKind} {ty : TypeId} {zs : List Int} {post : AV → Hp → Prop} (hg : hget H b = some m) (h : ACt P f args [(b, m)] (Row k ty zs))
    (hp : Nu fun b' => Nu fun cap' => Fr (zs.length ≤ cap' ∧ cap' ≤ maxLen ∧ fresh (hdel H b) b') (post (ms b' 0 zs.length cap') ((b', .zs k zs cap' ty) :: hdel H b))) : CallV P f args H post := by
  refine ⟨[(b, m)], hdel H b, _, hget_perm hg, h, ?_⟩
  rintro r F' ⟨b', cap', h1, h2, rfl, rfl⟩ hn
  exact ((hp.out b').out cap').out ⟨h1, h2, fresh_of_nodup hn⟩
/-- A callee that changes one of our blocks, and hands back what does not hang on memory. -/
theorem CallV.upd {P : Program} {f : FuncId} {args : List AV} {H : Hp} {b : Nat} {m m' : MB} {x : AV} {post : AV → Hp → Prop} (hg : hget H b = some m) (h : ACt P f args [(b, m)] (fun r F' => r = x ∧ F' = [(b, m')]))
    (hp : post x ((b, m') :: hdel H b)) : CallV P f args H post := by
  refine ⟨[(b, m)], hdel H b, _, hget_perm hg, h, ?_⟩
  rintro r F' ⟨rfl, rfl⟩ hn
  exact hp
/-! ## Weakenings -/
/-- A slot, known in other words. -/
theorem Wk.slot {env env' : List (Nat × AV)} {H : Hp} (h : ∀ i (w : World) (I : Nat → Prop) v, Rep w I v (look env i) → Rep w I v (look env' i)) : Wk ⟨env, H⟩ ⟨env', H⟩ :=
  fun cx n a w ok => ⟨ok.defers, ok.size, fun i => h i w _ _ (ok.reps i), ok.world⟩
theorem Rep.nils {w : World} {I : Nat → Prop} {v : Value} (h : Rep w I v (.lit (.slice none 0 0))) : Rep w I v (.sl 0 []) := by
  have := h.lit_inv; subst this
  exact .sl none 0 0 [] (fun _ => undef) (by simp) (by simp) (.inl rfl) (fun i hi => by simp at hi)
/-- What is said of the slots' front, over. -/
theorem Wk.cons {env : List (Nat × AV)} {H : Hp} {i : Nat} {x y : AV} (hl : look env i = x) (h : ∀ (w : World) (I : Nat → Prop) v, Rep w I v x → Rep w I v y) : Wk ⟨env, H⟩ ⟨(i, y) :: env, H⟩ :=
  Wk.slot fun j w I v hv => by
    simp only [look]
    split
    · rename_i hj; subst hj; rw [hl] at hv; exact h w I v hv
    · exact hv
theorem Wk.trans {s t u : St} (h1 : Wk s t) (h2 : Wk t u) : Wk s u := fun cx n a w ok => h2 cx n a w (h1 cx n a w ok)
/-- A block of cells that nobody writes from here on. -/
def frzC (b : Nat) (cs : List AV) (sz : Nat) : AV → AV
  | .lit (.slice (some ⟨b', off, none⟩) m cap) => if b' = b then (if off + m * sz ≤ cs.length ∧ m ≤ cap ∧ cap ≤ maxLen then .sl m ((cs.drop off).take (m * sz)) else .any) else .lit (.slice (some ⟨b', off, none⟩) m cap)
  | .lit (.pointer (some ⟨b', off, none⟩)) => if b' = b then .ip (cs.drop off) else .lit (.pointer (some ⟨b', off, none⟩))
  | x => x
def frzCE (b : Nat) (cs : List AV) (sz : Nat) : List (Nat × AV) → List (Nat × AV)
  | [] => []
  | (i, x) :: r => (i, frzC b cs sz x) :: frzCE b cs sz r
theorem look_frzCE {b sz : Nat} {cs : List AV} : ∀ (env : List (Nat × AV)) (i : Nat), look (frzCE b cs sz env) i = frzC b cs sz (look env i)
  | [], _ => rfl
  | (j, x) :: r, i => by
    simp only [frzCE, look]
    split
    · rfl
    · exact look_frzCE r i
theorem Wk.freezeC {env : List (Nat × AV)} {H : Hp} (b sz : Nat) {cs : List AV} {s0 ty : Nat} (hg : hget H b = some (.cells cs s0 ty)) : Wk ⟨env, H⟩ ⟨frzCE b cs sz env, hdel H b⟩ := by
  intro cx n a w ok
  obtain ⟨hw, hI, hb⟩ := ok.world.lose (w' := w) (hget_mem hg) rfl rfl rfl rfl (fun _ _ => rfl)
  obtain ⟨cur, c1, c2, c3, c4⟩ := ok.world.mem _ (hget_mem hg)
  refine ⟨ok.defers, ok.size, fun i => ?_, hw⟩
  have h := ok.reps i
  simp only [look_frzCE] at h ⊢
  generalize look env i = x at h
  have hm := h.mono hI
  unfold frzC
  split
  · rename_i b' off m cap
    split
    · rename_i he; subst he
      split
      · rename_i hc
        have := h.lit_inv
        rw [this]
        have hl : ((cs.drop off).take (m * sz)).length = m * sz := by simp; omega
        refine .sl _ _ _ _ (fun i => cur.getD (off + i) undef) hc.2.1 hc.2.2 (.inr ⟨b', off, rfl, hb, fun i hi => ?_⟩) fun i hi => ?_
        · rw [cell_of_block c1]
          have : off + i < cur.size := by rw [hl] at hi; omega
          simp [this]
        · rw [hl] at hi
          simp only [List.getElem_take, List.getElem_drop]
          exact (c4 (off + i) (by omega)).mono hI
      · exact .any _
    · exact hm
  · rename_i b' off
    split
    · rename_i he; subst he
      have := h.lit_inv
      rw [this]
      refine .ip _ _ (fun i => cur.getD (off + i) undef) (.inr ⟨b', off, rfl, hb, fun i hi => ?_⟩) fun i hi => ?_
      · rw [cell_of_block c1]
        have : off + i < cur.size := by simp at hi; omega
        simp [this]
      · simp only [List.length_drop] at hi
        simp only [List.getElem_drop]
        exact (c4 (off + i) (by omega)).mono hI
    · exact hm
  · exact hm
theorem Vw.row' {H : Hp} {b off n cap sz ty : Nat} {k : IntKind} {zs zs' : List Int} (hg : hget H b = some (.zs k zs sz ty)) (h1 : off + n ≤ zs.length) (h2 : n ≤ cap) (h3 : cap ≤ maxLen) (h4 : zs' = (zs.drop off).take n) :
    Vw H (ms b off n cap) (.slz k zs') := by
  subst h4
  exact Vw.row hg h1 h2 h3
/-- A list of views, cell by cell, from a place on. -/
def VwC (H : Hp) : List AV → List AV → Prop
  | _, [] => True
  | [], _ :: _ => False
  | x :: r, y :: s => Vw H x y ∧ VwC H r s
theorem VwC.get {H : Hp} : ∀ {l m : List AV}, VwC H l m → m.length ≤ l.length ∧ ∀ i (hi : i < m.length), Vw H (l.getD i .any) m[i]
  | _, [], _ => ⟨by simp, fun i hi => by simp at hi⟩
  | [], y :: s, h => h.elim
  | x :: r, y :: s, h => by
    obtain ⟨h1, h2⟩ := VwC.get h.2
    refine ⟨by simp; omega, fun i hi => ?_⟩
    cases i with
    | zero => simpa using h.1
    | succ i => simpa using h2 i (by simpa using hi)
theorem VwC.refl {H : Hp} : ∀ l : List AV, VwC H l l
  | [] => trivial
  | x :: r => ⟨.same x, VwC.refl r⟩
/-! ## Blocks, picked out -/
def pickB : Hp → Hp → Prop
  | _, [] => True
  | H, (b, m) :: r => hget H b = some m ∧ pickB (hdel H b) r
theorem pickB.perm : ∀ {H' H : Hp}, pickB H H' → ∃ R, H.Perm (H' ++ R)
  | [], H, _ => ⟨H, by simp⟩
  | (b, m) :: r, H, h => by
    obtain ⟨R, hR⟩ := pickB.perm h.2
    exact ⟨R, (hget_perm h.1).trans (by simpa using hR)⟩
theorem Sub.pick {env env' : List (Nat × AV)} {H H' : Hp} (hH : pickB H H') (h : ∀ p ∈ env', look env p.1 = p.2) : Sub ⟨env, H⟩ ⟨env', H'⟩ := by
  obtain ⟨R, hR⟩ := hH.perm
  exact Sub.of_env R hR h
/-! ## Ways out -/
theorem OutQ.row {P : Program} {rs : List ResultVar} {s : St} {k : IntKind} {ty : TypeId} {zs zs' : List Int} {b' n cap' : Nat} (h1 : (resv P s.H s.env rs).1) (h2 : resA (resv P s.H s.env rs).2 = ms b' 0 n cap')
    (hg : hget s.H b' = some (.zs k zs' cap' ty)) (hz : zs' = zs) (hn : zs.length = n) (hc1 : n ≤ cap') (hc2 : cap' ≤ maxLen) : OutQ P rs (Row k ty zs) s := by
  subst hz
  refine OutQ.drop [(b', .zs k zs' cap' ty)] (hdel s.H b') (hget_perm hg) h1 ⟨b', cap', by omega, hc2, ?_, rfl⟩
  rw [h2, hn]
/-- A row of ours, handed back as one that nobody writes any more. -/
theorem OutQ.fz {P : Program} {t : Tmp} {s : St} {k : IntKind} {ty s0 : TypeId} {zs zs' : List Int} {b n cap : Nat} (h2 : look s.env t = ms b 0 n cap)
    (hg : hget s.H b = some (.zs k zs' s0 ty)) (hz : zs' = zs) (hn : zs.length = n) (hc1 : n ≤ cap) (hc2 : cap ≤ maxLen) : OutQ P [.tmp t] (Fn (.slz k zs)) s := by
  subst hz
  refine OutQ.wk (Wk.freeze b hg) (OutQ.all trivial ?_)
  simp only [resv, resA, look_frzE, h2, frz, if_true]
  rw [if_pos ⟨by omega, hc1, hc2⟩, ← hn]
  simp [Fn]
theorem OutQ.upd {P : Program} {rs : List ResultVar} {s : St} {x : AV} {b : Nat} {m m' : MB} (h1 : (resv P s.H s.env rs).1) (h2 : resA (resv P s.H s.env rs).2 = x)
    (hg : hget s.H b = some m) (hm : m = m') : OutQ P rs (fun r F' => r = x ∧ F' = [(b, m')]) s := by
  subst hm
  exact OutQ.drop [(b, m)] (hdel s.H b) (hget_perm hg) h1 ⟨h2, rfl⟩
end Go.Proofs.YtocfaghflhgeeaaDoor
namespace Go.Proofs.YtocfaghflhgeeaaDoor
open Go
set_option linter.unusedSimpArgs false
set_option linter.unusedVariables false
section
variable {P : Program} {cx : Cx} {n : Nat} {ops : Array Oper} {H E : Hp}
theorem hget_app {b : Nat} {m : MB} (hf : ∀ p ∈ E, fresh H p.1) (h : hget H b = some m) : hget (E ++ H) b = some m := by
  induction E with
  | nil => exact h
  | cons p r ih =>
    obtain ⟨b0, m0⟩ := p
    simp only [List.cons_append, hget]
    have h1 := hf (b0, m0) (List.mem_cons_self ..) _ (hget_mem h)
    rw [if_neg h1.1]
    exact ih fun q hq => hf q (List.mem_cons_of_mem _ hq)
theorem load1_app {x : AV} (hf : ∀ p ∈ E, fresh H p.1) (h : (load1 H x).1) : load1 (E ++ H) x = load1 H x := by
  by_cases hx : ∃ b off, x = pt b off
  · obtain ⟨b, off, rfl⟩ := hx
    simp only [load1] at h ⊢
    cases hg : hget H b with
    | none => rw [hg] at h; exact h.elim
    | some m => rw [hget_app hf hg]
  · unfold load1
    split <;> first | rfl | exact absurd ⟨_, _, rfl⟩ hx
theorem loadn_app {x : AV} {c : Nat} (hf : ∀ p ∈ E, fresh H p.1) (h : (loadn H c x).1) : loadn (E ++ H) c x = loadn H c x := by
  by_cases hx : ∃ b off, x = pt b off
  · obtain ⟨b, off, rfl⟩ := hx
    simp only [loadn] at h ⊢
    cases hg : hget H b with
    | none => rw [hg] at h; exact h.elim
    | some m => rw [hget_app hf hg]
  · unfold loadn
    split <;> first | rfl | exact absurd ⟨_, _, rfl⟩ hx
theorem loadv_app {T : TypeId} {x : AV} (hf : ∀ p ∈ E, fresh H p.1) (h : (loadv P H T x).1) : loadv P (E ++ H) T x = loadv P H T x := by
  unfold loadv at h ⊢
  split
  · rename_i ht; rw [ht] at h; exact load1_app hf h
  · rename_i c ht; rw [ht] at h; exact loadn_app hf h
  · rfl
theorem convv_app {s d : TypeId} {x : AV} {r : Prop × AV} (hf : ∀ p ∈ E, fresh H p.1) (h : convv P H s d x = some r) (hr : r.1) : convv P (E ++ H) s d x = some r := by
  by_cases hx : ∃ b off m cap, x = ms b off m cap
  · obtain ⟨b, off, m, cap, rfl⟩ := hx
    cases hd : P.underlying d with
    | none => simp only [convv, hd] at h; cases h
    | some td =>
      cases td <;> simp only [convv, hd] at h ⊢ <;> first | exact h | skip
      cases hg : hget H b with
      | none => rw [hg] at h; cases h; exact hr.elim
      | some mb => rw [hg] at h; rw [hget_app hf hg]; exact h
  · have : convv P (E ++ H) s d x = convv P H s d x := by
      unfold convv
      split
      · rfl
      · split <;> first | rfl | exact absurd ⟨_, _, _, _, rfl⟩ hx
      · rfl
    rw [this]; exact h
theorem pev_app {env : List (Nat × AV)} {op : Op} {r : Prop × AV} (hf : ∀ p ∈ E, fresh H p.1) (h : pev P H env op = some r) (hr : r.1) : pev P (E ++ H) env op = some r := by
  cases op <;> first | exact h | skip
  case slice T x lo hi mx => cases mx <;> exact h
  case load T a =>
    simp only [pev, Option.some.injEq] at h ⊢
    subst h
    unfold one at hr ⊢
    rw [loadv_app hf hr.2]
  case convert s d x =>
    simp only [pev] at h ⊢
    cases hc : convv P H s d (og env x).2 with
    | none => rw [hc] at h; cases h
    | some q =>
      rw [hc] at h
      simp only [Option.map_some, Option.some.injEq] at h
      subst h
      rw [convv_app hf hc hr.2]
      rfl
/-- Steady, whatever blocks of others' there are besides. -/
def StdyE (P : Program) (cx : Cx) (n : Nat) (ops : Array Oper) (o : Oper) (env : List (Nat × AV)) (H : Hp) (x : AV) : Prop :=
  ∀ E : Hp, (∀ p ∈ E, fresh H p.1) → Stdy P cx n ops o env (E ++ H) x
def SeqvE (P : Program) (cx : Cx) (n : Nat) (ops : Array Oper) (H : Hp) (lx : List (Oper × AV)) (env : List (Nat × AV)) : Prop :=
  ∀ i o x, lx[i]? = some (o, x) → StdyE P cx n ops o (envL (fun j => decide (j < i)) lx 0 env) H x
theorem dvc_seqvE {K : St → Prop} : ∀ (l : List Oper) (s : St), dvc P n ops l K s → ∃ xs : List AV, xs.length = l.length ∧ SeqvE P cx n ops s.H (l.zip xs) s.env ∧
    K ⟨envL (fun _ => true) (l.zip xs) 0 s.env, s.H⟩
  | [], s, h => ⟨[], rfl, fun i o x h => by simp at h, h⟩
  | o :: rest, s, ⟨hd, h⟩ => by
    have step : ∀ x, StdyE P cx n ops o s.env s.H x → dvc P n ops rest K (s.put o.dst x) → ∃ xs : List AV, xs.length = (o :: rest).length ∧ SeqvE P cx n ops s.H ((o :: rest).zip xs) s.env ∧
        K ⟨envL (fun _ => true) ((o :: rest).zip xs) 0 s.env, s.H⟩ := by
      intro x hx hr
      obtain ⟨xs, h1, h2, h3⟩ := dvc_seqvE rest _ hr
      rw [put_eq] at h2 h3
      refine ⟨x :: xs, by simp [h1], fun i o' x' hi => ?_, ?_⟩
      · cases i with
        | zero =>
          simp at hi
          obtain ⟨rfl, rfl⟩ := hi
          have : envL (fun j => decide (j < 0)) ((o :: rest).zip (x :: xs)) 0 s.env = s.env := by
            have hno : ∀ (l : List (Oper × AV)) (k : Nat) (env : List (Nat × AV)), envL (fun j => decide (j < 0)) l k env = env := by
              intro l
              induction l with
              | nil => intro k env; rfl
              | cons p r ih => intro k env; obtain ⟨o, x⟩ := p; simp only [envL]; exact ih _ _
            exact hno _ _ _
          rw [this]
          exact hx
        | succ i =>
          have := h2 i o' x' (by simpa using hi)
          simp only [List.zip_cons_cons, envL, Nat.zero_lt_succ, decide_true, if_true, envL_shift]
          simpa using this
      · simp only [List.zip_cons_cons, envL, if_true, envL_shift]
        exact h3
    split at h
    · rename_i hg
      split at h
      · rename_i r hr
        exact step r.2 (fun E hE => stdy_pev hd hg (pev_app hE hr h.1) h.1) h.2
      · split at h
        · rename_i q hq
          obtain ⟨hob, x, h1, h2⟩ := h
          exact step x (fun E hE => stdy_call hd hg (dcall_app (dcall_of (s := s) hq hob h1))) h2
        · exact h.elim
    · rename_i j want hg
      split at h
      · rename_i c hc
        split at h
        · rename_i r hr
          refine step _ (fun E hE => ?_) h.2
          by_cases hct : c = true
          · exact stdy_pevG hd hg hc (pev_app hE hr (h.1 hct)) h.1
          · refine ⟨hd, fun a w X R h1 h2 h3 h4 h5 => ?_⟩
            have ok := ok_renv h1 h2 h3 h4
            rw [wanted_of_gd ok hg (by rw [gdOf_renv hg]; exact hc)]
            rw [if_neg hct]
            have hcf : c = false := by cases c <;> simp_all
            subst hcf
            exact h5 undef w (.gdf _) h3 fun c hc => ⟨hc, rfl⟩
        · split at h
          · rename_i q hq
            obtain ⟨hob, x, h1, h2⟩ := h
            exact step _ (fun E hE => stdy_callG hd hg hc fun hct => dcall_app (dcall_of (s := s) hq (hob hct) (h1 hct))) h2
          · exact h.elim
      · exact h.elim
/-! ### One step, whatever it does to memory -/
theorem dinv_before {lx : List (Oper × AV)} {env : List (Nat × AV)} {listed : Array Bool} {a : Act} {w : World} {i : Nat} {o : Oper} {x : AV} (hD : DrawOk ops lx.length) (hlx : ∀ (j : Nat) o x, lx[j]? = some (o, x) → ops[j]? = some o)
    (inv : DInv cx n ops lx env H listed a w) (hi : i ∈ Region.ready .any ops listed) (hli : lx[i]? = some (o, x)) :
    listed.getD i false = false ∧ i < ops.size ∧ ∀ t, (t ∈ o.looksAt ops ∨ o.dst = some t) → ∀ (j : Nat) oj xj, lx[j]? = some (oj, xj) → oj.dst = some t → j ≠ i → (listed.getD j false = decide (j < i)) := by
  have hoi := hlx i o x hli
  have hun := (mem_ready.1 hi).1
  have hilt : i < ops.size := (Array.getElem?_eq_some_iff.1 hoi).1
  have hun' : listed.getD i false = false := by rw [← getD_bool (by rw [inv.lsize]; exact hilt)]; exact hun
  refine ⟨hun', hilt, ?_⟩
  intro t ht j oj xj hj hd hji
  have hjk : j < lx.length := (List.getElem?_eq_some_iff.1 hj).1
  rcases hD.slot i j o oj t hoi hjk (hlx j oj xj hj) hd ht (Ne.symm hji) with ⟨h1, h2⟩ | ⟨h1, h2⟩
  · rw [ready_waits hi hoi h2]; simp [h1]
  · have : listed.getD j false = false := by
      cases hl : listed.getD j false with
      | false => rfl
      | true => have := inv.closed j oj (hlx j oj xj hj) hl i h2; rw [hun'] at this; cases this
    rw [this]; simp; omega
theorem dinv_look {lx : List (Oper × AV)} {env : List (Nat × AV)} {listed : Array Bool} {a : Act} {w : World} {i : Nat} {o : Oper} {x : AV} (hD : DrawOk ops lx.length) (hlx : ∀ (j : Nat) o x, lx[j]? = some (o, x) → ops[j]? = some o)
    (inv : DInv cx n ops lx env H listed a w) (hi : i ∈ Region.ready .any ops listed) (hli : lx[i]? = some (o, x)) :
    ∀ t ∈ o.looksAt ops, look (envL (fun j => listed.getD j false) lx 0 env) t = look (envL (fun j => decide (j < i)) lx 0 env) t := by
  obtain ⟨hun', hilt, hbefore⟩ := dinv_before hD hlx inv hi hli
  intro t ht
  refine envL_congr lx 0 env env rfl fun j oj xj hj hd => ?_
  rw [Nat.zero_add]
  by_cases hji : j = i
  · subst hji; rw [hun']; simp
  · exact hbefore t (.inl ht) j oj xj hj hd hji
theorem dinv_put {lx : List (Oper × AV)} {env : List (Nat × AV)} {H' : Hp} {listed : Array Bool} {a : Act} {w w' : World} {i : Nat} {o : Oper} {x : AV} {v : Value} (hD : DrawOk ops lx.length) (hlx : ∀ (j : Nat) o x, lx[j]? = some (o, x) → ops[j]? = some o)
    (inv : DInv cx n ops lx env H listed a w) (hi : i ∈ Region.ready .any ops listed) (hli : lx[i]? = some (o, x)) (hdst : okd n o.dst)
    (hv : Rep w' (imm cx w' H') v x) (hw' : OkW cx H' w') (hI : ∀ c, imm cx w H c → imm cx w' H' c ∧ w'.heap[c]? = w.heap[c]?) :
    DInv cx n ops lx env H' (listed.setIfInBounds i true) (a.put o.dst v) w' := by
  obtain ⟨hun', hilt, hbefore⟩ := dinv_before hD hlx inv hi hli
  have hik : i < lx.length := (List.getElem?_eq_some_iff.1 hli).1
  have hset : ∀ j, (listed.setIfInBounds i true).getD j false = if j = i then true else listed.getD j false := by
    intro j
    by_cases hji : j = i
    · subst hji
      have : j < listed.size := by rw [inv.lsize]; exact hilt
      simp [this]
    · rw [if_neg hji, getD_set_ne false (Ne.symm hji)]
  refine ⟨by simp [inv.lsize], closed_set inv.closed hi, fun t ht ht' => by rw [getD_set_ne true (by omega)]; exact inv.tail t ht ht', ?_⟩
  refine ⟨by cases o.dst <;> exact inv.ok.defers, by cases o.dst <;> simp [Act.put, inv.ok.size], fun t => ?_, hw'⟩
  have hold := (inv.ok.reps t).mono hI
  by_cases hd : o.dst = some t
  · have e1 : look (envL (fun j => (listed.setIfInBounds i true).getD j false) lx 0 env) t = x := by
      rw [← envL_at lx 0 i env o x hli hd]
      refine envL_congr lx 0 env env rfl fun j oj xj hj hdj => ?_
      rw [Nat.zero_add, hset]
      by_cases hji : j = i
      · subst hji; simp
      · rw [if_neg hji, hbefore t (.inr hd) j oj xj hj hdj hji]
        rw [Bool.eq_iff_iff]; simp; omega
    show Rep w' (imm cx w' H') _ (look (envL _ lx 0 env) t)
    rw [e1, hd]
    have : t < a.tmps.size := by rw [inv.ok.size]; rw [hd] at hdst; exact hdst
    simpa [Act.put, this] using hv
  · have e1 : look (envL (fun j => (listed.setIfInBounds i true).getD j false) lx 0 env) t = look (envL (fun j => listed.getD j false) lx 0 env) t := by
      refine envL_congr lx 0 env env rfl fun j oj xj hj hdj => ?_
      rw [Nat.zero_add, hset]
      by_cases hji : j = i
      · subst hji
        rw [hli] at hj
        cases hj
        exact absurd hdj hd
      · rw [if_neg hji]
    show Rep w' (imm cx w' H') _ (look (envL _ lx 0 env) t)
    rw [e1]
    have e2 : (a.put o.dst v).tmps.getD t undef = a.tmps.getD t undef := by
      cases hdd : o.dst with
      | none => rfl
      | some d =>
        have : d ≠ t := fun h => hd (by rw [hdd, h])
        simp [Act.put, Array.getElem?_setIfInBounds_ne this]
    rw [e2]
    exact hold
theorem dinv_stepS {lx : List (Oper × AV)} {env : List (Nat × AV)} {listed : Array Bool} {a : Act} {w : World} {i : Nat} {o : Oper} {x : AV} (hD : DrawOk ops lx.length) (hlx : ∀ (j : Nat) o x, lx[j]? = some (o, x) → ops[j]? = some o)
    (hli : lx[i]? = some (o, x)) (hS : Stdy P cx n ops o (envL (fun j => decide (j < i)) lx 0 env) H x) (inv : DInv cx n ops lx env H listed a w) (hi : i ∈ Region.ready .any ops listed) {R : Exit → Act → World → Prop} {X : Act → World → Prop}
    (hX : ∀ v w', DInv cx n ops lx env H (listed.setIfInBounds i true) (a.put o.dst v) w' → X (a.put o.dst v) w') : wpOp P ops R i X a w := by
  obtain ⟨hdst, hst⟩ := hS
  have hlook := dinv_look hD hlx inv hi hli
  unfold wpOp
  rw [hlx i o x hli]
  simp only
  have := hst a w X R inv.ok.defers inv.ok.size inv.ok.world (fun t ht => by rw [← hlook t ht]; exact inv.ok.reps t) (fun v w' hv hw' hI => hX v w' (dinv_put hD hlx inv hi hli hdst hv hw' hI))
  have hput : a.put o.dst undef = a.put o.dst undef := rfl
  split
  · rename_i hw; rw [if_pos hw] at this; exact .inl this
  · rename_i hw; rw [if_neg hw] at this; exact this
theorem head_any' {k : Nat} {R : Exit → Act → World → Prop} {Inv : Array Bool → Act → World → Prop} (hD : DrawOk ops k) (hcl : ∀ listed a w, Inv listed a w → Closed ops listed) (hsz : ∀ listed a w, Inv listed a w → listed.size = ops.size)
    (hstep : ∀ listed a w i (X : Act → World → Prop), Inv listed a w → i ∈ Region.ready .any ops listed → i < k → (∀ a' w', Inv (listed.setIfInBounds i true) a' w' → X a' w') → wpOp P ops R i X a w) {g : Nat}
    (hfin : ∀ listed a w, Inv listed a w → (∀ j, j < k → listed.getD j false = true) → wpAny P .any ops R g listed a w) :
    ∀ (u : Nat) (listed : Array Bool) (a : Act) (w : World), ((List.range k).filter fun i => !listed.getD i false).length = u → Inv listed a w → wpAny P .any ops R (u + g) listed a w
  | 0, listed, a, w, hu, inv => by
    rw [Nat.zero_add]
    refine hfin listed a w inv fun j hj => ?_
    have := List.eq_nil_of_length_eq_zero hu
    rw [List.filter_eq_nil_iff] at this
    simpa using this j (List.mem_range.2 hj)
  | u + 1, listed, a, w, hu, inv => by
    have hls := hsz _ _ _ inv
    rw [show u + 1 + g = (u + g) + 1 by omega]
    obtain ⟨m, hm1, hm2⟩ : ∃ m, m < k ∧ listed.getD m false = false := by
      cases hf : ((List.range k).filter fun i => !listed.getD i false) with
      | nil => rw [hf] at hu; cases hu
      | cons m r =>
        have : m ∈ (List.range k).filter fun i => !listed.getD i false := by rw [hf]; exact List.mem_cons_self ..
        rw [List.mem_filter] at this
        exact ⟨m, List.mem_range.1 this.1, by simpa using this.2⟩
    obtain ⟨i0, h1, h2, h3⟩ := least (p := fun i => listed.getD i false) hm2
    have hi0 : i0 < ops.size := by have := hD.le; omega
    have hready0 : i0 ∈ Region.ready .any ops listed := by
      refine mem_ready.2 ⟨by rw [getD_bool (by rw [hls]; exact hi0)]; exact h2, ops[i0], Array.getElem?_eq_getElem hi0, fun e he hb => h3 _ (hD.back i0 _ (Array.getElem?_eq_getElem hi0) e he hb)⟩
    refine ⟨fun h => (by rw [h] at hready0; cases hready0), fun i hi => ?_⟩
    obtain ⟨hun, oi, hoi, _⟩ := mem_ready.1 hi
    have hilt : i < ops.size := (Array.getElem?_eq_some_iff.1 hoi).1
    have hik : i < k := by
      rcases Nat.lt_or_ge i k with h | h
      · exact h
      · have := hD.tail i oi hoi h m (by omega) listed (hcl _ _ _ inv) hi
        rw [hm2] at this
        cases this
    have hun' : listed.getD i false = false := by rw [← getD_bool (by rw [hls]; exact hilt)]; exact hun
    refine hstep listed a w i _ inv hi hik fun a' w' inv' => head_any' hD hcl hsz hstep hfin u _ a' w' ?_ inv'
    have hcount : ∀ (l : List Nat), l.Nodup → i ∈ l → (l.filter fun j => !listed.getD j false).length = ((l.filter fun j => !(listed.setIfInBounds i true).getD j false).length) + 1 := by
      intro l
      induction l with
      | nil => intro _ h; cases h
      | cons c r ih =>
        intro hn hmem
        simp only [List.nodup_cons] at hn
        by_cases hci : c = i
        · subst hci
          have hset : (listed.setIfInBounds c true).getD c false = true := by
            have : c < listed.size := by rw [hls]; exact hilt
            simp [this]
          have hrest : (r.filter fun j => !listed.getD j false) = r.filter fun j => !(listed.setIfInBounds c true).getD j false := by
            refine List.filter_congr fun j hj => ?_
            have : j ≠ c := fun h => hn.1 (h ▸ hj)
            rw [getD_set_ne false (Ne.symm this)]
          rw [List.filter_cons, List.filter_cons, hun', hset, hrest]
          simp
        · have hmem' : i ∈ r := by rcases List.mem_cons.1 hmem with h | h; exact absurd h.symm hci; exact h
          have := ih hn.2 hmem'
          rw [List.filter_cons, List.filter_cons, getD_set_ne false (Ne.symm hci)]
          split
          · simp only [List.length_cons]; omega
          · exact this
    have := hcount (List.range k) List.nodup_range (List.mem_range.2 hik)
    omega
/-! ### The private block -/
theorem envL_append {f : Nat → Bool} : ∀ (l1 l2 : List (Oper × AV)) (k : Nat) (env : List (Nat × AV)), envL f (l1 ++ l2) k env = envL f l2 (k + l1.length) (envL f l1 k env)
  | [], l2, k, env => by simp [envL]
  | (o, x) :: r, l2, k, env => by
    simp only [List.cons_append, envL, List.length_cons]
    rw [envL_append r l2 (k + 1)]
    congr 1
    omega
theorem fresh_one {b : Nat} {m : MB} (h : fresh H b) : ∀ p ∈ [(b, m)], fresh H p.1 := by
  intro p hp
  simp at hp
  subst hp
  exact h
/-- The head of the region, as a formula: first what only computes; the block is made; more that computes; the block is filled; what computes behind; then the tail. -/
def drawF (P : Program) (n : Nat) (l : List Oper) (K : St → Prop) (ia is k : Nat) (s : St) : Prop :=
  dvc P n l.toArray (l.take ia) (fun s1 => match l.drop ia with
    | ⟨some t, .alloc T, _, _, _, none⟩ :: r => match zmb P T with
      | some m0 => t < n ∧ dvc P n l.toArray (r.take (is - ia - 1)) (fun s2 => match r.drop (is - ia - 1) with
        | ⟨none, .store T' (.tmp t') y, _, _, _, none⟩ :: q => t' = t ∧ (og s2.env y).1 ∧ (stC P T' m0 0 (og s2.env y).2).1 ∧ dvc P n l.toArray (q.take (k - is - 1)) (fun s3 =>
            newB s3.H (stC P T' m0 0 (og s2.env y).2).2 fun b H => rvc P n l.toArray (q.drop (k - is - 1)) K ⟨(t, pt b 0) :: s3.env, H⟩) s2
        | _ => False) ⟨(t, .any) :: s1.env, s1.H⟩
      | none => False
    | _ => False) s
theorem envL_ext {f g : Nat → Bool} : ∀ (l : List (Oper × AV)) (k : Nat) (env : List (Nat × AV)), (∀ j, k ≤ j → j < k + l.length → f j = g j) → envL f l k env = envL g l k env
  | [], _, _, _ => rfl
  | (o, x) :: r, k, env, h => by
    simp only [envL]
    rw [h k (Nat.le_refl _) (by simp)]
    exact envL_ext r (k + 1) _ fun j h1 h2 => h j (by omega) (by simp; omega)
theorem envL_none {f : Nat → Bool} : ∀ (l : List (Oper × AV)) (k : Nat) (env : List (Nat × AV)), (∀ j, k ≤ j → f j = false) → envL f l k env = env
  | [], _, _, _ => rfl
  | (o, x) :: r, k, env, h => by
    simp only [envL]
    rw [h k (Nat.le_refl _)]
    simp only [Bool.false_eq_true, if_false]
    exact envL_none r (k + 1) env fun j hj => h j (by omega)
theorem envL_shiftk {f : Nat → Bool} (c : Nat) : ∀ (l : List (Oper × AV)) (k : Nat) (env : List (Nat × AV)), envL f l (c + k) env = envL (fun j => f (c + j)) l k env
  | [], _, _ => rfl
  | (o, x) :: r, k, env => by simp only [envL]; exact envL_shiftk c r (k + 1) _
def SeqG (C : Nat → Oper → AV → List (Nat × AV) → Prop) (lx : List (Oper × AV)) (env : List (Nat × AV)) : Prop :=
  ∀ i o x, lx[i]? = some (o, x) → C i o x (envL (fun j => decide (j < i)) lx 0 env)
theorem SeqG.app {C : Nat → Oper → AV → List (Nat × AV) → Prop} {A B : List (Oper × AV)} {env : List (Nat × AV)} (hA : SeqG C A env) (hB : SeqG (fun i => C (A.length + i)) B (envL (fun _ => true) A 0 env)) : SeqG C (A ++ B) env := by
  intro i o x hi
  rw [envL_append]
  by_cases hlt : i < A.length
  · rw [List.getElem?_append_left hlt] at hi
    rw [envL_none B _ _ (fun j hj => by simp; omega)]
    exact hA i o x hi
  · rw [List.getElem?_append_right (by omega)] at hi
    have := hB (i - A.length) o x hi
    dsimp only at this
    rw [show A.length + (i - A.length) = i by omega] at this
    have e1 : envL (fun j => decide (j < i)) A 0 env = envL (fun _ => true) A 0 env := envL_ext A 0 env fun j _ hj => by simp; omega
    rw [e1, Nat.zero_add, show A.length = A.length + 0 from rfl, envL_shiftk A.length B 0]
    have e2 : envL (fun j => decide (A.length + j < i)) B 0 (envL (fun _ => true) A 0 env) = envL (fun j => decide (j < i - A.length)) B 0 (envL (fun _ => true) A 0 env) :=
      envL_ext B 0 _ fun j _ _ => by rw [Bool.eq_iff_iff]; simp; omega
    rw [e2]
    exact this
theorem SeqG.one {C : Nat → Oper → AV → List (Nat × AV) → Prop} {o : Oper} {x : AV} {env : List (Nat × AV)} (h : C 0 o x env) : SeqG C [(o, x)] env := by
  intro i o' x' hi
  cases i with
  | zero => simp at hi; obtain ⟨rfl, rfl⟩ := hi; simpa [envL] using h
  | succ i => simp at hi
end
end Go.Proofs.YtocfaghflhgeeaaDoor
namespace Go.Proofs.YtocfaghflhgeeaaDoor
open Go
set_option linter.unusedVariables false
/-- A function without a body, of plain values. -/
theorem ACt.outer {P : Program} {f : FuncId} {fn : Func} {e : Array Value → Sem Value} {ls : List Value} {x : AV} (hf : P.funcs[f]? = some fn) (hname : (fn.name == "runtime.NumGoroutine") = false)
    (hb : fn.body.isNone = true) (hn : Extern.findNext fn = none) (he : Extern.find fn = some e)
    (hr : ∀ w : World, ∃ v, (e ls.toArray).run P w = .ok v w ∧ ∀ I, Rep w I v x) : ACt P f (ls.map .lit) [] (Fn x) := by
  intro cx vs hK hw hs hv
  have hvs : vs = ls.toArray := by
    apply Array.ext
    · simpa using hs
    · intro i h1 h2
      have h3 : i < ls.length := by simpa using h2
      have := hv i (by simpa using h3)
      have e1 : (ls.map AV.lit).getD i .any = .lit ls[i] := by simp [List.getD, h3]
      have e2 : vs.getD i undef = vs[i] := by simp [h1]
      rw [e1, e2] at this
      simpa using this.lit_inv
  obtain ⟨v, h1, h2⟩ := hr cx.w0
  refine .inr ⟨v, cx.w0, ?_, v, x, [], rfl, ⟨rfl, rfl⟩, hw, h2 _⟩
  rw [run_callFunc_extern hf hname hb hn he, hvs, h1, Result.andThen_ok]
def ndF : Hp → Prop
  | [] => True
  | (b, _) :: r => fresh r b ∧ ndF r
theorem ndF_of : ∀ {H : Hp}, (H.map (·.1)).Nodup → ndF H
  | [], _ => trivial
  | (b, m) :: r, h => by
    simp only [List.map_cons, List.nodup_cons] at h
    refine ⟨fun x hx => ?_, ndF_of h.2⟩
    have : x.1 ≠ b := fun he => h.1 (he ▸ List.mem_map_of_mem hx)
    exact ⟨this, fun he => this he.symm⟩
theorem WP.nd {P : Program} {cx : Cx} {n : Nat} {c : Code} {Q : Exit → St → Prop} {s : St} (h : ndF s.H → WP P cx n c Q s) : WP P cx n c Q s := fun a w ok => h (ndF_of ok.world.nodup) a w ok
end Go.Proofs.YtocfaghflhgeeaaDoor
namespace Go.Proofs.YtocfaghflhgeeaaDoor
open Go
theorem tyc0 : tyc Tryd.prog 0 = some none := by kernel_rfl
theorem tyc2 : tyc Tryd.prog 2 = some none := by kernel_rfl
theorem zmb2 : zmb Tryd.prog 2 = some (.cells [(.lit (.int .i64 0))] 1 2) := by kernel_rfl
theorem tyc3 : tyc Tryd.prog 3 = some none := by kernel_rfl
theorem zmb3 : zmb Tryd.prog 3 = some (.cells [(.lit (.int .i64 0))] 1 3) := by kernel_rfl
theorem tyc4 : tyc Tryd.prog 4 = some none := by kernel_rfl
theorem zmb4 : zmb Tryd.prog 4 = some (.cells [(.lit (.bool false))] 1 4) := by kernel_rfl
theorem tyc5 : tyc Tryd.prog 5 = some none := by kernel_rfl
theorem zmb5 : zmb Tryd.prog 5 = some (.cells [(.lit (.int .u8 0))] 1 5) := by kernel_rfl
theorem tyc9 : tyc Tryd.prog 9 = some none := by kernel_rfl
theorem zmb9 : zmb Tryd.prog 9 = some (.cells [(.lit (.string ⟨#[]⟩))] 1 9) := by kernel_rfl
theorem tyc21 : tyc Tryd.prog 21 = some none := by kernel_rfl
theorem zmb21 : zmb Tryd.prog 21 = some (.cells [(.lit (.int .i32 0))] 1 21) := by kernel_rfl
theorem tyc22 : tyc Tryd.prog 22 = some none := by kernel_rfl
theorem zmb22 : zmb Tryd.prog 22 = some (.cells [(.lit (.int .u64 0))] 1 22) := by kernel_rfl
theorem tyc23 : tyc Tryd.prog 23 = some none := by kernel_rfl
theorem zmb23 : zmb Tryd.prog 23 = some (.cells [(.lit (.int .u32 0))] 1 23) := by kernel_rfl
theorem tyc26 : tyc Tryd.prog 26 = some (some 2) := by kernel_rfl
theorem foff26_0 : foff Tryd.prog 26 0 = some 0 := by kernel_rfl
theorem fpart26_0 : fpart Tryd.prog 26 0 = some (0, none) := by kernel_rfl
theorem foff26_1 : foff Tryd.prog 26 1 = some 1 := by kernel_rfl
theorem fpart26_1 : fpart Tryd.prog 26 1 = some (1, none) := by kernel_rfl
theorem fe26 : flatEq Tryd.prog 26 [1, 1] := flatEq_of (by kernel_rfl)
theorem zmb26 : zmb Tryd.prog 26 = some (.cells [(.lit (.int .u64 0)), (.lit (.int .u64 0))] 2 26) := by kernel_rfl
theorem bldT26 : bldT Tryd.prog 26 = some ([(.int .u64 0), (.int .u64 0)], [(0, 1), (1, 1)]) := by kernel_rfl
theorem tyc27 : tyc Tryd.prog 27 = some none := by kernel_rfl
theorem zmb27 : zmb Tryd.prog 27 = some (.cells [(.lit (.int .i64 0))] 1 27) := by kernel_rfl
theorem tyc28 : tyc Tryd.prog 28 = some none := by kernel_rfl
theorem tyc32 : tyc Tryd.prog 32 = some none := by kernel_rfl
theorem elt32 : elt Tryd.prog 32 = some (none, 1) := by kernel_rfl
theorem mkz32 : mkz Tryd.prog 32 = none := by kernel_rfl
theorem mkc32 : mkc Tryd.prog 32 = some (4, 1, 1, [(.lit (.bool false))]) := by kernel_rfl
theorem apT32 : apT Tryd.prog 32 = some (4, 1, 1) := by kernel_rfl
theorem elk32 : elk Tryd.prog 32 = none := by kernel_rfl
theorem zmb32 : zmb Tryd.prog 32 = some (.cells [(.lit (.slice none 0 0))] 1 32) := by kernel_rfl
theorem tyc34 : tyc Tryd.prog 34 = some none := by kernel_rfl
theorem tyc39 : tyc Tryd.prog 39 = some none := by kernel_rfl
theorem tyc42 : tyc Tryd.prog 42 = some none := by kernel_rfl
theorem tyc50 : tyc Tryd.prog 50 = some none := by kernel_rfl
theorem tyc52 : tyc Tryd.prog 52 = some none := by kernel_rfl
theorem zmb52 : zmb Tryd.prog 52 = some (.cells [(.lit (.int .u64 0))] 1 52) := by kernel_rfl
theorem tyc56 : tyc Tryd.prog 56 = some none := by kernel_rfl
theorem tyc58 : tyc Tryd.prog 58 = some none := by kernel_rfl
theorem tyc60 : tyc Tryd.prog 60 = some none := by kernel_rfl
theorem tyc65 : tyc Tryd.prog 65 = some none := by kernel_rfl
theorem elt65 : elt Tryd.prog 65 = some (none, 1) := by kernel_rfl
theorem mkz65 : mkz Tryd.prog 65 = some (5, 1, .u8) := by kernel_rfl
theorem apT65 : apT Tryd.prog 65 = some (5, 1, 1) := by kernel_rfl
theorem elk65 : elk Tryd.prog 65 = (some .u8) := by kernel_rfl
theorem zmb65 : zmb Tryd.prog 65 = some (.cells [(.lit (.slice none 0 0))] 1 65) := by kernel_rfl
theorem tyc66 : tyc Tryd.prog 66 = some none := by kernel_rfl
theorem elt71 : elt Tryd.prog 71 = some ((some 256), 1) := by kernel_rfl
theorem arr171 : arr1 Tryd.prog 71 = some 256 := by kernel_rfl
theorem tyc72 : tyc Tryd.prog 72 = some none := by kernel_rfl
theorem tyc75 : tyc Tryd.prog 75 = some none := by kernel_rfl
theorem zmb75 : zmb Tryd.prog 75 = some (.cells [(.lit (.pointer none))] 1 75) := by kernel_rfl
theorem tyc86 : tyc Tryd.prog 86 = some (some 24) := by kernel_rfl
theorem elt86 : elt Tryd.prog 86 = some ((some 24), 1) := by kernel_rfl
theorem arr186 : arr1 Tryd.prog 86 = some 24 := by kernel_rfl
theorem zmb86 : zmb Tryd.prog 86 = some (.zs .u8 [0, 0, 0, 0, 0, 0, 0, 0, 0, 0, 0, 0, 0, 0, 0, 0, 0, 0, 0, 0, 0, 0, 0, 0] 24 86) := by kernel_rfl
theorem bldT86 : bldT Tryd.prog 86 = some ([(.int .u8 0), (.int .u8 0), (.int .u8 0), (.int .u8 0), (.int .u8 0), (.int .u8 0), (.int .u8 0), (.int .u8 0), (.int .u8 0), (.int .u8 0), (.int .u8 0), (.int .u8 0), (.int .u8 0), (.int .u8 0), (.int .u8 0), (.int .u8 0), (.int .u8 0), (.int .u8 0), (.int .u8 0), (.int .u8 0), (.int .u8 0), (.int .u8 0), (.int .u8 0), (.int .u8 0)], [(0, 1), (1, 1), (2, 1), (3, 1), (4, 1), (5, 1), (6, 1), (7, 1), (8, 1), (9, 1), (10, 1), (11, 1), (12, 1), (13, 1), (14, 1), (15, 1), (16, 1), (17, 1), (18, 1), (19, 1), (20, 1), (21, 1), (22, 1), (23, 1)]) := by kernel_rfl
theorem tyc88 : tyc Tryd.prog 88 = some none := by kernel_rfl
theorem tyc94 : tyc Tryd.prog 94 = some (some 20) := by kernel_rfl
theorem elt94 : elt Tryd.prog 94 = some ((some 20), 1) := by kernel_rfl
theorem arr194 : arr1 Tryd.prog 94 = some 20 := by kernel_rfl
theorem zmb94 : zmb Tryd.prog 94 = some (.zs .u64 [0, 0, 0, 0, 0, 0, 0, 0, 0, 0, 0, 0, 0, 0, 0, 0, 0, 0, 0, 0] 20 94) := by kernel_rfl
theorem bldT94 : bldT Tryd.prog 94 = some ([(.int .u64 0), (.int .u64 0), (.int .u64 0), (.int .u64 0), (.int .u64 0), (.int .u64 0), (.int .u64 0), (.int .u64 0), (.int .u64 0), (.int .u64 0), (.int .u64 0), (.int .u64 0), (.int .u64 0), (.int .u64 0), (.int .u64 0), (.int .u64 0), (.int .u64 0), (.int .u64 0), (.int .u64 0), (.int .u64 0)], [(0, 1), (1, 1), (2, 1), (3, 1), (4, 1), (5, 1), (6, 1), (7, 1), (8, 1), (9, 1), (10, 1), (11, 1), (12, 1), (13, 1), (14, 1), (15, 1), (16, 1), (17, 1), (18, 1), (19, 1)]) := by kernel_rfl
theorem mixed : Tryd.prog.follows .mixedOrders = true := by kernel_rfl
end Go.Proofs.YtocfaghflhgeeaaDoor
namespace Go.Proofs.YtocfaghflhgeeaaDoor
open Go
set_option linter.unusedVariables false
set_option linter.unusedSimpArgs false
section
variable {P : Program} {cx : Cx} {n : Nat} {ops : Array Oper} {H : Hp}
theorem Ok.permH {env : List (Nat × AV)} {H H' : Hp} {a : Act} {w : World} (hp : H.Perm H') (ok : Ok cx n ⟨env, H⟩ a w) : Ok cx n ⟨env, H'⟩ a w :=
  ⟨ok.defers, ok.size, fun t => (ok.reps t).mono fun b hb => ⟨(imm_perm hp).1 hb, rfl⟩, ok.world.perm hp⟩
end
end Go.Proofs.YtocfaghflhgeeaaDoor
namespace Go.Proofs.YtocfaghflhgeeaaDoor
open Go
set_option linter.unusedSimpArgs false
set_option linter.unusedVariables false
section
variable {P : Program} {cx : Cx} {n : Nat} {ops : Array Oper} {H : Hp}
/-- The block that is written: where in the list, which, where in it, what is in it ahead and behind. -/
structure QB where
  is : Nat
  b : Nat
  off : Nat
  m0 : MB
  m1 : MB
def SeqS (P : Program) (cx : Cx) (n : Nat) (ops : Array Oper) (H : Hp) (lx : List (Oper × AV)) (env : List (Nat × AV)) (q : QB) : Prop :=
  SeqG (fun i o x env => if i = q.is then o.guard = none ∧ x = .any ∧ o.dst = none ∧ ∃ T a y, o.op = .store T a y ∧ (og env a).1 ∧ (og env a).2 = pt q.b q.off ∧ (og env y).1 ∧
      (stC P T q.m0 q.off (og env y).2).1 ∧ (stC P T q.m0 q.off (og env y).2).2 = q.m1
    else StdyE P cx n ops o env H x) lx env
structure DInvS (cx : Cx) (n : Nat) (ops : Array Oper) (lx : List (Oper × AV)) (env : List (Nat × AV)) (H : Hp) (q : QB) (listed : Array Bool) (a : Act) (w : World) : Prop where
  lsize : listed.size = ops.size
  inv : DInv cx n ops lx env ((q.b, if listed.getD q.is false then q.m1 else q.m0) :: H) listed a w
theorem dinvS_step {lx : List (Oper × AV)} {env : List (Nat × AV)} {q : QB} {listed : Array Bool} {a : Act} {w : World} {i : Nat} (hD : DrawOk ops lx.length) (hlx : ∀ (j : Nat) o x, lx[j]? = some (o, x) → ops[j]? = some o)
    (hS : SeqS P cx n ops H lx env q) (hfr : fresh H q.b)
    (inv : DInvS cx n ops lx env H q listed a w) (hi : i ∈ Region.ready .any ops listed) (hik : i < lx.length) {R : Exit → Act → World → Prop} {X : Act → World → Prop}
    (hX : ∀ a' w', DInvS cx n ops lx env H q (listed.setIfInBounds i true) a' w' → X a' w') : wpOp P ops R i X a w := by
  obtain ⟨⟨o, x⟩, hp⟩ : ∃ p, lx[i] = p := ⟨_, rfl⟩
  have hli : lx[i]? = some (o, x) := by rw [List.getElem?_eq_getElem hik, hp]
  have hoi := hlx i o x hli
  have hSi := hS i o x hli
  have hilt : i < ops.size := (Array.getElem?_eq_some_iff.1 hoi).1
  have hset : ∀ j, (listed.setIfInBounds i true).getD j false = if j = i then true else listed.getD j false := by
    intro j
    by_cases hji : j = i
    · subst hji
      have : j < listed.size := by rw [inv.lsize]; exact hilt
      simp [this]
    · rw [if_neg hji, getD_set_ne false (Ne.symm hji)]
  have hls : (listed.setIfInBounds i true).size = ops.size := by simp [inv.lsize]
  have hinv := inv.inv
  by_cases his : i = q.is
  · try dsimp only at hSi
    rw [if_pos his] at hSi
    obtain ⟨hg, rfl, hdn, T, ad, y, hop, ha1, ha2, hy1, hy2, hy3⟩ := hSi
    have hun : listed.getD q.is false = false := by
      have := (mem_ready.1 hi).1
      rw [getD_bool (by rw [inv.lsize]; exact hilt), his] at this
      exact this
    rw [hun] at hinv
    simp only [Bool.false_eq_true, if_false] at hinv
    have hlook := dinv_look hD hlx hinv hi hli
    have hoeq : ∀ z ∈ o.op.operands, og (envL (fun j => listed.getD j false) lx 0 env) z = og (envL (fun j => decide (j < i)) lx 0 env) z := by
      intro z hz
      refine og_congr (opd_congr fun t ht => ?_)
      subst ht
      exact hlook t (by unfold Oper.looksAt; exact List.mem_append_left _ (List.mem_filterMap.2 ⟨Operand.tmp t, by simpa using hz, rfl⟩))
    have ea := hoeq ad (by rw [hop]; simp [Op.operands])
    have ey := hoeq y (by rw [hop]; simp [Op.operands])
    have hrep := hinv.ok.og (x := y) (by simp only; rw [ey]; exact hy1)
    simp only [ey] at hrep
    have hra := hinv.ok.og (x := ad) (by simp only; rw [ea]; exact ha1)
    simp only [ea, ha2] at hra
    have he := hra.lit_inv
    obtain ⟨w', r1, r2, r3⟩ := run_store_of (P := P) (H := (q.b, q.m0) :: H) hinv.ok.world (b := q.b) (off := q.off) (m := q.m0) (by simp [hget]) hrep hy2
    rw [hy3] at r2 r3
    simp only [hset, Proofs.YtocfaghflhgeeaaDoor.hset, if_true] at r2 r3
    have hrun : (execOp a.eval o).run P w = .ok .skip w' := by
      simp only [execOp, hop, Sem.run_bind, he, r1, Result.andThen_ok, Sem.run_pure]
    unfold wpOp
    rw [hoi]
    simp only
    rw [if_pos (by simp [Region.wanted, hg])]
    refine .inl ?_
    unfold Oper.wp
    rw [hrun]
    have hd := dinv_put (v := undef) hD hlx hinv hi hli (by rw [hdn]; trivial) (.any _) r2 r3
    have hXX : X (a.put o.dst undef) w' := by
      refine hX _ _ ⟨hls, ?_⟩
      have hiss : (listed.setIfInBounds i true).getD q.is false = true := by rw [hset, if_pos his.symm]
      rw [hiss, if_pos rfl]
      exact hd
    exact hXX
  · try dsimp only at hSi
    rw [if_neg his] at hSi
    refine dinv_stepS hD hlx hli (hSi _ (fresh_one hfr)) hinv hi fun v w' hd => hX _ _ ⟨hls, ?_⟩
    have e : (listed.setIfInBounds i true).getD q.is false = listed.getD q.is false := by rw [hset, if_neg (fun h => his h.symm)]
    rw [e]; exact hd
end
end Go.Proofs.YtocfaghflhgeeaaDoor
namespace Go.Proofs.YtocfaghflhgeeaaDoor
open Go
set_option linter.unusedSimpArgs false
set_option linter.unusedVariables false
section
variable {P : Program} {f : FuncId} {args : List AV} {H F F0 R : Hp} {post : AV → Hp → Prop}
theorem DCt.upd {b : Nat} {m : MB} {x : AV} (hg : hget H b = some m) (h : ACt P f args [(b, m)] (fun r F' => r = x ∧ F' = [(b, m)])) : DCt P f args H x :=
  ⟨[(b, m)], hdel H b, _, hget_perm hg, h, fun r F' hr _ => by obtain ⟨e1, e2⟩ := hr; subst e1 e2; exact ⟨rfl, (hget_perm hg).symm⟩⟩
theorem perm1 {b : Nat} {m : MB} (h : hget H b = some m) : H.Perm ([(b, m)] ++ hdel H b) := hget_perm h
theorem DCt.updN {x : AV} (hP : H.Perm (F ++ R)) (h : ACt P f args F (fun r F' => r = x ∧ F' = F)) : DCt P f args H x :=
  ⟨F, R, _, hP, h, fun r F' hr _ => by obtain ⟨e1, e2⟩ := hr; subst e1 e2; exact ⟨rfl, hP.symm⟩⟩
theorem CallV.updN {x : AV} (hP : H.Perm (F ++ R)) (h : ACt P f args F (fun r F' => r = x ∧ F' = F0)) (hp : post x (F0 ++ R)) : CallV P f args H post :=
  ⟨F, R, _, hP, h, fun r F' hr _ => by obtain ⟨e1, e2⟩ := hr; subst e1 e2; exact hp⟩
/-- A call that may leave things in one of many ways. -/
theorem CallV.ex {Γ : Type} {x : Γ → AV} {m : Γ → Hp} (hP : H.Perm (F ++ R)) (h : ACt P f args F (fun r F' => ∃ g, r = x g ∧ F' = m g)) (hp : ∀ g, post (x g) (m g ++ R)) : CallV P f args H post :=
  ⟨F, R, _, hP, h, fun r F' hr _ => by obtain ⟨g, e1, e2⟩ := hr; subst e1 e2; exact hp g⟩
theorem ExF.up {K : AV → Prop} {x : AV} (hP : ∃ R, H.Perm (F ++ R)) (h : ACt P f args F (fun r F' => r = x ∧ F' = F)) (hk : K x) : ExF P f args H K := let ⟨_, hP⟩ := hP; ExF.on (DCt.updN hP h) hk
theorem ExG.up {c : Bool} {K : AV → Prop} {x : AV} (hP : ∃ R, H.Perm (F ++ R)) (h : c = true → ACt P f args F (fun r F' => r = x ∧ F' = F)) (hk : K x) : ExG c P f args H K := let ⟨_, hP⟩ := hP; ExG.on (fun hc => DCt.updN hP (h hc)) hk
theorem ExG.upJ {c : Bool} {K : AV → Prop} {x : AV} {q : Prop} (hP : ∃ R, H.Perm (F ++ R)) (h : c = true → ACt P f args F (fun r F' => r = x ∧ F' = F)) (hk : K x) : ExG c P f args H K ∨ q := .inl (ExG.up hP h hk)
theorem ExG.upI {c : Bool} {K : AV → Prop} {x : AV} {q ob : Prop} (hP : ∃ R, H.Perm (F ++ R)) (h : c = true → ACt P f args F (fun r F' => r = x ∧ F' = F)) (ho : ob) (hk : K x) : (ob ∧ ExG c P f args H K) ∨ q := .inl ⟨ho, ExG.up hP h hk⟩
/-- The same with the contract ahead: another function's contract is told apart at once. -/
theorem CallV.updM {f : FuncId} {args : List AV} {H F F0 R : Hp} {post : AV → Hp → Prop} {x : AV} (h : ACt P f args F (fun r F' => r = x ∧ F' = F0)) (hP : H.Perm (F ++ R)) (hp : post x (F0 ++ R)) : CallV P f args H post := CallV.updN hP h hp
end
end Go.Proofs.YtocfaghflhgeeaaDoor
namespace Go.Proofs.YtocfaghflhgeeaaDoor
open Go
set_option linter.unusedSimpArgs false
set_option linter.unusedVariables false
section
variable {P : Program} {cx : Cx} {n : Nat} {ops : Array Oper}
/-- A call that changes blocks of ours in one way. -/
def ECt (P : Program) (f : FuncId) (args : List AV) (E : Hp) (x : AV) (E' : Hp) : Prop :=
  ∃ F R F0, E.Perm (F ++ R) ∧ E' = F0 ++ R ∧ F0.map (·.1) = F.map (·.1) ∧ ACt P f args F (fun r F' => r = x ∧ F' = F0)
def ExW (P : Program) (f : FuncId) (args : List AV) (E : Hp) (K : AV → Hp → Prop) (d : Hd K := .mk) : Prop := ∃ x E', ECt P f args E x E' ∧ K x E'
theorem ExW.mk {f : FuncId} {args : List AV} {E F R F0 : Hp} {K : AV → Hp → Prop} {x : AV} (hP : E.Perm (F ++ R)) (h : ACt P f args F (fun r F' => r = x ∧ F' = F0)) (hk : F0.map (·.1) = F.map (·.1)) (hK : K x (F0 ++ R)) : ExW P f args E K :=
  ⟨x, F0 ++ R, ⟨F, R, F0, hP, rfl, hk, h⟩, hK⟩
theorem SeqG.cons {C : Nat → Oper → AV → List (Nat × AV) → Prop} {o : Oper} {x : AV} {r : List (Oper × AV)} {env : List (Nat × AV)} (h0 : C 0 o x env) (h : SeqG (fun i => C (i + 1)) r (putE env o.dst x)) : SeqG C ((o, x) :: r) env := by
  have := SeqG.app (C := C) (A := [(o, x)]) (B := r) (env := env) (SeqG.one h0) (by
    simp only [envL, if_true, List.length_cons, List.length_nil]
    have e : (fun i => C (0 + 1 + i)) = fun i => C (i + 1) := by funext i; rw [show 0 + 1 + i = i + 1 by omega]
    rw [e]; exact h)
  exact this
/-! ### The order -/
/-! ### Ahead of the parting, the parting, behind it -/
theorem Stdy.congr {o : Oper} {env env' : List (Nat × AV)} {H : Hp} {x : AV} (h : ∀ t, look env t = look env' t) (hS : Stdy P cx n ops o env H x) : Stdy P cx n ops o env' H x :=
  ⟨hS.1, fun a w X R h1 h2 h3 h4 h5 => hS.2 a w X R h1 h2 h3 (fun t ht => by rw [h t]; exact h4 t ht) h5⟩
end
end Go.Proofs.YtocfaghflhgeeaaDoor
namespace Go.Proofs.YtocfaghflhgeeaaDoor
open Go
set_option linter.unusedSimpArgs false
set_option linter.unusedVariables false
section
variable {P : Program} {cx : Cx} {n : Nat} {ops : Array Oper}
/-- A call over blocks of E, of whatever outcome; those of H0 are not lent. -/
def WCt (P : Program) (f : FuncId) (args : List AV) (E H0 : Hp) (post : AV → Hp → Prop) (d : Hd post := .mk) : Prop :=
  ∃ F R p, E.Perm (F ++ R) ∧ ACt P f args F p ∧ ∀ r F', p r F' → (((F' ++ R) ++ H0).map (·.1)).Nodup → post r (F' ++ R)
theorem WCt.row {f : FuncId} {args : List AV} {E H0 : Hp} {b : Nat} {m : MB} {k : IntKind} {ty : TypeId} {zs : List Int} {post : AV → Hp → Prop} (hg : hget E b = some m) (h : ACt P f args [(b, m)] (Row k ty zs))
    (hp : Nu fun b' => Nu fun cap' => Fr (zs.length ≤ cap' ∧ cap' ≤ maxLen ∧ fresh (hdel E b ++ H0) b') (post (ms b' 0 zs.length cap') ((b', .zs k zs cap' ty) :: hdel E b))) : WCt P f args E H0 post := by
  refine ⟨[(b, m)], hdel E b, _, hget_perm hg, h, ?_⟩
  rintro r F' ⟨b', cap', h1, h2, rfl, rfl⟩ hn
  exact ((hp.out b').out cap').out ⟨h1, h2, fresh_of_nodup hn⟩
/-- A new row, handed back as one that nobody writes any more. -/
theorem ACt.fz {f : FuncId} {args : List AV} {F F0 : Hp} {k : IntKind} {ty : TypeId} {zs : List Int}
    (h : ACt P f args F (fun r F' => ∃ q : {p : Nat × Nat // zs.length ≤ p.2 ∧ p.2 ≤ 9223372036854775807}, r = ms q.1.1 0 zs.length q.1.2 ∧ F' = (q.1.1, .zs k zs q.1.2 ty) :: F0)) :
    ACt P f args F (fun r F' => r = .slz k zs ∧ F' = F0) := by
  intro cx vs h1 h2 h3 h4
  refine (h cx vs h1 h2 h3 h4).mono ?_
  rintro e w' ⟨v, r, F', he, ⟨q, rfl, rfl⟩, hw, hr⟩
  have hv := hr.lit_inv
  have hp : OkW cx (F0 ++ [(q.1.1, .zs k zs q.1.2 ty)]) w' := hw.perm (List.perm_append_comm (l₁ := [(q.1.1, MB.zs k zs q.1.2 ty)]))
  obtain ⟨d1, d2⟩ := hp.drop
  refine ⟨v, _, F0, he, ⟨rfl, rfl⟩, d1, ?_⟩
  rw [hv]
  have hm := hw.mem _ (List.mem_cons_self ..)
  have hlt := hm.lt
  obtain ⟨cur, e1, e2, e3, e4⟩ := hm
  have hn := hw.nodup
  simp only [List.map_cons, List.nodup_cons] at hn
  refine .slz _ _ _ _ q.2.1 (by rw [maxLen_eq]; exact q.2.2) (.inr ⟨q.1.1, 0, rfl, .inr ⟨hw.keys _ (List.mem_cons_self ..), hlt, fun x hx he => hn.1 (List.mem_map.2 ⟨x, hx, he⟩)⟩, fun i hi => ?_⟩)
  rw [Nat.zero_add, cell_of_block e1, e4 i hi]
end
end Go.Proofs.YtocfaghflhgeeaaDoor
namespace Go.Proofs.YtocfaghflhgeeaaDoor
open Go
set_option linter.unusedSimpArgs false
set_option linter.unusedVariables false
/-- A row that nobody will write any more: so it stands in other blocks' cells too. -/
theorem rep_frz {w : World} {I I0 : Nat → Prop} {b : Nat} {k : IntKind} {zs : List Int} {s0 ty : Nat} {v : Value} {x : AV} (hm : MOk w I0 b (.zs k zs s0 ty)) (hb : I b) (hr' : Rep w I v x) : Rep w I v (frz b k zs x) := by
  unfold frz
  split
  · rename_i b' off m cap
    split
    · rename_i he
      subst he
      split
      · rename_i hc
        obtain ⟨c1, c2, c3⟩ := hc
        have := hr'.lit_inv
        subst this
        obtain ⟨cur, d1, d2, d3, d4⟩ := hm
        have hl : ((zs.drop off).take m).length = m := by simp; omega
        have hrr : Rep w I (.slice (some ⟨b', off, none⟩) ((zs.drop off).take m).length cap) (.slz k ((zs.drop off).take m)) := by
          refine .slz _ _ _ _ (by omega) c3 (.inr ⟨b', off, rfl, hb, fun j hj => ?_⟩)
          have hj' : j < m := by omega
          rw [cell_of_block d1, d4 _ (by omega)]
          have : off + j < zs.length := by omega
          simp [List.getD, hj']
        rw [hl] at hrr
        exact hrr
      · exact .any _
    · exact hr'
  · exact hr'
/-- A call of a chain that changes blocks of the chain's own, exactly. -/
theorem WCt.updM {P : Program} {f : FuncId} {args : List AV} {E F F0 R H0 : Hp} {post : AV → Hp → Prop} {x : AV} (h : ACt P f args F (fun r F' => r = x ∧ F' = F0)) (hP : E.Perm (F ++ R)) (hp : post x (F0 ++ R)) : WCt P f args E H0 post :=
  ⟨F, R, _, hP, h, fun r F' hr _ => by obtain ⟨e1, e2⟩ := hr; subst e1 e2; exact hp⟩
/-- A row of ours, given up for good: the callee sees it as one that nobody writes; beside it blocks that are lent. -/
theorem ACt.frzG {P : Program} {f : FuncId} {args args' : List AV} {b : Nat} {k : IntKind} {zs : List Int} {s0 ty : Nat} {F : Hp} {p : AV → Hp → Prop} (h : ACt P f args' F p) (he : args.map (Proofs.YtocfaghflhgeeaaDoor.frz b k zs) = args') :
    ACt P f args ((b, .zs k zs s0 ty) :: F) p := by
  intro cx vs hK hw hs hv
  subst he
  have hbl := keys_lt hw _ (List.mem_cons_self ..)
  have hnd := hw.nodup
  simp only [List.map_cons, List.nodup_cons] at hnd
  have himm : ∀ c, imm cx cx.w0 ((b, .zs k zs s0 ty) :: F) c → cx.I c := by
    rintro c (hc | ⟨h1, h2, h3⟩)
    · exact hc
    · rcases h1 with h1 | h1
      · rw [hK] at h1
        obtain ⟨x, hx, he⟩ := List.mem_map.1 h1
        exact absurd he (h3 x hx)
      · omega
  have hI : ∀ c, (cx.I c ∨ c = b) → c < cx.w0.heap.size ∧ c ∉ F.map (·.1) := by
    rintro c (hc | rfl)
    · refine ⟨(cx.hI c hc).1, fun hm => (cx.hI c hc).2 ?_⟩
      rw [hK]; exact List.mem_cons_of_mem _ hm
    · exact ⟨hbl, hnd.1⟩
  have := h ⟨cx.w0, fun c => cx.I c ∨ c = b, F.map (·.1), hI⟩ vs rfl
    ⟨hnd.2, fun x hx => .inl (List.mem_map_of_mem hx), fun x hx => (hw.mem x (List.mem_cons_of_mem _ hx)).mono (fun c hc => ⟨.inl (.inl (himm c hc)), rfl⟩) rfl, ⟨rfl, rfl, rfl, Nat.le_refl _, fun _ _ _ => rfl⟩⟩
    (by simpa using hs) (fun i hi => by
      have hi' : i < args.length := by simpa using hi
      have := rep_frz (hw.mem _ (List.mem_cons_self ..)) (I := fun c => cx.I c ∨ c = b) (.inr rfl) ((hv i hi').mono fun c hc => ⟨.inl hc, rfl⟩)
      simpa [List.getD, List.getElem?_map, hi'] using this)
  refine this.mono ?_
  rintro e w' ⟨v, r, F', he, hp, hw', hr⟩
  have e1 := hw.ext
  have e2 := hw'.ext
  have hsz : cx.w0.heap.size ≤ w'.heap.size := e2.size
  have hkey : ∀ x ∈ F', x.1 ∈ cx.K ∨ cx.w0.heap.size ≤ x.1 := fun x hx => by
    rcases hw'.keys x hx with h | h
    · exact .inl (by rw [hK]; exact List.mem_cons_of_mem _ h)
    · exact .inr h
  have hbF : ∀ x ∈ F', x.1 ≠ b := fun x hx he => by
    rcases hw'.keys x hx with h | h
    · exact hnd.1 (he ▸ h)
    · simp only at h; omega
  have hIm : ∀ c, imm ⟨cx.w0, fun c => cx.I c ∨ c = b, F.map (·.1), hI⟩ w' F' c → imm cx w' F' c := by
    rintro c ((hc | rfl) | ⟨h1, h2, h3⟩)
    · exact .inl hc
    · exact .inr ⟨.inl (by rw [hK]; exact List.mem_cons_self ..), by omega, hbF⟩
    · refine .inr ⟨?_, h2, h3⟩
      rcases h1 with h1 | h1
      · exact .inl (by rw [hK]; exact List.mem_cons_of_mem _ h1)
      · exact .inr h1
  refine ⟨v, r, F', he, hp, ⟨hw'.nodup, hkey, fun x hx => (hw'.mem x hx).mono (fun c hc => ⟨hIm c hc, rfl⟩) rfl, ?_⟩, hr.mono fun c hc => ⟨hIm c hc, rfl⟩⟩
  exact ⟨e2.os.trans e1.os, e2.tape.trans e1.tape, e2.output.trans e1.output, Nat.le_trans e1.size e2.size, fun c hc hk => (e2.blk c hc (fun hm => hk (by rw [hK]; exact List.mem_cons_of_mem _ hm))).trans (e1.blk c hc hk)⟩
theorem CallV.frzE {P : Program} {f : FuncId} {args args' : List AV} {H F R : Hp} {post : AV → Hp → Prop} {Γ : Type} {x : Γ → AV} {m : Γ → Hp} (b : Nat) {k : IntKind} {zs : List Int} {s0 ty : Nat} (hg : hget H b = some (.zs k zs s0 ty))
    (h : ACt P f args' F (fun r F' => ∃ g, r = x g ∧ F' = m g)) (he : args.map (Proofs.YtocfaghflhgeeaaDoor.frz b k zs) = args') (hP : (hdel H b).Perm (F ++ R)) (hp : ∀ g, post (x g) (m g ++ R)) : CallV P f args H post :=
  ⟨(b, .zs k zs s0 ty) :: F, R, _, (hget_perm hg).trans (List.Perm.cons _ hP), h.frzG he, fun r F' hr _ => by obtain ⟨g, e1, e2⟩ := hr; subst e1 e2; exact hp g⟩
section
variable {P : Program} {cx : Cx} {n : Nat} {ops : Array Oper} {H : Hp}
end
end Go.Proofs.YtocfaghflhgeeaaDoor
namespace Go.Proofs.YtocfaghflhgeeaaDoor
open Go
set_option linter.unusedSimpArgs false
set_option linter.unusedVariables false
/-- A listed table of integers, as the walk's memory holds it. -/
def TabOk (w : World) (x : Nat × MB) : Prop := ∃ (k : IntKind) (zs : List Int) (ty : TypeId) (cur : Array Value), x.2 = .zs k zs zs.length ty ∧ w.heap[x.1]? = some (.cells cur ty (0, 0)) ∧ cur.toList = zs.map (Value.int k)
theorem TabOk.mok {w : World} {I : Nat → Prop} {x : Nat × MB} (h : TabOk w x) : MOk w I x.1 x.2 := by
  obtain ⟨k, zs, ty, cur, e1, e2, e3⟩ := h
  rw [e1]
  have hs : cur.size = zs.length := by have := congrArg List.length e3; simpa using this
  refine ⟨cur, e2, hs, Nat.le_refl _, fun i hi => ?_⟩
  rw [← Array.getElem?_toList, e3]
  simp [List.getD, hi]
theorem TabOk.same {w w' : World} {I : Nat → Prop} {x : Nat × MB} (h : TabOk w x) (h' : MOk w' I x.1 x.2) : w'.heap[x.1]? = w.heap[x.1]? := by
  obtain ⟨k, zs, ty, cur, e1, e2, e3⟩ := h
  rw [e1] at h'
  obtain ⟨cur', c1, c2, c3, c4⟩ := h'
  have hs : cur.size = zs.length := by have := congrArg List.length e3; simpa using this
  rw [e2, c1]
  have : cur' = cur := by
    apply Array.ext' 
    apply List.ext_getElem?
    intro i
    by_cases hi : i < zs.length
    · rw [Array.getElem?_toList, c4 i hi, e3]; simp [List.getD, hi]
    · rw [List.getElem?_eq_none (by simp; omega), List.getElem?_eq_none (by simp; omega)]
  rw [this]
/-- The law's call, with listed tables, where the arguments hold no memory. -/
theorem ACt.lawG {P : Program} {f : FuncId} {args : List AV} {G : Hp} (h : ACt P f args G fun r F' => r = bv true ∧ F' = G) (hb : ((P.funcs[f]?).any fun fn => fn.body.isSome && !(fn.name == "runtime.NumGoroutine")) = true) {w : World} {vs : Array Value} (hs : vs.size = args.length)
    (hv : ∀ i, i < args.length → Rep w (fun b => b < w.heap.size) (vs.getD i undef) (args.getD i .any)) (hc : args.all clA = true) (hn : (G.map (·.1)).Nodup) (hG : ∀ x ∈ G, TabOk w x) :
    Calls P f vs w fun e w' => e = .returned (.bool true) ∧ Go.RowKit.Below w.heap.size w w' := by
  have := h ⟨w, fun _ => False, G.map (·.1), fun b hb => hb.elim⟩ vs rfl ⟨hn, fun x hx => .inl (List.mem_map_of_mem hx), fun x hx => (hG x hx).mok, ⟨rfl, rfl, rfl, Nat.le_refl _, fun _ _ _ => rfl⟩⟩ hs
    (fun i hi => (hv i hi).closed (by
      have := List.all_eq_true.1 hc _ (List.getElem_mem hi)
      simpa [List.getD, hi] using this))
  obtain ⟨fn, hf, hb⟩ : ∃ fn, P.funcs[f]? = some fn ∧ (fn.body.isSome && !(fn.name == "runtime.NumGoroutine")) = true := by
    cases e : P.funcs[f]? with
    | none => rw [e] at hb; cases hb
    | some fn => exact ⟨fn, rfl, by rw [e] at hb; exact hb⟩
  have hcl : (callFunc f vs).run P w = .ok (.enter f vs) w := by
    simp at hb
    obtain ⟨h1, h2⟩ := hb
    obtain ⟨c, hc⟩ := Option.isSome_iff_exists.1 h1
    simp [callFunc, program, Sem.run, hf, hc, h2]
  rcases Or.symm this with ⟨v, w', h1, _⟩ | ⟨_, this⟩
  · exact absurd (h1.symm.trans hcl) (by simp)
  refine this.mono ?_
  rintro e w' ⟨v, r, F', rfl, ⟨rfl, rfl⟩, hw, hr⟩
  rw [hr.lit_inv]
  refine ⟨rfl, ⟨hw.ext.os, hw.ext.tape, hw.ext.output, hw.ext.size, fun k hk => ?_⟩⟩
  by_cases hm : k ∈ F'.map (·.1)
  · obtain ⟨x, hx, rfl⟩ := List.mem_map.1 hm
    exact (hG x hx).same (hw.mem x hx)
  · exact hw.ext.blk k hk hm
/-- What a listed array of integers holds. -/
theorem row_of_trod {H : Type} {enc : TypeId × Value → H} {P : Program} {w : World} {base fuel : Nat} {sp : Nat → Bool} {held : Bool} {t e : TypeId} {m : Nat} {k : IntKind} {cs : List Value} {zs : List Int} {p : List MemPlace}
    (ht : P.underlying t = some (.array m e)) (he : P.underlying e = some (.int k)) (hc : P.cellsOf e = 1)
    (h : DataW.trod enc P w base sp held fuel t cs = some (.agg (zs.map fun z => .lit (.int k z)), p)) (hl : cs.length = m) : cs = zs.map (Value.int k) := by
  obtain ⟨xs, n, rfl, hx, hlen, hxl, hel⟩ := DataW.trod_array ht h
  simp only [Prod.mk.injEq, DataW.agg.injEq] at hx
  have hzl : zs.length = m := by have := congrArg List.length hx.1; simpa [hxl] using this
  refine List.ext_getElem (by simp [hl, hzl]) fun i h1 h2 => ?_
  have hi : i < m := by omega
  have hh := hel i hi
  rw [hc, Nat.mul_one, List.getElem?_eq_getElem (by omega)] at hh
  have e1 : (cs.drop i).take 1 = [cs[i]] := by
    rw [List.drop_eq_getElem_cons h1]; rfl
  rw [e1] at hh
  obtain ⟨z, a1, a2, _⟩ := DataW.trod_int he hh
  have e2 : cs[i] = .int k z := by simpa using a1
  have e3 : (xs[i]'(by omega)).1 = .lit (.int k z) := by rw [a2]
  have e4 : (xs.map (·.1))[i]'(by simpa using (by omega : i < xs.length)) = (zs.map fun z => (DataW.lit (.int k z) : DataW H))[i]'(by simp; omega) := by simp only [hx.1]
  simp only [List.getElem_map] at e4
  rw [e3] at e4
  have e5 : z = zs[i]'(by omega) := by injection e4 with e4; injection e4
  rw [e2, e5]
  simp
end Go.Proofs.YtocfaghflhgeeaaDoor
namespace Go.Proofs.YtocfaghflhgeeaaDoor
open Go
def lenN (q : Nat) : Nat := if q = 0 then 0 else Nat.log2 q + 1
theorem lenN_le {q d : Nat} : lenN q ≤ d ↔ q < 2 ^ d := by
  unfold lenN
  by_cases h : q = 0
  · subst h; simp [Nat.two_pow_pos]
  · rw [if_neg h, ← Nat.log2_lt h]; omega
/-- the bit lists -/
def valB : List Bool → Nat
  | [] => 0
  | b :: l => b.toNat + 2 * valB l
theorem valB_app : ∀ (a b : List Bool), valB (a ++ b) = valB a + 2 ^ a.length * valB b
  | [], b => by simp [valB]
  | x :: a, b => by simp [valB, valB_app a b, Nat.pow_succ, Nat.mul_add]; rw [Nat.mul_comm (2 ^ a.length) 2, Nat.mul_assoc]; omega
theorem valB_lt : ∀ l : List Bool, valB l < 2 ^ l.length
  | [] => by simp [valB]
  | b :: l => by
    have := valB_lt l
    simp only [valB, List.length_cons, Nat.pow_succ]
    cases b <;> simp <;> omega
def bitsN (n : Nat) (k : Nat) : List Bool := (List.range k).map fun i => decide (n / 2 ^ i % 2 = 1)
theorem bitsN_len (n k : Nat) : (bitsN n k).length = k := by simp [bitsN]
theorem bitsN_succ (n k : Nat) : bitsN n (k + 1) = bitsN n k ++ [decide (n / 2 ^ k % 2 = 1)] := by simp [bitsN, List.range_succ]
theorem valB_bitsN (n : Nat) : ∀ k, valB (bitsN n k) = n % 2 ^ k
  | 0 => by simp [bitsN, valB, Nat.mod_one]
  | k + 1 => by
    rw [bitsN_succ, valB_app, valB_bitsN n k, bitsN_len, Nat.pow_succ, Nat.mod_mul]
    congr 2
    simp only [valB]
    have : n / 2 ^ k % 2 < 2 := Nat.mod_lt _ (by omega)
    by_cases h : n / 2 ^ k % 2 = 1 <;> simp [h] <;> omega
def bitA (l : List Bool) (i : Nat) : Nat := if i < l.length ∧ l.getD i false = true then 1 else 0
theorem bitA_eq (l : List Bool) (i : Nat) : bitA l i = (l.getD i false).toNat := by
  unfold bitA
  by_cases h : i < l.length
  · cases e : l.getD i false <;> simp [h]
  · simp [h]
theorem valB_drop (l : List Bool) (i : Nat) : valB (l.drop i) = bitA l i + 2 * valB (l.drop (i + 1)) := by
  rw [bitA_eq]
  by_cases h : i < l.length
  · rw [List.drop_eq_getElem_cons h]; simp [valB, List.getD, List.getElem?_eq_getElem h]
  · rw [List.drop_eq_nil_of_le (by omega), List.drop_eq_nil_of_le (by omega)]; simp [valB, List.getD, List.getElem?_eq_none (show l.length ≤ i by omega)]
theorem bitA_le (l : List Bool) (i : Nat) : bitA l i ≤ 1 := by unfold bitA; split <;> omega
theorem valB_rep : ∀ (i : Nat) (a : List Bool), valB (List.replicate i false ++ a) = 2 ^ i * valB a
  | 0, a => by simp
  | i + 1, a => by rw [List.replicate_succ, List.cons_append, valB, valB_rep i a, Nat.pow_succ]; simp; rw [← Nat.mul_assoc, Nat.mul_comm 2]
theorem valB_take (l : List Bool) (i : Nat) (h : i < l.length) : valB (l.take (i + 1)) = valB (l.take i) + 2 ^ i * (l.getD i false).toNat := by
  rw [List.take_succ_eq_append_getElem h, valB_app, List.length_take, Nat.min_eq_left (by omega)]
  simp [valB, List.getD, List.getElem?_eq_getElem h]
theorem wrap_u64_nat {n : Nat} (h : n < 18446744073709551616) : IntKind.u64.wrap (n : Int) = (n : Int) := wrap_u64 (by omega) (by omega)
theorem wrap_i64_nat {n : Nat} (h : n < 9223372036854775808) : IntKind.i64.wrap (n : Int) = (n : Int) := wrap_i64 (by omega) (by omega)
end Go.Proofs.YtocfaghflhgeeaaDoor
namespace Go.Proofs.YtocfaghflhgeeaaDoor
open Go
set_option linter.unusedVariables false
set_option linter.unusedSimpArgs false
theorem TFExB : ((((((type_of% tyc0) ∧ (type_of% tyc3)) ∧ ((type_of% zmb3) ∧ (type_of% tyc4))) ∧ (((type_of% zmb4) ∧ (type_of% tyc5)) ∧ ((type_of% zmb5) ∧ ((type_of% tyc9) ∧ (type_of% zmb9))))) ∧ ((((type_of% tyc22) ∧ (type_of% zmb22)) ∧ ((type_of% tyc26) ∧ ((type_of% foff26_0) ∧ (type_of% fpart26_0)))) ∧ (((type_of% foff26_1) ∧ (type_of% fpart26_1)) ∧ ((type_of% fe26) ∧ ((type_of% zmb26) ∧ (type_of% bldT26)))))) ∧ (((((type_of% tyc32) ∧ (type_of% elt32)) ∧ ((type_of% mkz32) ∧ ((type_of% mkc32) ∧ (type_of% apT32)))) ∧ (((type_of% elk32) ∧ (type_of% zmb32)) ∧ ((type_of% tyc52) ∧ ((type_of% zmb52) ∧ (type_of% tyc66))))) ∧ ((((type_of% Tryd.underlying0) ∧ (type_of% Tryd.underlying3)) ∧ ((type_of% Tryd.underlying4) ∧ ((type_of% Tryd.underlying5) ∧ (type_of% Tryd.underlying9)))) ∧ (((type_of% Tryd.underlying22) ∧ (type_of% Tryd.underlying26)) ∧ ((type_of% Tryd.underlying32) ∧ ((type_of% Tryd.underlying52) ∧ (type_of% Tryd.underlying66))))))) :=
  ⟨⟨⟨⟨⟨tyc0, tyc3⟩, ⟨zmb3, tyc4⟩⟩, ⟨⟨zmb4, tyc5⟩, ⟨zmb5, ⟨tyc9, zmb9⟩⟩⟩⟩, ⟨⟨⟨tyc22, zmb22⟩, ⟨tyc26, ⟨foff26_0, fpart26_0⟩⟩⟩, ⟨⟨foff26_1, fpart26_1⟩, ⟨fe26, ⟨zmb26, bldT26⟩⟩⟩⟩⟩, ⟨⟨⟨⟨tyc32, elt32⟩, ⟨mkz32, ⟨mkc32, apT32⟩⟩⟩, ⟨⟨elk32, zmb32⟩, ⟨tyc52, ⟨zmb52, tyc66⟩⟩⟩⟩, ⟨⟨⟨Tryd.underlying0, Tryd.underlying3⟩, ⟨Tryd.underlying4, ⟨Tryd.underlying5, Tryd.underlying9⟩⟩⟩, ⟨⟨Tryd.underlying22, Tryd.underlying26⟩, ⟨Tryd.underlying32, ⟨Tryd.underlying52, Tryd.underlying66⟩⟩⟩⟩⟩⟩
abbrev nu (n : Nat) : AV := iv .u64 (n : Int)
abbrev wideA (n : Nat) : AV := .agg [nu (n / 18446744073709551616), nu (n % 18446744073709551616)]
abbrev bl (l : List Bool) : List AV := l.map bv
theorem bl_len (l : List Bool) : (bl l).length = l.length := by simp
theorem bl_at (l : List Bool) (i : Nat) (h : i < l.length) : (bl l).getD i .any = bv (l.getD i false) := by
  simp [List.getD, h]
theorem lenN_shift {k x : Nat} (h : 2 ^ k ≤ x) : lenN x = k + lenN (x / 2 ^ k) := by
  have hx : 0 < x := Nat.lt_of_lt_of_le (Nat.two_pow_pos k) h
  have a : ∀ d, lenN x ≤ k + d ↔ lenN (x / 2 ^ k) ≤ d := fun d => by
    rw [lenN_le, lenN_le, Nat.div_lt_iff_lt_mul (Nat.two_pow_pos k), Nat.pow_add, Nat.mul_comm]
  have b : k ≤ lenN x := by
    apply Classical.byContradiction; intro hk
    have := lenN_le.1 (show lenN x ≤ k - 1 + 0 by omega)
    have h2 : 2 ^ (k - 1 + 0) ≤ 2 ^ k := Nat.pow_le_pow_right (by omega) (by omega)
    omega
  have h1 := (a (lenN (x / 2 ^ k))).2 (Nat.le_refl _)
  have h2 := (a (lenN x - k)).1 (by omega)
  omega
def tab8 : ByteArray := ⟨List.toArray (List.append (List.append [0, 1, 2, 2, 3, 3, 3, 3, 4, 4, 4, 4, 4, 4, 4, 4, 5, 5, 5, 5, 5, 5, 5, 5, 5, 5, 5, 5, 5, 5, 5, 5, 6, 6, 6, 6, 6, 6, 6, 6, 6, 6, 6, 6, 6, 6, 6, 6, 6, 6, 6, 6, 6, 6, 6, 6, 6, 6, 6, 6, 6, 6, 6, 6] [7, 7, 7, 7, 7, 7, 7, 7, 7, 7, 7, 7, 7, 7, 7, 7, 7, 7, 7, 7, 7, 7, 7, 7, 7, 7, 7, 7, 7, 7, 7, 7, 7, 7, 7, 7, 7, 7, 7, 7, 7, 7, 7, 7, 7, 7, 7, 7, 7, 7, 7, 7, 7, 7, 7, 7, 7, 7, 7, 7, 7, 7, 7, 7]) (List.append [8, 8, 8, 8, 8, 8, 8, 8, 8, 8, 8, 8, 8, 8, 8, 8, 8, 8, 8, 8, 8, 8, 8, 8, 8, 8, 8, 8, 8, 8, 8, 8, 8, 8, 8, 8, 8, 8, 8, 8, 8, 8, 8, 8, 8, 8, 8, 8, 8, 8, 8, 8, 8, 8, 8, 8, 8, 8, 8, 8, 8, 8, 8, 8] [8, 8, 8, 8, 8, 8, 8, 8, 8, 8, 8, 8, 8, 8, 8, 8, 8, 8, 8, 8, 8, 8, 8, 8, 8, 8, 8, 8, 8, 8, 8, 8, 8, 8, 8, 8, 8, 8, 8, 8, 8, 8, 8, 8, 8, 8, 8, 8, 8, 8, 8, 8, 8, 8, 8, 8, 8, 8, 8, 8, 8, 8, 8, 8]))⟩
theorem tab8_eq : (⟨List.toArray (List.append (List.append [0, 1, 2, 2, 3, 3, 3, 3, 4, 4, 4, 4, 4, 4, 4, 4, 5, 5, 5, 5, 5, 5, 5, 5, 5, 5, 5, 5, 5, 5, 5, 5, 6, 6, 6, 6, 6, 6, 6, 6, 6, 6, 6, 6, 6, 6, 6, 6, 6, 6, 6, 6, 6, 6, 6, 6, 6, 6, 6, 6, 6, 6, 6, 6] [7, 7, 7, 7, 7, 7, 7, 7, 7, 7, 7, 7, 7, 7, 7, 7, 7, 7, 7, 7, 7, 7, 7, 7, 7, 7, 7, 7, 7, 7, 7, 7, 7, 7, 7, 7, 7, 7, 7, 7, 7, 7, 7, 7, 7, 7, 7, 7, 7, 7, 7, 7, 7, 7, 7, 7, 7, 7, 7, 7, 7, 7, 7, 7]) (List.append [8, 8, 8, 8, 8, 8, 8, 8, 8, 8, 8, 8, 8, 8, 8, 8, 8, 8, 8, 8, 8, 8, 8, 8, 8, 8, 8, 8, 8, 8, 8, 8, 8, 8, 8, 8, 8, 8, 8, 8, 8, 8, 8, 8, 8, 8, 8, 8, 8, 8, 8, 8, 8, 8, 8, 8, 8, 8, 8, 8, 8, 8, 8, 8] [8, 8, 8, 8, 8, 8, 8, 8, 8, 8, 8, 8, 8, 8, 8, 8, 8, 8, 8, 8, 8, 8, 8, 8, 8, 8, 8, 8, 8, 8, 8, 8, 8, 8, 8, 8, 8, 8, 8, 8, 8, 8, 8, 8, 8, 8, 8, 8, 8, 8, 8, 8, 8, 8, 8, 8, 8, 8, 8, 8, 8, 8, 8, 8]))⟩ : ByteArray) = tab8 := rfl
theorem tab8_size : tab8.size = 256 := by decide +kernel
theorem tab8_all : ∀ i : Nat, i < 256 → (tab8.data.toList.getD i 0).toNat = lenN i := by decide +kernel
theorem tab8_at (n : Nat) : (tab8.data.toList.getD (n % 256) 0).toNat = lenN (n % 256) := tab8_all (n % 256) (Nat.mod_lt _ (by omega))
theorem lenN_bd {x d : Nat} (h : x < 2 ^ d) : lenN x ≤ d := lenN_le.2 h
set_option maxHeartbeats 1000000 in
theorem len64_ct (x : Nat) (hx : x < 18446744073709551616) : ACt Tryd.prog 55 [nu x] [] (Fn (iv .i64 ((lenN x : Nat) : Int))) := by
  refine ACt.intro Tryd.func55 rfl (by kernel_rfl) (by simp [Tryd.ntmps55]) (fun cx => ?_)
  simp only [argE, Tryd.ntmps55, Tryd.results55]
  have s1 : ∀ n : Nat, (n : Int).fdiv 4294967296 = ((n / 4294967296 : Nat) : Int) := fun n => by rw [Int.fdiv_eq_ediv_of_nonneg _ (by omega)]; simp
  have s2 : ∀ n : Nat, (n : Int).fdiv 65536 = ((n / 65536 : Nat) : Int) := fun n => by rw [Int.fdiv_eq_ediv_of_nonneg _ (by omega)]; simp
  have s3 : ∀ n : Nat, (n : Int).fdiv 256 = ((n / 256 : Nat) : Int) := fun n => by rw [Int.fdiv_eq_ediv_of_nonneg _ (by omega)]; simp
  have w8 : ∀ n : Nat, IntKind.u8.wrap (n : Int) = ((n % 256 : Nat) : Int) := fun n => by rw [wrap_u8_mod]; omega
  have l8 : ∀ n : Nat, lenN (n % 256) ≤ 8 := fun n => lenN_bd (by have := Nat.mod_lt n (show 256 > 0 by omega); omega)
  have wl : ∀ n : Nat, IntKind.i64.wrap ((lenN (n % 256) : Nat) : Int) = ((lenN (n % 256) : Nat) : Int) := fun n => wrap_i64_nat (by have := l8 n; omega)
  have a0 : ∀ n : Nat, IntKind.i64.wrap (0 + ((lenN (n % 256) : Nat) : Int)) = ((lenN (n % 256) : Nat) : Int) := fun n => by rw [Int.zero_add]; exact wl n
  have a : ∀ (k : Int) (n : Nat), 0 ≤ k → k ≤ 1000 → IntKind.i64.wrap (k + ((lenN (n % 256) : Nat) : Int)) = k + ((lenN (n % 256) : Nat) : Int) := fun k n h1 h2 => wrap_i64 (by omega) (by have := l8 n; omega)
  have b1 : IntKind.i64.wrap (32 + 16) = 48 := by decide
  have b2 : IntKind.i64.wrap (48 + 8) = 56 := by decide
  have b3 : IntKind.i64.wrap (32 + 8) = 40 := by decide
  have b4 : IntKind.i64.wrap (0 + 16) = 16 := by decide
  have b5 : IntKind.i64.wrap (16 + 8) = 24 := by decide
  have b6 : IntKind.i64.wrap (0 + 8) = 8 := by decide
  have c8 := fun n => a 8 n (by decide) (by decide)
  have c16 := fun n => a 16 n (by decide) (by decide)
  have c24 := fun n => a 24 n (by decide) (by decide)
  have c32 := fun n => a 32 n (by decide) (by decide)
  have c40 := fun n => a 40 n (by decide) (by decide)
  have c48 := fun n => a 48 n (by decide) (by decide)
  have c56 := fun n => a 56 n (by decide) (by decide)
  have r1 : 4294967296 ≤ x → lenN x = 32 + lenN (x / 4294967296) := lenN_shift (k := 32)
  have r2 : ∀ y, 65536 ≤ y → lenN y = 16 + lenN (y / 65536) := fun y => lenN_shift (k := 16)
  have r3 : ∀ y, 256 ≤ y → lenN y = 8 + lenN (y / 256) := fun y => lenN_shift (k := 8)
  first | (have FRx := FR; clear FRx) | (have FR : ¬ ((1 : Nat) = 0) := Nat.one_ne_zero)
  repeat' first
    | (refine Sm.mk ?_; try simp -dsimp only [ZK, rvc, drawF, headN, pureH, stp, dvc, calleeOf, gcall, pev, eff, newB, okd, og, ogs, ogo, ogp, slv, bltv, opd, litv, strip, one, both, putE, St.put, look, gdOf, gdv, picka, pickv, pickw, binv, bini, bins, binb, binp, binq, isSlT, bina, shp, eqCells, unv, convv, nilv, faddv, addp, idxav, idxp, load1, load1m, loadn, loadnm, loadv, hget, hset, hrep, hdel, slicev, bnd, shift1, lenv, capv, IntKind.bits, extractv, fieldv, indexv, min2v, max2v, mkiv, cellsA, fillA, buildv, stC, oneC, rowMB, intsA, plN, appE, appZ, appC, appNZ, appNC, VwL, srcC, srcZ, srcM, isBoolT, isPtrT, isSliceT, uOk, Value.oneCell', Nat.reducePow, Int.reducePow, Nat.reduceAdd, Nat.reduceMul, Nat.reduceSub, Nat.reduceLT, Nat.reduceLeDiff, Nat.reduceEqDiff, Nat.reduceBEq, Nat.reduceDiv, Nat.reduceMod, ↓reduceIte, reduceCtorEq, Int.reduceToNat, Int.reduceLT, Int.reduceLE, TFExB, SeqQ, BlkQ, LoopQ, BodyQ, s1, s2, s3, w8, wl, tab8_eq, tab8_size, tab8_at, a0, b1, b2, b3, b4, b5, b6, c8, c16, c24, c32, c40, c48, c56, FR])
    | (refine WP.seq fun K hK => ?_)
    | (refine WP.region (rvc_sound _ _ (Sm.out ?_)))
    | (refine WP.drawK rfl mixed (by decide +kernel) (Sm.out ?_))
    | (refine Ob.mk ?_; focus (first | assumption | omega | decide | trivial | (intro hob; simp only [hob, ZF]; done) | (intros; (repeat' refine And.intro ?_ ?_) <;> first | assumption | omega | trivial | decide) | (intros; simp only [ZE] at *; (repeat' refine And.intro ?_ ?_) <;> first | assumption | omega | trivial)))
    | (refine And.intro (Ob.out ?_) ?_)
    | (refine WP.block ?_)
    | (refine WP.cond rfl (fun hc => ?_) (fun hc => ?_) <;> (try simp only [ZC, reduceCtorEq, ZD] at hc) <;> (try (exact absurd hc (by decide))) <;> (try (exfalso; omega)))
    | ((first | refine WP.skip ?_ | refine WP.exit ?_); simp only [SeqQ, BlkQ, LoopQ, BodyQ, ↓reduceIte, Nat.reduceEqDiff, reduceCtorEq, look, true_and])
    | (refine WP.ret (Sm.out ?_))
    | (first | refine ExG.no (Sm.out ?_) | refine Or.inl (ExG.no (Sm.out ?_)) | refine Or.inl (And.intro (fun hg => absurd hg (by decide)) (ExG.no (Sm.out ?_))))
    | (refine Rt.mk ?_; refine And.intro ?_ ?_ <;> (intro hg; first | exact absurd hg (by decide) | refine Sm.out ?_))
    | (refine Nu.mk ?_; first | (fail_if_success (have := nb1)); intro nb1 | (fail_if_success (have := nb2)); intro nb2 | (fail_if_success (have := nb3)); intro nb3 | intro nbz)
    | (refine Fr.mk ?_; intro hfr; replace FR := And.intro hfr FR; clear hfr; refine Sm.out ?_)
    | (refine Two.mk ?_ ?_)
    | (refine Cs.mk ?_; intro hcs; first | exact False.elim hcs | (exfalso; omega) | (refine Sm.out ?_))
    | go_step
    | omega
    | (simp only [maxLen_eq]; omega)
  all_goals (refine OutQ.all ?_ ?_; (focus (simp only [resv, ZK, look, loadv, loadn, loadnm, load1, load1m, hget, ↓reduceIte, Nat.reduceEqDiff, Nat.reduceAdd, Nat.reduceMul, Nat.reduceLeDiff, Nat.reduceLT, reduceCtorEq, TFExB])); (try simp only [resv, resA, Fn, ZK, look, loadv, loadn, loadnm, load1, load1m, hget, ↓reduceIte, Nat.reduceEqDiff, Nat.reduceAdd, Nat.reduceMul, Nat.reduceLeDiff, Nat.reduceLT, reduceCtorEq, TFExB]); (try simp [resA, Fn, look]))
  all_goals
    first
    | (rw [Nat.mod_eq_of_lt (by omega)]; done)
    | (rw [Nat.mod_eq_of_lt (by omega)]
       have q1 := r2 x
       have q2 := r2 (x / 4294967296)
       have q3 := r3 x
       have q4 := r3 (x / 4294967296)
       have q5 := r3 (x / 65536)
       have q6 := r3 (x / 4294967296 / 65536)
       omega)
theorem at_ct (l : List Bool) (i : Nat) : ACt Tryd.prog 24 [.sl l.length (bl l), iv .i64 i] [] (Fn (iv .i64 ((bitA l i : Nat) : Int))) := by
  refine ACt.intro Tryd.func24 rfl (by kernel_rfl) (by simp [Tryd.ntmps24]) (fun cx => ?_)
  simp only [argE, Tryd.ntmps24, Tryd.results24]
  by_cases h : i < l.length
  · have k : decide ((i : Int) < l.length) = true := by simpa using h
    have e := bl_at l i h
    unfold bitA
    cases hb : l.getD i false
    all_goals rw [hb] at e
    all_goals (
        first | (have FRx := FR; clear FRx) | (have FR : ¬ ((1 : Nat) = 0) := Nat.one_ne_zero)
        repeat' first
          | (refine Sm.mk ?_; try simp -dsimp only [ZK, rvc, drawF, headN, pureH, stp, dvc, calleeOf, gcall, pev, eff, newB, okd, og, ogs, ogo, ogp, slv, bltv, opd, litv, strip, one, both, putE, St.put, look, gdOf, gdv, picka, pickv, pickw, binv, bini, bins, binb, binp, binq, isSlT, bina, shp, eqCells, unv, convv, nilv, faddv, addp, idxav, idxp, load1, load1m, loadn, loadnm, loadv, hget, hset, hrep, hdel, slicev, bnd, shift1, lenv, capv, IntKind.bits, extractv, fieldv, indexv, min2v, max2v, mkiv, cellsA, fillA, buildv, stC, oneC, rowMB, intsA, plN, appE, appZ, appC, appNZ, appNC, VwL, srcC, srcZ, srcM, isBoolT, isPtrT, isSliceT, uOk, Value.oneCell', Nat.reducePow, Int.reducePow, Nat.reduceAdd, Nat.reduceMul, Nat.reduceSub, Nat.reduceLT, Nat.reduceLeDiff, Nat.reduceEqDiff, Nat.reduceBEq, Nat.reduceDiv, Nat.reduceMod, ↓reduceIte, reduceCtorEq, Int.reduceToNat, Int.reduceLT, Int.reduceLE, TFExB, SeqQ, BlkQ, LoopQ, BodyQ, k, e, bl_len, FR])
          | (refine WP.seq fun K hK => ?_)
          | (refine WP.region (rvc_sound _ _ (Sm.out ?_)))
          | (refine WP.drawK rfl mixed (by decide +kernel) (Sm.out ?_))
          | (refine Ob.mk ?_; focus (first | assumption | omega | decide | trivial | (intro hob; simp only [hob, ZF]; done) | (intros; (repeat' refine And.intro ?_ ?_) <;> first | assumption | omega | trivial | decide) | (intros; simp only [ZE] at *; (repeat' refine And.intro ?_ ?_) <;> first | assumption | omega | trivial)))
          | (refine And.intro (Ob.out ?_) ?_)
          | (refine WP.block ?_)
          | (refine WP.cond rfl (fun hc => ?_) (fun hc => ?_) <;> (try simp only [ZC, reduceCtorEq, ZD] at hc) <;> (try (exact absurd hc (by decide))) <;> (try (exfalso; omega)))
          | ((first | refine WP.skip ?_ | refine WP.exit ?_); simp only [SeqQ, BlkQ, LoopQ, BodyQ, ↓reduceIte, Nat.reduceEqDiff, reduceCtorEq, look, true_and])
          | (refine WP.ret (Sm.out ?_))
          | (first | refine ExG.no (Sm.out ?_) | refine Or.inl (ExG.no (Sm.out ?_)) | refine Or.inl (And.intro (fun hg => absurd hg (by decide)) (ExG.no (Sm.out ?_))))
          | (refine Rt.mk ?_; refine And.intro ?_ ?_ <;> (intro hg; first | exact absurd hg (by decide) | refine Sm.out ?_))
          | (refine Nu.mk ?_; first | (fail_if_success (have := nb1)); intro nb1 | (fail_if_success (have := nb2)); intro nb2 | (fail_if_success (have := nb3)); intro nb3 | intro nbz)
          | (refine Fr.mk ?_; intro hfr; replace FR := And.intro hfr FR; clear hfr; refine Sm.out ?_)
          | (refine Two.mk ?_ ?_)
          | (refine Cs.mk ?_; intro hcs; first | exact False.elim hcs | (exfalso; omega) | (refine Sm.out ?_))
          | go_step
          | omega
          | (simp only [maxLen_eq]; omega))
    all_goals (refine OutQ.all ?_ ?_; (focus (simp only [resv, ZK, look, loadv, loadn, loadnm, load1, load1m, hget, ↓reduceIte, Nat.reduceEqDiff, Nat.reduceAdd, Nat.reduceMul, Nat.reduceLeDiff, Nat.reduceLT, reduceCtorEq, TFExB, h])); (try simp only [resv, resA, Fn, ZK, look, loadv, loadn, loadnm, load1, load1m, hget, ↓reduceIte, Nat.reduceEqDiff, Nat.reduceAdd, Nat.reduceMul, Nat.reduceLeDiff, Nat.reduceLT, reduceCtorEq, TFExB, h]); (try simp [resA, Fn, look, h]))
  · have k : decide ((i : Int) < l.length) = false := by simpa using h
    have e : bitA l i = 0 := by unfold bitA; rw [if_neg (by omega)]
    have e2 : (bl l).getD i .any = .any := by simp [List.getD, List.getElem?_eq_none (show l.length ≤ i by omega)]
    first | (have FRx := FR; clear FRx) | (have FR : ¬ ((1 : Nat) = 0) := Nat.one_ne_zero)
    repeat' first
      | (refine Sm.mk ?_; try simp -dsimp only [ZK, rvc, drawF, headN, pureH, stp, dvc, calleeOf, gcall, pev, eff, newB, okd, og, ogs, ogo, ogp, slv, bltv, opd, litv, strip, one, both, putE, St.put, look, gdOf, gdv, picka, pickv, pickw, binv, bini, bins, binb, binp, binq, isSlT, bina, shp, eqCells, unv, convv, nilv, faddv, addp, idxav, idxp, load1, load1m, loadn, loadnm, loadv, hget, hset, hrep, hdel, slicev, bnd, shift1, lenv, capv, IntKind.bits, extractv, fieldv, indexv, min2v, max2v, mkiv, cellsA, fillA, buildv, stC, oneC, rowMB, intsA, plN, appE, appZ, appC, appNZ, appNC, VwL, srcC, srcZ, srcM, isBoolT, isPtrT, isSliceT, uOk, Value.oneCell', Nat.reducePow, Int.reducePow, Nat.reduceAdd, Nat.reduceMul, Nat.reduceSub, Nat.reduceLT, Nat.reduceLeDiff, Nat.reduceEqDiff, Nat.reduceBEq, Nat.reduceDiv, Nat.reduceMod, ↓reduceIte, reduceCtorEq, Int.reduceToNat, Int.reduceLT, Int.reduceLE, TFExB, SeqQ, BlkQ, LoopQ, BodyQ, k, e, e2, FR])
      | (refine WP.seq fun K hK => ?_)
      | (refine WP.region (rvc_sound _ _ (Sm.out ?_)))
      | (refine WP.drawK rfl mixed (by decide +kernel) (Sm.out ?_))
      | (refine Ob.mk ?_; focus (first | assumption | omega | decide | trivial | (intro hob; simp only [hob, ZF]; done) | (intros; (repeat' refine And.intro ?_ ?_) <;> first | assumption | omega | trivial | decide) | (intros; simp only [ZE] at *; (repeat' refine And.intro ?_ ?_) <;> first | assumption | omega | trivial)))
      | (refine And.intro (Ob.out ?_) ?_)
      | (refine WP.block ?_)
      | (refine WP.cond rfl (fun hc => ?_) (fun hc => ?_) <;> (try simp only [ZC, reduceCtorEq, ZD] at hc) <;> (try (exact absurd hc (by decide))) <;> (try (exfalso; omega)))
      | ((first | refine WP.skip ?_ | refine WP.exit ?_); simp only [SeqQ, BlkQ, LoopQ, BodyQ, ↓reduceIte, Nat.reduceEqDiff, reduceCtorEq, look, true_and])
      | (refine WP.ret (Sm.out ?_))
      | (first | refine ExG.no (Sm.out ?_) | refine Or.inl (ExG.no (Sm.out ?_)) | refine Or.inl (And.intro (fun hg => absurd hg (by decide)) (ExG.no (Sm.out ?_))))
      | (refine Rt.mk ?_; refine And.intro ?_ ?_ <;> (intro hg; first | exact absurd hg (by decide) | refine Sm.out ?_))
      | (refine Nu.mk ?_; first | (fail_if_success (have := nb1)); intro nb1 | (fail_if_success (have := nb2)); intro nb2 | (fail_if_success (have := nb3)); intro nb3 | intro nbz)
      | (refine Fr.mk ?_; intro hfr; replace FR := And.intro hfr FR; clear hfr; refine Sm.out ?_)
      | (refine Two.mk ?_ ?_)
      | (refine Cs.mk ?_; intro hcs; first | exact False.elim hcs | (exfalso; omega) | (refine Sm.out ?_))
      | (refine OutQ.all ?_ ?_; (focus (simp only [resv, ZK, look, loadv, loadn, loadnm, load1, load1m, hget, ↓reduceIte, Nat.reduceEqDiff, Nat.reduceAdd, Nat.reduceMul, Nat.reduceLeDiff, Nat.reduceLT, reduceCtorEq, TFExB, k, e, e2, FR])); (try simp only [resv, resA, Fn, ZK, look, loadv, loadn, loadnm, load1, load1m, hget, ↓reduceIte, Nat.reduceEqDiff, Nat.reduceAdd, Nat.reduceMul, Nat.reduceLeDiff, Nat.reduceLT, reduceCtorEq, TFExB, k, e, e2, FR]); (try simp [resA, Fn, look, k, e, e2, FR]); done)
      | go_step
      | omega
      | (simp only [maxLen_eq]; omega)
end Go.Proofs.YtocfaghflhgeeaaDoor
namespace Go.Proofs.YtocfaghflhgeeaaDoor
open Go
set_option linter.unusedVariables false
set_option linter.unusedSimpArgs false
theorem TFExF : (((((type_of% tyc0) ∧ ((type_of% tyc3) ∧ (type_of% zmb3))) ∧ (((type_of% tyc4) ∧ (type_of% zmb4)) ∧ ((type_of% tyc22) ∧ (type_of% zmb22)))) ∧ ((((type_of% tyc26) ∧ (type_of% foff26_0)) ∧ ((type_of% fpart26_0) ∧ (type_of% foff26_1))) ∧ (((type_of% fpart26_1) ∧ (type_of% fe26)) ∧ ((type_of% zmb26) ∧ (type_of% bldT26))))) ∧ (((((type_of% tyc32) ∧ (type_of% elt32)) ∧ ((type_of% mkz32) ∧ (type_of% mkc32))) ∧ (((type_of% apT32) ∧ (type_of% elk32)) ∧ ((type_of% zmb32) ∧ (type_of% tyc52)))) ∧ ((((type_of% zmb52) ∧ (type_of% Tryd.underlying0)) ∧ ((type_of% Tryd.underlying3) ∧ (type_of% Tryd.underlying4))) ∧ (((type_of% Tryd.underlying22) ∧ (type_of% Tryd.underlying26)) ∧ ((type_of% Tryd.underlying32) ∧ (type_of% Tryd.underlying52)))))) :=
  ⟨⟨⟨⟨tyc0, ⟨tyc3, zmb3⟩⟩, ⟨⟨tyc4, zmb4⟩, ⟨tyc22, zmb22⟩⟩⟩, ⟨⟨⟨tyc26, foff26_0⟩, ⟨fpart26_0, foff26_1⟩⟩, ⟨⟨fpart26_1, fe26⟩, ⟨zmb26, bldT26⟩⟩⟩⟩, ⟨⟨⟨⟨tyc32, elt32⟩, ⟨mkz32, mkc32⟩⟩, ⟨⟨apT32, elk32⟩, ⟨zmb32, tyc52⟩⟩⟩, ⟨⟨⟨zmb52, Tryd.underlying0⟩, ⟨Tryd.underlying3, Tryd.underlying4⟩⟩, ⟨⟨Tryd.underlying22, Tryd.underlying26⟩, ⟨Tryd.underlying32, Tryd.underlying52⟩⟩⟩⟩⟩
theorem bitsN_bl (n i : Nat) : bl (bitsN n i) ++ [bv (decide (n / 2 ^ i % 2 = 1))] = bl (bitsN n (i + 1)) := by rw [bitsN_succ]; simp
theorem bitsN_bl_len (n i : Nat) : (bl (bitsN n i)).length = i := by simp [bitsN]
theorem tmod_nat (a b : Nat) : (a : Int).tmod (b : Int) = ((a % b : Nat) : Int) := by rw [Int.tmod_eq_emod_of_nonneg (by omega)]; simp
theorem fdiv_pow (a k : Nat) : (a : Int).fdiv (2 ^ k) = ((a / 2 ^ k : Nat) : Int) := by
  rw [Int.fdiv_eq_ediv_of_nonneg _ (by exact Int.le_of_lt (Int.pow_pos (by omega)))]; simp
theorem bit_lo (h l i : Nat) (hi : i < 64) : (h * 18446744073709551616 + l) / 2 ^ i % 2 = l / 2 ^ i % 2 := by
  have e : h * 18446744073709551616 = 2 ^ i * (2 * (h * 2 ^ (63 - i))) := by
    have : (18446744073709551616 : Nat) = 2 ^ i * (2 * 2 ^ (63 - i)) := by
      rw [← Nat.pow_succ', ← Nat.pow_add, show i + (63 - i + 1) = 64 by omega]
    rw [this]; ac_rfl
  rw [e, Nat.mul_add_div (Nat.two_pow_pos i)]; omega
theorem bit_hi (h l i : Nat) (hl : l < 18446744073709551616) (hi : 64 ≤ i) : (h * 18446744073709551616 + l) / 2 ^ i % 2 = h / 2 ^ (i - 64) % 2 := by
  have e : 2 ^ i = 18446744073709551616 * 2 ^ (i - 64) := by
    rw [show (18446744073709551616 : Nat) = 2 ^ 64 from rfl, ← Nat.pow_add, show 64 + (i - 64) = i by omega]
  rw [e, ← Nat.div_div_eq_div_mul, show (h * 18446744073709551616 + l) / 18446744073709551616 = h by omega]
structure BG where
  i : Nat
  b : Nat
  cap : Nat
set_option maxRecDepth 8000 in
set_option maxHeartbeats 1000000 in
theorem bits_ct (h l : Nat) (hh : h < 18446744073709551616) (hl : l < 18446744073709551616) :
    ACt Tryd.prog 9 [.agg [nu h, nu l]] [] (Fn (.sl 128 (bl (bitsN (h * 18446744073709551616 + l) 128)))) := by
  refine ACt.intro Tryd.func9 rfl (by kernel_rfl) (by simp [Tryd.ntmps9]) (fun cx => ?_)
  simp only [argE, Tryd.ntmps9, Tryd.results9]
  first | (have FRx := FR; clear FRx) | (have FR : ¬ ((1 : Nat) = 0) := Nat.one_ne_zero)
  repeat' first
    | (refine Sm.mk ?_; try simp -dsimp only [ZK, rvc, drawF, headN, pureH, stp, dvc, calleeOf, gcall, pev, eff, newB, okd, og, ogs, ogo, ogp, slv, bltv, opd, litv, strip, one, both, putE, St.put, look, gdOf, gdv, picka, pickv, pickw, binv, bini, bins, binb, binp, binq, isSlT, bina, shp, eqCells, unv, convv, nilv, faddv, addp, idxav, idxp, load1, load1m, loadn, loadnm, loadv, hget, hset, hrep, hdel, slicev, bnd, shift1, lenv, capv, IntKind.bits, extractv, fieldv, indexv, min2v, max2v, mkiv, cellsA, fillA, buildv, stC, oneC, rowMB, intsA, plN, appE, appZ, appC, appNZ, appNC, VwL, srcC, srcZ, srcM, isBoolT, isPtrT, isSliceT, uOk, Value.oneCell', Nat.reducePow, Int.reducePow, Nat.reduceAdd, Nat.reduceMul, Nat.reduceSub, Nat.reduceLT, Nat.reduceLeDiff, Nat.reduceEqDiff, Nat.reduceBEq, Nat.reduceDiv, Nat.reduceMod, ↓reduceIte, reduceCtorEq, Int.reduceToNat, Int.reduceLT, Int.reduceLE, TFExF, SeqQ, BlkQ, LoopQ, BodyQ, FR])
    | (refine WP.seq fun K hK => ?_)
    | (refine WP.region (rvc_sound _ _ (Sm.out ?_)))
    | (refine WP.drawK rfl mixed (by decide +kernel) (Sm.out ?_))
    | (refine Ob.mk ?_; focus (first | assumption | omega | decide | trivial | (intro hob; simp only [hob, ZF]; done) | (intros; (repeat' refine And.intro ?_ ?_) <;> first | assumption | omega | trivial | decide) | (intros; simp only [ZE] at *; (repeat' refine And.intro ?_ ?_) <;> first | assumption | omega | trivial)))
    | (refine And.intro (Ob.out ?_) ?_)
    | (refine WP.block ?_)
    | (refine WP.cond rfl (fun hc => ?_) (fun hc => ?_) <;> (try simp only [ZC, reduceCtorEq, ZD] at hc) <;> (try (exact absurd hc (by decide))) <;> (try (exfalso; omega)))
    | ((first | refine WP.skip ?_ | refine WP.exit ?_); simp only [SeqQ, BlkQ, LoopQ, BodyQ, ↓reduceIte, Nat.reduceEqDiff, reduceCtorEq, look, true_and])
    | (refine WP.ret (Sm.out ?_))
    | (first | refine ExG.no (Sm.out ?_) | refine Or.inl (ExG.no (Sm.out ?_)) | refine Or.inl (And.intro (fun hg => absurd hg (by decide)) (ExG.no (Sm.out ?_))))
    | (refine Rt.mk ?_; refine And.intro ?_ ?_ <;> (intro hg; first | exact absurd hg (by decide) | refine Sm.out ?_))
    | (refine Nu.mk ?_; first | (fail_if_success (have := nb1)); intro nb1 | (fail_if_success (have := nb2)); intro nb2 | (fail_if_success (have := nb3)); intro nb3 | (fail_if_success (have := nb4)); intro nb4 | (fail_if_success (have := nb5)); intro nb5 | intro nbz)
    | (refine Fr.mk ?_; intro hfr; replace FR := And.intro hfr FR; clear hfr; refine Sm.out ?_)
    | (refine Two.mk ?_ ?_)
    | (refine Cs.mk ?_; intro hcs; first | exact False.elim hcs | (exfalso; omega) | (refine Sm.out ?_))
    | go_step
    | omega
    | (simp only [maxLen_eq]; omega)
  refine WP.loop (Γ := BG) (fun g => ⟨[(4, iv .i64 g.i), (3, ms g.b 0 g.i g.cap), (1, pt nb1 0)], [(g.b, .cells (bl (bitsN (h * 18446744073709551616 + l) g.i)) g.cap 4), (nb1, .cells [nu h, nu l] 2 26)]⟩)
    (fun g => g.i ≤ 128 ∧ g.i ≤ g.cap ∧ g.cap ≤ 9223372036854775807) (fun g => 128 - g.i) ⟨0, nb2, 0⟩ ⟨by simp, by simp, by simp⟩ (Sub.pick (by simp [pickB, hget, hdel, FR, bitsN, bl]) (by simp [look, bitsN, bl])) ?_
  intro ⟨i, b, cap⟩ ⟨h1, h2, h3⟩
  simp only at h1 h2 h3 ⊢
  (refine WP.nd fun hnd => ?_; simp only [ndF, fresh_cons, fresh_nil, and_true, ne_eq] at hnd; replace FR := And.intro hnd FR; clear hnd)
  by_cases hi : i < 128
  · have k1 : decide ((i : Int) < 128) = true := by simp; omega
    have g1 : IntKind.i64.wrap ((i : Int) + 1) = ((i + 1 : Nat) : Int) := by rw [wrap_i64 (by omega) (by omega)]; omega
    have m1 : (i : Int).tmod 64 = ((i % 64 : Nat) : Int) := tmod_nat i 64
    have m2 : IntKind.i64.wrap ((i % 64 : Nat) : Int) = ((i % 64 : Nat) : Int) := wrap_i64_nat (by omega)
    have m3 : IntKind.u64.wrap ((i % 64 : Nat) : Int) = ((i % 64 : Nat) : Int) := wrap_u64_nat (by omega)
    have m4 : i % 64 ≤ 64 := by omega
    have m5 : ∀ a : Nat, ((a / 2 ^ (i % 64) : Nat) : Int).tmod 2 = ((a / 2 ^ (i % 64) % 2 : Nat) : Int) := fun a => tmod_nat _ 2
    have m6 : ∀ a : Nat, IntKind.u64.wrap ((a % 2 : Nat) : Int) = ((a % 2 : Nat) : Int) := fun a => wrap_u64_nat (by omega)
    have m7 : ∀ a : Nat, (((a % 2 : Nat) : Int) == 1) = decide (a % 2 = 1) := fun a => by
      by_cases ha : a % 2 = 1
      · rw [ha]; rfl
      · rw [decide_eq_false ha]; exact beq_eq_false_iff_ne.2 (by omega)
    have m8 : ∀ a : Nat, (a : Int).fdiv (2 ^ (i % 64)) = ((a / 2 ^ (i % 64) : Nat) : Int) := fun a => fdiv_pow a _
    have e1 := bitsN_bl (h * 18446744073709551616 + l) i
    by_cases h64 : i < 64
    · have k2 : decide ((i : Int) ≥ 64) = false := by simp; omega
      rw [bit_lo h l i h64] at e1
      rw [← Nat.mod_eq_of_lt h64] at e1
      have e2 := bitsN_bl_len (h * 18446744073709551616 + l) i
      have e4 : i % 64 % 64 = i % 64 := Nat.mod_mod _ _
      have e3 : bl (bitsN (h * 18446744073709551616 + l) i) ++ [bv (decide (l / 2 ^ (i % 64) % 2 = 1))] = bl (bitsN (h * 18446744073709551616 + l) (i + 1)) := by
        have := bitsN_bl (h * 18446744073709551616 + l) i
        rw [bit_lo h l i h64] at this
        rw [Nat.mod_eq_of_lt h64]; exact this
      first | (have FRx := FR; clear FRx) | (have FR : ¬ ((1 : Nat) = 0) := Nat.one_ne_zero)
      repeat' first
        | (refine Sm.mk ?_; try simp -dsimp only [ZK, rvc, drawF, headN, pureH, stp, dvc, calleeOf, gcall, pev, eff, newB, okd, og, ogs, ogo, ogp, slv, bltv, opd, litv, strip, one, both, putE, St.put, look, gdOf, gdv, picka, pickv, pickw, binv, bini, bins, binb, binp, binq, isSlT, bina, shp, eqCells, unv, convv, nilv, faddv, addp, idxav, idxp, load1, load1m, loadn, loadnm, loadv, hget, hset, hrep, hdel, slicev, bnd, shift1, lenv, capv, IntKind.bits, extractv, fieldv, indexv, min2v, max2v, mkiv, cellsA, fillA, buildv, stC, oneC, rowMB, intsA, plN, appE, appZ, appC, appNZ, appNC, VwL, srcC, srcZ, srcM, isBoolT, isPtrT, isSliceT, uOk, Value.oneCell', Nat.reducePow, Int.reducePow, Nat.reduceAdd, Nat.reduceMul, Nat.reduceSub, Nat.reduceLT, Nat.reduceLeDiff, Nat.reduceEqDiff, Nat.reduceBEq, Nat.reduceDiv, Nat.reduceMod, ↓reduceIte, reduceCtorEq, Int.reduceToNat, Int.reduceLT, Int.reduceLE, TFExF, SeqQ, BlkQ, LoopQ, BodyQ, k1, k2, g1, m1, m2, m3, m4, m5, m6, m7, m8, e2, e3, FR])
        | (refine WP.seq fun K hK => ?_)
        | (refine WP.region (rvc_sound _ _ (Sm.out ?_)))
        | (refine WP.drawK rfl mixed (by decide +kernel) (Sm.out ?_))
        | (refine Ob.mk ?_; focus (first | assumption | omega | decide | trivial | (intro hob; simp only [hob, ZF]; done) | (intros; (repeat' refine And.intro ?_ ?_) <;> first | assumption | omega | trivial | decide) | (intros; simp only [ZE] at *; (repeat' refine And.intro ?_ ?_) <;> first | assumption | omega | trivial)))
        | (refine And.intro (Ob.out ?_) ?_)
        | (refine WP.block ?_)
        | (refine WP.cond rfl (fun hc => ?_) (fun hc => ?_) <;> (try simp only [ZC, reduceCtorEq, ZD] at hc) <;> (try (exact absurd hc (by decide))) <;> (try (exfalso; omega)))
        | ((first | refine WP.skip ?_ | refine WP.exit ?_); simp only [SeqQ, BlkQ, LoopQ, BodyQ, ↓reduceIte, Nat.reduceEqDiff, reduceCtorEq, look, true_and])
        | (refine WP.ret (Sm.out ?_))
        | (first | refine ExG.no (Sm.out ?_) | refine Or.inl (ExG.no (Sm.out ?_)) | refine Or.inl (And.intro (fun hg => absurd hg (by decide)) (ExG.no (Sm.out ?_))))
        | (refine Rt.mk ?_; refine And.intro ?_ ?_ <;> (intro hg; first | exact absurd hg (by decide) | refine Sm.out ?_))
        | (refine Nu.mk ?_; first | (fail_if_success (have := nb1)); intro nb1 | (fail_if_success (have := nb2)); intro nb2 | (fail_if_success (have := nb3)); intro nb3 | (fail_if_success (have := nb4)); intro nb4 | (fail_if_success (have := nb5)); intro nb5 | intro nbz)
        | (refine Fr.mk ?_; intro hfr; replace FR := And.intro hfr FR; clear hfr; refine Sm.out ?_)
        | (refine Two.mk ?_ ?_)
        | (refine Cs.mk ?_; intro hcs; first | exact False.elim hcs | (exfalso; omega) | (refine Sm.out ?_))
        | go_step
        | omega
        | (simp only [maxLen_eq]; omega)
      exact ⟨⟨i + 1, nb4, nb5⟩, ⟨by simp only; omega, by simp only; omega, by simp only; omega⟩, by simp only; omega, (Sub.pick (by simp [pickB, hget, hdel, FR]) (by simp [look]))⟩
    · have k2 : decide ((i : Int) ≥ 64) = true := by simp; omega
      have e2 := bitsN_bl_len (h * 18446744073709551616 + l) i
      have e3 : bl (bitsN (h * 18446744073709551616 + l) i) ++ [bv (decide (h / 2 ^ (i % 64) % 2 = 1))] = bl (bitsN (h * 18446744073709551616 + l) (i + 1)) := by
        have := bitsN_bl (h * 18446744073709551616 + l) i
        rw [bit_hi h l i hl (by omega)] at this
        rw [show i % 64 = i - 64 by omega]; exact this
      first | (have FRx := FR; clear FRx) | (have FR : ¬ ((1 : Nat) = 0) := Nat.one_ne_zero)
      repeat' first
        | (refine Sm.mk ?_; try simp -dsimp only [ZK, rvc, drawF, headN, pureH, stp, dvc, calleeOf, gcall, pev, eff, newB, okd, og, ogs, ogo, ogp, slv, bltv, opd, litv, strip, one, both, putE, St.put, look, gdOf, gdv, picka, pickv, pickw, binv, bini, bins, binb, binp, binq, isSlT, bina, shp, eqCells, unv, convv, nilv, faddv, addp, idxav, idxp, load1, load1m, loadn, loadnm, loadv, hget, hset, hrep, hdel, slicev, bnd, shift1, lenv, capv, IntKind.bits, extractv, fieldv, indexv, min2v, max2v, mkiv, cellsA, fillA, buildv, stC, oneC, rowMB, intsA, plN, appE, appZ, appC, appNZ, appNC, VwL, srcC, srcZ, srcM, isBoolT, isPtrT, isSliceT, uOk, Value.oneCell', Nat.reducePow, Int.reducePow, Nat.reduceAdd, Nat.reduceMul, Nat.reduceSub, Nat.reduceLT, Nat.reduceLeDiff, Nat.reduceEqDiff, Nat.reduceBEq, Nat.reduceDiv, Nat.reduceMod, ↓reduceIte, reduceCtorEq, Int.reduceToNat, Int.reduceLT, Int.reduceLE, TFExF, SeqQ, BlkQ, LoopQ, BodyQ, k1, k2, g1, m1, m2, m3, m4, m5, m6, m7, m8, e2, e3, FR])
        | (refine WP.seq fun K hK => ?_)
        | (refine WP.region (rvc_sound _ _ (Sm.out ?_)))
        | (refine WP.drawK rfl mixed (by decide +kernel) (Sm.out ?_))
        | (refine Ob.mk ?_; focus (first | assumption | omega | decide | trivial | (intro hob; simp only [hob, ZF]; done) | (intros; (repeat' refine And.intro ?_ ?_) <;> first | assumption | omega | trivial | decide) | (intros; simp only [ZE] at *; (repeat' refine And.intro ?_ ?_) <;> first | assumption | omega | trivial)))
        | (refine And.intro (Ob.out ?_) ?_)
        | (refine WP.block ?_)
        | (refine WP.cond rfl (fun hc => ?_) (fun hc => ?_) <;> (try simp only [ZC, reduceCtorEq, ZD] at hc) <;> (try (exact absurd hc (by decide))) <;> (try (exfalso; omega)))
        | ((first | refine WP.skip ?_ | refine WP.exit ?_); simp only [SeqQ, BlkQ, LoopQ, BodyQ, ↓reduceIte, Nat.reduceEqDiff, reduceCtorEq, look, true_and])
        | (refine WP.ret (Sm.out ?_))
        | (first | refine ExG.no (Sm.out ?_) | refine Or.inl (ExG.no (Sm.out ?_)) | refine Or.inl (And.intro (fun hg => absurd hg (by decide)) (ExG.no (Sm.out ?_))))
        | (refine Rt.mk ?_; refine And.intro ?_ ?_ <;> (intro hg; first | exact absurd hg (by decide) | refine Sm.out ?_))
        | (refine Nu.mk ?_; first | (fail_if_success (have := nb1)); intro nb1 | (fail_if_success (have := nb2)); intro nb2 | (fail_if_success (have := nb3)); intro nb3 | (fail_if_success (have := nb4)); intro nb4 | (fail_if_success (have := nb5)); intro nb5 | intro nbz)
        | (refine Fr.mk ?_; intro hfr; replace FR := And.intro hfr FR; clear hfr; refine Sm.out ?_)
        | (refine Two.mk ?_ ?_)
        | (refine Cs.mk ?_; intro hcs; first | exact False.elim hcs | (exfalso; omega) | (refine Sm.out ?_))
        | go_step
        | omega
        | (simp only [maxLen_eq]; omega)
      exact ⟨⟨i + 1, nb4, nb5⟩, ⟨by simp only; omega, by simp only; omega, by simp only; omega⟩, by simp only; omega, (Sub.pick (by simp [pickB, hget, hdel, FR]) (by simp [look]))⟩
  · have k1 : decide ((i : Int) < 128) = false := by simp; omega
    obtain rfl : i = 128 := by omega
    have e2 := bitsN_bl_len (h * 18446744073709551616 + l) 128
    have e5 : (bl (bitsN (h * 18446744073709551616 + l) 128)).take 128 = bl (bitsN (h * 18446744073709551616 + l) 128) := List.take_of_length_le (by rw [e2]; omega)
    first | (have FRx := FR; clear FRx) | (have FR : ¬ ((1 : Nat) = 0) := Nat.one_ne_zero)
    repeat' first
      | (refine Sm.mk ?_; try simp -dsimp only [ZK, rvc, drawF, headN, pureH, stp, dvc, calleeOf, gcall, pev, eff, newB, okd, og, ogs, ogo, ogp, slv, bltv, opd, litv, strip, one, both, putE, St.put, look, gdOf, gdv, picka, pickv, pickw, binv, bini, bins, binb, binp, binq, isSlT, bina, shp, eqCells, unv, convv, nilv, faddv, addp, idxav, idxp, load1, load1m, loadn, loadnm, loadv, hget, hset, hrep, hdel, slicev, bnd, shift1, lenv, capv, IntKind.bits, extractv, fieldv, indexv, min2v, max2v, mkiv, cellsA, fillA, buildv, stC, oneC, rowMB, intsA, plN, appE, appZ, appC, appNZ, appNC, VwL, srcC, srcZ, srcM, isBoolT, isPtrT, isSliceT, uOk, Value.oneCell', Nat.reducePow, Int.reducePow, Nat.reduceAdd, Nat.reduceMul, Nat.reduceSub, Nat.reduceLT, Nat.reduceLeDiff, Nat.reduceEqDiff, Nat.reduceBEq, Nat.reduceDiv, Nat.reduceMod, ↓reduceIte, reduceCtorEq, Int.reduceToNat, Int.reduceLT, Int.reduceLE, TFExF, SeqQ, BlkQ, LoopQ, BodyQ, k1, e2, FR])
      | (refine WP.seq fun K hK => ?_)
      | (refine WP.region (rvc_sound _ _ (Sm.out ?_)))
      | (refine WP.drawK rfl mixed (by decide +kernel) (Sm.out ?_))
      | (refine Ob.mk ?_; focus (first | assumption | omega | decide | trivial | (intro hob; simp only [hob, ZF]; done) | (intros; (repeat' refine And.intro ?_ ?_) <;> first | assumption | omega | trivial | decide) | (intros; simp only [ZE] at *; (repeat' refine And.intro ?_ ?_) <;> first | assumption | omega | trivial)))
      | (refine And.intro (Ob.out ?_) ?_)
      | (refine WP.block ?_)
      | (refine WP.cond rfl (fun hc => ?_) (fun hc => ?_) <;> (try simp only [ZC, reduceCtorEq, ZD] at hc) <;> (try (exact absurd hc (by decide))) <;> (try (exfalso; omega)))
      | ((first | refine WP.skip ?_ | refine WP.exit ?_); simp only [SeqQ, BlkQ, LoopQ, BodyQ, ↓reduceIte, Nat.reduceEqDiff, reduceCtorEq, look, true_and])
      | (refine WP.ret (Sm.out ?_))
      | (first | refine ExG.no (Sm.out ?_) | refine Or.inl (ExG.no (Sm.out ?_)) | refine Or.inl (And.intro (fun hg => absurd hg (by decide)) (ExG.no (Sm.out ?_))))
      | (refine Rt.mk ?_; refine And.intro ?_ ?_ <;> (intro hg; first | exact absurd hg (by decide) | refine Sm.out ?_))
      | (refine Nu.mk ?_; first | (fail_if_success (have := nb1)); intro nb1 | (fail_if_success (have := nb2)); intro nb2 | (fail_if_success (have := nb3)); intro nb3 | (fail_if_success (have := nb4)); intro nb4 | (fail_if_success (have := nb5)); intro nb5 | intro nbz)
      | (refine Fr.mk ?_; intro hfr; replace FR := And.intro hfr FR; clear hfr; refine Sm.out ?_)
      | (refine Two.mk ?_ ?_)
      | (refine Cs.mk ?_; intro hcs; first | exact False.elim hcs | (exfalso; omega) | (refine Sm.out ?_))
      | go_step
      | omega
      | (simp only [maxLen_eq]; omega)
    (refine OutQ.wk (Wk.freezeC (b) (1) (by simp only [ZK, rvc, drawF, headN, pureH, stp, dvc, calleeOf, gcall, pev, eff, newB, okd, og, ogs, ogo, ogp, slv, bltv, opd, litv, strip, one, both, putE, St.put, look, gdOf, gdv, picka, pickv, pickw, binv, bini, bins, binb, binp, binq, isSlT, bina, shp, eqCells, unv, convv, nilv, faddv, addp, idxav, idxp, load1, load1m, loadn, loadnm, loadv, hget, hset, hrep, hdel, slicev, bnd, shift1, lenv, capv, IntKind.bits, extractv, fieldv, indexv, min2v, max2v, mkiv, cellsA, fillA, buildv, stC, oneC, rowMB, intsA, plN, appE, appZ, appC, appNZ, appNC, VwL, srcC, srcZ, srcM, isBoolT, isPtrT, isSliceT, uOk, Value.oneCell', Nat.reducePow, Int.reducePow, Nat.reduceAdd, Nat.reduceMul, Nat.reduceSub, Nat.reduceLT, Nat.reduceLeDiff, Nat.reduceEqDiff, Nat.reduceBEq, Nat.reduceDiv, Nat.reduceMod, ↓reduceIte, reduceCtorEq, Int.reduceToNat, Int.reduceLT, Int.reduceLE, TFExF, SeqQ, BlkQ, LoopQ, BodyQ, e2, e5, h2, h3, FR]; first | done | rfl)) ?_; simp only [frzCE, frzC, ZK, rvc, drawF, headN, pureH, stp, dvc, calleeOf, gcall, pev, eff, newB, okd, og, ogs, ogo, ogp, slv, bltv, opd, litv, strip, one, both, putE, St.put, look, gdOf, gdv, picka, pickv, pickw, binv, bini, bins, binb, binp, binq, isSlT, bina, shp, eqCells, unv, convv, nilv, faddv, addp, idxav, idxp, load1, load1m, loadn, loadnm, loadv, hget, hset, hrep, hdel, slicev, bnd, shift1, lenv, capv, IntKind.bits, extractv, fieldv, indexv, min2v, max2v, mkiv, cellsA, fillA, buildv, stC, oneC, rowMB, intsA, plN, appE, appZ, appC, appNZ, appNC, VwL, srcC, srcZ, srcM, isBoolT, isPtrT, isSliceT, uOk, Value.oneCell', Nat.reducePow, Int.reducePow, Nat.reduceAdd, Nat.reduceMul, Nat.reduceSub, Nat.reduceLT, Nat.reduceLeDiff, Nat.reduceEqDiff, Nat.reduceBEq, Nat.reduceDiv, Nat.reduceMod, ↓reduceIte, reduceCtorEq, Int.reduceToNat, Int.reduceLT, Int.reduceLE, TFExF, SeqQ, BlkQ, LoopQ, BodyQ, e2, e5, h2, h3, FR])
    (refine OutQ.all ?_ ?_; (focus (simp only [resv, ZK, look, loadv, loadn, loadnm, load1, load1m, hget, ↓reduceIte, Nat.reduceEqDiff, Nat.reduceAdd, Nat.reduceMul, Nat.reduceLeDiff, Nat.reduceLT, reduceCtorEq, TFExF])); (try simp only [resv, resA, Fn, ZK, look, loadv, loadn, loadnm, load1, load1m, hget, ↓reduceIte, Nat.reduceEqDiff, Nat.reduceAdd, Nat.reduceMul, Nat.reduceLeDiff, Nat.reduceLT, reduceCtorEq, TFExF]); (try simp [resA, Fn, look]))
end Go.Proofs.YtocfaghflhgeeaaDoor
