/-
  Lending: a callee that only reads may look at blocks that are ours, as rows and cells that nobody writes. Calls through an interface. Weakenings of what is known.
-/
import Derived.Test.YtbnkmhlnoaebcaaLayN
namespace Go.Proofs.Ytbnkmhlnoaebcaa
open Go
set_option linter.unusedSimpArgs false
set_option linter.unusedVariables false

/-- What does not hang on memory. -/
def clA : AV → Bool
  | .lit _ => true
  | .any => true
  | .agg cs => clL cs
  | .tup cs => clL cs
  | .ifc _ x => clA x
  | _ => false
where clL : List AV → Bool
  | [] => true
  | x :: r => clA x && clL r

theorem clL_get : ∀ {cs : List AV} (i : Nat) (hi : i < cs.length), clA.clL cs = true → clA cs[i] = true
  | x :: r, 0, _, h => by simp only [clA.clL, Bool.and_eq_true] at h; exact h.1
  | x :: r, i + 1, hi, h => by
    simp only [clA.clL, Bool.and_eq_true] at h
    exact clL_get (cs := r) i (by simpa using hi) h.2

theorem Rep.closed {w w' : World} {I I' : Nat → Prop} {v : Value} {x : AV} (h : Rep w I v x) : clA x = true → Rep w' I' v x := by
  induction h with
  | any v => exact fun _ => .any v
  | lit v => exact fun _ => .lit v
  | sl a n cap cs g hn hm h _ ih => intro hc; simp [clA] at hc
  | slz a k zs cap hn hm h => intro hc; simp [clA] at hc
  | ip ad cs g h _ ih => intro hc; simp [clA] at hc
  | ipz ad k zs h => intro hc; simp [clA] at hc
  | agg vs cs hs _ ih => exact fun hc => .agg vs cs hs fun i hi => ih i hi (clL_get i hi (by simpa [clA] using hc))
  | tup vs cs hs _ ih => exact fun hc => .tup vs cs hs fun i hi => ih i hi (clL_get i hi (by simpa [clA] using hc))
  | ifc t v x _ ih => exact fun hc => .ifc t v x (ih (by simpa [clA] using hc))
  | gdt v x _ ih => intro hc; simp [clA] at hc
  | gdf x => intro hc; simp [clA] at hc

theorem hget_perm {b : Nat} {m : MB} : ∀ {H : Hp}, hget H b = some m → H.Perm ([(b, m)] ++ hdel H b)
  | [], h => by cases h
  | (b0, m0) :: r, h => by
    simp only [hget, hdel] at h ⊢
    split at h
    · rename_i he; subst he; cases h; simp
    · rename_i he
      rw [if_neg he]
      have := hget_perm (H := r) h
      exact (List.Perm.cons _ this).trans (List.Perm.swap ..)

/-! ## Views -/

/-- x, looked at through blocks of H that nobody writes for a while, is y. -/
inductive Vw (H : Hp) : AV → AV → Prop
  | same (x : AV) : Vw H x x
  | row {b off n cap sz ty : Nat} {k : IntKind} {zs : List Int} (hg : hget H b = some (.zs k zs sz ty)) (h1 : off + n ≤ zs.length) (h2 : n ≤ cap) (h3 : cap ≤ maxLen) :
      Vw H (ms b off n cap) (.slz k ((zs.drop off).take n))
  | rowc {b off n cap sz ty : Nat} {cs ds : List AV} (hg : hget H b = some (.cells cs sz ty)) (h1 : off + ds.length ≤ cs.length) (h2 : n ≤ cap) (h3 : cap ≤ maxLen)
      (h : ∀ i (hi : i < ds.length), Vw H (cs.getD (off + i) .any) ds[i]) : Vw H (ms b off n cap) (.sl n ds)
  | ptc {b off sz ty : Nat} {cs ds : List AV} (hg : hget H b = some (.cells cs sz ty)) (h1 : off + ds.length ≤ cs.length)
      (h : ∀ i (hi : i < ds.length), Vw H (cs.getD (off + i) .any) ds[i]) : Vw H (pt b off) (.ip ds)
  | ptz {b off sz ty : Nat} {k : IntKind} {zs : List Int} (hg : hget H b = some (.zs k zs sz ty)) (h1 : off ≤ zs.length) : Vw H (pt b off) (.ipz k (zs.drop off))
  | agg {cs ds : List AV} (hl : ds.length = cs.length) (h : ∀ i (hi : i < ds.length), Vw H (cs.getD i .any) ds[i]) : Vw H (.agg cs) (.agg ds)
  | ifc {t : TypeId} {x y : AV} (h : Vw H x y) : Vw H (.ifc t x) (.ifc t y)
  | nils : Vw H (.lit (.slice none 0 0)) (.sl 0 [])

theorem Vw.rep {cx : Cx} {H : Hp} {w : World} {I' : Nat → Prop} (hw : OkW cx H w) (hlt : ∀ b, imm cx w H b → I' b) (hk : ∀ x ∈ H, I' x.1) {x y : AV} (h : Vw H x y) : ∀ {v : Value}, Rep w (imm cx w H) v x → Rep w I' v y := by
  induction h with
  | same x => exact fun hv => hv.mono fun b hb => ⟨hlt b hb, rfl⟩
  | @row b off n cap sz ty k zs hg h1 h2 h3 =>
    intro v hv
    have := hv.lit_inv; subst this
    obtain ⟨cur, c1, c2, c3, c4⟩ := hw.mem _ (hget_mem hg)
    have e : ((zs.drop off).take n).length = n := by simp; omega
    have : Rep w I' (.slice (some ⟨b, off, none⟩) ((zs.drop off).take n).length cap) (.slz k ((zs.drop off).take n)) := by
      refine .slz _ _ _ _ (by omega) h3 (.inr ⟨b, off, rfl, hk _ (hget_mem hg), fun i hi => ?_⟩)
      rw [e] at hi
      rw [cell_of_block c1, c4 _ (by omega)]
      simp [List.getD, List.getElem?_take, List.getElem?_drop, hi]
    rw [e] at this
    exact this
  | @rowc b off n cap sz ty cs ds hg h1 h2 h3 h ih =>
    intro v hv
    have := hv.lit_inv; subst this
    obtain ⟨cur, c1, c2, c3, c4⟩ := hw.mem _ (hget_mem hg)
    refine .sl _ _ _ _ (fun i => cur.getD (off + i) undef) h2 h3 (.inr ⟨b, off, rfl, hk _ (hget_mem hg), fun i hi => ?_⟩) fun i hi => ih i hi ?_
    · rw [cell_of_block c1]
      have : off + i < cur.size := by omega
      simp [this]
    · have h4 := c4 (off + i) (by omega)
      have : cs.getD (off + i) .any = cs[off + i]'(by omega) := by simp [List.getD, show off + i < cs.length by omega]
      rw [this]
      exact h4
  | @ptc b off sz ty cs ds hg h1 h ih =>
    intro v hv
    have := hv.lit_inv; subst this
    obtain ⟨cur, c1, c2, c3, c4⟩ := hw.mem _ (hget_mem hg)
    refine .ip _ _ (fun i => cur.getD (off + i) undef) (.inr ⟨b, off, rfl, hk _ (hget_mem hg), fun i hi => ?_⟩) fun i hi => ih i hi ?_
    · rw [cell_of_block c1]
      have : off + i < cur.size := by omega
      simp [this]
    · have h4 := c4 (off + i) (by omega)
      have : cs.getD (off + i) .any = cs[off + i]'(by omega) := by simp [List.getD, show off + i < cs.length by omega]
      rw [this]
      exact h4
  | @ptz b off sz ty k zs hg h1 =>
    intro v hv
    have := hv.lit_inv; subst this
    obtain ⟨cur, c1, c2, c3, c4⟩ := hw.mem _ (hget_mem hg)
    refine .ipz _ _ _ (.inr ⟨b, off, rfl, hk _ (hget_mem hg), fun i hi => ?_⟩)
    simp only [List.length_drop] at hi
    rw [cell_of_block c1, c4 _ (by omega)]
    simp [List.getD, List.getElem?_drop]
  | @agg cs ds hl h ih =>
    intro v hv
    cases hv with
    | agg vs cs hs r =>
      refine .agg vs ds (by omega) fun i hi => ih i hi ?_
      have hic : i < cs.length := by omega
      have : cs.getD i .any = cs[i] := by simp [List.getD, hic]
      rw [this]
      exact r i hic
  | ifc h ih =>
    intro v hv
    cases hv with
    | ifc t v x r => exact .ifc _ _ _ (ih r)
  | nils =>
    intro v hv
    have := hv.lit_inv; subst this
    exact .sl none 0 0 [] (fun _ => undef) (Nat.le_refl _) (Nat.zero_le _) (.inl rfl) (fun i hi => by simp at hi)

def VwL (H : Hp) : List AV → List AV → Prop
  | [], [] => True
  | x :: r, y :: s => Vw H x y ∧ VwL H r s
  | _, _ => False

theorem VwL.length {H : Hp} : ∀ {l m : List AV}, VwL H l m → m.length = l.length
  | [], [], _ => rfl
  | x :: r, y :: s, h => by simp [VwL.length h.2]
  | [], y :: s, h => h.elim
  | x :: r, [], h => h.elim

theorem VwL.get {H : Hp} : ∀ {l m : List AV}, VwL H l m → ∀ i, i < l.length → Vw H (l.getD i .any) (m.getD i .any)
  | x :: r, y :: s, h, 0, _ => by simpa using h.1
  | x :: r, y :: s, h, i + 1, hi => by simpa using VwL.get h.2 i (by simpa using hi)
  | [], [], _, i, hi => by simp at hi
  | [], y :: s, h, _, _ => h.elim
  | x :: r, [], h, _, _ => h.elim

/-- A callee that only reads, over blocks that are ours. -/
theorem ACt.view {P : Program} {f : FuncId} {args args' : List AV} {H : Hp} {x : AV} (h : ACt P f args' [] (Fn x)) (hc : clA x = true) (hv : VwL H args args') :
    ACt P f args H (fun r F' => r = x ∧ F' = H) := by
  intro cx vs hK hw hs hr
  have hlen := hv.length
  have := h ⟨cx.w0, fun b => b < cx.w0.heap.size, [], fun b hb => ⟨hb, by simp⟩⟩ vs rfl ⟨by simp, fun x hx => by simp at hx, fun x hx => by simp at hx, ⟨rfl, rfl, rfl, Nat.le_refl _, fun _ _ _ => rfl⟩⟩
    (by omega) (fun i hi => by
      have hi' : i < args.length := by omega
      exact (hv.get i hi').rep hw (fun b hb => imm_lt hw.ext.size hb) (fun x hx => keys_lt hw x hx) ((hr i hi').mono fun b hb => ⟨.inl hb, rfl⟩))
  refine this.mono ?_
  rintro e w' ⟨v, r, F', rfl, ⟨rfl, rfl⟩, hw', hrep⟩
  have hsame : ∀ b, b < cx.w0.heap.size → w'.heap[b]? = cx.w0.heap[b]? := fun b hb => hw'.ext.blk b hb (by simp)
  have hI : ∀ b, imm cx cx.w0 H b → imm cx w' H b ∧ w'.heap[b]? = cx.w0.heap[b]? := by
    intro b hb
    have hlt := imm_lt hw.ext.size hb
    refine ⟨?_, hsame b hlt⟩
    rcases hb with hb | ⟨h1, h2, h3⟩
    · exact .inl hb
    · exact .inr ⟨h1, by have := hw'.ext.size; simp only at this; omega, h3⟩
  refine ⟨v, _, H, rfl, ⟨rfl, rfl⟩, ⟨hw.nodup, hw.keys, fun y hy => (hw.mem y hy).mono hI (hsame _ (keys_lt hw y hy)), ?_⟩, hrep.closed hc⟩
  have e1 := hw.ext
  have e2 := hw'.ext
  exact ⟨e2.os.trans e1.os, e2.tape.trans e1.tape, e2.output.trans e1.output, Nat.le_trans e1.size e2.size, fun b hb hk => (hsame b hb).trans (e1.blk b hb hk)⟩

theorem CallV.view {P : Program} {f : FuncId} {args args' : List AV} {H : Hp} {x : AV} {post : AV → Hp → Prop} (h : ACt P f args' [] (Fn x)) (hc : clA x = true) (hv : VwL H args args') (hp : post x H) : CallV P f args H post :=
  ⟨H, [], _, by simp, h.view hc hv, by rintro r F' ⟨rfl, rfl⟩ _; simpa using hp⟩

/-- A callee that only reads a block of ours, which we give up for good: what comes back may look into it. -/
theorem ACt.frz {P : Program} {f : FuncId} {args args' : List AV} {b : Nat} {m : MB} {p : AV → Prop} (h : ACt P f args' [] (fun r F' => p r ∧ F' = [])) (hv : VwL [(b, m)] args args') :
    ACt P f args [(b, m)] (fun r F' => p r ∧ F' = []) := by
  intro cx vs hK hw hs hr
  have hlen := hv.length
  have hbl := keys_lt hw (b, m) (List.mem_cons_self ..)
  have hKb : cx.K = [b] := by rw [hK]; rfl
  have himm : ∀ c, imm cx cx.w0 [(b, m)] c → cx.I c := by
    rintro c (hc | ⟨h1, h2, h3⟩)
    · exact hc
    · have := h3 (b, m) (List.mem_cons_self ..)
      rcases h1 with h1 | h1
      · rw [hKb] at h1; simp at h1; exact absurd h1.symm this
      · omega
  have := h ⟨cx.w0, fun c => cx.I c ∨ c = b, [], fun c hc => ⟨by rcases hc with hc | rfl; exact (cx.hI c hc).1; exact hbl, by simp⟩⟩ vs rfl ⟨by simp, fun x hx => by simp at hx, fun x hx => by simp at hx, ⟨rfl, rfl, rfl, Nat.le_refl _, fun _ _ _ => rfl⟩⟩
    (by omega) (fun i hi => by
      have hi' : i < args.length := by omega
      exact (hv.get i hi').rep hw (fun c hc => .inl (himm c hc)) (fun x hx => by simp at hx; subst hx; exact .inr rfl) ((hr i hi').mono fun c hc => ⟨.inl hc, rfl⟩))
  refine this.mono ?_
  rintro e w' ⟨v, r, F', rfl, ⟨hp, rfl⟩, hw', hrep⟩
  have e1 := hw.ext
  have e2 := hw'.ext
  refine ⟨v, r, [], rfl, ⟨hp, rfl⟩, ⟨by simp, fun x hx => by simp at hx, fun x hx => by simp at hx, ?_⟩, hrep.mono fun c hc => ⟨?_, rfl⟩⟩
  · exact ⟨e2.os.trans e1.os, e2.tape.trans e1.tape, e2.output.trans e1.output, Nat.le_trans e1.size e2.size, fun c hc hk => (e2.blk c hc (by simp)).trans (e1.blk c hc hk)⟩
  · have hsz : cx.w0.heap.size ≤ w'.heap.size := e2.size
    rcases hc with (hc | rfl) | ⟨h1, h2, h3⟩
    · exact .inl hc
    · exact .inr ⟨.inl (by rw [hKb]; simp), by omega, fun x hx => by simp at hx⟩
    · rcases h1 with h1 | h1
      · simp at h1
      · exact .inr ⟨.inr h1, h2, fun x hx => by simp at hx⟩

theorem CallV.frz {P : Program} {f : FuncId} {args args' : List AV} {H : Hp} {x : AV} {post : AV → Hp → Prop} {m : MB} (b : Nat) (hg : hget H b = some m) (h : ACt P f args' [] (Fn x)) (hv : VwL [(b, m)] args args')
    (hp : post x (hdel H b)) : CallV P f args H post := by
  refine ⟨[(b, m)], hdel H b, _, hget_perm hg, h.frz (p := fun r => r = x) hv, ?_⟩
  rintro r F' ⟨rfl, rfl⟩ hn
  exact hp

/-! ## Rows of integers that a callee hands back, ours -/

/-- What comes back is a row of these integers, the caller's own. -/
def Row (k : IntKind) (ty : TypeId) (zs : List Int) (r : AV) (F' : Hp) : Prop :=
  ∃ b' cap', zs.length ≤ cap' ∧ cap' ≤ maxLen ∧ r = ms b' 0 zs.length cap' ∧ F' = [(b', .zs k zs cap' ty)]

theorem fresh_of_nodup {b' : Nat} {m' : MB} {R : Hp} (h : (([(b', m')] ++ R).map (·.1)).Nodup) : fresh R b' := by
  rw [List.map_append, List.nodup_append] at h
  intro x hx
  have := h.2.2 b' (by simp) x.1 (List.mem_map_of_mem hx)
  exact ⟨fun he => this he.symm, this⟩

theorem CallV.row {P : Program} {f : FuncId} {args : List AV} {H : Hp} {b : Nat} {m : MB} {k : IntKind} {ty : TypeId} {zs : List Int} {post : AV → Hp → Prop} (hg : hget H b = some m) (h : ACt P f args [(b, m)] (Row k ty zs))
    (hp : Nu fun b' => Nu fun cap' => Fr (zs.length ≤ cap' ∧ cap' ≤ maxLen ∧ fresh (hdel H b) b') (post (ms b' 0 zs.length cap') ((b', .zs k zs cap' ty) :: hdel H b))) : CallV P f args H post := by
  refine ⟨[(b, m)], hdel H b, _, hget_perm hg, h, ?_⟩
  rintro r F' ⟨b', cap', h1, h2, rfl, rfl⟩ hn
  exact ((hp.out b').out cap').out ⟨h1, h2, fresh_of_nodup hn⟩

theorem CallV.mkrow {P : Program} {f : FuncId} {args : List AV} {H : Hp} {k : IntKind} {ty : TypeId} {zs : List Int} {post : AV → Hp → Prop} (h : ACt P f args [] (Row k ty zs))
    (hp : Nu fun b' => Nu fun cap' => Fr (zs.length ≤ cap' ∧ cap' ≤ maxLen ∧ fresh H b') (post (ms b' 0 zs.length cap') ((b', .zs k zs cap' ty) :: H))) : CallV P f args H post := by
  refine ⟨[], H, _, .refl _, h, ?_⟩
  rintro r F' ⟨b', cap', h1, h2, rfl, rfl⟩ hn
  exact ((hp.out b').out cap').out ⟨h1, h2, fresh_of_nodup hn⟩

/-- A callee that changes one of our blocks, and hands back what does not hang on memory. -/
theorem CallV.upd {P : Program} {f : FuncId} {args : List AV} {H : Hp} {b : Nat} {m m' : MB} {x : AV} {post : AV → Hp → Prop} (hg : hget H b = some m) (h : ACt P f args [(b, m)] (fun r F' => r = x ∧ F' = [(b, m')]))
    (hp : post x ((b, m') :: hdel H b)) : CallV P f args H post := by
  refine ⟨[(b, m)], hdel H b, _, hget_perm hg, h, ?_⟩
  rintro r F' ⟨rfl, rfl⟩ hn
  exact hp
/-- What comes back is a new block of cells, and a pointer to it. -/
def NewC (ty : TypeId) (cs : List AV) (r : AV) (F' : Hp) : Prop := ∃ b', r = pt b' 0 ∧ F' = [(b', .cells cs cs.length ty)]
theorem CallV.mkobj {P : Program} {f : FuncId} {args : List AV} {H : Hp} {ty : TypeId} {cs : List AV} {post : AV → Hp → Prop} (h : ACt P f args [] (NewC ty cs))
    (hp : Nu fun b' => Fr (fresh H b') (post (pt b' 0) ((b', .cells cs cs.length ty) :: H))) : CallV P f args H post := by
  refine ⟨[], H, _, .refl _, h, ?_⟩
  rintro r F' ⟨b', rfl, rfl⟩ hn
  exact (hp.out b').out (fresh_of_nodup hn)

/-! ## Weakenings -/

/-- A slot, known in other words. -/
theorem Wk.slot {env env' : List (Nat × AV)} {H : Hp} (h : ∀ i (w : World) (I : Nat → Prop) v, Rep w I v (look env i) → Rep w I v (look env' i)) : Wk ⟨env, H⟩ ⟨env', H⟩ :=
  fun cx n a w ok => ⟨ok.defers, ok.size, fun i => h i w _ _ (ok.reps i), ok.world⟩

/-- No slice at all is a row of nothing. -/
theorem Rep.nilz {w : World} {I : Nat → Prop} {v : Value} {k : IntKind} (h : Rep w I v (.lit (.slice none 0 0))) : Rep w I v (.slz k []) := by
  have := h.lit_inv; subst this
  exact .slz none k [] 0 (by simp) (by simp) (.inl rfl)
theorem Rep.nils {w : World} {I : Nat → Prop} {v : Value} (h : Rep w I v (.lit (.slice none 0 0))) : Rep w I v (.sl 0 []) := by
  have := h.lit_inv; subst this
  exact .sl none 0 0 [] (fun _ => undef) (by simp) (by simp) (.inl rfl) (fun i hi => by simp at hi)

/-- What is said of the slots' front, over. -/
theorem Wk.cons {env : List (Nat × AV)} {H : Hp} {i : Nat} {x y : AV} (hl : look env i = x) (h : ∀ (w : World) (I : Nat → Prop) v, Rep w I v x → Rep w I v y) : Wk ⟨env, H⟩ ⟨(i, y) :: env, H⟩ :=
  Wk.slot fun j w I v hv => by
    simp only [look]
    split
    · rename_i hj; subst hj; rw [hl] at hv; exact h w I v hv
    · exact hv

theorem Wk.trans {s t u : St} (h1 : Wk s t) (h2 : Wk t u) : Wk s u := fun cx n a w ok => h2 cx n a w (h1 cx n a w ok)

/-- A block of cells that nobody writes from here on. -/
def frzC (b : Nat) (cs : List AV) (sz : Nat) : AV → AV
  | .lit (.slice (some ⟨b', off, none⟩) m cap) => if b' = b then (if off + m * sz ≤ cs.length ∧ m ≤ cap ∧ cap ≤ maxLen then .sl m ((cs.drop off).take (m * sz)) else .any) else .lit (.slice (some ⟨b', off, none⟩) m cap)
  | .lit (.pointer (some ⟨b', off, none⟩)) => if b' = b then .ip (cs.drop off) else .lit (.pointer (some ⟨b', off, none⟩))
  | x => x
def frzCE (b : Nat) (cs : List AV) (sz : Nat) : List (Nat × AV) → List (Nat × AV)
  | [] => []
  | (i, x) :: r => (i, frzC b cs sz x) :: frzCE b cs sz r
theorem look_frzCE {b sz : Nat} {cs : List AV} : ∀ (env : List (Nat × AV)) (i : Nat), look (frzCE b cs sz env) i = frzC b cs sz (look env i)
  | [], _ => rfl
  | (j, x) :: r, i => by
    simp only [frzCE, look]
    split
    · rfl
    · exact look_frzCE r i
theorem Wk.freezeC {env : List (Nat × AV)} {H : Hp} (b sz : Nat) {cs : List AV} {s0 ty : Nat} (hg : hget H b = some (.cells cs s0 ty)) : Wk ⟨env, H⟩ ⟨frzCE b cs sz env, hdel H b⟩ := by
  intro cx n a w ok
  obtain ⟨hw, hI, hb⟩ := ok.world.lose (w' := w) (hget_mem hg) rfl rfl rfl rfl (fun _ _ => rfl)
  obtain ⟨cur, c1, c2, c3, c4⟩ := ok.world.mem _ (hget_mem hg)
  refine ⟨ok.defers, ok.size, fun i => ?_, hw⟩
  have h := ok.reps i
  simp only [look_frzCE] at h ⊢
  generalize look env i = x at h
  have hm := h.mono hI
  unfold frzC
  split
  · rename_i b' off m cap
    split
    · rename_i he; subst he
      split
      · rename_i hc
        have := h.lit_inv
        rw [this]
        have hl : ((cs.drop off).take (m * sz)).length = m * sz := by simp; omega
        refine .sl _ _ _ _ (fun i => cur.getD (off + i) undef) hc.2.1 hc.2.2 (.inr ⟨b', off, rfl, hb, fun i hi => ?_⟩) fun i hi => ?_
        · rw [cell_of_block c1]
          have : off + i < cur.size := by rw [hl] at hi; omega
          simp [this]
        · rw [hl] at hi
          simp only [List.getElem_take, List.getElem_drop]
          exact (c4 (off + i) (by omega)).mono hI
      · exact .any _
    · exact hm
  · rename_i b' off
    split
    · rename_i he; subst he
      have := h.lit_inv
      rw [this]
      refine .ip _ _ (fun i => cur.getD (off + i) undef) (.inr ⟨b', off, rfl, hb, fun i hi => ?_⟩) fun i hi => ?_
      · rw [cell_of_block c1]
        have : off + i < cur.size := by simp at hi; omega
        simp [this]
      · simp only [List.length_drop] at hi
        simp only [List.getElem_drop]
        exact (c4 (off + i) (by omega)).mono hI
    · exact hm
  · exact hm

theorem Vw.row' {H : Hp} {b off n cap sz ty : Nat} {k : IntKind} {zs zs' : List Int} (hg : hget H b = some (.zs k zs sz ty)) (h1 : off + n ≤ zs.length) (h2 : n ≤ cap) (h3 : cap ≤ maxLen) (h4 : zs' = (zs.drop off).take n) :
    Vw H (ms b off n cap) (.slz k zs') := by
  subst h4
  exact Vw.row hg h1 h2 h3
theorem Vw.ptz' {H : Hp} {b off sz ty : Nat} {k : IntKind} {zs zs' : List Int} (hg : hget H b = some (.zs k zs sz ty)) (h1 : off ≤ zs.length) (h4 : zs' = zs.drop off) : Vw H (pt b off) (.ipz k zs') := by
  subst h4
  exact Vw.ptz hg h1
/-- A list of views, cell by cell, from a place on. -/
def VwC (H : Hp) : List AV → List AV → Prop
  | _, [] => True
  | [], _ :: _ => False
  | x :: r, y :: s => Vw H x y ∧ VwC H r s
theorem VwC.get {H : Hp} : ∀ {l m : List AV}, VwC H l m → m.length ≤ l.length ∧ ∀ i (hi : i < m.length), Vw H (l.getD i .any) m[i]
  | _, [], _ => ⟨by simp, fun i hi => by simp at hi⟩
  | [], y :: s, h => h.elim
  | x :: r, y :: s, h => by
    obtain ⟨h1, h2⟩ := VwC.get h.2
    refine ⟨by simp; omega, fun i hi => ?_⟩
    cases i with
    | zero => simpa using h.1
    | succ i => simpa using h2 i (by simpa using hi)
theorem getD_drop_any (cs : List AV) (off i : Nat) : (cs.drop off).getD i .any = cs.getD (off + i) .any := by simp [List.getD]
theorem Vw.ptc' {H : Hp} {b off sz ty : Nat} {cs ds : List AV} (hg : hget H b = some (.cells cs sz ty)) (ho : off ≤ cs.length) (h : VwC H (cs.drop off) ds) : Vw H (pt b off) (.ip ds) := by
  obtain ⟨h1, h2⟩ := h.get
  simp only [List.length_drop] at h1
  exact Vw.ptc hg (by omega) fun i hi => by rw [← getD_drop_any]; exact h2 i hi
theorem Vw.rowc' {H : Hp} {b off n cap sz ty : Nat} {cs ds : List AV} (hg : hget H b = some (.cells cs sz ty)) (ho : off ≤ cs.length) (h2 : n ≤ cap) (h3 : cap ≤ maxLen) (h : VwC H (cs.drop off) ds) : Vw H (ms b off n cap) (.sl n ds) := by
  obtain ⟨h1, h4⟩ := h.get
  simp only [List.length_drop] at h1
  exact Vw.rowc hg (by omega) h2 h3 fun i hi => by rw [← getD_drop_any]; exact h4 i hi
theorem VwC.refl {H : Hp} : ∀ l : List AV, VwC H l l
  | [] => trivial
  | x :: r => ⟨.same x, VwC.refl r⟩
theorem Vw.agg' {H : Hp} {cs ds : List AV} (hl : ds.length = cs.length) (h : VwC H cs ds) : Vw H (.agg cs) (.agg ds) := Vw.agg hl h.get.2

/-! ## Blocks, picked out -/

def pickB : Hp → Hp → Prop
  | _, [] => True
  | H, (b, m) :: r => hget H b = some m ∧ pickB (hdel H b) r
theorem pickB.perm : ∀ {H' H : Hp}, pickB H H' → ∃ R, H.Perm (H' ++ R)
  | [], H, _ => ⟨H, by simp⟩
  | (b, m) :: r, H, h => by
    obtain ⟨R, hR⟩ := pickB.perm h.2
    exact ⟨R, (hget_perm h.1).trans (by simpa using hR)⟩
theorem Sub.pick {env env' : List (Nat × AV)} {H H' : Hp} (hH : pickB H H') (h : ∀ p ∈ env', look env p.1 = p.2) : Sub ⟨env, H⟩ ⟨env', H'⟩ := by
  obtain ⟨R, hR⟩ := hH.perm
  exact Sub.of_env R hR h

/-! ## Ways out -/

theorem OutQ.row {P : Program} {rs : List ResultVar} {s : St} {k : IntKind} {ty : TypeId} {zs zs' : List Int} {b' n cap' : Nat} (h1 : (resv P s.H s.env rs).1) (h2 : resA (resv P s.H s.env rs).2 = ms b' 0 n cap')
    (hg : hget s.H b' = some (.zs k zs' cap' ty)) (hz : zs' = zs) (hn : zs.length = n) (hc1 : n ≤ cap') (hc2 : cap' ≤ maxLen) : OutQ P rs (Row k ty zs) s := by
  subst hz
  refine OutQ.drop [(b', .zs k zs' cap' ty)] (hdel s.H b') (hget_perm hg) h1 ⟨b', cap', by omega, hc2, ?_, rfl⟩
  rw [h2, hn]
/-- A row of ours, handed back as one that nobody writes any more. -/
theorem OutQ.fz {P : Program} {t : Tmp} {s : St} {k : IntKind} {ty s0 : TypeId} {zs zs' : List Int} {b n cap : Nat} (h2 : look s.env t = ms b 0 n cap)
    (hg : hget s.H b = some (.zs k zs' s0 ty)) (hz : zs' = zs) (hn : zs.length = n) (hc1 : n ≤ cap) (hc2 : cap ≤ maxLen) : OutQ P [.tmp t] (Fn (.slz k zs)) s := by
  subst hz
  refine OutQ.wk (Wk.freeze b hg) (OutQ.all trivial ?_)
  simp only [resv, resA, look_frzE, h2, frz, if_true]
  rw [if_pos ⟨by omega, hc1, hc2⟩, ← hn]
  simp [Fn]
theorem OutQ.newC {P : Program} {rs : List ResultVar} {s : St} {ty sz : Nat} {cs cs' : List AV} {b' : Nat} (h1 : (resv P s.H s.env rs).1) (h2 : resA (resv P s.H s.env rs).2 = pt b' 0)
    (hg : hget s.H b' = some (.cells cs' sz ty)) (hz : cs' = cs) (hs : sz = cs.length) : OutQ P rs (NewC ty cs) s := by
  subst hz hs
  exact OutQ.drop [(b', .cells cs' cs'.length ty)] (hdel s.H b') (hget_perm hg) h1 ⟨b', h2, rfl⟩
theorem OutQ.upd {P : Program} {rs : List ResultVar} {s : St} {x : AV} {b : Nat} {m m' : MB} (h1 : (resv P s.H s.env rs).1) (h2 : resA (resv P s.H s.env rs).2 = x)
    (hg : hget s.H b = some m) (hm : m = m') : OutQ P rs (fun r F' => r = x ∧ F' = [(b, m')]) s := by
  subst hm
  exact OutQ.drop [(b, m)] (hdel s.H b) (hget_perm hg) h1 ⟨h2, rfl⟩
end Go.Proofs.Ytbnkmhlnoaebcaa
