/-
  The walks and the laws that the statement leans on, part 4.
-/
import Derived.ChangeReads
import Derived.Laws.Externs
import Derived.Test.YtbnkmhlnoaebcaaProg
import Derived.Test.YtbnkmhlnoaebcaaZ3
namespace Go.Proofs.Ytbnkmhlnoaebcaa
open Go
set_option linter.unusedSimpArgs false
set_option linter.unusedVariables false
/-- What does not hang on memory. -/
def clA : AV → Bool
  | .lit _ => true
  | .any => true
  | .agg cs => clL cs
  | .tup cs => clL cs
  | .ifc _ x => clA x
  | _ => false
where clL : List AV → Bool
  | [] => true
  | x :: r => clA x && clL r
theorem clL_get : ∀ {cs : List AV} (i : Nat) (hi : i < cs.length), clA.clL cs = true → clA cs[i] = true
  | x :: r, 0, _, h => by simp only [clA.clL, Bool.and_eq_true] at h; exact h.1
  | x :: r, i + 1, hi, h => by
    simp only [clA.clL, Bool.and_eq_true] at h
    exact clL_get (cs := r) i (by simpa using hi) h.2
theorem Rep.closed {w w' : World} {I I' : Nat → Prop} {v : Value} {x : AV} (h : Rep w I v x) : clA x = true → Rep w' I' v x := by
  induction h with
  | any v => exact fun _ => .any v
  | lit v => exact fun _ => .lit v
  | sl a n cap cs g hn hm h _ ih => intro hc; simp [clA] at hc
  | slz a k zs cap hn hm h => intro hc; simp [clA] at hc
  | ip ad cs g h _ ih => intro hc; simp [clA] at hc
  | ipz ad k zs h => intro hc; simp [clA] at hc
  | agg vs cs hs _ ih => exact fun hc => .agg vs cs hs fun i hi => ih i hi (clL_get i hi (by simpa [clA] using hc))
  | tup vs cs hs _ ih => exact fun hc => .tup vs cs hs fun i hi => ih i hi (clL_get i hi (by simpa [clA] using hc))
  | ifc t v x _ ih => exact fun hc => .ifc t v x (ih (by simpa [clA] using hc))
  | gdt v x _ ih => intro hc; simp [clA] at hc
  | gdf x => intro hc; simp [clA] at hc
theorem hget_perm {b : Nat} {m : MB} : ∀ {H : Hp}, hget H b = some m → H.Perm ([(b, m)] ++ hdel H b)
  | [], h => by cases h
  | (b0, m0) :: r, h => by
    simp only [hget, hdel] at h ⊢
    split at h
    · rename_i he; subst he; cases h; simp
    · rename_i he
      rw [if_neg he]
      have := hget_perm (H := r) h
      exact (List.Perm.cons _ this).trans (List.Perm.swap ..)
/-! ## Views -/
/-- x, looked at through blocks of H that nobody writes for a while, is y. -/
inductive Vw (H : Hp) : AV → AV → Prop
  | same (x : AV) : Vw H x x
  | row {b off n cap sz ty : Nat} {k : IntKind} {zs : List Int} (hg : hget H b = some (.zs k zs sz ty)) (h1 : off + n ≤ zs.length) (h2 : n ≤ cap) (h3 : cap ≤ maxLen) :
      Vw H (ms b off n cap) (.slz k ((zs.drop off).take n))
  | rowc {b off n cap sz ty : Nat} {cs ds : List AV} (hg : hget H b = some (.cells cs sz ty)) (h1 : off + ds.length ≤ cs.length) (h2 : n ≤ cap) (h3 : cap ≤ maxLen)
      (h : ∀ i (hi : i < ds.length), Vw H (cs.getD (off + i) .any) ds[i]) : Vw H (ms b off n cap) (.sl n ds)
  | ptc {b off sz ty : Nat} {cs ds : List AV} (hg : hget H b = some (.cells cs sz ty)) (h1 : off + ds.length ≤ cs.length)
      (h : ∀ i (hi : i < ds.length), Vw H (cs.getD (off + i) .any) ds[i]) : Vw H (pt b off) (.ip ds)
  | ptz {b off sz ty : Nat} {k : IntKind} {zs : List Int} (hg : hget H b = some (.zs k zs sz ty)) (h1 : off ≤ zs.length) : Vw H (pt b off) (.ipz k (zs.drop off))
  | agg {cs ds : List AV} (hl : ds.length = cs.length) (h : ∀ i (hi : i < ds.length), Vw H (cs.getD i .any) ds[i]) : Vw H (.agg cs) (.agg ds)
  | ifc {t : TypeId} {x y : AV} (h : Vw H x y) : Vw H (.ifc t x) (.ifc t y)
  | nils : Vw H (.lit (.slice none 0 0)) (.sl 0 [])
theorem Vw.rep {cx : Cx} {H : Hp} {w : World} {I' : Nat → Prop} (hw : OkW cx H w) (hlt : ∀ b, imm cx w H b → I' b) (hk : ∀ x ∈ H, I' x.1) {x y : AV} (h : Vw H x y) : ∀ {v : Value}, Rep w (imm cx w H) v x → Rep w I' v y := by
  induction h with
  | same x => exact fun hv => hv.mono fun b hb => ⟨hlt b hb, rfl⟩
  | @row b off n cap sz ty k zs hg h1 h2 h3 =>
    intro v hv
    have := hv.lit_inv; subst this
    obtain ⟨cur, c1, c2, c3, c4⟩ := hw.mem _ (hget_mem hg)
    have e : ((zs.drop off).take n).length = n := by simp; omega
    have : Rep w I' (.slice (some ⟨b, off, none⟩) ((zs.drop off).take n).length cap) (.slz k ((zs.drop off).take n)) := by
      refine .slz _ _ _ _ (by omega) h3 (.inr ⟨b, off, rfl, hk _ (hget_mem hg), fun i hi => ?_⟩)
      rw [e] at hi
      rw [cell_of_block c1, c4 _ (by omega)]
      simp [List.getD, List.getElem?_take, List.getElem?_drop, hi]
    rw [e] at this
    exact this
  | @rowc b off n cap sz ty cs ds hg h1 h2 h3 h ih =>
    intro v hv
    have := hv.lit_inv; subst this
    obtain ⟨cur, c1, c2, c3, c4⟩ := hw.mem _ (hget_mem hg)
    refine .sl _ _ _ _ (fun i => cur.getD (off + i) undef) h2 h3 (.inr ⟨b, off, rfl, hk _ (hget_mem hg), fun i hi => ?_⟩) fun i hi => ih i hi ?_
    · rw [cell_of_block c1]
      have : off + i < cur.size := by omega
      simp [this]
    · have h4 := c4 (off + i) (by omega)
      have : cs.getD (off + i) .any = cs[off + i]'(by omega) := by simp [List.getD, show off + i < cs.length by omega]
      rw [this]
      exact h4
  | @ptc b off sz ty cs ds hg h1 h ih =>
    intro v hv
    have := hv.lit_inv; subst this
    obtain ⟨cur, c1, c2, c3, c4⟩ := hw.mem _ (hget_mem hg)
    refine .ip _ _ (fun i => cur.getD (off + i) undef) (.inr ⟨b, off, rfl, hk _ (hget_mem hg), fun i hi => ?_⟩) fun i hi => ih i hi ?_
    · rw [cell_of_block c1]
      have : off + i < cur.size := by omega
      simp [this]
    · have h4 := c4 (off + i) (by omega)
      have : cs.getD (off + i) .any = cs[off + i]'(by omega) := by simp [List.getD, show off + i < cs.length by omega]
      rw [this]
      exact h4
  | @ptz b off sz ty k zs hg h1 =>
    intro v hv
    have := hv.lit_inv; subst this
    obtain ⟨cur, c1, c2, c3, c4⟩ := hw.mem _ (hget_mem hg)
    refine .ipz _ _ _ (.inr ⟨b, off, rfl, hk _ (hget_mem hg), fun i hi => ?_⟩)
    simp only [List.length_drop] at hi
    rw [cell_of_block c1, c4 _ (by omega)]
    simp [List.getD, List.getElem?_drop]
  | @agg cs ds hl h ih =>
    intro v hv
    cases hv with
    | agg vs cs hs r =>
      refine .agg vs ds (by omega) fun i hi => ih i hi ?_
      have hic : i < cs.length := by omega
      have : cs.getD i .any = cs[i] := by simp [List.getD, hic]
      rw [this]
      exact r i hic
  | ifc h ih =>
    intro v hv
    cases hv with
    | ifc t v x r => exact .ifc _ _ _ (ih r)
  | nils =>
    intro v hv
    have := hv.lit_inv; subst this
    exact .sl none 0 0 [] (fun _ => undef) (Nat.le_refl _) (Nat.zero_le _) (.inl rfl) (fun i hi => by simp at hi)
def VwL (H : Hp) : List AV → List AV → Prop
  | [], [] => True
  | x :: r, y :: s => Vw H x y ∧ VwL H r s
  | _, _ => False
theorem VwL.length {H : Hp} : ∀ {l m : List AV}, VwL H l m → m.length = l.length
  | [], [], _ => rfl
  | x :: r, y :: s, h => by simp [VwL.length h.2]
  | [], y :: s, h => h.elim
  | x :: r, [], h => h.elim
theorem VwL.get {H : Hp} : ∀ {l m : List AV}, VwL H l m → ∀ i, i < l.length → Vw H (l.getD i .any) (m.getD i .any)
  | x :: r, y :: s, h, 0, _ => by simpa using h.1
  | x :: r, y :: s, h, i + 1, hi => by simpa using VwL.get h.2 i (by simpa using hi)
  | [], [], _, i, hi => by simp at hi
  | [], y :: s, h, _, _ => h.elim
  | x :: r, [], h, _, _ => h.elim
/-- A callee that only reads, over blocks that are ours. -/
theorem ACt.view {P : Program} {f : FuncId} {args args' : List AV} {H : Hp} {x : AV} (h : ACt P f args' [] (Fn x)) (hc : clA x = true) (hv : VwL H args args') :
    ACt P f args H (fun r F' => r = x ∧ F' = H) := by
  intro cx vs hK hw hs hr
  have hlen := hv.length
  have := h ⟨cx.w0, fun b => b < cx.w0.heap.size, [], fun b hb => ⟨hb, by simp⟩⟩ vs rfl ⟨by simp, fun x hx => by simp at hx, fun x hx => by simp at hx, ⟨rfl, rfl, rfl, Nat.le_refl _, fun _ _ _ => rfl⟩⟩
    (by omega) (fun i hi => by
      have hi' : i < args.length := by omega
      exact (hv.get i hi').rep hw (fun b hb => imm_lt hw.ext.size hb) (fun x hx => keys_lt hw x hx) ((hr i hi').mono fun b hb => ⟨.inl hb, rfl⟩))
  refine this.mono ?_
  rintro e w' ⟨v, r, F', rfl, ⟨rfl, rfl⟩, hw', hrep⟩
  have hsame : ∀ b, b < cx.w0.heap.size → w'.heap[b]? = cx.w0.heap[b]? := fun b hb => hw'.ext.blk b hb (by simp)
  have hI : ∀ b, imm cx cx.w0 H b → imm cx w' H b ∧ w'.heap[b]? = cx.w0.heap[b]? := by
    intro b hb
    have hlt := imm_lt hw.ext.size hb
    refine ⟨?_, hsame b hlt⟩
    rcases hb with hb | ⟨h1, h2, h3⟩
    · exact .inl hb
    · exact .inr ⟨h1, by have := hw'.ext.size; simp only at this; omega, h3⟩
  refine ⟨v, _, H, rfl, ⟨rfl, rfl⟩, ⟨hw.nodup, hw.keys, fun y hy => (hw.mem y hy).mono hI (hsame _ (keys_lt hw y hy)), ?_⟩, hrep.closed hc⟩
  have e1 := hw.ext
  have e2 := hw'.ext
  exact ⟨e2.os.trans e1.os, e2.tape.trans e1.tape, e2.output.trans e1.output, Nat.le_trans e1.size e2.size, fun b hb hk => (hsame b hb).trans (e1.blk b hb hk)⟩
theorem CallV.view {P : Program} {f : FuncId} {args args' : List AV} {H : Hp} {x : AV} {post : AV → Hp → Prop} (h : ACt P f args' [] (Fn x)) (hc : clA x = true) (hv : VwL H args args') (hp : post x H) : CallV P f args H post :=
  ⟨H, [], _, by simp, h.view hc hv, by rintro r F' ⟨rfl, rfl⟩ _; simpa using hp⟩
/-- A callee that only reads a block of ours, which we give up for good: what comes back may look into it. -/
theorem ACt.frz {P : Program} {f : FuncId} {args args' : List AV} {b : Nat} {m : MB} {p : AV → Prop} (h : ACt P f args' [] (fun r F' => p r ∧ F' = [])) (hv : VwL [(b, m)] args args') :
    ACt P f args [(b, m)] (fun r F' => p r ∧ F' = []) := by
  intro cx vs hK hw hs hr
  have hlen := hv.length
  have hbl := keys_lt hw (b, m) (List.mem_cons_self ..)
  have hKb : cx.K = [b] := by rw [hK]; rfl
  have himm : ∀ c, imm cx cx.w0 [(b, m)] c → cx.I c := by
    rintro c (hc | ⟨h1, h2, h3⟩)
    · exact hc
    · have := h3 (b, m) (List.mem_cons_self ..)
      rcases h1 with h1 | h1
      · rw [hKb] at h1; simp at h1; exact absurd h1.symm this
      · omega
  have := h ⟨cx.w0, fun c => cx.I c ∨ c = b, [], fun c hc => ⟨by rcases hc with hc | rfl; exact (cx.hI c hc).1; exact hbl, by simp⟩⟩ vs rfl ⟨by simp, fun x hx => by simp at hx, fun x hx => by simp at hx, ⟨rfl, rfl, rfl, Nat.le_refl _, fun _ _ _ => rfl⟩⟩
    (by omega) (fun i hi => by
      have hi' : i < args.length := by omega
      exact (hv.get i hi').rep hw (fun c hc => .inl (himm c hc)) (fun x hx => by simp at hx; subst hx; exact .inr rfl) ((hr i hi').mono fun c hc => ⟨.inl hc, rfl⟩))
  refine this.mono ?_
  rintro e w' ⟨v, r, F', rfl, ⟨hp, rfl⟩, hw', hrep⟩
  have e1 := hw.ext
  have e2 := hw'.ext
  refine ⟨v, r, [], rfl, ⟨hp, rfl⟩, ⟨by simp, fun x hx => by simp at hx, fun x hx => by simp at hx, ?_⟩, hrep.mono fun c hc => ⟨?_, rfl⟩⟩
  · exact ⟨e2.os.trans e1.os, e2.tape.trans e1.tape, e2.output.trans e1.output, Nat.le_trans e1.size e2.size, fun c hc hk => (e2.blk c hc (by simp)).trans (e1.blk c hc hk)⟩
  · have hsz : cx.w0.heap.size ≤ w'.heap.size := e2.size
    rcases hc with (hc | rfl) | ⟨h1, h2, h3⟩
    · exact .inl hc
    · exact .inr ⟨.inl (by rw [hKb]; simp), by omega, fun x hx => by simp at hx⟩
    · rcases h1 with h1 | h1
      · simp at h1
      · exact .inr ⟨.inr h1, h2, fun x hx => by simp at hx⟩
theorem CallV.frz {P : Program} {f : FuncId} {args args' : List AV} {H : Hp} {x : AV} {post : AV → Hp → Prop} {m : MB} (b : Nat) (hg : hget H b = some m) (h : ACt P f args' [] (Fn x)) (hv : VwL [(b, m)] args args')
    (hp : post x (hdel H b)) : CallV P f args H post := by
  refine ⟨[(b, m)], hdel H b, _, hget_perm hg, h.frz (p := fun r => r = x) hv, ?_⟩
  rintro r F' ⟨rfl, rfl⟩ hn
  exact hp
/-! ## Rows of integers that a callee hands back, ours -/
/-- What comes back is a row of these integers, the caller's own. -/
def Row (k : IntKind) (ty : TypeId) (zs : List Int) (r : AV) (F' : Hp) : Prop :=
  ∃ b' cap', zs.length ≤ cap' ∧ cap' ≤ maxLen ∧ r = ms b' 0 zs.length cap' ∧ F' = [(b', .zs k zs cap' ty)]
theorem fresh_of_nodup {b' : Nat} {m' : MB} {R : Hp} (h : (([(b', m')] ++ R).map (·.1)).Nodup) : fresh R b' := by
  rw [List.map_append, List.nodup_append] at h
  intro x hx
  have := h.2.2 b' (by simp) x.1 (List.mem_map_of_mem hx)
  exact ⟨fun he => this he.symm, this⟩
theorem CallV.row {P : Program} {f : FuncId} {args : List AV} {H : Hp} {b : Nat} {m : MB} {k : IntKind} {ty : TypeId} {zs : List Int} {post : AV → Hp → Prop} (hg : hget H b = some m) (h : ACt P f args [(b, m)] (Row k ty zs))
    (hp : Nu fun b' => Nu fun cap' => Fr (zs.length ≤ cap' ∧ cap' ≤ maxLen ∧ fresh (hdel H b) b') (post (ms b' 0 zs.length cap') ((b', .zs k zs cap' ty) :: hdel H b))) : CallV P f args H post := by
  refine ⟨[(b, m)], hdel H b, _, hget_perm hg, h, ?_⟩
  rintro r F' ⟨b', cap', h1, h2, rfl, rfl⟩ hn
  exact ((hp.out b').out cap').out ⟨h1, h2, fresh_of_nodup hn⟩
theorem CallV.mkrow {P : Program} {f : FuncId} {args : List AV} {H : Hp} {k : IntKind} {ty : TypeId} {zs : List Int} {post : AV → Hp → Prop} (h : ACt P f args [] (Row k ty zs))
    (hp : Nu fun b' => Nu fun cap' => Fr (zs.length ≤ cap' ∧ cap' ≤ maxLen ∧ fresh H b') (post (ms b' 0 zs.length cap') ((b', .zs k zs cap' ty) :: H))) : CallV P f args H post := by
  refine ⟨[], H, _, .refl _, h, ?_⟩
  rintro r F' ⟨b', cap', h1, h2, rfl, rfl⟩ hn
  exact ((hp.out b').out cap').out ⟨h1, h2, fresh_of_nodup hn⟩
/-- A callee that changes one of our blocks, and hands back what does not hang on memory. -/
theorem CallV.upd {P : Program} {f : FuncId} {args : List AV} {H : Hp} {b : Nat} {m m' : MB} {x : AV} {post : AV → Hp → Prop} (hg : hget H b = some m) (h : ACt P f args [(b, m)] (fun r F' => r = x ∧ F' = [(b, m')]))
    (hp : post x ((b, m') :: hdel H b)) : CallV P f args H post := by
  refine ⟨[(b, m)], hdel H b, _, hget_perm hg, h, ?_⟩
  rintro r F' ⟨rfl, rfl⟩ hn
  exact hp
/-- What comes back is a new block of cells, and a pointer to it. -/
def NewC (ty : TypeId) (cs : List AV) (r : AV) (F' : Hp) : Prop := ∃ b', r = pt b' 0 ∧ F' = [(b', .cells cs cs.length ty)]
theorem CallV.mkobj {P : Program} {f : FuncId} {args : List AV} {H : Hp} {ty : TypeId} {cs : List AV} {post : AV → Hp → Prop} (h : ACt P f args [] (NewC ty cs))
    (hp : Nu fun b' => Fr (fresh H b') (post (pt b' 0) ((b', .cells cs cs.length ty) :: H))) : CallV P f args H post := by
  refine ⟨[], H, _, .refl _, h, ?_⟩
  rintro r F' ⟨b', rfl, rfl⟩ hn
  exact (hp.out b').out (fresh_of_nodup hn)
/-! ## Weakenings -/
/-- A slot, known in other words. -/
theorem Wk.slot {env env' : List (Nat × AV)} {H : Hp} (h : ∀ i (w : World) (I : Nat → Prop) v, Rep w I v (look env i) → Rep w I v (look env' i)) : Wk ⟨env, H⟩ ⟨env', H⟩ :=
  fun cx n a w ok => ⟨ok.defers, ok.size, fun i => h i w _ _ (ok.reps i), ok.world⟩
/-- No slice at all is a row of nothing. -/
theorem Rep.nilz {w : World} {I : Nat → Prop} {v : Value} {k : IntKind} (h : Rep w I v (.lit (.slice none 0 0))) : Rep w I v (.slz k []) := by
  have := h.lit_inv; subst this
  exact .slz none k [] 0 (by simp) (by simp) (.inl rfl)
theorem Rep.nils {w : World} {I : Nat → Prop} {v : Value} (h : Rep w I v (.lit (.slice none 0 0))) : Rep w I v (.sl 0 []) := by
  have := h.lit_inv; subst this
  exact .sl none 0 0 [] (fun _ => undef) (by simp) (by simp) (.inl rfl) (fun i hi => by simp at hi)
/-- What is said of the slots' front, over. -/
theorem Wk.cons {env : List (Nat × AV)} {H : Hp} {i : Nat} {x y : AV} (hl : look env i = x) (h : ∀ (w : World) (I : Nat → Prop) v, Rep w I v x → Rep w I v y) : Wk ⟨env, H⟩ ⟨(i, y) :: env, H⟩ :=
  Wk.slot fun j w I v hv => by
    simp only [look]
    split
    · rename_i hj; subst hj; rw [hl] at hv; exact h w I v hv
    · exact hv
theorem Wk.trans {s t u : St} (h1 : Wk s t) (h2 : Wk t u) : Wk s u := fun cx n a w ok => h2 cx n a w (h1 cx n a w ok)
/-- A block of cells that nobody writes from here on. -/
def frzC (b : Nat) (cs : List AV) (sz : Nat) : AV → AV
  | .lit (.slice (some ⟨b', off, none⟩) m cap) => if b' = b then (if off + m * sz ≤ cs.length ∧ m ≤ cap ∧ cap ≤ maxLen then .sl m ((cs.drop off).take (m * sz)) else .any) else .lit (.slice (some ⟨b', off, none⟩) m cap)
  | .lit (.pointer (some ⟨b', off, none⟩)) => if b' = b then .ip (cs.drop off) else .lit (.pointer (some ⟨b', off, none⟩))
  | x => x
def frzCE (b : Nat) (cs : List AV) (sz : Nat) : List (Nat × AV) → List (Nat × AV)
  | [] => []
  | (i, x) :: r => (i, frzC b cs sz x) :: frzCE b cs sz r
theorem look_frzCE {b sz : Nat} {cs : List AV} : ∀ (env : List (Nat × AV)) (i : Nat), look (frzCE b cs sz env) i = frzC b cs sz (look env i)
  | [], _ => rfl
  | (j, x) :: r, i => by
    simp only [frzCE, look]
    split
    · rfl
    · exact look_frzCE r i
theorem Wk.freezeC {env : List (Nat × AV)} {H : Hp} (b sz : Nat) {cs : List AV} {s0 ty : Nat} (hg : hget H b = some (.cells cs s0 ty)) : Wk ⟨env, H⟩ ⟨frzCE b cs sz env, hdel H b⟩ := by
  intro cx n a w ok
  obtain ⟨hw, hI, hb⟩ := ok.world.lose (w' := w) (hget_mem hg) rfl rfl rfl rfl (fun _ _ => rfl)
  obtain ⟨cur, c1, c2, c3, c4⟩ := ok.world.mem _ (hget_mem hg)
  refine ⟨ok.defers, ok.size, fun i => ?_, hw⟩
  have h := ok.reps i
  simp only [look_frzCE] at h ⊢
  generalize look env i = x at h
  have hm := h.mono hI
  unfold frzC
  split
  · rename_i b' off m cap
    split
    · rename_i he; subst he
      split
      · rename_i hc
        have := h.lit_inv
        rw [this]
        have hl : ((cs.drop off).take (m * sz)).length = m * sz := by simp; omega
        refine .sl _ _ _ _ (fun i => cur.getD (off + i) undef) hc.2.1 hc.2.2 (.inr ⟨b', off, rfl, hb, fun i hi => ?_⟩) fun i hi => ?_
        · rw [cell_of_block c1]
          have : off + i < cur.size := by rw [hl] at hi; omega
          simp [this]
        · rw [hl] at hi
          simp only [List.getElem_take, List.getElem_drop]
          exact (c4 (off + i) (by omega)).mono hI
      · exact .any _
    · exact hm
  · rename_i b' off
    split
    · rename_i he; subst he
      have := h.lit_inv
      rw [this]
      refine .ip _ _ (fun i => cur.getD (off + i) undef) (.inr ⟨b', off, rfl, hb, fun i hi => ?_⟩) fun i hi => ?_
      · rw [cell_of_block c1]
        have : off + i < cur.size := by simp at hi; omega
        simp [this]
      · simp only [List.length_drop] at hi
        simp only [List.getElem_drop]
        exact (c4 (off + i) (by omega)).mono hI
    · exact hm
  · exact hm
/-- A list of views, cell by cell, from a place on. -/
def VwC (H : Hp) : List AV → List AV → Prop
  | _, [] => True
  | [], _ :: _ => False
  | x :: r, y :: s => Vw H x y ∧ VwC H r s
theorem VwC.get {H : Hp} : ∀ {l m : List AV}, VwC H l m → m.length ≤ l.length ∧ ∀ i (hi : i < m.length), Vw H (l.getD i .any) m[i]
  | _, [], _ => ⟨by simp, fun i hi => by simp at hi⟩
  | [], y :: s, h => h.elim
  | x :: r, y :: s, h => by
    obtain ⟨h1, h2⟩ := VwC.get h.2
    refine ⟨by simp; omega, fun i hi => ?_⟩
    cases i with
    | zero => simpa using h.1
    | succ i => simpa using h2 i (by simpa using hi)
theorem getD_drop_any (cs : List AV) (off i : Nat) : (cs.drop off).getD i .any = cs.getD (off + i) .any := by simp [List.getD]
theorem Vw.ptc' {H : Hp} {b off sz ty : Nat} {cs ds : List AV} (hg : hget H b = some (.cells cs sz ty)) (ho : off ≤ cs.length) (h : VwC H (cs.drop off) ds) : Vw H (pt b off) (.ip ds) := by
  obtain ⟨h1, h2⟩ := h.get
  simp only [List.length_drop] at h1
  exact Vw.ptc hg (by omega) fun i hi => by rw [← getD_drop_any]; exact h2 i hi
theorem Vw.rowc' {H : Hp} {b off n cap sz ty : Nat} {cs ds : List AV} (hg : hget H b = some (.cells cs sz ty)) (ho : off ≤ cs.length) (h2 : n ≤ cap) (h3 : cap ≤ maxLen) (h : VwC H (cs.drop off) ds) : Vw H (ms b off n cap) (.sl n ds) := by
  obtain ⟨h1, h4⟩ := h.get
  simp only [List.length_drop] at h1
  exact Vw.rowc hg (by omega) h2 h3 fun i hi => by rw [← getD_drop_any]; exact h4 i hi
theorem VwC.refl {H : Hp} : ∀ l : List AV, VwC H l l
  | [] => trivial
  | x :: r => ⟨.same x, VwC.refl r⟩
/-! ## Blocks, picked out -/
def pickB : Hp → Hp → Prop
  | _, [] => True
  | H, (b, m) :: r => hget H b = some m ∧ pickB (hdel H b) r
theorem pickB.perm : ∀ {H' H : Hp}, pickB H H' → ∃ R, H.Perm (H' ++ R)
  | [], H, _ => ⟨H, by simp⟩
  | (b, m) :: r, H, h => by
    obtain ⟨R, hR⟩ := pickB.perm h.2
    exact ⟨R, (hget_perm h.1).trans (by simpa using hR)⟩
theorem Sub.pick {env env' : List (Nat × AV)} {H H' : Hp} (hH : pickB H H') (h : ∀ p ∈ env', look env p.1 = p.2) : Sub ⟨env, H⟩ ⟨env', H'⟩ := by
  obtain ⟨R, hR⟩ := hH.perm
  exact Sub.of_env R hR h
/-! ## Ways out -/
theorem OutQ.row {P : Program} {rs : List ResultVar} {s : St} {k : IntKind} {ty : TypeId} {zs zs' : List Int} {b' n cap' : Nat} (h1 : (resv P s.H s.env rs).1) (h2 : resA (resv P s.H s.env rs).2 = ms b' 0 n cap')
    (hg : hget s.H b' = some (.zs k zs' cap' ty)) (hz : zs' = zs) (hn : zs.length = n) (hc1 : n ≤ cap') (hc2 : cap' ≤ maxLen) : OutQ P rs (Row k ty zs) s := by
  subst hz
  refine OutQ.drop [(b', .zs k zs' cap' ty)] (hdel s.H b') (hget_perm hg) h1 ⟨b', cap', by omega, hc2, ?_, rfl⟩
  rw [h2, hn]
/-- A row of ours, handed back as one that nobody writes any more. -/
theorem OutQ.fz {P : Program} {t : Tmp} {s : St} {k : IntKind} {ty s0 : TypeId} {zs zs' : List Int} {b n cap : Nat} (h2 : look s.env t = ms b 0 n cap)
    (hg : hget s.H b = some (.zs k zs' s0 ty)) (hz : zs' = zs) (hn : zs.length = n) (hc1 : n ≤ cap) (hc2 : cap ≤ maxLen) : OutQ P [.tmp t] (Fn (.slz k zs)) s := by
  subst hz
  refine OutQ.wk (Wk.freeze b hg) (OutQ.all trivial ?_)
  simp only [resv, resA, look_frzE, h2, frz, if_true]
  rw [if_pos ⟨by omega, hc1, hc2⟩, ← hn]
  simp [Fn]
theorem OutQ.newC {P : Program} {rs : List ResultVar} {s : St} {ty sz : Nat} {cs cs' : List AV} {b' : Nat} (h1 : (resv P s.H s.env rs).1) (h2 : resA (resv P s.H s.env rs).2 = pt b' 0)
    (hg : hget s.H b' = some (.cells cs' sz ty)) (hz : cs' = cs) (hs : sz = cs.length) : OutQ P rs (NewC ty cs) s := by
  subst hz hs
  exact OutQ.drop [(b', .cells cs' cs'.length ty)] (hdel s.H b') (hget_perm hg) h1 ⟨b', h2, rfl⟩
theorem OutQ.upd {P : Program} {rs : List ResultVar} {s : St} {x : AV} {b : Nat} {m m' : MB} (h1 : (resv P s.H s.env rs).1) (h2 : resA (resv P s.H s.env rs).2 = x)
    (hg : hget s.H b = some m) (hm : m = m') : OutQ P rs (fun r F' => r = x ∧ F' = [(b, m')]) s := by
  subst hm
  exact OutQ.drop [(b, m)] (hdel s.H b) (hget_perm hg) h1 ⟨h2, rfl⟩
end Go.Proofs.Ytbnkmhlnoaebcaa
namespace Go.Proofs.Ytbnkmhlnoaebcaa
open Go
set_option linter.unusedSimpArgs false
set_option linter.unusedVariables false
section
variable {P : Program} {cx : Cx} {n : Nat} {ops : Array Oper} {H E : Hp}
theorem hget_app {b : Nat} {m : MB} (hf : ∀ p ∈ E, fresh H p.1) (h : hget H b = some m) : hget (E ++ H) b = some m := by
  induction E with
  | nil => exact h
  | cons p r ih =>
    obtain ⟨b0, m0⟩ := p
    simp only [List.cons_append, hget]
    have h1 := hf (b0, m0) (List.mem_cons_self ..) _ (hget_mem h)
    rw [if_neg h1.1]
    exact ih fun q hq => hf q (List.mem_cons_of_mem _ hq)
theorem load1_app {x : AV} (hf : ∀ p ∈ E, fresh H p.1) (h : (load1 H x).1) : load1 (E ++ H) x = load1 H x := by
  by_cases hx : ∃ b off, x = pt b off
  · obtain ⟨b, off, rfl⟩ := hx
    simp only [load1] at h ⊢
    cases hg : hget H b with
    | none => rw [hg] at h; exact h.elim
    | some m => rw [hget_app hf hg]
  · unfold load1
    split <;> first | rfl | exact absurd ⟨_, _, rfl⟩ hx
theorem loadn_app {x : AV} {c : Nat} (hf : ∀ p ∈ E, fresh H p.1) (h : (loadn H c x).1) : loadn (E ++ H) c x = loadn H c x := by
  by_cases hx : ∃ b off, x = pt b off
  · obtain ⟨b, off, rfl⟩ := hx
    simp only [loadn] at h ⊢
    cases hg : hget H b with
    | none => rw [hg] at h; exact h.elim
    | some m => rw [hget_app hf hg]
  · unfold loadn
    split <;> first | rfl | exact absurd ⟨_, _, rfl⟩ hx
theorem loadv_app {T : TypeId} {x : AV} (hf : ∀ p ∈ E, fresh H p.1) (h : (loadv P H T x).1) : loadv P (E ++ H) T x = loadv P H T x := by
  unfold loadv at h ⊢
  split
  · rename_i ht; rw [ht] at h; exact load1_app hf h
  · rename_i c ht; rw [ht] at h; exact loadn_app hf h
  · rfl
theorem convv_app {s d : TypeId} {x : AV} {r : Prop × AV} (hf : ∀ p ∈ E, fresh H p.1) (h : convv P H s d x = some r) (hr : r.1) : convv P (E ++ H) s d x = some r := by
  by_cases hx : ∃ b off m cap, x = ms b off m cap
  · obtain ⟨b, off, m, cap, rfl⟩ := hx
    cases hd : P.underlying d with
    | none => simp only [convv, hd] at h; cases h
    | some td =>
      cases td <;> simp only [convv, hd] at h ⊢ <;> first | exact h | skip
      cases hg : hget H b with
      | none => rw [hg] at h; cases h; exact hr.elim
      | some mb => rw [hg] at h; rw [hget_app hf hg]; exact h
  · have : convv P (E ++ H) s d x = convv P H s d x := by
      unfold convv
      split
      · rfl
      · split <;> first | rfl | exact absurd ⟨_, _, _, _, rfl⟩ hx
      · rfl
    rw [this]; exact h
theorem pev_app {env : List (Nat × AV)} {op : Op} {r : Prop × AV} (hf : ∀ p ∈ E, fresh H p.1) (h : pev P H env op = some r) (hr : r.1) : pev P (E ++ H) env op = some r := by
  cases op <;> first | exact h | skip
  case slice T x lo hi mx => cases mx <;> exact h
  case load T a =>
    simp only [pev, Option.some.injEq] at h ⊢
    subst h
    unfold one at hr ⊢
    rw [loadv_app hf hr.2]
  case convert s d x =>
    simp only [pev] at h ⊢
    cases hc : convv P H s d (og env x).2 with
    | none => rw [hc] at h; cases h
    | some q =>
      rw [hc] at h
      simp only [Option.map_some, Option.some.injEq] at h
      subst h
      rw [convv_app hf hc hr.2]
      rfl
/-- Steady, whatever blocks of others' there are besides. -/
def StdyE (P : Program) (cx : Cx) (n : Nat) (ops : Array Oper) (o : Oper) (env : List (Nat × AV)) (H : Hp) (x : AV) : Prop :=
  ∀ E : Hp, (∀ p ∈ E, fresh H p.1) → Stdy P cx n ops o env (E ++ H) x
def SeqvE (P : Program) (cx : Cx) (n : Nat) (ops : Array Oper) (H : Hp) (lx : List (Oper × AV)) (env : List (Nat × AV)) : Prop :=
  ∀ i o x, lx[i]? = some (o, x) → StdyE P cx n ops o (envL (fun j => decide (j < i)) lx 0 env) H x
theorem dvc_seqvE {K : St → Prop} : ∀ (l : List Oper) (s : St), dvc P n ops l K s → ∃ xs : List AV, xs.length = l.length ∧ SeqvE P cx n ops s.H (l.zip xs) s.env ∧
    K ⟨envL (fun _ => true) (l.zip xs) 0 s.env, s.H⟩
  | [], s, h => ⟨[], rfl, fun i o x h => by simp at h, h⟩
  | o :: rest, s, ⟨hd, h⟩ => by
    have step : ∀ x, StdyE P cx n ops o s.env s.H x → dvc P n ops rest K (s.put o.dst x) → ∃ xs : List AV, xs.length = (o :: rest).length ∧ SeqvE P cx n ops s.H ((o :: rest).zip xs) s.env ∧
        K ⟨envL (fun _ => true) ((o :: rest).zip xs) 0 s.env, s.H⟩ := by
      intro x hx hr
      obtain ⟨xs, h1, h2, h3⟩ := dvc_seqvE rest _ hr
      rw [put_eq] at h2 h3
      refine ⟨x :: xs, by simp [h1], fun i o' x' hi => ?_, ?_⟩
      · cases i with
        | zero =>
          simp at hi
          obtain ⟨rfl, rfl⟩ := hi
          have : envL (fun j => decide (j < 0)) ((o :: rest).zip (x :: xs)) 0 s.env = s.env := by
            have hno : ∀ (l : List (Oper × AV)) (k : Nat) (env : List (Nat × AV)), envL (fun j => decide (j < 0)) l k env = env := by
              intro l
              induction l with
              | nil => intro k env; rfl
              | cons p r ih => intro k env; obtain ⟨o, x⟩ := p; simp only [envL]; exact ih _ _
            exact hno _ _ _
          rw [this]
          exact hx
        | succ i =>
          have := h2 i o' x' (by simpa using hi)
          simp only [List.zip_cons_cons, envL, Nat.zero_lt_succ, decide_true, if_true, envL_shift]
          simpa using this
      · simp only [List.zip_cons_cons, envL, if_true, envL_shift]
        exact h3
    split at h
    · rename_i hg
      split at h
      · rename_i r hr
        exact step r.2 (fun E hE => stdy_pev hd hg (pev_app hE hr h.1) h.1) h.2
      · split at h
        · rename_i q hq
          obtain ⟨hob, x, h1, h2⟩ := h
          exact step x (fun E hE => stdy_call hd hg (dcall_app (dcall_of (s := s) hq hob h1))) h2
        · exact h.elim
    · rename_i j want hg
      split at h
      · rename_i c hc
        split at h
        · rename_i r hr
          refine step _ (fun E hE => ?_) h.2
          by_cases hct : c = true
          · exact stdy_pevG hd hg hc (pev_app hE hr (h.1 hct)) h.1
          · refine ⟨hd, fun a w X R h1 h2 h3 h4 h5 => ?_⟩
            have ok := ok_renv h1 h2 h3 h4
            rw [wanted_of_gd ok hg (by rw [gdOf_renv hg]; exact hc)]
            rw [if_neg hct]
            have hcf : c = false := by cases c <;> simp_all
            subst hcf
            exact h5 undef w (.gdf _) h3 fun c hc => ⟨hc, rfl⟩
        · split at h
          · rename_i q hq
            obtain ⟨hob, x, h1, h2⟩ := h
            exact step _ (fun E hE => stdy_callG hd hg hc fun hct => dcall_app (dcall_of (s := s) hq (hob hct) (h1 hct))) h2
          · exact h.elim
      · exact h.elim
/-! ### One step, whatever it does to memory -/
theorem dinv_before {lx : List (Oper × AV)} {env : List (Nat × AV)} {listed : Array Bool} {a : Act} {w : World} {i : Nat} {o : Oper} {x : AV} (hD : DrawOk ops lx.length) (hlx : ∀ (j : Nat) o x, lx[j]? = some (o, x) → ops[j]? = some o)
    (inv : DInv cx n ops lx env H listed a w) (hi : i ∈ Region.ready .any ops listed) (hli : lx[i]? = some (o, x)) :
    listed.getD i false = false ∧ i < ops.size ∧ ∀ t, (t ∈ o.looksAt ops ∨ o.dst = some t) → ∀ (j : Nat) oj xj, lx[j]? = some (oj, xj) → oj.dst = some t → j ≠ i → (listed.getD j false = decide (j < i)) := by
  have hoi := hlx i o x hli
  have hun := (mem_ready.1 hi).1
  have hilt : i < ops.size := (Array.getElem?_eq_some_iff.1 hoi).1
  have hun' : listed.getD i false = false := by rw [← getD_bool (by rw [inv.lsize]; exact hilt)]; exact hun
  refine ⟨hun', hilt, ?_⟩
  intro t ht j oj xj hj hd hji
  have hjk : j < lx.length := (List.getElem?_eq_some_iff.1 hj).1
  rcases hD.slot i j o oj t hoi hjk (hlx j oj xj hj) hd ht (Ne.symm hji) with ⟨h1, h2⟩ | ⟨h1, h2⟩
  · rw [ready_waits hi hoi h2]; simp [h1]
  · have : listed.getD j false = false := by
      cases hl : listed.getD j false with
      | false => rfl
      | true => have := inv.closed j oj (hlx j oj xj hj) hl i h2; rw [hun'] at this; cases this
    rw [this]; simp; omega
theorem dinv_look {lx : List (Oper × AV)} {env : List (Nat × AV)} {listed : Array Bool} {a : Act} {w : World} {i : Nat} {o : Oper} {x : AV} (hD : DrawOk ops lx.length) (hlx : ∀ (j : Nat) o x, lx[j]? = some (o, x) → ops[j]? = some o)
    (inv : DInv cx n ops lx env H listed a w) (hi : i ∈ Region.ready .any ops listed) (hli : lx[i]? = some (o, x)) :
    ∀ t ∈ o.looksAt ops, look (envL (fun j => listed.getD j false) lx 0 env) t = look (envL (fun j => decide (j < i)) lx 0 env) t := by
  obtain ⟨hun', hilt, hbefore⟩ := dinv_before hD hlx inv hi hli
  intro t ht
  refine envL_congr lx 0 env env rfl fun j oj xj hj hd => ?_
  rw [Nat.zero_add]
  by_cases hji : j = i
  · subst hji; rw [hun']; simp
  · exact hbefore t (.inl ht) j oj xj hj hd hji
theorem dinv_put {lx : List (Oper × AV)} {env : List (Nat × AV)} {H' : Hp} {listed : Array Bool} {a : Act} {w w' : World} {i : Nat} {o : Oper} {x : AV} {v : Value} (hD : DrawOk ops lx.length) (hlx : ∀ (j : Nat) o x, lx[j]? = some (o, x) → ops[j]? = some o)
    (inv : DInv cx n ops lx env H listed a w) (hi : i ∈ Region.ready .any ops listed) (hli : lx[i]? = some (o, x)) (hdst : okd n o.dst)
    (hv : Rep w' (imm cx w' H') v x) (hw' : OkW cx H' w') (hI : ∀ c, imm cx w H c → imm cx w' H' c ∧ w'.heap[c]? = w.heap[c]?) :
    DInv cx n ops lx env H' (listed.setIfInBounds i true) (a.put o.dst v) w' := by
  obtain ⟨hun', hilt, hbefore⟩ := dinv_before hD hlx inv hi hli
  have hik : i < lx.length := (List.getElem?_eq_some_iff.1 hli).1
  have hset : ∀ j, (listed.setIfInBounds i true).getD j false = if j = i then true else listed.getD j false := by
    intro j
    by_cases hji : j = i
    · subst hji
      have : j < listed.size := by rw [inv.lsize]; exact hilt
      simp [this]
    · rw [if_neg hji, getD_set_ne false (Ne.symm hji)]
  refine ⟨by simp [inv.lsize], closed_set inv.closed hi, fun t ht ht' => by rw [getD_set_ne true (by omega)]; exact inv.tail t ht ht', ?_⟩
  refine ⟨by cases o.dst <;> exact inv.ok.defers, by cases o.dst <;> simp [Act.put, inv.ok.size], fun t => ?_, hw'⟩
  have hold := (inv.ok.reps t).mono hI
  by_cases hd : o.dst = some t
  · have e1 : look (envL (fun j => (listed.setIfInBounds i true).getD j false) lx 0 env) t = x := by
      rw [← envL_at lx 0 i env o x hli hd]
      refine envL_congr lx 0 env env rfl fun j oj xj hj hdj => ?_
      rw [Nat.zero_add, hset]
      by_cases hji : j = i
      · subst hji; simp
      · rw [if_neg hji, hbefore t (.inr hd) j oj xj hj hdj hji]
        rw [Bool.eq_iff_iff]; simp; omega
    show Rep w' (imm cx w' H') _ (look (envL _ lx 0 env) t)
    rw [e1, hd]
    have : t < a.tmps.size := by rw [inv.ok.size]; rw [hd] at hdst; exact hdst
    simpa [Act.put, this] using hv
  · have e1 : look (envL (fun j => (listed.setIfInBounds i true).getD j false) lx 0 env) t = look (envL (fun j => listed.getD j false) lx 0 env) t := by
      refine envL_congr lx 0 env env rfl fun j oj xj hj hdj => ?_
      rw [Nat.zero_add, hset]
      by_cases hji : j = i
      · subst hji
        rw [hli] at hj
        cases hj
        exact absurd hdj hd
      · rw [if_neg hji]
    show Rep w' (imm cx w' H') _ (look (envL _ lx 0 env) t)
    rw [e1]
    have e2 : (a.put o.dst v).tmps.getD t undef = a.tmps.getD t undef := by
      cases hdd : o.dst with
      | none => rfl
      | some d =>
        have : d ≠ t := fun h => hd (by rw [hdd, h])
        simp [Act.put, Array.getElem?_setIfInBounds_ne this]
    rw [e2]
    exact hold
theorem dinv_stepS {lx : List (Oper × AV)} {env : List (Nat × AV)} {listed : Array Bool} {a : Act} {w : World} {i : Nat} {o : Oper} {x : AV} (hD : DrawOk ops lx.length) (hlx : ∀ (j : Nat) o x, lx[j]? = some (o, x) → ops[j]? = some o)
    (hli : lx[i]? = some (o, x)) (hS : Stdy P cx n ops o (envL (fun j => decide (j < i)) lx 0 env) H x) (inv : DInv cx n ops lx env H listed a w) (hi : i ∈ Region.ready .any ops listed) {R : Exit → Act → World → Prop} {X : Act → World → Prop}
    (hX : ∀ v w', DInv cx n ops lx env H (listed.setIfInBounds i true) (a.put o.dst v) w' → X (a.put o.dst v) w') : wpOp P ops R i X a w := by
  obtain ⟨hdst, hst⟩ := hS
  have hlook := dinv_look hD hlx inv hi hli
  unfold wpOp
  rw [hlx i o x hli]
  simp only
  have := hst a w X R inv.ok.defers inv.ok.size inv.ok.world (fun t ht => by rw [← hlook t ht]; exact inv.ok.reps t) (fun v w' hv hw' hI => hX v w' (dinv_put hD hlx inv hi hli hdst hv hw' hI))
  have hput : a.put o.dst undef = a.put o.dst undef := rfl
  split
  · rename_i hw; rw [if_pos hw] at this; exact .inl this
  · rename_i hw; rw [if_neg hw] at this; exact this
theorem head_any' {k : Nat} {R : Exit → Act → World → Prop} {Inv : Array Bool → Act → World → Prop} (hD : DrawOk ops k) (hcl : ∀ listed a w, Inv listed a w → Closed ops listed) (hsz : ∀ listed a w, Inv listed a w → listed.size = ops.size)
    (hstep : ∀ listed a w i (X : Act → World → Prop), Inv listed a w → i ∈ Region.ready .any ops listed → i < k → (∀ a' w', Inv (listed.setIfInBounds i true) a' w' → X a' w') → wpOp P ops R i X a w) {g : Nat}
    (hfin : ∀ listed a w, Inv listed a w → (∀ j, j < k → listed.getD j false = true) → wpAny P .any ops R g listed a w) :
    ∀ (u : Nat) (listed : Array Bool) (a : Act) (w : World), ((List.range k).filter fun i => !listed.getD i false).length = u → Inv listed a w → wpAny P .any ops R (u + g) listed a w
  | 0, listed, a, w, hu, inv => by
    rw [Nat.zero_add]
    refine hfin listed a w inv fun j hj => ?_
    have := List.eq_nil_of_length_eq_zero hu
    rw [List.filter_eq_nil_iff] at this
    simpa using this j (List.mem_range.2 hj)
  | u + 1, listed, a, w, hu, inv => by
    have hls := hsz _ _ _ inv
    rw [show u + 1 + g = (u + g) + 1 by omega]
    obtain ⟨m, hm1, hm2⟩ : ∃ m, m < k ∧ listed.getD m false = false := by
      cases hf : ((List.range k).filter fun i => !listed.getD i false) with
      | nil => rw [hf] at hu; cases hu
      | cons m r =>
        have : m ∈ (List.range k).filter fun i => !listed.getD i false := by rw [hf]; exact List.mem_cons_self ..
        rw [List.mem_filter] at this
        exact ⟨m, List.mem_range.1 this.1, by simpa using this.2⟩
    obtain ⟨i0, h1, h2, h3⟩ := least (p := fun i => listed.getD i false) hm2
    have hi0 : i0 < ops.size := by have := hD.le; omega
    have hready0 : i0 ∈ Region.ready .any ops listed := by
      refine mem_ready.2 ⟨by rw [getD_bool (by rw [hls]; exact hi0)]; exact h2, ops[i0], Array.getElem?_eq_getElem hi0, fun e he hb => h3 _ (hD.back i0 _ (Array.getElem?_eq_getElem hi0) e he hb)⟩
    refine ⟨fun h => (by rw [h] at hready0; cases hready0), fun i hi => ?_⟩
    obtain ⟨hun, oi, hoi, _⟩ := mem_ready.1 hi
    have hilt : i < ops.size := (Array.getElem?_eq_some_iff.1 hoi).1
    have hik : i < k := by
      rcases Nat.lt_or_ge i k with h | h
      · exact h
      · have := hD.tail i oi hoi h m (by omega) listed (hcl _ _ _ inv) hi
        rw [hm2] at this
        cases this
    have hun' : listed.getD i false = false := by rw [← getD_bool (by rw [hls]; exact hilt)]; exact hun
    refine hstep listed a w i _ inv hi hik fun a' w' inv' => head_any' hD hcl hsz hstep hfin u _ a' w' ?_ inv'
    have hcount : ∀ (l : List Nat), l.Nodup → i ∈ l → (l.filter fun j => !listed.getD j false).length = ((l.filter fun j => !(listed.setIfInBounds i true).getD j false).length) + 1 := by
      intro l
      induction l with
      | nil => intro _ h; cases h
      | cons c r ih =>
        intro hn hmem
        simp only [List.nodup_cons] at hn
        by_cases hci : c = i
        · subst hci
          have hset : (listed.setIfInBounds c true).getD c false = true := by
            have : c < listed.size := by rw [hls]; exact hilt
            simp [this]
          have hrest : (r.filter fun j => !listed.getD j false) = r.filter fun j => !(listed.setIfInBounds c true).getD j false := by
            refine List.filter_congr fun j hj => ?_
            have : j ≠ c := fun h => hn.1 (h ▸ hj)
            rw [getD_set_ne false (Ne.symm this)]
          rw [List.filter_cons, List.filter_cons, hun', hset, hrest]
          simp
        · have hmem' : i ∈ r := by rcases List.mem_cons.1 hmem with h | h; exact absurd h.symm hci; exact h
          have := ih hn.2 hmem'
          rw [List.filter_cons, List.filter_cons, getD_set_ne false (Ne.symm hci)]
          split
          · simp only [List.length_cons]; omega
          · exact this
    have := hcount (List.range k) List.nodup_range (List.mem_range.2 hik)
    omega
/-! ### The private block -/
theorem envL_append {f : Nat → Bool} : ∀ (l1 l2 : List (Oper × AV)) (k : Nat) (env : List (Nat × AV)), envL f (l1 ++ l2) k env = envL f l2 (k + l1.length) (envL f l1 k env)
  | [], l2, k, env => by simp [envL]
  | (o, x) :: r, l2, k, env => by
    simp only [List.cons_append, envL, List.length_cons]
    rw [envL_append r l2 (k + 1)]
    congr 1
    omega
theorem fresh_one {b : Nat} {m : MB} (h : fresh H b) : ∀ p ∈ [(b, m)], fresh H p.1 := by
  intro p hp
  simp at hp
  subst hp
  exact h
/-- The head of the region, as a formula: first what only computes; the block is made; more that computes; the block is filled; what computes behind; then the tail. -/
def drawF (P : Program) (n : Nat) (l : List Oper) (K : St → Prop) (ia is k : Nat) (s : St) : Prop :=
  dvc P n l.toArray (l.take ia) (fun s1 => match l.drop ia with
    | ⟨some t, .alloc T, _, _, _, none⟩ :: r => match zmb P T with
      | some m0 => t < n ∧ dvc P n l.toArray (r.take (is - ia - 1)) (fun s2 => match r.drop (is - ia - 1) with
        | ⟨none, .store T' (.tmp t') y, _, _, _, none⟩ :: q => t' = t ∧ (og s2.env y).1 ∧ (stC P T' m0 0 (og s2.env y).2).1 ∧ dvc P n l.toArray (q.take (k - is - 1)) (fun s3 =>
            newB s3.H (stC P T' m0 0 (og s2.env y).2).2 fun b H => rvc P n l.toArray (q.drop (k - is - 1)) K ⟨(t, pt b 0) :: s3.env, H⟩) s2
        | _ => False) ⟨(t, .any) :: s1.env, s1.H⟩
      | none => False
    | _ => False) s
theorem envL_ext {f g : Nat → Bool} : ∀ (l : List (Oper × AV)) (k : Nat) (env : List (Nat × AV)), (∀ j, k ≤ j → j < k + l.length → f j = g j) → envL f l k env = envL g l k env
  | [], _, _, _ => rfl
  | (o, x) :: r, k, env, h => by
    simp only [envL]
    rw [h k (Nat.le_refl _) (by simp)]
    exact envL_ext r (k + 1) _ fun j h1 h2 => h j (by omega) (by simp; omega)
theorem envL_none {f : Nat → Bool} : ∀ (l : List (Oper × AV)) (k : Nat) (env : List (Nat × AV)), (∀ j, k ≤ j → f j = false) → envL f l k env = env
  | [], _, _, _ => rfl
  | (o, x) :: r, k, env, h => by
    simp only [envL]
    rw [h k (Nat.le_refl _)]
    simp only [Bool.false_eq_true, if_false]
    exact envL_none r (k + 1) env fun j hj => h j (by omega)
theorem envL_shiftk {f : Nat → Bool} (c : Nat) : ∀ (l : List (Oper × AV)) (k : Nat) (env : List (Nat × AV)), envL f l (c + k) env = envL (fun j => f (c + j)) l k env
  | [], _, _ => rfl
  | (o, x) :: r, k, env => by simp only [envL]; exact envL_shiftk c r (k + 1) _
def SeqG (C : Nat → Oper → AV → List (Nat × AV) → Prop) (lx : List (Oper × AV)) (env : List (Nat × AV)) : Prop :=
  ∀ i o x, lx[i]? = some (o, x) → C i o x (envL (fun j => decide (j < i)) lx 0 env)
theorem SeqG.app {C : Nat → Oper → AV → List (Nat × AV) → Prop} {A B : List (Oper × AV)} {env : List (Nat × AV)} (hA : SeqG C A env) (hB : SeqG (fun i => C (A.length + i)) B (envL (fun _ => true) A 0 env)) : SeqG C (A ++ B) env := by
  intro i o x hi
  rw [envL_append]
  by_cases hlt : i < A.length
  · rw [List.getElem?_append_left hlt] at hi
    rw [envL_none B _ _ (fun j hj => by simp; omega)]
    exact hA i o x hi
  · rw [List.getElem?_append_right (by omega)] at hi
    have := hB (i - A.length) o x hi
    dsimp only at this
    rw [show A.length + (i - A.length) = i by omega] at this
    have e1 : envL (fun j => decide (j < i)) A 0 env = envL (fun _ => true) A 0 env := envL_ext A 0 env fun j _ hj => by simp; omega
    rw [e1, Nat.zero_add, show A.length = A.length + 0 from rfl, envL_shiftk A.length B 0]
    have e2 : envL (fun j => decide (A.length + j < i)) B 0 (envL (fun _ => true) A 0 env) = envL (fun j => decide (j < i - A.length)) B 0 (envL (fun _ => true) A 0 env) :=
      envL_ext B 0 _ fun j _ _ => by rw [Bool.eq_iff_iff]; simp; omega
    rw [e2]
    exact this
theorem SeqG.one {C : Nat → Oper → AV → List (Nat × AV) → Prop} {o : Oper} {x : AV} {env : List (Nat × AV)} (h : C 0 o x env) : SeqG C [(o, x)] env := by
  intro i o' x' hi
  cases i with
  | zero => simp at hi; obtain ⟨rfl, rfl⟩ := hi; simpa [envL] using h
  | succ i => simp at hi
end
end Go.Proofs.Ytbnkmhlnoaebcaa
namespace Go.Proofs.Ytbnkmhlnoaebcaa
open Go
set_option linter.unusedSimpArgs false
set_option linter.unusedVariables false
inductive Ty where
  | int (k : IntKind)
  | bool
  | str
  | row (k : IntKind)
  | sl (e : Ty)
  | st (fs : List Ty)
mutual
/-- Cells of a value of a type. -/
def Shp : Ty → List AV → Prop
  | .int k, xs => ∃ n, xs = [iv k n] ∧ (Lit.int k n).wf = true
  | .bool, xs => ∃ b, xs = [bv b]
  | .str, xs => ∃ s, xs = [.lit (.string s)] ∧ s.size ≤ maxLen
  | .row k, xs => ∃ zs : List Int, xs = [.slz k zs] ∧ ∀ n ∈ zs, (Lit.int k n).wf = true
  | .sl e, xs => ∃ rows : List (List AV), xs = [.sl rows.length rows.flatten] ∧ ∀ r ∈ rows, Shp e r
  | .st fs, xs => ShpL fs xs
def ShpL : List Ty → List AV → Prop
  | [], xs => xs = []
  | t :: ts, xs => ∃ a b, xs = a ++ b ∧ Shp t a ∧ ShpL ts b
end
def fsOk (P : Program) (r : TypeId → Ty → Bool) (total : Nat) : Nat → List Field → List Ty → Bool
  | off, [], [] => off == total
  | off, f :: fs, t :: ts => f.offset == off && r f.type t && fsOk P r total (off + P.cellsOf f.type) fs ts
  | _, _, _ => false
def tyOk (P : Program) : Nat → TypeId → Ty → Bool
  | 0, _, _ => false
  | d + 1, T, ty => match P.underlying T with
    | some (.int k) => match ty with
      | .int k' => decide (k = k') && P.cellsOf T == 1
      | _ => false
    | some .bool => match ty with
      | .bool => P.cellsOf T == 1
      | _ => false
    | some .string => match ty with
      | .str => P.cellsOf T == 1
      | _ => false
    | some (.slice e) => match ty with
      | .row k => (match P.underlying e with
        | some (.int k') => decide (k = k')
        | _ => false) && P.cellsOf e == 1 && P.cellsOf T == 1
      | .sl ety => tyOk P d e ety && P.cellsOf T == 1
      | _ => false
    | some (.struct fs) => match ty with
      | .st tys => fsOk P (tyOk P d) (P.cellsOf T) 0 fs.toList tys
      | _ => false
    | _ => false
theorem mapM_some {α β : Type} {f : α → Option β} : ∀ {l : List α} {ys : List β}, l.mapM f = some ys → ys.length = l.length ∧ ∀ i (h : i < l.length) (h' : i < ys.length), f l[i] = some ys[i]
  | [], ys, h => by
    simp at h
    subst h
    exact ⟨rfl, fun i h => by simp at h⟩
  | x :: r, ys, h => by
    rw [List.mapM_cons] at h
    cases hx : f x with
    | none => rw [hx] at h; simp at h
    | some y =>
      rw [hx] at h
      cases hr : r.mapM f with
      | none => rw [hr] at h; simp at h
      | some zs =>
        rw [hr] at h
        simp at h
        subst h
        obtain ⟨h1, h2⟩ := mapM_some hr
        refine ⟨by simp [h1], fun i hi hi' => ?_⟩
        cases i with
        | zero => simpa using hx
        | succ i => simpa using h2 i (by simpa using hi) (by simpa using hi')
theorem flatten_get {sz : Nat} : ∀ {rows : List (List AV)}, (∀ r ∈ rows, r.length = sz) → rows.flatten.length = rows.length * sz ∧ ∀ i j (hi : i < rows.length) (hj : j < sz), rows.flatten.getD (i * sz + j) .any = (rows.getD i []).getD j .any
  | [], _ => ⟨by simp, fun i j hi => by simp at hi⟩
  | r :: rs, h => by
    have hr := h r (List.mem_cons_self ..)
    obtain ⟨h1, h2⟩ := flatten_get (rows := rs) fun q hq => h q (List.mem_cons_of_mem _ hq)
    refine ⟨by simp [h1, hr, Nat.succ_mul]; omega, fun i j hi hj => ?_⟩
    cases i with
    | zero =>
      simp only [List.flatten_cons, Nat.zero_mul, Nat.zero_add, List.getD, List.getElem?_cons_zero, Option.getD_some]
      rw [List.getElem?_append_left (by omega)]
    | succ i =>
      have := h2 i j (by simpa using hi) hj
      simp only [List.flatten_cons, List.getD] at this ⊢
      rw [List.getElem?_append_right (by rw [hr, Nat.succ_mul]; omega)]
      rw [show (i + 1) * sz + j - r.length = i * sz + j by rw [hr, Nat.succ_mul]; omega]
      simpa using this
section
variable {H : Type} {enc : TypeId × Value → H} {P : Program} {w : World} {spare : Nat → Bool} {held : Bool}
def Opens (w : World) (ty : Ty) (sz : Nat) (cs : List Value) : Prop :=
  ∃ xs, Shp ty xs ∧ xs.length = sz ∧ cs.length = sz ∧ ∀ i (hi : i < xs.length), Rep w (fun b => b < w.heap.size) (cs.getD i undef) xs[i]
theorem cells?_some {a : Addr} {n : Nat} {cs : List Value} (h : w.cells? 0 a n = some cs) : cs.length = n ∧ ∀ j, j < n → w.cell? (a.add j) = some (cs.getD j undef) := by
  unfold World.cells? at h
  rw [if_pos (Nat.zero_le _)] at h
  obtain ⟨h1, h2⟩ := mapM_some h
  simp only [List.length_range] at h1
  refine ⟨h1, fun j hj => ?_⟩
  have := h2 j (by simpa using hj) (by omega)
  simp only [List.getElem_range] at this
  rw [this]
  simp [List.getD, show j < cs.length by omega]
theorem add_at {a : Addr} {v : Value} (h : w.cell? (a.add 0) = some v) : a.block < w.heap.size ∧ ∃ b off, a = ⟨b, off, none⟩ := by
  have := World.cell?_lt h
  unfold Addr.add at this
  rw [if_pos rfl] at this
  obtain ⟨h1, h2⟩ := this
  obtain ⟨b, off, sp⟩ := a
  simp only at h1 h2
  subst h2
  exact ⟨h1, b, off, rfl⟩
/-- Elements of a slice, one behind the other. -/
theorem opens_elems {e : TypeId} {fuel len : Nat} {a : Addr} {elems : List (DataW H × List MemPlace)} {Q : Nat → List Value → Prop} (hc : 0 < P.cellsOf e)
    (hm : ((List.range len).mapM fun i => (w.cells? 0 (a.add (i * P.cellsOf e)) (P.cellsOf e)).bind (DataW.trod enc P w 0 spare held fuel e)) = some elems)
    (hQ : ∀ (i : Nat) (cs : List Value) (r : DataW H × List MemPlace), DataW.trod enc P w 0 spare held fuel e cs = some r → Q i cs) :
    len = 0 ∨ ∃ b off, a = ⟨b, off, none⟩ ∧ b < w.heap.size ∧ ∀ i, i < len → ∃ cs, cs.length = P.cellsOf e ∧ Q i cs ∧ ∀ j, j < P.cellsOf e → w.cell? ⟨b, off + (i * P.cellsOf e + j), none⟩ = some (cs.getD j undef) := by
  obtain ⟨h1, h2⟩ := mapM_some hm
  have hel : ∀ i, i < len → ∃ cs, cs.length = P.cellsOf e ∧ Q i cs ∧ ∀ j, j < P.cellsOf e → w.cell? ((a.add (i * P.cellsOf e)).add j) = some (cs.getD j undef) := by
    intro i hi
    have := h2 i (by simpa using hi) (by simp at h1; omega)
    simp only [List.getElem_range] at this
    cases hc : w.cells? 0 (a.add (i * P.cellsOf e)) (P.cellsOf e) with
    | none => rw [hc] at this; simp at this
    | some cs =>
      rw [hc] at this
      obtain ⟨g1, g2⟩ := cells?_some hc
      exact ⟨cs, g1, hQ i cs _ this, g2⟩
  by_cases h0 : len = 0
  · exact .inl h0
  · obtain ⟨cs0, _, _, g⟩ := hel 0 (by omega)
    have g0 := g 0 hc
    rw [Nat.zero_mul] at g0
    have g0' : w.cell? (a.add 0) = some (cs0.getD 0 undef) := by
      have : (a.add 0).add 0 = a.add 0 := by simp [Addr.add]
      rw [this] at g0
      exact g0
    obtain ⟨hb, b, off, rfl⟩ := add_at g0'
    refine .inr ⟨b, off, rfl, hb, fun i hi => ?_⟩
    obtain ⟨cs, c1, c2, c3⟩ := hel i hi
    refine ⟨cs, c1, c2, fun j hj => ?_⟩
    have := c3 j hj
    rw [Addr.add_none, Addr.add_none] at this
    rw [← Nat.add_assoc]
    exact this
theorem choose_list {α : Type} {R : Nat → α → Prop} : ∀ (n : Nat), (∀ i, i < n → ∃ x, R i x) → ∃ l : List α, l.length = n ∧ ∀ i (h : i < l.length), R i l[i]
  | 0, _ => ⟨[], rfl, fun i h => by simp at h⟩
  | n + 1, h => by
    obtain ⟨l, h1, h2⟩ := choose_list n fun i hi => h i (by omega)
    obtain ⟨x, hx⟩ := h n (by omega)
    refine ⟨l ++ [x], by simp [h1], fun i hi => ?_⟩
    by_cases hlt : i < l.length
    · rw [List.getElem_append_left hlt]; exact h2 i hlt
    · rw [List.getElem_append_right (by omega)]
      have : i = n := by simp at hi; omega
      subst this
      simpa [h1] using hx
theorem opens_fields {d : Nat} (ih : ∀ (ty : Ty) (T : TypeId) (fuel : Nat) (cs : List Value) (r : DataW H × List MemPlace), tyOk P d T ty = true → DataW.trod enc P w 0 spare held fuel T cs = some r → Opens w ty (P.cellsOf T) cs)
    {cs : List Value} {fuel total : Nat} (hcs : cs.length = total) : ∀ (fs : List Field) (tys : List Ty) (off : Nat) (rs : List (DataW H × List MemPlace)), fsOk P (tyOk P d) total off fs tys = true →
      (fs.mapM fun f => DataW.trod enc P w 0 spare held fuel f.type ((cs.drop f.offset).take (P.cellsOf f.type))) = some rs → off ≤ total ∧ ∃ xs, ShpL tys xs ∧ xs.length = total - off ∧ ∀ i (hi : i < xs.length), Rep w (fun b => b < w.heap.size) (cs.getD (off + i) undef) xs[i]
  | [], [], off, rs, h, _ => by
    simp only [fsOk, beq_iff_eq] at h
    refine ⟨by omega, [], by simp [ShpL], by simp; omega, fun i hi => by simp at hi⟩
  | f :: fs, t :: ts, off, rs, h, hr => by
    simp only [fsOk, Bool.and_eq_true, beq_iff_eq] at h
    obtain ⟨⟨h1, h2⟩, h3⟩ := h
    rw [List.mapM_cons] at hr
    cases hx : DataW.trod enc P w 0 spare held fuel f.type ((cs.drop f.offset).take (P.cellsOf f.type)) with
    | none => rw [hx] at hr; simp at hr
    | some y =>
      rw [hx] at hr
      cases hrr : (fs.mapM fun f => DataW.trod enc P w 0 spare held fuel f.type ((cs.drop f.offset).take (P.cellsOf f.type))) with
      | none => rw [hrr] at hr; simp at hr
      | some zs =>
        obtain ⟨hle, xs2, s2, l2, r2⟩ := opens_fields ih hcs fs ts _ zs h3 hrr
        obtain ⟨xs1, s1, l1, c1, r1⟩ := ih t f.type fuel _ y h2 hx
        refine ⟨by omega, xs1 ++ xs2, ⟨xs1, xs2, rfl, s1, s2⟩, by simp [l1, l2]; omega, fun i hi => ?_⟩
        by_cases hlt : i < xs1.length
        · rw [List.getElem_append_left hlt]
          have := r1 i hlt
          have e : ((cs.drop f.offset).take (P.cellsOf f.type)).getD i undef = cs.getD (off + i) undef := by
            simp only [List.getD, List.getElem?_take, List.getElem?_drop, h1]
            rw [if_pos (by omega)]
          rw [e] at this
          exact this
        · rw [List.getElem_append_right (by omega)]
          have hi2 : i - xs1.length < xs2.length := by simp at hi; omega
          have := r2 (i - xs1.length) hi2
          rw [show off + P.cellsOf f.type + (i - xs1.length) = off + i by omega] at this
          exact this
  | [], _ :: _, _, _, h, _ => by simp [fsOk] at h
  | _ :: _, [], _, _, h, _ => by simp [fsOk] at h
theorem opens : ∀ (d : Nat) (ty : Ty) (T : TypeId) (fuel : Nat) (cs : List Value) (r : DataW H × List MemPlace), tyOk P d T ty = true → DataW.trod enc P w 0 spare held fuel T cs = some r → Opens w ty (P.cellsOf T) cs
  | 0, _, _, _, _, _, h, _ => by simp [tyOk] at h
  | d + 1, ty, T, 0, cs, r, _, hr => by simp [DataW.trod] at hr
  | d + 1, ty, T, fuel + 1, cs, r, h, hr => by
    have ih := opens d
    rw [DataW.trod_step] at hr
    unfold tyOk at h
    unfold DataW.trodStep at hr
    cases hu : P.underlying T with
    | none => rw [hu] at h; cases h
    | some td =>
      rw [hu] at h hr
      cases td with
      | int k =>
        cases ty <;> simp only at h <;> try (cases h)
        rename_i k'
        simp only [Bool.and_eq_true, decide_eq_true_eq, beq_iff_eq] at h
        obtain ⟨rfl, hc⟩ := h
        split at hr <;> first | (rename_i he _; cases he; done) | skip
        all_goals (first | (simp at *; done) | skip)
        rename_i k2 k3 n heq
        simp only [Option.some.injEq, TypeDesc.int.injEq] at heq
        subst heq
        split at hr
        · rename_i hk
          obtain ⟨rfl, hwf⟩ := hk
          exact ⟨[iv k3 n], ⟨n, rfl, hwf⟩, by simp [hc], by simp [hc], fun i hi => by
            have : i = 0 := by simp at hi; omega
            subst this
            exact .lit _⟩
        · cases hr
      | bool =>
        cases ty <;> simp only at h <;> try (cases h)
        simp only [beq_iff_eq] at h
        split at hr <;> first | (simp at *; done) | skip
        all_goals (first | (simp_all; done) | skip)
        rename_i b heq
        exact ⟨[bv b], ⟨b, rfl⟩, by simp [h], by simp [h], fun i hi => by
          have : i = 0 := by simp at hi; omega
          subst this
          exact .lit _⟩
      | string =>
        cases ty <;> simp only at h <;> try (cases h)
        simp only [beq_iff_eq] at h
        split at hr <;> first | (simp at *; done) | skip
        all_goals (first | (simp_all; done) | skip)
        rename_i s heq
        split at hr
        · rename_i hs
          exact ⟨[.lit (.string s)], ⟨s, rfl, hs⟩, by simp [h], by simp [h], fun i hi => by
            have : i = 0 := by simp at hi; omega
            subst this
            exact .lit _⟩
        · cases hr
      | slice e =>
        have hcs : (cs = [.slice none 0 0]) ∨ ∃ a len cap elems, cs = [.slice (some a) len cap] ∧ len ≤ cap ∧ cap ≤ maxLen ∧
            ((List.range len).mapM fun i => (w.cells? 0 (a.add (i * P.cellsOf e)) (P.cellsOf e)).bind (DataW.trod enc P w 0 spare held fuel e)) = some elems := by
          split at hr <;> first | (exfalso; simp at *; done) | skip
          all_goals (first | (left; rfl) | skip)
          all_goals (first | (exfalso; simp_all; done) | skip)
          rename_i e' a len cap heq
          simp only [Option.some.injEq, TypeDesc.slice.injEq] at heq
          subst heq
          split at hr
          · rename_i hk
            cases hm : ((List.range len).mapM fun i => (w.cells? 0 (a.add (i * P.cellsOf e)) (P.cellsOf e)).bind (DataW.trod enc P w 0 spare held fuel e)) with
            | none => simp [hm] at hr
            | some elems => exact .inr ⟨a, len, cap, elems, rfl, hk.2.1, hk.2.2, hm⟩
          · cases hr
        cases ty <;> simp only at h <;> try (cases h)
        · rename_i k
          simp only [Bool.and_eq_true, beq_iff_eq] at h
          obtain ⟨⟨h1, h2⟩, h3⟩ := h
          have hue : P.underlying e = some (.int k) := by
            split at h1
            · rename_i k' hk; rw [hk]; simp at h1; rw [h1]
            · cases h1
          rcases hcs with rfl | ⟨a, len, cap, elems, rfl, hl, hm, hel⟩
          · exact ⟨[.slz k []], ⟨[], rfl, by simp⟩, by simp [h3], by simp [h3], fun i hi => by
              have : i = 0 := by simp at hi; omega
              subst this
              exact Rep.nilz (.lit _)⟩
          · have hz : ∃ zs : List Int, zs.length = len ∧ (∀ n ∈ zs, (Lit.int k n).wf = true) ∧ Spot w (fun b => b < w.heap.size) (some a) zs.length (fun i => .int k (zs.getD i 0)) := by
              rcases opens_elems (Q := fun _ cs => ∃ n, cs = [.int k n] ∧ (Lit.int k n).wf = true) (by omega) hel (fun i cs r htr => by
                cases fuel with
                | zero => simp [DataW.trod] at htr
                | succ fuel =>
                  rw [DataW.trod_step] at htr
                  unfold DataW.trodStep at htr
                  rw [hue] at htr
                  split at htr <;> first | (exfalso; simp at *; done) | skip
                  all_goals (first | (exfalso; simp_all; done) | skip)
                  rename_i k2 k3 n heq
                  simp only [Option.some.injEq, TypeDesc.int.injEq] at heq
                  subst heq
                  split at htr
                  · rename_i hk
                    obtain ⟨rfl, hwf⟩ := hk
                    exact ⟨n, rfl, hwf⟩
                  · cases htr) with h0 | ⟨b, off, rfl, hb, hall⟩
              · exact ⟨[], by simp [h0], by simp, .inl rfl⟩
              · obtain ⟨zs, z1, z2⟩ := choose_list (R := fun i n => (Lit.int k n).wf = true ∧ w.cell? ⟨b, off + i, none⟩ = some (.int k n)) len fun i hi => by
                  obtain ⟨cs, c1, ⟨n, rfl, hwf⟩, c3⟩ := hall i hi
                  have := c3 0 (by omega)
                  rw [h2] at this
                  exact ⟨n, hwf, by simpa using this⟩
                refine ⟨zs, z1, fun n hn => ?_, .inr ⟨b, off, rfl, hb, fun i hi => ?_⟩⟩
                · obtain ⟨i, hi, rfl⟩ := List.getElem_of_mem hn
                  exact (z2 i hi).1
                · rw [(z2 i hi).2]
                  simp [List.getD, hi]
            obtain ⟨zs, z1, z2, z3⟩ := hz
            refine ⟨[.slz k zs], ⟨zs, rfl, z2⟩, by simp [h3], by simp [h3], fun i hi => ?_⟩
            have : i = 0 := by simp at hi; omega
            subst this
            have := Rep.slz (some a) k zs cap (by omega) hm z3
            rw [z1] at this
            exact this
        · rename_i ety
          simp only [Bool.and_eq_true, beq_iff_eq] at h
          obtain ⟨h1, h3⟩ := h
          rcases hcs with rfl | ⟨a, len, cap, elems, rfl, hl, hm, hel⟩
          · exact ⟨[.sl 0 []], ⟨[], rfl, by simp⟩, by simp [h3], by simp [h3], fun i hi => by
              have : i = 0 := by simp at hi; omega
              subst this
              exact Rep.nils (.lit _)⟩
          · by_cases hc0 : P.cellsOf e = 0
            · obtain ⟨m1, m2⟩ := mapM_some hel
              have hrows : ∀ i, i < len → ∃ xs : List AV, Shp ety xs ∧ xs.length = 0 := fun i hi => by
                have := m2 i (by simpa using hi) (by simp at m1; omega)
                simp only [List.getElem_range] at this
                cases hcc : w.cells? 0 (a.add (i * P.cellsOf e)) (P.cellsOf e) with
                | none => rw [hcc] at this; simp at this
                | some cs =>
                  rw [hcc] at this
                  obtain ⟨xs, s1, s2, _⟩ := ih ety e fuel cs _ h1 this
                  exact ⟨xs, s1, by rw [s2, hc0]⟩
              obtain ⟨rows, r1, r2⟩ := choose_list (R := fun _ xs => Shp ety xs ∧ xs.length = 0) len hrows
              obtain ⟨f1, _⟩ := flatten_get (sz := 0) (rows := rows) fun r hr => by obtain ⟨i, hi, rfl⟩ := List.getElem_of_mem hr; exact (r2 i hi).2
              refine ⟨[.sl rows.length rows.flatten], ⟨rows, rfl, fun r hr => by obtain ⟨i, hi, rfl⟩ := List.getElem_of_mem hr; exact (r2 i hi).1⟩, by simp [h3], by simp [h3], fun i hi => ?_⟩
              have : i = 0 := by simp at hi; omega
              subst this
              simp only [List.getD_cons_zero, List.getElem_cons_zero]
              rw [r1]
              exact .sl _ _ _ _ (fun _ => undef) hl hm (.inl (by rw [f1]; simp)) fun j hj => by rw [f1] at hj; simp at hj
            · rcases opens_elems (Q := fun _ cs => Opens w ety (P.cellsOf e) cs) (by omega) hel (fun i cs r htr => ih ety e fuel cs r h1 htr) with h0 | ⟨b, off, rfl, hb, hall⟩
              · subst h0
                exact ⟨[.sl 0 []], ⟨[], rfl, by simp⟩, by simp [h3], by simp [h3], fun i hi => by
                  have : i = 0 := by simp at hi; omega
                  subst this
                  exact .sl _ _ _ _ (fun _ => undef) hl hm (.inl rfl) fun j hj => by simp at hj⟩
              · obtain ⟨rows, r1, r2⟩ := choose_list (R := fun i xs => Shp ety xs ∧ xs.length = P.cellsOf e ∧ ∀ j (hj : j < xs.length), ∃ v, w.cell? ⟨b, off + (i * P.cellsOf e + j), none⟩ = some v ∧ Rep w (fun b => b < w.heap.size) v xs[j]) len fun i hi => by
                  obtain ⟨cs, c1, ⟨xs, s1, s2, s3, s4⟩, c3⟩ := hall i hi
                  exact ⟨xs, s1, s2, fun j hj => ⟨_, c3 j (by omega), s4 j hj⟩⟩
                obtain ⟨f1, f2⟩ := flatten_get (sz := P.cellsOf e) (rows := rows) fun r hr => by obtain ⟨i, hi, rfl⟩ := List.getElem_of_mem hr; exact (r2 i hi).2.1
                refine ⟨[.sl rows.length rows.flatten], ⟨rows, rfl, fun r hr => by obtain ⟨i, hi, rfl⟩ := List.getElem_of_mem hr; exact (r2 i hi).1⟩, by simp [h3], by simp [h3], fun i hi => ?_⟩
                have : i = 0 := by simp at hi; omega
                subst this
                simp only [List.getD_cons_zero, List.getElem_cons_zero]
                rw [r1]
                have hcell : ∀ m, m < rows.flatten.length → ∃ v, w.cell? ⟨b, off + m, none⟩ = some v ∧ Rep w (fun b => b < w.heap.size) v (rows.flatten.getD m .any) := by
                  intro m hm
                  rw [f1] at hm
                  have hi' : m / P.cellsOf e < rows.length := by rw [Nat.div_lt_iff_lt_mul (by omega)]; exact hm
                  have hj' : m % P.cellsOf e < P.cellsOf e := Nat.mod_lt _ (by omega)
                  have hmm : m / P.cellsOf e * P.cellsOf e + m % P.cellsOf e = m := by rw [Nat.mul_comm]; exact Nat.div_add_mod m _
                  obtain ⟨_, g2, g3⟩ := r2 _ hi'
                  obtain ⟨v, v1, v2⟩ := g3 (m % P.cellsOf e) (by rw [g2]; exact hj')
                  rw [hmm] at v1
                  refine ⟨v, v1, ?_⟩
                  have := f2 _ _ hi' hj'
                  rw [hmm] at this
                  rw [this]
                  simp only [List.getD, List.getElem?_eq_getElem hi', Option.getD_some]
                  rw [List.getElem?_eq_getElem (by rw [g2]; exact hj')]
                  exact v2
                refine .sl _ _ _ _ (fun m => (w.cell? ⟨b, off + m, none⟩).getD undef) hl hm (.inr ⟨b, off, rfl, hb, fun m hm => ?_⟩) fun m hm => ?_
                · obtain ⟨v, v1, _⟩ := hcell m hm
                  simp only [v1, Option.getD_some]
                · obtain ⟨v, v1, v2⟩ := hcell m hm
                  simp only [v1, Option.getD_some]
                  have e9 : rows.flatten.getD m .any = rows.flatten[m] := by rw [List.getD_eq_getElem?_getD, List.getElem?_eq_getElem hm, Option.getD_some]
                  rw [e9] at v2
                  exact v2
      | struct fs =>
        cases ty <;> simp only at h <;> try (cases h)
        rename_i tys
        split at hr <;> first | (exfalso; simp at *; done) | skip
        all_goals (first | (exfalso; simp_all; done) | skip)
        rename_i cs' fs' heq
        simp only [Option.some.injEq, TypeDesc.struct.injEq] at heq
        subst heq
        split at hr
        · rename_i hlen
          obtain ⟨rs, hm, _⟩ := Option.map_eq_some_iff.1 hr
          obtain ⟨_, xs, s1, s2, s3⟩ := opens_fields ih hlen fs.toList tys 0 rs h hm
          exact ⟨xs, s1, by omega, hlen, fun i hi => by simpa using s3 i hi⟩
        · cases hr
      | _ => simp at h
end
/-- An argument of one cell. -/
theorem open_one {H : Type} {enc : TypeId × Value → H} {P : Program} {w : World} {spare : Nat → Bool} {held : Bool} {ty : Ty} {T : TypeId} {v : Value} {d : DataW H} {ps : List MemPlace} (ht : tyOk P 20 T ty = true) (hc : v.cells.toList = [v])
    (h : DataW.Trod enc P w 0 spare held T v d ps) : ∃ x, Shp ty [x] ∧ Rep w (fun b => b < w.heap.size) v x := by
  obtain ⟨fuel, hf⟩ := h
  obtain ⟨xs, s1, s2, s3, s4⟩ := opens 20 ty T fuel _ _ ht hf
  rw [hc] at s3 s4
  simp at s3
  match xs, s2 with
  | [x], _ => exact ⟨x, s1, by simpa using s4 0 (by simp)⟩
  | [], h2 => simp at h2; omega
  | _ :: _ :: _, h2 => simp at h2; omega
end Go.Proofs.Ytbnkmhlnoaebcaa
namespace Go.Proofs.Ytbnkmhlnoaebcaa
open Go
set_option linter.unusedVariables false
def ndF : Hp → Prop
  | [] => True
  | (b, _) :: r => fresh r b ∧ ndF r
theorem ndF_of : ∀ {H : Hp}, (H.map (·.1)).Nodup → ndF H
  | [], _ => trivial
  | (b, m) :: r, h => by
    simp only [List.map_cons, List.nodup_cons] at h
    refine ⟨fun x hx => ?_, ndF_of h.2⟩
    have : x.1 ≠ b := fun he => h.1 (he ▸ List.mem_map_of_mem hx)
    exact ⟨this, fun he => this he.symm⟩
theorem WP.nd {P : Program} {cx : Cx} {n : Nat} {c : Code} {Q : Exit → St → Prop} {s : St} (h : ndF s.H → WP P cx n c Q s) : WP P cx n c Q s := fun a w ok => h (ndF_of ok.world.nodup) a w ok
end Go.Proofs.Ytbnkmhlnoaebcaa
namespace Go.Proofs.Ytbnkmhlnoaebcaa
open Go
theorem tyc0 : tyc Try.prog 0 = some none := by kernel_rfl
theorem tyc2 : tyc Try.prog 2 = some none := by kernel_rfl
theorem zmb2 : zmb Try.prog 2 = some (.cells [(.lit (.int .i64 0))] 1 2) := by kernel_rfl
theorem tyc3 : tyc Try.prog 3 = some none := by kernel_rfl
theorem zmb3 : zmb Try.prog 3 = some (.cells [(.lit (.int .i64 0))] 1 3) := by kernel_rfl
theorem tyc4 : tyc Try.prog 4 = some none := by kernel_rfl
theorem zmb4 : zmb Try.prog 4 = some (.cells [(.lit (.bool false))] 1 4) := by kernel_rfl
theorem tyc5 : tyc Try.prog 5 = some none := by kernel_rfl
theorem zmb5 : zmb Try.prog 5 = some (.cells [(.lit (.int .u8 0))] 1 5) := by kernel_rfl
theorem tyc9 : tyc Try.prog 9 = some none := by kernel_rfl
theorem zmb9 : zmb Try.prog 9 = some (.cells [(.lit (.string ⟨#[]⟩))] 1 9) := by kernel_rfl
theorem tyc23 : tyc Try.prog 23 = some none := by kernel_rfl
theorem zmb23 : zmb Try.prog 23 = some (.cells [(.lit (.int .i64 0))] 1 23) := by kernel_rfl
theorem tyc24 : tyc Try.prog 24 = some none := by kernel_rfl
theorem tyc26 : tyc Try.prog 26 = some none := by kernel_rfl
theorem mth26_30 : mthOf Try.prog 26 "firebell/ring.at" = some 30 := by kernel_rfl
theorem mth26_39 : mthOf Try.prog 26 "firebell/ring.grow" = some 39 := by kernel_rfl
theorem mth26_38 : mthOf Try.prog 26 "firebell/ring.room" = some 38 := by kernel_rfl
theorem con26 : Try.prog.concrete 26 = true := by kernel_rfl
theorem zmb26 : zmb Try.prog 26 = some (.cells [(.lit (.pointer none))] 1 26) := by kernel_rfl
theorem tyc27 : tyc Try.prog 27 = some none := by kernel_rfl
theorem tyc32 : tyc Try.prog 32 = some none := by kernel_rfl
theorem elt32 : elt Try.prog 32 = some (none, 2) := by kernel_rfl
theorem mkz32 : mkz Try.prog 32 = none := by kernel_rfl
theorem mkc32 : mkc Try.prog 32 = some (43, 2, 16, [(.lit (.int .u64 0)), (.lit (.int .u64 0))]) := by kernel_rfl
theorem apT32 : apT Try.prog 32 = some (43, 2, 16) := by kernel_rfl
theorem elk32 : elk Try.prog 32 = none := by kernel_rfl
theorem zmb32 : zmb Try.prog 32 = some (.cells [(.lit (.slice none 0 0))] 1 32) := by kernel_rfl
theorem tyc34 : tyc Try.prog 34 = some none := by kernel_rfl
theorem elt34 : elt Try.prog 34 = some (none, 4) := by kernel_rfl
theorem mkz34 : mkz Try.prog 34 = none := by kernel_rfl
theorem mkc34 : mkc Try.prog 34 = some (45, 4, 32, [(.lit (.int .i64 0)), (.lit (.int .i64 0)), (.lit (.int .u64 0)), (.lit (.int .u64 0))]) := by kernel_rfl
theorem apT34 : apT Try.prog 34 = some (45, 4, 32) := by kernel_rfl
theorem elk34 : elk Try.prog 34 = none := by kernel_rfl
theorem zmb34 : zmb Try.prog 34 = some (.cells [(.lit (.slice none 0 0))] 1 34) := by kernel_rfl
theorem tyc35 : tyc Try.prog 35 = some none := by kernel_rfl
theorem zmb35 : zmb Try.prog 35 = some (.cells [(.lit (.pointer none))] 1 35) := by kernel_rfl
theorem tyc36 : tyc Try.prog 36 = some none := by kernel_rfl
theorem elt36 : elt Try.prog 36 = some (none, 3) := by kernel_rfl
theorem mkz36 : mkz Try.prog 36 = none := by kernel_rfl
theorem mkc36 : mkc Try.prog 36 = some (70, 3, 24, [(.lit (.int .i64 0)), (.lit (.int .u64 0)), (.lit (.int .u64 0))]) := by kernel_rfl
theorem apT36 : apT Try.prog 36 = some (70, 3, 24) := by kernel_rfl
theorem elk36 : elk Try.prog 36 = none := by kernel_rfl
theorem zmb36 : zmb Try.prog 36 = some (.cells [(.lit (.slice none 0 0))] 1 36) := by kernel_rfl
theorem tyc38 : tyc Try.prog 38 = some (some 4) := by kernel_rfl
theorem foff38_0 : foff Try.prog 38 0 = some 0 := by kernel_rfl
theorem fpart38_0 : fpart Try.prog 38 0 = some (0, none) := by kernel_rfl
theorem foff38_1 : foff Try.prog 38 1 = some 1 := by kernel_rfl
theorem fpart38_1 : fpart Try.prog 38 1 = some (1, none) := by kernel_rfl
theorem foff38_2 : foff Try.prog 38 2 = some 2 := by kernel_rfl
theorem fpart38_2 : fpart Try.prog 38 2 = some (2, none) := by kernel_rfl
theorem foff38_3 : foff Try.prog 38 3 = some 3 := by kernel_rfl
theorem fpart38_3 : fpart Try.prog 38 3 = some (3, none) := by kernel_rfl
theorem zmb38 : zmb Try.prog 38 = some (.cells [(.lit (.int .i64 0)), (.lit (.int .i64 0)), (.lit (.int .i64 0)), (.lit (.slice none 0 0))] 4 38) := by kernel_rfl
theorem bldT38 : bldT Try.prog 38 = some ([(.int .i64 0), (.int .i64 0), (.int .i64 0), (.slice none 0 0)], [(0, 1), (1, 1), (2, 1), (3, 1)]) := by kernel_rfl
theorem tyc41 : tyc Try.prog 41 = some none := by kernel_rfl
theorem zmb41 : zmb Try.prog 41 = some (.cells [(.lit (.int .u64 0))] 1 41) := by kernel_rfl
theorem tyc43 : tyc Try.prog 43 = some (some 2) := by kernel_rfl
theorem foff43_0 : foff Try.prog 43 0 = some 0 := by kernel_rfl
theorem fpart43_0 : fpart Try.prog 43 0 = some (0, none) := by kernel_rfl
theorem foff43_1 : foff Try.prog 43 1 = some 1 := by kernel_rfl
theorem fpart43_1 : fpart Try.prog 43 1 = some (1, none) := by kernel_rfl
theorem fe43 : flatEq Try.prog 43 [1, 1] := flatEq_of (by kernel_rfl)
theorem zmb43 : zmb Try.prog 43 = some (.cells [(.lit (.int .u64 0)), (.lit (.int .u64 0))] 2 43) := by kernel_rfl
theorem bldT43 : bldT Try.prog 43 = some ([(.int .u64 0), (.int .u64 0)], [(0, 1), (1, 1)]) := by kernel_rfl
theorem tyc45 : tyc Try.prog 45 = some (some 4) := by kernel_rfl
theorem foff45_0 : foff Try.prog 45 0 = some 0 := by kernel_rfl
theorem fpart45_0 : fpart Try.prog 45 0 = some (0, none) := by kernel_rfl
theorem foff45_1 : foff Try.prog 45 1 = some 1 := by kernel_rfl
theorem fpart45_1 : fpart Try.prog 45 1 = some (1, none) := by kernel_rfl
theorem foff45_2 : foff Try.prog 45 2 = some 2 := by kernel_rfl
theorem fpart45_2 : fpart Try.prog 45 2 = some (2, (some 2)) := by kernel_rfl
theorem zmb45 : zmb Try.prog 45 = some (.cells [(.lit (.int .i64 0)), (.lit (.int .i64 0)), (.lit (.int .u64 0)), (.lit (.int .u64 0))] 4 45) := by kernel_rfl
theorem bldT45 : bldT Try.prog 45 = some ([(.int .i64 0), (.int .i64 0), (.int .u64 0), (.int .u64 0)], [(0, 1), (1, 1), (2, 2)]) := by kernel_rfl
theorem tyc50 : tyc Try.prog 50 = some none := by kernel_rfl
theorem elt50 : elt Try.prog 50 = some (none, 1) := by kernel_rfl
theorem mkz50 : mkz Try.prog 50 = some (5, 1, .u8) := by kernel_rfl
theorem apT50 : apT Try.prog 50 = some (5, 1, 1) := by kernel_rfl
theorem elk50 : elk Try.prog 50 = (some .u8) := by kernel_rfl
theorem zmb50 : zmb Try.prog 50 = some (.cells [(.lit (.slice none 0 0))] 1 50) := by kernel_rfl
theorem tyc54 : tyc Try.prog 54 = some none := by kernel_rfl
theorem mth54_53 : mthOf Try.prog 54 "firebell/wire.fail" = some 53 := by kernel_rfl
theorem mth54_50 : mthOf Try.prog 54 "firebell/wire.get" = some 50 := by kernel_rfl
theorem mth54_54 : mthOf Try.prog 54 "firebell/wire.take" = some 54 := by kernel_rfl
theorem con54 : Try.prog.concrete 54 = true := by kernel_rfl
theorem zmb54 : zmb Try.prog 54 = some (.cells [(.lit (.pointer none))] 1 54) := by kernel_rfl
theorem tyc56 : tyc Try.prog 56 = some none := by kernel_rfl
theorem tyc64 : tyc Try.prog 64 = some (some 6) := by kernel_rfl
theorem foff64_0 : foff Try.prog 64 0 = some 0 := by kernel_rfl
theorem fpart64_0 : fpart Try.prog 64 0 = some (0, none) := by kernel_rfl
theorem foff64_1 : foff Try.prog 64 1 = some 1 := by kernel_rfl
theorem fpart64_1 : fpart Try.prog 64 1 = some (1, none) := by kernel_rfl
theorem foff64_2 : foff Try.prog 64 2 = some 2 := by kernel_rfl
theorem fpart64_2 : fpart Try.prog 64 2 = some (2, none) := by kernel_rfl
theorem foff64_3 : foff Try.prog 64 3 = some 3 := by kernel_rfl
theorem fpart64_3 : fpart Try.prog 64 3 = some (3, none) := by kernel_rfl
theorem foff64_4 : foff Try.prog 64 4 = some 4 := by kernel_rfl
theorem fpart64_4 : fpart Try.prog 64 4 = some (4, (some 2)) := by kernel_rfl
theorem zmb64 : zmb Try.prog 64 = some (.cells [(.lit (.int .i64 0)), (.lit (.slice none 0 0)), (.lit (.int .i64 0)), (.lit (.int .i64 0)), (.lit (.int .u64 0)), (.lit (.int .u64 0))] 6 64) := by kernel_rfl
theorem bldT64 : bldT Try.prog 64 = some ([(.int .i64 0), (.slice none 0 0), (.int .i64 0), (.int .i64 0), (.int .u64 0), (.int .u64 0)], [(0, 1), (1, 1), (2, 1), (3, 1), (4, 2)]) := by kernel_rfl
theorem tyc65 : tyc Try.prog 65 = some none := by kernel_rfl
theorem zmb65 : zmb Try.prog 65 = some (.cells [(.lit (.pointer none))] 1 65) := by kernel_rfl
theorem tyc70 : tyc Try.prog 70 = some (some 3) := by kernel_rfl
theorem foff70_0 : foff Try.prog 70 0 = some 0 := by kernel_rfl
theorem fpart70_0 : fpart Try.prog 70 0 = some (0, none) := by kernel_rfl
theorem foff70_1 : foff Try.prog 70 1 = some 1 := by kernel_rfl
theorem fpart70_1 : fpart Try.prog 70 1 = some (1, (some 2)) := by kernel_rfl
theorem zmb70 : zmb Try.prog 70 = some (.cells [(.lit (.int .i64 0)), (.lit (.int .u64 0)), (.lit (.int .u64 0))] 3 70) := by kernel_rfl
theorem bldT70 : bldT Try.prog 70 = some ([(.int .i64 0), (.int .u64 0), (.int .u64 0)], [(0, 1), (1, 2)]) := by kernel_rfl
theorem tyc78 : tyc Try.prog 78 = some (some 2) := by kernel_rfl
theorem foff78_0 : foff Try.prog 78 0 = some 0 := by kernel_rfl
theorem fpart78_0 : fpart Try.prog 78 0 = some (0, none) := by kernel_rfl
theorem foff78_1 : foff Try.prog 78 1 = some 1 := by kernel_rfl
theorem fpart78_1 : fpart Try.prog 78 1 = some (1, none) := by kernel_rfl
theorem zmb78 : zmb Try.prog 78 = some (.cells [(.lit (.slice none 0 0)), (.lit (.bool false))] 2 78) := by kernel_rfl
theorem bldT78 : bldT Try.prog 78 = some ([(.slice none 0 0), (.bool false)], [(0, 1), (1, 1)]) := by kernel_rfl
theorem tyc84 : tyc Try.prog 84 = some none := by kernel_rfl
theorem elt84 : elt Try.prog 84 = some (none, 1) := by kernel_rfl
theorem mkz84 : mkz Try.prog 84 = none := by kernel_rfl
theorem mkc84 : mkc Try.prog 84 = some (65, 1, 8, [(.lit (.pointer none))]) := by kernel_rfl
theorem apT84 : apT Try.prog 84 = some (65, 1, 8) := by kernel_rfl
theorem elk84 : elk Try.prog 84 = none := by kernel_rfl
theorem zmb84 : zmb Try.prog 84 = some (.cells [(.lit (.slice none 0 0))] 1 84) := by kernel_rfl
theorem tyc87 : tyc Try.prog 87 = some none := by kernel_rfl
theorem tyc96 : tyc Try.prog 96 = some none := by kernel_rfl
theorem tyc98 : tyc Try.prog 98 = some none := by kernel_rfl
theorem zmb98 : zmb Try.prog 98 = some (.cells [(.lit (.int .u64 0))] 1 98) := by kernel_rfl
theorem mixed : Try.prog.follows .mixedOrders = true := by kernel_rfl
end Go.Proofs.Ytbnkmhlnoaebcaa
namespace Go.Proofs.Ytbnkmhlnoaebcaa
open Go
set_option linter.unusedVariables false
set_option linter.unusedSimpArgs false
section
variable {P : Program} {cx : Cx} {n : Nat} {ops : Array Oper} {H : Hp}
theorem Ok.permH {env : List (Nat × AV)} {H H' : Hp} {a : Act} {w : World} (hp : H.Perm H') (ok : Ok cx n ⟨env, H⟩ a w) : Ok cx n ⟨env, H'⟩ a w :=
  ⟨ok.defers, ok.size, fun t => (ok.reps t).mono fun b hb => ⟨(imm_perm hp).1 hb, rfl⟩, ok.world.perm hp⟩
theorem fresh_app {E H : Hp} (h : ((E ++ H).map (·.1)).Nodup) : ∀ p ∈ E, fresh H p.1 := by
  intro p hp x hx
  rw [List.map_append, List.nodup_append] at h
  have := h.2.2 p.1 (List.mem_map_of_mem hp) x.1 (List.mem_map_of_mem hx)
  exact ⟨fun he => this he.symm, this⟩
end
end Go.Proofs.Ytbnkmhlnoaebcaa
namespace Go.Proofs.Ytbnkmhlnoaebcaa
open Go
set_option linter.unusedSimpArgs false
set_option linter.unusedVariables false
section
variable {P : Program} {f : FuncId} {args : List AV} {H F F0 R : Hp} {post : AV → Hp → Prop}
theorem DCt.upd {b : Nat} {m : MB} {x : AV} (hg : hget H b = some m) (h : ACt P f args [(b, m)] (fun r F' => r = x ∧ F' = [(b, m)])) : DCt P f args H x :=
  ⟨[(b, m)], hdel H b, _, hget_perm hg, h, fun r F' hr _ => by obtain ⟨e1, e2⟩ := hr; subst e1 e2; exact ⟨rfl, (hget_perm hg).symm⟩⟩
theorem perm1 {b : Nat} {m : MB} (h : hget H b = some m) : H.Perm ([(b, m)] ++ hdel H b) := hget_perm h
theorem perm2 {b1 b2 : Nat} {m1 m2 : MB} (h1 : hget H b1 = some m1) (h2 : hget (hdel H b1) b2 = some m2) : H.Perm ([(b1, m1), (b2, m2)] ++ hdel (hdel H b1) b2) :=
  (hget_perm h1).trans (List.Perm.append_left [(b1, m1)] (hget_perm h2))
theorem perm3 {b1 b2 b3 : Nat} {m1 m2 m3 : MB} (h1 : hget H b1 = some m1) (h2 : hget (hdel H b1) b2 = some m2) (h3 : hget (hdel (hdel H b1) b2) b3 = some m3) : H.Perm ([(b1, m1), (b2, m2), (b3, m3)] ++ hdel (hdel (hdel H b1) b2) b3) :=
  (hget_perm h1).trans (List.Perm.append_left [(b1, m1)] (perm2 h2 h3))
theorem DCt.updN {x : AV} (hP : H.Perm (F ++ R)) (h : ACt P f args F (fun r F' => r = x ∧ F' = F)) : DCt P f args H x :=
  ⟨F, R, _, hP, h, fun r F' hr _ => by obtain ⟨e1, e2⟩ := hr; subst e1 e2; exact ⟨rfl, hP.symm⟩⟩
theorem CallV.updN {x : AV} (hP : H.Perm (F ++ R)) (h : ACt P f args F (fun r F' => r = x ∧ F' = F0)) (hp : post x (F0 ++ R)) : CallV P f args H post :=
  ⟨F, R, _, hP, h, fun r F' hr _ => by obtain ⟨e1, e2⟩ := hr; subst e1 e2; exact hp⟩
theorem fresh_perm {b : Nat} {m : MB} (hP : H.Perm (F ++ R)) (hk : F0.map (·.1) = F.map (·.1)) (hn : ((((b, m) :: F0) ++ R).map (·.1)).Nodup) : fresh H b := by
  intro p hp
  have hp' := hP.mem_iff.1 hp
  simp only [List.cons_append, List.map_cons, List.nodup_cons, List.map_append, List.mem_append] at hn
  have hne : p.1 ≠ b := by
    rintro rfl
    rcases List.mem_append.1 hp' with h | h
    · exact hn.1 (.inl (by rw [hk]; exact List.mem_map_of_mem h))
    · exact hn.1 (.inr (List.mem_map_of_mem h))
  exact ⟨hne, Ne.symm hne⟩
theorem CallV.new2 {x : Nat → Nat → AV} {m1 m2 : Nat → Nat → MB} (hP : H.Perm (F ++ R)) (h : ACt P f args F (fun r F' => ∃ b c, r = x b c ∧ F' = (b, m1 b c) :: (c, m2 b c) :: F0)) (hk : F0.map (·.1) = F.map (·.1))
    (hp : Nu fun b => Nu fun c => Fr ((b ≠ c ∧ c ≠ b) ∧ fresh H b ∧ fresh H c) (post (x b c) ((b, m1 b c) :: (c, m2 b c) :: (F0 ++ R)))) : CallV P f args H post :=
  ⟨F, R, _, hP, h, fun r F' hr hn => by
    obtain ⟨b, c, e1, e2⟩ := hr
    subst e1 e2
    have hc : fresh H c := by
      refine fresh_perm (m := m2 b c) hP hk ?_
      simp only [List.cons_append, List.map_cons, List.nodup_cons] at hn ⊢
      exact hn.2
    have hb : fresh H b := by
      refine fresh_perm (m := m1 b c) hP hk ?_
      simp only [List.cons_append, List.map_cons, List.nodup_cons, List.mem_cons] at hn ⊢
      exact ⟨fun hm => hn.1 (.inr hm), hn.2.2⟩
    have hbc : b ≠ c := by
      rintro rfl
      simp only [List.cons_append, List.map_cons, List.nodup_cons, List.mem_cons] at hn
      exact hn.1 (by simp)
    exact ((hp.out b).out c).out ⟨⟨hbc, Ne.symm hbc⟩, hb, hc⟩⟩
/-- A call that may leave things in one of many ways. -/
theorem CallV.ex {Γ : Type} {x : Γ → AV} {m : Γ → Hp} (hP : H.Perm (F ++ R)) (h : ACt P f args F (fun r F' => ∃ g, r = x g ∧ F' = m g)) (hp : ∀ g, post (x g) (m g ++ R)) : CallV P f args H post :=
  ⟨F, R, _, hP, h, fun r F' hr _ => by obtain ⟨g, e1, e2⟩ := hr; subst e1 e2; exact hp g⟩
/-- Cells that are integers of one kind, seen as such. -/
theorem Wk.tozs {env : List (Nat × AV)} {b sz : Nat} {k : IntKind} {zs : List Int} {ty : TypeId} (hg : hget H b = some (.cells (zs.map (iv k)) sz ty)) : Wk ⟨env, H⟩ ⟨env, hset H b (.zs k zs sz ty)⟩ := by
  intro cx n a w ok
  have e : hset H b (.cells (zs.map (iv k)) sz ty) = H := by
    have : ∀ H : Hp, hget H b = some (.cells (zs.map (iv k)) sz ty) → hset H b (.cells (zs.map (iv k)) sz ty) = H := by
      intro H
      induction H with
      | nil => intro h; cases h
      | cons p r ih =>
        obtain ⟨b', m'⟩ := p
        intro h
        simp only [hget] at h
        simp only [hset]
        split at h
        · rename_i he; subst he; cases h; simp
        · rename_i he; rw [if_neg he, ih h]
    exact this H hg
  have hw := ok.world
  simp only at hw
  rw [← e] at hw
  obtain ⟨h1, h2⟩ := hw.as_zs
  refine ⟨ok.defers, ok.size, fun i => (ok.reps i).mono fun c hc => ⟨(h2 c).1 (by rw [e]; exact hc), rfl⟩, h1⟩
theorem ExF.up {K : AV → Prop} {x : AV} (hP : ∃ R, H.Perm (F ++ R)) (h : ACt P f args F (fun r F' => r = x ∧ F' = F)) (hk : K x) : ExF P f args H K := let ⟨_, hP⟩ := hP; ExF.on (DCt.updN hP h) hk
theorem ExG.up {c : Bool} {K : AV → Prop} {x : AV} (hP : ∃ R, H.Perm (F ++ R)) (h : c = true → ACt P f args F (fun r F' => r = x ∧ F' = F)) (hk : K x) : ExG c P f args H K := let ⟨_, hP⟩ := hP; ExG.on (fun hc => DCt.updN hP (h hc)) hk
theorem ExG.upJ {c : Bool} {K : AV → Prop} {x : AV} {q : Prop} (hP : ∃ R, H.Perm (F ++ R)) (h : c = true → ACt P f args F (fun r F' => r = x ∧ F' = F)) (hk : K x) : ExG c P f args H K ∨ q := .inl (ExG.up hP h hk)
theorem ExG.upI {c : Bool} {K : AV → Prop} {x : AV} {q ob : Prop} (hP : ∃ R, H.Perm (F ++ R)) (h : c = true → ACt P f args F (fun r F' => r = x ∧ F' = F)) (ho : ob) (hk : K x) : (ob ∧ ExG c P f args H K) ∨ q := .inl ⟨ho, ExG.up hP h hk⟩
/-- The same with the contract ahead: another function's contract is told apart at once. -/
theorem CallV.updM {f : FuncId} {args : List AV} {H F F0 R : Hp} {post : AV → Hp → Prop} {x : AV} (h : ACt P f args F (fun r F' => r = x ∧ F' = F0)) (hP : H.Perm (F ++ R)) (hp : post x (F0 ++ R)) : CallV P f args H post := CallV.updN hP h hp
theorem CallV.exM {f : FuncId} {args : List AV} {H F R : Hp} {post : AV → Hp → Prop} {Γ : Type} {x : Γ → AV} {m : Γ → Hp} (h : ACt P f args F (fun r F' => ∃ g, r = x g ∧ F' = m g)) (hP : H.Perm (F ++ R)) (hp : ∀ g, post (x g) (m g ++ R)) : CallV P f args H post := CallV.ex hP h hp
end
end Go.Proofs.Ytbnkmhlnoaebcaa
namespace Go.Proofs.Ytbnkmhlnoaebcaa
open Go
set_option linter.unusedSimpArgs false
set_option linter.unusedVariables false
section
variable {P : Program} {cx : Cx} {n : Nat} {ops : Array Oper}
/-- A call that changes blocks of ours in one way. -/
def ECt (P : Program) (f : FuncId) (args : List AV) (E : Hp) (x : AV) (E' : Hp) : Prop :=
  ∃ F R F0, E.Perm (F ++ R) ∧ E' = F0 ++ R ∧ F0.map (·.1) = F.map (·.1) ∧ ACt P f args F (fun r F' => r = x ∧ F' = F0)
theorem run_ect {f : FuncId} {args : List AV} {x : AV} {env : List (Nat × AV)} {E H0 E' : Hp} {a : Act} {w : World} {vs : Array Value} (ok : Ok cx n ⟨env, E ++ H0⟩ a w) (h : ECt P f args E x E') (hs : vs.size = args.length)
    (hv : ∀ i, i < args.length → Rep w (imm cx w (E ++ H0)) (vs.getD i undef) (args.getD i .any)) :
    CallX P f vs w fun e w' => ∃ v, e = .returned v ∧ Rep w' (imm cx w' (E' ++ H0)) v x ∧ OkW cx (E' ++ H0) w' ∧ ∀ c, imm cx w (E ++ H0) c → imm cx w' (E' ++ H0) c ∧ w'.heap[c]? = w.heap[c]? := by
  obtain ⟨F, R, F0, hP0, rfl, hk, hct⟩ := h
  have hP : (E ++ H0).Perm (F ++ (R ++ H0)) := by rw [← List.append_assoc]; exact hP0.append_right H0
  have hw := ok.world.perm hP
  have hIp : ∀ b, imm cx w (E ++ H0) b → imm cx w (F ++ (R ++ H0)) b := fun b hb => (imm_perm hP).1 hb
  have hI : ∀ b, imm cx w (E ++ H0) b → b < w.heap.size ∧ b ∉ F.map (·.1) := fun b hb => ⟨imm_lt hw.ext.size hb, fun hm => by
    obtain ⟨x, hx, he⟩ := List.mem_map.1 hm
    exact imm_key hw.keys (hIp b hb) x (List.mem_append_left _ hx) he⟩
  have hnd := hw.nodup
  rw [List.map_append, List.nodup_append] at hnd
  have := hct ⟨w, imm cx w (E ++ H0), F.map (·.1), hI⟩ vs rfl ⟨hnd.1, fun x hx => .inl (List.mem_map_of_mem hx), fun x hx => (hw.mem x (List.mem_append_left _ hx)).mono (fun b hb => ⟨.inl ((imm_perm hP).2 hb), rfl⟩) rfl,
    ⟨rfl, rfl, rfl, Nat.le_refl _, fun _ _ _ => rfl⟩⟩ hs hv
  refine this.mono ?_
  rintro e w' ⟨v, r, F', he, ⟨rfl, rfl⟩, hw', hr⟩
  obtain ⟨c1, c2, c3⟩ := call_frame hIp hI hw hw'
  rw [List.append_assoc]
  exact ⟨v, he, hr.mono fun b hb => ⟨c3 b hb, rfl⟩, c1, fun c hc => c2 c (hIp c hc)⟩
def calleeV (env : List (Nat × AV)) : Op → Option (Prop × FuncId × List AV)
  | .call c => match c.callee with
    | .value (.func f) => some ((ogs env c.args.toList).1, f, (ogs env c.args.toList).2)
    | _ => none
  | _ => none
/-- An operation that changes what is ours in one way. -/
def EffE (P : Program) (cx : Cx) (n : Nat) (ops : Array Oper) (o : Oper) (env : List (Nat × AV)) (E H0 : Hp) (x : AV) (E' : Hp) : Prop :=
  okd n o.dst ∧ o.guard = none ∧ ∀ (a : Act) (w : World) (X : Act → World → Prop) (R : Exit → Act → World → Prop), a.defers = [] → a.tmps.size = n → OkW cx (E ++ H0) w →
    (∀ t ∈ o.looksAt ops, Rep w (imm cx w (E ++ H0)) (a.tmps.getD t undef) (look env t)) →
    (∀ v w', Rep w' (imm cx w' (E' ++ H0)) v x → OkW cx (E' ++ H0) w' → (∀ c, imm cx w (E ++ H0) c → imm cx w' (E' ++ H0) c ∧ w'.heap[c]? = w.heap[c]?) → X (a.put o.dst v) w') → o.wp P a w X R
theorem effE_call {o : Oper} {env : List (Nat × AV)} {E H0 E' : Hp} {x : AV} {q : Prop × FuncId × List AV} (hd : okd n o.dst) (hg : o.guard = none) (hc : calleeV env o.op = some q) (hq : q.1) (h : ECt P q.2.1 q.2.2 E x E') :
    EffE P cx n ops o env E H0 x E' := by
  refine ⟨hd, hg, fun a w X R h1 h2 h3 h4 h5 => ?_⟩
  have ok := ok_renv h1 h2 h3 h4
  have hre := opd_renv (ops := ops) (o := o) (env := env)
  obtain ⟨dst, op, type, pos, after, guard⟩ := o
  simp only at hc hd h5 hre ok
  unfold calleeV at hc
  split at hc
  · rename_i cl
    obtain ⟨callee, args, ts⟩ := cl
    simp only at hc
    split at hc
    · rename_i f
      simp only [Option.some.injEq] at hc
      subst hc
      simp only at hq h
      have he : ogs env args.toList = ogs (renv env (Oper.looksAt ops ⟨dst, .call ⟨.value (.func f), args, ts⟩, type, pos, after, guard⟩)) args.toList :=
        ogs_congr fun x hx => hre x (by simp [Op.operands, Call.operands]; exact .inr (by simpa using hx))
      rw [he] at hq h
      have hlen := ogs_length (env := renv env (Oper.looksAt ops ⟨dst, .call ⟨.value (.func f), args, ts⟩, type, pos, after, guard⟩)) args.toList
      have := run_ect (vs := args.map a.eval) ok h (by rw [hlen]; simp) (fun i hi => by
        have := ok.ogs hq i (by rw [hlen] at hi; exact hi)
        simpa [List.getD] using this)
      unfold Oper.wp
      have hrun : (execOp a.eval ⟨dst, .call ⟨.value (.func f), args, ts⟩, type, pos, after, guard⟩).run P w = (callFunc f (args.map a.eval)).run P w := by
        simp only [execOp, resolve, Act.eval, Deferred.ofValue, Sem.run_bind, Sem.run_pure, Result.andThen_ok, invoke, Array.append_empty, Array.empty_append]
        try simp
      refine this.upon hrun ?_
      rintro e w' ⟨v, rfl, hrep, c1, c2⟩
      exact ⟨_, rfl, h5 v w' hrep c1 c2⟩
    · cases hc
  · cases hc
def ExW (P : Program) (f : FuncId) (args : List AV) (E : Hp) (K : AV → Hp → Prop) (d : Hd K := .mk) : Prop := ∃ x E', ECt P f args E x E' ∧ K x E'
theorem ExW.mk {f : FuncId} {args : List AV} {E F R F0 : Hp} {K : AV → Hp → Prop} {x : AV} (hP : E.Perm (F ++ R)) (h : ACt P f args F (fun r F' => r = x ∧ F' = F0)) (hk : F0.map (·.1) = F.map (·.1)) (hK : K x (F0 ++ R)) : ExW P f args E K :=
  ⟨x, F0 ++ R, ⟨F, R, F0, hP, rfl, hk, h⟩, hK⟩
/-- One operation that only computes or looks. -/
def xst (P : Program) (ops : Array Oper) (H : Hp) (o : Oper) (env : List (Nat × AV)) (K : AV → Prop) : Prop :=
  match o.guard with
  | none => match pev P H env o.op with
    | some r => r.1 ∧ K r.2
    | none => match calleeOf P env o.op with
      | some q => q.1 ∧ ExF P q.2.1 q.2.2 H fun x => K x
      | none => False
  | some (j, want) => match gdOf env ops j want with
    | some c => match pev P H env o.op with
      | some r => (c = true → r.1) ∧ K (.gd c r.2)
      | none => match calleeOf P env o.op with
        | some q => (c = true → q.1) ∧ ExG c P q.2.1 q.2.2 H fun x => K (.gd c x)
        | none => False
    | none => False
theorem xst_stdy {o : Oper} {env : List (Nat × AV)} {H : Hp} {K : AV → Prop} (hd : okd n o.dst) (h : xst P ops H o env K) : ∃ x, Stdy P cx n ops o env H x ∧ StdyE P cx n ops o env H x ∧ K x := by
  unfold xst at h
  split at h
  · rename_i hg
    split at h
    · rename_i r hr
      exact ⟨r.2, stdy_pev hd hg hr h.1, fun E hE => stdy_pev hd hg (pev_app hE hr h.1) h.1, h.2⟩
    · split at h
      · rename_i q hq
        obtain ⟨hob, x, h1, h2⟩ := h
        exact ⟨x, stdy_call hd hg (dcall_of (s := ⟨env, H⟩) hq hob h1), fun E hE => stdy_call hd hg (dcall_app (dcall_of (s := ⟨env, H⟩) hq hob h1)), h2⟩
      · exact h.elim
  · rename_i j want hg
    split at h
    · rename_i c hc
      split at h
      · rename_i r hr
        refine ⟨_, stdy_pevG hd hg hc hr h.1, fun E hE => ?_, h.2⟩
        by_cases hct : c = true
        · exact stdy_pevG hd hg hc (pev_app hE hr (h.1 hct)) h.1
        · refine ⟨hd, fun a w X R h1 h2 h3 h4 h5 => ?_⟩
          have ok := ok_renv h1 h2 h3 h4
          rw [wanted_of_gd ok hg (by rw [gdOf_renv hg]; exact hc)]
          rw [if_neg hct]
          have hcf : c = false := by cases c <;> simp_all
          subst hcf
          exact h5 undef w (.gdf _) h3 fun c hc => ⟨hc, rfl⟩
      · split at h
        · rename_i q hq
          obtain ⟨hob, x, h1, h2⟩ := h
          exact ⟨_, stdy_callG hd hg hc fun hct => dcall_of (s := ⟨env, H⟩) hq (hob hct) (h1 hct), fun E hE => stdy_callG hd hg hc fun hct => dcall_app (dcall_of (s := ⟨env, H⟩) hq (hob hct) (h1 hct)), h2⟩
        · exact h.elim
    · exact h.elim
/-- What is ahead of the parting: calls that change (at ws), looks at what they change (at ls), what only computes. -/
def xvc (P : Program) (n : Nat) (ops : Array Oper) (ws ls : List Nat) (H0 : Hp) : Nat → List Oper → (List (Nat × AV) → Hp → Prop) → List (Nat × AV) → Hp → Prop
  | _, [], K, env, E => K env E
  | i, o :: rest, K, env, E => okd n o.dst ∧
    if i ∈ ws then o.guard = none ∧ match calleeV env o.op with
      | some q => q.1 ∧ ExW P q.2.1 q.2.2 E fun x E' => xvc P n ops ws ls H0 (i + 1) rest K (putE env o.dst x) E'
      | none => False
    else xst P ops (if i ∈ ls then E ++ H0 else H0) o env fun x => xvc P n ops ws ls H0 (i + 1) rest K (putE env o.dst x) E
theorem SeqG.cons {C : Nat → Oper → AV → List (Nat × AV) → Prop} {o : Oper} {x : AV} {r : List (Oper × AV)} {env : List (Nat × AV)} (h0 : C 0 o x env) (h : SeqG (fun i => C (i + 1)) r (putE env o.dst x)) : SeqG C ((o, x) :: r) env := by
  have := SeqG.app (C := C) (A := [(o, x)]) (B := r) (env := env) (SeqG.one h0) (by
    simp only [envL, if_true, List.length_cons, List.length_nil]
    have e : (fun i => C (0 + 1 + i)) = fun i => C (i + 1) := by funext i; rw [show 0 + 1 + i = i + 1 by omega]
    rw [e]; exact h)
  exact this
def CX (P : Program) (cx : Cx) (n : Nat) (ops : Array Oper) (ws ls : List Nat) (H0 : Hp) (i0 : Nat) (Ev : Nat → Hp) (i : Nat) (o : Oper) (x : AV) (env : List (Nat × AV)) : Prop :=
  (i0 + i ∈ ws → EffE P cx n ops o env (Ev i) H0 x (Ev (i + 1))) ∧ (i0 + i ∉ ws → Ev (i + 1) = Ev i ∧ (i0 + i ∈ ls → Stdy P cx n ops o env (Ev i ++ H0) x) ∧ (i0 + i ∉ ls → StdyE P cx n ops o env H0 x))
theorem xvc_seq {ws ls : List Nat} {H0 : Hp} {K : List (Nat × AV) → Hp → Prop} : ∀ (l : List Oper) (i0 : Nat) (env : List (Nat × AV)) (E : Hp), xvc P n ops ws ls H0 i0 l K env E →
    ∃ (xs : List AV) (Ev : Nat → Hp), xs.length = l.length ∧ Ev 0 = E ∧ (∀ i, ((Ev i).map (·.1)).Perm (E.map (·.1))) ∧ SeqG (CX P cx n ops ws ls H0 i0 Ev) (l.zip xs) env ∧ K (envL (fun _ => true) (l.zip xs) 0 env) (Ev l.length)
  | [], i0, env, E, h => ⟨[], fun _ => E, rfl, rfl, fun _ => .refl _, fun i o x hi => by simp at hi, h⟩
  | o :: rest, i0, env, E, h => by
    unfold xvc at h
    obtain ⟨hd, h⟩ := h
    have fin : ∀ (x : AV) (E1 : Hp), ((E1.map (·.1)).Perm (E.map (·.1))) → (i0 ∈ ws → EffE P cx n ops o env E H0 x E1) → (i0 ∉ ws → E1 = E ∧ (i0 ∈ ls → Stdy P cx n ops o env (E ++ H0) x) ∧ (i0 ∉ ls → StdyE P cx n ops o env H0 x)) →
        xvc P n ops ws ls H0 (i0 + 1) rest K (putE env o.dst x) E1 → ∃ (xs : List AV) (Ev : Nat → Hp), xs.length = (o :: rest).length ∧ Ev 0 = E ∧ (∀ i, ((Ev i).map (·.1)).Perm (E.map (·.1))) ∧
          SeqG (CX P cx n ops ws ls H0 i0 Ev) ((o :: rest).zip xs) env ∧ K (envL (fun _ => true) ((o :: rest).zip xs) 0 env) (Ev (o :: rest).length) := by
      intro x E1 hp hA hB hx
      obtain ⟨xs, Ev, g1, g2, g3, g4, g5⟩ := xvc_seq rest (i0 + 1) _ _ hx
      refine ⟨x :: xs, fun i => match i with | 0 => E | i + 1 => Ev i, by simp [g1], rfl, fun i => ?_, ?_, ?_⟩
      · cases i with
        | zero => exact .refl _
        | succ i => exact (g3 i).trans hp
      · rw [List.zip_cons_cons]
        refine SeqG.cons ⟨fun hi => ?_, fun hi => ?_⟩ (fun i o' x' hi => ?_)
        · simp only [Nat.add_zero, Nat.zero_add, g2] at hi ⊢; exact hA hi
        · simp only [Nat.add_zero, Nat.zero_add, g2] at hi ⊢; exact hB hi
        · have := g4 i o' x' hi
          unfold CX at this ⊢
          dsimp only
          rw [show i0 + (i + 1) = i0 + 1 + i by omega]
          exact this
      · simp only [List.zip_cons_cons, envL, if_true, List.length_cons, envL_shift]
        exact g5
    by_cases hw : i0 ∈ ws
    · rw [if_pos hw] at h
      obtain ⟨hg, h⟩ := h
      split at h
      · rename_i q hq
        obtain ⟨hob, x, E1, hE, hk⟩ := h
        refine fin x E1 ?_ (fun _ => effE_call hd hg hq hob hE) (fun hn => absurd hw hn) hk
        obtain ⟨F, R, F0, hP, rfl, hkk, _⟩ := hE
        rw [List.map_append, hkk, ← List.map_append]
        exact (hP.map _).symm
      · exact h.elim
    · rw [if_neg hw] at h
      obtain ⟨x, s1, s2, hk⟩ := xst_stdy (cx := cx) hd h
      refine fin x E (.refl _) (fun hn => absurd hn hw) (fun _ => ⟨rfl, fun hl => ?_, fun hl => ?_⟩) hk
      · rw [if_pos hl] at s1; exact s1
      · rw [if_neg hl] at s2; exact s2
/-! ### The order -/
def chB (ops : Array Oper) (c : Nat) (ws ls : List Nat) : Bool :=
  ws.all (fun v => decide (v < c) && ws.all fun u => !decide (u < v) || reach ops 12 v u) && ls.all fun l => ws.all fun v => (!decide (v < l) || reach ops 12 l v) && (!decide (l < v) || reach ops 12 v l)
def cutB (ops : Array Oper) (c : Nat) : Bool :=
  decide (c < ops.size) && (List.range c).all (reach ops 12 c) && (List.range ops.size).all fun j => decide (j ≤ c) || reach ops 12 j c
theorem reach_of_listed {listed : Array Bool} (hc : Closed ops listed) {f i j : Nat} {oi : Oper} (ho : ops[i]? = some oi) (hl : listed.getD i false = true) (h : reach ops f i j = true) : listed.getD j false = true :=
  reach_listed hc f i j h fun oi' ho' m hw => hc i oi' ho' hl m hw
theorem reach_of_ready {listed : Array Bool} (hc : Closed ops listed) {f i j : Nat} (hi : i ∈ Region.ready .any ops listed) (h : reach ops f i j = true) : listed.getD j false = true :=
  reach_listed hc f i j h fun oi' ho' m hw => ready_waits hi ho' hw
structure DInvX (cx : Cx) (n : Nat) (ops : Array Oper) (lx : List (Oper × AV)) (env : List (Nat × AV)) (H0 : Hp) (ws : List Nat) (c : Nat) (Ev : Nat → Hp) (listed : Array Bool) (a : Act) (w : World) : Prop where
  lsize : listed.size = ops.size
  behind : ∀ j, c ≤ j → listed.getD j false = false
  inv : ∃ m, m ≤ c ∧ (∀ j ∈ ws, listed.getD j false = decide (j < m)) ∧ DInv cx n ops lx env (Ev m ++ H0) listed a w
theorem ev_eq {ws : List Nat} {c : Nat} {Ev : Nat → Hp} (hE : ∀ j, j < c → j ∉ ws → Ev (j + 1) = Ev j) : ∀ (d m : Nat), m + d ≤ c → (∀ j ∈ ws, ¬ (m ≤ j ∧ j < m + d)) → Ev (m + d) = Ev m
  | 0, m, _, _ => rfl
  | d + 1, m, h1, h2 => by
    have hn : m + d ∉ ws := fun hm => h2 _ hm ⟨by omega, by omega⟩
    rw [← Nat.add_assoc, hE (m + d) (by omega) hn]
    exact ev_eq hE d m (by omega) fun j hj hh => h2 j hj ⟨hh.1, by omega⟩
theorem ev_same {ws : List Nat} {c : Nat} {Ev : Nat → Hp} (hE : ∀ j, j < c → j ∉ ws → Ev (j + 1) = Ev j) {m i : Nat} (hm : m ≤ c) (hi : i ≤ c) (h : ∀ j ∈ ws, (j < m ↔ j < i)) : Ev m = Ev i := by
  rcases Nat.le_total m i with hmi | hmi
  · obtain ⟨d, rfl⟩ := Nat.exists_eq_add_of_le hmi
    exact (ev_eq hE d m hi fun j hj hh => by have := (h j hj).2 hh.2; omega).symm
  · obtain ⟨d, rfl⟩ := Nat.exists_eq_add_of_le hmi
    exact ev_eq hE d i hm fun j hj hh => by have := (h j hj).1 hh.2; omega
theorem dinvX_step {lx : List (Oper × AV)} {env : List (Nat × AV)} {H0 : Hp} {ws ls : List Nat} {c : Nat} {Ev : Nat → Hp} {listed : Array Bool} {a : Act} {w : World} {i : Nat} (hD : DrawOk ops lx.length) (hlx : ∀ (j : Nat) o x, lx[j]? = some (o, x) → ops[j]? = some o)
    (hS : SeqG (fun i o x env => i < c → CX P cx n ops ws ls H0 0 Ev i o x env) lx env) (hcl : c ≤ lx.length) (hch : chB ops c ws ls = true) (hfr : ∀ i, ∀ p ∈ Ev i, fresh H0 p.1)
    (inv : DInvX cx n ops lx env H0 ws c Ev listed a w) (hi : i ∈ Region.ready .any ops listed) (hik : i < c) {R : Exit → Act → World → Prop} {X : Act → World → Prop}
    (hX : ∀ a' w', DInvX cx n ops lx env H0 ws c Ev (listed.setIfInBounds i true) a' w' → X a' w') : wpOp P ops R i X a w := by
  obtain ⟨⟨o, x⟩, hp⟩ : ∃ p, lx[i] = p := ⟨_, rfl⟩
  have hli : lx[i]? = some (o, x) := by rw [List.getElem?_eq_getElem (by omega), hp]
  have hoi := hlx i o x hli
  have hilt : i < ops.size := (Array.getElem?_eq_some_iff.1 hoi).1
  obtain ⟨m, hmc, hm, hinv⟩ := inv.inv
  have hcl2 := hinv.closed
  unfold chB at hch
  rw [Bool.and_eq_true] at hch
  obtain ⟨hch1, hch2⟩ := hch
  have hws : ∀ v ∈ ws, v < c ∧ ∀ u ∈ ws, u < v → reach ops 12 v u = true := fun v hv => by
    have := List.all_eq_true.1 hch1 v hv
    rw [Bool.and_eq_true] at this
    refine ⟨of_decide_eq_true this.1, fun u hu huv => ?_⟩
    have := List.all_eq_true.1 this.2 u hu
    simpa [huv] using this
  have hls : ∀ l ∈ ls, ∀ v ∈ ws, (v < l → reach ops 12 l v = true) ∧ (l < v → reach ops 12 v l = true) := fun l hl v hv => by
    have := List.all_eq_true.1 (List.all_eq_true.1 hch2 l hl) v hv
    rw [Bool.and_eq_true] at this
    refine ⟨fun h => ?_, fun h => ?_⟩
    · simpa [h] using this.1
    · simpa [h] using this.2
  have hun : listed.getD i false = false := by
    have := (mem_ready.1 hi).1
    rwa [getD_bool (by rw [inv.lsize]; exact hilt)] at this
  have hset : ∀ j, (listed.setIfInBounds i true).getD j false = if j = i then true else listed.getD j false := by
    intro j
    by_cases hji : j = i
    · subst hji
      have : j < listed.size := by rw [inv.lsize]; exact hilt
      simp [this]
    · rw [if_neg hji, getD_set_ne false (Ne.symm hji)]
  have hlsz : (listed.setIfInBounds i true).size = ops.size := by simp [inv.lsize]
  have hbeh : ∀ j, c ≤ j → (listed.setIfInBounds i true).getD j false = false := fun j hj => by rw [hset, if_neg (by omega)]; exact inv.behind j hj
  have hE : ∀ j, j < c → j ∉ ws → Ev (j + 1) = Ev j := fun j hj hn => by
    obtain ⟨⟨oj, xj⟩, hpj⟩ : ∃ p, lx[j]'(by omega) = p := ⟨_, rfl⟩
    have hlj : lx[j]? = some (oj, xj) := by rw [List.getElem?_eq_getElem (by omega), hpj]
    have := (hS j oj xj hlj hj).2 (by rw [Nat.zero_add]; exact hn)
    exact this.1
  have hSi := hS i o x hli hik
  unfold CX at hSi
  rw [Nat.zero_add] at hSi
  by_cases hiw : i ∈ ws
  · obtain ⟨hd, hg, hef⟩ := hSi.1 hiw
    have hlow : ∀ j ∈ ws, j < i → listed.getD j false = true := fun j hj hji => reach_of_ready hcl2 hi ((hws i hiw).2 j hj hji)
    have hmi : ¬ i < m := fun h => by have := hm i hiw; rw [hun, decide_eq_true h] at this; cases this
    have hev : Ev m = Ev i := ev_same hE hmc (by omega) fun j hj => ⟨fun h => by omega, fun h => by
      have h1 := hlow j hj h
      rw [hm j hj] at h1
      exact of_decide_eq_true h1⟩
    rw [hev] at hinv
    have hlook := dinv_look hD hlx hinv hi hli
    have hwp := hef a w X R hinv.ok.defers hinv.ok.size hinv.ok.world (fun t ht => by rw [← hlook t ht]; exact hinv.ok.reps t) (fun v w' hv hw' hI => by
      have hd2 := dinv_put hD hlx hinv hi hli hd hv hw' hI
      refine hX _ _ ⟨hlsz, hbeh, i + 1, by omega, fun j hj => ?_, hd2⟩
      rw [hset]
      by_cases hji : j = i
      · subst hji; simp
      · rw [if_neg hji]
        by_cases hlt : j < i
        · rw [hlow j hj hlt, decide_eq_true (by omega)]
        · rw [hm j hj, decide_eq_false (by omega), decide_eq_false (by omega)])
    unfold wpOp
    rw [hoi]
    simp only
    rw [if_pos (by simp [Region.wanted, hg])]
    exact .inl hwp
  · obtain ⟨_, h1, h2⟩ := hSi.2 hiw
    have hnew : ∀ j ∈ ws, (listed.setIfInBounds i true).getD j false = decide (j < m) := fun j hj => by
      rw [hset, if_neg (fun h => hiw (by rw [← h]; exact hj))]; exact hm j hj
    have hst : Stdy P cx n ops o (envL (fun j => decide (j < i)) lx 0 env) (Ev m ++ H0) x := by
      by_cases hil : i ∈ ls
      · have hev : Ev m = Ev i := ev_same hE hmc (by omega) fun j hj => by
          have hji : j ≠ i := fun h => hiw (h ▸ hj)
          refine ⟨fun h => ?_, fun h => ?_⟩
          · apply Classical.byContradiction; intro hn
            have hl : listed.getD j false = true := by rw [hm j hj, decide_eq_true h]
            obtain ⟨oj, hoj⟩ : ∃ oj, ops[j]? = some oj := ⟨_, Array.getElem?_eq_getElem (by have := (hws j hj).1; have := hD.le; omega)⟩
            have := reach_of_listed hcl2 hoj hl ((hls i hil j hj).2 (by omega))
            rw [hun] at this; cases this
          · have := reach_of_ready hcl2 hi ((hls i hil j hj).1 h)
            rw [hm j hj] at this
            exact of_decide_eq_true this
        rw [hev]; exact h1 hil
      · exact h2 hil (Ev m) (hfr m)
    exact dinv_stepS hD hlx hli hst hinv hi fun v w' hd => hX _ _ ⟨hlsz, hbeh, m, hmc, hnew, hd⟩
/-! ### Ahead of the parting, the parting, behind it -/
theorem head_to {k : Nat} {R : Exit → Act → World → Prop} {Inv : Array Bool → Act → World → Prop} (hle : k ≤ ops.size) (hback : ∀ (i : Nat) oi, ops[i]? = some oi → ∀ e ∈ oi.after, Region.binds .any e = true → e.on < i)
    (htail : ∀ listed a w, Inv listed a w → ∀ i, k ≤ i → i ∈ Region.ready .any ops listed → ∀ j, j < k → listed.getD j false = true)
    (hcl : ∀ listed a w, Inv listed a w → Closed ops listed) (hsz : ∀ listed a w, Inv listed a w → listed.size = ops.size)
    (hstep : ∀ listed a w i (X : Act → World → Prop), Inv listed a w → i ∈ Region.ready .any ops listed → i < k → (∀ a' w', Inv (listed.setIfInBounds i true) a' w' → X a' w') → wpOp P ops R i X a w) {g : Nat}
    (hfin : ∀ listed a w, Inv listed a w → (∀ j, j < k → listed.getD j false = true) → wpAny P .any ops R g listed a w) :
    ∀ (u : Nat) (listed : Array Bool) (a : Act) (w : World), ((List.range k).filter fun i => !listed.getD i false).length = u → Inv listed a w → wpAny P .any ops R (u + g) listed a w
  | 0, listed, a, w, hu, inv => by
    rw [Nat.zero_add]
    refine hfin listed a w inv fun j hj => ?_
    have := List.eq_nil_of_length_eq_zero hu
    rw [List.filter_eq_nil_iff] at this
    simpa using this j (List.mem_range.2 hj)
  | u + 1, listed, a, w, hu, inv => by
    have hls := hsz _ _ _ inv
    rw [show u + 1 + g = (u + g) + 1 by omega]
    obtain ⟨m, hm1, hm2⟩ : ∃ m, m < k ∧ listed.getD m false = false := by
      cases hf : ((List.range k).filter fun i => !listed.getD i false) with
      | nil => rw [hf] at hu; cases hu
      | cons m r =>
        have : m ∈ (List.range k).filter fun i => !listed.getD i false := by rw [hf]; exact List.mem_cons_self ..
        rw [List.mem_filter] at this
        exact ⟨m, List.mem_range.1 this.1, by simpa using this.2⟩
    obtain ⟨i0, h1, h2, h3⟩ := least (p := fun i => listed.getD i false) hm2
    have hi0 : i0 < ops.size := by omega
    have hready0 : i0 ∈ Region.ready .any ops listed := by
      refine mem_ready.2 ⟨by rw [getD_bool (by rw [hls]; exact hi0)]; exact h2, ops[i0], Array.getElem?_eq_getElem hi0, fun e he hb => h3 _ (hback i0 _ (Array.getElem?_eq_getElem hi0) e he hb)⟩
    refine ⟨fun h => (by rw [h] at hready0; cases hready0), fun i hi => ?_⟩
    obtain ⟨hun, oi, hoi, _⟩ := mem_ready.1 hi
    have hilt : i < ops.size := (Array.getElem?_eq_some_iff.1 hoi).1
    have hik : i < k := by
      rcases Nat.lt_or_ge i k with h | h
      · exact h
      · have := htail listed a w inv i h hi m hm1
        rw [hm2] at this
        cases this
    have hun' : listed.getD i false = false := by rw [← getD_bool (by rw [hls]; exact hilt)]; exact hun
    refine hstep listed a w i _ inv hi hik fun a' w' inv' => head_to hle hback htail hcl hsz hstep hfin u _ a' w' ?_ inv'
    have hcount : ∀ (l : List Nat), l.Nodup → i ∈ l → (l.filter fun j => !listed.getD j false).length = ((l.filter fun j => !(listed.setIfInBounds i true).getD j false).length) + 1 := by
      intro l
      induction l with
      | nil => intro _ h; cases h
      | cons c r ih =>
        intro hn hmem
        simp only [List.nodup_cons] at hn
        by_cases hci : c = i
        · subst hci
          have hset : (listed.setIfInBounds c true).getD c false = true := by
            have : c < listed.size := by rw [hls]; exact hilt
            simp [this]
          have hrest : (r.filter fun j => !listed.getD j false) = r.filter fun j => !(listed.setIfInBounds c true).getD j false := by
            refine List.filter_congr fun j hj => ?_
            have : j ≠ c := fun h => hn.1 (h ▸ hj)
            rw [getD_set_ne false (Ne.symm this)]
          rw [List.filter_cons, List.filter_cons, hun', hset, hrest]
          simp
        · have hmem' : i ∈ r := by rcases List.mem_cons.1 hmem with h | h; exact absurd h.symm hci; exact h
          have := ih hn.2 hmem'
          rw [List.filter_cons, List.filter_cons, getD_set_ne false (Ne.symm hci)]
          split
          · simp only [List.length_cons]; omega
          · exact this
    have := hcount (List.range k) List.nodup_range (List.mem_range.2 hik)
    omega
theorem Stdy.congr {o : Oper} {env env' : List (Nat × AV)} {H : Hp} {x : AV} (h : ∀ t, look env t = look env' t) (hS : Stdy P cx n ops o env H x) : Stdy P cx n ops o env' H x :=
  ⟨hS.1, fun a w X R h1 h2 h3 h4 h5 => hS.2 a w X R h1 h2 h3 (fun t ht => by rw [h t]; exact h4 t ht) h5⟩
theorem envL_same {s : List (Nat × AV)} {f : Nat → Bool} : ∀ (l : List Oper) (k : Nat) (env : List (Nat × AV)), (∀ t, look env t = look s t) →
    ∀ t, look (envL f (l.map fun o => (o, match o.dst with | some d => look s d | none => .any)) k env) t = look s t
  | [], _, env, h, t => h t
  | o :: r, k, env, h, t => by
    simp only [List.map_cons, envL]
    refine envL_same r (k + 1) _ (fun t => ?_) t
    split
    · rw [look_putE]
      split
      · rename_i hd; rw [hd]
      · exact h t
    · exact h t
theorem count_gt (c : Nat) : ∀ N, ((List.range N).filter fun i => !decide (i ≤ c)).length = N - (c + 1)
  | 0 => by simp
  | N + 1 => by
    rw [List.range_succ, List.filter_append, List.length_append, count_gt c N]
    by_cases h : N ≤ c
    · simp [h]; omega
    · simp [h]; omega
/-- Behind the parting: what computes or looks, in any order. -/
theorem rest_any {c : Nat} {l : List Oper} (hops : l.toArray = ops) (hD : DrawOk ops ops.size) (hc : c < ops.size) {s : St} {K : St → Prop} {R : Exit → Act → World → Prop} (h : dvc P n ops (l.drop (c + 1)) K s) (hR : ∀ s a w, K s → Ok cx n s a w → R .normal a w)
    {listed : Array Bool} {a : Act} {w : World} (hls : listed.size = ops.size) (hl : ∀ j, listed.getD j false = decide (j ≤ c)) (hcl : Closed ops listed) (ok : Ok cx n s a w) :
    wpAny P .any ops R (ops.size - (c + 1)) listed a w := by
  have hlen : l.length = ops.size := by rw [← hops]; simp
  obtain ⟨xs, x1, S1, K1⟩ := dvc_seqv (cx := cx) _ _ h
  obtain ⟨A, hA⟩ : ∃ A : List (Oper × AV), A = (l.take (c + 1)).map fun o => (o, match o.dst with | some d => look s.env d | none => .any) := ⟨_, rfl⟩
  obtain ⟨B, hB⟩ : ∃ B, B = (l.drop (c + 1)).zip xs := ⟨_, rfl⟩
  rw [← hB] at S1 K1
  have lA : A.length = c + 1 := by rw [hA]; simp; omega
  have lB : B.length = ops.size - (c + 1) := by rw [hB]; simp [x1]; omega
  have fB : B.map (·.1) = l.drop (c + 1) := by rw [hB]; exact List.map_fst_zip (by omega)
  have fA : A.map (·.1) = l.take (c + 1) := by rw [hA, List.map_map]; exact List.map_id' _
  obtain ⟨lx, hlxe⟩ : ∃ lx, lx = A ++ B := ⟨_, rfl⟩
  have llx : lx.length = ops.size := by rw [hlxe, List.length_append, lA, lB]; omega
  have hlx : ∀ (j : Nat) o x, lx[j]? = some (o, x) → ops[j]? = some o := by
    intro j o x hj
    have h1 : (lx.map (·.1))[j]? = some o := by rw [List.getElem?_map, hj]; rfl
    rw [hlxe, List.map_append, fA, fB, List.take_append_drop] at h1
    rw [← hops]; simpa using h1
  have henvA : ∀ (f : Nat → Bool) t, look (envL f A 0 s.env) t = look s.env t := fun f t => by rw [hA]; exact envL_same _ 0 _ (fun _ => rfl) t
  have hbase : ∀ (f : Nat → Bool) t, look (envL f lx 0 s.env) t = look (envL (fun j => f (c + 1 + j)) B 0 s.env) t := by
    intro f t
    rw [hlxe, envL_append, Nat.zero_add, lA, show c + 1 = c + 1 + 0 from rfl, envL_shiftk (c + 1) B 0]
    exact envL_congr B 0 _ _ (henvA f t) fun _ _ _ _ _ => rfl
  have inv0 : DInv cx n ops lx s.env s.H listed a w := by
    refine ⟨hls, hcl, fun t ht ht' => by omega, ok.defers, ok.size, fun t => ?_, ok.world⟩
    have e : look (envL (fun j => listed.getD j false) lx 0 s.env) t = look s.env t := by
      rw [hbase]
      rw [envL_none B 0 s.env fun j _ => by rw [hl]; simp; omega]
    rw [e]; exact ok.reps t
  have hD' : DrawOk ops lx.length := by rw [llx]; exact hD
  have hcount : ((List.range ops.size).filter fun i => !listed.getD i false).length = ops.size - (c + 1) := by
    have e : (fun i => !listed.getD i false) = fun i => !decide (i ≤ c) := by funext i; rw [hl]
    rw [e]
    exact count_gt c ops.size
  have := head_to (P := P) (ops := ops) (k := ops.size) (R := R) (g := 0) (Inv := fun li a w => (∀ j, j ≤ c → li.getD j false = true) ∧ DInv cx n ops lx s.env s.H li a w) (Nat.le_refl _) hD.back
    (fun li _ _ _ i hi hr => by
      obtain ⟨_, oi, hoi, _⟩ := mem_ready.1 hr
      have := (Array.getElem?_eq_some_iff.1 hoi).1
      omega)
    (fun _ _ _ inv => inv.2.closed) (fun _ _ _ inv => inv.2.lsize)
    (fun li a w i X inv hi hik hX => by
      have hun : li.getD i false = false := by
        have := (mem_ready.1 hi).1
        rwa [getD_bool (by rw [inv.2.lsize]; exact hik)] at this
      have hci : c < i := by
        apply Classical.byContradiction; intro hn
        rw [inv.1 i (by omega)] at hun; cases hun
      obtain ⟨⟨o, x⟩, hp⟩ : ∃ p, lx[i]'(by omega) = p := ⟨_, rfl⟩
      have hli : lx[i]? = some (o, x) := by rw [List.getElem?_eq_getElem (by omega), hp]
      have hBi : B[i - (c + 1)]? = some (o, x) := by
        rw [hlxe, List.getElem?_append_right (by omega), lA] at hli
        exact hli
      have hS := S1 _ _ _ hBi
      refine dinv_stepS hD' hlx hli (hS.congr fun t => ?_) inv.2 hi fun v w' hd => hX _ _ ⟨fun j hj => ?_, hd⟩
      · rw [hbase]
        congr 1
        refine envL_ext B 0 _ fun j _ _ => ?_
        rw [Bool.eq_iff_iff]; simp; omega
      · rw [getD_set_ne false (by omega)]; exact inv.1 j hj)
    (fun li a w inv hall => by
      refine ⟨?_, ?_⟩
      · apply List.eq_nil_iff_forall_not_mem.2
        intro i hi
        obtain ⟨hun, oi, hoi, _⟩ := mem_ready.1 hi
        have hilt := (Array.getElem?_eq_some_iff.1 hoi).1
        rw [getD_bool (by rw [inv.2.lsize]; exact hilt), hall i hilt] at hun
        cases hun
      · refine hR _ _ _ K1 ⟨inv.2.ok.defers, inv.2.ok.size, fun t => ?_, inv.2.ok.world⟩
        have e : look (envL (fun j => li.getD j false) lx 0 s.env) t = look (envL (fun _ => true) B 0 s.env) t := by
          rw [hbase]
          congr 1
          exact envL_ext B 0 _ fun j _ hj => hall _ (by omega)
        have := inv.2.ok.reps t
        simp only [e] at this
        exact this)
    _ listed a w hcount ⟨fun j hj => by rw [hl]; simp; omega, inv0⟩
  rwa [Nat.add_zero] at this
def splitH : List Nat → Hp → Option (Hp × Hp)
  | [], H => some ([], H)
  | b :: bs, H => match hget H b with
    | some m => match splitH bs (hdel H b) with
      | some q => some ((b, m) :: q.1, q.2)
      | none => none
    | none => none
theorem splitH_perm : ∀ {bs : List Nat} {H : Hp} {q : Hp × Hp}, splitH bs H = some q → H.Perm (q.1 ++ q.2)
  | [], H, q, h => by cases h; exact .refl _
  | b :: bs, H, q, h => by
    unfold splitH at h
    split at h
    · rename_i m hm
      split at h
      · rename_i q' hq'
        cases h
        exact (hget_perm hm).trans (List.Perm.cons _ (splitH_perm hq'))
      · cases h
    · cases h
def drawCF (P : Program) (n : Nat) (l : List Oper) (K : St → Prop) (c : Nat) (ws ls bs : List Nat) (s : St) : Prop :=
  match splitH bs s.H with
  | some q => xvc P n l.toArray ws ls q.2 0 (l.take c) (fun env E => match l.drop c with
    | o :: r => okd n o.dst ∧ o.guard = none ∧ eff P o (fun s' => dvc P n l.toArray r K s') ⟨env, E ++ q.2⟩
    | [] => False) s.env q.1
  | none => False
theorem WP.drawC {id c : Nat} {ws ls bs : List Nat} {l : List Oper} {Q : Exit → St → Prop} {s : St} (hm : P.follows .mixedOrders = true) (hB : drawB l.toArray l.length = true) (hcut : cutB l.toArray c = true) (hch : chB l.toArray c ws ls = true)
    (h : drawCF P n l (Q .normal) c ws ls bs s) : WP P cx n (.region id l.toArray true) Q s := by
  intro a w ok0
  have hD : DrawOk l.toArray l.toArray.size := by have := drawB_spec hB; simpa using this
  unfold cutB at hcut
  simp only [Bool.and_eq_true, decide_eq_true_eq] at hcut
  obtain ⟨⟨hcs, hc1⟩, hc2⟩ := hcut
  have hcl : c < l.length := by simpa using hcs
  have hr1 : ∀ j, j < c → reach l.toArray 12 c j = true := fun j hj => List.all_eq_true.1 hc1 j (List.mem_range.2 hj)
  have hr2 : ∀ j, c < j → j < l.toArray.size → reach l.toArray 12 j c = true := fun j hj hjs => by
    have := List.all_eq_true.1 hc2 j (List.mem_range.2 hjs)
    rw [Bool.or_eq_true] at this
    rcases this with h | h
    · have := of_decide_eq_true h; omega
    · exact h
  unfold drawCF at h
  split at h
  case h_2 => exact h.elim
  rename_i q hq
  obtain ⟨E0, H0⟩ := q
  simp only at h
  have hperm := splitH_perm hq
  simp only at hperm
  have ok : Ok cx n ⟨s.env, E0 ++ H0⟩ a w := Ok.permH hperm ok0
  have hnd := ok.world.nodup
  simp only [List.map_append, List.nodup_append] at hnd
  obtain ⟨xs, Ev, g1, g2, g3, g4, g5⟩ := xvc_seq (cx := cx) _ _ _ _ h
  have hfr : ∀ i, ∀ p ∈ Ev i, fresh H0 p.1 := fun i p hp r hr => by
    have h1 : p.1 ∈ E0.map (·.1) := (g3 i).mem_iff.1 (List.mem_map_of_mem hp)
    have hne := hnd.2.2 _ h1 _ (List.mem_map_of_mem hr)
    exact ⟨Ne.symm hne, hne⟩
  have lt : (l.take c).length = c := by simp; omega
  rw [lt] at g5
  obtain ⟨A, hA⟩ : ∃ A, A = (l.take c).zip xs := ⟨_, rfl⟩
  rw [← hA] at g4 g5
  have lA : A.length = c := by rw [hA]; simp [g1]; omega
  have fA : A.map (·.1) = l.take c := by rw [hA]; exact List.map_fst_zip (by omega)
  obtain ⟨D, hDD⟩ : ∃ D : List (Oper × AV), D = (l.drop c).map fun o => (o, AV.any) := ⟨_, rfl⟩
  have fD : D.map (·.1) = l.drop c := by rw [hDD, List.map_map]; exact List.map_id' _
  obtain ⟨lx, hlxe⟩ : ∃ lx, lx = A ++ D := ⟨_, rfl⟩
  have hlxf : lx.map (·.1) = l := by rw [hlxe, List.map_append, fA, fD, List.take_append_drop]
  have llx : lx.length = l.toArray.size := by have := congrArg List.length hlxf; simpa using this
  have hlx : ∀ (j : Nat) o x, lx[j]? = some (o, x) → l.toArray[j]? = some o := by
    intro j o x hj
    have h1 : (lx.map (·.1))[j]? = some o := by rw [List.getElem?_map, hj]; rfl
    rw [hlxf] at h1; simpa using h1
  have hS : SeqG (fun i o x env => i < c → CX P cx n l.toArray ws ls H0 0 Ev i o x env) lx s.env := by
    rw [hlxe]
    refine SeqG.app (fun i o x hi _ => g4 i o x hi) fun i o x hi hlt => ?_
    omega
  have hD' : DrawOk l.toArray lx.length := by rw [llx]; exact hD
  refine wp_region_any hm ?_
  have ok' : Ok cx n ⟨s.env, E0 ++ H0⟩ a { w with drawn := w.drawn + 1 } := by
    have hIw : ∀ b, imm cx w (E0 ++ H0) b → imm cx { w with drawn := w.drawn + 1 } (E0 ++ H0) b ∧ ({ w with drawn := w.drawn + 1 } : World).heap[b]? = w.heap[b]? := fun b hb => ⟨hb, rfl⟩
    refine ⟨ok.defers, ok.size, fun i => (ok.reps i).mono hIw, ⟨ok.world.nodup, ok.world.keys, fun x hx => (ok.world.mem x hx).mono hIw rfl, ⟨ok.world.ext.os, ok.world.ext.tape, ok.world.ext.output, ok.world.ext.size, ok.world.ext.blk⟩⟩⟩
  have henv0 : envL (fun j => (Array.replicate l.toArray.size false).getD j false) lx 0 s.env = s.env := envL_none _ _ _ fun j _ => getD_rep_false _ _
  have inv0 : DInvX cx n l.toArray lx s.env H0 ws c Ev (Array.replicate l.toArray.size false) a { w with drawn := w.drawn + 1 } := by
    refine ⟨by simp, fun j _ => getD_rep_false _ _, 0, Nat.zero_le _, fun j _ => by rw [getD_rep_false]; simp, by simp, fun j oj _ hl => ?_, fun t ht ht' => by omega, ?_⟩
    · rw [getD_rep_false] at hl; cases hl
    · rw [henv0, g2]; exact ok'
  have hcount : ((List.range c).filter fun i => !(Array.replicate l.toArray.size false).getD i false).length = c := by
    have : ((List.range c).filter fun i => !(Array.replicate l.toArray.size false).getD i false) = List.range c := by
      rw [List.filter_eq_self]
      intro j _
      rw [getD_rep_false]
      rfl
    rw [this]; simp
  have hrc : ∀ listed, Closed l.toArray listed → ∀ i, c ≤ i → i ∈ Region.ready .any l.toArray listed → ∀ j, j < c → listed.getD j false = true := by
    intro listed hcd i hi hr j hj
    by_cases hic : i = c
    · subst hic; exact reach_of_ready hcd hr (hr1 j hj)
    · obtain ⟨_, oi, hoi, _⟩ := mem_ready.1 hr
      have his := (Array.getElem?_eq_some_iff.1 hoi).1
      have hlc := reach_of_ready hcd hr (hr2 i (by omega) his)
      exact reach_of_listed hcd (Array.getElem?_eq_getElem hcs) hlc (hr1 j hj)
  have := head_to (P := P) (ops := l.toArray) (k := c) (R := fun e a' w' => ∃ s', Q e s' ∧ Ok cx n s' a' w') (g := l.toArray.size - c) (Inv := DInvX cx n l.toArray lx s.env H0 ws c Ev) (Nat.le_of_lt hcs) hD.back (fun li a w inv => hrc li (by obtain ⟨m, _, _, hi⟩ := inv.inv; exact hi.closed))
    (fun _ _ _ inv => by obtain ⟨m, _, _, hi⟩ := inv.inv; exact hi.closed) (fun _ _ _ inv => inv.lsize)
    (fun li a w i X inv hi hik hX => dinvX_step hD' hlx hS (by omega) hch hfr inv hi hik hX)
    (fun li a w inv hall => by
      obtain ⟨m, hmc, hmw, hinv⟩ := inv.inv
      have hli : ∀ j, li.getD j false = decide (j < c) := fun j => by
        by_cases hj : j < c
        · rw [hall j hj, decide_eq_true hj]
        · rw [inv.behind j (by omega), decide_eq_false hj]
      have hwsc : ∀ v ∈ ws, v < c := fun v hv => by
        unfold chB at hch
        rw [Bool.and_eq_true] at hch
        have := List.all_eq_true.1 hch.1 v hv
        rw [Bool.and_eq_true] at this
        exact of_decide_eq_true this.1
      have hE : ∀ j, j < c → j ∉ ws → Ev (j + 1) = Ev j := fun j hj hn => by
        obtain ⟨⟨oj, xj⟩, hpj⟩ : ∃ p, lx[j]'(by omega) = p := ⟨_, rfl⟩
        have hlj : lx[j]? = some (oj, xj) := by rw [List.getElem?_eq_getElem (by omega), hpj]
        exact ((hS j oj xj hlj hj).2 (by rw [Nat.zero_add]; exact hn)).1
      have hev : Ev m = Ev c := ev_same hE hmc (Nat.le_refl _) fun j hj => by
        have h1 := hwsc j hj
        have h2 := hmw j hj
        rw [hall j h1] at h2
        have := of_decide_eq_true h2.symm
        exact ⟨fun _ => h1, fun _ => this⟩
      rw [hev] at hinv
      have henv : ∀ t, look (envL (fun j => li.getD j false) lx 0 s.env) t = look (envL (fun _ => true) A 0 s.env) t := by
        intro t
        rw [hlxe, envL_append, envL_none D _ _ (fun j hj => by rw [hli, decide_eq_false (by omega)])]
        rw [envL_ext (g := fun _ => true) A 0 s.env fun j _ hj => by rw [hli, decide_eq_true (by omega)]]
      have hok : Ok cx n ⟨envL (fun _ => true) A 0 s.env, Ev c ++ H0⟩ a w := by
        refine ⟨hinv.ok.defers, hinv.ok.size, fun t => ?_, hinv.ok.world⟩
        have := hinv.ok.reps t
        simp only [henv t] at this
        exact this
      have K5 := g5
      split at K5
      case h_2 => exact K5.elim
      rename_i o r hor
      obtain ⟨hod, hog, hoe⟩ := K5
      have hoc : l.toArray[c]? = some o := by
        have : (l.drop c)[0]? = some o := by rw [hor]; rfl
        simpa using this
      have hrr : r = l.drop (c + 1) := by
        have : (l.drop c).drop 1 = r := by rw [hor]; rfl
        rw [← this, List.drop_drop]
      have hready : Region.ready .any l.toArray li ≠ [] := by
        intro hnil
        have : c ∈ Region.ready .any l.toArray li := by
          refine mem_ready.2 ⟨by rw [getD_bool (by rw [inv.lsize]; exact hcs), hli]; simp, o, hoc, fun e he hb => by
            have := hD.back c o hoc e he hb
            rw [hli, decide_eq_true this]⟩
        rw [hnil] at this; cases this
      rw [show l.toArray.size - c = (l.toArray.size - (c + 1)) + 1 by omega]
      refine ⟨fun h => absurd h hready, fun i hi => ?_⟩
      have hic : i = c := by
        obtain ⟨hun, oi, hoi, _⟩ := mem_ready.1 hi
        have hilt := (Array.getElem?_eq_some_iff.1 hoi).1
        rw [getD_bool (by rw [inv.lsize]; exact hilt), hli] at hun
        have h1 : ¬ i < c := of_decide_eq_false hun
        apply Classical.byContradiction; intro hne
        have := reach_of_ready hinv.closed hi (hr2 i (by omega) hilt)
        rw [hli] at this
        have := of_decide_eq_true this
        omega
      subst hic
      have hlsz : (li.setIfInBounds i true).size = l.toArray.size := by simp [inv.lsize]
      have hl2 : ∀ j, (li.setIfInBounds i true).getD j false = decide (j ≤ i) := by
        intro j
        by_cases hji : j = i
        · subst hji
          have : j < li.size := by rw [inv.lsize]; exact hcs
          simp [this]
        · rw [getD_set_ne false (Ne.symm hji), hli]
          rw [Bool.eq_iff_iff]; simp; omega
      have hcl2 := closed_set hinv.closed hi
      unfold wpOp
      rw [hoc]
      simp only
      rw [if_pos (by simp [Region.wanted, hog])]
      refine .inl ?_
      refine eff_sound (cx := cx) hod hoe _ _ (fun s' a' w' hs' ok'' => ?_) a w hok
      rw [hrr] at hs'
      exact rest_any rfl hD hcs hs' (fun s a w hk ok => ⟨s, hk, ok⟩) hlsz hl2 hcl2 ok'')
    c _ a _ hcount inv0
  have hN : c + (l.toArray.size - c) = l.toArray.size := by omega
  rw [hN] at this
  exact this
end
end Go.Proofs.Ytbnkmhlnoaebcaa
