/-
  The walks and the laws that the statement leans on, part 4.
-/
import Derived.ChangeReads
import Derived.Laws.Externs
import Derived.Test.YtbkojpkdphggeaaProg
import Derived.LaidMore
import Derived.OpenShut
import Derived.MakeChecks
import Derived.Test.YtbkojpkdphggeaaZ3
namespace Go.Proofs.Ytbkojpkdphggeaa
open Go
set_option linter.unusedSimpArgs false
set_option linter.unusedVariables false
def clA : AV → Bool
  | .lit _ => true
  | .any => true
  | .agg cs => clL cs
  | .tup cs => clL cs
  | .ifc _ x => clA x
  | _ => false
where clL : List AV → Bool
  | [] => true
  | x :: r => clA x && clL r
theorem clL_get : ∀ {cs : List AV} (i : Nat) (hi : i < cs.length), clA.clL cs = true → clA cs[i] = true
  | x :: r, 0, _, h => by simp only [clA.clL, Bool.and_eq_true] at h; exact h.1
  | x :: r, i + 1, hi, h => by
    simp only [clA.clL, Bool.and_eq_true] at h
    exact clL_get (cs := r) i (by simpa using hi) h.2
theorem Rep.closed {w w' : World} {I I' : Nat → Prop} {v : Value} {x : AV} (h : Rep w I v x) : clA x = true → Rep w' I' v x := by
  induction h with
  | any v => exact fun _ => .any v
  | lit v => exact fun _ => .lit v
  | sl a n cap cs g hn hm h _ ih => intro hc; simp [clA] at hc
  | slz a k zs cap hn hm h => intro hc; simp [clA] at hc
  | ip ad cs g h _ ih => intro hc; simp [clA] at hc
  | ipz ad k zs h => intro hc; simp [clA] at hc
  | agg vs cs hs _ ih => exact fun hc => .agg vs cs hs fun i hi => ih i hi (clL_get i hi (by simpa [clA] using hc))
  | tup vs cs hs _ ih => exact fun hc => .tup vs cs hs fun i hi => ih i hi (clL_get i hi (by simpa [clA] using hc))
  | ifc t v x _ ih => exact fun hc => .ifc t v x (ih (by simpa [clA] using hc))
  | gdt v x _ ih => intro hc; simp [clA] at hc
  | gdf x => intro hc; simp [clA] at hc
theorem hget_perm {b : Nat} {m : MB} : ∀ {H : Hp}, hget H b = some m → H.Perm ([(b, m)] ++ hdel H b)
  | [], h => by cases h
  | (b0, m0) :: r, h => by
    simp only [hget, hdel] at h ⊢
    split at h
    · rename_i he; subst he; cases h; simp
    · rename_i he
      rw [if_neg he]
      have := hget_perm (H := r) h
      exact (List.Perm.cons _ this).trans (List.Perm.swap ..)
/-! ## Views -/
inductive Vw (H : Hp) : AV → AV → Prop
  | same (x : AV) : Vw H x x
  | row {b off n cap sz ty : Nat} {k : IntKind} {zs : List Int} (hg : hget H b = some (.zs k zs sz ty)) (h1 : off + n ≤ zs.length) (h2 : n ≤ cap) (h3 : cap ≤ maxLen) :
      Vw H (ms b off n cap) (.slz k ((zs.drop off).take n))
  | rowc {b off n cap sz ty : Nat} {cs ds : List AV} (hg : hget H b = some (.cells cs sz ty)) (h1 : off + ds.length ≤ cs.length) (h2 : n ≤ cap) (h3 : cap ≤ maxLen)
      (h : ∀ i (hi : i < ds.length), Vw H (cs.getD (off + i) .any) ds[i]) : Vw H (ms b off n cap) (.sl n ds)
  | ptc {b off sz ty : Nat} {cs ds : List AV} (hg : hget H b = some (.cells cs sz ty)) (h1 : off + ds.length ≤ cs.length)
      (h : ∀ i (hi : i < ds.length), Vw H (cs.getD (off + i) .any) ds[i]) : Vw H (pt b off) (.ip ds)
  | ptz {b off sz ty : Nat} {k : IntKind} {zs : List Int} (hg : hget H b = some (.zs k zs sz ty)) (h1 : off ≤ zs.length) : Vw H (pt b off) (.ipz k (zs.drop off))
  | agg {cs ds : List AV} (hl : ds.length = cs.length) (h : ∀ i (hi : i < ds.length), Vw H (cs.getD i .any) ds[i]) : Vw H (.agg cs) (.agg ds)
  | ifc {t : TypeId} {x y : AV} (h : Vw H x y) : Vw H (.ifc t x) (.ifc t y)
  | nils : Vw H (.lit (.slice none 0 0)) (.sl 0 [])
theorem Vw.rep {cx : Cx} {H : Hp} {w : World} {I' : Nat → Prop} (hw : OkW cx H w) (hlt : ∀ b, imm cx w H b → I' b) (hk : ∀ x ∈ H, I' x.1) {x y : AV} (h : Vw H x y) : ∀ {v : Value}, Rep w (imm cx w H) v x → Rep w I' v y := by
  induction h with
  | same x => exact fun hv => hv.mono fun b hb => ⟨hlt b hb, rfl⟩
  | @row b off n cap sz ty k zs hg h1 h2 h3 =>
    intro v hv
    have := hv.lit_inv; subst this
    obtain ⟨cur, c1, c2, c3, c4⟩ := hw.mem _ (hget_mem hg)
    have e : ((zs.drop off).take n).length = n := by simp; omega
    have : Rep w I' (.slice (some ⟨b, off, none⟩) ((zs.drop off).take n).length cap) (.slz k ((zs.drop off).take n)) := by
      refine .slz _ _ _ _ (by omega) h3 (.inr ⟨b, off, rfl, hk _ (hget_mem hg), fun i hi => ?_⟩)
      rw [e] at hi
      rw [cell_of_block c1, c4 _ (by omega)]
      simp [List.getD, List.getElem?_take, List.getElem?_drop, hi]
    rw [e] at this
    exact this
  | @rowc b off n cap sz ty cs ds hg h1 h2 h3 h ih =>
    intro v hv
    have := hv.lit_inv; subst this
    obtain ⟨cur, c1, c2, c3, c4⟩ := hw.mem _ (hget_mem hg)
    refine .sl _ _ _ _ (fun i => cur.getD (off + i) undef) h2 h3 (.inr ⟨b, off, rfl, hk _ (hget_mem hg), fun i hi => ?_⟩) fun i hi => ih i hi ?_
    · rw [cell_of_block c1]
      have : off + i < cur.size := by omega
      simp [this]
    · have h4 := c4 (off + i) (by omega)
      have : cs.getD (off + i) .any = cs[off + i]'(by omega) := by simp [List.getD, show off + i < cs.length by omega]
      rw [this]
      exact h4
  | @ptc b off sz ty cs ds hg h1 h ih =>
    intro v hv
    have := hv.lit_inv; subst this
    obtain ⟨cur, c1, c2, c3, c4⟩ := hw.mem _ (hget_mem hg)
    refine .ip _ _ (fun i => cur.getD (off + i) undef) (.inr ⟨b, off, rfl, hk _ (hget_mem hg), fun i hi => ?_⟩) fun i hi => ih i hi ?_
    · rw [cell_of_block c1]
      have : off + i < cur.size := by omega
      simp [this]
    · have h4 := c4 (off + i) (by omega)
      have : cs.getD (off + i) .any = cs[off + i]'(by omega) := by simp [List.getD, show off + i < cs.length by omega]
      rw [this]
      exact h4
  | @ptz b off sz ty k zs hg h1 =>
    intro v hv
    have := hv.lit_inv; subst this
    obtain ⟨cur, c1, c2, c3, c4⟩ := hw.mem _ (hget_mem hg)
    refine .ipz _ _ _ (.inr ⟨b, off, rfl, hk _ (hget_mem hg), fun i hi => ?_⟩)
    simp only [List.length_drop] at hi
    rw [cell_of_block c1, c4 _ (by omega)]
    simp [List.getD, List.getElem?_drop]
  | @agg cs ds hl h ih =>
    intro v hv
    cases hv with
    | agg vs cs hs r =>
      refine .agg vs ds (by omega) fun i hi => ih i hi ?_
      have hic : i < cs.length := by omega
      have : cs.getD i .any = cs[i] := by simp [List.getD, hic]
      rw [this]
      exact r i hic
  | ifc h ih =>
    intro v hv
    cases hv with
    | ifc t v x r => exact .ifc _ _ _ (ih r)
  | nils =>
    intro v hv
    have := hv.lit_inv; subst this
    exact .sl none 0 0 [] (fun _ => undef) (Nat.le_refl _) (Nat.zero_le _) (.inl rfl) (fun i hi => by simp at hi)
def VwL (H : Hp) : List AV → List AV → Prop
  | [], [] => True
  | x :: r, y :: s => Vw H x y ∧ VwL H r s
  | _, _ => False
theorem VwL.length {H : Hp} : ∀ {l m : List AV}, VwL H l m → m.length = l.length
  | [], [], _ => rfl
  | x :: r, y :: s, h => by simp [VwL.length h.2]
  | [], y :: s, h => h.elim
  | x :: r, [], h => h.elim
theorem VwL.get {H : Hp} : ∀ {l m : List AV}, VwL H l m → ∀ i, i < l.length → Vw H (l.getD i .any) (m.getD i .any)
  | x :: r, y :: s, h, 0, _ => by simpa using h.1
  | x :: r, y :: s, h, i + 1, hi => by simpa using VwL.get h.2 i (by simpa using hi)
  | [], [], _, i, hi => by simp at hi
  | [], y :: s, h, _, _ => h.elim
  | x :: r, [], h, _, _ => h.elim
theorem ACt.view {P : Program} {f : FuncId} {args args' : List AV} {H : Hp} {x : AV} (h : ACt P f args' [] (Fn x)) (hc : clA x = true) (hv : VwL H args args') :
    ACt P f args H (fun r F' => r = x ∧ F' = H) := by
  intro cx vs hK hw hs hr
  have hlen := hv.length
  have := h ⟨cx.w0, fun b => b < cx.w0.heap.size, [], fun b hb => ⟨hb, by simp⟩⟩ vs rfl ⟨by simp, fun x hx => by simp at hx, fun x hx => by simp at hx, ⟨rfl, rfl, rfl, Nat.le_refl _, fun _ _ _ => rfl⟩⟩
    (by omega) (fun i hi => by
      have hi' : i < args.length := by omega
      exact (hv.get i hi').rep hw (fun b hb => imm_lt hw.ext.size hb) (fun x hx => keys_lt hw x hx) ((hr i hi').mono fun b hb => ⟨.inl hb, rfl⟩))
  refine this.mono ?_
  rintro e w' ⟨v, r, F', rfl, ⟨rfl, rfl⟩, hw', hrep⟩
  have hsame : ∀ b, b < cx.w0.heap.size → w'.heap[b]? = cx.w0.heap[b]? := fun b hb => hw'.ext.blk b hb (by simp)
  have hI : ∀ b, imm cx cx.w0 H b → imm cx w' H b ∧ w'.heap[b]? = cx.w0.heap[b]? := by
    intro b hb
    have hlt := imm_lt hw.ext.size hb
    refine ⟨?_, hsame b hlt⟩
    rcases hb with hb | ⟨h1, h2, h3⟩
    · exact .inl hb
    · exact .inr ⟨h1, by have := hw'.ext.size; simp only at this; omega, h3⟩
  refine ⟨v, _, H, rfl, ⟨rfl, rfl⟩, ⟨hw.nodup, hw.keys, fun y hy => (hw.mem y hy).mono hI (hsame _ (keys_lt hw y hy)), ?_⟩, hrep.closed hc⟩
  have e1 := hw.ext
  have e2 := hw'.ext
  exact ⟨e2.os.trans e1.os, e2.tape.trans e1.tape, e2.output.trans e1.output, Nat.le_trans e1.size e2.size, fun b hb hk => (hsame b hb).trans (e1.blk b hb hk)⟩
theorem CallV.view {P : Program} {f : FuncId} {args args' : List AV} {H : Hp} {x : AV} {post : AV → Hp → Prop} (h : ACt P f args' [] (Fn x)) (hc : clA x = true) (hv : VwL H args args') (hp : post x H) : CallV P f args H post :=
  ⟨H, [], _, by simp, h.view hc hv, by rintro r F' ⟨rfl, rfl⟩ _; simpa using hp⟩
theorem ACt.frz {P : Program} {f : FuncId} {args args' : List AV} {b : Nat} {m : MB} {p : AV → Prop} (h : ACt P f args' [] (fun r F' => p r ∧ F' = [])) (hv : VwL [(b, m)] args args') :
    ACt P f args [(b, m)] (fun r F' => p r ∧ F' = []) := by
  intro cx vs hK hw hs hr
  have hlen := hv.length
  have hbl := keys_lt hw (b, m) (List.mem_cons_self ..)
  have hKb : cx.K = [b] := by rw [hK]; rfl
  have himm : ∀ c, imm cx cx.w0 [(b, m)] c → cx.I c := by
    rintro c (hc | ⟨h1, h2, h3⟩)
    · exact hc
    · have := h3 (b, m) (List.mem_cons_self ..)
      rcases h1 with h1 | h1
      · rw [hKb] at h1; simp at h1; exact absurd h1.symm this
      · omega
  have := h ⟨cx.w0, fun c => cx.I c ∨ c = b, [], fun c hc => ⟨by rcases hc with hc | rfl; exact (cx.hI c hc).1; exact hbl, by simp⟩⟩ vs rfl ⟨by simp, fun x hx => by simp at hx, fun x hx => by simp at hx, ⟨rfl, rfl, rfl, Nat.le_refl _, fun _ _ _ => rfl⟩⟩
    (by omega) (fun i hi => by
      have hi' : i < args.length := by omega
      exact (hv.get i hi').rep hw (fun c hc => .inl (himm c hc)) (fun x hx => by simp at hx; subst hx; exact .inr rfl) ((hr i hi').mono fun c hc => ⟨.inl hc, rfl⟩))
  refine this.mono ?_
  rintro e w' ⟨v, r, F', rfl, ⟨hp, rfl⟩, hw', hrep⟩
  have e1 := hw.ext
  have e2 := hw'.ext
  refine ⟨v, r, [], rfl, ⟨hp, rfl⟩, ⟨by simp, fun x hx => by simp at hx, fun x hx => by simp at hx, ?_⟩, hrep.mono fun c hc => ⟨?_, rfl⟩⟩
  · exact ⟨e2.os.trans e1.os, e2.tape.trans e1.tape, e2.output.trans e1.output, Nat.le_trans e1.size e2.size, fun c hc hk => (e2.blk c hc (by simp)).trans (e1.blk c hc hk)⟩
  · have hsz : cx.w0.heap.size ≤ w'.heap.size := e2.size
    rcases hc with (hc | rfl) | ⟨h1, h2, h3⟩
    · exact .inl hc
    · exact .inr ⟨.inl (by rw [hKb]; simp), by omega, fun x hx => by simp at hx⟩
    · rcases h1 with h1 | h1
      · simp at h1
      · exact .inr ⟨.inr h1, h2, fun x hx => by simp at hx⟩
theorem CallV.frz {P : Program} {f : FuncId} {args args' : List AV} {H : Hp} {x : AV} {post : AV → Hp → Prop} {m : MB} (b : Nat) (hg : hget H b = some m) (h : ACt P f args' [] (Fn x)) (hv : VwL [(b, m)] args args')
    (hp : post x (hdel H b)) : CallV P f args H post := by
  refine ⟨[(b, m)], hdel H b, _, hget_perm hg, h.frz (p := fun r => r = x) hv, ?_⟩
  rintro r F' ⟨rfl, rfl⟩ hn
  exact hp
/-! ## Rows of integers that a callee hands back, ours -/
def Row (k : IntKind) (ty : TypeId) (zs : List Int) (r : AV) (F' : Hp) : Prop :=
  ∃ b' cap', zs.length ≤ cap' ∧ cap' ≤ maxLen ∧ r = ms b' 0 zs.length cap' ∧ F' = [(b', .zs k zs cap' ty)]
theorem fresh_of_nodup {b' : Nat} {m' : MB} {R : Hp} (h : (([(b', m')] ++ R).map (·.1)).Nodup) : fresh R b' := by
  rw [List.map_append, List.nodup_append] at h
  intro x hx
  have := h.2.2 b' (by simp) x.1 (List.mem_map_of_mem hx)
  exact ⟨fun he => this he.symm, this⟩
theorem CallV.row {P : Program} {f : FuncId} {args : List AV} {H : Hp} {b : Nat} {m : MB} {k : IntKind} {ty : TypeId} {zs : List Int} {post : AV → Hp → Prop} (hg : hget H b = some m) (h : ACt P f args [(b, m)] (Row k ty zs))
    (hp : Nu fun b' => Nu fun cap' => Fr (zs.length ≤ cap' ∧ cap' ≤ maxLen ∧ fresh (hdel H b) b') (post (ms b' 0 zs.length cap') ((b', .zs k zs cap' ty) :: hdel H b))) : CallV P f args H post := by
  refine ⟨[(b, m)], hdel H b, _, hget_perm hg, h, ?_⟩
  rintro r F' ⟨b', cap', h1, h2, rfl, rfl⟩ hn
  exact ((hp.out b').out cap').out ⟨h1, h2, fresh_of_nodup hn⟩
theorem CallV.upd {P : Program} {f : FuncId} {args : List AV} {H : Hp} {b : Nat} {m m' : MB} {x : AV} {post : AV → Hp → Prop} (hg : hget H b = some m) (h : ACt P f args [(b, m)] (fun r F' => r = x ∧ F' = [(b, m')]))
    (hp : post x ((b, m') :: hdel H b)) : CallV P f args H post := by
  refine ⟨[(b, m)], hdel H b, _, hget_perm hg, h, ?_⟩
  rintro r F' ⟨rfl, rfl⟩ hn
  exact hp
def NewC (ty : TypeId) (cs : List AV) (r : AV) (F' : Hp) : Prop := ∃ b', r = pt b' 0 ∧ F' = [(b', .cells cs cs.length ty)]
/-! ## Weakenings -/
theorem Wk.slot {env env' : List (Nat × AV)} {H : Hp} (h : ∀ i (w : World) (I : Nat → Prop) v, Rep w I v (look env i) → Rep w I v (look env' i)) : Wk ⟨env, H⟩ ⟨env', H⟩ :=
  fun cx n a w ok => ⟨ok.defers, ok.size, fun i => h i w _ _ (ok.reps i), ok.world⟩
theorem Rep.nilz {w : World} {I : Nat → Prop} {v : Value} {k : IntKind} (h : Rep w I v (.lit (.slice none 0 0))) : Rep w I v (.slz k []) := by
  have := h.lit_inv; subst this
  exact .slz none k [] 0 (by simp) (by simp) (.inl rfl)
theorem Rep.nils {w : World} {I : Nat → Prop} {v : Value} (h : Rep w I v (.lit (.slice none 0 0))) : Rep w I v (.sl 0 []) := by
  have := h.lit_inv; subst this
  exact .sl none 0 0 [] (fun _ => undef) (by simp) (by simp) (.inl rfl) (fun i hi => by simp at hi)
theorem Wk.cons {env : List (Nat × AV)} {H : Hp} {i : Nat} {x y : AV} (hl : look env i = x) (h : ∀ (w : World) (I : Nat → Prop) v, Rep w I v x → Rep w I v y) : Wk ⟨env, H⟩ ⟨(i, y) :: env, H⟩ :=
  Wk.slot fun j w I v hv => by
    simp only [look]
    split
    · rename_i hj; subst hj; rw [hl] at hv; exact h w I v hv
    · exact hv
theorem Wk.trans {s t u : St} (h1 : Wk s t) (h2 : Wk t u) : Wk s u := fun cx n a w ok => h2 cx n a w (h1 cx n a w ok)
def frzC (b : Nat) (cs : List AV) (sz : Nat) : AV → AV
  | .lit (.slice (some ⟨b', off, none⟩) m cap) => if b' = b then (if off + m * sz ≤ cs.length ∧ m ≤ cap ∧ cap ≤ maxLen then .sl m ((cs.drop off).take (m * sz)) else .any) else .lit (.slice (some ⟨b', off, none⟩) m cap)
  | .lit (.pointer (some ⟨b', off, none⟩)) => if b' = b then .ip (cs.drop off) else .lit (.pointer (some ⟨b', off, none⟩))
  | x => x
def frzCE (b : Nat) (cs : List AV) (sz : Nat) : List (Nat × AV) → List (Nat × AV)
  | [] => []
  | (i, x) :: r => (i, frzC b cs sz x) :: frzCE b cs sz r
theorem look_frzCE {b sz : Nat} {cs : List AV} : ∀ (env : List (Nat × AV)) (i : Nat), look (frzCE b cs sz env) i = frzC b cs sz (look env i)
  | [], _ => rfl
  | (j, x) :: r, i => by
    simp only [frzCE, look]
    split
    · rfl
    · exact look_frzCE r i
theorem Wk.freezeC {env : List (Nat × AV)} {H : Hp} (b sz : Nat) {cs : List AV} {s0 ty : Nat} (hg : hget H b = some (.cells cs s0 ty)) : Wk ⟨env, H⟩ ⟨frzCE b cs sz env, hdel H b⟩ := by
  intro cx n a w ok
  obtain ⟨hw, hI, hb⟩ := ok.world.lose (w' := w) (hget_mem hg) rfl rfl rfl rfl (fun _ _ => rfl)
  obtain ⟨cur, c1, c2, c3, c4⟩ := ok.world.mem _ (hget_mem hg)
  refine ⟨ok.defers, ok.size, fun i => ?_, hw⟩
  have h := ok.reps i
  simp only [look_frzCE] at h ⊢
  generalize look env i = x at h
  have hm := h.mono hI
  unfold frzC
  split
  · rename_i b' off m cap
    split
    · rename_i he; subst he
      split
      · rename_i hc
        have := h.lit_inv
        rw [this]
        have hl : ((cs.drop off).take (m * sz)).length = m * sz := by simp; omega
        refine .sl _ _ _ _ (fun i => cur.getD (off + i) undef) hc.2.1 hc.2.2 (.inr ⟨b', off, rfl, hb, fun i hi => ?_⟩) fun i hi => ?_
        · rw [cell_of_block c1]
          have : off + i < cur.size := by rw [hl] at hi; omega
          simp [this]
        · rw [hl] at hi
          simp only [List.getElem_take, List.getElem_drop]
          exact (c4 (off + i) (by omega)).mono hI
      · exact .any _
    · exact hm
  · rename_i b' off
    split
    · rename_i he; subst he
      have := h.lit_inv
      rw [this]
      refine .ip _ _ (fun i => cur.getD (off + i) undef) (.inr ⟨b', off, rfl, hb, fun i hi => ?_⟩) fun i hi => ?_
      · rw [cell_of_block c1]
        have : off + i < cur.size := by simp at hi; omega
        simp [this]
      · simp only [List.length_drop] at hi
        simp only [List.getElem_drop]
        exact (c4 (off + i) (by omega)).mono hI
    · exact hm
  · exact hm
def VwC (H : Hp) : List AV → List AV → Prop
  | _, [] => True
  | [], _ :: _ => False
  | x :: r, y :: s => Vw H x y ∧ VwC H r s
theorem VwC.get {H : Hp} : ∀ {l m : List AV}, VwC H l m → m.length ≤ l.length ∧ ∀ i (hi : i < m.length), Vw H (l.getD i .any) m[i]
  | _, [], _ => ⟨by simp, fun i hi => by simp at hi⟩
  | [], y :: s, h => h.elim
  | x :: r, y :: s, h => by
    obtain ⟨h1, h2⟩ := VwC.get h.2
    refine ⟨by simp; omega, fun i hi => ?_⟩
    cases i with
    | zero => simpa using h.1
    | succ i => simpa using h2 i (by simpa using hi)
theorem VwC.refl {H : Hp} : ∀ l : List AV, VwC H l l
  | [] => trivial
  | x :: r => ⟨.same x, VwC.refl r⟩
/-! ## Blocks, picked out -/
def pickB : Hp → Hp → Prop
  | _, [] => True
  | H, (b, m) :: r => hget H b = some m ∧ pickB (hdel H b) r
theorem pickB.perm : ∀ {H' H : Hp}, pickB H H' → ∃ R, H.Perm (H' ++ R)
  | [], H, _ => ⟨H, by simp⟩
  | (b, m) :: r, H, h => by
    obtain ⟨R, hR⟩ := pickB.perm h.2
    exact ⟨R, (hget_perm h.1).trans (by simpa using hR)⟩
theorem Sub.pick {env env' : List (Nat × AV)} {H H' : Hp} (hH : pickB H H') (h : ∀ p ∈ env', look env p.1 = p.2) : Sub ⟨env, H⟩ ⟨env', H'⟩ := by
  obtain ⟨R, hR⟩ := hH.perm
  exact Sub.of_env R hR h
/-! ## Ways out -/
theorem OutQ.row {P : Program} {rs : List ResultVar} {s : St} {k : IntKind} {ty : TypeId} {zs zs' : List Int} {b' n cap' : Nat} (h1 : (resv P s.H s.env rs).1) (h2 : resA (resv P s.H s.env rs).2 = ms b' 0 n cap')
    (hg : hget s.H b' = some (.zs k zs' cap' ty)) (hz : zs' = zs) (hn : zs.length = n) (hc1 : n ≤ cap') (hc2 : cap' ≤ maxLen) : OutQ P rs (Row k ty zs) s := by
  subst hz
  refine OutQ.drop [(b', .zs k zs' cap' ty)] (hdel s.H b') (hget_perm hg) h1 ⟨b', cap', by omega, hc2, ?_, rfl⟩
  rw [h2, hn]
theorem OutQ.fz {P : Program} {t : Tmp} {s : St} {k : IntKind} {ty s0 : TypeId} {zs zs' : List Int} {b n cap : Nat} (h2 : look s.env t = ms b 0 n cap)
    (hg : hget s.H b = some (.zs k zs' s0 ty)) (hz : zs' = zs) (hn : zs.length = n) (hc1 : n ≤ cap) (hc2 : cap ≤ maxLen) : OutQ P [.tmp t] (Fn (.slz k zs)) s := by
  subst hz
  refine OutQ.wk (Wk.freeze b hg) (OutQ.all trivial ?_)
  simp only [resv, resA, look_frzE, h2, frz, if_true]
  rw [if_pos ⟨by omega, hc1, hc2⟩, ← hn]
  simp [Fn]
theorem OutQ.newC {P : Program} {rs : List ResultVar} {s : St} {ty sz : Nat} {cs cs' : List AV} {b' : Nat} (h1 : (resv P s.H s.env rs).1) (h2 : resA (resv P s.H s.env rs).2 = pt b' 0)
    (hg : hget s.H b' = some (.cells cs' sz ty)) (hz : cs' = cs) (hs : sz = cs.length) : OutQ P rs (NewC ty cs) s := by
  subst hz hs
  exact OutQ.drop [(b', .cells cs' cs'.length ty)] (hdel s.H b') (hget_perm hg) h1 ⟨b', h2, rfl⟩
theorem OutQ.upd {P : Program} {rs : List ResultVar} {s : St} {x : AV} {b : Nat} {m m' : MB} (h1 : (resv P s.H s.env rs).1) (h2 : resA (resv P s.H s.env rs).2 = x)
    (hg : hget s.H b = some m) (hm : m = m') : OutQ P rs (fun r F' => r = x ∧ F' = [(b, m')]) s := by
  subst hm
  exact OutQ.drop [(b, m)] (hdel s.H b) (hget_perm hg) h1 ⟨h2, rfl⟩
end Go.Proofs.Ytbkojpkdphggeaa
namespace Go.Proofs.Ytbkojpkdphggeaa
open Go
set_option linter.unusedSimpArgs false
set_option linter.unusedVariables false
section
variable {P : Program} {cx : Cx} {n : Nat} {ops : Array Oper} {H E : Hp}
theorem hget_app {b : Nat} {m : MB} (hf : ∀ p ∈ E, fresh H p.1) (h : hget H b = some m) : hget (E ++ H) b = some m := by
  induction E with
  | nil => exact h
  | cons p r ih =>
    obtain ⟨b0, m0⟩ := p
    simp only [List.cons_append, hget]
    have h1 := hf (b0, m0) (List.mem_cons_self ..) _ (hget_mem h)
    rw [if_neg h1.1]
    exact ih fun q hq => hf q (List.mem_cons_of_mem _ hq)
theorem load1_app {x : AV} (hf : ∀ p ∈ E, fresh H p.1) (h : (load1 H x).1) : load1 (E ++ H) x = load1 H x := by
  by_cases hx : ∃ b off, x = pt b off
  · obtain ⟨b, off, rfl⟩ := hx
    simp only [load1] at h ⊢
    cases hg : hget H b with
    | none => rw [hg] at h; exact h.elim
    | some m => rw [hget_app hf hg]
  · unfold load1
    split <;> first | rfl | exact absurd ⟨_, _, rfl⟩ hx
theorem loadn_app {x : AV} {c : Nat} (hf : ∀ p ∈ E, fresh H p.1) (h : (loadn H c x).1) : loadn (E ++ H) c x = loadn H c x := by
  by_cases hx : ∃ b off, x = pt b off
  · obtain ⟨b, off, rfl⟩ := hx
    simp only [loadn] at h ⊢
    cases hg : hget H b with
    | none => rw [hg] at h; exact h.elim
    | some m => rw [hget_app hf hg]
  · unfold loadn
    split <;> first | rfl | exact absurd ⟨_, _, rfl⟩ hx
theorem loadv_app {T : TypeId} {x : AV} (hf : ∀ p ∈ E, fresh H p.1) (h : (loadv P H T x).1) : loadv P (E ++ H) T x = loadv P H T x := by
  unfold loadv at h ⊢
  split
  · rename_i ht; rw [ht] at h; exact load1_app hf h
  · rename_i c ht; rw [ht] at h; exact loadn_app hf h
  · rfl
theorem convv_app {s d : TypeId} {x : AV} {r : Prop × AV} (hf : ∀ p ∈ E, fresh H p.1) (h : convv P H s d x = some r) (hr : r.1) : convv P (E ++ H) s d x = some r := by
  by_cases hy : ∃ b off, x = pt b off
  · obtain ⟨b, off, rfl⟩ := hy
    cases hd : P.underlying d with
    | none => simp only [convv, hd] at h; cases h
    | some td =>
      cases td <;> simp only [convv, hd] at h ⊢ <;> first | exact h | skip
      all_goals
        cases hg : hget H b with
        | none => rw [hg] at h; cases h; exact hr.elim
        | some mb => rw [hg] at h; rw [hget_app hf hg]; exact h
  by_cases hx : ∃ b off m cap, x = ms b off m cap
  · obtain ⟨b, off, m, cap, rfl⟩ := hx
    cases hd : P.underlying d with
    | none => simp only [convv, hd] at h; cases h
    | some td =>
      cases td <;> simp only [convv, hd] at h ⊢ <;> first | exact h | skip
      cases hg : hget H b with
      | none => rw [hg] at h; cases h; exact hr.elim
      | some mb => rw [hg] at h; rw [hget_app hf hg]; exact h
  · have : convv P (E ++ H) s d x = convv P H s d x := by
      unfold convv
      split
      · rfl
      · split <;> first | rfl | exact absurd ⟨_, _, _, _, rfl⟩ hx
      · split <;> first | rfl | exact absurd ⟨_, _, rfl⟩ hy
      · split <;> first | rfl | exact absurd ⟨_, _, rfl⟩ hy
      · rfl
    rw [this]; exact h
theorem pev_app {env : List (Nat × AV)} {op : Op} {r : Prop × AV} (hf : ∀ p ∈ E, fresh H p.1) (h : pev P H env op = some r) (hr : r.1) : pev P (E ++ H) env op = some r := by
  cases op <;> first | exact h | skip
  case slice T x lo hi mx => cases mx <;> cases lo <;> cases hi <;> exact h
  case load T a =>
    simp only [pev, Option.some.injEq] at h ⊢
    subst h
    unfold one at hr ⊢
    rw [loadv_app hf hr.2]
  case convert s d x =>
    simp only [pev] at h ⊢
    cases hc : convv P H s d (og env x).2 with
    | none => rw [hc] at h; cases h
    | some q =>
      rw [hc] at h
      simp only [Option.map_some, Option.some.injEq] at h
      subst h
      rw [convv_app hf hc hr.2]
      rfl
def StdyE (P : Program) (cx : Cx) (n : Nat) (ops : Array Oper) (o : Oper) (env : List (Nat × AV)) (H : Hp) (x : AV) : Prop :=
  ∀ E : Hp, (∀ p ∈ E, fresh H p.1) → Stdy P cx n ops o env (E ++ H) x
def SeqvE (P : Program) (cx : Cx) (n : Nat) (ops : Array Oper) (H : Hp) (lx : List (Oper × AV)) (env : List (Nat × AV)) : Prop :=
  ∀ i o x, lx[i]? = some (o, x) → StdyE P cx n ops o (envL (fun j => decide (j < i)) lx 0 env) H x
theorem dvc_seqvE {K : St → Prop} : ∀ (l : List Oper) (s : St), dvc P n ops l K s → ∃ xs : List AV, xs.length = l.length ∧ SeqvE P cx n ops s.H (l.zip xs) s.env ∧
    K ⟨envL (fun _ => true) (l.zip xs) 0 s.env, s.H⟩
  | [], s, h => ⟨[], rfl, fun i o x h => by simp at h, h⟩
  | o :: rest, s, ⟨hd, h⟩ => by
    have step : ∀ x, StdyE P cx n ops o s.env s.H x → dvc P n ops rest K (s.put o.dst x) → ∃ xs : List AV, xs.length = (o :: rest).length ∧ SeqvE P cx n ops s.H ((o :: rest).zip xs) s.env ∧
        K ⟨envL (fun _ => true) ((o :: rest).zip xs) 0 s.env, s.H⟩ := by
      intro x hx hr
      obtain ⟨xs, h1, h2, h3⟩ := dvc_seqvE rest _ hr
      rw [put_eq] at h2 h3
      refine ⟨x :: xs, by simp [h1], fun i o' x' hi => ?_, ?_⟩
      · cases i with
        | zero =>
          simp at hi
          obtain ⟨rfl, rfl⟩ := hi
          have : envL (fun j => decide (j < 0)) ((o :: rest).zip (x :: xs)) 0 s.env = s.env := by
            have hno : ∀ (l : List (Oper × AV)) (k : Nat) (env : List (Nat × AV)), envL (fun j => decide (j < 0)) l k env = env := by
              intro l
              induction l with
              | nil => intro k env; rfl
              | cons p r ih => intro k env; obtain ⟨o, x⟩ := p; simp only [envL]; exact ih _ _
            exact hno _ _ _
          rw [this]
          exact hx
        | succ i =>
          have := h2 i o' x' (by simpa using hi)
          simp only [List.zip_cons_cons, envL, Nat.zero_lt_succ, decide_true, if_true, envL_shift]
          simpa using this
      · simp only [List.zip_cons_cons, envL, if_true, envL_shift]
        exact h3
    split at h
    · rename_i hg
      split at h
      · rename_i r hr
        exact step r.2 (fun E hE => stdy_pev hd hg (pev_app hE hr h.1) h.1) h.2
      · split at h
        · rename_i q hq
          obtain ⟨hob, x, h1, h2⟩ := h
          exact step x (fun E hE => stdy_call hd hg (dcall_app (dcall_of (s := s) hq hob h1))) h2
        · exact h.elim
    · rename_i j want hg
      split at h
      · rename_i c hc
        split at h
        · rename_i r hr
          refine step _ (fun E hE => ?_) h.2
          by_cases hct : c = true
          · exact stdy_pevG hd hg hc (pev_app hE hr (h.1 hct)) h.1
          · refine ⟨hd, fun a w X R h1 h2 h3 h4 h5 => ?_⟩
            have ok := ok_renv h1 h2 h3 h4
            rw [wanted_of_gd ok hg (by rw [gdOf_renv hg]; exact hc)]
            rw [if_neg hct]
            have hcf : c = false := by cases c <;> simp_all
            subst hcf
            exact h5 undef w (.gdf _) h3 fun c hc => ⟨hc, rfl⟩
        · split at h
          · rename_i q hq
            obtain ⟨hob, x, h1, h2⟩ := h
            exact step _ (fun E hE => stdy_callG hd hg hc fun hct => dcall_app (dcall_of (s := s) hq (hob hct) (h1 hct))) h2
          · exact h.elim
      · exact h.elim
/-! ### One step, whatever it does to memory -/
theorem dinv_before {lx : List (Oper × AV)} {env : List (Nat × AV)} {listed : Array Bool} {a : Act} {w : World} {i : Nat} {o : Oper} {x : AV} (hD : DrawOk ops lx.length) (hlx : ∀ (j : Nat) o x, lx[j]? = some (o, x) → ops[j]? = some o)
    (inv : DInv cx n ops lx env H listed a w) (hi : i ∈ Region.ready .any ops listed) (hli : lx[i]? = some (o, x)) :
    listed.getD i false = false ∧ i < ops.size ∧ ∀ t, (t ∈ o.looksAt ops ∨ o.dst = some t) → ∀ (j : Nat) oj xj, lx[j]? = some (oj, xj) → oj.dst = some t → j ≠ i → (listed.getD j false = decide (j < i)) := by
  have hoi := hlx i o x hli
  have hun := (mem_ready.1 hi).1
  have hilt : i < ops.size := (Array.getElem?_eq_some_iff.1 hoi).1
  have hun' : listed.getD i false = false := by rw [← getD_bool (by rw [inv.lsize]; exact hilt)]; exact hun
  refine ⟨hun', hilt, ?_⟩
  intro t ht j oj xj hj hd hji
  have hjk : j < lx.length := (List.getElem?_eq_some_iff.1 hj).1
  rcases hD.slot i j o oj t hoi hjk (hlx j oj xj hj) hd ht (Ne.symm hji) with ⟨h1, h2⟩ | ⟨h1, h2⟩
  · rw [ready_waits hi hoi h2]; simp [h1]
  · have : listed.getD j false = false := by
      cases hl : listed.getD j false with
      | false => rfl
      | true => have := inv.closed j oj (hlx j oj xj hj) hl i h2; rw [hun'] at this; cases this
    rw [this]; simp; omega
theorem dinv_look {lx : List (Oper × AV)} {env : List (Nat × AV)} {listed : Array Bool} {a : Act} {w : World} {i : Nat} {o : Oper} {x : AV} (hD : DrawOk ops lx.length) (hlx : ∀ (j : Nat) o x, lx[j]? = some (o, x) → ops[j]? = some o)
    (inv : DInv cx n ops lx env H listed a w) (hi : i ∈ Region.ready .any ops listed) (hli : lx[i]? = some (o, x)) :
    ∀ t ∈ o.looksAt ops, look (envL (fun j => listed.getD j false) lx 0 env) t = look (envL (fun j => decide (j < i)) lx 0 env) t := by
  obtain ⟨hun', hilt, hbefore⟩ := dinv_before hD hlx inv hi hli
  intro t ht
  refine envL_congr lx 0 env env rfl fun j oj xj hj hd => ?_
  rw [Nat.zero_add]
  by_cases hji : j = i
  · subst hji; rw [hun']; simp
  · exact hbefore t (.inl ht) j oj xj hj hd hji
theorem dinv_put {lx : List (Oper × AV)} {env : List (Nat × AV)} {H' : Hp} {listed : Array Bool} {a : Act} {w w' : World} {i : Nat} {o : Oper} {x : AV} {v : Value} (hD : DrawOk ops lx.length) (hlx : ∀ (j : Nat) o x, lx[j]? = some (o, x) → ops[j]? = some o)
    (inv : DInv cx n ops lx env H listed a w) (hi : i ∈ Region.ready .any ops listed) (hli : lx[i]? = some (o, x)) (hdst : okd n o.dst)
    (hv : Rep w' (imm cx w' H') v x) (hw' : OkW cx H' w') (hI : ∀ c, imm cx w H c → imm cx w' H' c ∧ w'.heap[c]? = w.heap[c]?) :
    DInv cx n ops lx env H' (listed.setIfInBounds i true) (a.put o.dst v) w' := by
  obtain ⟨hun', hilt, hbefore⟩ := dinv_before hD hlx inv hi hli
  have hik : i < lx.length := (List.getElem?_eq_some_iff.1 hli).1
  have hset : ∀ j, (listed.setIfInBounds i true).getD j false = if j = i then true else listed.getD j false := by
    intro j
    by_cases hji : j = i
    · subst hji
      have : j < listed.size := by rw [inv.lsize]; exact hilt
      simp [this]
    · rw [if_neg hji, getD_set_ne false (Ne.symm hji)]
  refine ⟨by simp [inv.lsize], closed_set inv.closed hi, fun t ht ht' => by rw [getD_set_ne true (by omega)]; exact inv.tail t ht ht', ?_⟩
  refine ⟨by cases o.dst <;> exact inv.ok.defers, by cases o.dst <;> simp [Act.put, inv.ok.size], fun t => ?_, hw'⟩
  have hold := (inv.ok.reps t).mono hI
  by_cases hd : o.dst = some t
  · have e1 : look (envL (fun j => (listed.setIfInBounds i true).getD j false) lx 0 env) t = x := by
      rw [← envL_at lx 0 i env o x hli hd]
      refine envL_congr lx 0 env env rfl fun j oj xj hj hdj => ?_
      rw [Nat.zero_add, hset]
      by_cases hji : j = i
      · subst hji; simp
      · rw [if_neg hji, hbefore t (.inr hd) j oj xj hj hdj hji]
        rw [Bool.eq_iff_iff]; simp; omega
    show Rep w' (imm cx w' H') _ (look (envL _ lx 0 env) t)
    rw [e1, hd]
    have : t < a.tmps.size := by rw [inv.ok.size]; rw [hd] at hdst; exact hdst
    simpa [Act.put, this] using hv
  · have e1 : look (envL (fun j => (listed.setIfInBounds i true).getD j false) lx 0 env) t = look (envL (fun j => listed.getD j false) lx 0 env) t := by
      refine envL_congr lx 0 env env rfl fun j oj xj hj hdj => ?_
      rw [Nat.zero_add, hset]
      by_cases hji : j = i
      · subst hji
        rw [hli] at hj
        cases hj
        exact absurd hdj hd
      · rw [if_neg hji]
    show Rep w' (imm cx w' H') _ (look (envL _ lx 0 env) t)
    rw [e1]
    have e2 : (a.put o.dst v).tmps.getD t undef = a.tmps.getD t undef := by
      cases hdd : o.dst with
      | none => rfl
      | some d =>
        have : d ≠ t := fun h => hd (by rw [hdd, h])
        simp [Act.put, Array.getElem?_setIfInBounds_ne this]
    rw [e2]
    exact hold
theorem dinv_stepS {lx : List (Oper × AV)} {env : List (Nat × AV)} {listed : Array Bool} {a : Act} {w : World} {i : Nat} {o : Oper} {x : AV} (hD : DrawOk ops lx.length) (hlx : ∀ (j : Nat) o x, lx[j]? = some (o, x) → ops[j]? = some o)
    (hli : lx[i]? = some (o, x)) (hS : Stdy P cx n ops o (envL (fun j => decide (j < i)) lx 0 env) H x) (inv : DInv cx n ops lx env H listed a w) (hi : i ∈ Region.ready .any ops listed) {R : Exit → Act → World → Prop} {X : Act → World → Prop}
    (hX : ∀ v w', DInv cx n ops lx env H (listed.setIfInBounds i true) (a.put o.dst v) w' → X (a.put o.dst v) w') : wpOp P ops R i X a w := by
  obtain ⟨hdst, hst⟩ := hS
  have hlook := dinv_look hD hlx inv hi hli
  unfold wpOp
  rw [hlx i o x hli]
  simp only
  have := hst a w X R inv.ok.defers inv.ok.size inv.ok.world (fun t ht => by rw [← hlook t ht]; exact inv.ok.reps t) (fun v w' hv hw' hI => hX v w' (dinv_put hD hlx inv hi hli hdst hv hw' hI))
  have hput : a.put o.dst undef = a.put o.dst undef := rfl
  split
  · rename_i hw; rw [if_pos hw] at this; exact .inl this
  · rename_i hw; rw [if_neg hw] at this; exact this
/-! ### The private block -/
theorem envL_append {f : Nat → Bool} : ∀ (l1 l2 : List (Oper × AV)) (k : Nat) (env : List (Nat × AV)), envL f (l1 ++ l2) k env = envL f l2 (k + l1.length) (envL f l1 k env)
  | [], l2, k, env => by simp [envL]
  | (o, x) :: r, l2, k, env => by
    simp only [List.cons_append, envL, List.length_cons]
    rw [envL_append r l2 (k + 1)]
    congr 1
    omega
theorem fresh_one {b : Nat} {m : MB} (h : fresh H b) : ∀ p ∈ [(b, m)], fresh H p.1 := by
  intro p hp
  simp at hp
  subst hp
  exact h
def drawF (P : Program) (n : Nat) (l : List Oper) (K : St → Prop) (ia is k : Nat) (s : St) : Prop :=
  dvc P n l.toArray (l.take ia) (fun s1 => match l.drop ia with
    | ⟨some t, .alloc T, _, _, _, none⟩ :: r => match zmb P T with
      | some m0 => t < n ∧ dvc P n l.toArray (r.take (is - ia - 1)) (fun s2 => match r.drop (is - ia - 1) with
        | ⟨none, .store T' (.tmp t') y, _, _, _, none⟩ :: q => t' = t ∧ (og s2.env y).1 ∧ (stC P T' m0 0 (og s2.env y).2).1 ∧ dvc P n l.toArray (q.take (k - is - 1)) (fun s3 =>
            newB s3.H (stC P T' m0 0 (og s2.env y).2).2 fun b H => rvc P n l.toArray (q.drop (k - is - 1)) K ⟨(t, pt b 0) :: s3.env, H⟩) s2
        | _ => False) ⟨(t, .any) :: s1.env, s1.H⟩
      | none => False
    | _ => False) s
theorem envL_ext {f g : Nat → Bool} : ∀ (l : List (Oper × AV)) (k : Nat) (env : List (Nat × AV)), (∀ j, k ≤ j → j < k + l.length → f j = g j) → envL f l k env = envL g l k env
  | [], _, _, _ => rfl
  | (o, x) :: r, k, env, h => by
    simp only [envL]
    rw [h k (Nat.le_refl _) (by simp)]
    exact envL_ext r (k + 1) _ fun j h1 h2 => h j (by omega) (by simp; omega)
theorem envL_none {f : Nat → Bool} : ∀ (l : List (Oper × AV)) (k : Nat) (env : List (Nat × AV)), (∀ j, k ≤ j → f j = false) → envL f l k env = env
  | [], _, _, _ => rfl
  | (o, x) :: r, k, env, h => by
    simp only [envL]
    rw [h k (Nat.le_refl _)]
    simp only [Bool.false_eq_true, if_false]
    exact envL_none r (k + 1) env fun j hj => h j (by omega)
theorem envL_shiftk {f : Nat → Bool} (c : Nat) : ∀ (l : List (Oper × AV)) (k : Nat) (env : List (Nat × AV)), envL f l (c + k) env = envL (fun j => f (c + j)) l k env
  | [], _, _ => rfl
  | (o, x) :: r, k, env => by simp only [envL]; exact envL_shiftk c r (k + 1) _
def SeqG (C : Nat → Oper → AV → List (Nat × AV) → Prop) (lx : List (Oper × AV)) (env : List (Nat × AV)) : Prop :=
  ∀ i o x, lx[i]? = some (o, x) → C i o x (envL (fun j => decide (j < i)) lx 0 env)
theorem SeqG.app {C : Nat → Oper → AV → List (Nat × AV) → Prop} {A B : List (Oper × AV)} {env : List (Nat × AV)} (hA : SeqG C A env) (hB : SeqG (fun i => C (A.length + i)) B (envL (fun _ => true) A 0 env)) : SeqG C (A ++ B) env := by
  intro i o x hi
  rw [envL_append]
  by_cases hlt : i < A.length
  · rw [List.getElem?_append_left hlt] at hi
    rw [envL_none B _ _ (fun j hj => by simp; omega)]
    exact hA i o x hi
  · rw [List.getElem?_append_right (by omega)] at hi
    have := hB (i - A.length) o x hi
    dsimp only at this
    rw [show A.length + (i - A.length) = i by omega] at this
    have e1 : envL (fun j => decide (j < i)) A 0 env = envL (fun _ => true) A 0 env := envL_ext A 0 env fun j _ hj => by simp; omega
    rw [e1, Nat.zero_add, show A.length = A.length + 0 from rfl, envL_shiftk A.length B 0]
    have e2 : envL (fun j => decide (A.length + j < i)) B 0 (envL (fun _ => true) A 0 env) = envL (fun j => decide (j < i - A.length)) B 0 (envL (fun _ => true) A 0 env) :=
      envL_ext B 0 _ fun j _ _ => by rw [Bool.eq_iff_iff]; simp; omega
    rw [e2]
    exact this
theorem SeqG.one {C : Nat → Oper → AV → List (Nat × AV) → Prop} {o : Oper} {x : AV} {env : List (Nat × AV)} (h : C 0 o x env) : SeqG C [(o, x)] env := by
  intro i o' x' hi
  cases i with
  | zero => simp at hi; obtain ⟨rfl, rfl⟩ := hi; simpa [envL] using h
  | succ i => simp at hi
end
end Go.Proofs.Ytbkojpkdphggeaa
namespace Go.Proofs.Ytbkojpkdphggeaa
open Go
set_option linter.unusedSimpArgs false
set_option linter.unusedVariables false
inductive Ty where
  | int (k : IntKind)
  | bool
  | str
  | row (k : IntKind)
  | sl (e : Ty)
  | st (fs : List Ty)
mutual
def Shp : Ty → List AV → Prop
  | .int k, xs => ∃ n, xs = [iv k n] ∧ (Lit.int k n).wf = true
  | .bool, xs => ∃ b, xs = [bv b]
  | .str, xs => ∃ s, xs = [.lit (.string s)] ∧ s.size ≤ maxLen
  | .row k, xs => ∃ zs : List Int, xs = [.slz k zs] ∧ ∀ n ∈ zs, (Lit.int k n).wf = true
  | .sl e, xs => ∃ rows : List (List AV), xs = [.sl rows.length rows.flatten] ∧ ∀ r ∈ rows, Shp e r
  | .st fs, xs => ShpL fs xs
def ShpL : List Ty → List AV → Prop
  | [], xs => xs = []
  | t :: ts, xs => ∃ a b, xs = a ++ b ∧ Shp t a ∧ ShpL ts b
end
def fsOk (P : Program) (r : TypeId → Ty → Bool) (total : Nat) : Nat → List Field → List Ty → Bool
  | off, [], [] => off == total
  | off, f :: fs, t :: ts => f.offset == off && r f.type t && fsOk P r total (off + P.cellsOf f.type) fs ts
  | _, _, _ => false
def tyOk (P : Program) : Nat → TypeId → Ty → Bool
  | 0, _, _ => false
  | d + 1, T, ty => match P.underlying T with
    | some (.int k) => match ty with
      | .int k' => decide (k = k') && P.cellsOf T == 1
      | _ => false
    | some .bool => match ty with
      | .bool => P.cellsOf T == 1
      | _ => false
    | some .string => match ty with
      | .str => P.cellsOf T == 1
      | _ => false
    | some (.slice e) => match ty with
      | .row k => (match P.underlying e with
        | some (.int k') => decide (k = k')
        | _ => false) && P.cellsOf e == 1 && P.cellsOf T == 1
      | .sl ety => tyOk P d e ety && P.cellsOf T == 1
      | _ => false
    | some (.struct fs) => match ty with
      | .st tys => fsOk P (tyOk P d) (P.cellsOf T) 0 fs.toList tys
      | _ => false
    | _ => false
theorem mapM_some {α β : Type} {f : α → Option β} : ∀ {l : List α} {ys : List β}, l.mapM f = some ys → ys.length = l.length ∧ ∀ i (h : i < l.length) (h' : i < ys.length), f l[i] = some ys[i]
  | [], ys, h => by
    simp at h
    subst h
    exact ⟨rfl, fun i h => by simp at h⟩
  | x :: r, ys, h => by
    rw [List.mapM_cons] at h
    cases hx : f x with
    | none => rw [hx] at h; simp at h
    | some y =>
      rw [hx] at h
      cases hr : r.mapM f with
      | none => rw [hr] at h; simp at h
      | some zs =>
        rw [hr] at h
        simp at h
        subst h
        obtain ⟨h1, h2⟩ := mapM_some hr
        refine ⟨by simp [h1], fun i hi hi' => ?_⟩
        cases i with
        | zero => simpa using hx
        | succ i => simpa using h2 i (by simpa using hi) (by simpa using hi')
theorem flatten_get {sz : Nat} : ∀ {rows : List (List AV)}, (∀ r ∈ rows, r.length = sz) → rows.flatten.length = rows.length * sz ∧ ∀ i j (hi : i < rows.length) (hj : j < sz), rows.flatten.getD (i * sz + j) .any = (rows.getD i []).getD j .any
  | [], _ => ⟨by simp, fun i j hi => by simp at hi⟩
  | r :: rs, h => by
    have hr := h r (List.mem_cons_self ..)
    obtain ⟨h1, h2⟩ := flatten_get (rows := rs) fun q hq => h q (List.mem_cons_of_mem _ hq)
    refine ⟨by simp [h1, hr, Nat.succ_mul]; omega, fun i j hi hj => ?_⟩
    cases i with
    | zero =>
      simp only [List.flatten_cons, Nat.zero_mul, Nat.zero_add, List.getD, List.getElem?_cons_zero, Option.getD_some]
      rw [List.getElem?_append_left (by omega)]
    | succ i =>
      have := h2 i j (by simpa using hi) hj
      simp only [List.flatten_cons, List.getD] at this ⊢
      rw [List.getElem?_append_right (by rw [hr, Nat.succ_mul]; omega)]
      rw [show (i + 1) * sz + j - r.length = i * sz + j by rw [hr, Nat.succ_mul]; omega]
      simpa using this
section
variable {H : Type} {enc : TypeId × Value → H} {P : Program} {w : World} {spare : Nat → Bool} {held : Bool}
def Opens (w : World) (ty : Ty) (sz : Nat) (cs : List Value) : Prop :=
  ∃ xs, Shp ty xs ∧ xs.length = sz ∧ cs.length = sz ∧ ∀ i (hi : i < xs.length), Rep w (fun b => b < w.heap.size) (cs.getD i undef) xs[i]
theorem cells?_some {a : Addr} {n : Nat} {cs : List Value} (h : w.cells? 0 a n = some cs) : cs.length = n ∧ ∀ j, j < n → w.cell? (a.add j) = some (cs.getD j undef) := by
  unfold World.cells? at h
  rw [if_pos (Nat.zero_le _)] at h
  obtain ⟨h1, h2⟩ := mapM_some h
  simp only [List.length_range] at h1
  refine ⟨h1, fun j hj => ?_⟩
  have := h2 j (by simpa using hj) (by omega)
  simp only [List.getElem_range] at this
  rw [this]
  simp [List.getD, show j < cs.length by omega]
theorem add_at {a : Addr} {v : Value} (h : w.cell? (a.add 0) = some v) : a.block < w.heap.size ∧ ∃ b off, a = ⟨b, off, none⟩ := by
  have := World.cell?_lt h
  unfold Addr.add at this
  rw [if_pos rfl] at this
  obtain ⟨h1, h2⟩ := this
  obtain ⟨b, off, sp⟩ := a
  simp only at h1 h2
  subst h2
  exact ⟨h1, b, off, rfl⟩
theorem opens_elems {e : TypeId} {fuel len : Nat} {a : Addr} {elems : List (DataW H × List MemPlace)} {Q : Nat → List Value → Prop} (hc : 0 < P.cellsOf e)
    (hm : ((List.range len).mapM fun i => (w.cells? 0 (a.add (i * P.cellsOf e)) (P.cellsOf e)).bind (DataW.trod enc P w 0 spare held fuel e)) = some elems)
    (hQ : ∀ (i : Nat) (cs : List Value) (r : DataW H × List MemPlace), DataW.trod enc P w 0 spare held fuel e cs = some r → Q i cs) :
    len = 0 ∨ ∃ b off, a = ⟨b, off, none⟩ ∧ b < w.heap.size ∧ ∀ i, i < len → ∃ cs, cs.length = P.cellsOf e ∧ Q i cs ∧ ∀ j, j < P.cellsOf e → w.cell? ⟨b, off + (i * P.cellsOf e + j), none⟩ = some (cs.getD j undef) := by
  obtain ⟨h1, h2⟩ := mapM_some hm
  have hel : ∀ i, i < len → ∃ cs, cs.length = P.cellsOf e ∧ Q i cs ∧ ∀ j, j < P.cellsOf e → w.cell? ((a.add (i * P.cellsOf e)).add j) = some (cs.getD j undef) := by
    intro i hi
    have := h2 i (by simpa using hi) (by simp at h1; omega)
    simp only [List.getElem_range] at this
    cases hc : w.cells? 0 (a.add (i * P.cellsOf e)) (P.cellsOf e) with
    | none => rw [hc] at this; simp at this
    | some cs =>
      rw [hc] at this
      obtain ⟨g1, g2⟩ := cells?_some hc
      exact ⟨cs, g1, hQ i cs _ this, g2⟩
  by_cases h0 : len = 0
  · exact .inl h0
  · obtain ⟨cs0, _, _, g⟩ := hel 0 (by omega)
    have g0 := g 0 hc
    rw [Nat.zero_mul] at g0
    have g0' : w.cell? (a.add 0) = some (cs0.getD 0 undef) := by
      have : (a.add 0).add 0 = a.add 0 := by simp [Addr.add]
      rw [this] at g0
      exact g0
    obtain ⟨hb, b, off, rfl⟩ := add_at g0'
    refine .inr ⟨b, off, rfl, hb, fun i hi => ?_⟩
    obtain ⟨cs, c1, c2, c3⟩ := hel i hi
    refine ⟨cs, c1, c2, fun j hj => ?_⟩
    have := c3 j hj
    rw [Addr.add_none, Addr.add_none] at this
    rw [← Nat.add_assoc]
    exact this
theorem choose_list {α : Type} {R : Nat → α → Prop} : ∀ (n : Nat), (∀ i, i < n → ∃ x, R i x) → ∃ l : List α, l.length = n ∧ ∀ i (h : i < l.length), R i l[i]
  | 0, _ => ⟨[], rfl, fun i h => by simp at h⟩
  | n + 1, h => by
    obtain ⟨l, h1, h2⟩ := choose_list n fun i hi => h i (by omega)
    obtain ⟨x, hx⟩ := h n (by omega)
    refine ⟨l ++ [x], by simp [h1], fun i hi => ?_⟩
    by_cases hlt : i < l.length
    · rw [List.getElem_append_left hlt]; exact h2 i hlt
    · rw [List.getElem_append_right (by omega)]
      have : i = n := by simp at hi; omega
      subst this
      simpa [h1] using hx
theorem opens_fields {d : Nat} (ih : ∀ (ty : Ty) (T : TypeId) (fuel : Nat) (cs : List Value) (r : DataW H × List MemPlace), tyOk P d T ty = true → DataW.trod enc P w 0 spare held fuel T cs = some r → Opens w ty (P.cellsOf T) cs)
    {cs : List Value} {fuel total : Nat} (hcs : cs.length = total) : ∀ (fs : List Field) (tys : List Ty) (off : Nat) (rs : List (DataW H × List MemPlace)), fsOk P (tyOk P d) total off fs tys = true →
      (fs.mapM fun f => DataW.trod enc P w 0 spare held fuel f.type ((cs.drop f.offset).take (P.cellsOf f.type))) = some rs → off ≤ total ∧ ∃ xs, ShpL tys xs ∧ xs.length = total - off ∧ ∀ i (hi : i < xs.length), Rep w (fun b => b < w.heap.size) (cs.getD (off + i) undef) xs[i]
  | [], [], off, rs, h, _ => by
    simp only [fsOk, beq_iff_eq] at h
    refine ⟨by omega, [], by simp [ShpL], by simp; omega, fun i hi => by simp at hi⟩
  | f :: fs, t :: ts, off, rs, h, hr => by
    simp only [fsOk, Bool.and_eq_true, beq_iff_eq] at h
    obtain ⟨⟨h1, h2⟩, h3⟩ := h
    rw [List.mapM_cons] at hr
    cases hx : DataW.trod enc P w 0 spare held fuel f.type ((cs.drop f.offset).take (P.cellsOf f.type)) with
    | none => rw [hx] at hr; simp at hr
    | some y =>
      rw [hx] at hr
      cases hrr : (fs.mapM fun f => DataW.trod enc P w 0 spare held fuel f.type ((cs.drop f.offset).take (P.cellsOf f.type))) with
      | none => rw [hrr] at hr; simp at hr
      | some zs =>
        obtain ⟨hle, xs2, s2, l2, r2⟩ := opens_fields ih hcs fs ts _ zs h3 hrr
        obtain ⟨xs1, s1, l1, c1, r1⟩ := ih t f.type fuel _ y h2 hx
        refine ⟨by omega, xs1 ++ xs2, ⟨xs1, xs2, rfl, s1, s2⟩, by simp [l1, l2]; omega, fun i hi => ?_⟩
        by_cases hlt : i < xs1.length
        · rw [List.getElem_append_left hlt]
          have := r1 i hlt
          have e : ((cs.drop f.offset).take (P.cellsOf f.type)).getD i undef = cs.getD (off + i) undef := by
            simp only [List.getD, List.getElem?_take, List.getElem?_drop, h1]
            rw [if_pos (by omega)]
          rw [e] at this
          exact this
        · rw [List.getElem_append_right (by omega)]
          have hi2 : i - xs1.length < xs2.length := by simp at hi; omega
          have := r2 (i - xs1.length) hi2
          rw [show off + P.cellsOf f.type + (i - xs1.length) = off + i by omega] at this
          exact this
  | [], _ :: _, _, _, h, _ => by simp [fsOk] at h
  | _ :: _, [], _, _, h, _ => by simp [fsOk] at h
theorem opens : ∀ (d : Nat) (ty : Ty) (T : TypeId) (fuel : Nat) (cs : List Value) (r : DataW H × List MemPlace), tyOk P d T ty = true → DataW.trod enc P w 0 spare held fuel T cs = some r → Opens w ty (P.cellsOf T) cs
  | 0, _, _, _, _, _, h, _ => by simp [tyOk] at h
  | d + 1, ty, T, 0, cs, r, _, hr => by simp [DataW.trod] at hr
  | d + 1, ty, T, fuel + 1, cs, r, h, hr => by
    have ih := opens d
    rw [DataW.trod_step] at hr
    unfold tyOk at h
    unfold DataW.trodStep at hr
    cases hu : P.underlying T with
    | none => rw [hu] at h; cases h
    | some td =>
      rw [hu] at h hr
      cases td with
      | int k =>
        cases ty <;> simp only at h <;> try (cases h)
        rename_i k'
        simp only [Bool.and_eq_true, decide_eq_true_eq, beq_iff_eq] at h
        obtain ⟨rfl, hc⟩ := h
        split at hr <;> first | (rename_i he _; cases he; done) | skip
        all_goals (first | (simp at *; done) | skip)
        rename_i k2 k3 n heq
        simp only [Option.some.injEq, TypeDesc.int.injEq] at heq
        subst heq
        split at hr
        · rename_i hk
          obtain ⟨rfl, hwf⟩ := hk
          exact ⟨[iv k3 n], ⟨n, rfl, hwf⟩, by simp [hc], by simp [hc], fun i hi => by
            have : i = 0 := by simp at hi; omega
            subst this
            exact .lit _⟩
        · cases hr
      | bool =>
        cases ty <;> simp only at h <;> try (cases h)
        simp only [beq_iff_eq] at h
        split at hr <;> first | (simp at *; done) | skip
        all_goals (first | (simp_all; done) | skip)
        rename_i b heq
        exact ⟨[bv b], ⟨b, rfl⟩, by simp [h], by simp [h], fun i hi => by
          have : i = 0 := by simp at hi; omega
          subst this
          exact .lit _⟩
      | string =>
        cases ty <;> simp only at h <;> try (cases h)
        simp only [beq_iff_eq] at h
        split at hr <;> first | (simp at *; done) | skip
        all_goals (first | (simp_all; done) | skip)
        rename_i s heq
        split at hr
        · rename_i hs
          exact ⟨[.lit (.string s)], ⟨s, rfl, hs⟩, by simp [h], by simp [h], fun i hi => by
            have : i = 0 := by simp at hi; omega
            subst this
            exact .lit _⟩
        · cases hr
      | slice e =>
        have hcs : (cs = [.slice none 0 0]) ∨ ∃ a len cap elems, cs = [.slice (some a) len cap] ∧ len ≤ cap ∧ cap ≤ maxLen ∧
            ((List.range len).mapM fun i => (w.cells? 0 (a.add (i * P.cellsOf e)) (P.cellsOf e)).bind (DataW.trod enc P w 0 spare held fuel e)) = some elems := by
          split at hr <;> first | (exfalso; simp at *; done) | skip
          all_goals (first | (left; rfl) | skip)
          all_goals (first | (exfalso; simp_all; done) | skip)
          rename_i e' a len cap heq
          simp only [Option.some.injEq, TypeDesc.slice.injEq] at heq
          subst heq
          split at hr
          · rename_i hk
            cases hm : ((List.range len).mapM fun i => (w.cells? 0 (a.add (i * P.cellsOf e)) (P.cellsOf e)).bind (DataW.trod enc P w 0 spare held fuel e)) with
            | none => simp [hm] at hr
            | some elems => exact .inr ⟨a, len, cap, elems, rfl, hk.2.1, hk.2.2, hm⟩
          · cases hr
        cases ty <;> simp only at h <;> try (cases h)
        · rename_i k
          simp only [Bool.and_eq_true, beq_iff_eq] at h
          obtain ⟨⟨h1, h2⟩, h3⟩ := h
          have hue : P.underlying e = some (.int k) := by
            split at h1
            · rename_i k' hk; rw [hk]; simp at h1; rw [h1]
            · cases h1
          rcases hcs with rfl | ⟨a, len, cap, elems, rfl, hl, hm, hel⟩
          · exact ⟨[.slz k []], ⟨[], rfl, by simp⟩, by simp [h3], by simp [h3], fun i hi => by
              have : i = 0 := by simp at hi; omega
              subst this
              exact Rep.nilz (.lit _)⟩
          · have hz : ∃ zs : List Int, zs.length = len ∧ (∀ n ∈ zs, (Lit.int k n).wf = true) ∧ Spot w (fun b => b < w.heap.size) (some a) zs.length (fun i => .int k (zs.getD i 0)) := by
              rcases opens_elems (Q := fun _ cs => ∃ n, cs = [.int k n] ∧ (Lit.int k n).wf = true) (by omega) hel (fun i cs r htr => by
                cases fuel with
                | zero => simp [DataW.trod] at htr
                | succ fuel =>
                  rw [DataW.trod_step] at htr
                  unfold DataW.trodStep at htr
                  rw [hue] at htr
                  split at htr <;> first | (exfalso; simp at *; done) | skip
                  all_goals (first | (exfalso; simp_all; done) | skip)
                  rename_i k2 k3 n heq
                  simp only [Option.some.injEq, TypeDesc.int.injEq] at heq
                  subst heq
                  split at htr
                  · rename_i hk
                    obtain ⟨rfl, hwf⟩ := hk
                    exact ⟨n, rfl, hwf⟩
                  · cases htr) with h0 | ⟨b, off, rfl, hb, hall⟩
              · exact ⟨[], by simp [h0], by simp, .inl rfl⟩
              · obtain ⟨zs, z1, z2⟩ := choose_list (R := fun i n => (Lit.int k n).wf = true ∧ w.cell? ⟨b, off + i, none⟩ = some (.int k n)) len fun i hi => by
                  obtain ⟨cs, c1, ⟨n, rfl, hwf⟩, c3⟩ := hall i hi
                  have := c3 0 (by omega)
                  rw [h2] at this
                  exact ⟨n, hwf, by simpa using this⟩
                refine ⟨zs, z1, fun n hn => ?_, .inr ⟨b, off, rfl, hb, fun i hi => ?_⟩⟩
                · obtain ⟨i, hi, rfl⟩ := List.getElem_of_mem hn
                  exact (z2 i hi).1
                · rw [(z2 i hi).2]
                  simp [List.getD, hi]
            obtain ⟨zs, z1, z2, z3⟩ := hz
            refine ⟨[.slz k zs], ⟨zs, rfl, z2⟩, by simp [h3], by simp [h3], fun i hi => ?_⟩
            have : i = 0 := by simp at hi; omega
            subst this
            have := Rep.slz (some a) k zs cap (by omega) hm z3
            rw [z1] at this
            exact this
        · rename_i ety
          simp only [Bool.and_eq_true, beq_iff_eq] at h
          obtain ⟨h1, h3⟩ := h
          rcases hcs with rfl | ⟨a, len, cap, elems, rfl, hl, hm, hel⟩
          · exact ⟨[.sl 0 []], ⟨[], rfl, by simp⟩, by simp [h3], by simp [h3], fun i hi => by
              have : i = 0 := by simp at hi; omega
              subst this
              exact Rep.nils (.lit _)⟩
          · by_cases hc0 : P.cellsOf e = 0
            · obtain ⟨m1, m2⟩ := mapM_some hel
              have hrows : ∀ i, i < len → ∃ xs : List AV, Shp ety xs ∧ xs.length = 0 := fun i hi => by
                have := m2 i (by simpa using hi) (by simp at m1; omega)
                simp only [List.getElem_range] at this
                cases hcc : w.cells? 0 (a.add (i * P.cellsOf e)) (P.cellsOf e) with
                | none => rw [hcc] at this; simp at this
                | some cs =>
                  rw [hcc] at this
                  obtain ⟨xs, s1, s2, _⟩ := ih ety e fuel cs _ h1 this
                  exact ⟨xs, s1, by rw [s2, hc0]⟩
              obtain ⟨rows, r1, r2⟩ := choose_list (R := fun _ xs => Shp ety xs ∧ xs.length = 0) len hrows
              obtain ⟨f1, _⟩ := flatten_get (sz := 0) (rows := rows) fun r hr => by obtain ⟨i, hi, rfl⟩ := List.getElem_of_mem hr; exact (r2 i hi).2
              refine ⟨[.sl rows.length rows.flatten], ⟨rows, rfl, fun r hr => by obtain ⟨i, hi, rfl⟩ := List.getElem_of_mem hr; exact (r2 i hi).1⟩, by simp [h3], by simp [h3], fun i hi => ?_⟩
              have : i = 0 := by simp at hi; omega
              subst this
              simp only [List.getD_cons_zero, List.getElem_cons_zero]
              rw [r1]
              exact .sl _ _ _ _ (fun _ => undef) hl hm (.inl (by rw [f1]; simp)) fun j hj => by rw [f1] at hj; simp at hj
            · rcases opens_elems (Q := fun _ cs => Opens w ety (P.cellsOf e) cs) (by omega) hel (fun i cs r htr => ih ety e fuel cs r h1 htr) with h0 | ⟨b, off, rfl, hb, hall⟩
              · subst h0
                exact ⟨[.sl 0 []], ⟨[], rfl, by simp⟩, by simp [h3], by simp [h3], fun i hi => by
                  have : i = 0 := by simp at hi; omega
                  subst this
                  exact .sl _ _ _ _ (fun _ => undef) hl hm (.inl rfl) fun j hj => by simp at hj⟩
              · obtain ⟨rows, r1, r2⟩ := choose_list (R := fun i xs => Shp ety xs ∧ xs.length = P.cellsOf e ∧ ∀ j (hj : j < xs.length), ∃ v, w.cell? ⟨b, off + (i * P.cellsOf e + j), none⟩ = some v ∧ Rep w (fun b => b < w.heap.size) v xs[j]) len fun i hi => by
                  obtain ⟨cs, c1, ⟨xs, s1, s2, s3, s4⟩, c3⟩ := hall i hi
                  exact ⟨xs, s1, s2, fun j hj => ⟨_, c3 j (by omega), s4 j hj⟩⟩
                obtain ⟨f1, f2⟩ := flatten_get (sz := P.cellsOf e) (rows := rows) fun r hr => by obtain ⟨i, hi, rfl⟩ := List.getElem_of_mem hr; exact (r2 i hi).2.1
                refine ⟨[.sl rows.length rows.flatten], ⟨rows, rfl, fun r hr => by obtain ⟨i, hi, rfl⟩ := List.getElem_of_mem hr; exact (r2 i hi).1⟩, by simp [h3], by simp [h3], fun i hi => ?_⟩
                have : i = 0 := by simp at hi; omega
                subst this
                simp only [List.getD_cons_zero, List.getElem_cons_zero]
                rw [r1]
                have hcell : ∀ m, m < rows.flatten.length → ∃ v, w.cell? ⟨b, off + m, none⟩ = some v ∧ Rep w (fun b => b < w.heap.size) v (rows.flatten.getD m .any) := by
                  intro m hm
                  rw [f1] at hm
                  have hi' : m / P.cellsOf e < rows.length := by rw [Nat.div_lt_iff_lt_mul (by omega)]; exact hm
                  have hj' : m % P.cellsOf e < P.cellsOf e := Nat.mod_lt _ (by omega)
                  have hmm : m / P.cellsOf e * P.cellsOf e + m % P.cellsOf e = m := by rw [Nat.mul_comm]; exact Nat.div_add_mod m _
                  obtain ⟨_, g2, g3⟩ := r2 _ hi'
                  obtain ⟨v, v1, v2⟩ := g3 (m % P.cellsOf e) (by rw [g2]; exact hj')
                  rw [hmm] at v1
                  refine ⟨v, v1, ?_⟩
                  have := f2 _ _ hi' hj'
                  rw [hmm] at this
                  rw [this]
                  simp only [List.getD, List.getElem?_eq_getElem hi', Option.getD_some]
                  rw [List.getElem?_eq_getElem (by rw [g2]; exact hj')]
                  exact v2
                refine .sl _ _ _ _ (fun m => (w.cell? ⟨b, off + m, none⟩).getD undef) hl hm (.inr ⟨b, off, rfl, hb, fun m hm => ?_⟩) fun m hm => ?_
                · obtain ⟨v, v1, _⟩ := hcell m hm
                  simp only [v1, Option.getD_some]
                · obtain ⟨v, v1, v2⟩ := hcell m hm
                  simp only [v1, Option.getD_some]
                  have e9 : rows.flatten.getD m .any = rows.flatten[m] := by rw [List.getD_eq_getElem?_getD, List.getElem?_eq_getElem hm, Option.getD_some]
                  rw [e9] at v2
                  exact v2
      | struct fs =>
        cases ty <;> simp only at h <;> try (cases h)
        rename_i tys
        split at hr <;> first | (exfalso; simp at *; done) | skip
        all_goals (first | (exfalso; simp_all; done) | skip)
        rename_i cs' fs' heq
        simp only [Option.some.injEq, TypeDesc.struct.injEq] at heq
        subst heq
        split at hr
        · rename_i hlen
          obtain ⟨rs, hm, _⟩ := Option.map_eq_some_iff.1 hr
          obtain ⟨_, xs, s1, s2, s3⟩ := opens_fields ih hlen fs.toList tys 0 rs h hm
          exact ⟨xs, s1, by omega, hlen, fun i hi => by simpa using s3 i hi⟩
        · cases hr
      | _ => simp at h
end
theorem open_one {H : Type} {enc : TypeId × Value → H} {P : Program} {w : World} {spare : Nat → Bool} {held : Bool} {ty : Ty} {T : TypeId} {v : Value} {d : DataW H} {ps : List MemPlace} (ht : tyOk P 20 T ty = true) (hc : v.cells.toList = [v])
    (h : DataW.Trod enc P w 0 spare held T v d ps) : ∃ x, Shp ty [x] ∧ Rep w (fun b => b < w.heap.size) v x := by
  obtain ⟨fuel, hf⟩ := h
  obtain ⟨xs, s1, s2, s3, s4⟩ := opens 20 ty T fuel _ _ ht hf
  rw [hc] at s3 s4
  simp at s3
  match xs, s2 with
  | [x], _ => exact ⟨x, s1, by simpa using s4 0 (by simp)⟩
  | [], h2 => simp at h2; omega
  | _ :: _ :: _, h2 => simp at h2; omega
end Go.Proofs.Ytbkojpkdphggeaa
namespace Go.Proofs.Ytbkojpkdphggeaa
open Go
theorem tyc0 : tyc Try.prog 0 = some none := by kernel_rfl
theorem tyc3 : tyc Try.prog 3 = some none := by kernel_rfl
theorem zmb3 : zmb Try.prog 3 = some (.cells [(.lit (.int .i64 0))] 1 3) := by kernel_rfl
theorem tyc4 : tyc Try.prog 4 = some none := by kernel_rfl
theorem zmb4 : zmb Try.prog 4 = some (.cells [(.lit (.bool false))] 1 4) := by kernel_rfl
theorem tyc9 : tyc Try.prog 9 = some none := by kernel_rfl
theorem zmb9 : zmb Try.prog 9 = some (.cells [(.lit (.string ⟨#[]⟩))] 1 9) := by kernel_rfl
theorem tyc20 : tyc Try.prog 20 = some none := by kernel_rfl
theorem zmb20 : zmb Try.prog 20 = some (.cells [(.lit .nilIface)] 1 20) := by kernel_rfl
theorem tyc21 : tyc Try.prog 21 = some none := by kernel_rfl
theorem zmb21 : zmb Try.prog 21 = some (.cells [(.lit (.int .i32 0))] 1 21) := by kernel_rfl
theorem tyc22 : tyc Try.prog 22 = some none := by kernel_rfl
theorem elt22 : elt Try.prog 22 = some (none, 5) := by kernel_rfl
theorem mkz22 : mkz Try.prog 22 = none := by kernel_rfl
theorem mkc22 : mkc Try.prog 22 = some (39, 5, 64, [(.lit (.int .i64 0)), (.lit (.int .i64 0)), (.lit (.string ⟨#[]⟩)), (.lit (.bool false)), (.lit (.slice none 0 0))]) := by kernel_rfl
theorem apT22 : apT Try.prog 22 = some (39, 5, 64) := by kernel_rfl
theorem elk22 : elk Try.prog 22 = none := by kernel_rfl
theorem zmb22 : zmb Try.prog 22 = some (.cells [(.lit (.slice none 0 0))] 1 22) := by kernel_rfl
theorem tyc25 : tyc Try.prog 25 = some none := by kernel_rfl
theorem mth25_31 : mthOf Try.prog 25 "firebell/channel.at" = some 31 := by kernel_rfl
theorem mth25_35 : mthOf Try.prog 25 "firebell/channel.full" = some 35 := by kernel_rfl
theorem mth25_33 : mthOf Try.prog 25 "firebell/channel.hear" = some 33 := by kernel_rfl
theorem mth25_32 : mthOf Try.prog 25 "firebell/channel.take" = some 32 := by kernel_rfl
theorem con25 : Try.prog.concrete 25 = true := by kernel_rfl
theorem zmb25 : zmb Try.prog 25 = some (.cells [(.lit (.pointer none))] 1 25) := by kernel_rfl
theorem tyc28 : tyc Try.prog 28 = some none := by kernel_rfl
theorem elt28 : elt Try.prog 28 = some (none, 4) := by kernel_rfl
theorem mkz28 : mkz Try.prog 28 = none := by kernel_rfl
theorem mkc28 : mkc Try.prog 28 = some (53, 4, 56, [(.lit (.bool false)), (.lit (.string ⟨#[]⟩)), (.lit (.bool false)), (.lit (.slice none 0 0))]) := by kernel_rfl
theorem apT28 : apT Try.prog 28 = some (53, 4, 56) := by kernel_rfl
theorem elk28 : elk Try.prog 28 = none := by kernel_rfl
theorem zmb28 : zmb Try.prog 28 = some (.cells [(.lit (.slice none 0 0))] 1 28) := by kernel_rfl
theorem tyc29 : tyc Try.prog 29 = some none := by kernel_rfl
theorem elt29 : elt Try.prog 29 = some (none, 5) := by kernel_rfl
theorem mkz29 : mkz Try.prog 29 = none := by kernel_rfl
theorem mkc29 : mkc Try.prog 29 = some (50, 5, 56, [(.lit (.string ⟨#[]⟩)), (.lit (.string ⟨#[]⟩)), (.lit (.bool false)), (.lit (.int .u64 0)), (.lit (.bool false))]) := by kernel_rfl
theorem apT29 : apT Try.prog 29 = some (50, 5, 56) := by kernel_rfl
theorem elk29 : elk Try.prog 29 = none := by kernel_rfl
theorem zmb29 : zmb Try.prog 29 = some (.cells [(.lit (.slice none 0 0))] 1 29) := by kernel_rfl
theorem tyc30 : tyc Try.prog 30 = some none := by kernel_rfl
theorem zmb30 : zmb Try.prog 30 = some (.cells [(.lit (.int .u64 0))] 1 30) := by kernel_rfl
theorem tyc33 : tyc Try.prog 33 = some none := by kernel_rfl
theorem zmb33 : zmb Try.prog 33 = some (.cells [(.lit (.int .i64 0))] 1 33) := by kernel_rfl
theorem tyc34 : tyc Try.prog 34 = some none := by kernel_rfl
theorem tyc37 : tyc Try.prog 37 = some (some 3) := by kernel_rfl
theorem foff37_0 : foff Try.prog 37 0 = some 0 := by kernel_rfl
theorem fpart37_0 : fpart Try.prog 37 0 = some (0, none) := by kernel_rfl
theorem foff37_1 : foff Try.prog 37 1 = some 1 := by kernel_rfl
theorem fpart37_1 : fpart Try.prog 37 1 = some (1, none) := by kernel_rfl
theorem foff37_2 : foff Try.prog 37 2 = some 2 := by kernel_rfl
theorem fpart37_2 : fpart Try.prog 37 2 = some (2, none) := by kernel_rfl
theorem zmb37 : zmb Try.prog 37 = some (.cells [(.lit (.string ⟨#[]⟩)), (.lit (.bool false)), (.lit (.slice none 0 0))] 3 37) := by kernel_rfl
theorem bldT37 : bldT Try.prog 37 = some ([(.string ⟨#[]⟩), (.bool false), (.slice none 0 0)], [(0, 1), (1, 1), (2, 1)]) := by kernel_rfl
theorem tyc39 : tyc Try.prog 39 = some (some 5) := by kernel_rfl
theorem foff39_0 : foff Try.prog 39 0 = some 0 := by kernel_rfl
theorem fpart39_0 : fpart Try.prog 39 0 = some (0, none) := by kernel_rfl
theorem foff39_1 : foff Try.prog 39 1 = some 1 := by kernel_rfl
theorem fpart39_1 : fpart Try.prog 39 1 = some (1, none) := by kernel_rfl
theorem foff39_2 : foff Try.prog 39 2 = some 2 := by kernel_rfl
theorem fpart39_2 : fpart Try.prog 39 2 = some (2, (some 3)) := by kernel_rfl
theorem zmb39 : zmb Try.prog 39 = some (.cells [(.lit (.int .i64 0)), (.lit (.int .i64 0)), (.lit (.string ⟨#[]⟩)), (.lit (.bool false)), (.lit (.slice none 0 0))] 5 39) := by kernel_rfl
theorem bldT39 : bldT Try.prog 39 = some ([(.int .i64 0), (.int .i64 0), (.string ⟨#[]⟩), (.bool false), (.slice none 0 0)], [(0, 1), (1, 1), (2, 3)]) := by kernel_rfl
theorem tyc50 : tyc Try.prog 50 = some (some 5) := by kernel_rfl
theorem foff50_0 : foff Try.prog 50 0 = some 0 := by kernel_rfl
theorem fpart50_0 : fpart Try.prog 50 0 = some (0, none) := by kernel_rfl
theorem foff50_1 : foff Try.prog 50 1 = some 1 := by kernel_rfl
theorem fpart50_1 : fpart Try.prog 50 1 = some (1, none) := by kernel_rfl
theorem foff50_2 : foff Try.prog 50 2 = some 2 := by kernel_rfl
theorem fpart50_2 : fpart Try.prog 50 2 = some (2, none) := by kernel_rfl
theorem foff50_3 : foff Try.prog 50 3 = some 3 := by kernel_rfl
theorem fpart50_3 : fpart Try.prog 50 3 = some (3, none) := by kernel_rfl
theorem foff50_4 : foff Try.prog 50 4 = some 4 := by kernel_rfl
theorem fpart50_4 : fpart Try.prog 50 4 = some (4, none) := by kernel_rfl
theorem fe50 : flatEq Try.prog 50 [3, 3, 2, 1, 2] := flatEq_of (by kernel_rfl)
theorem zmb50 : zmb Try.prog 50 = some (.cells [(.lit (.string ⟨#[]⟩)), (.lit (.string ⟨#[]⟩)), (.lit (.bool false)), (.lit (.int .u64 0)), (.lit (.bool false))] 5 50) := by kernel_rfl
theorem bldT50 : bldT Try.prog 50 = some ([(.string ⟨#[]⟩), (.string ⟨#[]⟩), (.bool false), (.int .u64 0), (.bool false)], [(0, 1), (1, 1), (2, 1), (3, 1), (4, 1)]) := by kernel_rfl
theorem tyc53 : tyc Try.prog 53 = some (some 4) := by kernel_rfl
theorem foff53_0 : foff Try.prog 53 0 = some 0 := by kernel_rfl
theorem fpart53_0 : fpart Try.prog 53 0 = some (0, none) := by kernel_rfl
theorem foff53_1 : foff Try.prog 53 1 = some 1 := by kernel_rfl
theorem fpart53_1 : fpart Try.prog 53 1 = some (1, (some 3)) := by kernel_rfl
theorem zmb53 : zmb Try.prog 53 = some (.cells [(.lit (.bool false)), (.lit (.string ⟨#[]⟩)), (.lit (.bool false)), (.lit (.slice none 0 0))] 4 53) := by kernel_rfl
theorem bldT53 : bldT Try.prog 53 = some ([(.bool false), (.string ⟨#[]⟩), (.bool false), (.slice none 0 0)], [(0, 1), (1, 3)]) := by kernel_rfl
theorem tyc55 : tyc Try.prog 55 = some none := by kernel_rfl
theorem elt55 : elt Try.prog 55 = some (none, 1) := by kernel_rfl
theorem mkz55 : mkz Try.prog 55 = none := by kernel_rfl
theorem mkc55 : mkc Try.prog 55 = some (20, 1, 16, [(.lit .nilIface)]) := by kernel_rfl
theorem apT55 : apT Try.prog 55 = some (20, 1, 16) := by kernel_rfl
theorem elk55 : elk Try.prog 55 = none := by kernel_rfl
theorem zmb55 : zmb Try.prog 55 = some (.cells [(.lit (.slice none 0 0))] 1 55) := by kernel_rfl
theorem tyc57 : tyc Try.prog 57 = some (some 3) := by kernel_rfl
theorem foff57_0 : foff Try.prog 57 0 = some 0 := by kernel_rfl
theorem fpart57_0 : fpart Try.prog 57 0 = some (0, none) := by kernel_rfl
theorem foff57_1 : foff Try.prog 57 1 = some 1 := by kernel_rfl
theorem fpart57_1 : fpart Try.prog 57 1 = some (1, none) := by kernel_rfl
theorem foff57_2 : foff Try.prog 57 2 = some 2 := by kernel_rfl
theorem fpart57_2 : fpart Try.prog 57 2 = some (2, none) := by kernel_rfl
theorem zmb57 : zmb Try.prog 57 = some (.cells [(.lit (.slice none 0 0)), (.lit (.slice none 0 0)), (.lit (.int .u64 0))] 3 57) := by kernel_rfl
theorem bldT57 : bldT Try.prog 57 = some ([(.slice none 0 0), (.slice none 0 0), (.int .u64 0)], [(0, 1), (1, 1), (2, 1)]) := by kernel_rfl
theorem tyc63 : tyc Try.prog 63 = some (some 3) := by kernel_rfl
theorem foff63_0 : foff Try.prog 63 0 = some 0 := by kernel_rfl
theorem fpart63_0 : fpart Try.prog 63 0 = some (0, (some 3)) := by kernel_rfl
theorem zmb63 : zmb Try.prog 63 = some (.cells [(.lit (.string ⟨#[]⟩)), (.lit (.bool false)), (.lit (.slice none 0 0))] 3 63) := by kernel_rfl
theorem bldT63 : bldT Try.prog 63 = some ([(.string ⟨#[]⟩), (.bool false), (.slice none 0 0)], [(0, 3)]) := by kernel_rfl
theorem tyc65 : tyc Try.prog 65 = some (some 3) := by kernel_rfl
theorem foff65_0 : foff Try.prog 65 0 = some 0 := by kernel_rfl
theorem fpart65_0 : fpart Try.prog 65 0 = some (0, (some 3)) := by kernel_rfl
theorem zmb65 : zmb Try.prog 65 = some (.cells [(.lit (.string ⟨#[]⟩)), (.lit (.bool false)), (.lit (.slice none 0 0))] 3 65) := by kernel_rfl
theorem bldT65 : bldT Try.prog 65 = some ([(.string ⟨#[]⟩), (.bool false), (.slice none 0 0)], [(0, 3)]) := by kernel_rfl
theorem tyc68 : tyc Try.prog 68 = some none := by kernel_rfl
theorem mixed : Try.prog.follows .mixedOrders = true := by kernel_rfl
end Go.Proofs.Ytbkojpkdphggeaa
namespace Go.Proofs.Ytbkojpkdphggeaa
open Go
set_option linter.unusedSimpArgs false
set_option linter.unusedVariables false
section
variable {P : Program} {f : FuncId} {args : List AV} {H F F0 R : Hp} {post : AV → Hp → Prop}
theorem DCt.upd {b : Nat} {m : MB} {x : AV} (hg : hget H b = some m) (h : ACt P f args [(b, m)] (fun r F' => r = x ∧ F' = [(b, m)])) : DCt P f args H x :=
  ⟨[(b, m)], hdel H b, _, hget_perm hg, h, fun r F' hr _ => by obtain ⟨e1, e2⟩ := hr; subst e1 e2; exact ⟨rfl, (hget_perm hg).symm⟩⟩
theorem perm1 {b : Nat} {m : MB} (h : hget H b = some m) : H.Perm ([(b, m)] ++ hdel H b) := hget_perm h
theorem perm2 {b1 b2 : Nat} {m1 m2 : MB} (h1 : hget H b1 = some m1) (h2 : hget (hdel H b1) b2 = some m2) : H.Perm ([(b1, m1), (b2, m2)] ++ hdel (hdel H b1) b2) :=
  (hget_perm h1).trans (List.Perm.append_left [(b1, m1)] (hget_perm h2))
theorem perm3 {b1 b2 b3 : Nat} {m1 m2 m3 : MB} (h1 : hget H b1 = some m1) (h2 : hget (hdel H b1) b2 = some m2) (h3 : hget (hdel (hdel H b1) b2) b3 = some m3) : H.Perm ([(b1, m1), (b2, m2), (b3, m3)] ++ hdel (hdel (hdel H b1) b2) b3) :=
  (hget_perm h1).trans (List.Perm.append_left [(b1, m1)] (perm2 h2 h3))
theorem DCt.updN {x : AV} (hP : H.Perm (F ++ R)) (h : ACt P f args F (fun r F' => r = x ∧ F' = F)) : DCt P f args H x :=
  ⟨F, R, _, hP, h, fun r F' hr _ => by obtain ⟨e1, e2⟩ := hr; subst e1 e2; exact ⟨rfl, hP.symm⟩⟩
theorem CallV.updN {x : AV} (hP : H.Perm (F ++ R)) (h : ACt P f args F (fun r F' => r = x ∧ F' = F0)) (hp : post x (F0 ++ R)) : CallV P f args H post :=
  ⟨F, R, _, hP, h, fun r F' hr _ => by obtain ⟨e1, e2⟩ := hr; subst e1 e2; exact hp⟩
theorem fresh_perm {b : Nat} {m : MB} (hP : H.Perm (F ++ R)) (hk : F0.map (·.1) = F.map (·.1)) (hn : ((((b, m) :: F0) ++ R).map (·.1)).Nodup) : fresh H b := by
  intro p hp
  have hp' := hP.mem_iff.1 hp
  simp only [List.cons_append, List.map_cons, List.nodup_cons, List.map_append, List.mem_append] at hn
  have hne : p.1 ≠ b := by
    rintro rfl
    rcases List.mem_append.1 hp' with h | h
    · exact hn.1 (.inl (by rw [hk]; exact List.mem_map_of_mem h))
    · exact hn.1 (.inr (List.mem_map_of_mem h))
  exact ⟨hne, Ne.symm hne⟩
theorem CallV.new1 {x : Nat → AV} {m : Nat → MB} (hP : H.Perm (F ++ R)) (h : ACt P f args F (fun r F' => ∃ b, r = x b ∧ F' = (b, m b) :: F0)) (hk : F0.map (·.1) = F.map (·.1))
    (hp : Nu fun b => Fr (fresh H b) (post (x b) ((b, m b) :: (F0 ++ R)))) : CallV P f args H post :=
  ⟨F, R, _, hP, h, fun r F' hr hn => by
    obtain ⟨b, e1, e2⟩ := hr
    subst e1 e2
    exact (hp.out b).out (fresh_perm hP hk hn)⟩
theorem CallV.ex {Γ : Type} {x : Γ → AV} {m : Γ → Hp} (hP : H.Perm (F ++ R)) (h : ACt P f args F (fun r F' => ∃ g, r = x g ∧ F' = m g)) (hp : ∀ g, post (x g) (m g ++ R)) : CallV P f args H post :=
  ⟨F, R, _, hP, h, fun r F' hr _ => by obtain ⟨g, e1, e2⟩ := hr; subst e1 e2; exact hp g⟩
theorem ExF.up {K : AV → Prop} {x : AV} (hP : ∃ R, H.Perm (F ++ R)) (h : ACt P f args F (fun r F' => r = x ∧ F' = F)) (hk : K x) : ExF P f args H K := let ⟨_, hP⟩ := hP; ExF.on (DCt.updN hP h) hk
theorem ExG.up {c : Bool} {K : AV → Prop} {x : AV} (hP : ∃ R, H.Perm (F ++ R)) (h : c = true → ACt P f args F (fun r F' => r = x ∧ F' = F)) (hk : K x) : ExG c P f args H K := let ⟨_, hP⟩ := hP; ExG.on (fun hc => DCt.updN hP (h hc)) hk
theorem ExG.upJ {c : Bool} {K : AV → Prop} {x : AV} {q : Prop} (hP : ∃ R, H.Perm (F ++ R)) (h : c = true → ACt P f args F (fun r F' => r = x ∧ F' = F)) (hk : K x) : ExG c P f args H K ∨ q := .inl (ExG.up hP h hk)
theorem ExG.upI {c : Bool} {K : AV → Prop} {x : AV} {q ob : Prop} (hP : ∃ R, H.Perm (F ++ R)) (h : c = true → ACt P f args F (fun r F' => r = x ∧ F' = F)) (ho : ob) (hk : K x) : (ob ∧ ExG c P f args H K) ∨ q := .inl ⟨ho, ExG.up hP h hk⟩
theorem CallV.updM {f : FuncId} {args : List AV} {H F F0 R : Hp} {post : AV → Hp → Prop} {x : AV} (h : ACt P f args F (fun r F' => r = x ∧ F' = F0)) (hP : H.Perm (F ++ R)) (hp : post x (F0 ++ R)) : CallV P f args H post := CallV.updN hP h hp
theorem CallV.exM {f : FuncId} {args : List AV} {H F R : Hp} {post : AV → Hp → Prop} {Γ : Type} {x : Γ → AV} {m : Γ → Hp} (h : ACt P f args F (fun r F' => ∃ g, r = x g ∧ F' = m g)) (hP : H.Perm (F ++ R)) (hp : ∀ g, post (x g) (m g ++ R)) : CallV P f args H post := CallV.ex hP h hp
end
end Go.Proofs.Ytbkojpkdphggeaa
namespace Go.Proofs.Ytbkojpkdphggeaa
open Go
set_option linter.unusedSimpArgs false
set_option linter.unusedVariables false
section
variable {P : Program} {cx : Cx} {n : Nat} {ops : Array Oper}
def ECt (P : Program) (f : FuncId) (args : List AV) (E : Hp) (x : AV) (E' : Hp) : Prop :=
  ∃ F R F0, E.Perm (F ++ R) ∧ E' = F0 ++ R ∧ F0.map (·.1) = F.map (·.1) ∧ ACt P f args F (fun r F' => r = x ∧ F' = F0)
def ExW (P : Program) (f : FuncId) (args : List AV) (E : Hp) (K : AV → Hp → Prop) (d : Hd K := .mk) : Prop := ∃ x E', ECt P f args E x E' ∧ K x E'
theorem ExW.mk {f : FuncId} {args : List AV} {E F R F0 : Hp} {K : AV → Hp → Prop} {x : AV} (hP : E.Perm (F ++ R)) (h : ACt P f args F (fun r F' => r = x ∧ F' = F0)) (hk : F0.map (·.1) = F.map (·.1)) (hK : K x (F0 ++ R)) : ExW P f args E K :=
  ⟨x, F0 ++ R, ⟨F, R, F0, hP, rfl, hk, h⟩, hK⟩
theorem SeqG.cons {C : Nat → Oper → AV → List (Nat × AV) → Prop} {o : Oper} {x : AV} {r : List (Oper × AV)} {env : List (Nat × AV)} (h0 : C 0 o x env) (h : SeqG (fun i => C (i + 1)) r (putE env o.dst x)) : SeqG C ((o, x) :: r) env := by
  have := SeqG.app (C := C) (A := [(o, x)]) (B := r) (env := env) (SeqG.one h0) (by
    simp only [envL, if_true, List.length_cons, List.length_nil]
    have e : (fun i => C (0 + 1 + i)) = fun i => C (i + 1) := by funext i; rw [show 0 + 1 + i = i + 1 by omega]
    rw [e]; exact h)
  exact this
/-! ### The order -/
theorem reach_of_ready {listed : Array Bool} (hc : Closed ops listed) {f i j : Nat} (hi : i ∈ Region.ready .any ops listed) (h : reach ops f i j = true) : listed.getD j false = true :=
  reach_listed hc f i j h fun oi' ho' m hw => ready_waits hi ho' hw
/-! ### Ahead of the parting, the parting, behind it -/
theorem head_to {k : Nat} {R : Exit → Act → World → Prop} {Inv : Array Bool → Act → World → Prop} (hle : k ≤ ops.size) (hback : ∀ (i : Nat) oi, ops[i]? = some oi → ∀ e ∈ oi.after, Region.binds .any e = true → e.on < i)
    (htail : ∀ listed a w, Inv listed a w → ∀ i, k ≤ i → i ∈ Region.ready .any ops listed → ∀ j, j < k → listed.getD j false = true)
    (hcl : ∀ listed a w, Inv listed a w → Closed ops listed) (hsz : ∀ listed a w, Inv listed a w → listed.size = ops.size)
    (hstep : ∀ listed a w i (X : Act → World → Prop), Inv listed a w → i ∈ Region.ready .any ops listed → i < k → (∀ a' w', Inv (listed.setIfInBounds i true) a' w' → X a' w') → wpOp P ops R i X a w) {g : Nat}
    (hfin : ∀ listed a w, Inv listed a w → (∀ j, j < k → listed.getD j false = true) → wpAny P .any ops R g listed a w) :
    ∀ (u : Nat) (listed : Array Bool) (a : Act) (w : World), ((List.range k).filter fun i => !listed.getD i false).length = u → Inv listed a w → wpAny P .any ops R (u + g) listed a w
  | 0, listed, a, w, hu, inv => by
    rw [Nat.zero_add]
    refine hfin listed a w inv fun j hj => ?_
    have := List.eq_nil_of_length_eq_zero hu
    rw [List.filter_eq_nil_iff] at this
    simpa using this j (List.mem_range.2 hj)
  | u + 1, listed, a, w, hu, inv => by
    have hls := hsz _ _ _ inv
    rw [show u + 1 + g = (u + g) + 1 by omega]
    obtain ⟨m, hm1, hm2⟩ : ∃ m, m < k ∧ listed.getD m false = false := by
      cases hf : ((List.range k).filter fun i => !listed.getD i false) with
      | nil => rw [hf] at hu; cases hu
      | cons m r =>
        have : m ∈ (List.range k).filter fun i => !listed.getD i false := by rw [hf]; exact List.mem_cons_self ..
        rw [List.mem_filter] at this
        exact ⟨m, List.mem_range.1 this.1, by simpa using this.2⟩
    obtain ⟨i0, h1, h2, h3⟩ := least (p := fun i => listed.getD i false) hm2
    have hi0 : i0 < ops.size := by omega
    have hready0 : i0 ∈ Region.ready .any ops listed := by
      refine mem_ready.2 ⟨by rw [getD_bool (by rw [hls]; exact hi0)]; exact h2, ops[i0], Array.getElem?_eq_getElem hi0, fun e he hb => h3 _ (hback i0 _ (Array.getElem?_eq_getElem hi0) e he hb)⟩
    refine ⟨fun h => (by rw [h] at hready0; cases hready0), fun i hi => ?_⟩
    obtain ⟨hun, oi, hoi, _⟩ := mem_ready.1 hi
    have hilt : i < ops.size := (Array.getElem?_eq_some_iff.1 hoi).1
    have hik : i < k := by
      rcases Nat.lt_or_ge i k with h | h
      · exact h
      · have := htail listed a w inv i h hi m hm1
        rw [hm2] at this
        cases this
    have hun' : listed.getD i false = false := by rw [← getD_bool (by rw [hls]; exact hilt)]; exact hun
    refine hstep listed a w i _ inv hi hik fun a' w' inv' => head_to hle hback htail hcl hsz hstep hfin u _ a' w' ?_ inv'
    have hcount : ∀ (l : List Nat), l.Nodup → i ∈ l → (l.filter fun j => !listed.getD j false).length = ((l.filter fun j => !(listed.setIfInBounds i true).getD j false).length) + 1 := by
      intro l
      induction l with
      | nil => intro _ h; cases h
      | cons c r ih =>
        intro hn hmem
        simp only [List.nodup_cons] at hn
        by_cases hci : c = i
        · subst hci
          have hset : (listed.setIfInBounds c true).getD c false = true := by
            have : c < listed.size := by rw [hls]; exact hilt
            simp [this]
          have hrest : (r.filter fun j => !listed.getD j false) = r.filter fun j => !(listed.setIfInBounds c true).getD j false := by
            refine List.filter_congr fun j hj => ?_
            have : j ≠ c := fun h => hn.1 (h ▸ hj)
            rw [getD_set_ne false (Ne.symm this)]
          rw [List.filter_cons, List.filter_cons, hun', hset, hrest]
          simp
        · have hmem' : i ∈ r := by rcases List.mem_cons.1 hmem with h | h; exact absurd h.symm hci; exact h
          have := ih hn.2 hmem'
          rw [List.filter_cons, List.filter_cons, getD_set_ne false (Ne.symm hci)]
          split
          · simp only [List.length_cons]; omega
          · exact this
    have := hcount (List.range k) List.nodup_range (List.mem_range.2 hik)
    omega
theorem Stdy.congr {o : Oper} {env env' : List (Nat × AV)} {H : Hp} {x : AV} (h : ∀ t, look env t = look env' t) (hS : Stdy P cx n ops o env H x) : Stdy P cx n ops o env' H x :=
  ⟨hS.1, fun a w X R h1 h2 h3 h4 h5 => hS.2 a w X R h1 h2 h3 (fun t ht => by rw [h t]; exact h4 t ht) h5⟩
theorem count_gt (c : Nat) : ∀ N, ((List.range N).filter fun i => !decide (i ≤ c)).length = N - (c + 1)
  | 0 => by simp
  | N + 1 => by
    rw [List.range_succ, List.filter_append, List.length_append, count_gt c N]
    by_cases h : N ≤ c
    · simp [h]; omega
    · simp [h]; omega
end
end Go.Proofs.Ytbkojpkdphggeaa
namespace Go.Proofs.Ytbkojpkdphggeaa
open Go
set_option linter.unusedSimpArgs false
set_option linter.unusedVariables false
section
variable {P : Program} {cx : Cx} {n : Nat} {ops : Array Oper} {H : Hp}
theorem tail_to {k0 : Nat} (hback : ∀ (i : Nat) oi, ops[i]? = some oi → ∀ e ∈ oi.after, Region.binds .any e = true → e.on < i) (hr : ∀ i, k0 ≤ i → i < ops.size → ∀ j, k0 ≤ j → j < i → reach ops 12 i j = true) {R : Exit → Act → World → Prop} :
    ∀ (l : List Oper) (k : Nat) (listed : Array Bool) (a : Act) (w : World), k0 ≤ k → (∀ j, l[j]? = ops[k + j]?) → k + l.length = ops.size →
    listed.size = ops.size → (∀ j, j < ops.size → listed.getD j false = decide (j < k)) → wpList P ops R l a w → wpAny P .any ops R l.length listed a w
  | [], k, listed, a, w, hk, hl, hsz, hls, hlist, h => by
    refine ⟨?_, h⟩
    refine List.eq_nil_iff_forall_not_mem.2 fun j hj => ?_
    obtain ⟨h1, o, ho, _⟩ := mem_ready.1 hj
    have hjlt : j < ops.size := (Array.getElem?_eq_some_iff.1 ho).1
    have := hlist j hjlt
    rw [getD_bool (by omega), this] at h1
    simp at h1
    simp at hsz
    omega
  | o :: l, k, listed, a, w, hk, hl, hsz, hls, hlist, h => by
    have h0 : ops[k]? = some o := by simpa using (hl 0).symm
    have hklt : k < ops.size := (Array.getElem?_eq_some_iff.1 h0).1
    have hready : k ∈ Region.ready .any ops listed := by
      refine mem_ready.2 ⟨?_, o, h0, fun e he hb => ?_⟩
      · rw [getD_bool (by omega), hlist k hklt]; simp
      · have := hback k o h0 e he hb
        rw [hlist _ (by omega)]; simp; exact this
    refine ⟨fun h1 => (by rw [h1] at hready; cases hready), fun i hi => ?_⟩
    have hik : i = k := by
      obtain ⟨h1, oi, hoi, _⟩ := mem_ready.1 hi
      have hilt : i < ops.size := (Array.getElem?_eq_some_iff.1 hoi).1
      rw [getD_bool (by omega), hlist i hilt] at h1
      simp at h1
      by_cases h2 : i = k
      · exact h2
      · have hcl : Closed ops listed := fun j oj hj hl c hw => by
          obtain ⟨e, he, hb, rfl⟩ := waits_spec hw
          have h3 := hback j oj hj e he hb
          have h4 : j < ops.size := (Array.getElem?_eq_some_iff.1 hj).1
          rw [hlist j h4] at hl
          simp at hl
          rw [hlist _ (by omega)]
          simp; omega
        have := reach_of_ready hcl hi (hr i (by omega) hilt k hk (by omega))
        rw [hlist k hklt] at this
        simp at this
    subst hik
    have hw : wpOp P ops R i (wpList P ops R l) a w := by unfold wpOp; simp only [h0]; exact h
    refine wpOp_mono (fun a' w' h' => tail_to hback hr l (i + 1) _ a' w' (by omega) (fun j => by have := hl (j + 1); simpa [Nat.add_assoc, Nat.add_comm 1 j] using this) (by simp at hsz; omega) (by simp [hls]) (fun j hj => ?_) h') hw
    by_cases hji : j = i
    · subst hji
      have : j < listed.size := by omega
      simp [this]
    · rw [getD_set_ne false (Ne.symm hji), hlist j hj, Bool.eq_iff_iff]
      simp
      omega
def mkS (P : Program) (env : List (Nat × AV)) : Op → Option (Prop × MB × Nat)
  | .buildSlice T len parts => match apT P T with
    | some (e, sz, _) => match fillA (plN sz len 0) (List.replicate (len * sz) .any) (ogp env parts.toList).2 with
      | some cs => some ((ogp env parts.toList).1 ∧ len * sz ≤ 16777216, rowMB (elk P T) cs (len * sz) e, len)
      | none => none
    | none => none
  | _ => none
theorem mkS_congr {env env' : List (Nat × AV)} {op : Op} (h : ∀ x ∈ op.operands, opd env x = opd env' x) : mkS P env op = mkS P env' op := by
  cases op <;> try rfl
  rename_i T len parts
  have : ogp env parts.toList = ogp env' parts.toList := ogp_congr fun x hx => h x.2 (by simp [Op.operands]; exact ⟨x.1, by simpa using hx⟩)
  simp only [mkS, this]
theorem mkS_eff {s : St} {o : Oper} {K : St → Prop} {c : Prop} {m : MB} {len : Nat} (h : mkS P s.env o.op = some (c, m, len)) (hc : c) (hk : ∀ b, fresh s.H b → K ⟨(s.put o.dst (ms b 0 len len)).env, (b, m) :: s.H⟩) : eff P o K s := by
  unfold mkS at h
  split at h
  · rename_i T len' parts hop
    split at h
    · rename_i e sz by_ hT
      split at h
      · rename_i cs hcs
        simp only [Option.some.injEq, Prod.mk.injEq] at h
        obtain ⟨rfl, rfl, rfl⟩ := h
        unfold eff
        rw [hop]
        simp only [hT, hcs]
        exact ⟨hc.1, hc.2, ⟨fun b => ⟨fun hf => hk b hf⟩⟩⟩
      · cases h
    · cases h
  · cases h
structure QM where
  ia : Nat
  t : Nat
  len : Nat
  m : MB
def SeqM (P : Program) (cx : Cx) (n : Nat) (ops : Array Oper) (H : Hp) (k : Nat) (lx : List (Oper × AV)) (env : List (Nat × AV)) (q : QM) : Prop :=
  SeqG (fun i o x env => 0 < i → i < k → if i = q.ia then o.guard = none ∧ x = .any ∧ o.dst = some q.t ∧ q.t < n ∧ ∃ c, mkS P env o.op = some (c, q.m, q.len) ∧ c
    else StdyE P cx n ops o env H x) lx env
structure DInvM (cx : Cx) (n : Nat) (ops : Array Oper) (lx : List (Oper × AV)) (env : List (Nat × AV)) (H : Hp) (k : Nat) (q : QM) (listed : Array Bool) (a : Act) (w : World) : Prop where
  lsize : listed.size = ops.size
  closed : Closed ops listed
  zero : listed.getD 0 false = true
  behind : ∀ j, k ≤ j → listed.getD j false = false
  ph : (listed.getD q.ia false = false ∧ DInv cx n ops lx env H listed a w) ∨
    (listed.getD q.ia false = true ∧ ∃ b, fresh H b ∧ a.tmps.getD q.t undef = .slice (some ⟨b, 0, none⟩) q.len q.len ∧ DInv cx n ops lx env ((b, q.m) :: H) listed a w)
theorem dinvM_step {k : Nat} {lx : List (Oper × AV)} {env : List (Nat × AV)} {q : QM} {listed : Array Bool} {a : Act} {w : World} {i : Nat} (hD : DrawOk ops lx.length) (hlx : ∀ (j : Nat) o x, lx[j]? = some (o, x) → ops[j]? = some o)
    (hS : SeqM P cx n ops H k lx env q) (hsole : ∀ j o x, lx[j]? = some (o, x) → j < k → o.dst = some q.t → j = q.ia) (h0 : 0 < q.ia) (hkl : k ≤ lx.length)
    (inv : DInvM cx n ops lx env H k q listed a w) (hi : i ∈ Region.ready .any ops listed) (hik : i < k) {R : Exit → Act → World → Prop} {X : Act → World → Prop}
    (hX : ∀ a' w', DInvM cx n ops lx env H k q (listed.setIfInBounds i true) a' w' → X a' w') : wpOp P ops R i X a w := by
  obtain ⟨⟨o, x⟩, hp⟩ : ∃ p, lx[i] = p := ⟨_, rfl⟩
  have hli : lx[i]? = some (o, x) := by rw [List.getElem?_eq_getElem (by omega), hp]
  have hoi := hlx i o x hli
  have hilt : i < ops.size := (Array.getElem?_eq_some_iff.1 hoi).1
  have hun : listed.getD i false = false := by
    have := (mem_ready.1 hi).1
    rwa [getD_bool (by rw [inv.lsize]; exact hilt)] at this
  have hi0 : 0 < i := by
    apply Classical.byContradiction; intro hn
    have : i = 0 := by omega
    subst this
    rw [inv.zero] at hun; cases hun
  have hSi := hS i o x hli hi0 hik
  have hset : ∀ j, (listed.setIfInBounds i true).getD j false = if j = i then true else listed.getD j false := by
    intro j
    by_cases hji : j = i
    · subst hji
      have : j < listed.size := by rw [inv.lsize]; exact hilt
      simp [this]
    · rw [if_neg hji, getD_set_ne false (Ne.symm hji)]
  have hls : (listed.setIfInBounds i true).size = ops.size := by simp [inv.lsize]
  have hz : (listed.setIfInBounds i true).getD 0 false = true := by rw [hset, if_neg (by omega)]; exact inv.zero
  have hbh : ∀ j, k ≤ j → (listed.setIfInBounds i true).getD j false = false := fun j hj => by rw [hset, if_neg (by omega)]; exact inv.behind j hj
  have hcl := closed_set inv.closed hi
  by_cases hia : i = q.ia
  · rw [if_pos hia] at hSi
    obtain ⟨hg, rfl, hdt, htn, c, hmk, hc⟩ := hSi
    rcases inv.ph with ⟨h1, hinv⟩ | ⟨h1, _⟩
    · have hlook := dinv_look hD hlx hinv hi hli
      have hmk' : mkS P (envL (fun j => listed.getD j false) lx 0 env) o.op = some (c, q.m, q.len) := by
        rw [← hmk]
        refine mkS_congr fun z hz => opd_congr fun t ht => ?_
        subst ht
        exact hlook t (by unfold Oper.looksAt; exact List.mem_append_left _ (List.mem_filterMap.2 ⟨Operand.tmp t, by simpa using hz, rfl⟩))
      have he : eff P o (fun s' => ∃ b, fresh H b ∧ s' = ⟨putE (envL (fun j => listed.getD j false) lx 0 env) o.dst (ms b 0 q.len q.len), (b, q.m) :: H⟩) ⟨envL (fun j => listed.getD j false) lx 0 env, H⟩ :=
        mkS_eff hmk' hc fun b hb => ⟨b, hb, by rw [put_eq]⟩
      unfold wpOp
      rw [hoi]
      simp only
      rw [if_pos (by simp [Region.wanted, hg])]
      refine .inl ?_
      refine eff_sound (cx := cx) (by rw [hdt]; exact htn) he _ _ (fun s' a' w' hs' ok' => ?_) a w hinv.ok
      obtain ⟨b, hb, rfl⟩ := hs'
      refine hX _ _ ⟨hls, hcl, hz, hbh, .inr ⟨by rw [hset, if_pos hia.symm], b, hb, ?_, hls, hcl, fun t ht ht' => ?_, ok'.defers, ok'.size, fun t => ?_, ok'.world⟩⟩
      · have := ok'.reps q.t
        rw [hdt] at this
        simp only [putE, look, if_true] at this
        exact this.lit_inv
      · rw [getD_set_ne true (by omega)]; exact hinv.tail t ht ht'
      · by_cases ht : t = q.t
        · have e : look (envL (fun j => (listed.setIfInBounds i true).getD j false) lx 0 env) t = .any := by
            rw [ht, ← envL_at lx 0 i env o .any hli hdt]
            refine envL_congr lx 0 env env rfl fun j oj xj hj hdj => ?_
            rw [Nat.zero_add, hset]
            by_cases hjk : j < k
            · have hji := hsole j oj xj hj hjk hdj
              rw [if_pos (by omega)]
              simp; omega
            · rw [if_neg (by omega), inv.behind j (by omega)]
              simp; omega
          rw [e]; exact .any _
        · have := ok'.reps t
          rw [hdt] at this
          simp only [putE, look, if_neg ht] at this
          have e : look (envL (fun j => (listed.setIfInBounds i true).getD j false) lx 0 env) t = look (envL (fun j => listed.getD j false) lx 0 env) t := by
            refine envL_congr lx 0 env env rfl fun j oj xj hj hdj => ?_
            rw [Nat.zero_add, hset]
            by_cases hji : j = i
            · subst hji
              rw [hli] at hj
              cases hj
              rw [hdt] at hdj
              exact absurd (Option.some.inj hdj).symm ht
            · rw [if_neg hji]
          rw [e]; exact this
    · rw [hia, h1] at hun; cases hun
  · rw [if_neg hia] at hSi
    have hnt : ∀ v, (a.put o.dst v).tmps.getD q.t undef = a.tmps.getD q.t undef := by
      intro v
      cases hdd : o.dst with
      | none => rfl
      | some d =>
        have : d ≠ q.t := fun h => hia (hsole i o x hli hik (by rw [hdd, h]))
        simp [Act.put, Array.getElem?_setIfInBounds_ne this]
    have e : (listed.setIfInBounds i true).getD q.ia false = listed.getD q.ia false := by rw [hset, if_neg (fun h => hia h.symm)]
    rcases inv.ph with ⟨h1, hinv⟩ | ⟨h1, b, hfr, hb, hinv⟩
    · exact dinv_stepS hD hlx hli (by simpa using hSi [] (by simp)) hinv hi fun v w' hd => hX _ _ ⟨hls, hcl, hz, hbh, .inl ⟨by rw [e]; exact h1, hd⟩⟩
    · exact dinv_stepS hD hlx hli (hSi _ (fresh_one hfr)) hinv hi fun v w' hd => hX _ _ ⟨hls, hcl, hz, hbh, .inr ⟨by rw [e]; exact h1, b, hfr, by rw [hnt]; exact hb, hd⟩⟩
def drawMF (P : Program) (n : Nat) (l : List Oper) (K : St → Prop) (ia k : Nat) (s : St) : Prop :=
  match l with
  | ⟨some d, .move (.tmp x), _, _, _, none⟩ :: l1 => d < n ∧ dvc P n l.toArray (l1.take (ia - 1)) (fun s1 => match l1.drop (ia - 1) with
    | ⟨some t, op, _, _, _, none⟩ :: r => match mkS P s1.env op with
      | some q => t < n ∧ q.1 ∧ dvc P n l.toArray (r.take (k - ia - 1)) (fun s3 => newB s3.H q.2.1 fun b H => rvc P n l.toArray (r.drop (k - ia - 1)) K ⟨(t, ms b 0 q.2.2 q.2.2) :: s3.env, H⟩) ⟨(t, .any) :: s1.env, s1.H⟩
      | none => False
    | _ => False) ⟨(d, look s.env x) :: s.env, s.H⟩
  | _ => False
def firstB (ops : Array Oper) : Bool :=
  match ops[0]? with
  | some o => o.after.all (fun e => !Region.binds .any e) && (List.range ops.size).all fun j => match ops[j]? with
    | some oj => decide (j = 0) || waits oj 0 || o.apart ops oj
    | none => false
  | none => false
def isBS : Option Oper → Bool
  | some o => match o.op with
    | .buildSlice _ _ _ => true
    | _ => false
  | none => false
def isMv : Option Oper → Bool
  | some o => match o.op with
    | .move _ => true
    | _ => false
  | none => false
def tailB (ops : Array Oper) (ia k : Nat) (l : List Oper) : Bool :=
  decide (0 < ia) && decide (ia < k) && decide (k ≤ ops.size) && ((List.range ops.size).all fun i => decide (i < k) || (List.range i).all fun j => decide (j = 0) || reach ops 12 i j) &&
    ((List.range k).all fun j => decide (j = ia) || !((l[j]?).bind (·.dst) == (l[ia]?).bind (·.dst))) &&
    isBS (l[ia]?) && isMv (l[0]?)
theorem WP.drawMk {id ia k : Nat} {l : List Oper} {Q : Exit → St → Prop} {s : St} (hm : P.follows .mixedOrders = true) (hB : drawB l.toArray l.length = true) (hF : firstB l.toArray = true) (hT : tailB l.toArray ia k l = true) (hN : Region.noSelect l.toArray = true)
    (h : drawMF P n l (Q .normal) ia k s) : WP P cx n (.region id l.toArray true) Q s := by
  intro a w ok
  have hD : DrawOk l.toArray l.toArray.size := by have := drawB_spec hB; simpa using this
  unfold tailB at hT
  simp only [Bool.and_eq_true, decide_eq_true_eq] at hT
  obtain ⟨⟨⟨⟨⟨⟨hia0, hiak⟩, hks⟩, hreach⟩, hso⟩, hbs⟩, hmv⟩ := hT
  clear hbs hmv
  have hr : ∀ i, k ≤ i → i < l.toArray.size → ∀ j, 0 < j → j < i → reach l.toArray 12 i j = true := fun i hi his j hj hji => by
    have := List.all_eq_true.1 hreach i (List.mem_range.2 his)
    rw [Bool.or_eq_true] at this
    rcases this with h | h
    · have := of_decide_eq_true h; omega
    · have := List.all_eq_true.1 h j (List.mem_range.2 hji)
      rw [Bool.or_eq_true] at this
      rcases this with h | h
      · have := of_decide_eq_true h; omega
      · exact h
  unfold drawMF at h
  split at h
  case h_2 => exact h.elim
  rename_i d x ty0 p0 af0 l1
  obtain ⟨o0, ho0⟩ : ∃ o0 : Oper, o0 = ⟨some d, .move (.tmp x), ty0, p0, af0, none⟩ := ⟨_, rfl⟩
  rw [← ho0] at h hB hF hks hreach hso hr hD hN ⊢
  obtain ⟨hdn, h⟩ := h
  obtain ⟨xs1, x1, S1, K1⟩ := dvc_seqvE (cx := cx) _ _ h
  simp only at K1 S1
  split at K1
  case h_2 => exact K1.elim
  rename_i t op ty1 p1 af1 r hr1
  split at K1
  case h_2 => exact K1.elim
  rename_i q hmk
  obtain ⟨hq1, hq2, K1⟩ := K1
  obtain ⟨xs3, x3, S3, K3⟩ := dvc_seqvE (cx := cx) _ _ K1
  simp only at K3 S3
  obtain ⟨mk, hmkk⟩ : ∃ mk : Oper, mk = ⟨some t, op, ty1, p1, af1, none⟩ := ⟨_, rfl⟩
  rw [← hmkk] at hr1
  obtain ⟨env0, henv0⟩ : ∃ env0, env0 = (d, look s.env x) :: s.env := ⟨_, rfl⟩
  rw [← henv0] at S1 K1 S3 K3 hmk
  generalize hA1 : (l1.take (ia - 1)).zip xs1 = A1 at S1 K1 S3 K3 hmk
  generalize hA3 : (r.take (k - ia - 1)).zip xs3 = A3 at S3 K3
  have hll : (o0 :: l1).toArray.size = l1.length + 1 := by simp
  have hlr : r.length = l1.length - ia := by have := congrArg List.length hr1; simp at this; omega
  have l1a : A1.length = ia - 1 := by rw [← hA1]; simp [x1]; omega
  have l3a : A3.length = k - ia - 1 := by rw [← hA3]; simp [x3]; omega
  have f1 : A1.map (·.1) = l1.take (ia - 1) := by rw [← hA1]; exact List.map_fst_zip (by omega)
  have f3 : A3.map (·.1) = r.take (k - ia - 1) := by rw [← hA3]; exact List.map_fst_zip (by omega)
  obtain ⟨D, hDD⟩ : ∃ D : List (Oper × AV), D = (r.drop (k - ia - 1)).map fun o => (o, AV.any) := ⟨_, rfl⟩
  have fD : D.map (·.1) = r.drop (k - ia - 1) := by rw [hDD, List.map_map]; exact List.map_id' _
  obtain ⟨lx, hlxe⟩ : ∃ lx, lx = (o0, look s.env x) :: (A1 ++ ((mk, AV.any) :: (A3 ++ D))) := ⟨_, rfl⟩
  have hlxf : lx.map (·.1) = o0 :: l1 := by
    have e1 : l1 = l1.take (ia - 1) ++ l1.drop (ia - 1) := (List.take_append_drop _ _).symm
    have e2 : r = r.take (k - ia - 1) ++ r.drop (k - ia - 1) := (List.take_append_drop _ _).symm
    rw [hlxe]
    simp only [List.map_cons, List.map_append, f1, f3, fD]
    rw [← e2, ← hr1, ← e1]
  have llx : lx.length = (o0 :: l1).toArray.size := by have := congrArg List.length hlxf; simpa using this
  have hlx : ∀ (j : Nat) o x, lx[j]? = some (o, x) → (o0 :: l1).toArray[j]? = some o := by
    intro j o x hj
    have h1 : (lx.map (·.1))[j]? = some o := by rw [List.getElem?_map, hj]; rfl
    rw [hlxf] at h1; simpa using h1
  obtain ⟨pb, hpb⟩ : ∃ pb : QM, pb = ⟨ia, t, q.2.2, q.2.1⟩ := ⟨_, rfl⟩
  have hpia : pb.ia = ia := by rw [hpb]
  have hSP : SeqM P cx n (o0 :: l1).toArray s.H k lx s.env pb := by
    unfold SeqM
    rw [hlxe]
    refine SeqG.cons (fun h => by omega) ?_
    have e0 : putE s.env o0.dst (look s.env x) = env0 := by rw [ho0, henv0]; rfl
    rw [e0]
    refine SeqG.app (fun i o x' hi _ _ => ?_) (SeqG.cons ?_ (SeqG.app (fun i o x' hi _ _ => ?_) (fun i o x' hi _ hlt => ?_)))
    · have hlt := (List.getElem?_eq_some_iff.1 hi).1
      rw [if_neg (by omega)]
      exact S1 i o x' hi
    · intro _ _
      rw [if_pos (by omega)]
      refine ⟨by rw [hmkk], rfl, by rw [hmkk, hpb], by rw [hpb]; exact hq1, q.1, ?_, hq2⟩
      rw [hmkk, hpb]
      exact hmk
    · have hlt := (List.getElem?_eq_some_iff.1 hi).1
      rw [if_neg (by omega)]
      have := S3 i o x' hi
      simp only [hmkk, putE] at this ⊢
      exact this
    · omega
  have hsole : ∀ j o x, lx[j]? = some (o, x) → j < k → o.dst = some pb.t → j = pb.ia := by
    intro j o x' hj hjk hd'
    have h1 := List.all_eq_true.1 hso j (List.mem_range.2 hjk)
    have h2 : (o0 :: l1)[j]? = some o := by simpa using hlx j o x' hj
    have h3 : (o0 :: l1)[ia]? = some mk := by
      have : (l1.drop (ia - 1))[0]? = some mk := by rw [hr1]; rfl
      obtain ⟨ia', rfl⟩ : ∃ ia', ia = ia' + 1 := ⟨ia - 1, by omega⟩
      simpa using this
    rw [h2, h3] at h1
    simp only [Option.bind_some, hd', hpb, hmkk, beq_self_eq_true, Bool.not_true, Bool.or_false, decide_eq_true_eq] at h1
    rw [h1, hpb]
  have hD' : DrawOk (o0 :: l1).toArray lx.length := by rw [llx]; exact hD
  have hsz1 : (o0 :: l1).toArray.size = l1.length + 1 := hll
  have hoi0 : (o0 :: l1).toArray[0]? = some o0 := by simp
  have okw : Ok cx n s a { w with drawn := w.drawn + 1 } := by
    have hIw : ∀ b, imm cx w s.H b → imm cx { w with drawn := w.drawn + 1 } s.H b ∧ ({ w with drawn := w.drawn + 1 } : World).heap[b]? = w.heap[b]? := fun b hb => ⟨hb, rfl⟩
    refine ⟨ok.defers, ok.size, fun i => (ok.reps i).mono hIw, ⟨ok.world.nodup, ok.world.keys, fun x hx => (ok.world.mem x hx).mono hIw rfl, ⟨ok.world.ext.os, ok.world.ext.tape, ok.world.ext.output, ok.world.ext.size, ok.world.ext.blk⟩⟩⟩
  refine Go.wp_mono (wp_region_any (Q := fun e a' w' => e = .normal ∧ ∃ s', Q .normal s' ∧ Ok cx n s' a' w') hm ?_) (fun e a' w' he => by
    obtain ⟨rfl, s', hq, hok⟩ := he; exact ⟨s', hq, hok⟩)
  generalize ({ w with drawn := w.drawn + 1 } : World) = w1 at okw
  clear ok
  have hF' := hF
  unfold firstB at hF'
  rw [hoi0] at hF'
  simp only [Bool.and_eq_true] at hF'
  obtain ⟨hf1, hf2⟩ := hF'
  have hrep : ∀ j, (Array.replicate (o0 :: l1).toArray.size false).getD j false = false := fun j => getD_rep_false _ _
  rw [show (o0 :: l1).toArray.size = l1.length + 1 from hsz1]
  rw [hsz1] at hrep
  have hl0 : ∀ j, ((Array.replicate (l1.length + 1) false).setIfInBounds 0 true).getD j false = decide (j = 0) := by
    intro j
    by_cases hj : j = 0
    · subst hj; simp
    · rw [getD_set_ne false (Ne.symm hj), hrep]; simp [hj]
  refine wpAny_first (ops := (o0 :: l1).toArray) (i := 0) (oi := o0) (v := a.eval (.tmp x)) hoi0 (fun j o cs b hj => Region.noSelect_spec hN j o cs b hj) (fun c a w hp => by cases hp.1) l1.length _ a w1
    (fun j oj hj hj0 _ hno => ?_) (mem_ready.2 ⟨by simp, o0, hoi0, fun e he hb => ?_⟩) ?_ ?_
  · have hjs := (Array.getElem?_eq_some_iff.1 hj).1
    have := List.all_eq_true.1 hf2 j (List.mem_range.2 hjs)
    rw [hj] at this
    simp only [Bool.or_eq_true, decide_eq_true_eq] at this
    rcases this with (h | h) | h
    · exact absurd h hj0
    · obtain ⟨e, he, hb, he0⟩ := waits_spec h
      exact absurd he0 (hno e he hb)
    · exact h
  · have := Array.all_eq_true'.1 hf1 e he
    rw [hb] at this; cases this
  · refine .inl ⟨by rw [ho0]; rfl, fun w' => ?_⟩
    rw [ho0]
    simp [execOp]
  have hput : Ok cx n ⟨env0, s.H⟩ (a.put o0.dst (a.eval (.tmp x))) w1 := by
    have := okw.put (d := some d) hdn (v := a.eval (.tmp x)) (x := look s.env x) (okw.reps x)
    rw [ho0, henv0]
    exact this
  have hcl0 : Closed (o0 :: l1).toArray ((Array.replicate (l1.length + 1) false).setIfInBounds 0 true) := by
    intro j oj hj hl c hw
    rw [hl0] at hl
    have hj0 := of_decide_eq_true hl
    subst hj0
    rw [hoi0] at hj
    cases hj
    obtain ⟨e, he, hb, _⟩ := waits_spec hw
    have := Array.all_eq_true'.1 hf1 e he
    rw [hb] at this; cases this
  have henvl : ∀ f : Nat → Bool, f 0 = true → (∀ j, 0 < j → f j = false) → envL f lx 0 s.env = env0 := by
    intro f h0 h1
    rw [hlxe]
    simp only [envL, h0, if_true]
    rw [envL_none _ _ _ fun j hj => h1 j (by omega), ho0, henv0]
    rfl
  have inv0 : DInvM cx n (o0 :: l1).toArray lx s.env s.H k pb ((Array.replicate (l1.length + 1) false).setIfInBounds 0 true) (a.put o0.dst (a.eval (.tmp x))) w1 := by
    refine ⟨by simp, hcl0, by rw [hl0]; simp, fun j hj => by rw [hl0]; simp; omega, .inl ⟨by rw [hl0, hpia]; simp; omega, by simp, hcl0, fun t ht ht' => by omega, ?_⟩⟩
    rw [henvl _ (by rw [hl0]; simp) (fun j hj => by rw [hl0]; simp; omega)]
    exact hput
  have hcount : ((List.range k).filter fun i => !((Array.replicate (l1.length + 1) false).setIfInBounds 0 true).getD i false).length = k - 1 := by
    have e : (fun i => !((Array.replicate (l1.length + 1) false).setIfInBounds 0 true).getD i false) = fun i => !decide (i ≤ 0) := by funext i; rw [hl0]; simp
    rw [e]
    exact count_gt 0 k
  have := head_to (P := P) (ops := (o0 :: l1).toArray) (k := k) (R := fun e a' w' => e = .normal ∧ ∃ s', Q .normal s' ∧ Ok cx n s' a' w') (g := l1.length + 1 - k) (Inv := DInvM cx n (o0 :: l1).toArray lx s.env s.H k pb) (by omega) hD.back
    (fun li a w inv i hi hri j hj => by
      by_cases hj0 : j = 0
      · subst hj0; exact inv.zero
      · obtain ⟨_, oi, hoi, _⟩ := mem_ready.1 hri
        exact reach_of_ready inv.closed hri (hr i hi (Array.getElem?_eq_some_iff.1 hoi).1 j (by omega) (by omega)))
    (fun _ _ _ inv => inv.closed) (fun _ _ _ inv => inv.lsize)
    (fun li a w i X inv hi hik hX => dinvM_step hD' hlx hSP hsole (by omega) (by omega) inv hi hik hX)
    (fun li a w inv hall => by
      rcases inv.ph with ⟨g1, _⟩ | ⟨_, b, hfr, hb, hinv⟩
      · rw [hpia, hall ia hiak] at g1; cases g1
      · have hli : ∀ j, li.getD j false = decide (j < k) := fun j => by
          by_cases hj : j < k
          · rw [hall j hj, decide_eq_true hj]
          · rw [inv.behind j (by omega), decide_eq_false hj]
        have henv : ∀ t', look (envL (fun j => li.getD j false) lx 0 s.env) t' = look (envL (fun _ => true) A3 0 ((t, AV.any) :: envL (fun _ => true) A1 0 env0)) t' := by
          intro t'
          have e0 : putE s.env o0.dst (look s.env x) = env0 := by rw [ho0, henv0]; rfl
          rw [hlxe]
          simp only [envL, hli]
          rw [if_pos (by simp; omega), e0, envL_append, show A1 = A1 from rfl]
          simp only [envL]
          rw [show 0 + 1 + A1.length = ia by omega, if_pos (by simp; omega), envL_append, envL_none D _ _ (fun j hj => by simp; omega)]
          have e1 : envL (fun j => decide (j < k)) A1 (0 + 1) env0 = envL (fun _ => true) A1 0 env0 := by
            rw [show 0 + 1 = 1 + 0 from rfl, envL_shiftk 1 A1 0]
            exact envL_ext A1 0 _ fun j _ hj => by simp; omega
          rw [e1]
          have e2 : ∀ env, envL (fun j => decide (j < k)) A3 (ia + 1) env = envL (fun _ => true) A3 0 env := fun env => by
            rw [show ia + 1 = (ia + 1) + 0 from rfl, envL_shiftk (ia + 1) A3 0]
            exact envL_ext A3 0 _ fun j _ hj => by simp; omega
          rw [e2, hmkk]
          rfl
        have hok : Ok cx n ⟨(t, ms b 0 q.2.2 q.2.2) :: envL (fun _ => true) A3 0 ((t, AV.any) :: envL (fun _ => true) A1 0 env0), (b, q.2.1) :: s.H⟩ a w := by
          have hpm : pb.m = q.2.1 := by rw [hpb]
          have hpt : pb.t = t := by rw [hpb]
          have hpl : pb.len = q.2.2 := by rw [hpb]
          rw [hpm] at hinv
          rw [hpt, hpl] at hb
          refine ⟨hinv.ok.defers, hinv.ok.size, fun t' => ?_, hinv.ok.world⟩
          simp only [look]
          split
          · rename_i ht
            rw [ht, hb]
            exact .lit _
          · have := hinv.ok.reps t'
            simp only [henv t'] at this
            exact this
        have hK := (K3.out b).out hfr
        have hdrop : r.drop (k - ia - 1) = (o0 :: l1).drop k := by
          obtain ⟨k', rfl⟩ : ∃ k', k = k' + 1 := ⟨k - 1, by omega⟩
          rw [List.drop_succ_cons]
          have : l1.drop k' = (l1.drop (ia - 1)).drop (k' - (ia - 1)) := by rw [List.drop_drop]; congr 1; omega
          rw [this, hr1, show k' - (ia - 1) = (k' + 1 - ia - 1) + 1 by omega, List.drop_succ_cons]
        rw [hdrop] at hK
        have hwl := rvc_sound (cx := cx) _ _ hK (fun e a' w' => e = .normal ∧ ∃ s', Q .normal s' ∧ Ok cx n s' a' w') (fun s' a' w' hk ok' => ⟨rfl, s', hk, ok'⟩) a w hok
        have hdl : ((o0 :: l1).drop k).length = l1.length + 1 - k := by simp
        have := tail_to (k0 := k) hD.back (fun i hi his j hj hji => hr i hi his j (by omega) hji) ((o0 :: l1).drop k) k li a w (Nat.le_refl _) (fun j => by simp [List.getElem?_drop]) (by rw [hdl, hsz1]; omega) inv.lsize (fun j hj => hli j) hwl
        rw [hdl] at this
        exact this)
    (k - 1) _ _ _ hcount inv0
  rw [show k - 1 + (l1.length + 1 - k) = l1.length by omega] at this
  exact this
end
end Go.Proofs.Ytbkojpkdphggeaa
namespace Go.Proofs.Ytbkojpkdphggeaa
open Go
set_option linter.unusedSimpArgs false
set_option linter.unusedVariables false
section
variable {P : Program} {cx : Cx} {n : Nat} {ops : Array Oper}
def WCt (P : Program) (f : FuncId) (args : List AV) (E H0 : Hp) (post : AV → Hp → Prop) (d : Hd post := .mk) : Prop :=
  ∃ F R p, E.Perm (F ++ R) ∧ ACt P f args F p ∧ ∀ r F', p r F' → (((F' ++ R) ++ H0).map (·.1)).Nodup → post r (F' ++ R)
theorem WCt.row {f : FuncId} {args : List AV} {E H0 : Hp} {b : Nat} {m : MB} {k : IntKind} {ty : TypeId} {zs : List Int} {post : AV → Hp → Prop} (hg : hget E b = some m) (h : ACt P f args [(b, m)] (Row k ty zs))
    (hp : Nu fun b' => Nu fun cap' => Fr (zs.length ≤ cap' ∧ cap' ≤ maxLen ∧ fresh (hdel E b ++ H0) b') (post (ms b' 0 zs.length cap') ((b', .zs k zs cap' ty) :: hdel E b))) : WCt P f args E H0 post := by
  refine ⟨[(b, m)], hdel E b, _, hget_perm hg, h, ?_⟩
  rintro r F' ⟨b', cap', h1, h2, rfl, rfl⟩ hn
  exact ((hp.out b').out cap').out ⟨h1, h2, fresh_of_nodup hn⟩
theorem ACt.fz {f : FuncId} {args : List AV} {F F0 : Hp} {k : IntKind} {ty : TypeId} {zs : List Int}
    (h : ACt P f args F (fun r F' => ∃ q : {p : Nat × Nat // zs.length ≤ p.2 ∧ p.2 ≤ 9223372036854775807}, r = ms q.1.1 0 zs.length q.1.2 ∧ F' = (q.1.1, .zs k zs q.1.2 ty) :: F0)) :
    ACt P f args F (fun r F' => r = .slz k zs ∧ F' = F0) := by
  intro cx vs h1 h2 h3 h4
  refine (h cx vs h1 h2 h3 h4).mono ?_
  rintro e w' ⟨v, r, F', he, ⟨q, rfl, rfl⟩, hw, hr⟩
  have hv := hr.lit_inv
  have hp : OkW cx (F0 ++ [(q.1.1, .zs k zs q.1.2 ty)]) w' := hw.perm (List.perm_append_comm (l₁ := [(q.1.1, MB.zs k zs q.1.2 ty)]))
  obtain ⟨d1, d2⟩ := hp.drop
  refine ⟨v, _, F0, he, ⟨rfl, rfl⟩, d1, ?_⟩
  rw [hv]
  have hm := hw.mem _ (List.mem_cons_self ..)
  have hlt := hm.lt
  obtain ⟨cur, e1, e2, e3, e4⟩ := hm
  have hn := hw.nodup
  simp only [List.map_cons, List.nodup_cons] at hn
  refine .slz _ _ _ _ q.2.1 (by rw [maxLen_eq]; exact q.2.2) (.inr ⟨q.1.1, 0, rfl, .inr ⟨hw.keys _ (List.mem_cons_self ..), hlt, fun x hx he => hn.1 (List.mem_map.2 ⟨x, hx, he⟩)⟩, fun i hi => ?_⟩)
  rw [Nat.zero_add, cell_of_block e1, e4 i hi]
end
end Go.Proofs.Ytbkojpkdphggeaa
namespace Go.Proofs.Ytbkojpkdphggeaa
open Go
set_option linter.unusedSimpArgs false
set_option linter.unusedVariables false
theorem CallV.newC {P : Program} {f : FuncId} {args : List AV} {H F R : Hp} {F0 : Nat → Nat → Hp} {post : AV → Hp → Prop} {φ : Nat → Nat → Prop} {x : Nat → Nat → AV} {m : Nat → Nat → MB}
    (h : ACt P f args F (fun r F' => ∃ b c, φ b c ∧ r = x b c ∧ F' = (b, m b c) :: F0 b c)) (hP : H.Perm (F ++ R)) (hk : ∀ b c, (F0 b c).map (·.1) = F.map (·.1))
    (hp : Nu fun b => Nu fun c => Fr (φ b c ∧ fresh H b) (post (x b c) ((b, m b c) :: (F0 b c ++ R)))) : CallV P f args H post :=
  ⟨F, R, _, hP, h, fun r F' hr hn => by
    obtain ⟨b, c, e0, e1, e2⟩ := hr
    subst e1 e2
    exact ((hp.out b).out c).out ⟨e0, fresh_perm hP (hk b c) hn⟩⟩
theorem rep_frz {w : World} {I I0 : Nat → Prop} {b : Nat} {k : IntKind} {zs : List Int} {s0 ty : Nat} {v : Value} {x : AV} (hm : MOk w I0 b (.zs k zs s0 ty)) (hb : I b) (hr' : Rep w I v x) : Rep w I v (frz b k zs x) := by
  unfold frz
  split
  · rename_i b' off m cap
    split
    · rename_i he
      subst he
      split
      · rename_i hc
        obtain ⟨c1, c2, c3⟩ := hc
        have := hr'.lit_inv
        subst this
        obtain ⟨cur, d1, d2, d3, d4⟩ := hm
        have hl : ((zs.drop off).take m).length = m := by simp; omega
        have hrr : Rep w I (.slice (some ⟨b', off, none⟩) ((zs.drop off).take m).length cap) (.slz k ((zs.drop off).take m)) := by
          refine .slz _ _ _ _ (by omega) c3 (.inr ⟨b', off, rfl, hb, fun j hj => ?_⟩)
          have hj' : j < m := by omega
          rw [cell_of_block d1, d4 _ (by omega)]
          have : off + j < zs.length := by omega
          simp [List.getD, hj']
        rw [hl] at hrr
        exact hrr
      · exact .any _
    · exact hr'
  · exact hr'
theorem ACt.frm {P : Program} {f : FuncId} {args : List AV} {H F R : Hp} {p q : AV → Hp → Prop} (h : ACt P f args F p) (hP : H.Perm (F ++ R))
    (hq : ∀ r F', p r F' → ((F' ++ R).map (·.1)).Nodup → ∃ H' D, (F' ++ R).Perm (H' ++ D) ∧ q r H') : ACt P f args H q := by
  intro cx vs hK hw hs hv
  have hw1 := hw.perm hP
  have hIp : ∀ b, imm cx cx.w0 H b → imm cx cx.w0 (F ++ R) b := fun b hb => (imm_perm hP).1 hb
  have hI : ∀ b, imm cx cx.w0 H b → b < cx.w0.heap.size ∧ b ∉ F.map (·.1) := fun b hb => ⟨imm_lt hw1.ext.size hb, fun hm => by
    obtain ⟨x, hx, he⟩ := List.mem_map.1 hm
    exact imm_key hw1.keys (hIp b hb) x (List.mem_append_left _ hx) he⟩
  have hnd := hw1.nodup
  rw [List.map_append, List.nodup_append] at hnd
  have := h ⟨cx.w0, imm cx cx.w0 H, F.map (·.1), hI⟩ vs rfl ⟨hnd.1, fun x hx => .inl (List.mem_map_of_mem hx), fun x hx => (hw1.mem x (List.mem_append_left _ hx)).mono (fun b hb => ⟨.inl ((imm_perm hP).2 hb), rfl⟩) rfl,
    ⟨rfl, rfl, rfl, Nat.le_refl _, fun _ _ _ => rfl⟩⟩ hs (fun i hi => (hv i hi).mono fun b hb => ⟨.inl hb, rfl⟩)
  refine this.mono ?_
  rintro e w' ⟨v, r, F', he, hpost, hw', hr⟩
  obtain ⟨c1, c2, c3⟩ := call_frame hIp hI hw1 hw'
  obtain ⟨H', D, d1, d2⟩ := hq r F' hpost c1.nodup
  have c4 := (c1.perm d1).drop
  exact ⟨v, r, H', he, d2, c4.1, hr.mono fun b hb => ⟨c4.2 b ((imm_perm d1).1 (c3 b hb)), rfl⟩⟩
theorem WCt.updM {P : Program} {f : FuncId} {args : List AV} {E F F0 R H0 : Hp} {post : AV → Hp → Prop} {x : AV} (h : ACt P f args F (fun r F' => r = x ∧ F' = F0)) (hP : E.Perm (F ++ R)) (hp : post x (F0 ++ R)) : WCt P f args E H0 post :=
  ⟨F, R, _, hP, h, fun r F' hr _ => by obtain ⟨e1, e2⟩ := hr; subst e1 e2; exact hp⟩
theorem ACt.frzG {P : Program} {f : FuncId} {args args' : List AV} {b : Nat} {k : IntKind} {zs : List Int} {s0 ty : Nat} {F : Hp} {p : AV → Hp → Prop} (h : ACt P f args' F p) (he : args.map (Proofs.Ytbkojpkdphggeaa.frz b k zs) = args') :
    ACt P f args ((b, .zs k zs s0 ty) :: F) p := by
  intro cx vs hK hw hs hv
  subst he
  have hbl := keys_lt hw _ (List.mem_cons_self ..)
  have hnd := hw.nodup
  simp only [List.map_cons, List.nodup_cons] at hnd
  have himm : ∀ c, imm cx cx.w0 ((b, .zs k zs s0 ty) :: F) c → cx.I c := by
    rintro c (hc | ⟨h1, h2, h3⟩)
    · exact hc
    · rcases h1 with h1 | h1
      · rw [hK] at h1
        obtain ⟨x, hx, he⟩ := List.mem_map.1 h1
        exact absurd he (h3 x hx)
      · omega
  have hI : ∀ c, (cx.I c ∨ c = b) → c < cx.w0.heap.size ∧ c ∉ F.map (·.1) := by
    rintro c (hc | rfl)
    · refine ⟨(cx.hI c hc).1, fun hm => (cx.hI c hc).2 ?_⟩
      rw [hK]; exact List.mem_cons_of_mem _ hm
    · exact ⟨hbl, hnd.1⟩
  have := h ⟨cx.w0, fun c => cx.I c ∨ c = b, F.map (·.1), hI⟩ vs rfl
    ⟨hnd.2, fun x hx => .inl (List.mem_map_of_mem hx), fun x hx => (hw.mem x (List.mem_cons_of_mem _ hx)).mono (fun c hc => ⟨.inl (.inl (himm c hc)), rfl⟩) rfl, ⟨rfl, rfl, rfl, Nat.le_refl _, fun _ _ _ => rfl⟩⟩
    (by simpa using hs) (fun i hi => by
      have hi' : i < args.length := by simpa using hi
      have := rep_frz (hw.mem _ (List.mem_cons_self ..)) (I := fun c => cx.I c ∨ c = b) (.inr rfl) ((hv i hi').mono fun c hc => ⟨.inl hc, rfl⟩)
      simpa [List.getD, List.getElem?_map, hi'] using this)
  refine this.mono ?_
  rintro e w' ⟨v, r, F', he, hp, hw', hr⟩
  have e1 := hw.ext
  have e2 := hw'.ext
  have hsz : cx.w0.heap.size ≤ w'.heap.size := e2.size
  have hkey : ∀ x ∈ F', x.1 ∈ cx.K ∨ cx.w0.heap.size ≤ x.1 := fun x hx => by
    rcases hw'.keys x hx with h | h
    · exact .inl (by rw [hK]; exact List.mem_cons_of_mem _ h)
    · exact .inr h
  have hbF : ∀ x ∈ F', x.1 ≠ b := fun x hx he => by
    rcases hw'.keys x hx with h | h
    · exact hnd.1 (he ▸ h)
    · simp only at h; omega
  have hIm : ∀ c, imm ⟨cx.w0, fun c => cx.I c ∨ c = b, F.map (·.1), hI⟩ w' F' c → imm cx w' F' c := by
    rintro c ((hc | rfl) | ⟨h1, h2, h3⟩)
    · exact .inl hc
    · exact .inr ⟨.inl (by rw [hK]; exact List.mem_cons_self ..), by omega, hbF⟩
    · refine .inr ⟨?_, h2, h3⟩
      rcases h1 with h1 | h1
      · exact .inl (by rw [hK]; exact List.mem_cons_of_mem _ h1)
      · exact .inr h1
  refine ⟨v, r, F', he, hp, ⟨hw'.nodup, hkey, fun x hx => (hw'.mem x hx).mono (fun c hc => ⟨hIm c hc, rfl⟩) rfl, ?_⟩, hr.mono fun c hc => ⟨hIm c hc, rfl⟩⟩
  exact ⟨e2.os.trans e1.os, e2.tape.trans e1.tape, e2.output.trans e1.output, Nat.le_trans e1.size e2.size, fun c hc hk => (e2.blk c hc (fun hm => hk (by rw [hK]; exact List.mem_cons_of_mem _ hm))).trans (e1.blk c hc hk)⟩
theorem CallV.frzE {P : Program} {f : FuncId} {args args' : List AV} {H F R : Hp} {post : AV → Hp → Prop} {Γ : Type} {x : Γ → AV} {m : Γ → Hp} (b : Nat) {k : IntKind} {zs : List Int} {s0 ty : Nat} (hg : hget H b = some (.zs k zs s0 ty))
    (h : ACt P f args' F (fun r F' => ∃ g, r = x g ∧ F' = m g)) (he : args.map (Proofs.Ytbkojpkdphggeaa.frz b k zs) = args') (hP : (hdel H b).Perm (F ++ R)) (hp : ∀ g, post (x g) (m g ++ R)) : CallV P f args H post :=
  ⟨(b, .zs k zs s0 ty) :: F, R, _, (hget_perm hg).trans (List.Perm.cons _ hP), h.frzG he, fun r F' hr _ => by obtain ⟨g, e1, e2⟩ := hr; subst e1 e2; exact hp g⟩
section
variable {P : Program} {cx : Cx} {n : Nat} {ops : Array Oper} {H : Hp}
theorem WCt.exM {f : FuncId} {args : List AV} {E F R H0 : Hp} {post : AV → Hp → Prop} {Γ : Type} {x : Γ → AV} {m : Γ → Hp} (h : ACt P f args F (fun r F' => ∃ g, r = x g ∧ F' = m g)) (hP : E.Perm (F ++ R)) (hp : ∀ g, post (x g) (m g ++ R)) : WCt P f args E H0 post :=
  ⟨F, R, _, hP, h, fun r F' hr _ => by obtain ⟨g, e1, e2⟩ := hr; subst e1 e2; exact hp g⟩
end
end Go.Proofs.Ytbkojpkdphggeaa
namespace Go.Proofs.Ytbkojpkdphggeaa
open Go
set_option linter.unusedSimpArgs false
set_option linter.unusedVariables false
def TabOk (w : World) (x : Nat × MB) : Prop := ∃ (k : IntKind) (zs : List Int) (ty : TypeId) (cur : Array Value), x.2 = .zs k zs zs.length ty ∧ w.heap[x.1]? = some (.cells cur ty (0, 0)) ∧ cur.toList = zs.map (Value.int k)
theorem TabOk.same {w w' : World} {I : Nat → Prop} {x : Nat × MB} (h : TabOk w x) (h' : MOk w' I x.1 x.2) : w'.heap[x.1]? = w.heap[x.1]? := by
  obtain ⟨k, zs, ty, cur, e1, e2, e3⟩ := h
  rw [e1] at h'
  obtain ⟨cur', c1, c2, c3, c4⟩ := h'
  have hs : cur.size = zs.length := by have := congrArg List.length e3; simpa using this
  rw [e2, c1]
  have : cur' = cur := by
    apply Array.ext' 
    apply List.ext_getElem?
    intro i
    by_cases hi : i < zs.length
    · rw [Array.getElem?_toList, c4 i hi, e3]; simp [List.getD, hi]
    · rw [List.getElem?_eq_none (by simp; omega), List.getElem?_eq_none (by simp; omega)]
  rw [this]
end Go.Proofs.Ytbkojpkdphggeaa
namespace Go.Proofs.Ytbkojpkdphggeaa
open Go
set_option linter.unusedVariables false
set_option linter.unusedSimpArgs false
abbrev stz (zs : List Int) : AV := .lit (.string (bstr zs))
theorem bstr_size (zs : List Int) : (bstr zs).size = zs.length := by simp [bstr, ByteArray.size]
def By (zs : List Int) : Prop := ∀ i, i < zs.length → 0 ≤ zs.getD i 0 ∧ zs.getD i 0 ≤ 255
theorem bstr_get {zs : List Int} (hb : By zs) {i : Nat} (h : i < zs.length) : (((bstr zs).get! i).toNat : Int) = zs.getD i 0 := by
  have hb := hb i h
  have e : (bstr zs).get! i = UInt8.ofNat (zs.getD i 0).toNat := by
    unfold bstr
    show (Array.mk _)[i]! = _
    rw [getElem!_pos _ _ (by simpa using h)]
    simp [List.getD_eq_getElem?_getD, List.getElem?_eq_getElem h]
  rw [e]
  have : (UInt8.ofNat (zs.getD i 0).toNat).toNat = (zs.getD i 0).toNat := by rw [UInt8.toNat_ofNat']; exact Nat.mod_eq_of_lt (by omega)
  rw [this]
  omega
theorem dec_lo {zs : List Int} (hb : By zs) {i : Nat} (h : i < zs.length) (hl : zs.getD i 0 < 128) : Utf8.decode (bstr zs) i = ((zs.getD i 0).toNat, 1) := by
  have hg := bstr_get hb h
  unfold Utf8.decode
  simp only [Nat.add_zero]
  rw [if_pos (by omega)]
  congr 1
  omega
theorem By.drop {zs : List Int} (h : By zs) (k : Nat) : By (zs.drop k) := fun i hi => by
  rw [List.length_drop] at hi
  have := h (k + i) (by omega)
  simpa [List.getD_eq_getElem?_getD, List.getElem?_drop] using this
end Go.Proofs.Ytbkojpkdphggeaa
