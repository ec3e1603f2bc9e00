/-
  The walks and the laws that the statement leans on, part 7.
-/
import Derived.ChangeReads
import Derived.Laws.Externs
import Derived.Test.YtdkkfgcdnojmaaaDoorProg
import Derived.Test.YtdkkfgcdnojmaaaDoorG6
namespace Go.Proofs.YtdkkfgcdnojmaaaDoor
open Go
set_option linter.unusedSimpArgs false
set_option linter.unusedVariables false
def clA : AV → Bool
  | .lit _ => true
  | .any => true
  | .agg cs => clL cs
  | .tup cs => clL cs
  | .ifc _ x => clA x
  | _ => false
where clL : List AV → Bool
  | [] => true
  | x :: r => clA x && clL r
theorem clL_get : ∀ {cs : List AV} (i : Nat) (hi : i < cs.length), clA.clL cs = true → clA cs[i] = true
  | x :: r, 0, _, h => by simp only [clA.clL, Bool.and_eq_true] at h; exact h.1
  | x :: r, i + 1, hi, h => by
    simp only [clA.clL, Bool.and_eq_true] at h
    exact clL_get (cs := r) i (by simpa using hi) h.2
theorem Rep.closed {w w' : World} {I I' : Nat → Prop} {v : Value} {x : AV} (h : Rep w I v x) : clA x = true → Rep w' I' v x := by
  induction h with
  | any v => exact fun _ => .any v
  | lit v => exact fun _ => .lit v
  | sl a n cap cs g hn hm h _ ih => intro hc; simp [clA] at hc
  | slz a k zs cap hn hm h => intro hc; simp [clA] at hc
  | ip ad cs g h _ ih => intro hc; simp [clA] at hc
  | ipz ad k zs h => intro hc; simp [clA] at hc
  | agg vs cs hs _ ih => exact fun hc => .agg vs cs hs fun i hi => ih i hi (clL_get i hi (by simpa [clA] using hc))
  | tup vs cs hs _ ih => exact fun hc => .tup vs cs hs fun i hi => ih i hi (clL_get i hi (by simpa [clA] using hc))
  | ifc t v x _ ih => exact fun hc => .ifc t v x (ih (by simpa [clA] using hc))
  | gdt v x _ ih => intro hc; simp [clA] at hc
  | gdf x => intro hc; simp [clA] at hc
theorem hget_perm {b : Nat} {m : MB} : ∀ {H : Hp}, hget H b = some m → H.Perm ([(b, m)] ++ hdel H b)
  | [], h => by cases h
  | (b0, m0) :: r, h => by
    simp only [hget, hdel] at h ⊢
    split at h
    · rename_i he; subst he; cases h; simp
    · rename_i he
      rw [if_neg he]
      have := hget_perm (H := r) h
      exact (List.Perm.cons _ this).trans (List.Perm.swap ..)
/-! ## Views -/
inductive Vw (H : Hp) : AV → AV → Prop
  | same (x : AV) : Vw H x x
  | row {b off n cap sz ty : Nat} {k : IntKind} {zs : List Int} (hg : hget H b = some (.zs k zs sz ty)) (h1 : off + n ≤ zs.length) (h2 : n ≤ cap) (h3 : cap ≤ maxLen) :
      Vw H (ms b off n cap) (.slz k ((zs.drop off).take n))
  | rowc {b off n cap sz ty : Nat} {cs ds : List AV} (hg : hget H b = some (.cells cs sz ty)) (h1 : off + ds.length ≤ cs.length) (h2 : n ≤ cap) (h3 : cap ≤ maxLen)
      (h : ∀ i (hi : i < ds.length), Vw H (cs.getD (off + i) .any) ds[i]) : Vw H (ms b off n cap) (.sl n ds)
  | ptc {b off sz ty : Nat} {cs ds : List AV} (hg : hget H b = some (.cells cs sz ty)) (h1 : off + ds.length ≤ cs.length)
      (h : ∀ i (hi : i < ds.length), Vw H (cs.getD (off + i) .any) ds[i]) : Vw H (pt b off) (.ip ds)
  | ptz {b off sz ty : Nat} {k : IntKind} {zs : List Int} (hg : hget H b = some (.zs k zs sz ty)) (h1 : off ≤ zs.length) : Vw H (pt b off) (.ipz k (zs.drop off))
  | agg {cs ds : List AV} (hl : ds.length = cs.length) (h : ∀ i (hi : i < ds.length), Vw H (cs.getD i .any) ds[i]) : Vw H (.agg cs) (.agg ds)
  | ifc {t : TypeId} {x y : AV} (h : Vw H x y) : Vw H (.ifc t x) (.ifc t y)
  | nils : Vw H (.lit (.slice none 0 0)) (.sl 0 [])
theorem Vw.rep {cx : Cx} {H : Hp} {w : World} {I' : Nat → Prop} (hw : OkW cx H w) (hlt : ∀ b, imm cx w H b → I' b) (hk : ∀ x ∈ H, I' x.1) {x y : AV} (h : Vw H x y) : ∀ {v : Value}, Rep w (imm cx w H) v x → Rep w I' v y := by
  induction h with
  | same x => exact fun hv => hv.mono fun b hb => ⟨hlt b hb, rfl⟩
  | @row b off n cap sz ty k zs hg h1 h2 h3 =>
    intro v hv
    have := hv.lit_inv; subst this
    obtain ⟨cur, c1, c2, c3, c4⟩ := hw.mem _ (hget_mem hg)
    have e : ((zs.drop off).take n).length = n := by simp; omega
    have : Rep w I' (.slice (some ⟨b, off, none⟩) ((zs.drop off).take n).length cap) (.slz k ((zs.drop off).take n)) := by
      refine .slz _ _ _ _ (by omega) h3 (.inr ⟨b, off, rfl, hk _ (hget_mem hg), fun i hi => ?_⟩)
      rw [e] at hi
      rw [cell_of_block c1, c4 _ (by omega)]
      simp [List.getD, List.getElem?_take, List.getElem?_drop, hi]
    rw [e] at this
    exact this
  | @rowc b off n cap sz ty cs ds hg h1 h2 h3 h ih =>
    intro v hv
    have := hv.lit_inv; subst this
    obtain ⟨cur, c1, c2, c3, c4⟩ := hw.mem _ (hget_mem hg)
    refine .sl _ _ _ _ (fun i => cur.getD (off + i) undef) h2 h3 (.inr ⟨b, off, rfl, hk _ (hget_mem hg), fun i hi => ?_⟩) fun i hi => ih i hi ?_
    · rw [cell_of_block c1]
      have : off + i < cur.size := by omega
      simp [this]
    · have h4 := c4 (off + i) (by omega)
      have : cs.getD (off + i) .any = cs[off + i]'(by omega) := by simp [List.getD, show off + i < cs.length by omega]
      rw [this]
      exact h4
  | @ptc b off sz ty cs ds hg h1 h ih =>
    intro v hv
    have := hv.lit_inv; subst this
    obtain ⟨cur, c1, c2, c3, c4⟩ := hw.mem _ (hget_mem hg)
    refine .ip _ _ (fun i => cur.getD (off + i) undef) (.inr ⟨b, off, rfl, hk _ (hget_mem hg), fun i hi => ?_⟩) fun i hi => ih i hi ?_
    · rw [cell_of_block c1]
      have : off + i < cur.size := by omega
      simp [this]
    · have h4 := c4 (off + i) (by omega)
      have : cs.getD (off + i) .any = cs[off + i]'(by omega) := by simp [List.getD, show off + i < cs.length by omega]
      rw [this]
      exact h4
  | @ptz b off sz ty k zs hg h1 =>
    intro v hv
    have := hv.lit_inv; subst this
    obtain ⟨cur, c1, c2, c3, c4⟩ := hw.mem _ (hget_mem hg)
    refine .ipz _ _ _ (.inr ⟨b, off, rfl, hk _ (hget_mem hg), fun i hi => ?_⟩)
    simp only [List.length_drop] at hi
    rw [cell_of_block c1, c4 _ (by omega)]
    simp [List.getD, List.getElem?_drop]
  | @agg cs ds hl h ih =>
    intro v hv
    cases hv with
    | agg vs cs hs r =>
      refine .agg vs ds (by omega) fun i hi => ih i hi ?_
      have hic : i < cs.length := by omega
      have : cs.getD i .any = cs[i] := by simp [List.getD, hic]
      rw [this]
      exact r i hic
  | ifc h ih =>
    intro v hv
    cases hv with
    | ifc t v x r => exact .ifc _ _ _ (ih r)
  | nils =>
    intro v hv
    have := hv.lit_inv; subst this
    exact .sl none 0 0 [] (fun _ => undef) (Nat.le_refl _) (Nat.zero_le _) (.inl rfl) (fun i hi => by simp at hi)
def VwL (H : Hp) : List AV → List AV → Prop
  | [], [] => True
  | x :: r, y :: s => Vw H x y ∧ VwL H r s
  | _, _ => False
theorem VwL.length {H : Hp} : ∀ {l m : List AV}, VwL H l m → m.length = l.length
  | [], [], _ => rfl
  | x :: r, y :: s, h => by simp [VwL.length h.2]
  | [], y :: s, h => h.elim
  | x :: r, [], h => h.elim
theorem VwL.get {H : Hp} : ∀ {l m : List AV}, VwL H l m → ∀ i, i < l.length → Vw H (l.getD i .any) (m.getD i .any)
  | x :: r, y :: s, h, 0, _ => by simpa using h.1
  | x :: r, y :: s, h, i + 1, hi => by simpa using VwL.get h.2 i (by simpa using hi)
  | [], [], _, i, hi => by simp at hi
  | [], y :: s, h, _, _ => h.elim
  | x :: r, [], h, _, _ => h.elim
theorem ACt.frz {P : Program} {f : FuncId} {args args' : List AV} {b : Nat} {m : MB} {p : AV → Prop} (h : ACt P f args' [] (fun r F' => p r ∧ F' = [])) (hv : VwL [(b, m)] args args') :
    ACt P f args [(b, m)] (fun r F' => p r ∧ F' = []) := by
  intro cx vs hK hw hs hr
  have hlen := hv.length
  have hbl := keys_lt hw (b, m) (List.mem_cons_self ..)
  have hKb : cx.K = [b] := by rw [hK]; rfl
  have himm : ∀ c, imm cx cx.w0 [(b, m)] c → cx.I c := by
    rintro c (hc | ⟨h1, h2, h3⟩)
    · exact hc
    · have := h3 (b, m) (List.mem_cons_self ..)
      rcases h1 with h1 | h1
      · rw [hKb] at h1; simp at h1; exact absurd h1.symm this
      · omega
  have := h ⟨cx.w0, fun c => cx.I c ∨ c = b, [], fun c hc => ⟨by rcases hc with hc | rfl; exact (cx.hI c hc).1; exact hbl, by simp⟩⟩ vs rfl ⟨by simp, fun x hx => by simp at hx, fun x hx => by simp at hx, ⟨rfl, rfl, rfl, Nat.le_refl _, fun _ _ _ => rfl⟩⟩
    (by omega) (fun i hi => by
      have hi' : i < args.length := by omega
      exact (hv.get i hi').rep hw (fun c hc => .inl (himm c hc)) (fun x hx => by simp at hx; subst hx; exact .inr rfl) ((hr i hi').mono fun c hc => ⟨.inl hc, rfl⟩))
  refine this.mono ?_
  rintro e w' ⟨v, r, F', rfl, ⟨hp, rfl⟩, hw', hrep⟩
  have e1 := hw.ext
  have e2 := hw'.ext
  refine ⟨v, r, [], rfl, ⟨hp, rfl⟩, ⟨by simp, fun x hx => by simp at hx, fun x hx => by simp at hx, ?_⟩, hrep.mono fun c hc => ⟨?_, rfl⟩⟩
  · exact ⟨e2.os.trans e1.os, e2.tape.trans e1.tape, e2.output.trans e1.output, Nat.le_trans e1.size e2.size, fun c hc hk => (e2.blk c hc (by simp)).trans (e1.blk c hc hk)⟩
  · have hsz : cx.w0.heap.size ≤ w'.heap.size := e2.size
    rcases hc with (hc | rfl) | ⟨h1, h2, h3⟩
    · exact .inl hc
    · exact .inr ⟨.inl (by rw [hKb]; simp), by omega, fun x hx => by simp at hx⟩
    · rcases h1 with h1 | h1
      · simp at h1
      · exact .inr ⟨.inr h1, h2, fun x hx => by simp at hx⟩
theorem CallV.frz {P : Program} {f : FuncId} {args args' : List AV} {H : Hp} {x : AV} {post : AV → Hp → Prop} {m : MB} (b : Nat) (hg : hget H b = some m) (h : ACt P f args' [] (Fn x)) (hv : VwL [(b, m)] args args')
    (hp : post x (hdel H b)) : CallV P f args H post := by
  refine ⟨[(b, m)], hdel H b, _, hget_perm hg, h.frz (p := fun r => r = x) hv, ?_⟩
  rintro r F' ⟨rfl, rfl⟩ hn
  exact hp
/-! ## Rows of integers that a callee hands back, ours -/
def Row (k : IntKind) (ty : TypeId) (zs : List Int) (r : AV) (F' : Hp) : Prop :=
  ∃ b' cap', zs.length ≤ cap' ∧ cap' ≤ maxLen ∧ r = ms b' 0 zs.length cap' ∧ F' = [(b', .zs k zs cap' ty)]
theorem fresh_of_nodup {b' : Nat} {m' : MB} {R : Hp} (h : (([(b', m')] ++ R).map (·.1)).Nodup) : fresh R b' := by
  rw [List.map_append, List.nodup_append] at h
  intro x hx
  have := h.2.2 b' (by simp) x.1 (List.mem_map_of_mem hx)
  exact ⟨fun he => this he.symm, this⟩
theorem CallV.row {P : Program} {f : FuncId} {args : List AV} {H : Hp} {b : Nat} {m : MB} {k : IntKind} {ty : TypeId} {zs : List Int} {post : AV → Hp → Prop} (hg : hget H b = some m) (h : ACt P f args [(b, m)] (Row k ty zs))
    (hp : Nu fun b' => Nu fun cap' => Fr (zs.length ≤ cap' ∧ cap' ≤ maxLen ∧ fresh (hdel H b) b') (post (ms b' 0 zs.length cap') ((b', .zs k zs cap' ty) :: hdel H b))) : CallV P f args H post := by
  refine ⟨[(b, m)], hdel H b, _, hget_perm hg, h, ?_⟩
  rintro r F' ⟨b', cap', h1, h2, rfl, rfl⟩ hn
  exact ((hp.out b').out cap').out ⟨h1, h2, fresh_of_nodup hn⟩
/-! ## Weakenings -/
theorem Wk.slot {env env' : List (Nat × AV)} {H : Hp} (h : ∀ i (w : World) (I : Nat → Prop) v, Rep w I v (look env i) → Rep w I v (look env' i)) : Wk ⟨env, H⟩ ⟨env', H⟩ :=
  fun cx n a w ok => ⟨ok.defers, ok.size, fun i => h i w _ _ (ok.reps i), ok.world⟩
theorem Rep.nilz {w : World} {I : Nat → Prop} {v : Value} {k : IntKind} (h : Rep w I v (.lit (.slice none 0 0))) : Rep w I v (.slz k []) := by
  have := h.lit_inv; subst this
  exact .slz none k [] 0 (by simp) (by simp) (.inl rfl)
theorem Rep.nils {w : World} {I : Nat → Prop} {v : Value} (h : Rep w I v (.lit (.slice none 0 0))) : Rep w I v (.sl 0 []) := by
  have := h.lit_inv; subst this
  exact .sl none 0 0 [] (fun _ => undef) (by simp) (by simp) (.inl rfl) (fun i hi => by simp at hi)
theorem Wk.cons {env : List (Nat × AV)} {H : Hp} {i : Nat} {x y : AV} (hl : look env i = x) (h : ∀ (w : World) (I : Nat → Prop) v, Rep w I v x → Rep w I v y) : Wk ⟨env, H⟩ ⟨(i, y) :: env, H⟩ :=
  Wk.slot fun j w I v hv => by
    simp only [look]
    split
    · rename_i hj; subst hj; rw [hl] at hv; exact h w I v hv
    · exact hv
theorem Wk.trans {s t u : St} (h1 : Wk s t) (h2 : Wk t u) : Wk s u := fun cx n a w ok => h2 cx n a w (h1 cx n a w ok)
def VwC (H : Hp) : List AV → List AV → Prop
  | _, [] => True
  | [], _ :: _ => False
  | x :: r, y :: s => Vw H x y ∧ VwC H r s
theorem VwC.get {H : Hp} : ∀ {l m : List AV}, VwC H l m → m.length ≤ l.length ∧ ∀ i (hi : i < m.length), Vw H (l.getD i .any) m[i]
  | _, [], _ => ⟨by simp, fun i hi => by simp at hi⟩
  | [], y :: s, h => h.elim
  | x :: r, y :: s, h => by
    obtain ⟨h1, h2⟩ := VwC.get h.2
    refine ⟨by simp; omega, fun i hi => ?_⟩
    cases i with
    | zero => simpa using h.1
    | succ i => simpa using h2 i (by simpa using hi)
theorem VwC.refl {H : Hp} : ∀ l : List AV, VwC H l l
  | [] => trivial
  | x :: r => ⟨.same x, VwC.refl r⟩
/-! ## Blocks, picked out -/
def pickB : Hp → Hp → Prop
  | _, [] => True
  | H, (b, m) :: r => hget H b = some m ∧ pickB (hdel H b) r
theorem pickB.perm : ∀ {H' H : Hp}, pickB H H' → ∃ R, H.Perm (H' ++ R)
  | [], H, _ => ⟨H, by simp⟩
  | (b, m) :: r, H, h => by
    obtain ⟨R, hR⟩ := pickB.perm h.2
    exact ⟨R, (hget_perm h.1).trans (by simpa using hR)⟩
theorem Sub.pick {env env' : List (Nat × AV)} {H H' : Hp} (hH : pickB H H') (h : ∀ p ∈ env', look env p.1 = p.2) : Sub ⟨env, H⟩ ⟨env', H'⟩ := by
  obtain ⟨R, hR⟩ := hH.perm
  exact Sub.of_env R hR h
/-! ## Ways out -/
theorem OutQ.row {P : Program} {rs : List ResultVar} {s : St} {k : IntKind} {ty : TypeId} {zs zs' : List Int} {b' n cap' : Nat} (h1 : (resv P s.H s.env rs).1) (h2 : resA (resv P s.H s.env rs).2 = ms b' 0 n cap')
    (hg : hget s.H b' = some (.zs k zs' cap' ty)) (hz : zs' = zs) (hn : zs.length = n) (hc1 : n ≤ cap') (hc2 : cap' ≤ maxLen) : OutQ P rs (Row k ty zs) s := by
  subst hz
  refine OutQ.drop [(b', .zs k zs' cap' ty)] (hdel s.H b') (hget_perm hg) h1 ⟨b', cap', by omega, hc2, ?_, rfl⟩
  rw [h2, hn]
theorem OutQ.fz {P : Program} {t : Tmp} {s : St} {k : IntKind} {ty s0 : TypeId} {zs zs' : List Int} {b n cap : Nat} (h2 : look s.env t = ms b 0 n cap)
    (hg : hget s.H b = some (.zs k zs' s0 ty)) (hz : zs' = zs) (hn : zs.length = n) (hc1 : n ≤ cap) (hc2 : cap ≤ maxLen) : OutQ P [.tmp t] (Fn (.slz k zs)) s := by
  subst hz
  refine OutQ.wk (Wk.freeze b hg) (OutQ.all trivial ?_)
  simp only [resv, resA, look_frzE, h2, frz, if_true]
  rw [if_pos ⟨by omega, hc1, hc2⟩, ← hn]
  simp [Fn]
end Go.Proofs.YtdkkfgcdnojmaaaDoor
namespace Go.Proofs.YtdkkfgcdnojmaaaDoor
open Go
set_option linter.unusedSimpArgs false
set_option linter.unusedVariables false
section
variable {P : Program} {cx : Cx} {n : Nat} {ops : Array Oper} {H E : Hp}
/-! ### One step, whatever it does to memory -/
/-! ### The private block -/
theorem envL_append {f : Nat → Bool} : ∀ (l1 l2 : List (Oper × AV)) (k : Nat) (env : List (Nat × AV)), envL f (l1 ++ l2) k env = envL f l2 (k + l1.length) (envL f l1 k env)
  | [], l2, k, env => by simp [envL]
  | (o, x) :: r, l2, k, env => by
    simp only [List.cons_append, envL, List.length_cons]
    rw [envL_append r l2 (k + 1)]
    congr 1
    omega
def drawF (P : Program) (n : Nat) (l : List Oper) (K : St → Prop) (ia is k : Nat) (s : St) : Prop :=
  dvc P n l.toArray (l.take ia) (fun s1 => match l.drop ia with
    | ⟨some t, .alloc T, _, _, _, none⟩ :: r => match zmb P T with
      | some m0 => t < n ∧ dvc P n l.toArray (r.take (is - ia - 1)) (fun s2 => match r.drop (is - ia - 1) with
        | ⟨none, .store T' (.tmp t') y, _, _, _, none⟩ :: q => t' = t ∧ (og s2.env y).1 ∧ (stC P T' m0 0 (og s2.env y).2).1 ∧ dvc P n l.toArray (q.take (k - is - 1)) (fun s3 =>
            newB s3.H (stC P T' m0 0 (og s2.env y).2).2 fun b H => rvc P n l.toArray (q.drop (k - is - 1)) K ⟨(t, pt b 0) :: s3.env, H⟩) s2
        | _ => False) ⟨(t, .any) :: s1.env, s1.H⟩
      | none => False
    | _ => False) s
theorem envL_ext {f g : Nat → Bool} : ∀ (l : List (Oper × AV)) (k : Nat) (env : List (Nat × AV)), (∀ j, k ≤ j → j < k + l.length → f j = g j) → envL f l k env = envL g l k env
  | [], _, _, _ => rfl
  | (o, x) :: r, k, env, h => by
    simp only [envL]
    rw [h k (Nat.le_refl _) (by simp)]
    exact envL_ext r (k + 1) _ fun j h1 h2 => h j (by omega) (by simp; omega)
theorem envL_none {f : Nat → Bool} : ∀ (l : List (Oper × AV)) (k : Nat) (env : List (Nat × AV)), (∀ j, k ≤ j → f j = false) → envL f l k env = env
  | [], _, _, _ => rfl
  | (o, x) :: r, k, env, h => by
    simp only [envL]
    rw [h k (Nat.le_refl _)]
    simp only [Bool.false_eq_true, if_false]
    exact envL_none r (k + 1) env fun j hj => h j (by omega)
theorem envL_shiftk {f : Nat → Bool} (c : Nat) : ∀ (l : List (Oper × AV)) (k : Nat) (env : List (Nat × AV)), envL f l (c + k) env = envL (fun j => f (c + j)) l k env
  | [], _, _ => rfl
  | (o, x) :: r, k, env => by simp only [envL]; exact envL_shiftk c r (k + 1) _
def SeqG (C : Nat → Oper → AV → List (Nat × AV) → Prop) (lx : List (Oper × AV)) (env : List (Nat × AV)) : Prop :=
  ∀ i o x, lx[i]? = some (o, x) → C i o x (envL (fun j => decide (j < i)) lx 0 env)
theorem SeqG.app {C : Nat → Oper → AV → List (Nat × AV) → Prop} {A B : List (Oper × AV)} {env : List (Nat × AV)} (hA : SeqG C A env) (hB : SeqG (fun i => C (A.length + i)) B (envL (fun _ => true) A 0 env)) : SeqG C (A ++ B) env := by
  intro i o x hi
  rw [envL_append]
  by_cases hlt : i < A.length
  · rw [List.getElem?_append_left hlt] at hi
    rw [envL_none B _ _ (fun j hj => by simp; omega)]
    exact hA i o x hi
  · rw [List.getElem?_append_right (by omega)] at hi
    have := hB (i - A.length) o x hi
    dsimp only at this
    rw [show A.length + (i - A.length) = i by omega] at this
    have e1 : envL (fun j => decide (j < i)) A 0 env = envL (fun _ => true) A 0 env := envL_ext A 0 env fun j _ hj => by simp; omega
    rw [e1, Nat.zero_add, show A.length = A.length + 0 from rfl, envL_shiftk A.length B 0]
    have e2 : envL (fun j => decide (A.length + j < i)) B 0 (envL (fun _ => true) A 0 env) = envL (fun j => decide (j < i - A.length)) B 0 (envL (fun _ => true) A 0 env) :=
      envL_ext B 0 _ fun j _ _ => by rw [Bool.eq_iff_iff]; simp; omega
    rw [e2]
    exact this
theorem SeqG.one {C : Nat → Oper → AV → List (Nat × AV) → Prop} {o : Oper} {x : AV} {env : List (Nat × AV)} (h : C 0 o x env) : SeqG C [(o, x)] env := by
  intro i o' x' hi
  cases i with
  | zero => simp at hi; obtain ⟨rfl, rfl⟩ := hi; simpa [envL] using h
  | succ i => simp at hi
end
end Go.Proofs.YtdkkfgcdnojmaaaDoor
namespace Go.Proofs.YtdkkfgcdnojmaaaDoor
open Go
theorem tyc0 : tyc Tryd.prog 0 = some none := by kernel_rfl
theorem tyc3 : tyc Tryd.prog 3 = some none := by kernel_rfl
theorem zmb3 : zmb Tryd.prog 3 = some (.cells [(.lit (.int .i64 0))] 1 3) := by kernel_rfl
theorem tyc4 : tyc Tryd.prog 4 = some none := by kernel_rfl
theorem zmb4 : zmb Tryd.prog 4 = some (.cells [(.lit (.bool false))] 1 4) := by kernel_rfl
theorem tyc5 : tyc Tryd.prog 5 = some none := by kernel_rfl
theorem zmb5 : zmb Tryd.prog 5 = some (.cells [(.lit (.int .u8 0))] 1 5) := by kernel_rfl
theorem tyc9 : tyc Tryd.prog 9 = some none := by kernel_rfl
theorem zmb9 : zmb Tryd.prog 9 = some (.cells [(.lit (.string ⟨#[]⟩))] 1 9) := by kernel_rfl
theorem tyc12 : tyc Tryd.prog 12 = some none := by kernel_rfl
theorem zmb12 : zmb Tryd.prog 12 = some (.cells [(.lit (.int .u64 0))] 1 12) := by kernel_rfl
theorem tyc21 : tyc Tryd.prog 21 = some none := by kernel_rfl
theorem zmb21 : zmb Tryd.prog 21 = some (.cells [(.lit (.int .i32 0))] 1 21) := by kernel_rfl
theorem tyc25 : tyc Tryd.prog 25 = some none := by kernel_rfl
theorem elt25 : elt Tryd.prog 25 = some (none, 1) := by kernel_rfl
theorem mkz25 : mkz Tryd.prog 25 = some (21, 4, .i32) := by kernel_rfl
theorem apT25 : apT Tryd.prog 25 = some (21, 1, 4) := by kernel_rfl
theorem elk25 : elk Tryd.prog 25 = (some .i32) := by kernel_rfl
theorem zmb25 : zmb Tryd.prog 25 = some (.cells [(.lit (.slice none 0 0))] 1 25) := by kernel_rfl
theorem tyc31 : tyc Tryd.prog 31 = some none := by kernel_rfl
theorem elt31 : elt Tryd.prog 31 = some (none, 1) := by kernel_rfl
theorem mkz31 : mkz Tryd.prog 31 = none := by kernel_rfl
theorem mkc31 : mkc Tryd.prog 31 = some (4, 1, 1, [(.lit (.bool false))]) := by kernel_rfl
theorem apT31 : apT Tryd.prog 31 = some (4, 1, 1) := by kernel_rfl
theorem elk31 : elk Tryd.prog 31 = none := by kernel_rfl
theorem zmb31 : zmb Tryd.prog 31 = some (.cells [(.lit (.slice none 0 0))] 1 31) := by kernel_rfl
theorem tyc33 : tyc Tryd.prog 33 = some none := by kernel_rfl
theorem zmb33 : zmb Tryd.prog 33 = some (.cells [(.lit .nilFunc)] 1 33) := by kernel_rfl
theorem elt47 : elt Tryd.prog 47 = some ((some 256), 1) := by kernel_rfl
theorem arr147 : arr1 Tryd.prog 47 = some 256 := by kernel_rfl
theorem tyc48 : tyc Tryd.prog 48 = some none := by kernel_rfl
theorem tyc51 : tyc Tryd.prog 51 = some none := by kernel_rfl
theorem zmb51 : zmb Tryd.prog 51 = some (.cells [(.lit (.pointer none))] 1 51) := by kernel_rfl
theorem tyc53 : tyc Tryd.prog 53 = some none := by kernel_rfl
theorem zmb53 : zmb Tryd.prog 53 = some (.cells [(.lit (.int .u64 0))] 1 53) := by kernel_rfl
theorem elt61 : elt Tryd.prog 61 = some ((some 256), 1) := by kernel_rfl
theorem arr161 : arr1 Tryd.prog 61 = some 256 := by kernel_rfl
theorem tyc63 : tyc Tryd.prog 63 = some (some 2) := by kernel_rfl
theorem foff63_0 : foff Tryd.prog 63 0 = some 0 := by kernel_rfl
theorem fpart63_0 : fpart Tryd.prog 63 0 = some (0, none) := by kernel_rfl
theorem foff63_1 : foff Tryd.prog 63 1 = some 1 := by kernel_rfl
theorem fpart63_1 : fpart Tryd.prog 63 1 = some (1, none) := by kernel_rfl
theorem fe63 : flatEq Tryd.prog 63 [1, 1] := flatEq_of (by kernel_rfl)
theorem zmb63 : zmb Tryd.prog 63 = some (.cells [(.lit (.int .u8 0)), (.lit (.int .u8 0))] 2 63) := by kernel_rfl
theorem bldT63 : bldT Tryd.prog 63 = some ([(.int .u8 0), (.int .u8 0)], [(0, 1), (1, 1)]) := by kernel_rfl
theorem tyc64 : tyc Tryd.prog 64 = some (some 32) := by kernel_rfl
theorem elt64 : elt Tryd.prog 64 = some ((some 16), 2) := by kernel_rfl
theorem zmb64 : zmb Tryd.prog 64 = some (.cells [(.lit (.int .u8 0)), (.lit (.int .u8 0)), (.lit (.int .u8 0)), (.lit (.int .u8 0)), (.lit (.int .u8 0)), (.lit (.int .u8 0)), (.lit (.int .u8 0)), (.lit (.int .u8 0)), (.lit (.int .u8 0)), (.lit (.int .u8 0)), (.lit (.int .u8 0)), (.lit (.int .u8 0)), (.lit (.int .u8 0)), (.lit (.int .u8 0)), (.lit (.int .u8 0)), (.lit (.int .u8 0)), (.lit (.int .u8 0)), (.lit (.int .u8 0)), (.lit (.int .u8 0)), (.lit (.int .u8 0)), (.lit (.int .u8 0)), (.lit (.int .u8 0)), (.lit (.int .u8 0)), (.lit (.int .u8 0)), (.lit (.int .u8 0)), (.lit (.int .u8 0)), (.lit (.int .u8 0)), (.lit (.int .u8 0)), (.lit (.int .u8 0)), (.lit (.int .u8 0)), (.lit (.int .u8 0)), (.lit (.int .u8 0))] 32 64) := by kernel_rfl
theorem bldT64 : bldT Tryd.prog 64 = some ([(.int .u8 0), (.int .u8 0), (.int .u8 0), (.int .u8 0), (.int .u8 0), (.int .u8 0), (.int .u8 0), (.int .u8 0), (.int .u8 0), (.int .u8 0), (.int .u8 0), (.int .u8 0), (.int .u8 0), (.int .u8 0), (.int .u8 0), (.int .u8 0), (.int .u8 0), (.int .u8 0), (.int .u8 0), (.int .u8 0), (.int .u8 0), (.int .u8 0), (.int .u8 0), (.int .u8 0), (.int .u8 0), (.int .u8 0), (.int .u8 0), (.int .u8 0), (.int .u8 0), (.int .u8 0), (.int .u8 0), (.int .u8 0)], [(0, 2), (2, 2), (4, 2), (6, 2), (8, 2), (10, 2), (12, 2), (14, 2), (16, 2), (18, 2), (20, 2), (22, 2), (24, 2), (26, 2), (28, 2), (30, 2)]) := by kernel_rfl
theorem tyc74 : tyc Tryd.prog 74 = some none := by kernel_rfl
theorem zmb74 : zmb Tryd.prog 74 = some (.cells [(.lit (.int .u64 0))] 1 74) := by kernel_rfl
theorem mixed : Tryd.prog.follows .mixedOrders = true := by kernel_rfl
end Go.Proofs.YtdkkfgcdnojmaaaDoor
namespace Go.Proofs.YtdkkfgcdnojmaaaDoor
open Go
set_option linter.unusedVariables false
set_option linter.unusedSimpArgs false
section
variable {P : Program} {cx : Cx} {n : Nat} {ops : Array Oper} {H : Hp}
def alF (P : Program) (n : Nat) (K : St → Prop) : List Oper → St → Prop
  | [], s => K s
  | o :: r, s => match o with
    | ⟨some t, .alloc T, _, _, _, none⟩ => match zmb P T with
      | some m => t < n ∧ newB s.H m fun b H => alF P n K r ⟨(t, pt b 0) :: s.env, H⟩
      | none => False
    | _ => False
def drawAF (P : Program) (n : Nat) (l : List Oper) (K : St → Prop) (p r : Nat) (s : St) : Prop :=
  dvc P n l.toArray (l.take p) (fun s1 => alF P n (fun s2 => rvc P n l.toArray (l.drop (p + r)) K s2) ((l.drop p).take r) s1) s
end
end Go.Proofs.YtdkkfgcdnojmaaaDoor
namespace Go.Proofs.YtdkkfgcdnojmaaaDoor
open Go
set_option linter.unusedSimpArgs false
set_option linter.unusedVariables false
section
variable {P : Program} {cx : Cx} {n : Nat} {ops : Array Oper} {H : Hp}
def drawSF (P : Program) (n : Nat) (l : List Oper) (K : St → Prop) (is k : Nat) (s : St) : Prop :=
  match l.drop is with
  | ⟨none, .store T a y, _, _, _, none⟩ :: q => match (og s.env a).2 with
    | .lit (.pointer (some ⟨b, off, none⟩)) => match hget s.H b with
      | some m0 => dvc P n l.toArray (l.take is) (fun s2 => (og s2.env a).1 ∧ (og s2.env a).2 = pt b off ∧ (og s2.env y).1 ∧ (stC P T m0 off (og s2.env y).2).1 ∧
          dvc P n l.toArray (q.take (k - is - 1)) (fun s3 => rvc P n l.toArray (q.drop (k - is - 1)) K ⟨s3.env, (b, (stC P T m0 off (og s2.env y).2).2) :: s3.H⟩) s2) ⟨s.env, hdel s.H b⟩
      | none => False
    | _ => False
  | _ => False
end
end Go.Proofs.YtdkkfgcdnojmaaaDoor
namespace Go.Proofs.YtdkkfgcdnojmaaaDoor
open Go
set_option linter.unusedSimpArgs false
set_option linter.unusedVariables false
section
variable {P : Program} {f : FuncId} {args : List AV} {H F F0 R : Hp} {post : AV → Hp → Prop}
theorem perm2 {b1 b2 : Nat} {m1 m2 : MB} (h1 : hget H b1 = some m1) (h2 : hget (hdel H b1) b2 = some m2) : H.Perm ([(b1, m1), (b2, m2)] ++ hdel (hdel H b1) b2) :=
  (hget_perm h1).trans (List.Perm.append_left [(b1, m1)] (hget_perm h2))
theorem DCt.updN {x : AV} (hP : H.Perm (F ++ R)) (h : ACt P f args F (fun r F' => r = x ∧ F' = F)) : DCt P f args H x :=
  ⟨F, R, _, hP, h, fun r F' hr _ => by obtain ⟨e1, e2⟩ := hr; subst e1 e2; exact ⟨rfl, hP.symm⟩⟩
theorem CallV.updN {x : AV} (hP : H.Perm (F ++ R)) (h : ACt P f args F (fun r F' => r = x ∧ F' = F0)) (hp : post x (F0 ++ R)) : CallV P f args H post :=
  ⟨F, R, _, hP, h, fun r F' hr _ => by obtain ⟨e1, e2⟩ := hr; subst e1 e2; exact hp⟩
theorem CallV.ex {Γ : Type} {x : Γ → AV} {m : Γ → Hp} (hP : H.Perm (F ++ R)) (h : ACt P f args F (fun r F' => ∃ g, r = x g ∧ F' = m g)) (hp : ∀ g, post (x g) (m g ++ R)) : CallV P f args H post :=
  ⟨F, R, _, hP, h, fun r F' hr _ => by obtain ⟨g, e1, e2⟩ := hr; subst e1 e2; exact hp g⟩
theorem ExF.up {K : AV → Prop} {x : AV} (hP : ∃ R, H.Perm (F ++ R)) (h : ACt P f args F (fun r F' => r = x ∧ F' = F)) (hk : K x) : ExF P f args H K := let ⟨_, hP⟩ := hP; ExF.on (DCt.updN hP h) hk
theorem ExG.up {c : Bool} {K : AV → Prop} {x : AV} (hP : ∃ R, H.Perm (F ++ R)) (h : c = true → ACt P f args F (fun r F' => r = x ∧ F' = F)) (hk : K x) : ExG c P f args H K := let ⟨_, hP⟩ := hP; ExG.on (fun hc => DCt.updN hP (h hc)) hk
theorem ExG.upJ {c : Bool} {K : AV → Prop} {x : AV} {q : Prop} (hP : ∃ R, H.Perm (F ++ R)) (h : c = true → ACt P f args F (fun r F' => r = x ∧ F' = F)) (hk : K x) : ExG c P f args H K ∨ q := .inl (ExG.up hP h hk)
theorem ExG.upI {c : Bool} {K : AV → Prop} {x : AV} {q ob : Prop} (hP : ∃ R, H.Perm (F ++ R)) (h : c = true → ACt P f args F (fun r F' => r = x ∧ F' = F)) (ho : ob) (hk : K x) : (ob ∧ ExG c P f args H K) ∨ q := .inl ⟨ho, ExG.up hP h hk⟩
theorem CallV.updM {f : FuncId} {args : List AV} {H F F0 R : Hp} {post : AV → Hp → Prop} {x : AV} (h : ACt P f args F (fun r F' => r = x ∧ F' = F0)) (hP : H.Perm (F ++ R)) (hp : post x (F0 ++ R)) : CallV P f args H post := CallV.updN hP h hp
end
end Go.Proofs.YtdkkfgcdnojmaaaDoor
namespace Go.Proofs.YtdkkfgcdnojmaaaDoor
open Go
set_option linter.unusedSimpArgs false
set_option linter.unusedVariables false
section
variable {P : Program} {cx : Cx} {n : Nat} {ops : Array Oper}
def ECt (P : Program) (f : FuncId) (args : List AV) (E : Hp) (x : AV) (E' : Hp) : Prop :=
  ∃ F R F0, E.Perm (F ++ R) ∧ E' = F0 ++ R ∧ F0.map (·.1) = F.map (·.1) ∧ ACt P f args F (fun r F' => r = x ∧ F' = F0)
def calleeV (env : List (Nat × AV)) : Op → Option (Prop × FuncId × List AV)
  | .call c => match c.callee with
    | .value (.func f) => some ((ogs env c.args.toList).1, f, (ogs env c.args.toList).2)
    | _ => none
  | _ => none
def ExW (P : Program) (f : FuncId) (args : List AV) (E : Hp) (K : AV → Hp → Prop) (d : Hd K := .mk) : Prop := ∃ x E', ECt P f args E x E' ∧ K x E'
theorem ExW.mk {f : FuncId} {args : List AV} {E F R F0 : Hp} {K : AV → Hp → Prop} {x : AV} (hP : E.Perm (F ++ R)) (h : ACt P f args F (fun r F' => r = x ∧ F' = F0)) (hk : F0.map (·.1) = F.map (·.1)) (hK : K x (F0 ++ R)) : ExW P f args E K :=
  ⟨x, F0 ++ R, ⟨F, R, F0, hP, rfl, hk, h⟩, hK⟩
def xst (P : Program) (ops : Array Oper) (H : Hp) (o : Oper) (env : List (Nat × AV)) (K : AV → Prop) : Prop :=
  match o.guard with
  | none => match pev P H env o.op with
    | some r => r.1 ∧ K r.2
    | none => match calleeOf P env o.op with
      | some q => q.1 ∧ ExF P q.2.1 q.2.2 H fun x => K x
      | none => False
  | some (j, want) => match gdOf env ops j want with
    | some c => match pev P H env o.op with
      | some r => (c = true → r.1) ∧ K (.gd c r.2)
      | none => match calleeOf P env o.op with
        | some q => (c = true → q.1) ∧ ExG c P q.2.1 q.2.2 H fun x => K (.gd c x)
        | none => False
    | none => False
def xvc (P : Program) (n : Nat) (ops : Array Oper) (ws ls : List Nat) (H0 : Hp) : Nat → List Oper → (List (Nat × AV) → Hp → Prop) → List (Nat × AV) → Hp → Prop
  | _, [], K, env, E => K env E
  | i, o :: rest, K, env, E => okd n o.dst ∧
    if i ∈ ws then o.guard = none ∧ match o.op with
      | .store T ad y => match (og env ad).2 with
        | .lit (.pointer (some ⟨b, off, none⟩)) => match hget E b with
          | some m => (og env ad).1 ∧ (og env y).1 ∧ (stC P T m off (og env y).2).1 ∧ xvc P n ops ws ls H0 (i + 1) rest K (putE env o.dst (.lit undef)) (hset E b (stC P T m off (og env y).2).2)
          | none => False
        | _ => False
      | _ => match calleeV env o.op with
        | some q => q.1 ∧ ExW P q.2.1 q.2.2 E fun x E' => xvc P n ops ws ls H0 (i + 1) rest K (putE env o.dst x) E'
        | none => False
    else xst P ops (if i ∈ ls then E ++ H0 else H0) o env fun x => xvc P n ops ws ls H0 (i + 1) rest K (putE env o.dst x) E
theorem SeqG.cons {C : Nat → Oper → AV → List (Nat × AV) → Prop} {o : Oper} {x : AV} {r : List (Oper × AV)} {env : List (Nat × AV)} (h0 : C 0 o x env) (h : SeqG (fun i => C (i + 1)) r (putE env o.dst x)) : SeqG C ((o, x) :: r) env := by
  have := SeqG.app (C := C) (A := [(o, x)]) (B := r) (env := env) (SeqG.one h0) (by
    simp only [envL, if_true, List.length_cons, List.length_nil]
    have e : (fun i => C (0 + 1 + i)) = fun i => C (i + 1) := by funext i; rw [show 0 + 1 + i = i + 1 by omega]
    rw [e]; exact h)
  exact this
/-! ### The order -/
/-! ### Ahead of the parting, the parting, behind it -/
theorem Stdy.congr {o : Oper} {env env' : List (Nat × AV)} {H : Hp} {x : AV} (h : ∀ t, look env t = look env' t) (hS : Stdy P cx n ops o env H x) : Stdy P cx n ops o env' H x :=
  ⟨hS.1, fun a w X R h1 h2 h3 h4 h5 => hS.2 a w X R h1 h2 h3 (fun t ht => by rw [h t]; exact h4 t ht) h5⟩
def splitH : List Nat → Hp → Option (Hp × Hp)
  | [], H => some ([], H)
  | b :: bs, H => match hget H b with
    | some m => match splitH bs (hdel H b) with
      | some q => some ((b, m) :: q.1, q.2)
      | none => none
    | none => none
def drawCF (P : Program) (n : Nat) (l : List Oper) (K : St → Prop) (c : Nat) (ws ls bs : List Nat) (s : St) : Prop :=
  match splitH bs s.H with
  | some q => xvc P n l.toArray ws ls q.2 0 (l.take c) (fun env E => match l.drop c with
    | o :: r => okd n o.dst ∧ o.guard = none ∧ eff P o (fun s' => dvc P n l.toArray r K s') ⟨env, E ++ q.2⟩
    | [] => False) s.env q.1
  | none => False
end
end Go.Proofs.YtdkkfgcdnojmaaaDoor
namespace Go.Proofs.YtdkkfgcdnojmaaaDoor
open Go
set_option linter.unusedSimpArgs false
set_option linter.unusedVariables false
section
variable {P : Program} {cx : Cx} {n : Nat} {ops : Array Oper} {H : Hp}
def mkS (P : Program) (env : List (Nat × AV)) : Op → Option (Prop × MB × Nat)
  | .buildSlice T len parts => match apT P T with
    | some (e, sz, _) => match fillA (plN sz len 0) (List.replicate (len * sz) .any) (ogp env parts.toList).2 with
      | some cs => some ((ogp env parts.toList).1 ∧ len * sz ≤ 16777216, rowMB (elk P T) cs (len * sz) e, len)
      | none => none
    | none => none
  | _ => none
def drawMF (P : Program) (n : Nat) (l : List Oper) (K : St → Prop) (ia k : Nat) (s : St) : Prop :=
  match l with
  | ⟨some d, .move (.tmp x), _, _, _, none⟩ :: l1 => d < n ∧ dvc P n l.toArray (l1.take (ia - 1)) (fun s1 => match l1.drop (ia - 1) with
    | ⟨some t, op, _, _, _, none⟩ :: r => match mkS P s1.env op with
      | some q => t < n ∧ q.1 ∧ dvc P n l.toArray (r.take (k - ia - 1)) (fun s3 => newB s3.H q.2.1 fun b H => rvc P n l.toArray (r.drop (k - ia - 1)) K ⟨(t, ms b 0 q.2.2 q.2.2) :: s3.env, H⟩) ⟨(t, .any) :: s1.env, s1.H⟩
      | none => False
    | _ => False) ⟨(d, look s.env x) :: s.env, s.H⟩
  | _ => False
end
end Go.Proofs.YtdkkfgcdnojmaaaDoor
