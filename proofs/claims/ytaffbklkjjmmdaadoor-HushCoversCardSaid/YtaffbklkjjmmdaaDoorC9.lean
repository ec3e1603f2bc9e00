/-
  The walks and the laws that the statement leans on, part 9.
-/
import Derived.LaidMore
import Derived.OpenShut
import Derived.MakeChecks
import Derived.Test.YtaffbklkjjmmdaaDoorC8
namespace Go.Proofs.YtaffbklkjjmmdaaDoor
open Go
set_option linter.unusedSimpArgs false
set_option linter.unusedVariables false
section
variable {P : Program} {cx : Cx} {n : Nat} {ops : Array Oper}
def WCt (P : Program) (f : FuncId) (args : List AV) (E H0 : Hp) (post : AV → Hp → Prop) (d : Hd post := .mk) : Prop :=
  ∃ F R p, E.Perm (F ++ R) ∧ ACt P f args F p ∧ ∀ r F', p r F' → (((F' ++ R) ++ H0).map (·.1)).Nodup → post r (F' ++ R)
def drawWF (P : Program) (n : Nat) (l : List Oper) (K : St → Prop) (c k : Nat) (bs : List Nat) (s : St) : Prop :=
  match splitH bs s.H with
  | some q => dvc P n l.toArray (l.take c) (fun s1 => match l.drop c with
    | ⟨some t, op, _, _, _, none⟩ :: r => t < n ∧ match calleeV s1.env op with
      | some g => g.1 ∧ dvc P n l.toArray (r.take (k - c - 1)) (fun s3 => WCt P g.2.1 g.2.2 q.1 q.2 fun x E' => rvc P n l.toArray (r.drop (k - c - 1)) K ⟨(t, x) :: s3.env, E' ++ q.2⟩) ⟨(t, .any) :: s1.env, s1.H⟩
      | none => False
    | _ => False) ⟨s.env, q.2⟩
  | none => False
theorem WCt.row {f : FuncId} {args : List AV} {E H0 : Hp} {b : Nat} {m : MB} {k : IntKind} {ty : TypeId} {zs : List Int} {post : AV → Hp → Prop} (hg : hget E b = some m) (h : ACt P f args [(b, m)] (Row k ty zs))
    (hp : Nu fun b' => Nu fun cap' => Fr (zs.length ≤ cap' ∧ cap' ≤ maxLen ∧ fresh (hdel E b ++ H0) b') (post (ms b' 0 zs.length cap') ((b', .zs k zs cap' ty) :: hdel E b))) : WCt P f args E H0 post := by
  refine ⟨[(b, m)], hdel E b, _, hget_perm hg, h, ?_⟩
  rintro r F' ⟨b', cap', h1, h2, rfl, rfl⟩ hn
  exact ((hp.out b').out cap').out ⟨h1, h2, fresh_of_nodup hn⟩
theorem ACt.fz {f : FuncId} {args : List AV} {F F0 : Hp} {k : IntKind} {ty : TypeId} {zs : List Int}
    (h : ACt P f args F (fun r F' => ∃ q : {p : Nat × Nat // zs.length ≤ p.2 ∧ p.2 ≤ 9223372036854775807}, r = ms q.1.1 0 zs.length q.1.2 ∧ F' = (q.1.1, .zs k zs q.1.2 ty) :: F0)) :
    ACt P f args F (fun r F' => r = .slz k zs ∧ F' = F0) := by
  intro cx vs h1 h1' h2 h3 h4
  refine (h cx vs h1 h1' h2 h3 h4).mono ?_
  rintro e w' ⟨v, r, F', he, ⟨q, rfl, rfl⟩, hw, hr⟩
  have hv := hr.lit_inv
  have hp : OkW cx (F0 ++ [(q.1.1, .zs k zs q.1.2 ty)]) w' := hw.perm (List.perm_append_comm (l₁ := [(q.1.1, MB.zs k zs q.1.2 ty)]))
  obtain ⟨d1, d2⟩ := hp.drop
  refine ⟨v, _, F0, he, ⟨rfl, rfl⟩, d1, ?_⟩
  rw [hv]
  have hm := hw.mem _ (List.mem_cons_self ..)
  have hlt := hm.lt
  obtain ⟨cur, e1, e2, e3, e4⟩ := hm
  have hn := hw.nodup
  simp only [List.map_cons, List.nodup_cons] at hn
  refine .slz _ _ _ _ q.2.1 (by rw [maxLen_eq]; exact q.2.2) (.inr ⟨q.1.1, 0, rfl, .inr ⟨hw.keys _ (List.mem_cons_self ..), hlt, fun x hx he => hn.1 (List.mem_map.2 ⟨x, hx, he⟩)⟩, fun i hi => ?_⟩)
  rw [Nat.zero_add, cell_of_block e1, e4 i hi]
theorem ACt.fzRow {f : FuncId} {args : List AV} {F : Hp} {k : IntKind} {ty : TypeId} {zs : List Int} (h : ACt P f args F (Row k ty zs)) : ACt P f args F (fun r F' => r = .slz k zs ∧ F' = []) := by
  refine ACt.fz (ty := ty) (h.mono ?_)
  rintro r F' ⟨b, cap, h1, h2, rfl, rfl⟩
  exact ⟨⟨(b, cap), h1, by rw [maxLen_eq] at h2; exact h2⟩, rfl, rfl⟩
end
end Go.Proofs.YtaffbklkjjmmdaaDoor
namespace Go.Proofs.YtaffbklkjjmmdaaDoor
open Go
set_option linter.unusedSimpArgs false
set_option linter.unusedVariables false
section
variable {P : Program} {cx : Cx} {n : Nat} {ops : Array Oper} {H : Hp}
def mkV (P : Program) (env : List (Nat × AV)) : Op → Option (Prop × MB × (Nat → AV))
  | .alloc T => (zmb P T).map fun m => (True, m, fun b => pt b 0)
  | .makeSlice T x y => match mkz P T, (og env x).2, (og env y).2 with
    | some (e, bytes, k), .lit (.int _ l), .lit (.int _ c) => some ((og env x).1 ∧ (og env y).1 ∧ 0 ≤ l ∧ l ≤ c ∧ (bytes : Int) * c ≤ 281474976710656 ∧ c ≤ 9223372036854775807,
        .zs k (List.replicate l.toNat 0) c.toNat e, fun b => ms b 0 l.toNat c.toNat)
    | _, _, _ => none
  | .buildSlice T len parts => match apT P T with
    | some (e, sz, _) => match fillA (plN sz len 0) (List.replicate (len * sz) .any) (ogp env parts.toList).2 with
      | some cs => some ((ogp env parts.toList).1 ∧ len * sz ≤ 16777216, rowMB (elk P T) cs (len * sz) e, fun b => ms b 0 len len)
      | none => none
    | none => none
  | _ => none
def splA (H H' : Hp) (K : Hp → Prop) : Prop := H'.drop (H'.length - H.length) = H ∧ K (H'.take (H'.length - H.length))
def chS (P : Program) (H : Hp) (op : Op) (env : List (Nat × AV)) (E : Hp) (K : AV → Hp → Prop) : Prop :=
  match mkV P env op with
  | some q => q.1 ∧ Nu fun b => Fr (fresh (E ++ H) b) (K (q.2.2 b) ((b, q.2.1) :: E))
  | none => match calleeV env op with
    | some g => g.1 ∧ WCt P g.2.1 g.2.2 E H K
    | none => match op with
      | .call ⟨.builtin .append, args, ts⟩ => match ts.toList, (ogs env args.toList).2 with
        | [T, u], [d, x] => (ogs env args.toList).1 ∧ appE P (E ++ H) T u d x fun r H' => splA H H' fun E' => K r E'
        | _, _ => False
      | _ => False
def chF (P : Program) (n : Nat) (H : Hp) (l : List Oper) : List Nat → List (Nat × AV) → Hp → (List (Nat × AV) → Hp → Prop) → Prop
  | [], env, E, K => K env E
  | c :: r, env, E, K => match l.drop c with
    | ⟨some t, op, _, _, _, none⟩ :: _ => t < n ∧ chS P H op env E fun x E' => chF P n H l r ((t, x) :: env) E' K
    | _ => False
def nvc (P : Program) (n : Nat) (ops : Array Oper) (cs : List Nat) (H : Hp) : Nat → List Oper → (List (Nat × AV) → Prop) → List (Nat × AV) → Prop
  | _, [], K, env => K env
  | i, o :: rest, K, env =>
    if i ∈ cs then nvc P n ops cs H (i + 1) rest K (putE env o.dst .any)
    else okd n o.dst ∧ xst P ops H o env fun x => nvc P n ops cs H (i + 1) rest K (putE env o.dst x)
def drawNF (P : Program) (n : Nat) (l : List Oper) (K : St → Prop) (cs : List Nat) (k : Nat) (bs : List Nat) (s : St) : Prop :=
  match splitH bs s.H with
  | some q => nvc P n l.toArray cs q.2 0 (l.take k) (fun env => chF P n q.2 l cs env q.1 fun env' E => rvc P n l.toArray (l.drop k) K ⟨env', E ++ q.2⟩) s.env
  | none => False
def drawNF1 (P : Program) (n : Nat) (l : List Oper) (K : St → Prop) (cs : List Nat) (k : Nat) (bs : List Nat) (s : St) : Prop :=
  match l with
  | ⟨some d, .move (.tmp x), _, _, _, none⟩ :: l1 => d < n ∧ match splitH bs s.H with
    | some q => nvc P n l.toArray cs q.2 1 (l1.take (k - 1)) (fun env => chF P n q.2 l cs env q.1 fun env' E => rvc P n l.toArray (l.drop k) K ⟨env', E ++ q.2⟩) ((d, look s.env x) :: s.env)
    | none => False
  | _ => False
end
end Go.Proofs.YtaffbklkjjmmdaaDoor
namespace Go.Proofs.YtaffbklkjjmmdaaDoor
open Go
set_option linter.unusedSimpArgs false
set_option linter.unusedVariables false
theorem rep_frz {w : World} {I I0 : Nat → Prop} {b : Nat} {k : IntKind} {zs : List Int} {s0 ty : Nat} {v : Value} {x : AV} (hm : MOk w I0 b (.zs k zs s0 ty)) (hb : I b) (hr' : Rep w I v x) : Rep w I v (frz b k zs x) := by
  unfold frz
  split
  · rename_i b' off m cap
    split
    · rename_i he
      subst he
      split
      · rename_i hc
        obtain ⟨c1, c2, c3⟩ := hc
        have := hr'.lit_inv
        subst this
        obtain ⟨cur, d1, d2, d3, d4⟩ := hm
        have hl : ((zs.drop off).take m).length = m := by simp; omega
        have hrr : Rep w I (.slice (some ⟨b', off, none⟩) ((zs.drop off).take m).length cap) (.slz k ((zs.drop off).take m)) := by
          refine .slz _ _ _ _ (by omega) c3 (.inr ⟨b', off, rfl, hb, fun j hj => ?_⟩)
          have hj' : j < m := by omega
          rw [cell_of_block d1, d4 _ (by omega)]
          have : off + j < zs.length := by omega
          simp [List.getD, hj']
        rw [hl] at hrr
        exact hrr
      · exact .any _
    · exact hr'
  · exact hr'
theorem WCt.updM {P : Program} {f : FuncId} {args : List AV} {E F F0 R H0 : Hp} {post : AV → Hp → Prop} {x : AV} (h : ACt P f args F (fun r F' => r = x ∧ F' = F0)) (hP : E.Perm (F ++ R)) (hp : post x (F0 ++ R)) : WCt P f args E H0 post :=
  ⟨F, R, _, hP, h, fun r F' hr _ => by obtain ⟨e1, e2⟩ := hr; subst e1 e2; exact hp⟩
theorem ACt.frzG {P : Program} {f : FuncId} {args args' : List AV} {b : Nat} {k : IntKind} {zs : List Int} {s0 ty : Nat} {F : Hp} {p : AV → Hp → Prop} (h : ACt P f args' F p) (he : args.map (Proofs.YtaffbklkjjmmdaaDoor.frz b k zs) = args') :
    ACt P f args ((b, .zs k zs s0 ty) :: F) p := by
  intro cx vs hK hKT hw hs hv
  subst he
  have hbl := keys_lt hw _ (List.mem_cons_self ..)
  have hnd := hw.nodup
  simp only [List.map_cons, List.nodup_cons] at hnd
  have himm : ∀ c, imm cx cx.w0 ((b, .zs k zs s0 ty) :: F) c → cx.I c := by
    rintro c (hc | ⟨h1, h2, h3⟩)
    · exact hc
    · rcases h1 with h1 | h1
      · rw [hK] at h1
        obtain ⟨x, hx, he⟩ := List.mem_map.1 h1
        exact absurd he (h3 x hx)
      · omega
  have hKT : cx.T = roK F := hKT
  have hI : ∀ c, (cx.I c ∨ c = b) → c < cx.w0.heap.size ∧ (c ∉ F.map (·.1) ∨ c ∈ roK F) := by
    rintro c (hc | rfl)
    · refine ⟨(cx.hI c hc).1, ?_⟩
      rcases (cx.hI c hc).2 with h | h
      · exact .inl fun hm => h (by rw [hK]; exact List.mem_cons_of_mem _ hm)
      · exact .inr (hKT ▸ h)
    · exact ⟨hbl, .inl hnd.1⟩
  have hT : ∀ c ∈ roK F, c < cx.w0.heap.size := fun c hc => cx.hT c (hKT ▸ hc)
  have := h ⟨cx.w0, fun c => cx.I c ∨ c = b, F.map (·.1), roK F, hI, hT⟩ vs rfl rfl
    ⟨hnd.2, fun x hx => .inl (List.mem_map_of_mem hx), fun x hx => (hw.mem x (List.mem_cons_of_mem _ hx)).mono (fun c hc => ⟨.inl (.inl (himm c hc)), rfl⟩) rfl, ⟨rfl, rfl, rfl, Nat.le_refl _, fun _ _ _ => rfl⟩, roK_ro hnd.2⟩
    (by simpa using hs) (fun i hi => by
      have hi' : i < args.length := by simpa using hi
      have := rep_frz (hw.mem _ (List.mem_cons_self ..)) (I := fun c => cx.I c ∨ c = b) (.inr rfl) ((hv i hi').mono fun c hc => ⟨.inl hc, rfl⟩)
      simpa [List.getD, List.getElem?_map, hi'] using this)
  refine this.mono ?_
  rintro e w' ⟨v, r, F', he, hp, hw', hr⟩
  have e1 := hw.ext
  have e2 := hw'.ext
  have hsz : cx.w0.heap.size ≤ w'.heap.size := e2.size
  have hkey : ∀ x ∈ F', x.1 ∈ cx.K ∨ cx.w0.heap.size ≤ x.1 := fun x hx => by
    rcases hw'.keys x hx with h | h
    · exact .inl (by rw [hK]; exact List.mem_cons_of_mem _ h)
    · exact .inr h
  have hbF : ∀ x ∈ F', x.1 ≠ b := fun x hx he => by
    rcases hw'.keys x hx with h | h
    · exact hnd.1 (he ▸ h)
    · simp only at h; omega
  have hIm : ∀ c, imm ⟨cx.w0, fun c => cx.I c ∨ c = b, F.map (·.1), roK F, hI, hT⟩ w' F' c → imm cx w' F' c := by
    rintro c ((hc | rfl) | ⟨h1, h2, h3⟩)
    · exact .inl hc
    · exact .inr ⟨.inl (by rw [hK]; exact List.mem_cons_self ..), by omega, hbF⟩
    · refine .inr ⟨?_, h2, h3⟩
      rcases h1 with h1 | h1
      · exact .inl (by rw [hK]; exact List.mem_cons_of_mem _ h1)
      · exact .inr h1
  refine ⟨v, r, F', he, hp, ⟨hw'.nodup, hkey, fun x hx => (hw'.mem x hx).mono (fun c hc => ⟨hIm c hc, rfl⟩) rfl, ?_, fun x hx hxT => hw'.ro x hx (by show x.1 ∈ roK F; rw [← hKT]; exact hxT)⟩, hr.mono fun c hc => ⟨hIm c hc, rfl⟩⟩
  exact ⟨e2.os.trans e1.os, e2.tape.trans e1.tape, e2.output.trans e1.output, Nat.le_trans e1.size e2.size, fun c hc hk => (e2.blk c hc (by
    rcases hk with hk | hk
    · exact .inl fun hm => hk (by rw [hK]; exact List.mem_cons_of_mem _ hm)
    · exact .inr (by show c ∈ roK F; rw [← hKT]; exact hk))).trans (e1.blk c hc hk)⟩
theorem CallV.frzE {P : Program} {f : FuncId} {args args' : List AV} {H F R : Hp} {post : AV → Hp → Prop} {Γ : Type} {x : Γ → AV} {m : Γ → Hp} (b : Nat) {k : IntKind} {zs : List Int} {s0 ty : Nat} (hg : hget H b = some (.zs k zs s0 ty))
    (h : ACt P f args' F (fun r F' => ∃ g, r = x g ∧ F' = m g)) (he : args.map (Proofs.YtaffbklkjjmmdaaDoor.frz b k zs) = args') (hP : (hdel H b).Perm (F ++ R)) (hp : ∀ g, post (x g) (m g ++ R)) : CallV P f args H post :=
  ⟨(b, .zs k zs s0 ty) :: F, R, _, (hget_perm hg).trans (List.Perm.cons _ hP), h.frzG he, fun r F' hr _ => by obtain ⟨g, e1, e2⟩ := hr; subst e1 e2; exact hp g⟩
section
variable {P : Program} {cx : Cx} {n : Nat} {ops : Array Oper} {H : Hp}
def drawNTF (P : Program) (n : Nat) (l : List Oper) (K : St → Prop) (cs : List Nat) (k : Nat) (s : St) : Prop :=
  match s.H with
  | x :: T => nvc P n l.toArray cs [x] 0 (l.take k) (fun env => chF P n [x] l cs env T fun env' E => rvc P n l.toArray (l.drop k) K ⟨env', E ++ [x]⟩) s.env
  | [] => False
end
end Go.Proofs.YtaffbklkjjmmdaaDoor
namespace Go.Proofs.YtaffbklkjjmmdaaDoor
open Go
set_option linter.unusedSimpArgs false
set_option linter.unusedVariables false
def TabOk (w : World) (x : Nat × MB) : Prop := ∃ (k : IntKind) (zs : List Int) (ty : TypeId) (cur : Array Value), x.2 = .zs k zs zs.length ty ∧ w.heap[x.1]? = some (.cells cur ty (0, 0)) ∧ cur.toList = zs.map (Value.int k)
theorem TabOk.mok {w : World} {I : Nat → Prop} {x : Nat × MB} (h : TabOk w x) : MOk w I x.1 x.2 := by
  obtain ⟨k, zs, ty, cur, e1, e2, e3⟩ := h
  rw [e1]
  have hs : cur.size = zs.length := by have := congrArg List.length e3; simpa using this
  refine ⟨cur, e2, hs, Nat.le_refl _, fun i hi => ?_⟩
  rw [← Array.getElem?_toList, e3]
  simp [List.getD, hi]
theorem TabOk.same {w w' : World} {I : Nat → Prop} {x : Nat × MB} (h : TabOk w x) (h' : MOk w' I x.1 x.2) : w'.heap[x.1]? = w.heap[x.1]? := by
  obtain ⟨k, zs, ty, cur, e1, e2, e3⟩ := h
  rw [e1] at h'
  obtain ⟨cur', c1, c2, c3, c4⟩ := h'
  have hs : cur.size = zs.length := by have := congrArg List.length e3; simpa using this
  rw [e2, c1]
  have : cur' = cur := by
    apply Array.ext' 
    apply List.ext_getElem?
    intro i
    by_cases hi : i < zs.length
    · rw [Array.getElem?_toList, c4 i hi, e3]; simp [List.getD, hi]
    · rw [List.getElem?_eq_none (by simp; omega), List.getElem?_eq_none (by simp; omega)]
  rw [this]
def TabR (w : World) (x : Nat × MB) : Prop := ∃ (k : IntKind) (zs : List Int) (ty : TypeId) (cur : Array Value), x.2 = .ro k zs zs.length ty ∧ w.heap[x.1]? = some (.cells cur ty (0, 0)) ∧ cur.toList = zs.map (Value.int k)
theorem TabR.mok {w : World} {I : Nat → Prop} {x : Nat × MB} (h : TabR w x) : MOk w I x.1 x.2 := by
  obtain ⟨k, zs, ty, cur, e1, e2, e3⟩ := h
  rw [e1]
  have hs : cur.size = zs.length := by have := congrArg List.length e3; simpa using this
  refine ⟨cur, e2, hs, Nat.le_refl _, fun i hi => ?_⟩
  rw [← Array.getElem?_toList, e3]
  simp [List.getD, hi]
theorem TabR.ro {w : World} {x : Nat × MB} (h : TabR w x) : isRo x.2 = true := by
  obtain ⟨k, zs, ty, cur, e1, -⟩ := h
  rw [e1]; rfl
theorem ACt.lawR {P : Program} {f : FuncId} {args : List AV} {G : Hp} (h : ACt P f args G fun r F' => r = bv true ∧ F' = G) (hb : ((P.funcs[f]?).any fun fn => fn.body.isSome && !(fn.name == "runtime.NumGoroutine")) = true) {w : World} {vs : Array Value} (hs : vs.size = args.length)
    (hv : ∀ i, i < args.length → Rep w (fun b => b < w.heap.size) (vs.getD i undef) (args.getD i .any)) (hn : (G.map (·.1)).Nodup) (hG : ∀ x ∈ G, TabR w x) :
    Calls P f vs w fun e w' => e = .returned (.bool true) ∧ Go.RowKit.Below w.heap.size w w' := by
  have hT : ∀ b ∈ G.map (·.1), b ∈ roK G := fun b hb => by
    obtain ⟨x, hx, rfl⟩ := List.mem_map.1 hb
    exact roK_mem.2 ⟨x, hx, rfl, (hG x hx).ro⟩
  have := h ⟨w, fun b => b < w.heap.size, G.map (·.1), roK G, fun b hb => ⟨hb, (Classical.em (b ∈ G.map (·.1))).elim (fun h => .inr (hT b h)) .inl⟩, fun b hb => by
      obtain ⟨x, hx, rfl, -⟩ := roK_mem.1 hb
      exact ((hG x hx).mok (I := fun _ => False)).lt⟩ vs rfl rfl ⟨hn, fun x hx => .inl (List.mem_map_of_mem hx), fun x hx => (hG x hx).mok, ⟨rfl, rfl, rfl, Nat.le_refl _, fun _ _ _ => rfl⟩, roK_ro hn⟩ hs hv
  obtain ⟨fn, hf, hb⟩ : ∃ fn, P.funcs[f]? = some fn ∧ (fn.body.isSome && !(fn.name == "runtime.NumGoroutine")) = true := by
    cases e : P.funcs[f]? with
    | none => rw [e] at hb; cases hb
    | some fn => exact ⟨fn, rfl, by rw [e] at hb; exact hb⟩
  have hcl : (callFunc f vs).run P w = .ok (.enter f vs) w := by
    simp at hb
    obtain ⟨h1, h2⟩ := hb
    obtain ⟨c, hc⟩ := Option.isSome_iff_exists.1 h1
    simp [callFunc, program, Sem.run, hf, hc, h2]
  rcases Or.symm this with ⟨v, w', h1, _⟩ | ⟨_, this⟩
  · exact absurd (h1.symm.trans hcl) (by simp)
  refine this.mono ?_
  rintro e w' ⟨v, r, F', rfl, ⟨rfl, rfl⟩, hw, hr⟩
  rw [hr.lit_inv]
  refine ⟨rfl, ⟨hw.ext.os, hw.ext.tape, hw.ext.output, hw.ext.size, fun k hk => ?_⟩⟩
  refine hw.ext.blk k hk ?_
  by_cases hm : k ∈ F'.map (·.1)
  · exact .inr (hT k hm)
  · exact .inl hm
theorem row_of_trod {H : Type} {enc : TypeId × Value → H} {P : Program} {w : World} {base fuel : Nat} {sp : Nat → Bool} {held : Bool} {t e : TypeId} {m : Nat} {k : IntKind} {cs : List Value} {zs : List Int} {p : List MemPlace}
    (ht : P.underlying t = some (.array m e)) (he : P.underlying e = some (.int k)) (hc : P.cellsOf e = 1)
    (h : DataW.trod enc P w base sp held fuel t cs = some (.agg (zs.map fun z => .lit (.int k z)), p)) (hl : cs.length = m) : cs = zs.map (Value.int k) := by
  obtain ⟨xs, n, rfl, hx, hlen, hxl, hel⟩ := DataW.trod_array ht h
  simp only [Prod.mk.injEq, DataW.agg.injEq] at hx
  have hzl : zs.length = m := by have := congrArg List.length hx.1; simpa [hxl] using this
  refine List.ext_getElem (by simp [hl, hzl]) fun i h1 h2 => ?_
  have hi : i < m := by omega
  have hh := hel i hi
  rw [hc, Nat.mul_one, List.getElem?_eq_getElem (by omega)] at hh
  have e1 : (cs.drop i).take 1 = [cs[i]] := by
    rw [List.drop_eq_getElem_cons h1]; rfl
  rw [e1] at hh
  obtain ⟨z, a1, a2, _⟩ := DataW.trod_int he hh
  have e2 : cs[i] = .int k z := by simpa using a1
  have e3 : (xs[i]'(by omega)).1 = .lit (.int k z) := by rw [a2]
  have e4 : (xs.map (·.1))[i]'(by simpa using (by omega : i < xs.length)) = (zs.map fun z => (DataW.lit (.int k z) : DataW H))[i]'(by simp; omega) := by simp only [hx.1]
  simp only [List.getElem_map] at e4
  rw [e3] at e4
  have e5 : z = zs[i]'(by omega) := by injection e4 with e4; injection e4
  rw [e2, e5]
  simp
end Go.Proofs.YtaffbklkjjmmdaaDoor
namespace Go.Proofs.YtaffbklkjjmmdaaDoor
open Go
set_option linter.unusedSimpArgs false
set_option linter.unusedVariables false
theorem fr0 : ¬ ((1 : Nat) = 0) := Nat.one_ne_zero
theorem fr0S : Sm (¬ ((1 : Nat) = 0)) := Sm.mk Nat.one_ne_zero
theorem Yo {p : Prop} (h : p := by first | assumption | omega | decide | trivial | (intro hob; simp only [hob, ZF]; done) | (intros; (repeat' refine And.intro ?_ ?_) <;> first | assumption | omega | trivial | decide) | (intros; simp only [ZE] at *; (repeat' refine And.intro ?_ ?_) <;> first | assumption | omega | trivial)) : p := h
theorem Yx {p : Prop} (h : ¬ p := by intro hcs; first | exact False.elim hcs | (exfalso; omega)) : ¬ p := h
theorem Yxc {p q : Prop} (h : ¬ p) : Cs p q := ⟨fun hp => (h hp).elim⟩
theorem Yq {P Q : Prop} (q : Q) (h : P = Q := by (conv => lhs; simp only [SeqQ, BlkQ, LoopQ, BodyQ, ↓reduceIte, Nat.reduceEqDiff, reduceCtorEq, look, true_and]) <;> exact rfl) : P := h.mpr q
theorem Ys {P Q : Prop} (q : Q) (h : P = Q := by (try (conv => lhs; simp -dsimp only [ZK, rvc, capA, appA, litL, mkfv, drawF, headN, pureH, stp, dvc, calleeOf, gcall, pev, eff, newB, okd, og, ogs, ogo, ogp, slv, bltv, opd, litv, strip, one, both, putE, St.put, look, gdOf, gdv, picka, pickv, pickw, binv, bini, bins, binb, binp, binq, isSlT, bina, shp, eqCells, unv, convv, nilv, faddv, addp, idxav, idxp, load1, load1m, loadn, loadnm, loadv, hget, hset, hrep, hdel, slicev, slice3v, bnd, shift1, lenv, capv, IntKind.bits, extractv, fieldv, indexv, min2v, max2v, mkiv, tasv, tasz, cellsA, fillA, buildv, stC, oneC, rowMB, intsA, plN, appE, appZ, appC, appS, srcB, appNZ, appNC, VwL, srcC, srcZ, srcM, isBoolT, isPtrT, isSliceT, uOk, Value.oneCell', Nat.reducePow, Int.reducePow, Nat.reduceAdd, Nat.reduceMul, Nat.reduceSub, Nat.reduceLT, Nat.reduceLeDiff, Nat.reduceEqDiff, Nat.reduceBEq, Nat.reduceDiv, Nat.reduceMod, ↓reduceIte, reduceCtorEq, Int.reduceToNat, Int.reduceLT, Int.reduceLE, drawAF, alF, drawSF, drawMF, mkS, drawCF, xvc, xst, splitH, calleeV, drawWF, drawNF, drawNF1, drawNTF, nvc, chF, chS, splA, mkV, SeqQ, BlkQ, LoopQ, BodyQ, FA.out, FR.out])) <;> exact rfl) : P := h.mpr q
theorem Yw2 {p G R : Prop} (h : p → Sm R → G := by intro c r; exact CallV.updM c (perm2 (by simp only [hget, hdel, ↓reduceIte, FA.out, FR.out]; first | done | rfl) (by simp only [hget, hdel, ↓reduceIte, FA.out, FR.out]; first | done | rfl)) r.out) (c : p) (r : Sm R) : G := h c r
theorem Yl2 {p G R : Prop} (h : p → Sm R → G := by intro c r; first | exact CallV.updM c (perm2 (by simp only [hget, hdel, ↓reduceIte, FA.out, FR.out]; first | done | rfl) (by simp only [hget, hdel, ↓reduceIte, FA.out, FR.out]; first | done | rfl)) r.out | exact ExF.up ⟨_, (perm2 (by simp only [hget, hdel, ↓reduceIte, FA.out, FR.out]; first | done | rfl) (by simp only [hget, hdel, ↓reduceIte, FA.out, FR.out]; first | done | rfl))⟩ c r.out | exact ExG.up ⟨_, (perm2 (by simp only [hget, hdel, ↓reduceIte, FA.out, FR.out]; first | done | rfl) (by simp only [hget, hdel, ↓reduceIte, FA.out, FR.out]; first | done | rfl))⟩ (fun _ => c) r.out | exact ExG.upJ ⟨_, (perm2 (by simp only [hget, hdel, ↓reduceIte, FA.out, FR.out]; first | done | rfl) (by simp only [hget, hdel, ↓reduceIte, FA.out, FR.out]; first | done | rfl))⟩ (fun _ => c) r.out | exact ExG.upI ⟨_, (perm2 (by simp only [hget, hdel, ↓reduceIte, FA.out, FR.out]; first | done | rfl) (by simp only [hget, hdel, ↓reduceIte, FA.out, FR.out]; first | done | rfl))⟩ (fun _ => c) Yo r.out) (c : p) (r : Sm R) : G := h c r
theorem Yg {P : Program} {rs : List ResultVar} {post : AV → Hp → Prop} {s : St} {Q : Prop} (q : Q) (h1 : (resv P s.H s.env rs).1 := by simp only [resv, ZK, look, loadv, loadn, loadnm, load1, load1m, hget, ↓reduceIte, Nat.reduceEqDiff, Nat.reduceAdd, Nat.reduceMul, Nat.reduceLeDiff, Nat.reduceLT, reduceCtorEq, FA.out, FR.out])
    (h2 : post (resA (resv P s.H s.env rs).2) [] = Q := by (try (conv => lhs; skip; (try simp only [resv, resA, Fn, ZK, look, loadv, loadn, loadnm, load1, load1m, hget, ↓reduceIte, Nat.reduceEqDiff, Nat.reduceAdd, Nat.reduceMul, Nat.reduceLeDiff, Nat.reduceLT, reduceCtorEq, FA.out, FR.out]); (try simp [resA, Fn, look, FA.out, FR.out]))) <;> exact rfl) : OutQ P rs post s := OutQ.all h1 (h2.mpr q)
theorem Ygn {P : Program} {rs : List ResultVar} {post : AV → Hp → Prop} {s : St} {Q : Prop} (q : Q) (h1 : (resv P s.H s.env rs).1 := by simp only [resv, ZK, look, loadv, loadn, loadnm, load1, load1m, hget, ↓reduceIte, Nat.reduceEqDiff, Nat.reduceAdd, Nat.reduceMul, Nat.reduceLeDiff, Nat.reduceLT, reduceCtorEq, FA.out, FR])
    (h2 : post (resA (resv P s.H s.env rs).2) [] = Q := by (try (conv => lhs; skip; (try simp only [resv, resA, Fn, ZK, look, loadv, loadn, loadnm, load1, load1m, hget, ↓reduceIte, Nat.reduceEqDiff, Nat.reduceAdd, Nat.reduceMul, Nat.reduceLeDiff, Nat.reduceLT, reduceCtorEq, FA.out, FR]); (try simp [resA, Fn, look, FA.out, FR]))) <;> exact rfl) : OutQ P rs post s := OutQ.all h1 (h2.mpr q)
theorem Yc {p G R : Prop} (h : p → Sm R → G := by intro c r; first | exact CallV.fn c r.out | exact ExF.mk c r.out | exact ExG.mk (fun _ => c) r.out | exact ExG.mkJ (fun _ => c) r.out | exact ExG.mkI Yo (fun _ => c) r.out) (c : p) (r : Sm R) : G := h c r
theorem Yfr {p K : Prop} (h : Fr p K) : Fr p K := h
theorem Yf {p F K q : Prop} (f : Sm F) (r : q → Sm (p ∧ F) → Sm K) (h : p → q := by first | exact fun h => (And.intro h.1 h.2.1 : _ ≤ _ ∧ _ ≤ _) | exact fun h => (h.1 : _ ≤ _) | exact fun _ => True.intro) : Fr p K := ⟨fun h' => (r (h h') ⟨h', f.out⟩).out⟩
end Go.Proofs.YtaffbklkjjmmdaaDoor
