/-
  The walks and the laws that the statement leans on, part 12.
-/
import Derived.Test.YtdkkfgcdnojmaaaDoorS11
namespace Go.Proofs.YtdkkfgcdnojmaaaDoor
open Go
set_option linter.unusedSimpArgs false
set_option linter.unusedVariables false
section
variable {P : Program} {cx : Cx} {n : Nat} {ops : Array Oper} {H : Hp}
def mkV (P : Program) (env : List (Nat × AV)) : Op → Option (Prop × MB × (Nat → AV))
  | .alloc T => (zmb P T).map fun m => (True, m, fun b => pt b 0)
  | .makeSlice T x y => match mkz P T, (og env x).2, (og env y).2 with
    | some (e, bytes, k), .lit (.int _ l), .lit (.int _ c) => some ((og env x).1 ∧ (og env y).1 ∧ 0 ≤ l ∧ l ≤ c ∧ (bytes : Int) * c ≤ 281474976710656 ∧ c ≤ 9223372036854775807,
        .zs k (List.replicate l.toNat 0) c.toNat e, fun b => ms b 0 l.toNat c.toNat)
    | _, _, _ => none
  | .buildSlice T len parts => match apT P T with
    | some (e, sz, _) => match fillA (plN sz len 0) (List.replicate (len * sz) .any) (ogp env parts.toList).2 with
      | some cs => some ((ogp env parts.toList).1 ∧ len * sz ≤ 16777216, rowMB (elk P T) cs (len * sz) e, fun b => ms b 0 len len)
      | none => none
    | none => none
  | _ => none
def splA (H H' : Hp) (K : Hp → Prop) : Prop := H'.drop (H'.length - H.length) = H ∧ K (H'.take (H'.length - H.length))
def chS (P : Program) (H : Hp) (op : Op) (env : List (Nat × AV)) (E : Hp) (K : AV → Hp → Prop) : Prop :=
  match mkV P env op with
  | some q => q.1 ∧ Nu fun b => Fr (fresh (E ++ H) b) (K (q.2.2 b) ((b, q.2.1) :: E))
  | none => match calleeV env op with
    | some g => g.1 ∧ WCt P g.2.1 g.2.2 E H K
    | none => match op with
      | .call ⟨.builtin .append, args, ts⟩ => match ts.toList, (ogs env args.toList).2 with
        | [T, u], [d, x] => (ogs env args.toList).1 ∧ appE P (E ++ H) T u d x fun r H' => splA H H' fun E' => K r E'
        | _, _ => False
      | _ => False
def chF (P : Program) (n : Nat) (H : Hp) (l : List Oper) : List Nat → List (Nat × AV) → Hp → (List (Nat × AV) → Hp → Prop) → Prop
  | [], env, E, K => K env E
  | c :: r, env, E, K => match l.drop c with
    | ⟨some t, op, _, _, _, none⟩ :: _ => t < n ∧ chS P H op env E fun x E' => chF P n H l r ((t, x) :: env) E' K
    | _ => False
def nvc (P : Program) (n : Nat) (ops : Array Oper) (cs : List Nat) (H : Hp) : Nat → List Oper → (List (Nat × AV) → Prop) → List (Nat × AV) → Prop
  | _, [], K, env => K env
  | i, o :: rest, K, env =>
    if i ∈ cs then nvc P n ops cs H (i + 1) rest K (putE env o.dst .any)
    else okd n o.dst ∧ xst P ops H o env fun x => nvc P n ops cs H (i + 1) rest K (putE env o.dst x)
def drawNF (P : Program) (n : Nat) (l : List Oper) (K : St → Prop) (cs : List Nat) (k : Nat) (bs : List Nat) (s : St) : Prop :=
  match splitH bs s.H with
  | some q => nvc P n l.toArray cs q.2 0 (l.take k) (fun env => chF P n q.2 l cs env q.1 fun env' E => rvc P n l.toArray (l.drop k) K ⟨env', E ++ q.2⟩) s.env
  | none => False
def drawNF1 (P : Program) (n : Nat) (l : List Oper) (K : St → Prop) (cs : List Nat) (k : Nat) (bs : List Nat) (s : St) : Prop :=
  match l with
  | ⟨some d, .move (.tmp x), _, _, _, none⟩ :: l1 => d < n ∧ match splitH bs s.H with
    | some q => nvc P n l.toArray cs q.2 1 (l1.take (k - 1)) (fun env => chF P n q.2 l cs env q.1 fun env' E => rvc P n l.toArray (l.drop k) K ⟨env', E ++ q.2⟩) ((d, look s.env x) :: s.env)
    | none => False
  | _ => False
end
end Go.Proofs.YtdkkfgcdnojmaaaDoor
namespace Go.Proofs.YtdkkfgcdnojmaaaDoor
open Go
set_option linter.unusedSimpArgs false
set_option linter.unusedVariables false
theorem CallV.newC {P : Program} {f : FuncId} {args : List AV} {H F R : Hp} {F0 : Nat → Nat → Hp} {post : AV → Hp → Prop} {φ : Nat → Nat → Prop} {x : Nat → Nat → AV} {m : Nat → Nat → MB}
    (h : ACt P f args F (fun r F' => ∃ b c, φ b c ∧ r = x b c ∧ F' = (b, m b c) :: F0 b c)) (hP : H.Perm (F ++ R)) (hk : ∀ b c, (F0 b c).map (·.1) = F.map (·.1))
    (hp : Nu fun b => Nu fun c => Fr (φ b c ∧ fresh H b) (post (x b c) ((b, m b c) :: (F0 b c ++ R)))) : CallV P f args H post :=
  ⟨F, R, _, hP, h, fun r F' hr hn => by
    obtain ⟨b, c, e0, e1, e2⟩ := hr
    subst e1 e2
    exact ((hp.out b).out c).out ⟨e0, fresh_perm hP (hk b c) hn⟩⟩
theorem rep_frz {w : World} {I I0 : Nat → Prop} {b : Nat} {k : IntKind} {zs : List Int} {s0 ty : Nat} {v : Value} {x : AV} (hm : MOk w I0 b (.zs k zs s0 ty)) (hb : I b) (hr' : Rep w I v x) : Rep w I v (frz b k zs x) := by
  unfold frz
  split
  · rename_i b' off m cap
    split
    · rename_i he
      subst he
      split
      · rename_i hc
        obtain ⟨c1, c2, c3⟩ := hc
        have := hr'.lit_inv
        subst this
        obtain ⟨cur, d1, d2, d3, d4⟩ := hm
        have hl : ((zs.drop off).take m).length = m := by simp; omega
        have hrr : Rep w I (.slice (some ⟨b', off, none⟩) ((zs.drop off).take m).length cap) (.slz k ((zs.drop off).take m)) := by
          refine .slz _ _ _ _ (by omega) c3 (.inr ⟨b', off, rfl, hb, fun j hj => ?_⟩)
          have hj' : j < m := by omega
          rw [cell_of_block d1, d4 _ (by omega)]
          have : off + j < zs.length := by omega
          simp [List.getD, hj']
        rw [hl] at hrr
        exact hrr
      · exact .any _
    · exact hr'
  · exact hr'
theorem ACt.frm {P : Program} {f : FuncId} {args : List AV} {H F R : Hp} {p q : AV → Hp → Prop} (h : ACt P f args F p) (hP : H.Perm (F ++ R))
    (hq : ∀ r F', p r F' → ((F' ++ R).map (·.1)).Nodup → ∃ H' D, (F' ++ R).Perm (H' ++ D) ∧ q r H') : ACt P f args H q := by
  intro cx vs hK hKT hw hs hv
  have hw1 := hw.perm hP
  have hIp : ∀ b, imm cx cx.w0 H b → imm cx cx.w0 (F ++ R) b := fun b hb => (imm_perm hP).1 hb
  have hI : ∀ b, imm cx cx.w0 H b → b < cx.w0.heap.size ∧ (b ∉ F.map (·.1) ∨ b ∈ roK F) := fun b hb => ⟨imm_lt hw1.ext.size hb, imm_out hw1 (hIp b hb)⟩
  have hT := roK_lt hw1
  have hnd := hw1.nodup
  rw [List.map_append, List.nodup_append] at hnd
  have := h ⟨cx.w0, imm cx cx.w0 H, F.map (·.1), roK F, hI, hT⟩ vs rfl rfl ⟨hnd.1, fun x hx => .inl (List.mem_map_of_mem hx), fun x hx => (hw1.mem x (List.mem_append_left _ hx)).mono (fun b hb => ⟨.inl ((imm_perm hP).2 hb), rfl⟩) rfl,
    ⟨rfl, rfl, rfl, Nat.le_refl _, fun _ _ _ => rfl⟩, roK_ro hnd.1⟩ hs (fun i hi => (hv i hi).mono fun b hb => ⟨.inl hb, rfl⟩)
  refine this.mono ?_
  rintro e w' ⟨v, r, F', he, hpost, hw', hr⟩
  obtain ⟨c1, c2, c3⟩ := call_frame hIp hw1 hw'
  obtain ⟨H', D, d1, d2⟩ := hq r F' hpost c1.nodup
  have c4 := (c1.perm d1).drop
  exact ⟨v, r, H', he, d2, c4.1, hr.mono fun b hb => ⟨c4.2 b ((imm_perm d1).1 (c3 b hb)), rfl⟩⟩
theorem WCt.updM {P : Program} {f : FuncId} {args : List AV} {E F F0 R H0 : Hp} {post : AV → Hp → Prop} {x : AV} (h : ACt P f args F (fun r F' => r = x ∧ F' = F0)) (hP : E.Perm (F ++ R)) (hp : post x (F0 ++ R)) : WCt P f args E H0 post :=
  ⟨F, R, _, hP, h, fun r F' hr _ => by obtain ⟨e1, e2⟩ := hr; subst e1 e2; exact hp⟩
theorem ACt.frzG {P : Program} {f : FuncId} {args args' : List AV} {b : Nat} {k : IntKind} {zs : List Int} {s0 ty : Nat} {F : Hp} {p : AV → Hp → Prop} (h : ACt P f args' F p) (he : args.map (Proofs.YtdkkfgcdnojmaaaDoor.frz b k zs) = args') :
    ACt P f args ((b, .zs k zs s0 ty) :: F) p := by
  intro cx vs hK hKT hw hs hv
  subst he
  have hbl := keys_lt hw _ (List.mem_cons_self ..)
  have hnd := hw.nodup
  simp only [List.map_cons, List.nodup_cons] at hnd
  have himm : ∀ c, imm cx cx.w0 ((b, .zs k zs s0 ty) :: F) c → cx.I c := by
    rintro c (hc | ⟨h1, h2, h3⟩)
    · exact hc
    · rcases h1 with h1 | h1
      · rw [hK] at h1
        obtain ⟨x, hx, he⟩ := List.mem_map.1 h1
        exact absurd he (h3 x hx)
      · omega
  have hKT : cx.T = roK F := hKT
  have hI : ∀ c, (cx.I c ∨ c = b) → c < cx.w0.heap.size ∧ (c ∉ F.map (·.1) ∨ c ∈ roK F) := by
    rintro c (hc | rfl)
    · refine ⟨(cx.hI c hc).1, ?_⟩
      rcases (cx.hI c hc).2 with h | h
      · exact .inl fun hm => h (by rw [hK]; exact List.mem_cons_of_mem _ hm)
      · exact .inr (hKT ▸ h)
    · exact ⟨hbl, .inl hnd.1⟩
  have hT : ∀ c ∈ roK F, c < cx.w0.heap.size := fun c hc => cx.hT c (hKT ▸ hc)
  have := h ⟨cx.w0, fun c => cx.I c ∨ c = b, F.map (·.1), roK F, hI, hT⟩ vs rfl rfl
    ⟨hnd.2, fun x hx => .inl (List.mem_map_of_mem hx), fun x hx => (hw.mem x (List.mem_cons_of_mem _ hx)).mono (fun c hc => ⟨.inl (.inl (himm c hc)), rfl⟩) rfl, ⟨rfl, rfl, rfl, Nat.le_refl _, fun _ _ _ => rfl⟩, roK_ro hnd.2⟩
    (by simpa using hs) (fun i hi => by
      have hi' : i < args.length := by simpa using hi
      have := rep_frz (hw.mem _ (List.mem_cons_self ..)) (I := fun c => cx.I c ∨ c = b) (.inr rfl) ((hv i hi').mono fun c hc => ⟨.inl hc, rfl⟩)
      simpa [List.getD, List.getElem?_map, hi'] using this)
  refine this.mono ?_
  rintro e w' ⟨v, r, F', he, hp, hw', hr⟩
  have e1 := hw.ext
  have e2 := hw'.ext
  have hsz : cx.w0.heap.size ≤ w'.heap.size := e2.size
  have hkey : ∀ x ∈ F', x.1 ∈ cx.K ∨ cx.w0.heap.size ≤ x.1 := fun x hx => by
    rcases hw'.keys x hx with h | h
    · exact .inl (by rw [hK]; exact List.mem_cons_of_mem _ h)
    · exact .inr h
  have hbF : ∀ x ∈ F', x.1 ≠ b := fun x hx he => by
    rcases hw'.keys x hx with h | h
    · exact hnd.1 (he ▸ h)
    · simp only at h; omega
  have hIm : ∀ c, imm ⟨cx.w0, fun c => cx.I c ∨ c = b, F.map (·.1), roK F, hI, hT⟩ w' F' c → imm cx w' F' c := by
    rintro c ((hc | rfl) | ⟨h1, h2, h3⟩)
    · exact .inl hc
    · exact .inr ⟨.inl (by rw [hK]; exact List.mem_cons_self ..), by omega, hbF⟩
    · refine .inr ⟨?_, h2, h3⟩
      rcases h1 with h1 | h1
      · exact .inl (by rw [hK]; exact List.mem_cons_of_mem _ h1)
      · exact .inr h1
  refine ⟨v, r, F', he, hp, ⟨hw'.nodup, hkey, fun x hx => (hw'.mem x hx).mono (fun c hc => ⟨hIm c hc, rfl⟩) rfl, ?_, fun x hx hxT => hw'.ro x hx (by show x.1 ∈ roK F; rw [← hKT]; exact hxT)⟩, hr.mono fun c hc => ⟨hIm c hc, rfl⟩⟩
  exact ⟨e2.os.trans e1.os, e2.tape.trans e1.tape, e2.output.trans e1.output, Nat.le_trans e1.size e2.size, fun c hc hk => (e2.blk c hc (by
    rcases hk with hk | hk
    · exact .inl fun hm => hk (by rw [hK]; exact List.mem_cons_of_mem _ hm)
    · exact .inr (by show c ∈ roK F; rw [← hKT]; exact hk))).trans (e1.blk c hc hk)⟩
theorem CallV.frzE {P : Program} {f : FuncId} {args args' : List AV} {H F R : Hp} {post : AV → Hp → Prop} {Γ : Type} {x : Γ → AV} {m : Γ → Hp} (b : Nat) {k : IntKind} {zs : List Int} {s0 ty : Nat} (hg : hget H b = some (.zs k zs s0 ty))
    (h : ACt P f args' F (fun r F' => ∃ g, r = x g ∧ F' = m g)) (he : args.map (Proofs.YtdkkfgcdnojmaaaDoor.frz b k zs) = args') (hP : (hdel H b).Perm (F ++ R)) (hp : ∀ g, post (x g) (m g ++ R)) : CallV P f args H post :=
  ⟨(b, .zs k zs s0 ty) :: F, R, _, (hget_perm hg).trans (List.Perm.cons _ hP), h.frzG he, fun r F' hr _ => by obtain ⟨g, e1, e2⟩ := hr; subst e1 e2; exact hp g⟩
section
variable {P : Program} {cx : Cx} {n : Nat} {ops : Array Oper} {H : Hp}
def drawNTF (P : Program) (n : Nat) (l : List Oper) (K : St → Prop) (cs : List Nat) (k : Nat) (s : St) : Prop :=
  match s.H with
  | x :: T => nvc P n l.toArray cs [x] 0 (l.take k) (fun env => chF P n [x] l cs env T fun env' E => rvc P n l.toArray (l.drop k) K ⟨env', E ++ [x]⟩) s.env
  | [] => False
theorem WCt.exM {f : FuncId} {args : List AV} {E F R H0 : Hp} {post : AV → Hp → Prop} {Γ : Type} {x : Γ → AV} {m : Γ → Hp} (h : ACt P f args F (fun r F' => ∃ g, r = x g ∧ F' = m g)) (hP : E.Perm (F ++ R)) (hp : ∀ g, post (x g) (m g ++ R)) : WCt P f args E H0 post :=
  ⟨F, R, _, hP, h, fun r F' hr _ => by obtain ⟨g, e1, e2⟩ := hr; subst e1 e2; exact hp g⟩
end
end Go.Proofs.YtdkkfgcdnojmaaaDoor
