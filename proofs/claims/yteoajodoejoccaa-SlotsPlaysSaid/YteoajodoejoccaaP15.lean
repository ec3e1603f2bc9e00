/-
  The walks and the laws that the statement leans on, part 15.
-/
import Derived.Test.YteoajodoejoccaaP10
import Derived.Test.YteoajodoejoccaaP14
namespace Go.Proofs.Yteoajodoejoccaa
open Go
set_option linter.unusedVariables false
set_option linter.unusedSimpArgs false
structure DA where
  size : Nat
  n : Nat
  L : List (List Int)
  S : List (List Int)
  W : List (Nat × List Int)
  f : Int
  dk : Bool
  de : Nat
structure DL where
  bl : Nat
  cl : Nat
  bs : Nat
  cs : Nat
  bw : Nat
  k : Nat
def dW : List (Nat × List Int) → DL → AV
  | [], _ => nl
  | w :: r, l => ms l.bw 0 (w :: r).length l.k
def dB : List (Nat × List Int) → DL → Hp
  | [], _ => []
  | w :: r, l => [(l.bw, MB.cells (wcs (w :: r)) (l.k * 2) 76)]
def dH (b : Nat) (a : DA) (l : DL) : Hp :=
  (b, dkM a.size (ms l.bl 0 a.n l.cl) (ms l.bs 0 a.n l.cs) (dW a.W l) a.f a.dk a.de) :: (l.bs, MB.cells (rws a.S) l.cs 36) :: (l.bl, MB.cells (rws a.L) l.cl 36) :: dB a.W l
structure AOk (c : Nat) (a : DA) : Prop where
  n1 : 1 ≤ a.n
  n2 : a.n ≤ 400
  s1 : 1 ≤ a.size
  s2 : a.size ≤ 512
  Ll : a.L.length = a.n
  Lr : ∀ z ∈ a.L, z.length = a.size
  Sl : a.S.length = a.n
  Sr : ∀ z ∈ a.S, z.length = a.size
  W : ∀ w ∈ a.W, w.1 < a.n ∧ w.2.length = a.size
  Wc : a.W.length ≤ c
  f1 : -1 ≤ a.f
  f2 : a.f < 9223372036854775808
  de : a.de ≤ c
structure LOk (b : Nat) (a : DA) (l : DL) : Prop where
  cl : a.n ≤ l.cl
  cs : a.n ≤ l.cs
  k : a.W ≠ [] → a.W.length ≤ l.k ∧ l.k ≤ 9223372036854775807
  nd : ((dH b a l).map (·.1)).Nodup
abbrev LS (b : Nat) (a : DA) : Type := {l : DL // LOk b a l}
theorem LOk.d1 {b : Nat} {a : DA} {l : DL} (h : LOk b a l) : (b ≠ l.bs ∧ l.bs ≠ b) ∧ (b ≠ l.bl ∧ l.bl ≠ b) ∧ l.bs ≠ l.bl ∧ l.bl ≠ l.bs := by
  have := h.nd
  unfold dH at this
  simp only [List.map_cons, List.nodup_cons, List.mem_cons, not_or] at this
  obtain ⟨⟨h1, h2, _⟩, ⟨h3, _⟩, _⟩ := this
  exact ⟨⟨h1, Ne.symm h1⟩, ⟨h2, Ne.symm h2⟩, h3, Ne.symm h3⟩
theorem first_d {f : FuncId} {args : List AV} {b : Nat} {m m' : MB} {x : AV} (R : Hp) (h : ACt Try.prog f args [(b, m)] (fun r F' => r = x ∧ F' = [(b, m')])) : ACt Try.prog f args ((b, m) :: R) (fun r F' => r = x ∧ F' = (b, m') :: R) :=
  ACt.frm (R := R) h (.refl _) fun r F' hr _ => by
    obtain ⟨e1, e2⟩ := hr
    subst e1 e2
    exact ⟨_, [], by rw [List.append_nil]; exact .refl _, rfl, rfl⟩
theorem nd_of {F H D : Hp} (hp : F.Perm (H ++ D)) (hn : (F.map (·.1)).Nodup) : (H.map (·.1)).Nodup := by
  have := (hp.map (·.1)).nodup_iff.1 hn
  rw [List.map_append, List.nodup_append] at this
  exact this.1
section
variable (b : Nat) (a : DA) (l : DL)
theorem size_d : ACt Try.prog 35 [pt b 0] (dH b a l) (fun r F' => r = iv .i64 (a.size : Int) ∧ F' = dH b a l) := first_d _ (size_ct _ _ _ _ _ _ _ _)
theorem dark_d : ACt Try.prog 36 [pt b 0] (dH b a l) (fun r F' => r = bv a.dk ∧ F' = dH b a l) := first_d _ (dark_ct _ _ _ _ _ _ _ _)
theorem blocks_d : ACt Try.prog 30 [pt b 0] (dH b a l) (fun r F' => r = iv .i64 (a.n : Int) ∧ F' = dH b a l) := first_d _ (blocks_ct _ _ _ _ _ _ _ _ _ _)
def fuA (n : Int) : DA := { a with f := fzN n }
theorem readok_d {c : Nat} (hA : AOk c a) (hl : LOk b a l) (i : Nat) (hi : i < a.n) (hk : a.dk = false) : ACt Try.prog 31 [pt b 0, iv .i64 (i : Int)] (dH b a l) (fun r F' => r = .tup [.slz .u8 (a.S.getD i []), iv .i64 0] ∧ F' = dH b a l) := by
  have h := read_ok b a.size a.de l.bs a.n l.cs i (ms l.bl 0 a.n l.cl) (dW a.W l) a.f a.S hl.d1.1 hA.Sl hi hA.n2 hl.cs hA.Sr hA.s1 hA.s2
  unfold dH
  rw [hk]
  refine ACt.frm (R := (l.bl, MB.cells (rws a.L) l.cl 36) :: dB a.W l) h (.refl _) fun r F' hr _ => ?_
  obtain ⟨e1, e2⟩ := hr
  subst e1 e2
  exact ⟨_, [], by rw [List.append_nil]; exact .refl _, rfl, rfl⟩
def mayA (i k : Int) : Int := mayC a.size a.n a.dk i k
def wrC (i k : Int) : Int := if mayA a i k ≠ 0 then mayA a i k else if a.f = 0 then 12 else 0
def wrA (i : Int) (zs : List Int) : DA :=
  if mayA a i zs.length ≠ 0 then a else if a.f = 0 then { a with dk := true } else
    { a with f := fuseN a.f, de := a.de + 1, W := a.W ++ [(i.toNat, pad a.size zs)], S := a.S.set i.toNat (pad a.size zs) }
theorem mayC_in {size n : Nat} {dk : Bool} {i k : Int} (h : mayC size n dk i k = 0) : dk = false ∧ 0 ≤ i ∧ i < n ∧ k ≤ size := by
  unfold mayC at h
  cases dk
  · simp only [Bool.false_eq_true, if_false] at h
    split at h
    · omega
    · exact ⟨rfl, by omega, by omega, by omega⟩
  · simp at h
theorem dH_W {b : Nat} {a : DA} {l : DL} (h : a.W ≠ []) : dH b a l = (b, dkM a.size (ms l.bl 0 a.n l.cl) (ms l.bs 0 a.n l.cs) (ms l.bw 0 a.W.length l.k) a.f a.dk a.de) :: (l.bs, MB.cells (rws a.S) l.cs 36) :: (l.bl, MB.cells (rws a.L) l.cl 36) :: [(l.bw, MB.cells (wcs a.W) (l.k * 2) 76)] := by
  obtain ⟨s, n, L, S, W, f, dk, de⟩ := a
  cases W with
  | nil => exact absurd rfl h
  | cons w r => rfl
theorem dH_0 {b : Nat} {a : DA} {l : DL} (h : a.W = []) : dH b a l = [(b, dkM a.size (ms l.bl 0 a.n l.cl) (ms l.bs 0 a.n l.cs) nl a.f a.dk a.de), (l.bs, MB.cells (rws a.S) l.cs 36), (l.bl, MB.cells (rws a.L) l.cl 36)] := by
  obtain ⟨s, n, L, S, W, f, dk, de⟩ := a
  cases W with
  | nil => rfl
  | cons w r => exact absurd h (by simp)
variable {b a l}
theorem write_d {c : Nat} (hA : AOk c a) (hl : LOk b a l) (hc : c ≤ 1000) (i : Int) (zs : List Int) :
    ACt Try.prog 29 [pt b 0, iv .i64 i, .slz .u8 zs] (dH b a l) (fun r F' => ∃ q : LS b (wrA a i zs), r = iv .i64 (wrC a i zs.length) ∧ F' = dH b (wrA a i zs) q.1) := by
  by_cases h1 : mayA a i zs.length ≠ 0
  · have eA : wrA a i zs = a := by unfold wrA; rw [if_pos h1]
    have eC : wrC a i zs.length = mayA a i zs.length := by unfold wrC; rw [if_pos h1]
    rw [eA, eC]
    refine (first_d _ (write_bad b a.size a.de l.bs a.n l.cs (ms l.bl 0 a.n l.cl) (dW a.W l) a.f i a.dk zs h1)).mono ?_
    rintro r F' ⟨e1, e2⟩
    exact ⟨⟨l, hl⟩, e1, e2⟩
  · have h1' : mayA a i zs.length = 0 := by simpa using h1
    obtain ⟨hk, i0, i1, i2⟩ := mayC_in h1'
    by_cases h2 : a.f = 0
    · have eA : wrA a i zs = { a with dk := true } := by unfold wrA; rw [if_neg h1, if_pos h2]
      have eC : wrC a i zs.length = 12 := by unfold wrC; rw [if_neg h1, if_pos h2]
      rw [eA, eC]
      have hw := write_out b a.size a.de l.bs a.n l.cs (ms l.bl 0 a.n l.cl) (dW a.W l) i a.dk zs h1'
      unfold dH
      rw [h2]
      refine (first_d _ hw).mono ?_
      rintro r F' ⟨e1, e2⟩
      exact ⟨⟨l, ⟨hl.cl, hl.cs, hl.k, hl.nd⟩⟩, e1, by rw [e2]⟩
    · have eC : wrC a i zs.length = 0 := by unfold wrC; rw [if_neg h1, if_neg h2]
      have eA : wrA a i zs = { a with f := fuseN a.f, de := a.de + 1, W := a.W ++ [(i.toNat, pad a.size zs)], S := a.S.set i.toNat (pad a.size zs) } := by unfold wrA; rw [if_neg h1, if_neg h2]
      have eW : (wrA a i zs).W ≠ [] := by rw [eA]; simp
      rw [eC]
      obtain ⟨m, rfl⟩ := Int.eq_ofNat_of_zero_le i0
      have hm : m < a.n := by omega
      have hz : zs.length ≤ a.size := by omega
      have hde := hA.de
      have hWc := hA.Wc
      have key : ∀ x k : Nat, a.W.length + 1 ≤ k ∧ k ≤ 9223372036854775807 → ∀ R : Hp, (([(x, MB.cells (wcs (a.W ++ [(m, pad a.size zs)])) (k * 2) 76), (b, dkM a.size (ms l.bl 0 a.n l.cl) (ms l.bs 0 a.n l.cs) (ms x 0 (a.W.length + 1) k) (fuseN a.f) false (a.de + 1)), (l.bs, MB.cells (rws (a.S.set m (pad a.size zs))) l.cs 36)] ++ [(l.bl, MB.cells (rws a.L) l.cl 36)]).map (·.1)).Nodup →
          ∃ H' D, ([(x, MB.cells (wcs (a.W ++ [(m, pad a.size zs)])) (k * 2) 76), (b, dkM a.size (ms l.bl 0 a.n l.cl) (ms l.bs 0 a.n l.cs) (ms x 0 (a.W.length + 1) k) (fuseN a.f) false (a.de + 1)), (l.bs, MB.cells (rws (a.S.set m (pad a.size zs))) l.cs 36)] ++ [(l.bl, MB.cells (rws a.L) l.cl 36)]).Perm (H' ++ D) ∧
            ∃ q : LS b (wrA a m zs), iv .i64 0 = iv .i64 0 ∧ H' = dH b (wrA a m zs) q.1 := fun x k hk' R hn => by
        have e : dH b (wrA a m zs) { l with bw := x, k := k } = [(b, dkM a.size (ms l.bl 0 a.n l.cl) (ms l.bs 0 a.n l.cs) (ms x 0 (a.W.length + 1) k) (fuseN a.f) false (a.de + 1)), (l.bs, MB.cells (rws (a.S.set m (pad a.size zs))) l.cs 36), (l.bl, MB.cells (rws a.L) l.cl 36), (x, MB.cells (wcs (a.W ++ [(m, pad a.size zs)])) (k * 2) 76)] := by
          rw [dH_W eW, eA]
          simp only [List.length_append, List.length_cons, List.length_nil, Int.toNat_natCast, hk]
        have hp : ([(x, MB.cells (wcs (a.W ++ [(m, pad a.size zs)])) (k * 2) 76), (b, dkM a.size (ms l.bl 0 a.n l.cl) (ms l.bs 0 a.n l.cs) (ms x 0 (a.W.length + 1) k) (fuseN a.f) false (a.de + 1)), (l.bs, MB.cells (rws (a.S.set m (pad a.size zs))) l.cs 36)] ++ [(l.bl, MB.cells (rws a.L) l.cl 36)]).Perm (dH b (wrA a m zs) { l with bw := x, k := k } ++ []) := by
          rw [List.append_nil, e]
          exact List.perm_append_comm (l₁ := [_])
        refine ⟨_, [], hp, ⟨⟨{ l with bw := x, k := k }, ⟨?_, ?_, fun _ => ?_, nd_of hp hn⟩⟩, rfl, rfl⟩⟩
        · rw [eA]; exact hl.cl
        · rw [eA]; exact hl.cs
        · rw [eA]; simpa using hk'
      by_cases hW : a.W = []
      · rw [dH_0 hW, hk]
        refine ACt.frm (R := [(l.bl, MB.cells (rws a.L) l.cl 36)]) (write_first b a.size a.de l.bs a.n l.cs m (ms l.bl 0 a.n l.cl) a.f a.S zs hl.d1.1 hA.Sl hm hA.n2 hl.cs hz hA.s2 h2 hA.f1 hA.f2 (by omega)) (.refl _) fun r F' hr hn => ?_
        obtain ⟨x, k, hk', e1, e2⟩ := hr
        subst e1 e2
        have := key x k (by rw [hW]; exact hk') []
        rw [hW] at this
        exact this hn
      · rw [dH_W hW, hk]
        have hk2 := hl.k hW
        have hnd := hl.nd
        rw [dH_W hW] at hnd
        simp only [List.map_cons, List.nodup_cons, List.mem_cons, not_or] at hnd
        obtain ⟨⟨_, _, d1, _⟩, ⟨_, d2, _⟩, _⟩ := hnd
        have hm1 : 1 ≤ a.W.length := by
          have : a.W.length ≠ 0 := fun h => hW (List.eq_nil_of_length_eq_zero h)
          omega
        refine ACt.frm (R := [(l.bl, MB.cells (rws a.L) l.cl 36)]) (write_more b a.size a.de l.bs a.n l.cs m l.bw l.k a.W.length (ms l.bl 0 a.n l.cl) a.f a.S a.W rfl hk2.1 hm1 (by omega) hk2.2 ⟨⟨d1, Ne.symm d1⟩, d2, Ne.symm d2⟩ zs hl.d1.1 hA.Sl hm hA.n2 hl.cs hz hA.s2 h2 hA.f1 hA.f2 (by omega))
          (.cons _ (.cons _ (.swap _ _ _))) fun r F' hr hn => ?_
        obtain ⟨x, k, hk', e1, e2⟩ := hr
        subst e1 e2
        exact key x k hk' [] hn
def syC (a : DA) : Int := if a.dk = true then 12 else if a.f = 0 then 12 else 0
def syA (a : DA) : DA := if a.dk = true then a else if a.f = 0 then { a with dk := true } else { a with f := fuseN a.f, de := a.de + 1, L := a.S, W := [] }
theorem sync_d {c : Nat} (hA : AOk c a) (hl : LOk b a l) (hc : c ≤ 1000) :
    ACt Try.prog 23 [pt b 0] (dH b a l) (fun r F' => ∃ q : LS b (syA a), r = iv .i64 (syC a) ∧ F' = dH b (syA a) q.1) := by
  by_cases h1 : a.dk = true
  · have eA : syA a = a := by unfold syA; rw [if_pos h1]
    have eC : syC a = 12 := by unfold syC; rw [if_pos h1]
    rw [eA, eC]
    have hs := sync_dark b a.size a.de l.bs a.n l.cs (ms l.bl 0 a.n l.cl) (dW a.W l) a.f
    rw [← h1] at hs
    refine (first_d _ hs).mono ?_
    rintro r F' ⟨e1, e2⟩
    exact ⟨⟨l, hl⟩, e1, e2⟩
  · have hk : a.dk = false := by simpa using h1
    by_cases h2 : a.f = 0
    · have eA : syA a = { a with dk := true } := by unfold syA; rw [if_neg h1, if_pos h2]
      have eC : syC a = 12 := by unfold syC; rw [if_neg h1, if_pos h2]
      rw [eA, eC]
      have hs := sync_out b a.size a.de l.bs a.n l.cs (ms l.bl 0 a.n l.cl) (dW a.W l) hA.n1
      rw [← hk] at hs
      unfold dH
      rw [h2]
      refine (first_d _ hs).mono ?_
      rintro r F' ⟨e1, e2⟩
      exact ⟨⟨l, ⟨hl.cl, hl.cs, hl.k, hl.nd⟩⟩, e1, by rw [e2]⟩
    · have eA : syA a = { a with f := fuseN a.f, de := a.de + 1, L := a.S, W := [] } := by unfold syA; rw [if_neg h1, if_neg h2]
      have eC : syC a = 0 := by unfold syC; rw [if_neg h1, if_neg h2]
      rw [eA, eC]
      have hde := hA.de
      have hs := sync_ok b a.size a.de l.bl l.cl l.bs l.cs a.n (dW a.W l) a.f a.S hl.d1.1 hA.Sl hA.n1 hA.n2 hl.cs h2 hA.f1 hA.f2 (by omega)
      rw [← hk] at hs
      unfold dH
      refine ACt.frm (R := (l.bl, MB.cells (rws a.L) l.cl 36) :: dB a.W l) hs (.refl _) fun r F' hr hn => ?_
      obtain ⟨x, k, hk', e1, e2⟩ := hr
      subst e1 e2
      have hp : ([(x, MB.cells (rws a.S) k 36), (b, dkM a.size (ms x 0 a.n k) (ms l.bs 0 a.n l.cs) nl (fuseN a.f) a.dk (a.de + 1)), (l.bs, MB.cells (rws a.S) l.cs 36)] ++ ((l.bl, MB.cells (rws a.L) l.cl 36) :: dB a.W l)).Perm
          (dH b { a with f := fuseN a.f, de := a.de + 1, L := a.S, W := [] } { l with bl := x, cl := k } ++ ((l.bl, MB.cells (rws a.L) l.cl 36) :: dB a.W l)) := by
        refine List.Perm.append_right _ ?_
        rw [dH_0 rfl]
        exact List.perm_append_comm (l₁ := [_])
      exact ⟨_, _, hp, ⟨{ l with bl := x, cl := k }, ⟨hk', hl.cs, fun h => absurd rfl h, nd_of hp hn⟩⟩, rfl, rfl⟩
def crA (a : DA) (keep torn : Int) : DA := { a with L := crL a.L a.W (hN keep a.W.length) (hN torn a.size), S := crL a.L a.W (hN keep a.W.length) (hN torn a.size), W := [], f := -1, dk := false }
def nwA (n size : Nat) : DA := ⟨size, n, List.replicate n (zrow size), List.replicate n (zrow size), [], -1, false, 0⟩
abbrev NS (n size : Nat) : Type := {p : Nat × DL // LOk p.1 (nwA n size) p.2}
theorem new_d (n size : Nat) (h1 : 1 ≤ n) (h2 : n ≤ 400) (h3 : 32 ≤ size) (h4 : size ≤ 512) : ACt Try.prog 26 [iv .i64 (n : Int), iv .i64 (size : Int)] []
    (fun r F' => ∃ g : NS n size, r = .tup [pt g.1.1 0, iv .i64 0] ∧ F' = dH g.1.1 (nwA n size) g.1.2) := by
  refine ACt.frm (R := []) (new_ok n size h1 h2 h3 h4) (.refl _) fun r F' hr hn => ?_
  obtain ⟨⟨⟨x, l, cl⟩, s, cs⟩, hk', e1, e2⟩ := hr
  subst e1 e2
  have hp : ([(x, dkM size (ms l 0 n cl) (ms s 0 n cs) nl (-1) false 0), (l, MB.cells (rws (List.replicate n (zrow size))) cl 36), (s, MB.cells (rws (List.replicate n (zrow size))) cs 36)] ++ []).Perm (dH x (nwA n size) ⟨l, cl, s, cs, 0, 0⟩ ++ []) := by
    rw [List.append_nil, List.append_nil]
    exact .cons _ (.swap _ _ _)
  exact ⟨_, _, hp, ⟨⟨(x, ⟨l, cl, s, cs, 0, 0⟩), ⟨hk'.1, hk'.2, fun h => absurd rfl h, nd_of hp hn⟩⟩, rfl, rfl⟩⟩
end
theorem nwA_ok {n size : Nat} (h1 : 1 ≤ n) (h2 : n ≤ 400) (h3 : 32 ≤ size) (h4 : size ≤ 512) : AOk 0 (nwA n size) :=
  ⟨h1, h2, by simp only [nwA]; omega, h4, by simp [nwA], fun z hz => by rw [List.eq_of_mem_replicate hz]; simp [nwA, zrow], by simp [nwA], fun z hz => by rw [List.eq_of_mem_replicate hz]; simp [nwA, zrow],
    fun w hw => (by cases hw), by simp [nwA], by simp [nwA], by simp [nwA], by simp [nwA]⟩
theorem pad_len {size : Nat} {zs : List Int} (h : zs.length ≤ size) : (pad size zs).length = size := by simp [pad]; omega
theorem fuseN_le {f : Int} (h : -1 ≤ f) : -1 ≤ fuseN f ∧ fuseN f ≤ f := by unfold fuseN; split <;> omega
theorem set_rows {L : List (List Int)} {i size : Nat} {x : List Int} (h : ∀ z ∈ L, z.length = size) (hx : x.length = size) : ∀ z ∈ L.set i x, z.length = size := fun z hz => by
  rcases List.mem_or_eq_of_mem_set hz with h1 | rfl
  · exact h z h1
  · exact hx
theorem AOk.up {c : Nat} {a : DA} (h : AOk c a) : AOk (c + 1) a := { h with Wc := by have := h.Wc; omega, de := by have := h.de; omega }
theorem AOk.le {c d : Nat} {a : DA} (h : AOk c a) (hd : c ≤ d) : AOk d a := { h with Wc := by have := h.Wc; omega, de := by have := h.de; omega }
theorem wrA_ok {c : Nat} {a : DA} (h : AOk c a) (i : Int) (zs : List Int) : AOk (c + 1) (wrA a i zs) := by
  unfold wrA
  by_cases h1 : mayA a i zs.length ≠ 0
  · rw [if_pos h1]; exact h.up
  · rw [if_neg h1]
    have h1' : mayA a i zs.length = 0 := by simpa using h1
    obtain ⟨hk, i0, i1, i2⟩ := mayC_in h1'
    split
    · exact { h.up with }
    · have hp : (pad a.size zs).length = a.size := pad_len (by omega)
      have hf := fuseN_le h.f1
      exact ⟨h.n1, h.n2, h.s1, h.s2, h.Ll, h.Lr, by simp only [List.length_set]; exact h.Sl, set_rows h.Sr hp, fun w hw => by
        rcases List.mem_append.1 hw with hw | hw
        · exact h.W w hw
        · rw [List.mem_singleton.1 hw]; exact ⟨by simp only; omega, hp⟩, by simp only [List.length_append, List.length_cons, List.length_nil]; have := h.Wc; omega, hf.1, by have := h.f2; simp only; omega, by have := h.de; simp only; omega⟩
theorem syA_ok {c : Nat} {a : DA} (h : AOk c a) : AOk (c + 1) (syA a) := by
  unfold syA
  split
  · exact h.up
  · split
    · exact { h.up with }
    · have hf := fuseN_le h.f1
      exact ⟨h.n1, h.n2, h.s1, h.s2, h.Sl, h.Sr, h.Sl, h.Sr, fun w hw => (by cases hw), by simp, hf.1, by have := h.f2; simp only; omega, by have := h.de; simp only; omega⟩
end Go.Proofs.Yteoajodoejoccaa
namespace Go.Proofs.Yteoajodoejoccaa
open Go
set_option linter.unusedVariables false
set_option linter.unusedSimpArgs false
theorem pmz {α : Type} (H : List α) : H.Perm (H ++ []) := by rw [List.append_nil]
end Go.Proofs.Yteoajodoejoccaa
namespace Go.Proofs.Yteoajodoejoccaa
open Go
set_option linter.unusedVariables false
set_option linter.unusedSimpArgs false
set_option linter.defProp false
def TFBlL :=
  And.intro (And.intro (And.intro (And.intro tyc3 (And.intro zmb3 tyc4)) (And.intro (And.intro zmb4 tyc5) (And.intro zmb5 tyc9))) (And.intro (And.intro (And.intro zmb9 tyc25) (And.intro mth25_45 mth25_44)) (And.intro (And.intro mth25_43 con25) (And.intro zmb25 tyc28)))) (And.intro (And.intro (And.intro (And.intro zmb28 tyc36) (And.intro elt36 mkz36)) (And.intro (And.intro apT36 elk36) (And.intro zmb36 tyc62))) (And.intro (And.intro (And.intro Try.underlying3 Try.underlying4) (And.intro Try.underlying5 Try.underlying9)) (And.intro (And.intro Try.underlying25 Try.underlying28) (And.intro Try.underlying36 Try.underlying62))))
theorem Y1BlL {G R : Prop} (r : R) (h : R → G := by intro r; first | (apply WP.region; exact rvc_sound _ _ (Sm.out r)) | exact WP.drawK rfl mixed (by decide +kernel) (Sm.out r) | (apply WP.block; exact r) | (apply WP.skip; exact Yq r) | (apply WP.exit; exact Yq r) | (apply WP.ret; exact Sm.out r) | exact WP.cond rfl (fun _ => r) (fun hg => absurd hg (by decide)) | exact WP.cond rfl (fun hg => absurd hg (by decide)) (fun _ => r) | exact Rt.mk (And.intro (fun _ => Sm.out r) fun hg => absurd hg (by decide)) | exact Rt.mk (And.intro (fun hg => absurd hg (by decide)) fun _ => Sm.out r)) : G := h r
theorem YzBlL {G R : Prop} (r : R) (h : R → G := by intro r; first | (apply ExG.no; exact Sm.out r) | (apply Or.inl; apply ExG.no; exact Sm.out r) | exact Or.inl (And.intro (fun hg => absurd hg (by decide)) (ExG.no (Sm.out r)))) : G := h r
theorem bstr_size (zs : List Int) : (bstr zs).size = zs.length := by simp [bstr, ByteArray.size]
theorem bstr_app (xs ys : List Int) : bstr xs ++ bstr ys = bstr (xs ++ ys) := by
  apply ByteArray.ext
  simp [bstr, ByteArray.data_append]
theorem bstr_ext (zs : List Int) (lo hi : Nat) : (bstr zs).extract lo hi = bstr ((zs.take hi).drop lo) := by
  apply ByteArray.ext
  rw [ByteArray.data_extract]
  apply Array.ext'
  simp [bstr, List.map_take, List.map_drop, List.drop_take]
theorem flat_split {s : Nat} : ∀ (X : List (List Int)) (i : Nat) (y : List Int), (∀ z ∈ X, z.length = s) → X[i]? = some y → ∃ A B : List Int, A.length = s * i ∧ X.flatten = A ++ (y ++ B) ∧ ∀ z, (X.set i z).flatten = A ++ (z ++ B)
  | x :: r, 0, y, h, hy => by
    simp only [List.getElem?_cons_zero, Option.some.injEq] at hy
    subst hy
    exact ⟨[], r.flatten, by simp, by simp, fun z => by simp⟩
  | x :: r, i + 1, y, h, hy => by
    obtain ⟨A, B, h1, h2, h3⟩ := flat_split r i y (fun z hz => h z (List.mem_cons_of_mem _ hz)) (by simpa using hy)
    refine ⟨x ++ A, B, ?_, by simp [h2], fun z => by simp [h3 z]⟩
    rw [List.length_append, h1, h x (List.mem_cons_self ..), Nat.mul_succ]; omega
theorem baBeq (s : ByteArray) : (s == s) = true := by
  obtain ⟨a⟩ := s
  show (a == a) = true
  exact beq_self_eq_true _
theorem flat_len {size : Nat} : ∀ (L : List (List Int)), (∀ z ∈ L, z.length = size) → L.flatten.length = L.length * size
  | [], _ => by simp
  | x :: r, h => by
    rw [List.flatten_cons, List.length_append, flat_len r fun z hz => h z (List.mem_cons_of_mem _ hz), h x (List.mem_cons_self ..), List.length_cons, Nat.succ_mul]; omega
set_option maxRecDepth 20000 in
theorem all_ct (b : Nat) (a : DA) (l : DL) {c : Nat} (hA : AOk c a) (hl : LOk b a l) (hk : a.dk = false) : ACt Try.prog 9 [pt b 0] (dH b a l) (fun r F' => r = .lit (.string (bstr a.S.flatten)) ∧ F' = dH b a l) := by
  refine ACt.intro Try.func9 rfl (by kernel_rfl) (by simp [Try.ntmps9]) (fun cx => ?_)
  simp only [argE, Try.ntmps9, Try.results9]
  have cB := blocks_d b a l
  first | (have FRx := FR; clear FRx) | have FR := fr0S
  have FA := Sm.mk (TFBlL)
  repeat' first | (apply Sm.mk; refine Ys ?_) | refine WP.seq fun K hK => ?_ | (apply Ob.mk; exact Yo) | refine And.intro (Ob.out ?_) ?_ | refine Y1BlL ?_ | refine YzBlL ?_ | (refine WP.cond rfl (fun hc => ?_) (fun hc => ?_) <;> (try simp only [ZC, reduceCtorEq, ZD] at hc) <;> (try exact absurd hc (by decide)) <;> (try (exfalso; omega))) | refine Rt.mk (And.intro (fun hg => Sm.out ?_) fun hg => Sm.out ?_) | (refine Nu.mk ?_; first | (fail_if_success have := nb1); intro nb1 | (fail_if_success have := nb2); intro nb2 | (fail_if_success have := nb3); intro nb3 | intro nbz) | (apply Yfr; refine Yf FR fun hFRb FR => ?_) | refine Two.mk ?_ ?_ | (apply Yxc; exact Yx) | refine Cs.mk fun hcs => Sm.out ?_ | go_step | omega | (simp only [maxLen_eq]; omega) | exact trivial
  refine WP.loop (Γ := Nat) (fun i => ⟨[(4, iv .i64 (i : Nat)), (3, .lit (.string (bstr (a.S.take i).flatten))), (0, pt b 0)], dH b a l⟩)
    (fun i => i ≤ a.n) (fun i => a.n - i) 0 (by omega) (Sub.of_env [] (pmz _) (by simp [look, bstr])) ?_
  intro i hi
  have FR : Sm (¬ ((1 : Nat) = 0)) := Sm.mk Nat.one_ne_zero
  by_cases hlt : i < a.n
  · have k1 : decide ((i : Int) < (a.n : Int)) = true := by simp; omega
    have cR := readok_d b a l hA hl i hlt hk
    have w1 : IntKind.i64.wrap ((i : Int) + 1) = ((i + 1 : Nat) : Int) := by have := hA.n2; rw [wrap_i64 (by omega) (by omega)]; omega
    have hs := hA.Sl
    have et : (a.S.take (i + 1)).flatten = (a.S.take i).flatten ++ a.S.getD i [] := by
      rw [List.take_add_one, List.getElem?_eq_getElem (by omega), List.flatten_append, List.getD_eq_getElem?_getD, List.getElem?_eq_getElem (by omega)]
      simp
    have z1 : (a.S.getD i []).length = a.size := by
      rw [List.getD_eq_getElem?_getD, List.getElem?_eq_getElem (by omega)]
      exact hA.Sr _ (List.getElem_mem _)
    have z2 : (a.S.take i).flatten.length = i * a.size := by
      rw [flat_len (size := a.size) _ fun z hz => hA.Sr z (List.mem_of_mem_take hz), List.length_take, Nat.min_eq_left (by omega)]
    have zz : (bstr (a.S.take i).flatten).size + (bstr (a.S.getD i [])).size ≤ 9223372036854775807 := by
      rw [bstr_size, bstr_size, z1, z2]
      have h1 := hA.n2
      have h2 := hA.s2
      have : i * a.size ≤ 400 * 512 := Nat.mul_le_mul (by omega) h2
      omega
    first | (have FRx := FR; clear FRx) | have FR := fr0S
    have FA := Sm.mk (And.intro TFBlL k1)
    repeat' first | (apply Sm.mk; refine Ys ?_) | refine WP.seq fun K hK => ?_ | (apply Ob.mk; exact Yo) | refine And.intro (Ob.out ?_) ?_ | refine Y1BlL ?_ | refine CallV.updM (cB) (pmz _) (Sm.out ?_) | ((first | refine ExF.up ?_ (cB) (Sm.out ?_) | refine ExG.up ?_ (fun _ => cB) (Sm.out ?_) | refine ExG.upJ ?_ (fun _ => cB) (Sm.out ?_) | refine ExG.upI ?_ (fun _ => cB) (Ob.out ?_) (Sm.out ?_)); focus (exact ⟨_, (pmz _)⟩)) | refine CallV.updM (cR) (pmz _) (Sm.out ?_) | ((first | refine ExF.up ?_ (cR) (Sm.out ?_) | refine ExG.up ?_ (fun _ => cR) (Sm.out ?_) | refine ExG.upJ ?_ (fun _ => cR) (Sm.out ?_) | refine ExG.upI ?_ (fun _ => cR) (Ob.out ?_) (Sm.out ?_)); focus (exact ⟨_, (pmz _)⟩)) | refine YzBlL ?_ | (refine WP.cond rfl (fun hc => ?_) (fun hc => ?_) <;> (try simp only [ZC, reduceCtorEq, ZD] at hc) <;> (try exact absurd hc (by decide)) <;> (try (exfalso; omega))) | refine Rt.mk (And.intro (fun hg => Sm.out ?_) fun hg => Sm.out ?_) | (refine Nu.mk ?_; first | (fail_if_success have := nb1); intro nb1 | (fail_if_success have := nb2); intro nb2 | (fail_if_success have := nb3); intro nb3 | intro nbz) | (apply Yfr; refine Yf FR fun hFRb FR => ?_) | refine Two.mk ?_ ?_ | (apply Yxc; exact Yx) | refine Cs.mk fun hcs => Sm.out ?_ | go_step | omega | (simp only [maxLen_eq]; omega) | exact trivial
    exact ⟨i + 1, by omega, by omega, Sub.of_env [] (pmz _) (by simp [look, w1, et, bstr_app])⟩
  · obtain rfl : i = a.n := by omega
    have k1 : decide ((a.n : Int) < (a.n : Int)) = false := by simp
    have et : a.S.take a.n = a.S := List.take_of_length_le (by have := hA.Sl; omega)
    first | (have FRx := FR; clear FRx) | have FR := fr0S
    have FA := Sm.mk (And.intro TFBlL k1)
    repeat' first | (apply Sm.mk; refine Ys ?_) | refine WP.seq fun K hK => ?_ | (apply Ob.mk; exact Yo) | refine And.intro (Ob.out ?_) ?_ | refine Y1BlL ?_ | refine CallV.updM (cB) (pmz _) (Sm.out ?_) | ((first | refine ExF.up ?_ (cB) (Sm.out ?_) | refine ExG.up ?_ (fun _ => cB) (Sm.out ?_) | refine ExG.upJ ?_ (fun _ => cB) (Sm.out ?_) | refine ExG.upI ?_ (fun _ => cB) (Ob.out ?_) (Sm.out ?_)); focus (exact ⟨_, (pmz _)⟩)) | refine YzBlL ?_ | (refine WP.cond rfl (fun hc => ?_) (fun hc => ?_) <;> (try simp only [ZC, reduceCtorEq, ZD] at hc) <;> (try exact absurd hc (by decide)) <;> (try (exfalso; omega))) | refine Rt.mk (And.intro (fun hg => Sm.out ?_) fun hg => Sm.out ?_) | (refine Nu.mk ?_; first | (fail_if_success have := nb1); intro nb1 | (fail_if_success have := nb2); intro nb2 | (fail_if_success have := nb3); intro nb3 | intro nbz) | (apply Yfr; refine Yf FR fun hFRb FR => ?_) | refine Two.mk ?_ ?_ | (apply Yxc; exact Yx) | refine Cs.mk fun hcs => Sm.out ?_ | go_step | omega | (simp only [maxLen_eq]; omega) | exact trivial
    (refine OutQ.drop _ _ (pmz _) (by simp only [resv, ZK, look, loadv, loadn, loadnm, load1, load1m, hget, ↓reduceIte, Nat.reduceEqDiff, Nat.reduceAdd, Nat.reduceMul, Nat.reduceLeDiff, Nat.reduceLT, reduceCtorEq, TFBlL, FR.out, et]) ⟨(by simp only [resv, resA, ZK, look, loadv, loadn, loadnm, load1, load1m, hget, ↓reduceIte, Nat.reduceEqDiff, Nat.reduceAdd, Nat.reduceMul, Nat.reduceLeDiff, Nat.reduceLT, reduceCtorEq, TFBlL, FR.out, et]; first | done | rfl), rfl⟩)
end Go.Proofs.Yteoajodoejoccaa
