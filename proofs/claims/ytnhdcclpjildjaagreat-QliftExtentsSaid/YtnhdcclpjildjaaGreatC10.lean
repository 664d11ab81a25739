/- Walks piece by piece: loops, conditions, regions whose guards are known; nil cells as rows; three ro. -/
import Derived.Test.YtnhdcclpjildjaaGreatC9
namespace Go.Proofs.YtnhdcclpjildjaaGreat
open Go.RowKit
section
variable {P : Program} {w0 : World} {G : Gs} {N : Nd} {c d : Code} {f : Fr} {S : List Ow} {Q : Exit → Act → World → Prop}
theorem satq_cond {x : Operand} {t : Bool} (ht : f.ev x = one (.bool t)) (h1 : t = true → SatQ P w0 G N c f S Q) (h2 : t = false → SatQ P w0 G N d f S Q) : SatQ P w0 G N (.cond x c d) f S Q := by
 refine ⟨fun a w hg => ?_⟩
 obtain ⟨r, hR, hf, hN, hd⟩ := hg
 have hc := hf.ev x
 rw [ht] at hc
 have hc := den_v hc
 exact wpIn_cond_split hc (fun e => (h1 e).out a w ⟨r, hR, hf, hN, hd⟩) (fun e => (h2 e).out a w ⟨r, hR, hf, hN, hd⟩)
theorem satq_skip (h : AtQ w0 G N .normal f S Q) : SatQ P w0 G N .skip f S Q := ⟨fun a w hg => wpIn_skip (h.out a w hg)⟩
theorem atq_on {d : Code} (h : SatQ P w0 G N d f S Q) : AtQ w0 G N .normal f S (Exit.then (d.wpIn Fence.wide 10 P Q) Q) := ⟨fun a w hg => h.out a w hg⟩
theorem atq_exit {id : Nat} (h : AtQ w0 G N .normal f S Q) : AtQ w0 G N (.exit id) f S (Exit.inBlock id Q) := ⟨fun a w hg => by
 show (if id = id then Q .normal a w else _)
 rw [if_pos rfl]; exact h.out a w hg⟩
theorem atq_block {id : Nat} (h : AtQ w0 G N .normal f S Q) : AtQ w0 G N .normal f S (Exit.inBlock id Q) := ⟨fun a w hg => h.out a w hg⟩
def MidQ {α : Type} (w0 : World) (G : Gs) (N : Nd) (T : α → Fr) (U : α → List Ow) (Q : Exit → Act → World → Prop) : Exit → Act → World → Prop := fun e a w => match e with
 | .normal => ∃ y, Good w0 G N (T y) (U y) a w
 | e => Q e a w
theorem satq_mid {α : Type} (T : α → Fr) (U : α → List Ow) (hc : SatQ P w0 G N c f S (MidQ w0 G N T U Q)) (hd : ∀ y, SatQ P w0 G N d (T y) (U y) Q) : SatQ P w0 G N (.seq c d) f S Q :=
 satq_in ⟨fun a w hg => wpIn_mono (hc.out a w hg) fun e a' w' hq => by
  cases e with
  | normal => obtain ⟨y, hy⟩ := hq; exact (hd y).out a' w' hy
  | exit id => exact hq
  | goto l => exact hq
  | ret => exact hq
  | panic ch => exact hq
  | outgrown => exact hq⟩
theorem atq_mid {α : Type} {T : α → Fr} {U : α → List Ow} (y : α) (h : Ent w0 G N f S (T y) (U y)) : AtQ w0 G N .normal f S (MidQ w0 G N T U Q) := ⟨fun a w hg => ⟨y, h.out a w hg⟩⟩
def RoundQ {α : Type} (w0 : World) (G : Gs) (N : Nd) (T : α → Fr) (U : α → List Ow) (m : α → Nat) (n : Nat) (Q : Exit → Act → World → Prop) : Exit → Act → World → Prop := fun e a w => match e with
 | .normal => ∃ y, Good w0 G N (T y) (U y) a w ∧ m y < n
 | e => Q e a w
theorem atq_next {α : Type} {T : α → Fr} {U : α → List Ow} {m : α → Nat} {n : Nat} (y : α) (h : Ent w0 G N f S (T y) (U y)) (hm : m y < n) : AtQ w0 G N .normal f S (RoundQ w0 G N T U m n Q) := ⟨fun a w hg => ⟨y, h.out a w hg, hm⟩⟩
theorem atq_out {α : Type} {T : α → Fr} {U : α → List Ow} {m : α → Nat} {n : Nat} {id : Nat} (h : AtQ w0 G N (.exit id) f S Q) : AtQ w0 G N (.exit id) f S (RoundQ w0 G N T U m n Q) := ⟨fun a w hg => h.out a w hg⟩
theorem satq_loop {α : Type} (T : α → Fr) (U : α → List Ow) (m : α → Nat) (x0 : α) (h0 : Ent w0 G N f S (T x0) (U x0)) (hround : ∀ x, SatQ P w0 G N c (T x) (U x) (RoundQ w0 G N T U m (m x) Q)) : SatQ P w0 G N (.loop c) f S Q := by
 refine ⟨fun a w hg => ?_⟩
 intro b k cs hro hb hr
 have key : ∀ (n : Nat) (x : α), m x = n → ∀ a w, Good w0 G N (T x) (U x) a w → ∃ e a' w', Q e a' w' ∧ ArrivesIn (Machine.fenced P Fence.wide) P (lone (b.atR a (.code c :: .inLoop c :: k)) cs w) b k cs e a' w' := by
  intro n
  induction n using Nat.strongRecOn with
  | _ n ih =>
   intro x hx a w hg
   obtain ⟨e, a', w', hq, harr⟩ := (hround x).out a w hg b (.inLoop c :: k) cs hro hb hr
   cases e with
   | normal =>
    obtain ⟨y, hgy, hlt⟩ := hq
    obtain ⟨e2, a2, w2, hq2, harr2⟩ := ih (m y) (by omega) y rfl a' w' hgy
    exact ⟨e2, a2, w2, hq2, .of_steps (StepsIn.trans harr (.one (fenced_calm hb hr rfl) stepR_inLoop)) harr2⟩
   | exit id => exact ⟨_, a', w', hq, .pass (x := .inLoop c) rfl (fun _ _ => .inl (by simp)) harr⟩
   | goto l => exact ⟨_, a', w', hq, .pass (x := .inLoop c) rfl (fun _ _ => .inl (by simp)) harr⟩
   | ret => exact ⟨_, a', w', hq, .pass (x := .inLoop c) rfl (fun _ _ => .inl (by simp)) harr⟩
   | panic ch => exact ⟨_, a', w', hq, .pass (x := .inLoop c) rfl (fun _ _ => .inl (by simp)) harr⟩
   | outgrown => exact ⟨_, a', w', hq, .pass (x := .inLoop c) rfl (fun _ _ => .inl (by simp)) harr⟩
 obtain ⟨e, a', w', hq, harr⟩ := key _ x0 rfl a w (h0.out a w hg)
 exact ⟨e, a', w', hq, .of_steps (.one (fenced_calm hb hr rfl) stepR_loop) harr⟩
end
theorem Rel.snocs {w0 : World} {G : Gs} {S : List Ow} {r : Env} {w w' : World} (h : Rel w0 G S r w) (hb : Below w.heap.size w w') (T : List Ow) (r' : Env) (hle : ∀ i, i < S.length → r'.blk i = r.blk i ∧ r'.val i = r.val i) (hnb : ∀ i x, S.length ≤ i → r'.blk i = some x → w.heap.size ≤ x ∧ x < w'.heap.size) (hinj : ∀ i j x, S.length ≤ i → S.length ≤ j → r'.blk i = some x → r'.blk j = some x → i = j)
  (hout : ∀ i, S.length + T.length ≤ i → r'.blk i = none ∧ r'.val i = none) (ho : ∀ (j : Nat) (o : Ow), T[j]? = some o → o.holds r' w' (S.length + j)) : Rel w0 G (S ++ T) r' w' ∧ r.le r' := by
 have h' := h.below hb
 have hleB : ∀ i x, r.blk i = some x → r'.blk i = some x := fun i x hx => by
  rcases Nat.lt_or_ge i S.length with h1 | h1
  ·rw [(hle i h1).1]; exact hx
  ·rw [h.outB i h1] at hx; cases hx
 have hleV : ∀ i x, r.val i = some x → r'.val i = some x := fun i x hx => by
  rcases Nat.lt_or_ge i S.length with h1 | h1
  ·rw [(hle i h1).2]; exact hx
  ·rw [h.outV i h1] at hx; cases hx
 have hle' : r.le r' := ⟨hleB, hleV⟩
 refine ⟨⟨h'.os, h'.tape, h'.output, h'.size, h'.old, fun i o' hi => ?_, fun i j x hx hy => ?_, fun i x hx => ?_, fun i hi => ?_, fun i hi => ?_, fun i g hg => hleB i g (h.first i g hg)⟩, hle'⟩
 ·rcases Nat.lt_or_ge i S.length with h1 | h1
  ·rw [List.getElem?_append_left h1] at hi
   refine Ow.holds_block (Ow.holds_mono hle' (h.own i o' hi) (hle i h1).1 (fun k x hk => ?_)) (fun x hx => hb.block x ?_) hb.size (fun x hx _ => hb.block x hx)
   ·rcases Nat.lt_or_ge k S.length with h2 | h2
    ·left; rw [← (hle k h2).1]; exact hk
    ·exact .inr (hnb k x h2 hk).1
   ·rw [(hle i h1).1] at hx; exact (h.new i x hx).1
  ·rw [List.getElem?_append_right h1] at hi
   have := ho (i - S.length) o' hi
   rwa [show S.length + (i - S.length) = i by omega] at this
 ·rcases Nat.lt_or_ge i S.length with h1 | h1 <;> rcases Nat.lt_or_ge j S.length with h2 | h2
  ·rw [(hle i h1).1] at hx; rw [(hle j h2).1] at hy; exact h.inj _ _ _ hx hy
  ·rw [(hle i h1).1] at hx
   have := (h.new i x hx).1
   have := (hnb j x h2 hy).1
   omega
  ·rw [(hle j h2).1] at hy
   have := (h.new j x hy).1
   have := (hnb i x h1 hx).1
   omega
  ·exact hinj i j x h1 h2 hx hy
 ·rcases Nat.lt_or_ge i S.length with h1 | h1
  ·rw [(hle i h1).1] at hx; exact h'.new i x hx
  ·have := hnb i x h1 hx
   refine ⟨this.2, fun hlt => ?_⟩
   have := h.size
   omega
 ·exact (hout i (by simpa using hi)).1
 ·exact (hout i (by simpa using hi)).2
structure Rows3 (B : Nat) (w' : World) (v1 v2 v3 : Value) (b : Blk) : Prop where
 at_ : w'.ownsRow B 35 1 v1 b.at_.length (b.at_.map (.int .u32))
 pages : w'.ownsRow B 3 1 v2 b.pages.length (b.pages.map (.int .i64))
 ops : w'.ownsRow B 45 5 v3 b.ops.length (b.ops.flatMap opC)
 d12 : ∀ x, v1.ownBlock = some x → v2.ownBlock ≠ some x
 d13 : ∀ x, v1.ownBlock = some x → v3.ownBlock ≠ some x
 d23 : ∀ x, v2.ownBlock = some x → v3.ownBlock ≠ some x
def env3 (r : Env) (n : Nat) (v1 v2 v3 : Value) : Env := ⟨fun i => if i < n then r.blk i else if i = n then v1.ownBlock else if i = n + 1 then v2.ownBlock else if i = n + 2 then v3.ownBlock else Option.none, fun i => if i < n then r.val i else if i = n then some v1 else if i = n + 1 then some v2 else if i = n + 2 then some v3 else Option.none⟩
theorem env3_hi {r : Env} {n : Nat} {v1 v2 v3 : Value} {i x : Nat} (hi : n ≤ i) (h : (env3 r n v1 v2 v3).blk i = some x) : (i = n ∧ v1.ownBlock = some x) ∨ (i = n + 1 ∧ v2.ownBlock = some x) ∨ (i = n + 2 ∧ v3.ownBlock = some x) := by
 simp only [env3] at h
 rw [if_neg (by omega)] at h
 split at h
 ·exact .inl ⟨‹_›, h⟩
 ·split at h
  ·exact .inr (.inl ⟨‹_›, h⟩)
  ·split at h
   ·exact .inr (.inr ⟨‹_›, h⟩)
   ·cases h
abbrev blkRows (b : Blk) : List Ow := [.row 35 1 b.at_.length (b.at_.map (.int .u32)), .row 3 1 b.pages.length (b.pages.map (.int .i64)), .row 45 5 b.ops.length (b.ops.flatMap opC)]
theorem Rel.rows3 {w0 : World} {G : Gs} {S : List Ow} {r : Env} {w w' : World} (h : Rel w0 G S r w) (hb : Below w.heap.size w w') {v1 v2 v3 : Value} {b : Blk} (h3 : Rows3 w.heap.size w' v1 v2 v3 b) : Rel w0 G (S ++ blkRows b) (env3 r S.length v1 v2 v3) w' ∧ r.le (env3 r S.length v1 v2 v3) ∧ (env3 r S.length v1 v2 v3).val S.length = some v1 ∧ (env3 r S.length v1 v2 v3).val (S.length + 1) = some v2 ∧ (env3 r S.length v1 v2 v3).val (S.length + 2) = some v3 := by
 have hv1 : (env3 r S.length v1 v2 v3).val S.length = some v1 := by simp [env3]
 have hv2 : (env3 r S.length v1 v2 v3).val (S.length + 1) = some v2 := by simp only [env3]; rw [if_neg (by omega), if_neg (by omega), if_pos trivial]
 have hv3 : (env3 r S.length v1 v2 v3).val (S.length + 2) = some v3 := by simp only [env3]; rw [if_neg (by omega), if_neg (by omega), if_neg (by omega), if_pos trivial]
 have hb1 : (env3 r S.length v1 v2 v3).blk S.length = v1.ownBlock := by simp [env3]
 have hb2 : (env3 r S.length v1 v2 v3).blk (S.length + 1) = v2.ownBlock := by simp only [env3]; rw [if_neg (by omega), if_neg (by omega), if_pos trivial]
 have hb3 : (env3 r S.length v1 v2 v3).blk (S.length + 2) = v3.ownBlock := by simp only [env3]; rw [if_neg (by omega), if_neg (by omega), if_neg (by omega), if_pos trivial]
 have := h.snocs hb (blkRows b) (env3 r S.length v1 v2 v3) (fun i hi => by simp only [env3]; rw [if_pos hi, if_pos hi]; exact ⟨rfl, rfl⟩) (fun i x hi hx => ?_) (fun i j x hi hj hx hy => ?_) (fun i hi => ?_) (fun j o hj => ?_)
 ·exact ⟨this.1, this.2, hv1, hv2, hv3⟩
 ·rcases env3_hi hi hx with ⟨_, e⟩ | ⟨_, e⟩ | ⟨_, e⟩
  ·exact own_new h3.at_ x e
  ·exact own_new h3.pages x e
  ·exact own_new h3.ops x e
 ·rcases env3_hi hi hx with ⟨e1, e⟩ | ⟨e1, e⟩ | ⟨e1, e⟩ <;> rcases env3_hi hj hy with ⟨e2, e'⟩ | ⟨e2, e'⟩ | ⟨e2, e'⟩
  ·omega
  ·exact absurd e' (h3.d12 x e)
  ·exact absurd e' (h3.d13 x e)
  ·exact absurd e (h3.d12 x e')
  ·omega
  ·exact absurd e' (h3.d23 x e)
  ·exact absurd e (h3.d13 x e')
  ·exact absurd e (h3.d23 x e')
  ·omega
 ·simp only [List.length_cons, List.length_nil] at hi
  simp only [env3]
  rw [if_neg (by omega), if_neg (by omega), if_neg (by omega), if_neg (by omega), if_neg (by omega), if_neg (by omega), if_neg (by omega), if_neg (by omega)]
  exact ⟨rfl, rfl⟩
 ·rcases j with _ | _ | _ | j
  ·simp at hj; subst hj; exact ⟨v1, hv1, hb1.symm, own_base h3.at_ (Nat.zero_le _)⟩
  ·simp at hj; subst hj; exact ⟨v2, hv2, hb2.symm, own_base h3.pages (Nat.zero_le _)⟩
  ·simp at hj; subst hj; exact ⟨v3, hv3, hb3.symm, own_base h3.ops (Nat.zero_le _)⟩
  ·simp at hj
theorem call_blk {P : Program} {w0 : World} {G : Gs} {fid : FuncId} {args : List AV} {S : List Ow} {K : AV → List Ow → Prop} (post : Blk → Prop) (hok : fnOk P fid = true)
  (h : ∀ r w us, Rel w0 G S r w → avdenL r args us → Calls P fid us.toArray w fun en w' => ∃ b v1 v2 v3, post b ∧ en = .returned (.agg #[v1, v2, v3]) ∧ Rows3 w.heap.size w' v1 v2 v3 b ∧ Below w.heap.size w w')
  (hK : ∀ b, post b → K (.p (.agg [.row S.length, .row (S.length + 1), .row (S.length + 2)])) (S ++ blkRows b)) : CallS P w0 G fid args S K := by
 refine ⟨hok, fun r w us hR hd => ?_⟩
 refine (h r w us hR hd).mono fun en w' ⟨b, v1, v2, v3, hp, he, h3, hB⟩ => ?_
 obtain ⟨k1, k2, k3, k4, k5⟩ := hR.rows3 hB h3
 refine ⟨.p (.agg [.row S.length, .row (S.length + 1), .row (S.length + 2)]), _, _, _, he, ⟨[v1, v2, v3], rfl, ?_⟩, k1, k2, hK b hp⟩
 simp only [denL, CV.den]
 exact ⟨_, _, rfl, k3, _, _, rfl, k4, _, _, rfl, k5, rfl⟩
def RowLike (S : List Ow) (x : CV) (i : Nat) (e : TypeId) (size n : Nat) (xs : List Value) : Prop :=
 (x = .row i ∧ S[i]? = some (.row e size n xs)) ∨ (x = .sl i 0 n n ∧ S[i]? = some (.cells e (xs.map .v)) ∧ xs.length = n * size ∧ n ≤ maxLen)
theorem rowLike_at {w0 w : World} {S : List Ow} {r : Env} (hR : Rel w0 Gs.nil S r w) {x : CV} {i : Nat} {e : TypeId} {size n : Nat} {xs : List Value} (h : RowLike S x i e size n xs) {u : Value} (hd : x.den r u) : w.ownsRow w0.heap.size e size u n xs ∧ u.ownBlock = r.blk i := by
 have hnew : ∀ g, r.blk i = some g → w0.heap.size ≤ g := fun g hg => by
  rcases Nat.lt_or_ge g w0.heap.size with h3 | h3
  ·have := (hR.new i g hg).2 h3; simp at this
  ·exact h3
 rcases h with ⟨rfl, hi⟩ | ⟨rfl, hi, hl, hn⟩
 ·simp only [CV.den] at hd
  obtain ⟨v, f1, f2, f3⟩ := hR.own i _ hi
  rw [hd] at f1; injection f1 with f1; subst f1
  refine ⟨⟨f3.1, ?_⟩, f2⟩
  rcases f3.2 with h1 | ⟨b', cap, cur, h1, _, h2⟩
  ·exact .inl h1
  ·exact .inr ⟨b', cap, cur, h1, hnew b' (by rw [← f2, h1]; rfl), h2⟩
 ·simp only [CV.den] at hd
  obtain ⟨b, hb, rfl⟩ := hd
  obtain ⟨b', us, e1, e2, e3⟩ := hR.own i _ hi
  rw [hb] at e1; injection e1 with e1; subst e1
  obtain rfl := denL_vals_inv e3
  exact ⟨⟨hl, .inr ⟨b, n, us.toArray, rfl, hnew b hb, e2, Nat.le_refl _, hn, by simpa using hl, by simp [← hl]⟩⟩, hb.symm⟩
theorem fin_rows3 {w0 : World} {S : List Ow} {x1 x2 x3 : CV} {R : Ending → World → Prop} (i1 i2 i3 : Nat) (b : Blk) (h12 : i1 ≠ i2) (h13 : i1 ≠ i3) (h23 : i2 ≠ i3) (h1 : RowLike S x1 i1 35 1 b.at_.length (b.at_.map (.int .u32))) (h2 : RowLike S x2 i2 3 1 b.pages.length (b.pages.map (.int .i64))) (h3 : RowLike S x3 i3 45 5 b.ops.length (b.ops.flatMap opC))
  (h : ∀ w v1 v2 v3, Rows3 w0.heap.size w v1 v2 v3 b → Below w0.heap.size w0 w → R (.returned (.agg #[v1, v2, v3])) w) : Fin w0 Gs.nil S (.p (.agg [x1, x2, x3])) R := by
 refine ⟨fun r w u hR hd => ?_⟩
 obtain ⟨us, rfl, hl⟩ := den_agg hd
 simp only [denL] at hl
 obtain ⟨u1, l1, rfl, d1, u2, l2, rfl, d2, u3, l3, rfl, d3, rfl⟩ := hl
 obtain ⟨o1, b1⟩ := rowLike_at hR h1 d1
 obtain ⟨o2, b2⟩ := rowLike_at hR h2 d2
 obtain ⟨o3, b3⟩ := rowLike_at hR h3 d3
 refine h w u1 u2 u3 ⟨o1, o2, o3, fun x hx hy => ?_, fun x hx hy => ?_, fun x hx hy => ?_⟩ hR.toBelow
 ·rw [b1] at hx; rw [b2] at hy; exact h12 (hR.inj _ _ _ hx hy)
 ·rw [b1] at hx; rw [b3] at hy; exact h13 (hR.inj _ _ _ hx hy)
 ·rw [b2] at hx; rw [b3] at hy; exact h23 (hR.inj _ _ _ hx hy)
end Go.Proofs.YtnhdcclpjildjaaGreat
namespace Go.Proofs.YtnhdcclpjildjaaGreat
open Go.RowKit
section
variable {P : Program} {w0 : World} {G : Gs} {N : Nd} {o : Oper} {f : Fr} {S : List Ow} {K : Fr → List Ow → Prop} {Q : Exit → Act → World → Prop} {d : Code}
theorem opS_val (v : AV) (hdst : dstOk N.n o.dst = true) (h : ∀ r a w, Rel w0 G S r w → FDen r f a → ∃ u, v.den r u ∧ (execOp a.eval o).run P w = .ok (.value u) w) (hk : K (f.put o.dst v) S) : OpS P w0 G N o f S K := by
 refine ⟨fun r a w hR hf hN hd next Q hK => ?_⟩
 obtain ⟨u, hu, hrun⟩ := h r a w hR hf
 exact wp_of_value hrun (hK _ _ _ _ hk (good_value hR hf hN hd hdst hu hR (Env.le.refl r)))
theorem op_min {x y : Operand} {a b : Int} {tys : Array TypeId} (hop : o.op = .call ⟨.builtin .min, #[x, y], tys⟩) (hx : f.ev x = one (.int .i64 a)) (hy : f.ev y = one (.int .i64 b)) (hdst : dstOk N.n o.dst = true) (hk : K (f.put o.dst (one (.int .i64 (if b < a then b else a)))) S) : OpS P w0 G N o f S K := by
 refine opS_val _ hdst (fun r act w hR hf => ⟨_, den_one _ _, ?_⟩) hk
 have h1 := hf.ev x
 have h2 := hf.ev y
 rw [hx] at h1; rw [hy] at h2
 simp [execOp, hop, resolve, invoke, builtin, den_v h1, den_v h2, Builtin.min_, Builtin.min2]
theorem run_slice {t e : TypeId} {i : TypeInfo} (ht : P.underlying t = some (.slice e)) (hi : P.info? e = some i) (A : Option Addr) (n c l h : Nat) (low high : Option Value) (hl : (low = none ∧ l = 0) ∨ ∃ q, low = some (.int q (l : Int))) (hh : (high = none ∧ h = n) ∨ ∃ q, high = some (.int q (h : Int))) (hlh : l ≤ h) (hhc : h ≤ c) (w : World) :
  (Instr.sliceAt t (.slice A n c) low high none).run P w = .ok (.slice (if c = l then A else A.map (·.add (l * i.size))) (h - l) (c - l)) w := by
 have hs := run_sizeOf P e w hi
 have hl0 : (0 : Int) ≤ (l : Int) ∧ (l : Int) ≤ (h : Int) := by omega
 have hh0 : (0 : Int) ≤ (h : Int) ∧ (h : Int) ≤ (c : Int) := by omega
 rcases hl with ⟨rfl, rfl⟩ | ⟨q, rfl⟩ <;> rcases hh with ⟨rfl, rfl⟩ | ⟨q', rfl⟩ <;>
  simp [Instr.sliceAt, Instr.slice, underlying, ht, Instr.sliceBounds, Instr.sliceBound, asIntOf, hs, hl0, hh0, hlh, hhc]
theorem op_slice_v {t e : TypeId} {i : TypeInfo} {x : Operand} {lo hi : Option Operand} {A : Option Addr} {n c : Nat} (l h size : Nat) (hop : o.op = .slice t x lo hi none) (ht : P.underlying t = some (.slice e)) (hif : P.info? e = some i) (hsz : i.size = size) (hx : f.ev x = one (.slice A n c))
  (hl : (lo = none ∧ l = 0) ∨ ∃ y q, lo = some y ∧ f.ev y = one (.int q (l : Int))) (hh : (hi = none ∧ h = n) ∨ ∃ y q, hi = some y ∧ f.ev y = one (.int q (h : Int))) (hlh : l ≤ h) (hhc : h ≤ c) (hdst : dstOk N.n o.dst = true)
  (hk : K (f.put o.dst (one (.slice (if c = l then A else A.map (·.add (l * size))) (h - l) (c - l)))) S) : OpS P w0 G N o f S K := by
 subst hsz
 refine opS_val _ hdst (fun r act w hR hf => ⟨_, den_one _ _, ?_⟩) hk
 have h1 := hf.ev x
 rw [hx] at h1
 have hl' : ((lo.map act.eval) = none ∧ l = 0) ∨ ∃ q, (lo.map act.eval) = some (.int q (l : Int)) := by
  rcases hl with ⟨rfl, h0⟩ | ⟨y, q, rfl, hy⟩
  ·exact .inl ⟨rfl, h0⟩
  ·have := hf.ev y; rw [hy] at this; exact .inr ⟨q, by rw [Option.map_some, den_v this]⟩
 have hh' : ((hi.map act.eval) = none ∧ h = n) ∨ ∃ q, (hi.map act.eval) = some (.int q (h : Int)) := by
  rcases hh with ⟨rfl, h0⟩ | ⟨y, q, rfl, hy⟩
  ·exact .inl ⟨rfl, h0⟩
  ·have := hf.ev y; rw [hy] at this; exact .inr ⟨q, by rw [Option.map_some, den_v this]⟩
 have := run_slice (P := P) ht hif A n c l h (lo.map act.eval) (hi.map act.eval) hl' hh' hlh hhc w
 simp [execOp, hop, den_v h1, this]
end
end Go.Proofs.YtnhdcclpjildjaaGreat
namespace Go.Proofs.YtnhdcclpjildjaaGreat
open Go.RowKit

def bytesA (l : List Int) : ByteArray := l.foldl (fun r n => r.push (UInt8.ofNat n.toNat)) ByteArray.empty
def strV (l : List Int) : Value := .string (bytesA l)
theorem bytes_push : ∀ (l : List Int) (s : ByteArray), (l.foldl (fun r n => r.push (UInt8.ofNat n.toNat)) s).data.toList = s.data.toList ++ l.map fun n => UInt8.ofNat n.toNat
 | [], s => by simp
 | n :: l, s => by
  rw [List.foldl_cons, bytes_push l]
  simp [ByteArray.push]
theorem bytesA_list (l : List Int) : (bytesA l).data.toList = l.map fun n => UInt8.ofNat n.toNat := by
 have := bytes_push l ByteArray.empty
 rw [show ByteArray.empty.data.toList = [] from rfl, List.nil_append] at this
 exact this
theorem bytesA_size (l : List Int) : (bytesA l).size = l.length := by
 show (bytesA l).data.size = _
 rw [← Array.length_toList, bytesA_list, List.length_map]
theorem bytesA_get {l : List Int} {i : Nat} {b : Int} (h : l[i]? = some b) : (bytesA l)[i]? = some (UInt8.ofNat b.toNat) := by
 have h1 : (bytesA l).data.toList[i]? = some (UInt8.ofNat b.toNat) := by rw [bytesA_list, List.getElem?_map, h]; rfl
 have h2 : (bytesA l).data[i]? = some (UInt8.ofNat b.toNat) := by simpa using h1
 have hi : i < (bytesA l).size := by
  rw [bytesA_size]
  rcases Nat.lt_or_ge i l.length with h3 | h3
  ·exact h3
  ·rw [List.getElem?_eq_none h3] at h; cases h
 rw [getElem?_pos (bytesA l) i hi]
 have h3 : i < (bytesA l).data.size := hi
 rw [Array.getElem?_eq_getElem h3] at h2
 exact h2
section
variable {P : Program} {w0 : World} {G : Gs} {S : List Ow} {f : Fr} {o : Oper} {K : AV → Prop}
theorem q_len_str {x : Operand} {t : TypeId} (l : List Int) (hop : o.op = .call ⟨.builtin .len, #[x], #[t]⟩) (ht : P.underlying t = some .string) (hx : f.ev x = one (strV l)) (hk : K (one (.int .i64 (l.length : Int)))) : QRun P w0 G S f o K := by
 refine ⟨_, hk, fun r a hf => ?_⟩
 have h1 := hf.ev x
 rw [hx] at h1
 refine ⟨_, rfl, fun w hR => ?_⟩
 simp [execOp, hop, resolve, invoke, builtin, den_v h1, strV, bytesA_size, Builtin.len_, run_underlying ht, goInt]
theorem q_index_str {x ix : Operand} {t : TypeId} (l : List Int) (k : IntKind) (i : Nat) (b : Int) (hop : o.op = .index t x ix) (ht : P.underlying t = some .string) (hx : f.ev x = one (strV l)) (hi : f.ev ix = one (.int k (i : Int))) (hb : l[i]? = some b) (hr : 0 ≤ b ∧ b < 256) (hk : K (one (.int .u8 b))) : QRun P w0 G S f o K := by
 refine ⟨_, hk, fun r a hf => ?_⟩
 have h1 := hf.ev x
 have h2 := hf.ev ix
 rw [hx] at h1; rw [hi] at h2
 refine ⟨_, rfl, fun w hR => ?_⟩
 have hg := bytesA_get hb
 have hbb : (UInt8.ofNat b.toNat).toNat = b.toNat := by simp; omega
 simp [execOp, hop, den_v h1, den_v h2, strV, Instr.index, run_underlying ht, hg, asIntOf, hbb]
 omega
end
theorem op_makeCells {P : Program} {w0 : World} {G : Gs} {N : Nd} {o : Oper} {f : Fr} {S : List Ow} {K : Fr → List Ow → Prop} {t e : TypeId} {i : TypeInfo} {z : Value} {x y : Operand} (size n : Nat) (hop : o.op = .makeSlice t x y) (ht : P.underlying t = some (.slice e)) (hi : P.info? e = some i) (hz : i.zero = some z) (hsize : i.size = size)
  (hx : f.ev x = one (.int .i64 (n : Int))) (hy : f.ev y = one (.int .i64 (n : Int))) (hn : n * size ≤ 16777216) (hb : i.bytes * n ≤ 281474976710656) (hm : n ≤ maxLen) (hdst : dstOk N.n o.dst = true) {xs : List Value} (hxs : (madeCells z.cells (n * size)).toList = xs)
  (hk : K (f.put o.dst (.p (.c (.sl S.length 0 n n)))) (S ++ [.cells e (xs.map .v)])) : OpS P w0 G N o f S K := by
 refine ⟨fun r a w hR hf hN hd next Q hK => ?_⟩
 have h1 := hf.ev x
 have h2 := hf.ev y
 rw [hx] at h1; rw [hy] at h2
 have hrun := run_makeSlice (P := P) (w := w) t e i z ht hi hz .i64 .i64 (n : Int) (n : Int) (by omega) (Int.le_refl _) (by rw [hsize, Int.toNat_natCast]; exact hn) (by have := Int.ofNat_le.2 hb; simpa using this) (by have := Int.ofNat_le.2 hm; exact this)
 rw [Int.toNat_natCast, hsize] at hrun
 have hex : (execOp a.eval o).run P w = .ok (.value (.slice (some ⟨w.heap.size, 0, none⟩) n n)) (w.alloc (.cells (madeCells z.cells (n * size)) e)) := by
  simp [execOp, hop, den_v h1, den_v h2, hrun]
 have hB : Below w.heap.size w (w.alloc (.cells (madeCells z.cells (n * size)) e)) := Below.alloc (Below.refl _ _) (Nat.le_refl _) _
 have hle := hR.le_new (some w.heap.size) none
 refine wp_of_value hex (hK _ _ _ _ hk (good_value hR hf hN hd hdst (r' := r.set S.length (some w.heap.size) none) ?_ (hR.snoc hB (fun x hx => by injection hx with hx; subst hx; exact ⟨Nat.le_refl _, by show w.heap.size < (w.heap.push _).size; simp⟩) ⟨w.heap.size, xs, by simp [Env.set], by show (w.heap.push _)[w.heap.size]? = _; simp [← hxs], denL_vals xs⟩) hle))
 simp only [AV.den, Pc.den, CV.den]
 exact ⟨w.heap.size, by simp [Env.set], rfl⟩
end Go.Proofs.YtnhdcclpjildjaaGreat
namespace Go.Proofs.YtnhdcclpjildjaaGreat
open Go.RowKit

structure ReplSt (a g : List Int) (n : Nat) where
 i : Nat
 l : List BOp
 hl : l.length = n
 hi : i ≤ n
 ok : MadeOk ⟨a, g, l⟩
end Go.Proofs.YtnhdcclpjildjaaGreat
namespace Go.Proofs.YtnhdcclpjildjaaGreat
open Go.RowKit

structure TurnOk (b : Blk) : Prop where
 ok : b.ok
 l1 : b.at_.length ≤ 1000
 l2 : b.pages.length ≤ 1000
 l3 : b.ops.length ≤ 1000
end Go.Proofs.YtnhdcclpjildjaaGreat
namespace Go.Proofs.YtnhdcclpjildjaaGreat
open Go.RowKit

structure MemP where
 data : List Int
 image : List Int
 oldData : List Int
 oldImage : List Int
 rights : List Int
 td : List Value := []
 ti : List Value := []
 tod : List Value := []
 toi : List Value := []
 tr : List Value := []
abbrev byteV (x : Int) : Value := .int .u8 x
abbrev intV (x : Int) : Value := .int .i64 x
def MemP.dV (M : MemP) : List Value := M.data.map byteV ++ M.td
def MemP.iV (M : MemP) : List Value := M.image.map byteV ++ M.ti
def MemP.odV (M : MemP) : List Value := M.oldData.map byteV ++ M.tod
def MemP.oiV (M : MemP) : List Value := M.oldImage.map byteV ++ M.toi
def MemP.rV (M : MemP) : List Value := M.rights.map intV ++ M.tr
abbrev memS (k n p : Nat) (M : MemP) : List Ow :=
 [.cells 125 [.sl (k + 1) 0 n (n + M.td.length), .sl (k + 2) 0 n (n + M.ti.length), .sl (k + 3) 0 n (n + M.tod.length), .sl (k + 4) 0 n (n + M.toi.length), .sl (k + 5) 0 p (p + M.tr.length), .v (.bool false)],
  .cells 5 (M.dV.map .v), .cells 5 (M.iV.map .v), .cells 5 (M.odV.map .v), .cells 5 (M.oiV.map .v), .cells 3 (M.rV.map .v)]
structure MemP.ok (M : MemP) (n p : Nat) : Prop where
 ld : M.data.length = n
 li : M.image.length = n
 lr : M.rights.length = p
 lod : M.oldData.length = n
 loi : M.oldImage.length = n
 np : n = 256 * p
 pmax : p ≤ 4096
 db : ∀ x ∈ M.data, 0 ≤ x ∧ x < 256
 ib : ∀ x ∈ M.image, 0 ≤ x ∧ x < 256
 rb : ∀ x ∈ M.rights, 0 ≤ x ∧ x < 8
theorem sh_vals (k : Nat) (us : List Value) : (us.map CV.v).map (CV.sh k) = us.map CV.v := by
 rw [List.map_map]; rfl
theorem memS_sh (k n p : Nat) (M : MemP) : ShAll k (memS 0 n p M) (memS k n p M) := by
 refine ⟨⟨rfl, ?_⟩, ⟨rfl, (sh_vals k _).symm⟩, ⟨rfl, (sh_vals k _).symm⟩, ⟨rfl, (sh_vals k _).symm⟩, ⟨rfl, (sh_vals k _).symm⟩, ⟨rfl, (sh_vals k _).symm⟩, trivial⟩
 simp [CV.sh]
theorem ob_vals (n : Nat) (us : List Value) : ∀ c ∈ us.map CV.v, c.ob n = true := fun c hc => by
 obtain ⟨u, _, rfl⟩ := List.mem_map.1 hc; rfl
theorem memS_ob (n p : Nat) (M : MemP) : ObAll 6 (memS 0 n p M) := by
 intro o ho
 simp only [memS, List.mem_cons, List.not_mem_nil, or_false] at ho
 rcases ho with rfl | rfl | rfl | rfl | rfl | rfl
 ·intro c hc
  simp only [List.mem_cons, List.not_mem_nil, or_false] at hc
  rcases hc with rfl | rfl | rfl | rfl | rfl | rfl <;> rfl
 ·exact ob_vals 6 _
 ·exact ob_vals 6 _
 ·exact ob_vals 6 _
 ·exact ob_vals 6 _
 ·exact ob_vals 6 _
theorem six_blocks {w : World} {gs : List Nat} {n p : Nat} {M : MemP} (h : ObjsAt w gs (memS 0 n p M)) : ∃ g0 g1 g2 g3 g4 g5, gs = [g0, g1, g2, g3, g4, g5] := by
 have := h.len
 match gs, this with
 | [g0, g1, g2, g3, g4, g5], _ => exact ⟨g0, g1, g2, g3, g4, g5, rfl⟩
section
variable {w0 : World} {G : Gs} {fid : FuncId} {S : List Ow} {K : AV → List Ow → Prop} {pre suf : List AV} {xs ys : List Value} {P : Program}
end
theorem bndL_vals (n : Nat) : ∀ us : List Value, bndL n (us.map CV.v) = true
 | [] => rfl
 | u :: us => by simp only [List.map_cons, bndL, CV.bnd]; exact bndL_vals n us
theorem grp_mem (g g1 g2 g3 g4 g5 n p : Nat) (M : MemP) : grpOk ⟨[g, g1, g2, g3, g4, g5], []⟩ (memS 0 n p M) = true := by
 show sbnd 6 (memS 0 n p M) = true
 simp only [sbnd, Ow.bnd, bndL_vals, bndL, CV.bnd]
 rfl
theorem tail_at {l : List Int} {f : Int → Value} {t : List Value} {i : Nat} {x : Int} (h : l[i]? = some x) : ((l.map f ++ t).map CV.v)[i]? = some (.v (f x)) := by
 have hi : i < l.length := by
  rcases Nat.lt_or_ge i l.length with h1 | h1
  ·exact h1
  ·rw [List.getElem?_eq_none h1] at h; cases h
 rw [List.getElem?_map, List.getElem?_append_left (by simpa using hi), List.getElem?_map, h]; rfl
def MemP.right (M : MemP) (a r : Int) : Bool := decide (a < (M.data.length : Int)) && (((M.rights[(a / 256).toNat]?).getD 0) / r % 2 == 1)
end Go.Proofs.YtnhdcclpjildjaaGreat
namespace Go.Proofs.YtnhdcclpjildjaaGreat
open Go.RowKit

theorem cut_all {l : List CV} {n : Nat} (h : l.length = n) : cut l 0 n = some l := by
 unfold cut
 rw [show Nat.ble (0 + n) l.length = true from Nat.ble_eq_true_of_le (by omega)]
 simp [← h]
abbrev u32L (vs : List Int) : List Value := vs.map (Value.int .u32)
theorem setAll_all : ∀ {l m p : List CV}, l.length = m.length → setAll (p ++ l) p.length m = p ++ m
 | [], [], p, _ => by simp [setAll]
 | a :: l, b :: m, p, h => by
  have ih := setAll_all (l := l) (m := m) (p := p ++ [b]) (by simpa using h)
  show setAll ((p ++ a :: l).set p.length b) (p.length + 1) m = _
  rw [List.set_append_right _ _ (Nat.le_refl _), Nat.sub_self, List.set_cons_zero]
  have e : (p ++ [b]).length = p.length + 1 := by simp
  rw [e] at ih
  simpa using ih
 | [], _ :: _, _, h => by simp at h
 | _ :: _, [], _, h => by simp at h
theorem setAll_same {l m : List CV} (h : l.length = m.length) : setAll l 0 m = m := setAll_all (p := []) h
theorem valL_vals : ∀ us : List Value, valL (List.map CV.v us) = some us
 | [] => rfl
 | u :: us => by simp only [List.map_cons, valL, CV.val, valL_vals us]
theorem val_agg (us : List Value) : (AV.p (.agg (List.map CV.v us))).val = some (.agg us.toArray) := by
 simp only [AV.val, Pc.val, valL_vals us]
def guestsL (vs : List Int) : List Int := vs.take 19 ++ List.replicate (vs.length - 19) 0
end Go.Proofs.YtnhdcclpjildjaaGreat
namespace Go.Proofs.YtnhdcclpjildjaaGreat
open Go.RowKit

theorem CV.den_det {r : Env} {n : Nat} : ∀ {c : CV} {u z : Value}, c.ob n = true → c.den r u → c.den r z → u = z
 | .v x, u, z, _, h1, h2 => by simp only [CV.den] at h1 h2; rw [h1, h2]
 | .ref i off, u, z, _, h1, h2 => by
  simp only [CV.den] at h1 h2
  obtain ⟨b, e1, rfl⟩ := h1
  obtain ⟨b', e2, rfl⟩ := h2
  rw [e1] at e2; injection e2 with e2; rw [e2]
 | .sl i off m c, u, z, _, h1, h2 => by
  simp only [CV.den] at h1 h2
  obtain ⟨b, e1, rfl⟩ := h1
  obtain ⟨b', e2, rfl⟩ := h2
  rw [e1] at e2; injection e2 with e2; rw [e2]
 | .any, _, _, hb, _, _ => by cases hb
 | .vref .., _, _, hb, _, _ => by cases hb
 | .row .., _, _, hb, _, _ => by cases hb
 | .mp .., _, _, hb, _, _ => by cases hb
 | .clo .., _, _, hb, _, _ => by cases hb
theorem denL_det {r : Env} {n : Nat} : ∀ {l : List CV} {us vs : List Value}, (∀ c ∈ l, c.ob n = true) → denL r l us → denL r l vs → us = vs
 | [], us, vs, _, h1, h2 => by simp only [denL] at h1 h2; rw [h1, h2]
 | c :: l, us, vs, hb, h1, h2 => by
  simp only [denL] at h1 h2
  obtain ⟨u, us', rfl, d1, d2⟩ := h1
  obtain ⟨v, vs', rfl, k1, k2⟩ := h2
  rw [CV.den_det (hb c (by simp)) d1 k1, denL_det (fun x hx => hb x (by simp [hx])) d2 k2]
theorem objs_same {w w' : World} {gs : List Nat} {U : List Ow} {n : Nat} (hob : ObAll n U) (h : ObjsAt w gs U) (h' : ObjsAt w' gs U) : ∀ g ∈ gs, w'.heap[g]? = w.heap[g]? := by
 intro g hg
 obtain ⟨i, hi⟩ := List.getElem?_of_mem hg
 have hlt : i < U.length := by
  rw [h.len]
  rcases Nat.lt_or_ge i gs.length with h1 | h1
  ·exact h1
  ·rw [List.getElem?_eq_none h1] at hi; cases hi
 have ho := List.getElem?_eq_getElem hlt
 have k1 := h.own i _ ho
 have k2 := h'.own i _ ho
 have hb := hob _ (List.getElem_mem hlt)
 cases hu : U[i] with
 | cells t l =>
  rw [hu] at k1 k2 hb
  obtain ⟨b, us, e1, e2, e3⟩ := k1
  obtain ⟨b', us', e4, e5, e6⟩ := k2
  have e1 : gs[i]? = some b := e1
  have e4 : gs[i]? = some b' := e4
  rw [hi] at e1 e4
  injection e1 with e1; injection e4 with e4
  subst e1; subst e4
  rw [e2, e5, denL_det hb e3 e6]
 | row => rw [hu] at hb; exact hb.elim
 | ext => rw [hu] at hb; exact hb.elim
 | view => rw [hu] at hb; exact hb.elim
 | gone => rw [hu] at hb; exact hb.elim
theorem objs_below {w w' : World} {gs : List Nat} {U : List Ow} {n : Nat} (hob : ObAll n U) (h : ObjsAt w gs U) (h' : ObjsAt w' gs U) (hg : GrownBys w w' gs) : Below w.heap.size w w' :=
 ⟨hg.os, hg.tape, hg.output, hg.size, fun k hk => by
  by_cases hm : k ∈ gs
  ·exact objs_same hob h h' k hm
  ·exact hg.block k hk hm⟩
end Go.Proofs.YtnhdcclpjildjaaGreat
namespace Go.Proofs.YtnhdcclpjildjaaGreat
open Go.RowKit

theorem QRun.useD {P : Program} {w0 : World} {G : Gs} {S : List Ow} {f : Fr} {o : Oper} {K : AV → Prop} (h : QRun P w0 G S f o K) {r : Env} {D : World → Prop} (hD : ∀ w, D w → Rel w0 G S r w) {w1 : World} (_ : D w1) {a : Act} (hf : FDen r f a) :
  ∃ v u, K v ∧ v.den r u ∧ ∀ w : World, D w → (execOp a.eval o).run P w = .ok (.value u) w := by
 obtain ⟨v, hK, hr⟩ := h.out
 obtain ⟨u, hd, hrun⟩ := hr r a hf
 exact ⟨v, u, hK, hd, fun w hw => hrun w (hD w hw)⟩
set_option maxHeartbeats 1000000 in
theorem qop_held {P : Program} {w0 : World} {G : Gs} {S : List Ow} {f : Fr} {o : Oper} {K : AV → Prop} (h : qop P w0 G S f o K) (hty : opTy P o.op = true) (hS0 : S = []) {r : Env} {D : World → Prop} (hD : ∀ w, D w → Rel w0 G S r w) {w1 : World} (hw1 : D w1) {a : Act} (hf : FDen r f a) :
  ∃ v u, K v ∧ v.den r u ∧ ∀ w : World, D w → (execOp a.eval o).run P w = .ok (.value u) w := by
 have hR := hD w1 hw1
 unfold qop at h
 split at h
 ·
  rename_i x hop
  have hx := hf.ev x
  refine ⟨f.ev x, a.eval x, ?_, hx, fun w _ => by simp [execOp, hop]⟩
  split at h <;> (rename_i he; rw [he]; exact h)
 ·rename_i x hop
  have hx := hf.ev x
  refine ⟨f.ev x, a.eval x, ?_, hx, fun w _ => by simp [execOp, hop]⟩
  split at h <;> (rename_i he; rw [he]; exact h)
 ·
  rename_i c x y hop
  have hc := hf.ev c
  have hx := hf.ev x
  have hy := hf.ev y
  split at h
  ·rename_i b eb
   rw [eb] at hc
   have e1 := den_v hc
   have hrun : ∀ w : World, (execOp a.eval o).run P w = .ok (.value (if b then a.eval x else a.eval y)) w := fun w => by simp [execOp, hop, e1, asBool]
   split at h
   ·rename_i p ep
    rw [ep] at hx
    have e2 := den_v hx
    split at h
    ·rename_i q eq
     rw [eq] at hy
     have e3 := den_v hy
     refine ⟨_, _, h, den_one r _, fun w _ => ?_⟩
     rw [hrun w, e2, e3]
     cases b <;> rfl
    ·cases b with
     | true => exact ⟨_, _, h, den_one r _, fun w _ => by rw [hrun w, e2]; rfl⟩
     | false => exact ⟨_, _, h, hy, fun w _ => by rw [hrun w]; rfl⟩
   ·cases b with
    | true => exact ⟨_, _, h, hx, fun w _ => by rw [hrun w]; rfl⟩
    | false => exact ⟨_, _, h, hy, fun w _ => by rw [hrun w]; rfl⟩
  ·exact h.elim
 ·
  rename_i t x hop
  have hx := hf.ev x
  subst hS0
  unfold loadK at h
  split at h
  ·simp at h
  ·simp at h
  ·rename_i b off he
   rw [he] at hx
   have hu := den_v hx
   obtain ⟨v, u, hK, hd, hrun⟩ := oldK_sound h r
   exact ⟨v, u, hK, hd, fun w hw => by simp [execOp, hop, hu, hrun [] r w (hD w hw)]⟩
  ·exact h.elim
 ·
  rename_i x hop
  have hx := hf.ev x
  split at h
  ·rename_i i off he
   rw [he] at hx
   refine ⟨_, _, h, hx, fun w _ => ?_⟩
   obtain ⟨b, hb, hu⟩ := den_ref hx
   simp [execOp, hop, hu]
  ·rename_i fn cap he
   rw [he] at hx
   refine ⟨_, _, h, hx, fun w _ => ?_⟩
   obtain ⟨us, hu, _⟩ := den_clo hx
   simp [execOp, hop, hu]
  ·rename_i p he
   rw [he] at hx
   refine ⟨_, _, h, hx, fun w _ => ?_⟩
   have hu := den_v hx
   simp [execOp, hop, hu]
  ·exact QRun.useD h hD hw1 hf
 ·
  rename_i op t x y t' hop
  have hx := hf.ev x
  have hy := hf.ev y
  split at h
  ·rename_i k p ep
   rw [ep] at hx
   have e1 := den_v hx
   split at h
   ·rename_i k' q eq
    rw [eq] at hy
    have e2 := den_v hy
    have hg : ∀ w : World, (eqGuard op t x y (.int k p) (.int k' q)).run P w = .ok () w := fun w => by
     unfold eqGuard; cases op <;> simp
    split at h
    ·obtain ⟨u, hK, hrun⟩ := shiftK_sound (P := P) (t := t) (k' := k') h
     exact ⟨_, u, hK, den_one r u, fun w _ => by simp [execOp, hop, e1, e2, hg w, hrun w]⟩
    ·obtain ⟨u, hK, hrun⟩ := shiftK_sound (P := P) (t := t) (k' := k') h
     exact ⟨_, u, hK, den_one r u, fun w _ => by simp [execOp, hop, e1, e2, hg w, hrun w]⟩
    ·split at h
     ·rename_i hk
      have hk := of_decide_eq_true hk
      subst hk
      obtain ⟨u, hK, hrun⟩ := binK_sound (P := P) (t := t) h
      exact ⟨_, u, hK, den_one r u, fun w _ => by simp [execOp, hop, e1, e2, hg w, hrun w]⟩
     ·exact h.elim
   ·exact QRun.useD h hD hw1 hf
  ·exact QRun.useD h hD hw1 hf
 ·
  rename_i op t x hop
  have hx := hf.ev x
  split at h
  ·rename_i p ep
   rw [ep] at hx
   have e1 := den_v hx
   exact ⟨_, _, h, den_one r _, fun w _ => by simp [execOp, hop, e1, Op.unary]⟩
  ·exact QRun.useD h hD hw1 hf
 ·
  rename_i src dst x hop
  have hx := hf.ev x
  split at h
  ·rename_i k n ep
   rw [ep] at hx
   have e1 := den_v hx
   split at h
   ·rename_i q0 hq0
    split at h
    ·rename_i q hq
     obtain ⟨m, hm, hK⟩ := h
     exact ⟨_, _, hK, den_one r _, fun w _ => by simp [execOp, hop, e1, convert, underlying, hq0, hq, Conv.intToInt, hm]⟩
    ·exact QRun.useD h hD hw1 hf
   ·exact QRun.useD h hD hw1 hf
  ·exact QRun.useD h hD hw1 hf
 ·
  rename_i s x k hop
  have hx := hf.ev x
  split at h
  ·rename_i i off he
   rw [he] at hx
   obtain ⟨b, hb, hu⟩ := den_ref hx
   split at h
   ·rename_i n hn
    exact ⟨_, _, h, den_mk_ref hb, fun w _ => by simp [execOp, hop, hu, run_fieldAt hn]⟩
   ·exact h.elim
  ·rename_i b off he
   rw [he] at hx
   have hu := den_v hx
   split at h
   ·rename_i n hn
    exact ⟨_, _, h, den_one r _, fun w _ => by simp [execOp, hop, hu, run_fieldAt hn]⟩
   ·exact h.elim
  ·exact h.elim
 ·
  rename_i t x k hop
  have hx := hf.ev x
  split at h
  ·rename_i l he
   rw [he] at hx
   obtain ⟨us, hu, hl⟩ := den_agg hx
   unfold fldK at h
   split at h
   ·rename_i fs hs
    split at h
    ·rename_i fl hfl
     obtain ⟨v, u, hK, hd, hrun⟩ := run_part h hl
     exact ⟨v, u, hK, hd, fun w _ => by simp [execOp, hop, hu, Instr.field, underlying, hs, hfl, asAgg, hrun w]⟩
    ·exact h.elim
   ·exact h.elim
  ·exact h.elim
 ·
  rename_i x k hop
  have hx := hf.ev x
  split at h
  ·rename_i l he
   rw [he] at hx
   obtain ⟨us, hu, hl⟩ := hx
   split at h
   ·rename_i p hp
    obtain ⟨u, h1, h2⟩ := pdenL_at hl hp
    exact ⟨_, u, h, h2, fun w _ => by simp [execOp, hop, hu, Instr.extract, h1]⟩
   ·exact h.elim
  ·exact h.elim
 ·
  rename_i t parts hop
  obtain ⟨v, u, hK, hd, hrun⟩ := buildK_sound hR hf h
  exact ⟨v, u, hK, hd, fun w _ => by simp only [execOp, hop, Sem.run_bind, hrun w, Result.andThen_ok, Sem.run_pure]⟩
 ·
  rename_i fn first cap hop
  split at h
  ·rename_i hfirst
   have ef : first = #[] := Array.ext' hfirst
   split at h
   ·rename_i hcap
    have ec : cap = #[] := Array.ext' hcap
    exact ⟨_, .func (.func fn) #[] #[], h, by simp [AV.den, Pc.den, CV.den, denL], fun w _ => by simp [execOp, hop, Instr.makeFunc, ef, ec]⟩
   ·rename_i x hcap
    have ec : cap = #[x] := Array.ext' hcap
    have hx := hf.ev x
    split at h
    ·rename_i c he
     rw [he] at hx
     refine ⟨_, .func (.func fn) #[] #[a.eval x], h, ?_, fun w _ => by simp [execOp, hop, Instr.makeFunc, ef, ec]⟩
     simp only [AV.den, Pc.den, CV.den, denL]
     exact ⟨[a.eval x], rfl, _, _, rfl, hx, rfl⟩
    ·exact h.elim
   ·exact QRun.useD h hD hw1 hf
  ·exact QRun.useD h hD hw1 hf
 ·
  rename_i t x ix hop
  rw [hop] at hty
  have hx := hf.ev x
  have hi := hf.ev ix
  split at h
  ·rename_i b off n c he
   rw [he] at hx
   have hu := den_v hx
   split at h
   ·rename_i q k hk
    rw [hk] at hi
    have hu2 := den_v hi
    split at h
    ·rename_i e ht
     simp only [opTy, ht] at hty
     obtain ⟨i, hie⟩ := Option.isSome_iff_exists.1 hty
     obtain ⟨⟨h0, h1⟩, hK⟩ := h
     refine ⟨_, _, hK, den_one r _, fun w _ => ?_⟩
     simp only [execOp, hop, hu, hu2, Sem.run_bind, run_indexAt_slice ht hie h0 h1, Result.andThen_ok, Sem.run_pure, tsz_sizeOf hie]
    ·exact h.elim
   ·exact h.elim
  ·rename_i i he
   rw [he] at hx
   split at h
   ·rename_i q k hk
    rw [hk] at hi
    have hu2 := den_v hi
    split at h
    ·rename_i e ht
     simp only [opTy, ht] at hty
     obtain ⟨i', hie⟩ := Option.isSome_iff_exists.1 hty
     split at h
     ·rename_i e' size n xs hS
      obtain ⟨⟨h0, h1⟩, hK⟩ := h
      obtain ⟨v, hv1, hv2, hv3⟩ := hR.own i _ hS
      have hux : r.val i = some (a.eval x) := by simpa only [AV.den, Pc.den, CV.den] using hx
      rw [hux] at hv1; injection hv1 with hv1
      rcases hv3.2 with ⟨hn, hz⟩ | ⟨g, cap, cur, hv, _⟩
      ·omega
      ·rw [← hv1] at hv hv2
       have hb : r.blk i = some g := by rw [← hv2, hv]; rfl
       refine ⟨_, _, hK, den_mk_ref hb, fun w _ => ?_⟩
       simp only [execOp, hop, hv, hu2, Sem.run_bind, run_indexAt_slice ht hie h0 h1, Result.andThen_ok, Sem.run_pure, tsz_sizeOf hie, Nat.zero_add]
     ·rename_i n xs hS
      obtain ⟨⟨h0, h1, hpos⟩, hK⟩ := h
      obtain ⟨A, c, hv1, hv2, hv3, hv4, hv5⟩ := hR.own i _ hS
      have hux : r.val i = some (a.eval x) := by simpa only [AV.den, Pc.den, CV.den] using hx
      obtain ⟨b, off, hA, _⟩ := hv5 0 xs[0] (by simp [hpos])
      subst hA
      rw [hux] at hv1; injection hv1 with hv1
      refine ⟨_, .pointer (some ⟨b, off + k.toNat * i'.size, none⟩), hK, ?_, fun w _ => ?_⟩
      ·simp only [AV.den, Pc.den, CV.den]
       exact ⟨b, off, n, c, by rw [hux, hv1], by rw [tsz_sizeOf hie]⟩
      ·simp only [execOp, hop, hv1, hu2, Sem.run_bind, run_indexAt_slice ht hie h0 h1, Result.andThen_ok, Sem.run_pure]
     ·exact h.elim
    ·exact h.elim
   ·exact h.elim
  ·rename_i i off n c he
   rw [he] at hx
   have hux : ∃ b, r.blk i = some b ∧ a.eval x = .slice (some ⟨b, off, none⟩) n c := by simpa only [AV.den, Pc.den, CV.den] using hx
   obtain ⟨b, hb, hu⟩ := hux
   split at h
   ·rename_i q k hk
    rw [hk] at hi
    have hu2 := den_v hi
    split at h
    ·rename_i e ht
     simp only [opTy, ht] at hty
     obtain ⟨i', hie⟩ := Option.isSome_iff_exists.1 hty
     obtain ⟨⟨h0, h1⟩, hK⟩ := h
     refine ⟨_, _, hK, den_mk_ref hb, fun w _ => ?_⟩
     simp only [execOp, hop, hu, hu2, Sem.run_bind, run_indexAt_slice ht hie h0 h1, Result.andThen_ok, Sem.run_pure, tsz_sizeOf hie]
    ·exact h.elim
   ·exact h.elim
  ·rename_i i off he
   rw [he] at hx
   obtain ⟨b, hb, hu⟩ := den_ref hx
   split at h
   ·rename_i q k hk
    rw [hk] at hi
    have hu2 := den_v hi
    split at h
    ·rename_i n e ht
     simp only [opTy, ht] at hty
     obtain ⟨i', hie⟩ := Option.isSome_iff_exists.1 hty
     obtain ⟨⟨h0, h1⟩, hK⟩ := h
     refine ⟨_, _, hK, den_mk_ref hb, fun w _ => ?_⟩
     simp only [execOp, hop, hu, hu2, Sem.run_bind, run_indexAt_array ht hie h0 h1, Result.andThen_ok, Sem.run_pure, tsz_sizeOf hie]
    ·exact h.elim
   ·exact h.elim
  ·exact QRun.useD h hD hw1 hf
 ·
  rename_i t x ix hop
  rw [hop] at hty
  have hx := hf.ev x
  have hi := hf.ev ix
  split at h
  ·rename_i l he
   rw [he] at hx
   obtain ⟨us, hu, hl⟩ := den_agg hx
   split at h
   ·rename_i q k hk
    rw [hk] at hi
    have hu2 := den_v hi
    split at h
    ·rename_i n e ht
     simp only [opTy, ht] at hty
     obtain ⟨i', hie⟩ := Option.isSome_iff_exists.1 hty
     obtain ⟨⟨h0, h1⟩, hK⟩ := h
     obtain ⟨v, u, hK', hd, hrun⟩ := run_part hK hl
     refine ⟨v, u, hK', hd, fun w _ => ?_⟩
     have e3 := hrun w
     rw [tsz_sizeOf hie] at e3
     simp [execOp, hop, hu, hu2, Instr.index, asIntOf, underlying, ht, h0, h1, run_sizeOf P e w hie, e3]
    ·exact h.elim
   ·exact h.elim
  ·exact QRun.useD h hD hw1 hf
 ·
  rename_i args tys hop
  split at h
  ·rename_i x hargs
   have ea : args = #[x] := Array.ext' hargs
   split at h
   ·rename_i t htys
    have et : tys = #[t] := Array.ext' htys
    split at h
    ·rename_i e ht
     have hx := hf.ev x
     split at h
     ·rename_i A n c he
      rw [he] at hx
      have hu := den_v hx
      exact ⟨_, _, h, den_one r _, fun w _ => by simp [execOp, hop, ea, et, resolve, invoke, builtin, Builtin.len_, underlying, ht, hu, goInt]⟩
     ·rename_i i off n c he
      rw [he] at hx
      have hux : ∃ b, r.blk i = some b ∧ a.eval x = .slice (some ⟨b, off, none⟩) n c := by simpa only [AV.den, Pc.den, CV.den] using hx
      obtain ⟨b, hb, hu⟩ := hux
      exact ⟨_, _, h, den_one r _, fun w _ => by simp [execOp, hop, ea, et, resolve, invoke, builtin, Builtin.len_, underlying, ht, hu, goInt]⟩
     ·rename_i i he
      rw [he] at hx
      split at h
      ·rename_i e' size n xs hS
       obtain ⟨v, hv1, hv2, hv3⟩ := hR.own i _ hS
       have hux : r.val i = some (a.eval x) := by simpa only [AV.den, Pc.den, CV.den] using hx
       rw [hux] at hv1; injection hv1 with hv1
       obtain ⟨A, c, hv⟩ := row_slice hv3
       rw [← hv1] at hv
       exact ⟨_, _, h, den_one r _, fun w _ => by simp [execOp, hop, ea, et, resolve, invoke, builtin, Builtin.len_, underlying, ht, hv, goInt]⟩
      ·rename_i n xs hS
       obtain ⟨A, c, hv1, _⟩ := hR.own i _ hS
       have hux : r.val i = some (a.eval x) := by simpa only [AV.den, Pc.den, CV.den] using hx
       rw [hux] at hv1; injection hv1 with hv1
       exact ⟨_, _, h, den_one r _, fun w _ => by simp [execOp, hop, ea, et, resolve, invoke, builtin, Builtin.len_, underlying, ht, hv1, goInt]⟩
      ·exact h.elim
     ·exact h.elim
    ·exact QRun.useD h hD hw1 hf
   ·exact h.elim
  ·exact h.elim
 ·exact QRun.useD h hD hw1 hf
end Go.Proofs.YtnhdcclpjildjaaGreat
namespace Go.Proofs.YtnhdcclpjildjaaGreat
open Go.RowKit
section
variable {P : Program} {w0 : World} {G : Gs} {N : Nd} {o : Oper} {f : Fr} {S : List Ow} {K : Fr → List Ow → Prop}
theorem op_invoke {recv : Operand} {name : String} {args : Array Operand} {tys : Array TypeId} {t : TypeId} {v rcv : Value} {fid : FuncId} (hop : o.op = .call ⟨.invoke recv name, args, tys⟩) (hdst : dstOk N.n o.dst = true) (hr : f.ev recv = .p (.c (.v (.iface t v))))
  (hm : ∀ w, (method (P.types.size + Made.depth) t v name).run P w = .ok (fid, rcv) w) (h : CallS P w0 G fid (AV.of rcv :: args.toList.map f.ev) S fun u S' => K (f.put o.dst u) S') : OpS P w0 G N o f S K := by
 refine ⟨fun r a w hR hf hN hd next Q hK => ?_⟩
 have hfr := hf.ev recv
 rw [hr] at hfr
 have hu := den_v hfr
 obtain ⟨hok, hc⟩ := h
 have hrun : (execOp a.eval o).run P w = .ok (.enter fid (#[rcv] ++ args.map a.eval)) w := by
  have h0 : (#[a.eval recv] ++ args.map a.eval)[0]? = some (.iface t v) := by rw [Array.getElem?_append_left (by simp), hu]; rfl
  have h1 : (#[a.eval recv] ++ args.map a.eval).extract 1 (#[a.eval recv] ++ args.map a.eval).size = args.map a.eval := by
   apply Array.ext'
   simp
   exact List.take_of_length_le (by simp)
  have hp : (program).run P w = .ok P w := rfl
  have hcf := run_callFunc (w := w) (args := #[rcv] ++ args.map a.eval) hok
  simp only [execOp, hop, resolve, pure_bind, invoke, h0, h1, callMethod, Sem.run_bind, hp, hm, Result.andThen_ok]
  exact hcf
 refine wp_of_enter hrun ?_
 have := hc r w (rcv :: args.toList.map a.eval) hR ⟨rcv, _, rfl, AV.of_den r rcv, avdenL_ev hf _⟩
 rw [show (rcv :: args.toList.map a.eval).toArray = #[rcv] ++ args.map a.eval by apply Array.ext'; simp] at this
 exact Calls.mono this fun e w' ⟨v, u, S', r', he, hv, hR', hle, hKv⟩ => ⟨u, he, hK _ _ _ _ hKv (good_value hR hf hN hd hdst hv hR' hle)⟩
end
end Go.Proofs.YtnhdcclpjildjaaGreat
namespace Go.Proofs.YtnhdcclpjildjaaGreat
open Go.RowKit

structure NewObjs (w w' : World) (gs : List Nat) (U : List Ow) : Prop where
 at_ : ObjsAt w' gs U
 fresh : ∀ g ∈ gs, w.heap.size ≤ g
 below : Below w.heap.size w w'
theorem Rel.objsAt {w0 : World} {G : Gs} {S : List Ow} {r : Env} {w : World} (hR : Rel w0 G S r w) (k : Nat) (U V : List Ow) (hpos : 0 < U.length) (hS : ∀ i, i < U.length → S[k + i]? = V[i]?) (hsh : ShAll k U V) (hob : ObAll U.length U) : ∃ g gs, r.blk k = some g ∧ ObjsAt w (g :: gs) U := by
 have hown : ∀ i, i < U.length → ∃ b t l, U[i]? = some (.cells t l) ∧ r.blk (k + i) = some b ∧ ∃ us : List Value, w.heap[b]? = some (.cells us.toArray t (0, 0)) ∧ denL r (l.map (CV.sh k)) us := fun i hi => by
  have hu := List.getElem?_eq_getElem hi
  obtain ⟨o', h1, h2⟩ := hsh.get i hu
  have h3 := hR.own (k + i) o' (by rw [hS i hi, h1])
  have h4 := hob _ (List.getElem_mem hi)
  cases ho : U[i] with
  | cells t l =>
   rw [ho] at h2 hu
   cases o' with
   | cells t' l' =>
    obtain ⟨rfl, rfl⟩ := h2
    obtain ⟨b, us, e1, e2, e3⟩ := h3
    exact ⟨b, t, l, hu, e1, us, e2, e3⟩
   | row => exact h2.elim
   | ext => exact h2.elim
   | view => exact h2.elim
   | gone => exact h2.elim
  | row => rw [ho] at h4; exact h4.elim
  | ext => rw [ho] at h4; exact h4.elim
  | view => rw [ho] at h4; exact h4.elim
  | gone => rw [ho] at h4; exact h4.elim
 obtain ⟨gs, hgl, hgs⟩ : ∃ gs : List Nat, gs.length = U.length ∧ ∀ i, i < U.length → gs[i]? = r.blk (k + i) := by
  refine ⟨(List.range U.length).map fun i => (r.blk (k + i)).getD 0, by simp, fun i hi => ?_⟩
  obtain ⟨b, _, _, _, hb, _⟩ := hown i hi
  rw [List.getElem?_map, List.getElem?_range hi, hb]
  simp [hb]
 have hto : ∀ i b, i < U.length → r.blk (k + i) = some b → (envOf gs).blk i = some b := fun i b hi hb => by
  show gs[i]? = some b
  rw [hgs i hi]; exact hb
 have hin : ∀ (i b : Nat), gs[i]? = some b → i < U.length ∧ r.blk (k + i) = some b := fun i b hb => by
  have hi : i < U.length := by
   rcases Nat.lt_or_ge i U.length with h1 | h1
   ·exact h1
   ·rw [List.getElem?_eq_none (by omega)] at hb; cases hb
  exact ⟨hi, by rw [← hgs i hi]; exact hb⟩
 have hU : ObjsAt w gs U := by
  refine ⟨hgl.symm, fun i j b hi hj => ?_, fun b hb => ?_, fun i o ho => ?_⟩
  ·have := hR.inj _ _ b (hin i b hi).2 (hin j b hj).2
   omega
  ·obtain ⟨i, hi⟩ := List.getElem?_of_mem hb
   exact (hR.new _ b (hin i b hi).2).1
  ·have hi : i < U.length := by
    rcases Nat.lt_or_ge i U.length with h1 | h1
    ·exact h1
    ·rw [List.getElem?_eq_none h1] at ho; cases ho
   obtain ⟨b, t, l, e1, e2, us, e3, e4⟩ := hown i hi
   rw [ho] at e1; injection e1 with e1; subst e1
   exact ⟨b, us, hto i b hi e2, e3, denL_sh (n := U.length) hto (hob _ (List.mem_of_getElem? ho)) e4⟩
 cases gs with
 | nil => simp at hgl; omega
 | cons g gs =>
  refine ⟨g, gs, ?_, hU⟩
  have := hgs 0 hpos
  rw [Nat.add_zero] at this
  rw [← this]; rfl
theorem ObjsAt.later {w w' : World} {gs : List Nat} {U : List Ow} (hob : ObAll U.length U) (h : ObjsAt w gs U) (hs : w.heap.size ≤ w'.heap.size) (hk : ∀ g ∈ gs, w'.heap[g]? = w.heap[g]?) : ObjsAt w' gs U :=
 ⟨h.len, h.nodup, fun g hg => Nat.lt_of_lt_of_le (h.lt g hg) hs, fun i o ho => by
  have h1 := h.own i o ho
  have h2 := hob o (List.mem_of_getElem? ho)
  cases o with
  | cells t l =>
   obtain ⟨b, us, e1, e2, e3⟩ := h1
   exact ⟨b, us, e1, by rw [hk b (List.mem_of_getElem? (show gs[i]? = some b from e1))]; exact e2, e3⟩
  | row => exact h2.elim
  | ext => exact h2.elim
  | view => exact h2.elim
  | gone => exact h2.elim⟩
theorem ObjsAt.below {w w' : World} {gs : List Nat} {U : List Ow} (hob : ObAll U.length U) (h : ObjsAt w gs U) (hB : Below w.heap.size w w') : ObjsAt w' gs U :=
 h.later hob hB.size fun g hg => hB.block g (h.lt g hg)
end Go.Proofs.YtnhdcclpjildjaaGreat
