/- Walks piece by piece: loops, conditions, regions whose guards are known; nil cells as rows; three ro. -/
import Derived.Laws.BytesString
import Derived.Test.YtnhdcclpjildjaaGreatK9
namespace Go.Proofs.YtnhdcclpjildjaaGreat
open Go.RowKit
section
variable {P : Program} {w0 : World} {G : Gs} {N : Nd} {c d : Code} {f : Fr} {S : List Ow} {Q : Exit → Act → World → Prop}
theorem satq_cond {x : Operand} {t : Bool} (ht : f.ev x = one (.bool t)) (h1 : t = true → SatQ P w0 G N c f S Q) (h2 : t = false → SatQ P w0 G N d f S Q) : SatQ P w0 G N (.cond x c d) f S Q := by
 refine ⟨fun a w hg => ?_⟩
 obtain ⟨r, hR, hf, hN, hd⟩ := hg
 have hc := hf.ev x
 rw [ht] at hc
 have hc := den_v hc
 exact wpIn_cond_split hc (fun e => (h1 e).out a w ⟨r, hR, hf, hN, hd⟩) (fun e => (h2 e).out a w ⟨r, hR, hf, hN, hd⟩)
theorem satq_skip (h : AtQ w0 G N .normal f S Q) : SatQ P w0 G N .skip f S Q := ⟨fun a w hg => wpIn_skip (h.out a w hg)⟩
theorem atq_on {d : Code} (h : SatQ P w0 G N d f S Q) : AtQ w0 G N .normal f S (Exit.then (d.wpIn Fence.wide 10 P Q) Q) := ⟨fun a w hg => h.out a w hg⟩
theorem atq_exit {id : Nat} (h : AtQ w0 G N .normal f S Q) : AtQ w0 G N (.exit id) f S (Exit.inBlock id Q) := ⟨fun a w hg => by
 show (if id = id then Q .normal a w else _)
 rw [if_pos rfl]; exact h.out a w hg⟩
theorem atq_block {id : Nat} (h : AtQ w0 G N .normal f S Q) : AtQ w0 G N .normal f S (Exit.inBlock id Q) := ⟨fun a w hg => h.out a w hg⟩
def MidQ {α : Type} (w0 : World) (G : Gs) (N : Nd) (T : α → Fr) (U : α → List Ow) (Q : Exit → Act → World → Prop) : Exit → Act → World → Prop := fun e a w => match e with
 | .normal => ∃ y, Good w0 G N (T y) (U y) a w
 | e => Q e a w
theorem satq_mid {α : Type} (T : α → Fr) (U : α → List Ow) (hc : SatQ P w0 G N c f S (MidQ w0 G N T U Q)) (hd : ∀ y, SatQ P w0 G N d (T y) (U y) Q) : SatQ P w0 G N (.seq c d) f S Q :=
 satq_in ⟨fun a w hg => wpIn_mono (hc.out a w hg) fun e a' w' hq => by
  cases e with
  | normal => obtain ⟨y, hy⟩ := hq; exact (hd y).out a' w' hy
  | exit id => exact hq
  | goto l => exact hq
  | ret => exact hq
  | panic ch => exact hq
  | outgrown => exact hq⟩
theorem atq_mid {α : Type} {T : α → Fr} {U : α → List Ow} (y : α) (h : Ent w0 G N f S (T y) (U y)) : AtQ w0 G N .normal f S (MidQ w0 G N T U Q) := ⟨fun a w hg => ⟨y, h.out a w hg⟩⟩
def RoundQ {α : Type} (w0 : World) (G : Gs) (N : Nd) (T : α → Fr) (U : α → List Ow) (m : α → Nat) (n : Nat) (Q : Exit → Act → World → Prop) : Exit → Act → World → Prop := fun e a w => match e with
 | .normal => ∃ y, Good w0 G N (T y) (U y) a w ∧ m y < n
 | e => Q e a w
theorem atq_next {α : Type} {T : α → Fr} {U : α → List Ow} {m : α → Nat} {n : Nat} (y : α) (h : Ent w0 G N f S (T y) (U y)) (hm : m y < n) : AtQ w0 G N .normal f S (RoundQ w0 G N T U m n Q) := ⟨fun a w hg => ⟨y, h.out a w hg, hm⟩⟩
theorem atq_out {α : Type} {T : α → Fr} {U : α → List Ow} {m : α → Nat} {n : Nat} {id : Nat} (h : AtQ w0 G N (.exit id) f S Q) : AtQ w0 G N (.exit id) f S (RoundQ w0 G N T U m n Q) := ⟨fun a w hg => h.out a w hg⟩
theorem satq_loop {α : Type} (T : α → Fr) (U : α → List Ow) (m : α → Nat) (x0 : α) (h0 : Ent w0 G N f S (T x0) (U x0)) (hround : ∀ x, SatQ P w0 G N c (T x) (U x) (RoundQ w0 G N T U m (m x) Q)) : SatQ P w0 G N (.loop c) f S Q := by
 refine ⟨fun a w hg => ?_⟩
 intro b k cs hro hb hr
 have key : ∀ (n : Nat) (x : α), m x = n → ∀ a w, Good w0 G N (T x) (U x) a w → ∃ e a' w', Q e a' w' ∧ ArrivesIn (Machine.fenced P Fence.wide) P (lone (b.atR a (.code c :: .inLoop c :: k)) cs w) b k cs e a' w' := by
  intro n
  induction n using Nat.strongRecOn with
  | _ n ih =>
   intro x hx a w hg
   obtain ⟨e, a', w', hq, harr⟩ := (hround x).out a w hg b (.inLoop c :: k) cs hro hb hr
   cases e with
   | normal =>
    obtain ⟨y, hgy, hlt⟩ := hq
    obtain ⟨e2, a2, w2, hq2, harr2⟩ := ih (m y) (by omega) y rfl a' w' hgy
    exact ⟨e2, a2, w2, hq2, .of_steps (StepsIn.trans harr (.one (fenced_calm hb hr rfl) stepR_inLoop)) harr2⟩
   | exit id => exact ⟨_, a', w', hq, .pass (x := .inLoop c) rfl (fun _ _ => .inl (by simp)) harr⟩
   | goto l => exact ⟨_, a', w', hq, .pass (x := .inLoop c) rfl (fun _ _ => .inl (by simp)) harr⟩
   | ret => exact ⟨_, a', w', hq, .pass (x := .inLoop c) rfl (fun _ _ => .inl (by simp)) harr⟩
   | panic ch => exact ⟨_, a', w', hq, .pass (x := .inLoop c) rfl (fun _ _ => .inl (by simp)) harr⟩
   | outgrown => exact ⟨_, a', w', hq, .pass (x := .inLoop c) rfl (fun _ _ => .inl (by simp)) harr⟩
 obtain ⟨e, a', w', hq, harr⟩ := key _ x0 rfl a w (h0.out a w hg)
 exact ⟨e, a', w', hq, .of_steps (.one (fenced_calm hb hr rfl) stepR_loop) harr⟩
end
theorem Rel.snocs {w0 : World} {G : Gs} {S : List Ow} {r : Env} {w w' : World} (h : Rel w0 G S r w) (hb : Below w.heap.size w w') (T : List Ow) (r' : Env) (hle : ∀ i, i < S.length → r'.blk i = r.blk i ∧ r'.val i = r.val i) (hnb : ∀ i x, S.length ≤ i → r'.blk i = some x → w.heap.size ≤ x ∧ x < w'.heap.size) (hinj : ∀ i j x, S.length ≤ i → S.length ≤ j → r'.blk i = some x → r'.blk j = some x → i = j)
  (hout : ∀ i, S.length + T.length ≤ i → r'.blk i = none ∧ r'.val i = none) (ho : ∀ (j : Nat) (o : Ow), T[j]? = some o → o.holds r' w' (S.length + j)) : Rel w0 G (S ++ T) r' w' ∧ r.le r' := by
 have h' := h.below hb
 have hleB : ∀ i x, r.blk i = some x → r'.blk i = some x := fun i x hx => by
  rcases Nat.lt_or_ge i S.length with h1 | h1
  ·rw [(hle i h1).1]; exact hx
  ·rw [h.outB i h1] at hx; cases hx
 have hleV : ∀ i x, r.val i = some x → r'.val i = some x := fun i x hx => by
  rcases Nat.lt_or_ge i S.length with h1 | h1
  ·rw [(hle i h1).2]; exact hx
  ·rw [h.outV i h1] at hx; cases hx
 have hle' : r.le r' := ⟨hleB, hleV⟩
 refine ⟨⟨h'.os, h'.tape, h'.output, h'.size, h'.old, fun i o' hi => ?_, fun i j x hx hy => ?_, fun i x hx => ?_, fun i hi => ?_, fun i hi => ?_, fun i g hg => hleB i g (h.first i g hg)⟩, hle'⟩
 ·rcases Nat.lt_or_ge i S.length with h1 | h1
  ·rw [List.getElem?_append_left h1] at hi
   refine Ow.holds_block (Ow.holds_mono hle' (h.own i o' hi) (hle i h1).1 (fun k x hk => ?_)) (fun x hx => hb.block x ?_) hb.size (fun x hx _ => hb.block x hx)
   ·rcases Nat.lt_or_ge k S.length with h2 | h2
    ·left; rw [← (hle k h2).1]; exact hk
    ·exact .inr (hnb k x h2 hk).1
   ·rw [(hle i h1).1] at hx; exact (h.new i x hx).1
  ·rw [List.getElem?_append_right h1] at hi
   have := ho (i - S.length) o' hi
   rwa [show S.length + (i - S.length) = i by omega] at this
 ·rcases Nat.lt_or_ge i S.length with h1 | h1 <;> rcases Nat.lt_or_ge j S.length with h2 | h2
  ·rw [(hle i h1).1] at hx; rw [(hle j h2).1] at hy; exact h.inj _ _ _ hx hy
  ·rw [(hle i h1).1] at hx
   have := (h.new i x hx).1
   have := (hnb j x h2 hy).1
   omega
  ·rw [(hle j h2).1] at hy
   have := (h.new j x hy).1
   have := (hnb i x h1 hx).1
   omega
  ·exact hinj i j x h1 h2 hx hy
 ·rcases Nat.lt_or_ge i S.length with h1 | h1
  ·rw [(hle i h1).1] at hx; exact h'.new i x hx
  ·have := hnb i x h1 hx
   refine ⟨this.2, fun hlt => ?_⟩
   have := h.size
   omega
 ·exact (hout i (by simpa using hi)).1
 ·exact (hout i (by simpa using hi)).2
structure Rows3 (B : Nat) (w' : World) (v1 v2 v3 : Value) (b : Blk) : Prop where
 at_ : w'.ownsRow B 35 1 v1 b.at_.length (b.at_.map (.int .u32))
 pages : w'.ownsRow B 3 1 v2 b.pages.length (b.pages.map (.int .i64))
 ops : w'.ownsRow B 45 5 v3 b.ops.length (b.ops.flatMap opC)
 d12 : ∀ x, v1.ownBlock = some x → v2.ownBlock ≠ some x
 d13 : ∀ x, v1.ownBlock = some x → v3.ownBlock ≠ some x
 d23 : ∀ x, v2.ownBlock = some x → v3.ownBlock ≠ some x
end Go.Proofs.YtnhdcclpjildjaaGreat
namespace Go.Proofs.YtnhdcclpjildjaaGreat
open Go.RowKit
def guardU (ops : Array Oper) (f : Fr) (o : Oper) : Option Bool := match o.guard with
 | none => some true
 | some (j, pol) => (match slotOf ops j with
  | some d => (match f.get d with
   | .p (.c (.v (.bool x))) => some (x == pol)
   | .p (.c (.v (.tuple _))) => some false
   | _ => none)
  | none => none)
def guardedU (P : Program) (W : World) (G : Gs) (N : Nd) (ops : Array Oper) : List Oper → Fr → List Ow → (Fr → List Ow → Prop) → Prop
 | [], f, S, K => K f S
 | o :: l, f, S, K => match o.guard with
  | none => opK P W G N o f S fun f' S' => guardedU P W G N ops l f' S' K
  | some _ => (match guardU ops f o with
  | some x => (x = true → opK P W G N o f S fun f' S' => guardedU P W G N ops l f' S' K) ∧ (x = false → (match dstOk N.n o.dst with
   | true => f.putK o.dst (one undef) fun f' => guardedU P W G N ops l f' S K
   | false => False))
  | none => False)
section
variable {P : Program} {w0 : World} {G : Gs} {N : Nd} {c d : Code} {f : Fr} {S : List Ow} {Q : Exit → Act → World → Prop}
theorem guardU_wanted {ops : Array Oper} {r : Env} {a : Act} {o : Oper} {x : Bool} (hf : FDen r f a) (h : guardU ops f o = some x) : Region.wanted o (yielded ops a.tmps) = x := by
 unfold guardU at h
 split at h
 ·rename_i hg; injection h with h; subst h; exact wanted_none hg _
 ·rename_i j pol hg
  split at h
  ·rename_i d hs
   split at h
   ·rename_i y hy
    injection h with h; subst h
    rw [wanted_some hg, yielded_of hf hs hy]
    cases y <;> cases pol <;> rfl
   ·rename_i vs hy
    injection h with h; subst h
    rw [wanted_some hg]
    have hv := hf d
    rw [hy] at hv
    have hv := den_v hv
    unfold slotOf at hs
    have : yielded ops a.tmps j = none := by
     unfold yielded
     rw [hs]
     show (match a.tmps[d]? with | some (.bool b) => some b | _ => none) = none
     rw [Array.getD_eq_getD_getElem?] at hv
     cases hd : a.tmps[d]? with
     | none => rfl
     | some v =>
      rw [hd] at hv
      simp at hv; subst hv; rfl
    rw [this]
    cases pol <;> rfl
   ·cases h
  ·cases h
theorem guardedU_sound {ops : Array Oper} {Q : Act → World → Prop} : ∀ (l : List Oper) (f : Fr) (S : List Ow) (K : Fr → List Ow → Prop), guardedU P w0 G N ops l f S K → (∀ f' S' a' w', K f' S' → Good w0 G N f' S' a' w' → Q a' w') →
  ∀ a w, Good w0 G N f S a w → seL P ops Q l a w
 | [], f, S, K, h, hK, a, w, hg => hK _ _ _ _ h hg
 | o :: l, f, S, K, h, hK, a, w, hg => by
  obtain ⟨r, hR, hf, hN, hd⟩ := hg
  unfold guardedU at h
  split at h
  ·rename_i hg
   unfold seL
   rw [if_pos (wanted_none hg _)]
   exact (opK_sound h).out r a w hR hf hN hd _ (fun _ _ _ => True) fun f' S' a' w' hk hg' => guardedU_sound l f' S' K hk hK a' w' hg'
  rename_i _ _ _
  split at h
  ·rename_i x hgd
   have hw := guardU_wanted hf hgd
   cases x with
   | true =>
    unfold seL
    rw [if_pos hw]
    exact (opK_sound (h.1 rfl)).out r a w hR hf hN hd _ (fun _ _ _ => True) fun f' S' a' w' hk hg' => guardedU_sound l f' S' K hk hK a' w' hg'
   | false =>
    have h := h.2 rfl
    split at h
    ·rename_i hdst
     have hk := putK_iff.1 h
     unfold seL
     rw [if_neg (by rw [hw]; decide)]
     exact guardedU_sound l _ S K hk hK _ w ⟨r, hR, hf.put (den_one _ _) (by rw [hN]; exact hdst), (put_size a _ _).trans hN, (put_defers a _ _).trans hd⟩
    ·exact h.elim
  ·exact h.elim
theorem atq_up {Q' : Exit → Act → World → Prop} (h : AtQ w0 G N .ret f S Q) (hQ : ∀ a w, Q .ret a w → Q' .ret a w) : AtQ w0 G N .ret f S Q' := ⟨fun a w hg => hQ a w (h.out a w hg)⟩
theorem satq_regionU {id : Nat} {ops : Array Oper} (h : guardedU P w0 G N ops ops.toList f S fun f' S' => AtQ w0 G N .normal f' S' Q) : SatQ P w0 G N (.region id ops false) f S Q :=
 ⟨fun a w hg => wpIn_region_list (seL_wpIn none 10 (guardedU_sound _ f S _ h (fun _f' _S' a' w' hk hg' => hk.out a' w' hg') a w hg))⟩
end
end Go.Proofs.YtnhdcclpjildjaaGreat
namespace Go.Proofs.YtnhdcclpjildjaaGreat
open Go.RowKit

def envOf (gs : List Nat) : Env := ⟨fun i => gs[i]?, fun _ => Option.none⟩
structure ObjsAt (w : World) (gs : List Nat) (U : List Ow) : Prop where
 len : U.length = gs.length
 nodup : ∀ (i j b : Nat), gs[i]? = some b → gs[j]? = some b → i = j
 lt : ∀ g ∈ gs, g < w.heap.size
 own : ∀ (i : Nat) (o : Ow), U[i]? = some o → o.holds (envOf gs) w i
structure GrownBys (w w' : World) (gs : List Nat) : Prop where
 os : w'.os = w.os
 tape : w'.tape = w.tape
 output : w'.output = w.output
 size : w.heap.size ≤ w'.heap.size
 block : ∀ k, k < w.heap.size → k ∉ gs → w'.heap[k]? = w.heap[k]?
theorem rel_objs {w : World} {gs : List Nat} {U : List Ow} (h : ObjsAt w gs U) : Rel w ⟨gs, []⟩ U (envOf gs) w := by
 refine ⟨rfl, rfl, rfl, Nat.le_refl _, fun k _ _ => rfl, h.own, h.nodup, fun i b hb => ?_, fun i hi => ?_, fun i _ => rfl, fun i g hg => hg⟩
 ·have hm : b ∈ gs := List.mem_of_getElem? hb
  exact ⟨h.lt b hm, fun _ => .inl hm⟩
 ·show gs[i]? = Option.none
  exact List.getElem?_eq_none (by rw [← h.len]; exact hi)
def CV.ob (n : Nat) : CV → Bool
 | .v _ => true
 | .ref i _ => Nat.blt i n
 | .sl i _ _ _ => Nat.blt i n
 | _ => false
def CV.sh (k : Nat) : CV → CV
 | .ref i o => .ref (k + i) o
 | .sl i o n c => .sl (k + i) o n c
 | c => c
theorem CV.den_sh {r r' : Env} {n k : Nat} (h : ∀ i b, i < n → r.blk (k + i) = some b → r'.blk i = some b) : ∀ {c : CV} {u : Value}, c.ob n = true → (c.sh k).den r u → c.den r' u
 | .v x, u, _, hd => by simpa only [CV.den, CV.sh] using hd
 | .ref i off, u, hb, hd => by
  simp only [CV.den, CV.sh] at hd ⊢; obtain ⟨x, hx, hu⟩ := hd
  exact ⟨x, h i x (by simpa [CV.ob, Nat.blt_eq] using hb) hx, hu⟩
 | .sl i off m c, u, hb, hd => by
  simp only [CV.den, CV.sh] at hd ⊢; obtain ⟨x, hx, hu⟩ := hd
  exact ⟨x, h i x (by simpa [CV.ob, Nat.blt_eq] using hb) hx, hu⟩
 | .any, u, hb, _ => by cases hb
 | .vref .., _, hb, _ => by cases hb
 | .row .., _, hb, _ => by cases hb
 | .mp .., _, hb, _ => by cases hb
 | .clo .., _, hb, _ => by cases hb
theorem CV.sh_den {r r' : Env} {n k : Nat} (h : ∀ i b, i < n → r'.blk i = some b → r.blk (k + i) = some b) : ∀ {c : CV} {u : Value}, c.ob n = true → c.den r' u → (c.sh k).den r u
 | .v x, u, _, hd => by simpa only [CV.den, CV.sh] using hd
 | .ref i off, u, hb, hd => by
  simp only [CV.den, CV.sh] at hd ⊢; obtain ⟨x, hx, hu⟩ := hd
  exact ⟨x, h i x (by simpa [CV.ob, Nat.blt_eq] using hb) hx, hu⟩
 | .sl i off m c, u, hb, hd => by
  simp only [CV.den, CV.sh] at hd ⊢; obtain ⟨x, hx, hu⟩ := hd
  exact ⟨x, h i x (by simpa [CV.ob, Nat.blt_eq] using hb) hx, hu⟩
 | .any, u, hb, _ => by cases hb
 | .vref .., _, hb, _ => by cases hb
 | .row .., _, hb, _ => by cases hb
 | .mp .., _, hb, _ => by cases hb
 | .clo .., _, hb, _ => by cases hb
theorem denL_sh {r r' : Env} {n k : Nat} (h : ∀ i b, i < n → r.blk (k + i) = some b → r'.blk i = some b) : ∀ {l : List CV} {us : List Value}, (∀ c ∈ l, c.ob n = true) → denL r (l.map (CV.sh k)) us → denL r' l us
 | [], us, _, hd => by simpa only [denL, List.map_nil] using hd
 | c :: cs, us, hb, hd => by
  simp only [List.map_cons, denL] at hd ⊢; obtain ⟨u, l, hu, hc, hl⟩ := hd
  exact ⟨u, l, hu, CV.den_sh h (hb c (by simp)) hc, denL_sh h (fun x hx => hb x (by simp [hx])) hl⟩
theorem sh_denL {r r' : Env} {n k : Nat} (h : ∀ i b, i < n → r'.blk i = some b → r.blk (k + i) = some b) : ∀ {l : List CV} {us : List Value}, (∀ c ∈ l, c.ob n = true) → denL r' l us → denL r (l.map (CV.sh k)) us
 | [], us, _, hd => by simpa only [denL, List.map_nil] using hd
 | c :: cs, us, hb, hd => by
  simp only [List.map_cons, denL] at hd ⊢; obtain ⟨u, l, hu, hc, hl⟩ := hd
  exact ⟨u, l, hu, CV.sh_den h (hb c (by simp)) hc, sh_denL h (fun x hx => hb x (by simp [hx])) hl⟩
def Ow.Ob (n : Nat) : Ow → Prop
 | .cells _ l => ∀ c ∈ l, c.ob n = true
 | _ => False
def ObAll (n : Nat) (U : List Ow) : Prop := ∀ o ∈ U, o.Ob n
def Ow.Sh (k : Nat) : Ow → Ow → Prop
 | .cells t l, .cells t' l' => t = t' ∧ l' = l.map (CV.sh k)
 | _, _ => False
def ShAll (k : Nat) : List Ow → List Ow → Prop
 | [], [] => True
 | o :: U, o' :: V => o.Sh k o' ∧ ShAll k U V
 | _, _ => False
theorem ShAll.length {k : Nat} : ∀ {U V : List Ow}, ShAll k U V → U.length = V.length
 | [], [], _ => rfl
 | _ :: _, _ :: _, h => by simp [h.2.length]
 | [], _ :: _, h => h.elim
 | _ :: _, [], h => h.elim
theorem ShAll.get {k : Nat} : ∀ {U V : List Ow} (i : Nat), ShAll k U V → ∀ {o}, U[i]? = some o → ∃ o', V[i]? = some o' ∧ o.Sh k o'
 | [], [], i, _, o, h => by simp at h
 | a :: U, b :: V, 0, hs, o, h => by simp at h; subst h; exact ⟨b, rfl, hs.1⟩
 | a :: U, b :: V, i + 1, hs, o, h => by simpa using ShAll.get i hs.2 (by simpa using h)
 | [], _ :: _, _, h, _, _ => h.elim
 | _ :: _, [], _, h, _, _ => h.elim
theorem ShAll.get' {k : Nat} : ∀ {U V : List Ow} (i : Nat), ShAll k U V → ∀ {o}, V[i]? = some o → ∃ o', U[i]? = some o' ∧ o'.Sh k o
 | [], [], i, _, o, h => by simp at h
 | a :: U, b :: V, 0, hs, o, h => by simp at h; subst h; exact ⟨a, rfl, hs.1⟩
 | a :: U, b :: V, i + 1, hs, o, h => by simpa using ShAll.get' i hs.2 (by simpa using h)
 | [], _ :: _, _, h, _, _ => h.elim
 | _ :: _, [], _, h, _, _ => h.elim
section
variable {P : Program} {w0 : World} {G : Gs} {N : Nat} {c : Code} {fn : Func} {R : Ending → World → Prop}
theorem calls_objs_satq {fid : FuncId} {w : World} {gs : List Nat} {U : List Ow} (avs : List AV) (args : List Value) (hf : P.funcs[fid]? = some fn) (hN : fn.ntmps = N) (hb : fn.body = some c) (hle : args.length ≤ N) (hU : ObjsAt w gs U) (hargs : avdenL (envOf gs) avs args)
  (h : SatQ P w ⟨gs, []⟩ ⟨N, []⟩ c (argFr avs 0) U (bodyPostM Fence.wide 10 P fn R)) : Calls P fid args.toArray w R := by
 refine callsIn_wide.1 (callsIn_of_wp_marks (n := 10) hf hb trivial (h.out _ w ⟨envOf gs, rel_objs hU, fun i => ?_, by simp; omega, rfl⟩))
 refine argFr_get (r := envOf gs) avs args 0 hargs (fun j u hj => ?_) i
 rw [Nat.zero_add, Array.getD_eq_getD_getElem?, Array.getElem?_append_left (by simp; rcases Nat.lt_or_ge j args.length with h1 | h1; exact h1; rw [List.getElem?_eq_none h1] at hj; cases hj)]
 have : args.toArray[j]? = some u := by simpa using hj
 rw [this]; rfl
theorem calls_objs {fid : FuncId} {w : World} {gs : List Nat} {U : List Ow} (avs : List AV) (args : List Value) (hf : P.funcs[fid]? = some fn) (hN : fn.ntmps = N) (hb : fn.body = some c) (hle : args.length ≤ N) (hU : ObjsAt w gs U) (hargs : avdenL (envOf gs) avs args)
  (h : vc none P w ⟨gs, []⟩ ⟨N, []⟩ c (argFr avs 0) U (RetK P w ⟨gs, []⟩ fn.results.toList R)) : Calls P fid args.toArray w R :=
 calls_vc hf hN hb (rel_objs hU) hargs hle h
theorem Rel.growns {gs : List Nat} {S : List Ow} {r : Env} {w : World} (h : Rel w0 ⟨gs, []⟩ S r w) : GrownBys w0 w gs :=
 ⟨h.os, h.tape, h.output, h.size, fun k hk hn => h.old k hk (by
  rintro (h1 | h1)
  ·exact hn h1
  ·cases h1)⟩
theorem Rel.objs {gs : List Nat} {S U : List Ow} {r : Env} {w : World} (h : Rel w0 ⟨gs, []⟩ S r w) (hlen : U.length = gs.length) (hU : ∀ (i : Nat) (o : Ow), U[i]? = some o → S[i]? = some o) (hob : ObAll gs.length U) : ObjsAt w gs U := by
 have hblk : ∀ i b, gs[i]? = some b → r.blk i = some b := fun i b hb => h.first i b hb
 refine ⟨hlen, fun i j b hi hj => h.inj i j b (hblk i b hi) (hblk j b hj), fun g hg => ?_, fun i o ho => ?_⟩
 ·obtain ⟨i, hi⟩ := List.getElem?_of_mem hg
  exact (h.new i g (hblk i g hi)).1
 ·have hio := h.own i o (hU i o ho)
  have hb := hob o (List.mem_of_getElem? ho)
  cases o with
  | cells t l =>
   obtain ⟨b, us, e1, e2, e3⟩ := hio
   have hi : i < gs.length := by
    rw [← hlen]
    rcases Nat.lt_or_ge i U.length with h1 | h1
    ·exact h1
    ·rw [List.getElem?_eq_none h1] at ho; cases ho
   have hg : gs[i]? = some b := by
    obtain ⟨g, hg⟩ : ∃ g, gs[i]? = some g := ⟨_, List.getElem?_eq_getElem hi⟩
    have := hblk i g hg
    rw [e1] at this; injection this with this; rw [this]; exact hg
   refine ⟨b, us, hg, e2, ?_⟩
   refine denL_sh (k := 0) (n := gs.length) (r := r) (fun i b hi hb => ?_) hb ?_
   ·obtain ⟨g, hg⟩ : ∃ g, gs[i]? = some g := ⟨_, List.getElem?_eq_getElem hi⟩
    have := hblk i g hg
    rw [Nat.zero_add] at hb
    rw [hb] at this; injection this with this; rw [this]; exact hg
   ·have : ∀ l : List CV, l.map (CV.sh 0) = l := fun l => by
     refine (List.map_congr_left fun c _ => ?_).trans (List.map_id l)
     cases c <;> simp [CV.sh]
    rw [this]; exact e3
  | row => exact hb.elim
  | ext => exact hb.elim
  | view => exact hb.elim
  | gone => exact hb.elim
theorem fin_objs {gs : List Nat} {S U : List Ow} {v : AV} {x : Value} (hv : v.val = some x) (hlen : U.length = gs.length) (hU : ∀ (i : Nat) (o : Ow), U[i]? = some o → S[i]? = some o) (hob : ObAll gs.length U) (h : ∀ w, ObjsAt w gs U → GrownBys w0 w gs → R (.returned x) w) : Fin w0 ⟨gs, []⟩ S v R := by
 refine ⟨fun r w u hR hd => ?_⟩
 obtain rfl := AV.val_den hv hd
 exact h w (hR.objs hlen hU hob) hR.growns
end
def OldKeeps (w0 : World) (G : Gs) (w : World) (gs : List Nat) : Prop := ∀ b, b < w0.heap.size → b ∉ G → b < w.heap.size ∧ b ∉ gs ∧ w.heap[b]? = w0.heap[b]?
theorem OldKeeps.cells {w0 : World} {G : Gs} {w : World} {gs : List Nat} (h : OldKeeps w0 G w gs) {b off : Nat} {xs : List Value} (hc : CellsAt w0 G b off xs) : CellsAt w ⟨gs, []⟩ b off xs := by
 obtain ⟨h1, h2, h3⟩ := hc
 obtain ⟨k1, k2, k3⟩ := h b h1 h2
 refine ⟨k1, ?_, fun j u hj => ?_⟩
 ·rintro (h4 | h4)
  ·exact k2 h4
  ·cases h4
 ·have := h3 j u hj
  unfold World.cell? at this ⊢
  rw [k3]; exact this
def putS (S : List Ow) (k : Nat) : List Ow → List Ow
 | [] => S
 | o :: V => putS (S.set k o) (k + 1) V
theorem putS_length : ∀ (V : List Ow) (S : List Ow) (k : Nat), (putS S k V).length = S.length
 | [], S, k => rfl
 | o :: V, S, k => by simp [putS, putS_length V]
theorem putS_get : ∀ (V : List Ow) (S : List Ow) (k j : Nat), k + V.length ≤ S.length → (putS S k V)[j]? = if k ≤ j ∧ j < k + V.length then V[j - k]? else S[j]?
 | [], S, k, j, h => by rw [if_neg (by simp)]; rfl
 | o :: V, S, k, j, h => by
  simp only [List.length_cons] at h
  show (putS (S.set k o) (k + 1) V)[j]? = _
  rw [putS_get V _ (k + 1) j (by simp; omega)]
  by_cases h1 : k + 1 ≤ j ∧ j < k + 1 + V.length
  ·rw [if_pos h1, if_pos (by simp only [List.length_cons]; omega), show j - k = (j - (k + 1)) + 1 by omega, List.getElem?_cons_succ]
  ·rw [if_neg h1]
   by_cases h2 : j = k
   ·subst h2
    rw [List.getElem?_set_self (by omega), if_pos (by simp only [List.length_cons]; omega), Nat.sub_self]; rfl
   ·rw [List.getElem?_set_ne (fun e => h2 e.symm), if_neg (by simp only [List.length_cons]; omega)]
theorem avden_append {r : Env} : ∀ {l m : List AV} {us : List Value}, avdenL r (l ++ m) us → ∃ us1 us2, us = us1 ++ us2 ∧ avdenL r l us1 ∧ avdenL r m us2
 | [], m, us, h => ⟨[], us, rfl, rfl, h⟩
 | x :: l, m, us, h => by
  obtain ⟨u, l', rfl, h1, h2⟩ := h
  obtain ⟨us1, us2, rfl, h3, h4⟩ := avden_append h2
  exact ⟨u :: us1, us2, rfl, ⟨u, us1, rfl, h1, h3⟩, h4⟩
theorem call_objs {P : Program} {w0 : World} {G : Gs} {fid : FuncId} {S : List Ow} {K : AV → List Ow → Prop} {pre suf : List AV} {xs ys : List Value} {α : Type} (k : Nat) (U V : List Ow) (U' V' : α → List Ow) (X : α → Value) (post : α → Prop) (hpos : 0 < U.length) (hsh : ShAll k U V) (hob : ObAll U.length U) (hS : ∀ i, i < U.length → S[k + i]? = V[i]?)
  (hx : avals pre = some xs) (hy : avals suf = some ys) (hok : fnOk P fid = true) (hsh' : ∀ x, post x → ShAll k (U' x) (V' x)) (hob' : ∀ x, post x → ObAll U.length (U' x)) (hlen' : ∀ x, post x → (U' x).length = U.length)
  (h : ∀ w g gs, OldKeeps w0 G w (g :: gs) → ObjsAt w (g :: gs) U → Calls P fid (xs ++ .pointer (some ⟨g, 0, none⟩) :: ys).toArray w fun e w' => ∃ x, post x ∧ e = .returned (X x) ∧ ObjsAt w' (g :: gs) (U' x) ∧ GrownBys w w' (g :: gs))
  (hK : ∀ x, post x → K (AV.of (X x)) (putS S k (V' x))) : CallS P w0 G fid (pre ++ .p (.c (.ref k 0)) :: suf) S K := by
 refine ⟨hok, fun r w vs hR hd => ?_⟩
 have hSlen : k + U.length ≤ S.length := by
  have h1 := hS (U.length - 1) (by omega)
  obtain ⟨o', h2, _⟩ := hsh.get (U.length - 1) (List.getElem?_eq_getElem (by omega) : U[U.length - 1]? = some U[U.length - 1])
  rw [h2] at h1
  rcases Nat.lt_or_ge (k + (U.length - 1)) S.length with h3 | h3
  ·omega
  ·rw [List.getElem?_eq_none h3] at h1; cases h1
 have hblk : ∀ i, i < U.length → ∃ b, r.blk (k + i) = some b := fun i hi => by
  obtain ⟨o', h2, h3⟩ := hsh.get i (List.getElem?_eq_getElem hi)
  have h4 := hR.own (k + i) o' (by rw [hS i hi, h2])
  have h5 := hob _ (List.getElem_mem hi)
  cases hu : U[i] with
  | cells t l =>
   rw [hu] at h3
   cases o' with
   | cells t' l' => obtain ⟨b, us, e1, _⟩ := h4; exact ⟨b, e1⟩
   | row => exact h3.elim
   | ext => exact h3.elim
   | view => exact h3.elim
   | gone => exact h3.elim
  | row => rw [hu] at h5; exact h5.elim
  | ext => rw [hu] at h5; exact h5.elim
  | view => rw [hu] at h5; exact h5.elim
  | gone => rw [hu] at h5; exact h5.elim
 obtain ⟨gs, hgl, hgs⟩ : ∃ gs : List Nat, gs.length = U.length ∧ ∀ i, i < U.length → gs[i]? = r.blk (k + i) := by
  refine ⟨(List.range U.length).map fun i => (r.blk (k + i)).getD 0, by simp, fun i hi => ?_⟩
  obtain ⟨b, hb⟩ := hblk i hi
  rw [List.getElem?_map, List.getElem?_range hi, hb]
  simp [hb]
 have hto : ∀ i b, i < U.length → r.blk (k + i) = some b → (envOf gs).blk i = some b := fun i b hi hb => by
  show gs[i]? = some b
  rw [hgs i hi]; exact hb
 have hfrom : ∀ i b, i < U.length → (envOf gs).blk i = some b → r.blk (k + i) = some b := fun i b hi hb => by
  have hb : gs[i]? = some b := hb
  rw [hgs i hi] at hb; exact hb
 have hin : ∀ (i b : Nat), gs[i]? = some b → i < U.length ∧ r.blk (k + i) = some b := fun i b hb => by
  have hi : i < U.length := by
   rcases Nat.lt_or_ge i U.length with h1 | h1
   ·exact h1
   ·rw [List.getElem?_eq_none (by omega)] at hb; cases hb
  exact ⟨hi, by rw [← hgs i hi]; exact hb⟩
 have hmem : ∀ b, b ∈ gs → ∃ i, i < U.length ∧ r.blk (k + i) = some b := fun b hb => by
  obtain ⟨i, hi⟩ := List.getElem?_of_mem hb
  exact ⟨i, hin i b hi⟩
 have hU : ObjsAt w gs U := by
  refine ⟨hgl.symm, fun i j b hi hj => ?_, fun g hg => ?_, fun i o ho => ?_⟩
  ·have := hR.inj _ _ b (hin i b hi).2 (hin j b hj).2
   omega
  ·obtain ⟨i, _, hi⟩ := hmem g hg
   exact (hR.new _ g hi).1
  ·have hi : i < U.length := by
    rcases Nat.lt_or_ge i U.length with h1 | h1
    ·exact h1
    ·rw [List.getElem?_eq_none h1] at ho; cases ho
   obtain ⟨o', h2, h3⟩ := hsh.get i ho
   have h4 := hR.own (k + i) o' (by rw [hS i hi, h2])
   have h5 := hob o (List.mem_of_getElem? ho)
   cases o with
   | cells t l =>
    cases o' with
    | cells t' l' =>
     obtain ⟨rfl, rfl⟩ := h3
     obtain ⟨b, us, e1, e2, e3⟩ := h4
     exact ⟨b, us, hto i b hi e1, e2, denL_sh (n := U.length) hto h5 e3⟩
    | row => exact h3.elim
    | ext => exact h3.elim
    | view => exact h3.elim
    | gone => exact h3.elim
   | row => exact h5.elim
   | ext => exact h5.elim
   | view => exact h5.elim
   | gone => exact h5.elim
 have hkeep : OldKeeps w0 G w gs := fun b hb hG => by
  refine ⟨Nat.lt_of_lt_of_le hb hR.size, fun hm => ?_, hR.old b hb hG⟩
  obtain ⟨i, _, hi⟩ := hmem b hm
  exact hG ((hR.new _ b hi).2 hb)
 cases gs with
 | nil => simp at hgl; omega
 | cons g gs =>
  obtain ⟨vs1, vs2, rfl, d1, d2⟩ := avden_append hd
  obtain rfl := avals_den hx d1
  obtain ⟨u, vs3, rfl, d3, d4⟩ := d2
  obtain rfl := avals_den hy d4
  obtain ⟨b, hb, rfl⟩ := den_ref d3
  have hbg : b = g := by
   have := hto 0 b hpos (by simpa using hb)
   have : g = b := by injection this
   exact this.symm
  subst hbg
  refine (h w b gs hkeep hU).mono fun e w' ⟨x, hp, he, hU', hg⟩ => ?_
  refine ⟨AV.of (X x), X x, _, r, he, AV.of_den r _, ?_, Env.le.refl r, hK x hp⟩
  have hVl : (V' x).length = U.length := by rw [← hlen' x hp, (hsh' x hp).length]
  have hnot : ∀ j b', r.blk j = some b' → ¬ (k ≤ j ∧ j < k + U.length) → b' ∉ (b :: gs) := fun j b' hj hno hm => by
   obtain ⟨i, hi, hbi⟩ := hmem b' hm
   have := hR.inj _ _ b' hj hbi
   omega
  refine ⟨hg.os.trans hR.os, hg.tape.trans hR.tape, hg.output.trans hR.output, Nat.le_trans hR.size hg.size, fun j hj hjG => ?_, fun j o hj => ?_, hR.inj, fun j b' hb' => ⟨Nat.lt_of_lt_of_le (hR.new j b' hb').1 hg.size, (hR.new j b' hb').2⟩,
   fun j hj => hR.outB j (by rwa [putS_length] at hj), fun j hj => hR.outV j (by rwa [putS_length] at hj), hR.first⟩
  ·obtain ⟨k1, k2, k3⟩ := hkeep j hj hjG
   rw [hg.block j k1 k2]; exact k3
  ·rw [putS_get _ _ _ _ (by rw [hVl]; exact hSlen), hVl] at hj
   by_cases hr : k ≤ j ∧ j < k + U.length
   ·rw [if_pos hr] at hj
    obtain ⟨o', h2, h3⟩ := (hsh' x hp).get' (j - k) hj
    have h4 := hU'.own (j - k) o' h2
    have h5 := hob' x hp o' (List.mem_of_getElem? h2)
    cases o' with
    | cells t l =>
     cases o with
     | cells t' l' =>
      obtain ⟨rfl, rfl⟩ := h3
      obtain ⟨c, us, e1, e2, e3⟩ := h4
      refine ⟨c, us, ?_, e2, sh_denL (n := U.length) hfrom h5 e3⟩
      have := hfrom (j - k) c (by omega) e1
      rwa [show k + (j - k) = j by omega] at this
     | row => exact h3.elim
     | ext => exact h3.elim
     | view => exact h3.elim
     | gone => exact h3.elim
    | row => exact h5.elim
    | ext => exact h5.elim
    | view => exact h5.elim
    | gone => exact h5.elim
   ·rw [if_neg hr] at hj
    refine Ow.holds_block (hR.own j o hj) (fun b' hb' => hg.block b' (hR.new j b' hb').1 (hnot j b' hb' hr)) hg.size fun b' hb' hno => hg.block b' hb' fun hm => ?_
    obtain ⟨i, _, hi⟩ := hmem b' hm
    exact hno _ hi
end Go.Proofs.YtnhdcclpjildjaaGreat
namespace Go.Proofs.YtnhdcclpjildjaaGreat
open Go.RowKit

structure Ins1 (k0 : Int) where
 n : Int
 l : List BOp
 W : Nat
 k : Int
 hn : 0 ≤ n ∧ n ≤ 3
 hb : BodyOk l W false
 hl : (l.length : Int) + n ≤ 3
 hk : k0 ≤ k ∧ k + 8 * n ≤ k0 + 24
structure Ins2 (k0 : Int) where
 l : List BOp
 W : Nat
 ch : Bool
 k : Int
 hb : BodyOk l W ch
 hl : l.length ≤ 4
 hk : k0 ≤ k ∧ k ≤ k0 + 40
structure Ins3 (k0 : Int) (W : Nat) where
 n : Int
 l : List BOp
 ch : Bool
 k : Int
 hn : 0 ≤ n ∧ n ≤ 3
 hb : BodyOk l W ch
 hl : (l.length : Int) + n ≤ 7
 hk : k0 ≤ k ∧ k + 8 * n ≤ k0 + 24
end Go.Proofs.YtnhdcclpjildjaaGreat
namespace Go.Proofs.YtnhdcclpjildjaaGreat
open Go.RowKit

structure MadeSt (n : Int) (k0 : Int) where
 i : Nat
 ats : List Int
 ops : List BOp
 W : Nat
 ch : Bool
 k : Int
 hi : (i : Int) ≤ n
 hats : ∀ x ∈ ats, word x
 hatl : ats.length = i
 pre : PreOk ops i W ch
 hlen : ops.length ≤ 11 * i
 hk : 0 ≤ k ∧ k ≤ k0 + 210 * i
end Go.Proofs.YtnhdcclpjildjaaGreat
namespace Go.Proofs.YtnhdcclpjildjaaGreat
open Go.RowKit

def sbits (b : Nat) : Prop := b = 12 ∨ b = 18 ∨ b = 22
end Go.Proofs.YtnhdcclpjildjaaGreat
namespace Go.Proofs.YtnhdcclpjildjaaGreat
open Go.RowKit

abbrev zpage : List Int := List.replicate 256 0
end Go.Proofs.YtnhdcclpjildjaaGreat
namespace Go.Proofs.YtnhdcclpjildjaaGreat
open Go.RowKit

structure ReplSt (a g : List Int) (n : Nat) where
 i : Nat
 l : List BOp
 hl : l.length = n
 hi : i ≤ n
 ok : MadeOk ⟨a, g, l⟩
end Go.Proofs.YtnhdcclpjildjaaGreat
namespace Go.Proofs.YtnhdcclpjildjaaGreat
open Go.RowKit

structure TurnOk (b : Blk) : Prop where
 ok : b.ok
 l1 : b.at_.length ≤ 1000
 l2 : b.pages.length ≤ 1000
 l3 : b.ops.length ≤ 1000
end Go.Proofs.YtnhdcclpjildjaaGreat
namespace Go.Proofs.YtnhdcclpjildjaaGreat
open Go.RowKit

structure MemP where
 data : List Int
 image : List Int
 oldData : List Int
 oldImage : List Int
 rights : List Int
 td : List Value := []
 ti : List Value := []
 tod : List Value := []
 toi : List Value := []
 tr : List Value := []
abbrev byteV (x : Int) : Value := .int .u8 x
abbrev intV (x : Int) : Value := .int .i64 x
def MemP.dV (M : MemP) : List Value := M.data.map byteV ++ M.td
def MemP.iV (M : MemP) : List Value := M.image.map byteV ++ M.ti
def MemP.odV (M : MemP) : List Value := M.oldData.map byteV ++ M.tod
def MemP.oiV (M : MemP) : List Value := M.oldImage.map byteV ++ M.toi
def MemP.rV (M : MemP) : List Value := M.rights.map intV ++ M.tr
abbrev memS (k n p : Nat) (M : MemP) : List Ow :=
 [.cells 125 [.sl (k + 1) 0 n (n + M.td.length), .sl (k + 2) 0 n (n + M.ti.length), .sl (k + 3) 0 n (n + M.tod.length), .sl (k + 4) 0 n (n + M.toi.length), .sl (k + 5) 0 p (p + M.tr.length), .v (.bool false)],
  .cells 5 (M.dV.map .v), .cells 5 (M.iV.map .v), .cells 5 (M.odV.map .v), .cells 5 (M.oiV.map .v), .cells 3 (M.rV.map .v)]
structure MemP.ok (M : MemP) (n p : Nat) : Prop where
 ld : M.data.length = n
 li : M.image.length = n
 lr : M.rights.length = p
 lod : M.oldData.length = n
 loi : M.oldImage.length = n
 np : n = 256 * p
 pmax : p ≤ 4096
 db : ∀ x ∈ M.data, 0 ≤ x ∧ x < 256
 ib : ∀ x ∈ M.image, 0 ≤ x ∧ x < 256
 rb : ∀ x ∈ M.rights, 0 ≤ x ∧ x < 8
theorem sh_vals (k : Nat) (us : List Value) : (us.map CV.v).map (CV.sh k) = us.map CV.v := by
 rw [List.map_map]; rfl
theorem memS_sh (k n p : Nat) (M : MemP) : ShAll k (memS 0 n p M) (memS k n p M) := by
 refine ⟨⟨rfl, ?_⟩, ⟨rfl, (sh_vals k _).symm⟩, ⟨rfl, (sh_vals k _).symm⟩, ⟨rfl, (sh_vals k _).symm⟩, ⟨rfl, (sh_vals k _).symm⟩, ⟨rfl, (sh_vals k _).symm⟩, trivial⟩
 simp [CV.sh]
theorem ob_vals (n : Nat) (us : List Value) : ∀ c ∈ us.map CV.v, c.ob n = true := fun c hc => by
 obtain ⟨u, _, rfl⟩ := List.mem_map.1 hc; rfl
theorem memS_ob (n p : Nat) (M : MemP) : ObAll 6 (memS 0 n p M) := by
 intro o ho
 simp only [memS, List.mem_cons, List.not_mem_nil, or_false] at ho
 rcases ho with rfl | rfl | rfl | rfl | rfl | rfl
 ·intro c hc
  simp only [List.mem_cons, List.not_mem_nil, or_false] at hc
  rcases hc with rfl | rfl | rfl | rfl | rfl | rfl <;> rfl
 ·exact ob_vals 6 _
 ·exact ob_vals 6 _
 ·exact ob_vals 6 _
 ·exact ob_vals 6 _
 ·exact ob_vals 6 _
theorem six_blocks {w : World} {gs : List Nat} {n p : Nat} {M : MemP} (h : ObjsAt w gs (memS 0 n p M)) : ∃ g0 g1 g2 g3 g4 g5, gs = [g0, g1, g2, g3, g4, g5] := by
 have := h.len
 match gs, this with
 | [g0, g1, g2, g3, g4, g5], _ => exact ⟨g0, g1, g2, g3, g4, g5, rfl⟩
theorem sub_append {U T : List Ow} : ∀ (i : Nat) (o : Ow), U[i]? = some o → (U ++ T)[i]? = some o := fun i o h => by
 have hi : i < U.length := by
  rcases Nat.lt_or_ge i U.length with h1 | h1
  ·exact h1
  ·rw [List.getElem?_eq_none h1] at h; cases h
 rw [List.getElem?_append_left hi]; exact h
theorem putS_same {S V : List Ow} {k : Nat} (h : ∀ i, i < V.length → S[k + i]? = V[i]?) : putS S k V = S := by
 rcases Nat.eq_zero_or_pos V.length with h0 | hpos
 ·rw [List.eq_nil_of_length_eq_zero h0]; rfl
 have hlen : k + V.length ≤ S.length := by
  have h1 := h (V.length - 1) (by omega)
  rw [List.getElem?_eq_getElem (by omega : V.length - 1 < V.length)] at h1
  rcases Nat.lt_or_ge (k + (V.length - 1)) S.length with h3 | h3
  ·omega
  ·rw [List.getElem?_eq_none h3] at h1; cases h1
 refine List.ext_getElem? fun j => ?_
 rw [putS_get _ _ _ _ hlen]
 split
 ·rename_i hj
  rw [← h (j - k) (by omega), show k + (j - k) = j by omega]
 ·rfl
section
variable {w0 : World} {G : Gs} {fid : FuncId} {S : List Ow} {K : AV → List Ow → Prop} {pre suf : List AV} {xs ys : List Value} {P : Program}
theorem call_memW (k n p : Nat) (M M' : MemP) (X : Value) (hS : ∀ i, i < 6 → S[k + i]? = (memS k n p M)[i]?) (hx : avals pre = some xs) (hy : avals suf = some ys) (hok : fnOk P fid = true)
  (h : ∀ w g gs, OldKeeps w0 G w (g :: gs) → ObjsAt w (g :: gs) (memS 0 n p M) → Calls P fid (xs ++ .pointer (some ⟨g, 0, none⟩) :: ys).toArray w fun e w' => e = .returned X ∧ ObjsAt w' (g :: gs) (memS 0 n p M') ∧ GrownBys w w' (g :: gs))
  (hK : K (AV.of X) (putS S k (memS k n p M'))) : CallS P w0 G fid (pre ++ .p (.c (.ref k 0)) :: suf) S K :=
 call_objs (α := Unit) k (memS 0 n p M) (memS k n p M) (fun _ => memS 0 n p M') (fun _ => memS k n p M') (fun _ => X) (fun _ => True) (by simp) (memS_sh k n p M) (memS_ob n p M) hS hx hy hok (fun _ _ => memS_sh k n p M') (fun _ _ => memS_ob n p M') (fun _ _ => rfl)
  (fun w g gs hk hU => (h w g gs hk hU).mono fun e w' ⟨h1, h2, h3⟩ => ⟨(), trivial, h1, h2, h3⟩) (fun _ _ => hK)
theorem call_memR (k n p : Nat) (M : MemP) (X : Value) (hS : ∀ i, i < 6 → S[k + i]? = (memS k n p M)[i]?) (hx : avals pre = some xs) (hy : avals suf = some ys) (hok : fnOk P fid = true)
  (h : ∀ w g gs, OldKeeps w0 G w (g :: gs) → ObjsAt w (g :: gs) (memS 0 n p M) → Calls P fid (xs ++ .pointer (some ⟨g, 0, none⟩) :: ys).toArray w fun e w' => e = .returned X ∧ ObjsAt w' (g :: gs) (memS 0 n p M) ∧ GrownBys w w' (g :: gs))
  (hK : K (AV.of X) S) : CallS P w0 G fid (pre ++ .p (.c (.ref k 0)) :: suf) S K :=
 call_memW k n p M M X hS hx hy hok h (by rw [putS_same (fun i hi => hS i hi)]; exact hK)
end
set_option maxRecDepth 100000 in
theorem mem_in (M : MemP) (n p : Nat) (a : Int) (w : World) (g : Nat) (gs : List Nat) (hU : ObjsAt w (g :: gs) (memS 0 n p M)) (_hM : M.ok n p) (ha : word a) :
  Calls Tryz.prog 60 #[.pointer (some ⟨g, 0, none⟩), .int .u32 a] w fun e w' => e = .returned (.bool (decide (a < (n : Int)))) ∧ ObjsAt w' (g :: gs) (memS 0 n p M) ∧ GrownBys w w' (g :: gs) := by
 obtain ⟨g0, g1, g2, g3, g4, g5, hg⟩ := six_blocks hU
 injection hg with hg0 hgs
 subst hgs; subst hg0
 refine calls_objs [.p (.c (.ref 0 0)), one (.int .u32 a)] [.pointer (some ⟨g, 0, none⟩), .int .u32 a] Tryz.func60 Tryz.ntmps60 rfl (by simp) hU ⟨_, _, rfl, den_mk_ref rfl, avdenL_of [.int .u32 a]⟩ ?_
 conv => whnf
 refine ⟨a, wr64 (by unfold word at ha; omega), ?_⟩
 conv => whnf
 exact fin_objs rfl rfl (fun i o h => h) (memS_ob n p M) fun w' h1 h2 => ⟨rfl, h1, h2⟩
theorem bndL_vals (n : Nat) : ∀ us : List Value, bndL n (us.map CV.v) = true
 | [] => rfl
 | u :: us => by simp only [List.map_cons, bndL, CV.bnd]; exact bndL_vals n us
theorem grp_mem (g g1 g2 g3 g4 g5 n p : Nat) (M : MemP) : grpOk ⟨[g, g1, g2, g3, g4, g5], []⟩ (memS 0 n p M) = true := by
 show sbnd 6 (memS 0 n p M) = true
 simp only [sbnd, Ow.bnd, bndL_vals, bndL, CV.bnd]
 rfl
theorem tail_at {l : List Int} {f : Int → Value} {t : List Value} {i : Nat} {x : Int} (h : l[i]? = some x) : ((l.map f ++ t).map CV.v)[i]? = some (.v (f x)) := by
 have hi : i < l.length := by
  rcases Nat.lt_or_ge i l.length with h1 | h1
  ·exact h1
  ·rw [List.getElem?_eq_none h1] at h; cases h
 rw [List.getElem?_map, List.getElem?_append_left (by simpa using hi), List.getElem?_map, h]; rfl
theorem tail_le {l : List Int} {f : Int → Value} {t : List Value} {n : Nat} (h : l.length = n) : n ≤ ((l.map f ++ t).map CV.v).length := by simp [h]
theorem tail_set {l : List Int} {f : Int → Value} {t : List Value} {i : Nat} {x : Int} (h : i < l.length) : (l.map f ++ t).set i (f x) = (l.set i x).map f ++ t := by
 rw [List.set_append_left _ _ (by simpa using h), List.map_set]
def MemP.right (M : MemP) (a r : Int) : Bool := decide (a < (M.data.length : Int)) && (((M.rights[(a / 256).toNat]?).getD 0) / r % 2 == 1)
set_option maxRecDepth 100000 in
theorem mem_right (M : MemP) (n p : Nat) (a r : Int) (w : World) (g : Nat) (gs : List Nat) (hU : ObjsAt w (g :: gs) (memS 0 n p M)) (hM : M.ok n p) (ha : word a) (hr : r = 1 ∨ r = 2 ∨ r = 4) :
  Calls Tryz.prog 109 #[.pointer (some ⟨g, 0, none⟩), .int .u32 a, .int .i64 r] w fun e w' => e = .returned (.bool (M.right a r)) ∧ ObjsAt w' (g :: gs) (memS 0 n p M) ∧ GrownBys w w' (g :: gs) := by
 obtain ⟨g0, g1, g2, g3, g4, g5, hg⟩ := six_blocks hU
 injection hg with hg0 hgs
 subst hgs; subst hg0
 refine calls_objs [.p (.c (.ref 0 0)), one (.int .u32 a), one (.int .i64 r)] [.pointer (some ⟨g, 0, none⟩), .int .u32 a, .int .i64 r] Tryz.func109 Tryz.ntmps109 rfl (by simp) hU ⟨_, _, rfl, den_mk_ref rfl, avdenL_of [.int .u32 a, .int .i64 r]⟩ ?_
 conv => whnf
 refine call_memR (pre := []) (suf := [one (.int .u32 a)]) 0 n p M (.bool (decide (a < (n : Int)))) (fun i hi => by rw [Nat.zero_add]) rfl rfl (by kernel_rfl) (fun w' g gs hk hU => mem_in M n p a w' g gs hU hM ha) ?_
 conv => whnf
 have hw : 0 ≤ a ∧ a < 4294967296 := ha
 refine ⟨((M.rights[(a / 256).toNat]?).getD 0) / r % 2 == 1, fun hin => ?_, ?_⟩
 ·have hlt : a < (n : Int) := by simpa using hin
  have hnp := hM.np
  have hq : (a / 256).toNat < p := by omega
  obtain ⟨x, hx⟩ : ∃ x, M.rights[(a / 256).toNat]? = some x := ⟨_, List.getElem?_eq_getElem (by rw [hM.lr]; exact hq)⟩
  have hxb := hM.rb x (List.mem_of_getElem? hx)
  have hget : (M.rV.map CV.v)[(a / 256).toNat]? = some (.v (intV x)) := by exact tail_at hx
  rw [hx]
  conv => whnf
  refine ⟨by decide, a / 256, by rw [Int.tdiv_eq_ediv_of_nonneg hw.1, wr32]; omega, ?_⟩
  conv => whnf
  refine ⟨⟨by omega, by omega⟩, ?_⟩
  conv => whnf
  rw [show (List.map CV.v M.rV)[0 + (a / 256).toNat * tsz Tryz.prog 3]? = some (.v (intV x)) by show (List.map CV.v M.rV)[0 + (a / 256).toNat * 1]? = _; rw [Nat.zero_add, Nat.mul_one]; exact hget]
  conv => whnf
  have hr0 : 0 < r := by omega
  have hd0 : 0 ≤ x / r := Int.ediv_nonneg hxb.1 (by omega)
  have hd1 : x / r ≤ x := Int.ediv_le_self _ hxb.1
  refine ⟨by omega, x / r, by rw [Int.tdiv_eq_ediv_of_nonneg hxb.1]; exact wr64 (by omega), ?_⟩
  conv => whnf
  refine ⟨by decide, x / r % 2, Int.tmod_eq_emod_of_nonneg hd0, ?_⟩
  conv => whnf
  exact ⟨rfl, rfl, rfl, rfl, grp_mem _ _ _ _ _ _ _ _ _⟩
 conv => whnf
 refine fin_objs rfl rfl (fun i o h => h) (memS_ob n p M) fun w' h1 h2 => ⟨?_, h1, h2⟩
 unfold MemP.right
 rw [hM.ld]; rfl
end Go.Proofs.YtnhdcclpjildjaaGreat
namespace Go.Proofs.YtnhdcclpjildjaaGreat
open Go.RowKit

theorem CV.den_det {r : Env} {n : Nat} : ∀ {c : CV} {u z : Value}, c.ob n = true → c.den r u → c.den r z → u = z
 | .v x, u, z, _, h1, h2 => by simp only [CV.den] at h1 h2; rw [h1, h2]
 | .ref i off, u, z, _, h1, h2 => by
  simp only [CV.den] at h1 h2
  obtain ⟨b, e1, rfl⟩ := h1
  obtain ⟨b', e2, rfl⟩ := h2
  rw [e1] at e2; injection e2 with e2; rw [e2]
 | .sl i off m c, u, z, _, h1, h2 => by
  simp only [CV.den] at h1 h2
  obtain ⟨b, e1, rfl⟩ := h1
  obtain ⟨b', e2, rfl⟩ := h2
  rw [e1] at e2; injection e2 with e2; rw [e2]
 | .any, _, _, hb, _, _ => by cases hb
 | .vref .., _, _, hb, _, _ => by cases hb
 | .row .., _, _, hb, _, _ => by cases hb
 | .mp .., _, _, hb, _, _ => by cases hb
 | .clo .., _, _, hb, _, _ => by cases hb
theorem denL_det {r : Env} {n : Nat} : ∀ {l : List CV} {us vs : List Value}, (∀ c ∈ l, c.ob n = true) → denL r l us → denL r l vs → us = vs
 | [], us, vs, _, h1, h2 => by simp only [denL] at h1 h2; rw [h1, h2]
 | c :: l, us, vs, hb, h1, h2 => by
  simp only [denL] at h1 h2
  obtain ⟨u, us', rfl, d1, d2⟩ := h1
  obtain ⟨v, vs', rfl, k1, k2⟩ := h2
  rw [CV.den_det (hb c (by simp)) d1 k1, denL_det (fun x hx => hb x (by simp [hx])) d2 k2]
theorem objs_same {w w' : World} {gs : List Nat} {U : List Ow} {n : Nat} (hob : ObAll n U) (h : ObjsAt w gs U) (h' : ObjsAt w' gs U) : ∀ g ∈ gs, w'.heap[g]? = w.heap[g]? := by
 intro g hg
 obtain ⟨i, hi⟩ := List.getElem?_of_mem hg
 have hlt : i < U.length := by
  rw [h.len]
  rcases Nat.lt_or_ge i gs.length with h1 | h1
  ·exact h1
  ·rw [List.getElem?_eq_none h1] at hi; cases hi
 have ho := List.getElem?_eq_getElem hlt
 have k1 := h.own i _ ho
 have k2 := h'.own i _ ho
 have hb := hob _ (List.getElem_mem hlt)
 cases hu : U[i] with
 | cells t l =>
  rw [hu] at k1 k2 hb
  obtain ⟨b, us, e1, e2, e3⟩ := k1
  obtain ⟨b', us', e4, e5, e6⟩ := k2
  have e1 : gs[i]? = some b := e1
  have e4 : gs[i]? = some b' := e4
  rw [hi] at e1 e4
  injection e1 with e1; injection e4 with e4
  subst e1; subst e4
  rw [e2, e5, denL_det hb e3 e6]
 | row => rw [hu] at hb; exact hb.elim
 | ext => rw [hu] at hb; exact hb.elim
 | view => rw [hu] at hb; exact hb.elim
 | gone => rw [hu] at hb; exact hb.elim
theorem objs_below {w w' : World} {gs : List Nat} {U : List Ow} {n : Nat} (hob : ObAll n U) (h : ObjsAt w gs U) (h' : ObjsAt w' gs U) (hg : GrownBys w w' gs) : Below w.heap.size w w' :=
 ⟨hg.os, hg.tape, hg.output, hg.size, fun k hk => by
  by_cases hm : k ∈ gs
  ·exact objs_same hob h h' k hm
  ·exact hg.block k hk hm⟩
end Go.Proofs.YtnhdcclpjildjaaGreat
namespace Go.Proofs.YtnhdcclpjildjaaGreat
open Go.RowKit

theorem QRun.useD {P : Program} {w0 : World} {G : Gs} {S : List Ow} {f : Fr} {o : Oper} {K : AV → Prop} (h : QRun P w0 G S f o K) {r : Env} {D : World → Prop} (hD : ∀ w, D w → Rel w0 G S r w) {w1 : World} (_ : D w1) {a : Act} (hf : FDen r f a) :
  ∃ v u, K v ∧ v.den r u ∧ ∀ w : World, D w → (execOp a.eval o).run P w = .ok (.value u) w := by
 obtain ⟨v, hK, hr⟩ := h.out
 obtain ⟨u, hd, hrun⟩ := hr r a hf
 exact ⟨v, u, hK, hd, fun w hw => hrun w (hD w hw)⟩
set_option maxHeartbeats 1000000 in
theorem qop_held {P : Program} {w0 : World} {G : Gs} {S : List Ow} {f : Fr} {o : Oper} {K : AV → Prop} (h : qop P w0 G S f o K) (hty : opTy P o.op = true) (hS0 : S = []) {r : Env} {D : World → Prop} (hD : ∀ w, D w → Rel w0 G S r w) {w1 : World} (hw1 : D w1) {a : Act} (hf : FDen r f a) :
  ∃ v u, K v ∧ v.den r u ∧ ∀ w : World, D w → (execOp a.eval o).run P w = .ok (.value u) w := by
 have hR := hD w1 hw1
 unfold qop at h
 split at h
 ·
  rename_i x hop
  have hx := hf.ev x
  refine ⟨f.ev x, a.eval x, ?_, hx, fun w _ => by simp [execOp, hop]⟩
  split at h <;> (rename_i he; rw [he]; exact h)
 ·rename_i x hop
  have hx := hf.ev x
  refine ⟨f.ev x, a.eval x, ?_, hx, fun w _ => by simp [execOp, hop]⟩
  split at h <;> (rename_i he; rw [he]; exact h)
 ·
  rename_i c x y hop
  have hc := hf.ev c
  have hx := hf.ev x
  have hy := hf.ev y
  split at h
  ·rename_i b eb
   rw [eb] at hc
   have e1 := den_v hc
   have hrun : ∀ w : World, (execOp a.eval o).run P w = .ok (.value (if b then a.eval x else a.eval y)) w := fun w => by simp [execOp, hop, e1, asBool]
   split at h
   ·rename_i p ep
    rw [ep] at hx
    have e2 := den_v hx
    split at h
    ·rename_i q eq
     rw [eq] at hy
     have e3 := den_v hy
     refine ⟨_, _, h, den_one r _, fun w _ => ?_⟩
     rw [hrun w, e2, e3]
     cases b <;> rfl
    ·cases b with
     | true => exact ⟨_, _, h, den_one r _, fun w _ => by rw [hrun w, e2]; rfl⟩
     | false => exact ⟨_, _, h, hy, fun w _ => by rw [hrun w]; rfl⟩
   ·cases b with
    | true => exact ⟨_, _, h, hx, fun w _ => by rw [hrun w]; rfl⟩
    | false => exact ⟨_, _, h, hy, fun w _ => by rw [hrun w]; rfl⟩
  ·exact h.elim
 ·
  rename_i t x hop
  have hx := hf.ev x
  subst hS0
  unfold loadK at h
  split at h
  ·simp at h
  ·simp at h
  ·rename_i b off he
   rw [he] at hx
   have hu := den_v hx
   obtain ⟨v, u, hK, hd, hrun⟩ := oldK_sound h r
   exact ⟨v, u, hK, hd, fun w hw => by simp [execOp, hop, hu, hrun [] r w (hD w hw)]⟩
  ·exact h.elim
 ·
  rename_i x hop
  have hx := hf.ev x
  split at h
  ·rename_i i off he
   rw [he] at hx
   refine ⟨_, _, h, hx, fun w _ => ?_⟩
   obtain ⟨b, hb, hu⟩ := den_ref hx
   simp [execOp, hop, hu]
  ·rename_i fn cap he
   rw [he] at hx
   refine ⟨_, _, h, hx, fun w _ => ?_⟩
   obtain ⟨us, hu, _⟩ := den_clo hx
   simp [execOp, hop, hu]
  ·rename_i p he
   rw [he] at hx
   refine ⟨_, _, h, hx, fun w _ => ?_⟩
   have hu := den_v hx
   simp [execOp, hop, hu]
  ·exact QRun.useD h hD hw1 hf
 ·
  rename_i op t x y t' hop
  have hx := hf.ev x
  have hy := hf.ev y
  split at h
  ·rename_i k p ep
   rw [ep] at hx
   have e1 := den_v hx
   split at h
   ·rename_i k' q eq
    rw [eq] at hy
    have e2 := den_v hy
    have hg : ∀ w : World, (eqGuard op t x y (.int k p) (.int k' q)).run P w = .ok () w := fun w => by
     unfold eqGuard; cases op <;> simp
    split at h
    ·obtain ⟨u, hK, hrun⟩ := shiftK_sound (P := P) (t := t) (k' := k') h
     exact ⟨_, u, hK, den_one r u, fun w _ => by simp [execOp, hop, e1, e2, hg w, hrun w]⟩
    ·obtain ⟨u, hK, hrun⟩ := shiftK_sound (P := P) (t := t) (k' := k') h
     exact ⟨_, u, hK, den_one r u, fun w _ => by simp [execOp, hop, e1, e2, hg w, hrun w]⟩
    ·split at h
     ·rename_i hk
      have hk := of_decide_eq_true hk
      subst hk
      obtain ⟨u, hK, hrun⟩ := binK_sound (P := P) (t := t) h
      exact ⟨_, u, hK, den_one r u, fun w _ => by simp [execOp, hop, e1, e2, hg w, hrun w]⟩
     ·exact h.elim
   ·exact QRun.useD h hD hw1 hf
  ·exact QRun.useD h hD hw1 hf
 ·
  rename_i op t x hop
  have hx := hf.ev x
  split at h
  ·rename_i p ep
   rw [ep] at hx
   have e1 := den_v hx
   exact ⟨_, _, h, den_one r _, fun w _ => by simp [execOp, hop, e1, Op.unary]⟩
  ·exact QRun.useD h hD hw1 hf
 ·
  rename_i src dst x hop
  have hx := hf.ev x
  split at h
  ·rename_i k n ep
   rw [ep] at hx
   have e1 := den_v hx
   split at h
   ·rename_i q0 hq0
    split at h
    ·rename_i q hq
     obtain ⟨m, hm, hK⟩ := h
     exact ⟨_, _, hK, den_one r _, fun w _ => by simp [execOp, hop, e1, convert, underlying, hq0, hq, Conv.intToInt, hm]⟩
    ·exact QRun.useD h hD hw1 hf
   ·exact QRun.useD h hD hw1 hf
  ·exact QRun.useD h hD hw1 hf
 ·
  rename_i s x k hop
  have hx := hf.ev x
  split at h
  ·rename_i i off he
   rw [he] at hx
   obtain ⟨b, hb, hu⟩ := den_ref hx
   split at h
   ·rename_i n hn
    exact ⟨_, _, h, den_mk_ref hb, fun w _ => by simp [execOp, hop, hu, run_fieldAt hn]⟩
   ·exact h.elim
  ·rename_i b off he
   rw [he] at hx
   have hu := den_v hx
   split at h
   ·rename_i n hn
    exact ⟨_, _, h, den_one r _, fun w _ => by simp [execOp, hop, hu, run_fieldAt hn]⟩
   ·exact h.elim
  ·exact h.elim
 ·
  rename_i t x k hop
  have hx := hf.ev x
  split at h
  ·rename_i l he
   rw [he] at hx
   obtain ⟨us, hu, hl⟩ := den_agg hx
   unfold fldK at h
   split at h
   ·rename_i fs hs
    split at h
    ·rename_i fl hfl
     obtain ⟨v, u, hK, hd, hrun⟩ := run_part h hl
     exact ⟨v, u, hK, hd, fun w _ => by simp [execOp, hop, hu, Instr.field, underlying, hs, hfl, asAgg, hrun w]⟩
    ·exact h.elim
   ·exact h.elim
  ·exact h.elim
 ·
  rename_i x k hop
  have hx := hf.ev x
  split at h
  ·rename_i l he
   rw [he] at hx
   obtain ⟨us, hu, hl⟩ := hx
   split at h
   ·rename_i p hp
    obtain ⟨u, h1, h2⟩ := pdenL_at hl hp
    exact ⟨_, u, h, h2, fun w _ => by simp [execOp, hop, hu, Instr.extract, h1]⟩
   ·exact h.elim
  ·exact h.elim
 ·
  rename_i t parts hop
  obtain ⟨v, u, hK, hd, hrun⟩ := buildK_sound hR hf h
  exact ⟨v, u, hK, hd, fun w _ => by simp only [execOp, hop, Sem.run_bind, hrun w, Result.andThen_ok, Sem.run_pure]⟩
 ·
  rename_i fn first cap hop
  split at h
  ·rename_i hfirst
   have ef : first = #[] := Array.ext' hfirst
   split at h
   ·rename_i hcap
    have ec : cap = #[] := Array.ext' hcap
    exact ⟨_, .func (.func fn) #[] #[], h, by simp [AV.den, Pc.den, CV.den, denL], fun w _ => by simp [execOp, hop, Instr.makeFunc, ef, ec]⟩
   ·rename_i x hcap
    have ec : cap = #[x] := Array.ext' hcap
    have hx := hf.ev x
    split at h
    ·rename_i c he
     rw [he] at hx
     refine ⟨_, .func (.func fn) #[] #[a.eval x], h, ?_, fun w _ => by simp [execOp, hop, Instr.makeFunc, ef, ec]⟩
     simp only [AV.den, Pc.den, CV.den, denL]
     exact ⟨[a.eval x], rfl, _, _, rfl, hx, rfl⟩
    ·exact h.elim
   ·exact QRun.useD h hD hw1 hf
  ·exact QRun.useD h hD hw1 hf
 ·
  rename_i t x ix hop
  rw [hop] at hty
  have hx := hf.ev x
  have hi := hf.ev ix
  split at h
  ·rename_i b off n c he
   rw [he] at hx
   have hu := den_v hx
   split at h
   ·rename_i q k hk
    rw [hk] at hi
    have hu2 := den_v hi
    split at h
    ·rename_i e ht
     simp only [opTy, ht] at hty
     obtain ⟨i, hie⟩ := Option.isSome_iff_exists.1 hty
     obtain ⟨⟨h0, h1⟩, hK⟩ := h
     refine ⟨_, _, hK, den_one r _, fun w _ => ?_⟩
     simp only [execOp, hop, hu, hu2, Sem.run_bind, run_indexAt_slice ht hie h0 h1, Result.andThen_ok, Sem.run_pure, tsz_sizeOf hie]
    ·exact h.elim
   ·exact h.elim
  ·rename_i i he
   rw [he] at hx
   split at h
   ·rename_i q k hk
    rw [hk] at hi
    have hu2 := den_v hi
    split at h
    ·rename_i e ht
     simp only [opTy, ht] at hty
     obtain ⟨i', hie⟩ := Option.isSome_iff_exists.1 hty
     split at h
     ·rename_i e' size n xs hS
      obtain ⟨⟨h0, h1⟩, hK⟩ := h
      obtain ⟨v, hv1, hv2, hv3⟩ := hR.own i _ hS
      have hux : r.val i = some (a.eval x) := by simpa only [AV.den, Pc.den, CV.den] using hx
      rw [hux] at hv1; injection hv1 with hv1
      rcases hv3.2 with ⟨hn, hz⟩ | ⟨g, cap, cur, hv, _⟩
      ·omega
      ·rw [← hv1] at hv hv2
       have hb : r.blk i = some g := by rw [← hv2, hv]; rfl
       refine ⟨_, _, hK, den_mk_ref hb, fun w _ => ?_⟩
       simp only [execOp, hop, hv, hu2, Sem.run_bind, run_indexAt_slice ht hie h0 h1, Result.andThen_ok, Sem.run_pure, tsz_sizeOf hie, Nat.zero_add]
     ·rename_i n xs hS
      obtain ⟨⟨h0, h1, hpos⟩, hK⟩ := h
      obtain ⟨A, c, hv1, hv2, hv3, hv4, hv5⟩ := hR.own i _ hS
      have hux : r.val i = some (a.eval x) := by simpa only [AV.den, Pc.den, CV.den] using hx
      obtain ⟨b, off, hA, _⟩ := hv5 0 xs[0] (by simp [hpos])
      subst hA
      rw [hux] at hv1; injection hv1 with hv1
      refine ⟨_, .pointer (some ⟨b, off + k.toNat * i'.size, none⟩), hK, ?_, fun w _ => ?_⟩
      ·simp only [AV.den, Pc.den, CV.den]
       exact ⟨b, off, n, c, by rw [hux, hv1], by rw [tsz_sizeOf hie]⟩
      ·simp only [execOp, hop, hv1, hu2, Sem.run_bind, run_indexAt_slice ht hie h0 h1, Result.andThen_ok, Sem.run_pure]
     ·exact h.elim
    ·exact h.elim
   ·exact h.elim
  ·rename_i i off n c he
   rw [he] at hx
   have hux : ∃ b, r.blk i = some b ∧ a.eval x = .slice (some ⟨b, off, none⟩) n c := by simpa only [AV.den, Pc.den, CV.den] using hx
   obtain ⟨b, hb, hu⟩ := hux
   split at h
   ·rename_i q k hk
    rw [hk] at hi
    have hu2 := den_v hi
    split at h
    ·rename_i e ht
     simp only [opTy, ht] at hty
     obtain ⟨i', hie⟩ := Option.isSome_iff_exists.1 hty
     obtain ⟨⟨h0, h1⟩, hK⟩ := h
     refine ⟨_, _, hK, den_mk_ref hb, fun w _ => ?_⟩
     simp only [execOp, hop, hu, hu2, Sem.run_bind, run_indexAt_slice ht hie h0 h1, Result.andThen_ok, Sem.run_pure, tsz_sizeOf hie]
    ·exact h.elim
   ·exact h.elim
  ·rename_i i off he
   rw [he] at hx
   obtain ⟨b, hb, hu⟩ := den_ref hx
   split at h
   ·rename_i q k hk
    rw [hk] at hi
    have hu2 := den_v hi
    split at h
    ·rename_i n e ht
     simp only [opTy, ht] at hty
     obtain ⟨i', hie⟩ := Option.isSome_iff_exists.1 hty
     obtain ⟨⟨h0, h1⟩, hK⟩ := h
     refine ⟨_, _, hK, den_mk_ref hb, fun w _ => ?_⟩
     simp only [execOp, hop, hu, hu2, Sem.run_bind, run_indexAt_array ht hie h0 h1, Result.andThen_ok, Sem.run_pure, tsz_sizeOf hie]
    ·exact h.elim
   ·exact h.elim
  ·exact QRun.useD h hD hw1 hf
 ·
  rename_i t x ix hop
  rw [hop] at hty
  have hx := hf.ev x
  have hi := hf.ev ix
  split at h
  ·rename_i l he
   rw [he] at hx
   obtain ⟨us, hu, hl⟩ := den_agg hx
   split at h
   ·rename_i q k hk
    rw [hk] at hi
    have hu2 := den_v hi
    split at h
    ·rename_i n e ht
     simp only [opTy, ht] at hty
     obtain ⟨i', hie⟩ := Option.isSome_iff_exists.1 hty
     obtain ⟨⟨h0, h1⟩, hK⟩ := h
     obtain ⟨v, u, hK', hd, hrun⟩ := run_part hK hl
     refine ⟨v, u, hK', hd, fun w _ => ?_⟩
     have e3 := hrun w
     rw [tsz_sizeOf hie] at e3
     simp [execOp, hop, hu, hu2, Instr.index, asIntOf, underlying, ht, h0, h1, run_sizeOf P e w hie, e3]
    ·exact h.elim
   ·exact h.elim
  ·exact QRun.useD h hD hw1 hf
 ·
  rename_i args tys hop
  split at h
  ·rename_i x hargs
   have ea : args = #[x] := Array.ext' hargs
   split at h
   ·rename_i t htys
    have et : tys = #[t] := Array.ext' htys
    split at h
    ·rename_i e ht
     have hx := hf.ev x
     split at h
     ·rename_i A n c he
      rw [he] at hx
      have hu := den_v hx
      exact ⟨_, _, h, den_one r _, fun w _ => by simp [execOp, hop, ea, et, resolve, invoke, builtin, Builtin.len_, underlying, ht, hu, goInt]⟩
     ·rename_i i off n c he
      rw [he] at hx
      have hux : ∃ b, r.blk i = some b ∧ a.eval x = .slice (some ⟨b, off, none⟩) n c := by simpa only [AV.den, Pc.den, CV.den] using hx
      obtain ⟨b, hb, hu⟩ := hux
      exact ⟨_, _, h, den_one r _, fun w _ => by simp [execOp, hop, ea, et, resolve, invoke, builtin, Builtin.len_, underlying, ht, hu, goInt]⟩
     ·rename_i i he
      rw [he] at hx
      split at h
      ·rename_i e' size n xs hS
       obtain ⟨v, hv1, hv2, hv3⟩ := hR.own i _ hS
       have hux : r.val i = some (a.eval x) := by simpa only [AV.den, Pc.den, CV.den] using hx
       rw [hux] at hv1; injection hv1 with hv1
       obtain ⟨A, c, hv⟩ := row_slice hv3
       rw [← hv1] at hv
       exact ⟨_, _, h, den_one r _, fun w _ => by simp [execOp, hop, ea, et, resolve, invoke, builtin, Builtin.len_, underlying, ht, hv, goInt]⟩
      ·rename_i n xs hS
       obtain ⟨A, c, hv1, _⟩ := hR.own i _ hS
       have hux : r.val i = some (a.eval x) := by simpa only [AV.den, Pc.den, CV.den] using hx
       rw [hux] at hv1; injection hv1 with hv1
       exact ⟨_, _, h, den_one r _, fun w _ => by simp [execOp, hop, ea, et, resolve, invoke, builtin, Builtin.len_, underlying, ht, hv1, goInt]⟩
      ·exact h.elim
     ·exact h.elim
    ·exact QRun.useD h hD hw1 hf
   ·exact h.elim
  ·exact h.elim
 ·exact QRun.useD h hD hw1 hf
end Go.Proofs.YtnhdcclpjildjaaGreat
namespace Go.Proofs.YtnhdcclpjildjaaGreat
open Go.RowKit

theorem renL_vals (σ : Nat → Nat) : ∀ us : List Value, renL σ (us.map CV.v) = us.map CV.v
 | [] => rfl
 | u :: us => by simp only [List.map_cons, renL, CV.ren, renL_vals σ us]
structure NewObjs (w w' : World) (gs : List Nat) (U : List Ow) : Prop where
 at_ : ObjsAt w' gs U
 fresh : ∀ g ∈ gs, w.heap.size ≤ g
 below : Below w.heap.size w w'
def envNew (r : Env) (n : Nat) (gs : List Nat) : Env := ⟨fun i => if i < n then r.blk i else gs[i - n]?, r.val⟩
theorem Rel.newObjs {w0 : World} {G : Gs} {S U V : List Ow} {r : Env} {w w' : World} {gs : List Nat} (hR : Rel w0 G S r w) (h : NewObjs w w' gs U) (hsh : ShAll S.length U V) (hob : ObAll U.length U) : Rel w0 G (S ++ V) (envNew r S.length gs) w' ∧ r.le (envNew r S.length gs) := by
 have hVl := hsh.length
 have hUl := h.at_.len
 have hfrom : ∀ i b, i < U.length → (envOf gs).blk i = some b → (envNew r S.length gs).blk (S.length + i) = some b := fun i b _ hb => by
  show (if S.length + i < S.length then _ else gs[S.length + i - S.length]?) = some b
  rw [if_neg (by omega), show S.length + i - S.length = i by omega]; exact hb
 refine hR.snocs h.below V (envNew r S.length gs) (fun i hi => ⟨if_pos hi, rfl⟩) (fun i x hi hx => ?_) (fun i j x hi hj hx hy => ?_) (fun i hi => ?_) (fun j o hj => ?_)
 ·have hx : (if i < S.length then r.blk i else gs[i - S.length]?) = some x := hx
  rw [if_neg (by omega)] at hx
  have hm := List.mem_of_getElem? hx
  exact ⟨h.fresh x hm, h.at_.lt x hm⟩
 ·have hx : (if i < S.length then r.blk i else gs[i - S.length]?) = some x := hx
  have hy : (if j < S.length then r.blk j else gs[j - S.length]?) = some x := hy
  rw [if_neg (by omega)] at hx hy
  have := h.at_.nodup _ _ x hx hy
  omega
 ·have hlt : ¬ i < S.length := by omega
  refine ⟨?_, hR.outV i (by omega)⟩
  show (if i < S.length then r.blk i else gs[i - S.length]?) = none
  rw [if_neg hlt, List.getElem?_eq_none (by omega)]
 ·obtain ⟨o', h1, h2⟩ := hsh.get' j hj
  have h3 := h.at_.own j o' h1
  have h4 := hob o' (List.mem_of_getElem? h1)
  have hjl : j < U.length := by
   rcases Nat.lt_or_ge j U.length with h5 | h5
   ·exact h5
   ·rw [List.getElem?_eq_none h5] at h1; cases h1
  cases o' with
  | cells t l =>
   cases o with
   | cells t' l' =>
    obtain ⟨rfl, rfl⟩ := h2
    obtain ⟨b, us, e1, e2, e3⟩ := h3
    exact ⟨b, us, hfrom j b hjl e1, e2, sh_denL (n := U.length) hfrom h4 e3⟩
   | row => exact h2.elim
   | ext => exact h2.elim
   | view => exact h2.elim
   | gone => exact h2.elim
  | row => exact h4.elim
  | ext => exact h4.elim
  | view => exact h4.elim
  | gone => exact h4.elim
theorem Rel.objsAt {w0 : World} {G : Gs} {S : List Ow} {r : Env} {w : World} (hR : Rel w0 G S r w) (k : Nat) (U V : List Ow) (hpos : 0 < U.length) (hS : ∀ i, i < U.length → S[k + i]? = V[i]?) (hsh : ShAll k U V) (hob : ObAll U.length U) : ∃ g gs, r.blk k = some g ∧ ObjsAt w (g :: gs) U := by
 have hown : ∀ i, i < U.length → ∃ b t l, U[i]? = some (.cells t l) ∧ r.blk (k + i) = some b ∧ ∃ us : List Value, w.heap[b]? = some (.cells us.toArray t (0, 0)) ∧ denL r (l.map (CV.sh k)) us := fun i hi => by
  have hu := List.getElem?_eq_getElem hi
  obtain ⟨o', h1, h2⟩ := hsh.get i hu
  have h3 := hR.own (k + i) o' (by rw [hS i hi, h1])
  have h4 := hob _ (List.getElem_mem hi)
  cases ho : U[i] with
  | cells t l =>
   rw [ho] at h2 hu
   cases o' with
   | cells t' l' =>
    obtain ⟨rfl, rfl⟩ := h2
    obtain ⟨b, us, e1, e2, e3⟩ := h3
    exact ⟨b, t, l, hu, e1, us, e2, e3⟩
   | row => exact h2.elim
   | ext => exact h2.elim
   | view => exact h2.elim
   | gone => exact h2.elim
  | row => rw [ho] at h4; exact h4.elim
  | ext => rw [ho] at h4; exact h4.elim
  | view => rw [ho] at h4; exact h4.elim
  | gone => rw [ho] at h4; exact h4.elim
 obtain ⟨gs, hgl, hgs⟩ : ∃ gs : List Nat, gs.length = U.length ∧ ∀ i, i < U.length → gs[i]? = r.blk (k + i) := by
  refine ⟨(List.range U.length).map fun i => (r.blk (k + i)).getD 0, by simp, fun i hi => ?_⟩
  obtain ⟨b, _, _, _, hb, _⟩ := hown i hi
  rw [List.getElem?_map, List.getElem?_range hi, hb]
  simp [hb]
 have hto : ∀ i b, i < U.length → r.blk (k + i) = some b → (envOf gs).blk i = some b := fun i b hi hb => by
  show gs[i]? = some b
  rw [hgs i hi]; exact hb
 have hin : ∀ (i b : Nat), gs[i]? = some b → i < U.length ∧ r.blk (k + i) = some b := fun i b hb => by
  have hi : i < U.length := by
   rcases Nat.lt_or_ge i U.length with h1 | h1
   ·exact h1
   ·rw [List.getElem?_eq_none (by omega)] at hb; cases hb
  exact ⟨hi, by rw [← hgs i hi]; exact hb⟩
 have hU : ObjsAt w gs U := by
  refine ⟨hgl.symm, fun i j b hi hj => ?_, fun b hb => ?_, fun i o ho => ?_⟩
  ·have := hR.inj _ _ b (hin i b hi).2 (hin j b hj).2
   omega
  ·obtain ⟨i, hi⟩ := List.getElem?_of_mem hb
   exact (hR.new _ b (hin i b hi).2).1
  ·have hi : i < U.length := by
    rcases Nat.lt_or_ge i U.length with h1 | h1
    ·exact h1
    ·rw [List.getElem?_eq_none h1] at ho; cases ho
   obtain ⟨b, t, l, e1, e2, us, e3, e4⟩ := hown i hi
   rw [ho] at e1; injection e1 with e1; subst e1
   exact ⟨b, us, hto i b hi e2, e3, denL_sh (n := U.length) hto (hob _ (List.mem_of_getElem? ho)) e4⟩
 cases gs with
 | nil => simp at hgl; omega
 | cons g gs =>
  refine ⟨g, gs, ?_, hU⟩
  have := hgs 0 hpos
  rw [Nat.add_zero] at this
  rw [← this]; rfl
theorem ObjsAt.later {w w' : World} {gs : List Nat} {U : List Ow} (hob : ObAll U.length U) (h : ObjsAt w gs U) (hs : w.heap.size ≤ w'.heap.size) (hk : ∀ g ∈ gs, w'.heap[g]? = w.heap[g]?) : ObjsAt w' gs U :=
 ⟨h.len, h.nodup, fun g hg => Nat.lt_of_lt_of_le (h.lt g hg) hs, fun i o ho => by
  have h1 := h.own i o ho
  have h2 := hob o (List.mem_of_getElem? ho)
  cases o with
  | cells t l =>
   obtain ⟨b, us, e1, e2, e3⟩ := h1
   exact ⟨b, us, e1, by rw [hk b (List.mem_of_getElem? (show gs[i]? = some b from e1))]; exact e2, e3⟩
  | row => exact h2.elim
  | ext => exact h2.elim
  | view => exact h2.elim
  | gone => exact h2.elim⟩
theorem ObjsAt.below {w w' : World} {gs : List Nat} {U : List Ow} (hob : ObAll U.length U) (h : ObjsAt w gs U) (hB : Below w.heap.size w w') : ObjsAt w' gs U :=
 h.later hob hB.size fun g hg => hB.block g (h.lt g hg)
end Go.Proofs.YtnhdcclpjildjaaGreat
