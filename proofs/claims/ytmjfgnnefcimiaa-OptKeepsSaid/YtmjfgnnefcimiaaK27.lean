/- Walks piece by piece: loops, conditions, regions whose guards are known; nil cells as rows; three rows handed back. Slices of slices, over states that are known part by part. Walks: the passes until nothing changes. Walks: Live. -/
import Derived.Test.YtmjfgnnefcimiaaK1
import Derived.Test.YtmjfgnnefcimiaaK12
import Derived.Test.YtmjfgnnefcimiaaK13
import Derived.Test.YtmjfgnnefcimiaaK14
import Derived.Test.YtmjfgnnefcimiaaK15
import Derived.Test.YtmjfgnnefcimiaaK16
import Derived.Test.YtmjfgnnefcimiaaK17
import Derived.Test.YtmjfgnnefcimiaaK19
import Derived.Test.YtmjfgnnefcimiaaK20
import Derived.Test.YtmjfgnnefcimiaaK21
import Derived.Test.YtmjfgnnefcimiaaK22
import Derived.Test.YtmjfgnnefcimiaaK23
import Derived.Test.YtmjfgnnefcimiaaK24
import Derived.Test.YtmjfgnnefcimiaaK25
import Derived.Test.YtmjfgnnefcimiaaK26
import Derived.Test.YtmjfgnnefcimiaaK3
import Derived.Test.YtmjfgnnefcimiaaK5
import Derived.Test.YtmjfgnnefcimiaaK6
namespace Go.Proofs.Ytmjfgnnefcimiaa
open Go.RowKit
/-- A list of operations whose guards are known. -/
def guardedK (P : Program) (W : World) (G : Gs) (N : Nd) (ops : Array Oper) : List Oper → Fr → List Ow → (Fr → List Ow → Prop) → Prop
  | [], f, S, K => K f S
  | o :: l, f, S, K => (match guardOf ops f o with
    | some true => opK P W G N o f S fun f' S' => guardedK P W G N ops l f' S' K
    | some false => (match dstOk N.n o.dst with
      | true => f.putK o.dst (.p (.c .any)) fun f' => guardedK P W G N ops l f' S K
      | false => False)
    | none => False)
section
variable {P : Program} {w0 : World} {G : Gs} {N : Nd} {c d : Code} {f : Fr} {S : List Ow} {Q : Exit → Act → World → Prop}
theorem guardedK_sound {ops : Array Oper} {Q : Act → World → Prop} : ∀ (l : List Oper) (f : Fr) (S : List Ow) (K : Fr → List Ow → Prop), guardedK P w0 G N ops l f S K → (∀ f' S' a' w', K f' S' → Good w0 G N f' S' a' w' → Q a' w') →
    ∀ a w, Good w0 G N f S a w → seL P ops Q l a w
  | [], f, S, K, h, hK, a, w, hg => hK _ _ _ _ h hg
  | o :: l, f, S, K, h, hK, a, w, hg => by
    obtain ⟨r, hR, hf, hN, hd⟩ := hg
    unfold guardedK at h
    split at h
    · rename_i hgd
      have hw := guard_wanted hf hgd
      unfold seL
      rw [if_pos hw]
      exact (opK_sound h).out r a w hR hf hN hd _ (fun _ _ _ => True) fun f' S' a' w' hk hg' => guardedK_sound l f' S' K hk hK a' w' hg'
    · rename_i hgd
      have hw := guard_wanted hf hgd
      split at h
      · rename_i hdst
        have hk := putK_iff.1 h
        unfold seL
        rw [if_neg (by rw [hw]; decide)]
        exact guardedK_sound l _ S K hk hK _ w ⟨r, hR, hf.putAny _ (by rw [hN]; exact hdst), (put_size a _ _).trans hN, (put_defers a _ _).trans hd⟩
      · exact h.elim
    · exact h.elim
theorem satq_region {id : Nat} {ops : Array Oper} (h : guardedK P w0 G N ops ops.toList f S fun f' S' => AtQ w0 G N .normal f' S' Q) : SatQ P w0 G N (.region id ops false) f S Q :=
  ⟨fun a w hg => wpIn_region_list (seL_wpIn none 10 (guardedK_sound _ f S _ h (fun _f' _S' a' w' hk hg' => hk.out a' w' hg') a w hg))⟩
theorem satq_cond {x : Operand} {t : Bool} (ht : f.ev x = one (.bool t)) (h1 : t = true → SatQ P w0 G N c f S Q) (h2 : t = false → SatQ P w0 G N d f S Q) : SatQ P w0 G N (.cond x c d) f S Q := by
  refine ⟨fun a w hg => ?_⟩
  obtain ⟨r, hR, hf, hN, hd⟩ := hg
  have hc := hf.ev x
  rw [ht] at hc
  have hc := den_v hc
  exact wpIn_cond_split hc (fun e => (h1 e).out a w ⟨r, hR, hf, hN, hd⟩) (fun e => (h2 e).out a w ⟨r, hR, hf, hN, hd⟩)
theorem satq_skip (h : AtQ w0 G N .normal f S Q) : SatQ P w0 G N .skip f S Q := ⟨fun a w hg => wpIn_skip (h.out a w hg)⟩
/-- Ahead of what follows. -/
theorem atq_on {d : Code} (h : SatQ P w0 G N d f S Q) : AtQ w0 G N .normal f S (Exit.then (d.wpIn Fence.wide 10 P Q) Q) := ⟨fun a w hg => h.out a w hg⟩
theorem atq_exit {id : Nat} (h : AtQ w0 G N .normal f S Q) : AtQ w0 G N (.exit id) f S (Exit.inBlock id Q) := ⟨fun a w hg => by
  show (if id = id then Q .normal a w else _)
  rw [if_pos rfl]; exact h.out a w hg⟩
theorem atq_block {id : Nat} (h : AtQ w0 G N .normal f S Q) : AtQ w0 G N .normal f S (Exit.inBlock id Q) := ⟨fun a w hg => h.out a w hg⟩
/-- A walk cut in two: what follows is shown once, from states of one kind. -/
def MidQ {α : Type} (w0 : World) (G : Gs) (N : Nd) (T : α → Fr) (U : α → List Ow) (Q : Exit → Act → World → Prop) : Exit → Act → World → Prop := fun e a w => match e with
  | .normal => ∃ y, Good w0 G N (T y) (U y) a w
  | e => Q e a w
theorem satq_mid {α : Type} (T : α → Fr) (U : α → List Ow) (hc : SatQ P w0 G N c f S (MidQ w0 G N T U Q)) (hd : ∀ y, SatQ P w0 G N d (T y) (U y) Q) : SatQ P w0 G N (.seq c d) f S Q :=
  satq_in ⟨fun a w hg => wpIn_mono (hc.out a w hg) fun e a' w' hq => by
    cases e with
    | normal => obtain ⟨y, hy⟩ := hq; exact (hd y).out a' w' hy
    | exit id => exact hq
    | goto l => exact hq
    | ret => exact hq
    | panic ch => exact hq
    | outgrown => exact hq⟩
theorem atq_mid {α : Type} {T : α → Fr} {U : α → List Ow} (y : α) (h : Ent w0 G N f S (T y) (U y)) : AtQ w0 G N .normal f S (MidQ w0 G N T U Q) := ⟨fun a w hg => ⟨y, h.out a w hg⟩⟩
/-- What a round of a loop comes to. -/
def RoundQ {α : Type} (w0 : World) (G : Gs) (N : Nd) (T : α → Fr) (U : α → List Ow) (m : α → Nat) (n : Nat) (Q : Exit → Act → World → Prop) : Exit → Act → World → Prop := fun e a w => match e with
  | .normal => ∃ y, Good w0 G N (T y) (U y) a w ∧ m y < n
  | e => Q e a w
theorem atq_next {α : Type} {T : α → Fr} {U : α → List Ow} {m : α → Nat} {n : Nat} (y : α) (h : Ent w0 G N f S (T y) (U y)) (hm : m y < n) : AtQ w0 G N .normal f S (RoundQ w0 G N T U m n Q) := ⟨fun a w hg => ⟨y, h.out a w hg, hm⟩⟩
theorem atq_out {α : Type} {T : α → Fr} {U : α → List Ow} {m : α → Nat} {n : Nat} {id : Nat} (h : AtQ w0 G N (.exit id) f S Q) : AtQ w0 G N (.exit id) f S (RoundQ w0 G N T U m n Q) := ⟨fun a w hg => h.out a w hg⟩
theorem satq_loop {α : Type} (T : α → Fr) (U : α → List Ow) (m : α → Nat) (x0 : α) (h0 : Ent w0 G N f S (T x0) (U x0)) (hround : ∀ x, SatQ P w0 G N c (T x) (U x) (RoundQ w0 G N T U m (m x) Q)) : SatQ P w0 G N (.loop c) f S Q := by
  refine ⟨fun a w hg => ?_⟩
  intro b k cs hro hb hr
  have key : ∀ (n : Nat) (x : α), m x = n → ∀ a w, Good w0 G N (T x) (U x) a w → ∃ e a' w', Q e a' w' ∧ ArrivesIn (Machine.fenced P Fence.wide) P (lone (b.atR a (.code c :: .inLoop c :: k)) cs w) b k cs e a' w' := by
    intro n
    induction n using Nat.strongRecOn with
    | _ n ih =>
      intro x hx a w hg
      obtain ⟨e, a', w', hq, harr⟩ := (hround x).out a w hg b (.inLoop c :: k) cs hro hb hr
      cases e with
      | normal =>
        obtain ⟨y, hgy, hlt⟩ := hq
        obtain ⟨e2, a2, w2, hq2, harr2⟩ := ih (m y) (by omega) y rfl a' w' hgy
        exact ⟨e2, a2, w2, hq2, .of_steps (StepsIn.trans harr (.one (fenced_calm hb hr rfl) stepR_inLoop)) harr2⟩
      | exit id => exact ⟨_, a', w', hq, .pass (x := .inLoop c) rfl (fun _ _ => .inl (by simp)) harr⟩
      | goto l => exact ⟨_, a', w', hq, .pass (x := .inLoop c) rfl (fun _ _ => .inl (by simp)) harr⟩
      | ret => exact ⟨_, a', w', hq, .pass (x := .inLoop c) rfl (fun _ _ => .inl (by simp)) harr⟩
      | panic ch => exact ⟨_, a', w', hq, .pass (x := .inLoop c) rfl (fun _ _ => .inl (by simp)) harr⟩
      | outgrown => exact ⟨_, a', w', hq, .pass (x := .inLoop c) rfl (fun _ _ => .inl (by simp)) harr⟩
  obtain ⟨e, a', w', hq, harr⟩ := key _ x0 rfl a w (h0.out a w hg)
  exact ⟨e, a', w', hq, .of_steps (.one (fenced_calm hb hr rfl) stepR_loop) harr⟩
/-- A cell that holds nil is a row of the call's own, of no elements. -/
theorem ent_cellrow (i j : Nat) (e : TypeId) (size : Nat) {t : TypeId} {l : List CV} {f' : Fr} (hi : S[i]? = some (.cells t l)) (hj : l[j]? = some (.v (.slice none 0 0))) (hf : FLe f f') : Ent w0 G N f S f' (S.set i (.cells t (l.set j (.row S.length))) ++ [.row e size 0 []]) := ⟨fun a w ⟨r, hR, hd, hN, hdf⟩ => by
  obtain ⟨b, us, h1, h2, h3⟩ := hR.own i _ hi
  have hle := hR.le_new none (some (.slice none 0 0))
  have hil := hR.lt_of_blk h1
  have hR2 := hR.snoc (o := .row e size 0 []) (Below.refl _ _) (b := none) (v := some (.slice none 0 0)) nofun ⟨.slice none 0 0, by simp [Env.set], by simp [Env.set, Value.ownBlock], by simp, .inl ⟨rfl, rfl⟩⟩
  refine ⟨r.set S.length none (some (.slice none 0 0)), ?_, hf.den (hd.mono hle), hN, hdf⟩
  obtain ⟨u, hu, hdu⟩ := denL_at h3 hj
  simp only [CV.den] at hdu; subst hdu
  have hus : us = us.set j (.slice none 0 0) := by
    refine List.ext_getElem? fun k => ?_
    rw [List.getElem?_set]
    split
    · rename_i hk; subst hk
      split
      · exact hu
      · rename_i hlt; rw [List.getElem?_eq_none (by omega)] at hu; cases hu
    · rfl
  have := rel_setSame hR2 (i := i) (o := .cells t (l.set j (.row S.length))) ⟨b, us, hle.blk _ _ h1, h2, by rw [hus]; exact denL_set j (denL_mono hle _ _ h3) (by simp [CV.den, Env.set])⟩
  rwa [List.set_append_left _ _ hil] at this⟩
end
/-- Several new entries at once. -/
theorem Rel.snocs {w0 : World} {G : Gs} {S : List Ow} {r : Env} {w w' : World} (h : Rel w0 G S r w) (hb : Below w.heap.size w w') (T : List Ow) (r' : Env) (hle : ∀ i, i < S.length → r'.blk i = r.blk i ∧ r'.val i = r.val i) (hnb : ∀ i x, S.length ≤ i → r'.blk i = some x → w.heap.size ≤ x ∧ x < w'.heap.size) (hinj : ∀ i j x, S.length ≤ i → S.length ≤ j → r'.blk i = some x → r'.blk j = some x → i = j)
    (hout : ∀ i, S.length + T.length ≤ i → r'.blk i = none ∧ r'.val i = none) (ho : ∀ (j : Nat) (o : Ow), T[j]? = some o → o.holds r' w' (S.length + j)) : Rel w0 G (S ++ T) r' w' ∧ r.le r' := by
  have h' := h.below hb
  have hleB : ∀ i x, r.blk i = some x → r'.blk i = some x := fun i x hx => by
    rcases Nat.lt_or_ge i S.length with h1 | h1
    · rw [(hle i h1).1]; exact hx
    · rw [h.outB i h1] at hx; cases hx
  have hleV : ∀ i x, r.val i = some x → r'.val i = some x := fun i x hx => by
    rcases Nat.lt_or_ge i S.length with h1 | h1
    · rw [(hle i h1).2]; exact hx
    · rw [h.outV i h1] at hx; cases hx
  have hle' : r.le r' := ⟨hleB, hleV⟩
  refine ⟨⟨h'.os, h'.tape, h'.output, h'.size, h'.old, fun i o' hi => ?_, fun i j x hx hy => ?_, fun i x hx => ?_, fun i hi => ?_, fun i hi => ?_, fun i g hg => hleB i g (h.first i g hg)⟩, hle'⟩
  · rcases Nat.lt_or_ge i S.length with h1 | h1
    · rw [List.getElem?_append_left h1] at hi
      refine Ow.holds_block (Ow.holds_mono hle' (h.own i o' hi) (hle i h1).1 (fun k x hk => ?_)) (fun x hx => hb.block x ?_) hb.size (fun x hx _ => hb.block x hx)
      · rcases Nat.lt_or_ge k S.length with h2 | h2
        · left; rw [← (hle k h2).1]; exact hk
        · exact .inr (hnb k x h2 hk).1
      · rw [(hle i h1).1] at hx; exact (h.new i x hx).1
    · rw [List.getElem?_append_right h1] at hi
      have := ho (i - S.length) o' hi
      rwa [show S.length + (i - S.length) = i by omega] at this
  · rcases Nat.lt_or_ge i S.length with h1 | h1 <;> rcases Nat.lt_or_ge j S.length with h2 | h2
    · rw [(hle i h1).1] at hx; rw [(hle j h2).1] at hy; exact h.inj _ _ _ hx hy
    · rw [(hle i h1).1] at hx
      have := (h.new i x hx).1
      have := (hnb j x h2 hy).1
      omega
    · rw [(hle j h2).1] at hy
      have := (h.new j x hy).1
      have := (hnb i x h1 hx).1
      omega
    · exact hinj i j x h1 h2 hx hy
  · rcases Nat.lt_or_ge i S.length with h1 | h1
    · rw [(hle i h1).1] at hx; exact h'.new i x hx
    · have := hnb i x h1 hx
      refine ⟨this.2, fun hlt => ?_⟩
      have := h.size
      omega
  · exact (hout i (by simpa using hi)).1
  · exact (hout i (by simpa using hi)).2
/-- Three rows handed back in new memory. -/
structure Rows3 (B : Nat) (w' : World) (v1 v2 v3 : Value) (b : Blk) : Prop where
  at_ : w'.ownsRow B 24 1 v1 b.at_.length (b.at_.map (.int .u32))
  pages : w'.ownsRow B 3 1 v2 b.pages.length (b.pages.map (.int .i64))
  ops : w'.ownsRow B 53 5 v3 b.ops.length (b.ops.flatMap opC)
  d12 : ∀ x, v1.ownBlock = some x → v2.ownBlock ≠ some x
  d13 : ∀ x, v1.ownBlock = some x → v3.ownBlock ≠ some x
  d23 : ∀ x, v2.ownBlock = some x → v3.ownBlock ≠ some x
def env3 (r : Env) (n : Nat) (v1 v2 v3 : Value) : Env := ⟨fun i => if i < n then r.blk i else if i = n then v1.ownBlock else if i = n + 1 then v2.ownBlock else if i = n + 2 then v3.ownBlock else Option.none, fun i => if i < n then r.val i else if i = n then some v1 else if i = n + 1 then some v2 else if i = n + 2 then some v3 else Option.none⟩
theorem env3_hi {r : Env} {n : Nat} {v1 v2 v3 : Value} {i x : Nat} (hi : n ≤ i) (h : (env3 r n v1 v2 v3).blk i = some x) : (i = n ∧ v1.ownBlock = some x) ∨ (i = n + 1 ∧ v2.ownBlock = some x) ∨ (i = n + 2 ∧ v3.ownBlock = some x) := by
  simp only [env3] at h
  rw [if_neg (by omega)] at h
  split at h
  · exact .inl ⟨‹_›, h⟩
  · split at h
    · exact .inr (.inl ⟨‹_›, h⟩)
    · split at h
      · exact .inr (.inr ⟨‹_›, h⟩)
      · cases h
/-- What three rows are that a call hands back. -/
abbrev blkRows (b : Blk) : List Ow := [.row 24 1 b.at_.length (b.at_.map (.int .u32)), .row 3 1 b.pages.length (b.pages.map (.int .i64)), .row 53 5 b.ops.length (b.ops.flatMap opC)]
theorem Rel.rows3 {w0 : World} {G : Gs} {S : List Ow} {r : Env} {w w' : World} (h : Rel w0 G S r w) (hb : Below w.heap.size w w') {v1 v2 v3 : Value} {b : Blk} (h3 : Rows3 w.heap.size w' v1 v2 v3 b) : Rel w0 G (S ++ blkRows b) (env3 r S.length v1 v2 v3) w' ∧ r.le (env3 r S.length v1 v2 v3) ∧ (env3 r S.length v1 v2 v3).val S.length = some v1 ∧ (env3 r S.length v1 v2 v3).val (S.length + 1) = some v2 ∧ (env3 r S.length v1 v2 v3).val (S.length + 2) = some v3 := by
  have hv1 : (env3 r S.length v1 v2 v3).val S.length = some v1 := by simp [env3]
  have hv2 : (env3 r S.length v1 v2 v3).val (S.length + 1) = some v2 := by simp only [env3]; rw [if_neg (by omega), if_neg (by omega), if_pos trivial]
  have hv3 : (env3 r S.length v1 v2 v3).val (S.length + 2) = some v3 := by simp only [env3]; rw [if_neg (by omega), if_neg (by omega), if_neg (by omega), if_pos trivial]
  have hb1 : (env3 r S.length v1 v2 v3).blk S.length = v1.ownBlock := by simp [env3]
  have hb2 : (env3 r S.length v1 v2 v3).blk (S.length + 1) = v2.ownBlock := by simp only [env3]; rw [if_neg (by omega), if_neg (by omega), if_pos trivial]
  have hb3 : (env3 r S.length v1 v2 v3).blk (S.length + 2) = v3.ownBlock := by simp only [env3]; rw [if_neg (by omega), if_neg (by omega), if_neg (by omega), if_pos trivial]
  have := h.snocs hb (blkRows b) (env3 r S.length v1 v2 v3) (fun i hi => by simp only [env3]; rw [if_pos hi, if_pos hi]; exact ⟨rfl, rfl⟩) (fun i x hi hx => ?_) (fun i j x hi hj hx hy => ?_) (fun i hi => ?_) (fun j o hj => ?_)
  · exact ⟨this.1, this.2, hv1, hv2, hv3⟩
  · rcases env3_hi hi hx with ⟨_, e⟩ | ⟨_, e⟩ | ⟨_, e⟩
    · exact own_new h3.at_ x e
    · exact own_new h3.pages x e
    · exact own_new h3.ops x e
  · rcases env3_hi hi hx with ⟨e1, e⟩ | ⟨e1, e⟩ | ⟨e1, e⟩ <;> rcases env3_hi hj hy with ⟨e2, e'⟩ | ⟨e2, e'⟩ | ⟨e2, e'⟩
    · omega
    · exact absurd e' (h3.d12 x e)
    · exact absurd e' (h3.d13 x e)
    · exact absurd e (h3.d12 x e')
    · omega
    · exact absurd e' (h3.d23 x e)
    · exact absurd e (h3.d13 x e')
    · exact absurd e (h3.d23 x e')
    · omega
  · simp only [List.length_cons, List.length_nil] at hi
    simp only [env3]
    rw [if_neg (by omega), if_neg (by omega), if_neg (by omega), if_neg (by omega), if_neg (by omega), if_neg (by omega), if_neg (by omega), if_neg (by omega)]
    exact ⟨rfl, rfl⟩
  · rcases j with _ | _ | _ | j
    · simp at hj; subst hj; exact ⟨v1, hv1, hb1.symm, own_base h3.at_ (Nat.zero_le _)⟩
    · simp at hj; subst hj; exact ⟨v2, hv2, hb2.symm, own_base h3.pages (Nat.zero_le _)⟩
    · simp at hj; subst hj; exact ⟨v3, hv3, hb3.symm, own_base h3.ops (Nat.zero_le _)⟩
    · simp at hj
/-- A call that hands back a block in new memory: as rows. -/
theorem call_blk {P : Program} {w0 : World} {G : Gs} {fid : FuncId} {args : List AV} {S : List Ow} {K : AV → List Ow → Prop} (post : Blk → Prop) (hok : fnOk P fid = true)
    (h : ∀ r w us, Rel w0 G S r w → avdenL r args us → Calls P fid us.toArray w fun en w' => ∃ b v1 v2 v3, post b ∧ en = .returned (.agg #[v1, v2, v3]) ∧ Rows3 w.heap.size w' v1 v2 v3 b ∧ Below w.heap.size w w')
    (hK : ∀ b, post b → K (.p (.agg [.row S.length, .row (S.length + 1), .row (S.length + 2)])) (S ++ blkRows b)) : CallS P w0 G fid args S K := by
  refine ⟨hok, fun r w us hR hd => ?_⟩
  refine (h r w us hR hd).mono fun en w' ⟨b, v1, v2, v3, hp, he, h3, hB⟩ => ?_
  obtain ⟨k1, k2, k3, k4, k5⟩ := hR.rows3 hB h3
  refine ⟨.p (.agg [.row S.length, .row (S.length + 1), .row (S.length + 2)]), _, _, _, he, ⟨[v1, v2, v3], rfl, ?_⟩, k1, k2, hK b hp⟩
  simp only [denL, CV.den]
  exact ⟨_, _, rfl, k3, _, _, rfl, k4, _, _, rfl, k5, rfl⟩
/-- A slice that is a row, or all of a built one. -/
def RowLike (S : List Ow) (x : CV) (i : Nat) (e : TypeId) (size n : Nat) (xs : List Value) : Prop :=
  (x = .row i ∧ S[i]? = some (.row e size n xs)) ∨ (x = .sl i 0 n n ∧ S[i]? = some (.cells e (xs.map .v)) ∧ xs.length = n * size ∧ n ≤ maxLen)
theorem rowLike_at {w0 w : World} {S : List Ow} {r : Env} (hR : Rel w0 Gs.nil S r w) {x : CV} {i : Nat} {e : TypeId} {size n : Nat} {xs : List Value} (h : RowLike S x i e size n xs) {u : Value} (hd : x.den r u) : w.ownsRow w0.heap.size e size u n xs ∧ u.ownBlock = r.blk i := by
  have hnew : ∀ g, r.blk i = some g → w0.heap.size ≤ g := fun g hg => by
    rcases Nat.lt_or_ge g w0.heap.size with h3 | h3
    · have := (hR.new i g hg).2 h3; simp at this
    · exact h3
  rcases h with ⟨rfl, hi⟩ | ⟨rfl, hi, hl, hn⟩
  · simp only [CV.den] at hd
    obtain ⟨v, f1, f2, f3⟩ := hR.own i _ hi
    rw [hd] at f1; injection f1 with f1; subst f1
    refine ⟨⟨f3.1, ?_⟩, f2⟩
    rcases f3.2 with h1 | ⟨b', cap, cur, h1, _, h2⟩
    · exact .inl h1
    · exact .inr ⟨b', cap, cur, h1, hnew b' (by rw [← f2, h1]; rfl), h2⟩
  · simp only [CV.den] at hd
    obtain ⟨b, hb, rfl⟩ := hd
    obtain ⟨b', us, e1, e2, e3⟩ := hR.own i _ hi
    rw [hb] at e1; injection e1 with e1; subst e1
    obtain rfl := denL_vals_inv e3
    exact ⟨⟨hl, .inr ⟨b, n, us.toArray, rfl, hnew b hb, e2, Nat.le_refl _, hn, by simpa using hl, by simp [← hl]⟩⟩, hb.symm⟩
/-- The end of a function that hands back a block in new memory. -/
theorem fin_rows3 {w0 : World} {S : List Ow} {x1 x2 x3 : CV} {R : Ending → World → Prop} (i1 i2 i3 : Nat) (b : Blk) (h12 : i1 ≠ i2) (h13 : i1 ≠ i3) (h23 : i2 ≠ i3) (h1 : RowLike S x1 i1 24 1 b.at_.length (b.at_.map (.int .u32))) (h2 : RowLike S x2 i2 3 1 b.pages.length (b.pages.map (.int .i64))) (h3 : RowLike S x3 i3 53 5 b.ops.length (b.ops.flatMap opC))
    (h : ∀ w v1 v2 v3, Rows3 w0.heap.size w v1 v2 v3 b → Below w0.heap.size w0 w → R (.returned (.agg #[v1, v2, v3])) w) : Fin w0 Gs.nil S (.p (.agg [x1, x2, x3])) R := by
  refine ⟨fun r w u hR hd => ?_⟩
  obtain ⟨us, rfl, hl⟩ := den_agg hd
  simp only [denL] at hl
  obtain ⟨u1, l1, rfl, d1, u2, l2, rfl, d2, u3, l3, rfl, d3, rfl⟩ := hl
  obtain ⟨o1, b1⟩ := rowLike_at hR h1 d1
  obtain ⟨o2, b2⟩ := rowLike_at hR h2 d2
  obtain ⟨o3, b3⟩ := rowLike_at hR h3 d3
  refine h w u1 u2 u3 ⟨o1, o2, o3, fun x hx hy => ?_, fun x hx hy => ?_, fun x hx hy => ?_⟩ hR.toBelow
  · rw [b1] at hx; rw [b2] at hy; exact h12 (hR.inj _ _ _ hx hy)
  · rw [b1] at hx; rw [b3] at hy; exact h13 (hR.inj _ _ _ hx hy)
  · rw [b2] at hx; rw [b3] at hy; exact h23 (hR.inj _ _ _ hx hy)
end Go.Proofs.Ytmjfgnnefcimiaa
namespace Go.Proofs.Ytmjfgnnefcimiaa
open Go.RowKit
theorem Rel.appendG {w0 : World} {G : Gs} {S : List Ow} {r : Env} {w w' : World} (h : Rel w0 G S r w) {i : Nat} {e : TypeId} {size n' : Nat} {xs' : List Value} {B : Option Nat} {v' : Value} (hil : i < S.length) (hG : G.fix.length ≤ i) (hob : B = r.blk i)
    (hown : w'.ownsRow 0 e size v' n' xs') (hg : w.grownBy w' B) (hb : v'.ownBlock = B ∨ v'.ownBlock = some w.heap.size) :
    Rel w0 G ((killS i S).set i (.row e size n' xs')) (r.set i v'.ownBlock (some v')) w' ∧ But i r (r.set i v'.ownBlock (some v')) := by
  have hbut : But i r (r.set i v'.ownBlock (some v')) := fun j hj => by simp [Env.set, hj]
  have hnewlt : ∀ x, v'.ownBlock = some x → x < w'.heap.size := fun x hx => by
    rcases hown.2 with ⟨h1, _⟩ | ⟨g, cap, cur, h1, _, hh, _⟩
    · rw [h1] at hx; cases hx
    · rw [h1] at hx; simp [Value.ownBlock] at hx; subst hx
      rcases Nat.lt_or_ge g w'.heap.size with h2 | h2
      · exact h2
      · rw [Array.getElem?_eq_none h2] at hh; cases hh
  have hblk : ∀ j x, r.blk j = some x → j ≠ i → w'.heap[x]? = w.heap[x]? := fun j x hx hj => hg.block x (h.new j x hx).1 (fun e => hj (h.inj j i x hx (by rw [← hob]; exact e.symm)))
  refine ⟨⟨hg.os.trans h.os, hg.tape.trans h.tape, hg.output.trans h.output, Nat.le_trans h.size hg.size, fun k hk hkG => ?_, fun j o hj => ?_, fun a b x ha hb' => ?_, fun j x hj => ?_, fun j hj => ?_, fun j hj => ?_, fun j g hj => ?_⟩, hbut⟩
  · rw [hg.block k (Nat.lt_of_lt_of_le hk h.size) (fun e => hkG ((h.new i k (by rw [← hob]; exact e.symm)).2 hk))]
    exact h.old k hk hkG
  · by_cases hij : i = j
    · subst hij
      rw [List.getElem?_set_self (by rw [killS_length]; exact hil)] at hj
      injection hj with hj; subst hj
      exact ⟨v', by simp [Env.set], by simp [Env.set], hown⟩
    · rw [List.getElem?_set_ne hij, killS_get] at hj
      cases hSj : S[j]? with
      | none => rw [hSj] at hj; cases hj
      | some o' =>
        rw [hSj] at hj
        simp at hj; subst hj
        have h1 := Ow.holds_block (h.own j o' hSj) (fun x hx => hblk j x hx (Ne.symm hij)) hg.size (fun x hx hno => hg.block x hx (fun e => hno i (by rw [← hob]; exact e.symm)))
        cases o' with
        | view φ m ys =>
          obtain ⟨A, c, h2, h3, h4, h5, h6⟩ := h.own j _ hSj
          refine ⟨A, c, by rw [← (hbut j (Ne.symm hij)).2]; exact h2, h3, h4, by rw [← (hbut j (Ne.symm hij)).1]; exact h5, fun k u hk => ?_⟩
          obtain ⟨b, off, h7, h8, h9, h10⟩ := h6 k u hk
          refine ⟨b, off, h7, Nat.lt_of_lt_of_le h8 hg.size, fun q hq => ?_, (World.cell?_of_block (w := w) (a := ⟨b, off + k, none⟩) (hg.block b h8 (fun e => h9 i (by rw [← hob]; exact e.symm)))).trans h10⟩
          by_cases hqi : q = i
          · subst hqi
            simp [Env.set] at hq
            rcases hb with hb | hb
            · rw [hb, hob] at hq; exact h9 q hq
            · rw [hb] at hq; injection hq with hq; omega
          · exact h9 q (by rw [(hbut q hqi).1]; exact hq)
        | cells t l => obtain ⟨b, us, h2, h3, h4⟩ := h1; exact ⟨b, us, by rw [← (hbut j (Ne.symm hij)).1]; exact h2, h3, killL_den hbut h4⟩
        | row e s n xs => obtain ⟨v, h2, h3, h4⟩ := h1; exact ⟨v, by rw [← (hbut j (Ne.symm hij)).2]; exact h2, by rw [← (hbut j (Ne.symm hij)).1]; exact h3, h4⟩
        | ext φ => obtain ⟨b, h2, h3⟩ := h1; exact ⟨b, by rw [← (hbut j (Ne.symm hij)).1]; exact h2, h3⟩
        | gone => trivial
  · have fresh : ∀ j x, j ≠ i → r.blk j = some x → v'.ownBlock = some x → False := fun j x hj hx he => by
      rcases hb with hb | hb
      · rw [hb, hob] at he; exact hj (h.inj j i x hx he)
      · rw [hb] at he; injection he with he; have := (h.new j x hx).1; omega
    simp only [Env.set] at ha hb'
    split at ha <;> split at hb'
    · omega
    · exact (fresh b x (by assumption) hb' ha).elim
    · exact (fresh a x (by assumption) ha hb').elim
    · exact h.inj a b x ha hb'
  · simp only [Env.set] at hj
    split at hj
    · refine ⟨hnewlt x hj, fun hlt => ?_⟩
      rcases hb with hb | hb
      · rw [hb, hob] at hj; exact (h.new i x hj).2 hlt
      · rw [hb] at hj; injection hj with hj; have := h.size; omega
    · exact ⟨Nat.lt_of_lt_of_le (h.new j x hj).1 hg.size, (h.new j x hj).2⟩
  · have hj' : S.length ≤ j := by simpa [killS_length] using hj
    simp only [Env.set]; rw [if_neg (by omega)]; exact h.outB j hj'
  · have hj' : S.length ≤ j := by simpa [killS_length] using hj
    simp only [Env.set]; rw [if_neg (by omega)]; exact h.outV j hj'
  · have : j < G.fix.length := by
      rcases Nat.lt_or_ge j G.fix.length with h1 | h1
      · exact h1
      · rw [List.getElem?_eq_none h1] at hj; cases hj
    simp only [Env.set]; rw [if_neg (by omega)]; exact h.first j g hj


section
variable {P : Program} {w0 : World} {G : Gs} {N : Nd} {o : Oper} {f : Fr} {S : List Ow} {K : Fr → List Ow → Prop} {Q : Exit → Act → World → Prop} {d : Code}
/-- An operation that hands back a value and leaves the world as it is. -/
theorem opS_val (v : AV) (hdst : dstOk N.n o.dst = true) (h : ∀ r a w, Rel w0 G S r w → FDen r f a → ∃ u, v.den r u ∧ (execOp a.eval o).run P w = .ok (.value u) w) (hk : K (f.put o.dst v) S) : OpS P w0 G N o f S K := by
  refine ⟨fun r a w hR hf hN hd next Q hK => ?_⟩
  obtain ⟨u, hu, hrun⟩ := h r a w hR hf
  exact wp_of_value hrun (hK _ _ _ _ hk (good_value hR hf hN hd hdst hu hR (Env.le.refl r)))
theorem op_min {x y : Operand} {a b : Int} {tys : Array TypeId} (hop : o.op = .call ⟨.builtin .min, #[x, y], tys⟩) (hx : f.ev x = one (.int .i64 a)) (hy : f.ev y = one (.int .i64 b)) (hdst : dstOk N.n o.dst = true) (hk : K (f.put o.dst (one (.int .i64 (if b < a then b else a)))) S) : OpS P w0 G N o f S K := by
  refine opS_val _ hdst (fun r act w hR hf => ⟨_, den_one _ _, ?_⟩) hk
  have h1 := hf.ev x
  have h2 := hf.ev y
  rw [hx] at h1; rw [hy] at h2
  simp [execOp, hop, resolve, invoke, builtin, den_v h1, den_v h2, Builtin.min_, Builtin.min2]
theorem run_slice {t e : TypeId} {i : TypeInfo} (ht : P.underlying t = some (.slice e)) (hi : P.info? e = some i) (A : Option Addr) (n c l h : Nat) (low high : Option Value) (hl : (low = none ∧ l = 0) ∨ ∃ q, low = some (.int q (l : Int))) (hh : (high = none ∧ h = n) ∨ ∃ q, high = some (.int q (h : Int))) (hlh : l ≤ h) (hhc : h ≤ c) (w : World) :
    (Instr.sliceAt t (.slice A n c) low high none).run P w = .ok (.slice (if c = l then A else A.map (·.add (l * i.size))) (h - l) (c - l)) w := by
  have hs := run_sizeOf P e w hi
  have hl0 : (0 : Int) ≤ (l : Int) ∧ (l : Int) ≤ (h : Int) := by omega
  have hh0 : (0 : Int) ≤ (h : Int) ∧ (h : Int) ≤ (c : Int) := by omega
  rcases hl with ⟨rfl, rfl⟩ | ⟨q, rfl⟩ <;> rcases hh with ⟨rfl, rfl⟩ | ⟨q', rfl⟩ <;>
    simp [Instr.sliceAt, Instr.slice, underlying, ht, Instr.sliceBounds, Instr.sliceBound, asIntOf, hs, hl0, hh0, hlh, hhc]
/-- A slice of a slice that is known whole. -/
theorem op_slice_v {t e : TypeId} {i : TypeInfo} {x : Operand} {lo hi : Option Operand} {A : Option Addr} {n c : Nat} (l h size : Nat) (hop : o.op = .slice t x lo hi none) (ht : P.underlying t = some (.slice e)) (hif : P.info? e = some i) (hsz : i.size = size) (hx : f.ev x = one (.slice A n c))
    (hl : (lo = none ∧ l = 0) ∨ ∃ y q, lo = some y ∧ f.ev y = one (.int q (l : Int))) (hh : (hi = none ∧ h = n) ∨ ∃ y q, hi = some y ∧ f.ev y = one (.int q (h : Int))) (hlh : l ≤ h) (hhc : h ≤ c) (hdst : dstOk N.n o.dst = true)
    (hk : K (f.put o.dst (one (.slice (if c = l then A else A.map (·.add (l * size))) (h - l) (c - l)))) S) : OpS P w0 G N o f S K := by
  subst hsz
  refine opS_val _ hdst (fun r act w hR hf => ⟨_, den_one _ _, ?_⟩) hk
  have h1 := hf.ev x
  rw [hx] at h1
  have hl' : ((lo.map act.eval) = none ∧ l = 0) ∨ ∃ q, (lo.map act.eval) = some (.int q (l : Int)) := by
    rcases hl with ⟨rfl, h0⟩ | ⟨y, q, rfl, hy⟩
    · exact .inl ⟨rfl, h0⟩
    · have := hf.ev y; rw [hy] at this; exact .inr ⟨q, by rw [Option.map_some, den_v this]⟩
  have hh' : ((hi.map act.eval) = none ∧ h = n) ∨ ∃ q, (hi.map act.eval) = some (.int q (h : Int)) := by
    rcases hh with ⟨rfl, h0⟩ | ⟨y, q, rfl, hy⟩
    · exact .inl ⟨rfl, h0⟩
    · have := hf.ev y; rw [hy] at this; exact .inr ⟨q, by rw [Option.map_some, den_v this]⟩
  have := run_slice (P := P) ht hif A n c l h (lo.map act.eval) (hi.map act.eval) hl' hh' hlh hhc w
  simp [execOp, hop, den_v h1, this]
/-- A row cut off behind its first m elements; nothing else names it any more. -/
theorem op_reslice {t e : TypeId} {i : TypeInfo} {x y : Operand} {q : IntKind} {n size : Nat} {xs : List Value} (k m : Nat) (hop : o.op = .slice t x none (some y) none) (ht : P.underlying t = some (.slice e)) (hif : P.info? e = some i) (_hsz : i.size = size) (hx : f.ev x = .p (.c (.row k))) (hS : S[k]? = some (.row e size n xs)) (hy : f.ev y = one (.int q (m : Int))) (hm : m ≤ n) (hG : G.fix.length ≤ k) (hdst : dstOk N.n o.dst = true)
    (hk : K ((Fr.kill k f).put o.dst (.p (.c (.row k)))) ((killS k S).set k (.row e size m (xs.take (m * size))))) : OpS P w0 G N o f S K := by
  refine ⟨fun r a w hR hf hN hd next Q hK => ?_⟩
  have h1 := hf.ev x
  have h2 := hf.ev y
  rw [hx] at h1; rw [hy] at h2
  have hu := den_row h1
  obtain ⟨v, f1, f2, f3⟩ := hR.own k _ hS
  rw [hu] at f1; injection f1 with f1; subst f1
  have hlt : k < S.length := by
    rcases Nat.lt_or_ge k S.length with h | h
    · exact h
    · rw [List.getElem?_eq_none h] at hS; cases hS
  obtain ⟨A, c, he⟩ := row_slice f3
  rw [he] at f2 f3 hu
  have hnc : n ≤ c := by
    rcases f3.2 with ⟨e1, e2⟩ | ⟨g, cap, cur, e1, _, _, e2, _⟩
    · injection e1 with _ _ e1; omega
    · injection e1 with _ _ e1; omega
  have hmin : min (m * size) xs.length = m * size := Nat.min_eq_left (by rw [f3.1]; exact Nat.mul_le_mul_right _ hm)
  have hown : w.ownsRow 0 e size (.slice A m c) m (xs.take (m * size)) := by
    refine ⟨by rw [List.length_take, hmin], ?_⟩
    rcases f3.2 with ⟨e1, e2⟩ | ⟨g, cap, cur, e1, e2, e3, e4, e5, e6, e7⟩
    · injection e1 with e0 e0' e1; subst e0; subst e1
      exact .inl ⟨by rw [show m = 0 by omega], by omega⟩
    · injection e1 with e0 e0' e1; subst e0; subst e1
      refine .inr ⟨g, c, cur, rfl, Nat.zero_le _, e3, by omega, e5, e6, ?_⟩
      rw [← e7, List.take_take, Nat.min_eq_left (Nat.mul_le_mul_right _ hm)]
  have hbl : (Value.slice A m c).ownBlock = (Value.slice A n c).ownBlock := by cases A <;> rfl
  obtain ⟨hR', hbut⟩ := hR.appendG (i := k) (B := (Value.slice A n c).ownBlock) hlt hG f2 hown (World.grownBy.refl w _) (.inl hbl)
  have hrun := run_slice (P := P) ht hif A n c 0 m none (some (.int q (m : Int))) (.inl ⟨rfl, rfl⟩) (.inr ⟨q, rfl⟩) (Nat.zero_le _) (by omega) w
  have hA : (if c = 0 then A else A.map (·.add (0 * i.size))) = A := by
    split
    · rfl
    · cases A with
      | none => rfl
      | some p => simp [Addr.add]
  rw [hA, Nat.sub_zero, Nat.sub_zero] at hrun
  have hex : (execOp a.eval o).run P w = .ok (.value (.slice A m c)) w := by simp [execOp, hop, he, den_v h2, hrun]
  exact wp_of_value hex (hK _ _ _ _ hk ⟨_, hR', (hf.kill hbut).put (by simp [AV.den, Pc.den, CV.den, Env.set]) (by rw [hN]; exact hdst), (put_size a _ _).trans hN, (put_defers a _ _).trans hd⟩)
/-- What the memory is, looked at closer. -/
theorem satq_conc (h : ∀ r w, Rel w0 G S r w → ∃ f2 S2, Rel w0 G S2 r w ∧ (∀ a, FDen r f a → FDen r f2 a) ∧ SatQ P w0 G N d f2 S2 Q) : SatQ P w0 G N d f S Q :=
  ⟨fun a w ⟨r, hR, hf, hN, hd⟩ => by
    obtain ⟨f2, S2, hR2, hf2, hs⟩ := h r w hR
    exact hs.out a w ⟨r, hR2, hf2 a hf, hN, hd⟩⟩
/-- append onto the front of a block whose content is known, of a part of it. -/
theorem op_app_obj {t e : TypeId} {inf : TypeInfo} {z : Value} {s x : Operand} {A : Option Addr} {m c2 : Nat} (k ob i C size : Nat) (cur news : List Value) (hop : o.op = .call ⟨.builtin .append, #[s, x], #[t, t]⟩) (ht : P.underlying t = some (.slice e)) (hif : P.info? e = some inf) (hz : inf.zero = some z) (hzs : z.cells.size = inf.size) (hsz : inf.size = size) (hpos : 0 < size) (hbytes : inf.bytes ≤ 100000)
    (hs : f.ev s = one (.slice (some ⟨ob, 0, none⟩) i C)) (hx : f.ev x = one (.slice A m c2)) (hSk : S[k]? = some (objOw ob (.cells cur.toArray e (0, 0)))) (hG : G.fix.length ≤ k) (hC : cur.length = C * size) (hiC : i ≤ C) (hCm : C ≤ maxLen) (hl : news.length = m * size) (hnews : ∀ (j : Nat) u, news[j]? = some u → ∃ off, A = some ⟨ob, off, none⟩ ∧ cur[off + j]? = some u) (hone : ∀ u ∈ news, u.oneCell' = true) (hle : i + m ≤ 1000000000) (hdst : dstOk N.n o.dst = true)
    (hk : K ((Fr.kill k f).put o.dst (.p (.c (.row k)))) ((killS k S).set k (.row e size (i + m) (cur.take (i * size) ++ news)))) : OpS P w0 G N o f S K := by
  subst hsz
  refine ⟨fun r a w hR hf hN hd next Q hK => ?_⟩
  have h1 := hf.ev s
  have h2 := hf.ev x
  rw [hs] at h1; rw [hx] at h2
  obtain ⟨b, hb, ⟨rfl, hh⟩, _⟩ := hR.own k _ hSk
  have hlt : k < S.length := by
    rcases Nat.lt_or_ge k S.length with h | h
    · exact h
    · rw [List.getElem?_eq_none h] at hSk; cases hSk
  have hown : w.ownsRow 0 e inf.size (.slice (some ⟨b, 0, none⟩) i C) i (cur.take (i * inf.size)) :=
    ⟨by rw [List.length_take, Nat.min_eq_left (by rw [hC]; exact Nat.mul_le_mul_right _ hiC)], .inr ⟨b, C, cur.toArray, rfl, Nat.zero_le _, hh, hiC, hCm, by simpa using hC, by simp⟩⟩
  obtain ⟨v', w', hrun, hown', hg, hbb⟩ := run_append_src (P := P) 0 t o.type e inf z ht hif hz hzs hpos _ i _ hown A m c2 news hl (fun j u hj => by
    obtain ⟨off, e1, e2⟩ := hnews j u hj
    exact ⟨b, off, e1, by simp [World.cell?, hh, e2]⟩) hone hle hbytes (Nat.zero_le _)
  obtain ⟨hR', hbut⟩ := hR.appendG (i := k) (B := some b) hlt hG hb.symm hown' hg hbb
  have hex : (execOp a.eval o).run P w = .ok (.value v') w' := by
    simp [execOp, hop, resolve, invoke, builtin, den_v h1, den_v h2, hrun]
  exact wp_of_value hex (hK _ _ _ _ hk ⟨_, hR', (hf.kill hbut).put (by simp [AV.den, Pc.den, CV.den, Env.set]) (by rw [hN]; exact hdst), (put_size a _ _).trans hN, (put_defers a _ _).trans hd⟩)
/-- append onto a row, of a part of a block whose content is known. -/
theorem op_app_from {t e : TypeId} {inf : TypeInfo} {z : Value} {s x : Operand} {A : Option Addr} {m c2 n : Nat} {xs : List Value} (k j ob size : Nat) (cur news : List Value) (hop : o.op = .call ⟨.builtin .append, #[s, x], #[t, t]⟩) (ht : P.underlying t = some (.slice e)) (hif : P.info? e = some inf) (hz : inf.zero = some z) (hzs : z.cells.size = inf.size) (hsz : inf.size = size) (hpos : 0 < size) (hbytes : inf.bytes ≤ 100000)
    (hs : f.ev s = .p (.c (.row j))) (hSj : S[j]? = some (.row e size n xs)) (hx : f.ev x = one (.slice A m c2)) (hSk : S[k]? = some (objOw ob (.cells cur.toArray e (0, 0)))) (hG : G.fix.length ≤ j) (hl : news.length = m * size) (hnews : ∀ (j : Nat) u, news[j]? = some u → ∃ off, A = some ⟨ob, off, none⟩ ∧ cur[off + j]? = some u) (hone : ∀ u ∈ news, u.oneCell' = true) (hle : n + m ≤ 1000000000) (hdst : dstOk N.n o.dst = true)
    (hk : K ((Fr.kill j f).put o.dst (.p (.c (.row j)))) ((killS j S).set j (.row e size (n + m) (xs ++ news)))) : OpS P w0 G N o f S K := by
  subst hsz
  refine ⟨fun r a w hR hf hN hd next Q hK => ?_⟩
  have h1 := hf.ev s
  have h2 := hf.ev x
  rw [hs] at h1; rw [hx] at h2
  obtain ⟨b, hb, ⟨rfl, hh⟩, _⟩ := hR.own k _ hSk
  obtain ⟨v, hv, hob, hown⟩ := hR.own j _ hSj
  have hux := den_row h1
  rw [hux] at hv; injection hv with hv; subst hv
  obtain ⟨v', w', hrun, hown', hg, hbb⟩ := run_append_src (P := P) 0 t o.type e inf z ht hif hz hzs hpos _ n xs hown A m c2 news hl (fun j u hj => by
    obtain ⟨off, e1, e2⟩ := hnews j u hj
    exact ⟨b, off, e1, by simp [World.cell?, hh, e2]⟩) hone hle hbytes (Nat.zero_le _)
  obtain ⟨hR', hbut⟩ := hR.append hSj hG hux hown' hg hbb
  have hex : (execOp a.eval o).run P w = .ok (.value v') w' := by
    simp [execOp, hop, resolve, invoke, builtin, den_v h2, hrun]
  exact wp_of_value hex (hK _ _ _ _ hk ⟨_, hR', (hf.kill hbut).put (by simp [AV.den, Pc.den, CV.den, Env.set]) (by rw [hN]; exact hdst), (put_size a _ _).trans hN, (put_defers a _ _).trans hd⟩)
end
end Go.Proofs.Ytmjfgnnefcimiaa
namespace Go.Proofs.Ytmjfgnnefcimiaa
open Go.RowKit

theorem fin_view {w0 : World} {S : List Ow} {i n : Nat} {xs : List Value} {φ : Option Addr → Prop} {l : List BOp} {x1 x2 : Value} {R : Ending → World → Prop} (hi : S[i]? = some (.view φ n xs)) (hn : n = l.length) (hx : xs = l.flatMap opC)
    (h : ∀ w' A c, OpsAt w' w'.heap.size A l → l.length ≤ c → c ≤ maxLen → φ A → Below w0.heap.size w0 w' → R (.returned (.agg #[x1, x2, .slice A l.length c])) w') : Fin w0 Gs.nil S (.p (.agg [.v x1, .v x2, .row i])) R := by
  refine ⟨fun r w u hR hd => ?_⟩
  subst hn; subst hx
  obtain ⟨us, rfl, hl⟩ := den_agg hd
  simp only [denL] at hl
  obtain ⟨u1, l1, rfl, d1, u2, l2, rfl, d2, u3, l3, rfl, d3, rfl⟩ := hl
  simp only [CV.den] at d1 d2 d3
  subst d1; subst d2
  obtain ⟨A, c, rfl, hs, hc1, hc2, hA, _⟩ := viewAt hR hi d3
  exact h w A c hs hc1 hc2 hA hR.toBelow
theorem call_equal_views {w0 : World} {G : Gs} {S : List Ow} {K : AV → List Ow → Prop} (i j : Nat) (l m : List BOp) {φ ψ : Option Addr → Prop} (hi : S[i]? = some (.view φ l.length (l.flatMap opC))) (hj : S[j]? = some (.view ψ m.length (m.flatMap opC))) (hl : l.length ≤ 1000000) (hK : K (one (.bool (l == m))) S) :
    CallS Try.prog w0 G 77 [.p (.c (.row i)), .p (.c (.row j))] S K := by
  refine callS_val (.bool (l == m)) (by kernel_rfl) (fun r w us hR hd => ?_) hK
  obtain ⟨u1, l1, rfl, d1, u2, l2, rfl, d2, d3⟩ := hd
  obtain rfl : l2 = [] := d3
  obtain ⟨A, c, rfl, hs, _⟩ := viewAt hR hi (den_row d1)
  obtain ⟨A', c', rfl, hs', _⟩ := viewAt hR hj (den_row d2)
  exact equal_ops A A' c c' l m w hs hs' hl
def passV : List Value := [.func (.func 17) #[] #[], .func (.func 18) #[] #[], .func (.func 19) #[] #[]]
structure RepSt (mu : Blk → Nat) (b0 : Blk) where
  b : Blk
  ok : b.ok
  hat : b.at_ = b0.at_
  hpg : b.pages = b0.pages
  eq : optN (mu b0) b0 = optN (mu b) b
set_option maxRecDepth 100000 in
theorem repeat_walk (mu : Blk → Nat) (hmu : ∀ b, b.ok → (onceP b).ops ≠ b.ops → mu (onceP b) < mu b) (b : Blk) (A1 A2 A3 : Option Addr) (c1 c2 c3 bp : Nat) (w : World) (hb : b.ok) (h1 : SlAt w w.heap.size A1 (b.at_.map (.int .u32))) (h2 : SlAt w w.heap.size A2 (b.pages.map (.int .i64))) (h3 : OpsAt w w.heap.size A3 b.ops) (hc3 : b.ops.length ≤ c3) (hm3 : c3 ≤ maxLen)
    (hp : SlAt w w.heap.size (some ⟨bp, 0, none⟩) passV) :
    Calls Try.prog 51 #[.agg #[.slice A1 b.at_.length c1, .slice A2 b.pages.length c2, .slice A3 b.ops.length c3], .slice (some ⟨bp, 0, none⟩) 3 3] w fun e w' =>
      ∃ A c, e = .returned (.agg #[.slice A1 b.at_.length c1, .slice A2 b.pages.length c2, .slice A (optN (mu b) b).ops.length c]) ∧ OpsAt w' w'.heap.size A (optN (mu b) b).ops ∧ (optN (mu b) b).ops.length ≤ c ∧ c ≤ maxLen ∧ (Fresh w.heap.size A ∨ A = A3) ∧ Below w.heap.size w w' := by
  obtain ⟨φ, hφ⟩ : ∃ φ : Option Addr → Prop, φ = fun A => Fresh w.heap.size A ∨ A = A3 := ⟨_, rfl⟩
  have hφ1 : ∀ A, Fresh w.heap.size A → φ A := fun A h => by rw [hφ]; exact .inl h
  have hφ2 : φ A3 := by rw [hφ]; exact .inr rfl
  have cellP : ∀ (k : Nat) (v : Value), passV[k]? = some v → CellsAt w Gs.nil bp k [v] := fun k v hk => by
    obtain ⟨b', off, e1, e2, e3⟩ := hp k v hk
    injection e1 with e1; injection e1 with e1 e4; subst e1; subst e4
    exact cells_one e2 (by simp) (by rwa [Nat.zero_add] at e3)
  refine calls_val [.agg #[.slice A1 b.at_.length c1, .slice A2 b.pages.length c2, .slice A3 b.ops.length c3], .slice (some ⟨bp, 0, none⟩) 3 3] Try.func51 Try.ntmps51 rfl (by simp) ?_
  conv => whnf
  refine ⟨RepSt mu b, fun x => [(1, one (.slice (some ⟨bp, 0, none⟩) 3 3)), (2, .p (.c (.ref 0 0))), (4, .p (.c (.ref 1 0)))],
    fun x => [.cells 32 [.v (.slice A1 b.at_.length c1), .v (.slice A2 b.pages.length c2), .row 2], .cells 32 [.v (.slice none 0 0), .v (.slice none 0 0), .v (.slice none 0 0)], .view φ x.b.ops.length (x.b.ops.flatMap opC)],
    fun x => mu x.b, ⟨⟨b, hb, rfl, rfl, rfl⟩, ?_⟩, fun x => ?_⟩
  · exact ent_trans (ent_view (φ := φ) (f' := [(1, one (.slice (some ⟨bp, 0, none⟩) 3 3)), (2, .p (.c (.ref 0 0))), (4, .p (.c (.ref 1 0)))]) 0 2 rfl rfl h3 hc3 hm3 hφ2 (aI rfl (aI rfl (aI rfl trivial)))) (ent_same rfl (aI rfl (aI rfl (aI rfl trivial))) (aI ((aI rfl (Or.inl rfl))) (aI ((aI rfl (Or.inl rfl))) (aI ((aI rfl (aI rfl rfl))) trivial))))
  have hok := x.ok
  have hlen : x.b.ops.length ≤ 1000000 := x.ok.lops
  have hat := x.hat
  have hpg := x.hpg
  have heq := x.eq
  conv => whnf
  refine ⟨{ k : Nat // k ≤ 3 }, fun y => [(1, one (.slice (some ⟨bp, 0, none⟩) 3 3)), (2, .p (.c (.ref 0 0))), (4, .p (.c (.ref 1 0))), (5, .p (.c (.ref 3 0))), (9, one (.slice (some ⟨bp, 0, none⟩) 3 3)), (10, one (.int .i64 3)), (11, one (.int .i64 y.1))],
    fun y => [.cells 32 [.v (.slice A1 b.at_.length c1), .v (.slice A2 b.pages.length c2), .row 4], .cells 32 [.v (.slice none 0 0), .v (.slice none 0 0), .v (.slice none 0 0)], .view φ x.b.ops.length (x.b.ops.flatMap opC), .cells 32 [.v (.slice A1 b.at_.length c1), .v (.slice A2 b.pages.length c2), .row 2], .view φ (passN y.1 x.b).ops.length ((passN y.1 x.b).ops.flatMap opC)],
    fun y => 3 - y.1, ⟨⟨0, by omega⟩, ?_⟩, fun y => ?_⟩
  · exact ent_ren [0, 1, 2, 3, 2] (aI rfl (aI rfl (aI rfl (aI rfl (aI rfl (aI rfl (aI rfl trivial))))))) (aI ((Exists.intro _ (aI rfl (aI rfl (Or.inl rfl))))) (aI ((Exists.intro _ (aI rfl (aI rfl (Or.inl rfl))))) (aI ((Exists.intro _ (aI rfl (aI rfl (aI rfl rfl))))) (aI ((Exists.intro _ (aI rfl (aI rfl (Or.inl rfl))))) (aI ((Exists.intro _ (aI rfl (aI rfl (aI rfl rfl))))) trivial))))) rfl rfl rfl rfl rfl
  obtain ⟨k, hk⟩ := y
  match k, hk with
  | 0, _ =>
    conv => whnf
    refine ⟨fun _ => ?_, (fun h => by simp at h)⟩
    conv => whnf
    refine ⟨⟨by dsimp only; decide, by dsimp only; decide⟩, ?_⟩
    conv => whnf
    refine ⟨_, cellP 0 _ rfl, ?_⟩
    conv => whnf
    refine call_pass_at fold_pass (by kernel_rfl) 4 x.b b rfl hok hat hpg fold_nil h1 h2 hφ1 ?_
    conv => whnf
    refine ⟨1, rfl, ?_⟩
    conv => whnf
    exact ⟨⟨1, by omega⟩, ent_ren [0, 1, 2, 3, 5] (aI rfl (aI rfl (aI rfl (aI rfl (aI rfl (aI rfl (aI rfl trivial))))))) (aI ((Exists.intro _ (aI rfl (aI rfl (Or.inl rfl))))) (aI ((Exists.intro _ (aI rfl (aI rfl (Or.inl rfl))))) (aI ((Exists.intro _ (aI rfl (aI rfl (aI rfl rfl))))) (aI ((Exists.intro _ (aI rfl (aI rfl (Or.inl rfl))))) (aI ((Exists.intro _ (aI rfl (aI rfl (aI rfl rfl))))) trivial))))) rfl rfl rfl rfl rfl, by dsimp only; decide⟩
  | 1, _ =>
    conv => whnf
    refine ⟨fun _ => ?_, (fun h => by simp at h)⟩
    conv => whnf
    refine ⟨⟨by dsimp only; decide, by dsimp only; decide⟩, ?_⟩
    conv => whnf
    refine ⟨_, cellP 1 _ rfl, ?_⟩
    conv => whnf
    refine call_pass_at copies_pass (by kernel_rfl) 4 (foldP x.b) b rfl (foldP_ok hok) hat hpg copy_nil h1 h2 hφ1 ?_
    conv => whnf
    refine ⟨2, rfl, ?_⟩
    conv => whnf
    exact ⟨⟨2, by omega⟩, ent_ren [0, 1, 2, 3, 5] (aI rfl (aI rfl (aI rfl (aI rfl (aI rfl (aI rfl (aI rfl trivial))))))) (aI ((Exists.intro _ (aI rfl (aI rfl (Or.inl rfl))))) (aI ((Exists.intro _ (aI rfl (aI rfl (Or.inl rfl))))) (aI ((Exists.intro _ (aI rfl (aI rfl (aI rfl rfl))))) (aI ((Exists.intro _ (aI rfl (aI rfl (Or.inl rfl))))) (aI ((Exists.intro _ (aI rfl (aI rfl (aI rfl rfl))))) trivial))))) rfl rfl rfl rfl rfl, by dsimp only; decide⟩
  | 2, _ =>
    conv => whnf
    refine ⟨fun _ => ?_, (fun h => by simp at h)⟩
    conv => whnf
    refine ⟨⟨by dsimp only; decide, by dsimp only; decide⟩, ?_⟩
    conv => whnf
    refine ⟨_, cellP 2 _ rfl, ?_⟩
    conv => whnf
    refine call_pass_at dead_pass (by kernel_rfl) 4 (copyP (foldP x.b)) b rfl (copyP_ok (foldP_ok hok)) hat hpg dead_nil h1 h2 hφ1 ?_
    conv => whnf
    refine ⟨3, rfl, ?_⟩
    conv => whnf
    exact ⟨⟨3, by omega⟩, ent_ren [0, 1, 2, 3, 5] (aI rfl (aI rfl (aI rfl (aI rfl (aI rfl (aI rfl (aI rfl trivial))))))) (aI ((Exists.intro _ (aI rfl (aI rfl (Or.inl rfl))))) (aI ((Exists.intro _ (aI rfl (aI rfl (Or.inl rfl))))) (aI ((Exists.intro _ (aI rfl (aI rfl (aI rfl rfl))))) (aI ((Exists.intro _ (aI rfl (aI rfl (Or.inl rfl))))) (aI ((Exists.intro _ (aI rfl (aI rfl (aI rfl rfl))))) trivial))))) rfl rfl rfl rfl rfl, by dsimp only; decide⟩
  | 3, _ =>
    conv => whnf
    refine ⟨(fun h => by simp at h), fun _ => ?_⟩
    conv => whnf
    refine ⟨_, _, ent_refl, ?_⟩
    conv => whnf
    refine call_equal_views 2 4 x.b.ops (onceP x.b).ops rfl rfl hlen ?_
    conv => whnf
    refine ⟨fun h => ?_, fun h => ?_⟩
    · have he : (onceP x.b).ops = x.b.ops := (by simpa using h : x.b.ops = (onceP x.b).ops).symm
      conv => whnf
      refine ⟨_, _, ent_refl, ?_⟩
      conv => whnf
      rw [optN_same he] at heq
      refine fin_view (i := 4) (l := (onceP x.b).ops) rfl rfl rfl fun w' A c e1 e2 e3 e4 e5 => ?_
      rw [heq, ← he]
      exact ⟨A, c, rfl, e1, e2, e3, by rw [hφ] at e4; exact e4, e5⟩
    · have he : (onceP x.b).ops ≠ x.b.ops := fun e => by rw [e] at h; simp at h
      conv => whnf
      exact ⟨⟨onceP x.b, onceP_ok hok, hat, hpg, by rw [heq, optN_step hmu hok he]⟩, ent_ren [0, 1, 4] (aI rfl (aI rfl (aI rfl trivial))) (aI ((Exists.intro _ (aI rfl (aI rfl (Or.inl rfl))))) (aI ((Exists.intro _ (aI rfl (aI rfl (Or.inl rfl))))) (aI ((Exists.intro _ (aI rfl (aI rfl (aI rfl rfl))))) trivial))) rfl rfl rfl rfl rfl, hmu _ hok he⟩
end Go.Proofs.Ytmjfgnnefcimiaa
namespace Go.Proofs.Ytmjfgnnefcimiaa
open Go.RowKit

def ndsOf {l : List BOp} (pre : List (Elt l)) : List (Nat × BOp) := pre.map fun x => x.1
theorem ndsOf_formed {l : List BOp} (h : ∀ o ∈ l, formedB o = true) (pre : List (Elt l)) : ∀ x ∈ ndsOf pre, formedB x.2 = true := fun o ho => by
  obtain ⟨x, _, rfl⟩ := List.mem_map.1 ho
  exact h _ (List.mem_of_getElem? x.2)
theorem ndsOf_snoc {l : List BOp} (pre : List (Elt l)) (x : Elt l) : ndsOf (pre ++ [x]) = ndsOf pre ++ [x.1] := by simp [ndsOf]
theorem ndsOf_all {l : List BOp} {xs : List (Elt l)} (h : AllDown xs) : (liveRun l.length (ndsOf xs)).row = liveL l := by
  refine liveRun_all l (fun x hx => ?_) ?_
  · obtain ⟨y, _, rfl⟩ := List.mem_map.1 hx; exact y.2
  · unfold AllDown at h
    rw [show (ndsOf xs).map (·.1) = xs.map fun x => x.1.1 by simp [ndsOf], h]
    simp [downTo]
set_option maxRecDepth 100000 in
theorem live_opt (b : Blk) (A1 A2 A3 : Option Addr) (c1 c2 c3 : Nat) (w : World) (hb : b.ok) (h2 : SlAt w w.heap.size A2 (b.pages.map (.int .i64))) (h3 : OpsAt w w.heap.size A3 b.ops) :
    Calls Try.prog 27 #[.agg #[.slice A1 b.at_.length c1, .slice A2 b.pages.length c2, .slice A3 b.ops.length c3]] w fun e w' =>
      ∃ A c, e = .returned (.slice A (liveAll b).length c) ∧ SlAt w' w'.heap.size A ((liveAll b).map natV) ∧ (liveAll b).length ≤ c ∧ c ≤ maxLen ∧ Fresh w.heap.size A ∧ Below w.heap.size w w' := by
  refine calls_satq [.agg #[.slice A1 b.at_.length c1, .slice A2 b.pages.length c2, .slice A3 b.ops.length c3]] Try.func27 Try.ntmps27 rfl (by simp) ?_
  refine satq_seq ?_
  conv => whnf
  refine satq_seq ?_
  conv => whnf
  refine call_con rfl (by kernel_rfl) (fun r w' hR => valid_ir A1 A2 A3 c1 c2 c3 b w' hb (sl_later h2 hR.toBelow) (sl_later h3 hR.toBelow)) ?_
  conv => whnf
  refine ⟨fun hn => ?_, fun hn => ?_⟩
  · have hv : validB b = false := by simpa using hn
    have hF : liveAll b = [] := by unfold liveAll; rw [hv]; rfl
    conv => whnf
    refine atq_ret ?_
    conv => whnf
    refine fin_val rfl fun w' hB => ⟨none, 0, by rw [hF]; rfl, by rw [hF]; intro j u hj; simp at hj, by rw [hF]; exact Nat.le_refl _, by decide, nofun, hB⟩
  have hv : validB b = true := by simpa using hn
  have hF : liveAll b = liveL b.ops := by unfold liveAll; rw [hv]; rfl
  obtain ⟨hpos, hmax⟩ := valid_pos hv
  obtain ⟨bb, off, rfl⟩ := ops_addr h3 hpos
  have hform := valid_formed hv
  conv => whnf
  refine satq_seq ?_
  conv => whnf
  refine op_makeSlice (e := 24) (z := .int .u32 0) 1 b.ops.length rfl rfl rfl rfl rfl rfl rfl (by omega) (by show 4 * _ ≤ _; omega) (by simp [maxLen]; omega) rfl (zero_row _) ?_
  conv => whnf
  refine satq_seq ?_
  conv => whnf
  refine satq_in ?_
  refine satq_seq ?_
  conv => whnf
  refine call_backward ?_
  conv => whnf
  refine satq_block ?_
  refine satq_back (N := 27) (m := 3) (V := [.cells 32 [.v (.slice A1 b.at_.length c1), .v (.slice A2 b.pages.length c2), .v (.slice (some ⟨bb, off, none⟩) b.ops.length c3)], .row 24 1 b.ops.length ((List.replicate b.ops.length 0).map natV), .cells 29 [.row 1], .cells 24 [.v (.int .u32 0)]])
    (A := [.cells 32 [.v (.slice A1 b.at_.length c1), .v (.slice A2 b.pages.length c2), .v (.slice (some ⟨bb, off, none⟩) b.ops.length c3)], .cells 29 [.row 3], .cells 24 [.v (.int .u32 0)]]) (T := [.row 24 1 b.ops.length ((List.replicate b.ops.length 0).map natV)])
    (f0 := [(1, .p (.c (.ref 0 0))), (3, .p (.c (.ref 2 0))), (4, .p (.c (.ref 3 0)))]) (fa := [(1, .p (.c (.ref 0 0))), (3, .p (.c (.ref 1 0))), (4, .p (.c (.ref 2 0)))])
    h3 (ops_lt h3 hpos) (by omega) rfl ⟨rfl, rfl⟩ (aI rfl (aI rfl (aI rfl trivial))) rfl rfl
    (fun pre => [.cells 32 [.v (.slice A1 b.at_.length c1), .v (.slice A2 b.pages.length c2), .v (.slice (some ⟨bb, off, none⟩) b.ops.length c3)], .cells 29 [.row 3], .cells 24 [.v (.int .u32 ((liveRun b.ops.length (ndsOf pre)).live : Int))], .row 24 1 b.ops.length ((liveRun b.ops.length (ndsOf pre)).row.map natV)])
    rfl rfl rfl (fun _ => rfl) (fun _ => rfl) (fun _ => rfl) (entB_ren [0, 2, 3, 1] (aI rfl (aI rfl (aI rfl trivial))) (aI ((Exists.intro _ (aI rfl (aI rfl (Or.inl rfl))))) (aI ((Exists.intro _ (aI rfl (aI rfl (Or.inl rfl))))) (aI ((Exists.intro _ (aI rfl (aI rfl (Or.inl rfl))))) (aI ((Exists.intro _ (aI rfl (aI rfl (aI rfl (aI rfl rfl)))))) trivial)))) rfl rfl rfl) rfl 1 (by omega) (fun pre => ⟨_, _, _, _, _, rfl, rfl⟩)
    (fun x => [(1, .p (.c (.ref 0 0))), (3, .p (.c (.ref 1 0))), (4, .p (.c (.ref 2 0))), (5, one (.int .i64 (x.1.1 : Int))), (6, .p (.c (.ref 4 0)))]) (fun _ => rfl) ?_ ?_ ?_
  · rintro W gs ext lp pre x hgs
    match gs, hgs with
    | [g0, g1, g2], _ =>
    conv => whnf
    exact ⟨rfl, ent_same rfl (aI rfl (aI rfl (aI rfl (aI rfl (aI rfl trivial))))) (aI ((aI rfl (Or.inl rfl))) (aI ((aI rfl (Or.inl rfl))) (aI ((aI rfl (Or.inl rfl))) (aI ((aI rfl (aI rfl (aI rfl rfl)))) (aI ((aI rfl (Or.inl rfl))) trivial)))))⟩
  · rintro W gs ext lp pre x hgs hpl
    match gs, hgs with
    | [g0, g1, g2], _ =>
    obtain ⟨o, ho⟩ : ∃ o, o = x.1.2 := ⟨_, rfl⟩
    obtain ⟨j, hj⟩ : ∃ j, j = x.1.1 := ⟨_, rfl⟩
    have hof : formedB o = true := by rw [ho]; exact hform _ (List.mem_of_getElem? x.2)
    have hjl : j < b.ops.length := by
      rw [hj]
      rcases Nat.lt_or_ge x.1.1 b.ops.length with h1 | h1
      · exact h1
      · have := x.2; rw [List.getElem?_eq_none h1] at this; cases this
    have hlive := liveRun_lt b.ops.length (ndsOf_formed hform pre)
    have hlen := liveRun_length b.ops.length (ndsOf pre)
    have hsnoc : liveRun b.ops.length (ndsOf (pre ++ [x])) = liveStep (liveRun b.ops.length (ndsOf pre)) (j, o) := by rw [ndsOf_snoc, liveRun_snoc, hj, ho]
    rw [hsnoc, ← ho, ← hj]
    generalize liveRun b.ops.length (ndsOf pre) = s at hlive hlen ⊢
    conv => whnf
    refine call_con rfl (by kernel_rfl) (fun r w' hR => before_opt o s.live hlive hof w') ?_
    conv => whnf
    refine ⟨⟨by omega, by omega⟩, ?_⟩
    conv => whnf
    have ht : (j : Int).toNat * tsz Try.prog 24 = j := by rw [Int.toNat_natCast]; exact Nat.mul_one j
    rw [ht]
    refine ⟨by simp [hlen]; omega, ?_⟩
    rw [setAll_ints]
    conv => whnf
    exact ⟨rfl, ent_drop trivial (aI ((aI rfl (Or.inl rfl))) (aI ((aI rfl (Or.inl rfl))) (aI ((aI rfl (Or.inl rfl))) (aI ((aI rfl (aI rfl (aI rfl rfl)))) trivial)))) rfl rfl⟩
  · intro D xs hxs
    refine atq_then ?_
    refine satq_seq ?_
    conv => whnf
    refine satq_vc ?_
    conv => whnf
    refine atq_ret_mark 4 rfl ?_
    conv => whnf
    rw [ndsOf_all hxs]
    refine fin_row (i := 3) rfl fun w' A c e1 e2 e3 e4 e5 => ?_
    rw [hF, liveL_length]
    exact ⟨A, c, rfl, e1, e2, e3, e4, e5⟩
end Go.Proofs.Ytmjfgnnefcimiaa
