/- Drawn regions over objects: what is taken first, trees of orders, and sets of what has come: each state between is known, in whatever order it was come to. Objects that a function makes and hands back. Walks: the reference's memory: check, Load. Walks: memories that are old, and only read. Walks: the reference's memory: Code. Walks: Opt. Walks: the maker of blocks: Made of layer 15. -/
import Derived.Test.YtmjfgnnefcimiaaM1
import Derived.Test.YtmjfgnnefcimiaaM13
import Derived.Test.YtmjfgnnefcimiaaM14
import Derived.Test.YtmjfgnnefcimiaaM15
import Derived.Test.YtmjfgnnefcimiaaM16
import Derived.Test.YtmjfgnnefcimiaaM17
import Derived.Test.YtmjfgnnefcimiaaM18
import Derived.Test.YtmjfgnnefcimiaaM19
import Derived.Test.YtmjfgnnefcimiaaM2
import Derived.Test.YtmjfgnnefcimiaaM20
import Derived.Test.YtmjfgnnefcimiaaM21
import Derived.Test.YtmjfgnnefcimiaaM22
import Derived.Test.YtmjfgnnefcimiaaM23
import Derived.Test.YtmjfgnnefcimiaaM24
import Derived.Test.YtmjfgnnefcimiaaM27
import Derived.Test.YtmjfgnnefcimiaaM28
import Derived.Test.YtmjfgnnefcimiaaM29
import Derived.Test.YtmjfgnnefcimiaaM3
import Derived.Test.YtmjfgnnefcimiaaM5
import Derived.Test.YtmjfgnnefcimiaaM6
import Derived.Test.YtmjfgnnefcimiaaM7
namespace Go.Proofs.Ytmjfgnnefcimiaa
open Go.RowKit
/-- Old memory that is not in G is as it was. -/
structure Held (W : World) (G : Gs) (w : World) : Prop where
  os : w.os = W.os
  tape : w.tape = W.tape
  output : w.output = W.output
  size : W.heap.size ≤ w.heap.size
  old : ∀ k, k < W.heap.size → k ∉ G → w.heap[k]? = W.heap[k]?
def Gs.flat (G : Gs) : Gs := ⟨[], G.fix ++ G.ext⟩
theorem flat_mem {G : Gs} {b : Nat} : b ∈ G.flat ↔ b ∈ G := by
  constructor
  · rintro (h | h)
    · cases h
    · exact List.mem_append.1 h
  · intro h; exact .inr (List.mem_append.2 h)
theorem Rel.held {W : World} {G : Gs} {S : List Ow} {r : Env} {w : World} (h : Rel W G S r w) : Held W G w := ⟨h.os, h.tape, h.output, h.size, h.old⟩
theorem Held.rel {W : World} {G : Gs} {w : World} (h : Held W G w) : Rel W G.flat [] Env.none w :=
  ⟨h.os, h.tape, h.output, h.size, fun k hk hn => h.old k hk (fun hm => hn (flat_mem.2 hm)), by simp, nofun, nofun, fun _ _ => rfl, fun _ _ => rfl, (by intro i g h; simp [Gs.flat] at h)⟩
/-- What a slot holds, if it names no own entry. -/
def plainAV (x : AV) : AV := match x.fx (fun _ => false) with | true => x | false => .p (.c .any)
def plainG : Fr → Fr
  | [] => []
  | (d, x) :: f => (d, plainAV x) :: plainG f
theorem plainG_den {r : Env} {f : Fr} {a : Act} (hf : FDen r f a) : FDen Env.none (plainG f) a := by
  have key : ∀ f : Fr, ∀ k u, (f.get k).den r u → ((plainG f).get k).den Env.none u := by
    intro f
    induction f with
    | nil => intro k u _; simp [plainG, Fr.get, AV.den, Pc.den, CV.den]
    | cons p f ih =>
      obtain ⟨d, x⟩ := p
      intro k u h
      unfold plainG
      cases hk : Nat.beq d k <;> simp only [Fr.get, hk] at h ⊢
      · exact ih k u h
      · unfold plainAV
        cases hx : x.fx (fun _ => false)
        · simp [AV.den, Pc.den, CV.den]
        · exact AV.den_fx (ok := fun _ => false) (fun i b hi => by cases hi) hx h
  exact fun k => key f k _ (hf k)
section
variable (P : Program) (W : World) (G : Gs) (N : Nd)
/-- What is taken first: it yields the same whatever comes before it. -/
def firstG (f : Fr) (T : List Ow) (o : Oper) (K : AV → Prop) : Prop :=
  match o.op with
  | .move x => forceAV (f.ev x) K
  | .assign x => forceAV (f.ev x) K
  | .fieldAddr s x k => (match f.ev x with
    | .p (.c (.ref i off)) => (match fldOff P s k with | some n => K (.p (.c (.ref i (off + n)))) | none => False)
    | _ => (match opTy P o.op with | true => qop P W G.flat [] (plainG f) o K | false => False))
  | .nilCheck x => (match f.ev x with
    | .p (.c (.ref i off)) => K (.p (.c (.ref i off)))
    | _ => (match opTy P o.op with | true => qop P W G.flat [] (plainG f) o K | false => False))
  | .build t parts => buildK P T f t parts K
  | _ => (match opTy P o.op with | true => qop P W G.flat [] (plainG f) o K | false => False)
def trG (ops : Array Oper) (l : List Oper) : Tr → Fr → List Ow → (Fr → List Ow → Prop) → Prop
  | .done, f, T, K => K f T
  | .no, _, _, _ => True
  | .q i t, f, T, K => (match l[i]? with
    | none => False
    | some o => (match dstOk N.n o.dst with
      | false => False
      | true => (match guardOf ops f o with
        | some true => firstG P W G f T o fun v => f.putK o.dst v fun f' => trG ops l t f' T K
        | some false => f.putK o.dst (.p (.c .any)) fun f' => trG ops l t f' T K
        | none => False)))
  | .alt i t more, f, T, K => (match l[i]? with
    | none => False
    | some o => (match guardOf ops f o with
        | some true => opK P W G N o f T fun f' T' => trG ops l t f' T' K
        | _ => False)) ∧ trG ops l more f T K
end
section
variable {P : Program} {W : World} {G : Gs} {N : Nd} {ops : Array Oper} {l : List Oper}
theorem firstG_sound {f : Fr} {T : List Ow} {o : Oper} {K : AV → Prop} (h : firstG P W G f T o K) {r : Env} {w : World} (hR : Rel W G T r w) {a : Act} (hf : FDen r f a) :
    ∃ v u, K v ∧ v.den r u ∧ ∀ w', Held W G w' → (execOp a.eval o).run P w' = .ok (.value u) w' := by
  have plain : (match opTy P o.op with | true => qop P W G.flat [] (plainG f) o K | false => False) → ∃ v u, K v ∧ v.den r u ∧ ∀ w', Held W G w' → (execOp a.eval o).run P w' = .ok (.value u) w' := fun h => by
    split at h
    · rename_i hty
      obtain ⟨v, u, hK, hden, hrun⟩ := qop_held h hty rfl (D := Held W G) (fun w hw => hw.rel) hR.held (plainG_den hf)
      exact ⟨v, u, hK, AV.den_mono ⟨(fun i b h => by cases h), (fun i b h => by cases h)⟩ _ _ hden, hrun⟩
    · exact h.elim
  unfold firstG at h
  split at h
  · rename_i x hop
    exact ⟨_, _, forceAV_iff.1 h, hf.ev x, fun w' _ => by simp [execOp, hop]⟩
  · rename_i x hop
    exact ⟨_, _, forceAV_iff.1 h, hf.ev x, fun w' _ => by simp [execOp, hop]⟩
  · rename_i s x k hop
    split at h
    · rename_i i off he
      split at h
      · rename_i n hn
        have hx := hf.ev x
        rw [he] at hx
        obtain ⟨b, hb, hu⟩ := den_ref hx
        exact ⟨_, _, h, den_mk_ref hb, fun w' _ => by simp [execOp, hop, hu, run_fieldAt hn]⟩
      · exact h.elim
    · exact plain h
  · rename_i x hop
    split at h
    · rename_i i off he
      have hx := hf.ev x
      rw [he] at hx
      obtain ⟨b, hb, hu⟩ := den_ref hx
      exact ⟨_, _, h, den_mk_ref hb, fun w' _ => by simp [execOp, hop, hu]⟩
    · exact plain h
  · rename_i t parts hop
    obtain ⟨v, u, hK, hd, hrun⟩ := buildK_sound hR hf h
    exact ⟨v, u, hK, hd, fun w' _ => by simp [execOp, hop, hrun w']⟩
  · exact plain h
theorem trG_sound (hl : ∀ i : Nat, l[i]? = ops[i]?) (hns : Region.noSelect ops = true) {K : Fr → List Ow → Prop} {Q : Exit → Act → World → Prop} (hQ0 : ∀ c a w, ¬ Q (.panic c) a w) (hQ : ∀ f T a w, K f T → Good W G N f T a w → Q .normal a w) :
    ∀ (t : Tr) (inner : Bool) (listed : Array Bool) (f : Fr) (T : List Ow) (n : Nat), t.ok ops inner listed = true → t.depth ≤ n → trG P W G N ops l t f T K → ∀ a w, Good W G N f T a w →
      (inner = false → wpAnyH P .any ops Q (Held W G) n listed a w) ∧
      (∀ m, n = m + 1 → ∀ i ∈ t.alts, wpOp P ops Q i (fun a' w' => Held W G w' ∧ wpAnyH P .any ops Q (Held W G) m (listed.setIfInBounds i true) a' w') a w)
  | .done, inner, listed, f, T, n, hB, _, h, a, w, hg => by
    refine ⟨fun _ => wpAnyH_done (by simp [Tr.ok] at hB; exact hB.2) (hQ f T a w h hg) _, fun m _ i hi => by cases hi⟩
  | .no, inner, listed, f, T, n, hB, _, h, a, w, hg => by
    refine ⟨fun he => ?_, fun m _ i hi => by cases hi⟩
    simp [Tr.ok] at hB; rw [hB] at he; cases he
  | .q i t, inner, listed, f, T, n, hB, hn, h, a, w, hg => by
    refine ⟨fun _ => ?_, fun m _ i hi => by cases hi⟩
    simp only [Tr.ok, Bool.and_eq_true] at hB
    obtain ⟨⟨⟨_, hB1⟩, hB2⟩, hB3⟩ := hB
    simp only [Tr.depth] at hn
    obtain ⟨n, rfl⟩ : ∃ k, n = k + 1 := ⟨n - 1, by omega⟩
    unfold trG at h
    split at h
    · exact h.elim
    · rename_i o ho
      rw [hl] at ho
      split at h
      · exact h.elim
      · rename_i hdst
        obtain ⟨r, hR, hf, hN, hd⟩ := hg
        split at h
        · rename_i hgd
          have hw := guard_wanted hf hgd
          obtain ⟨v, u, hK, hden, hrun⟩ := firstG_sound h hR hf
          have hK := putK_iff.1 hK
          refine wpAnyH_take (v := u) ho hns hB1 hB2 (fun c a w h => absurd h (hQ0 c _ w)) (.inl ⟨hw, hrun⟩) hR.held ?_
          exact (trG_sound hl hns hQ0 hQ t false _ _ T n hB3 (by omega) hK _ w ⟨r, hR, hf.put hden (by rw [hN]; exact hdst), (put_size a _ _).trans hN, (put_defers a _ _).trans hd⟩).1 rfl
        · rename_i hgd
          have hw := guard_wanted hf hgd
          have hK := putK_iff.1 h
          refine wpAnyH_take (v := undef) ho hns hB1 hB2 (fun c a w h => absurd h (hQ0 c _ w)) (.inr ⟨hw, rfl⟩) hR.held ?_
          exact (trG_sound hl hns hQ0 hQ t false _ _ T n hB3 (by omega) hK _ w ⟨r, hR, hf.putAny _ (by rw [hN]; exact hdst), (put_size a _ _).trans hN, (put_defers a _ _).trans hd⟩).1 rfl
        · exact h.elim
  | .alt i t more, inner, listed, f, T, n, hB, hn, h, a, w, hg => by
    simp only [Tr.ok, Bool.and_eq_true] at hB
    obtain ⟨⟨hB1, hB2⟩, hB3⟩ := hB
    simp only [Tr.depth] at hn
    unfold trG at h
    obtain ⟨h1, h2⟩ := h
    have all : ∀ m, n = m + 1 → ∀ j ∈ (Tr.alt i t more).alts, wpOp P ops Q j (fun a' w' => Held W G w' ∧ wpAnyH P .any ops Q (Held W G) m (listed.setIfInBounds j true) a' w') a w := by
      intro m hm j hj
      simp only [Tr.alts, List.mem_cons] at hj
      rcases hj with rfl | hj
      · split at h1
        · exact h1.elim
        · rename_i o ho
          rw [hl] at ho
          obtain ⟨r, hR, hf, hN, hd⟩ := hg
          split at h1
          · rename_i hgd
            have hw := guard_wanted hf hgd
            unfold wpOp
            simp only [ho, hw, if_true]
            refine .inl (se_wp ((opK_sound h1).out r a w hR hf hN hd (fun a' w' => Held W G w' ∧ wpAnyH P .any ops Q (Held W G) m (listed.setIfInBounds j true) a' w') Q fun f' T' a' w' hk hg' => ?_) fun _ _ h => h)
            refine ⟨?_, (trG_sound hl hns hQ0 hQ t false _ f' T' m hB2 (by omega) hk a' w' hg').1 rfl⟩
            obtain ⟨r', hR', _⟩ := hg'
            exact hR'.held
          · exact h1.elim
      · exact (trG_sound hl hns hQ0 hQ more true listed f T n hB3 (by omega) h2 a w hg).2 m hm j hj
    refine ⟨fun he => ?_, all⟩
    obtain ⟨m, rfl⟩ : ∃ k, n = k + 1 := ⟨n - 1, by omega⟩
    have hr : Region.ready .any ops listed = (Tr.alt i t more).alts := by
      rw [he] at hB1
      simpa [Tr.alts] using hB1
    exact wpAnyH_all hr (by simp [Tr.alts]) (all m rfl)
/-- A drawn region, by the tree of its orders. -/
theorem sat_anyG {id : Nat} {l : List Oper} {f : Fr} {S : List Ow} {K : Exit → Fr → List Ow → Prop} (t : Tr) (hm : P.follows .mixedOrders = true) (hns : Region.noSelect l.toArray = true) (hB : (t.ok l.toArray false (Array.replicate l.toArray.size false) && Nat.ble t.depth l.length) = true)
    (h : trG P W G N l.toArray l t f S (K .normal)) : Sat none P W G N (.region id l.toArray true) f S K := by
  refine ⟨fun n a w ⟨r, hR, hf, hN, hd⟩ => wpIn_wide.2 ?_⟩
  simp only [Bool.and_eq_true] at hB
  refine Code.wp_mono (Q := fun e a w => match e with | .normal => PostK W G N K .normal a w | _ => False) (fun e a w h => by cases e <;> first | exact h | exact h.elim) (wp_region_held (S := Held W G) hm ?_)
  have := (trG_sound (P := P) (W := W) (N := N) (Q := fun e a w => match e with | .normal => PostK W G N K .normal a w | _ => False) (fun i => by simp) hns (fun c a w h => h) (fun f T a w hk hg => ⟨f, T, hk, hg⟩) t false _ f S l.length hB.1 (Nat.le_of_ble_eq_true hB.2) h a w.drew ⟨r, hR.drew, hf, hN, hd⟩).1 rfl
  simpa using this
end
/-- What may come up in a state: all have come; number i is taken first; one of these, each with the state that it leads to. -/
inductive Nx (α : Type) where
  | done
  | q (i : Nat) (y : α)
  | alts (l : List (Nat × α))
/-- The states as they should be: what has come, what may come up. -/
structure DagOk {α : Type} (ops : Array Oper) (listed : α → Array Bool) (nx : α → Nx α) (left : α → Nat) (x : α) : Prop where
  done : nx x = .done → Region.ready .any ops (listed x) = []
  q : ∀ i y, nx x = .q i y → Region.free .any ops (listed x) i = true ∧ (Region.ready .any ops (listed x)).contains i = true ∧ listed y = (listed x).setIfInBounds i true ∧ left y < left x
  alts : ∀ l, nx x = .alts l → Region.ready .any ops (listed x) = l.map Prod.fst ∧ l ≠ [] ∧ ∀ p ∈ l, listed p.2 = (listed x).setIfInBounds p.1 true ∧ left p.2 < left x
section
variable (P : Program) (W : World) (G : Gs) (N : Nd) {α : Type}
end
section
variable {P : Program} {W : World} {G : Gs} {N : Nd} {ops : Array Oper} {l : List Oper} {α : Type}
end
/-- The memory seen anew: the own entries are what may be turned from here on. -/
theorem rel_anew {w0 : World} {G : Gs} {S : List Ow} {r : Env} {w : World} (h : Rel w0 G S r w) (hc : cellsS S = true) : ∃ gs : List Nat, gs.length = S.length ∧ (∀ i, r.blk i = gs[i]?) ∧ Rel w ⟨gs, []⟩ S r w := by
  have hblk : ∀ i, i < S.length → ∃ b, r.blk i = some b := fun i hi => by
    have ho := h.own i _ (List.getElem?_eq_getElem hi)
    have hm : (match S[i] with | .cells _ _ => true | _ => false) = true := by
      unfold cellsS at hc
      exact List.all_eq_true.1 hc _ (List.getElem_mem hi)
    cases hs : S[i] with
    | cells t l => rw [hs] at ho; obtain ⟨b, us, e, _⟩ := ho; exact ⟨b, e⟩
    | row => rw [hs] at hm; cases hm
    | ext => rw [hs] at hm; cases hm
    | view => rw [hs] at hm; cases hm
    | gone => rw [hs] at hm; cases hm
  have hgs : ∀ i, r.blk i = ((List.range S.length).map fun i => (r.blk i).getD 0)[i]? := fun i => by
    rcases Nat.lt_or_ge i S.length with h1 | h1
    · obtain ⟨b, hb⟩ := hblk i h1
      rw [List.getElem?_map, List.getElem?_range h1, hb]; simp [hb]
    · rw [h.outB i h1, List.getElem?_eq_none (by simpa using h1)]
  refine ⟨(List.range S.length).map fun i => (r.blk i).getD 0, by simp, hgs, rel_base h (fun i g hg => by rw [hgs i]; exact hg) fun i b hb => .inl ?_⟩
  rw [hgs i] at hb
  exact List.mem_of_getElem? hb
/-- Some own entries (by number) are kept as what may be turned; the others are plain memory from here on. -/
theorem satq_anew {P : Program} {w0 : World} {G : Gs} {N : Nd} {d : Code} {f : Fr} {S : List Ow} {Q : Exit → Act → World → Prop} (S2 : List Ow) (ks : List Nat) (hS : RLe S (fun i => ks.getD i 0) S2 ks) (hb : sbnd S2.length S2 = true) (hi : injB S ks = true) (hG : idB G.fix.length ks 0 = true) (hGl : Nat.ble G.fix.length S2.length = true) (hc : cellsS S2 = true)
    (h : ∀ r w (gs : List Nat), Rel w0 G S r w → gs.length = S2.length → (∀ i, i < S2.length → r.blk (ks.getD i 0) = gs[i]?) → (∀ e f S, AtQ w0 G N e f S Q → AtQ w ⟨gs, []⟩ N e f S Q) → ∃ f2, (∀ a r2, (∀ i, r2.blk i = gs[i]?) → FDen r f a → FDen r2 f2 a) ∧ SatQ P w ⟨gs, []⟩ N d f2 S2 Q) : SatQ P w0 G N d f S Q :=
  ⟨fun a w ⟨r, hR, hf, hN, hd⟩ => by
    have h1 := rel_ren hR ks hS hb hi hG hGl
    obtain ⟨gs, hl, hgs, hR2⟩ := rel_anew h1 hc
    have hback : ∀ e f S, AtQ w0 G N e f S Q → AtQ w ⟨gs, []⟩ N e f S Q := fun e f' S' hq => ⟨fun a' w' ⟨r', hR', hf', hN', hd'⟩ =>
      hq.out a' w' ⟨r', rel_back h1 hR' (fun b hb => by
        rcases hb with hb | hb
        · obtain ⟨i, hi⟩ := List.getElem?_of_mem hb
          exact ⟨i, by rw [hgs i]; exact hi⟩
        · cases hb) (fun i g hg => by rw [← hgs i]; exact h1.first i g hg), hf', hN', hd'⟩⟩
    obtain ⟨f2, hf2, hsat⟩ := h r w gs hR hl (fun i hi => by rw [← hgs i, comp_blk hi]) hback
    exact hsat.out a w ⟨_, hR2, hf2 a _ hgs hf, hN, hd⟩⟩
theorem unflat {w : World} {G : Gs} {b off : Nat} {xs : List Value} (h : CellsAt w G.flat b off xs) : CellsAt w G b off xs := ⟨h.1, fun hm => h.2.1 (flat_mem.2 hm), h.2.2⟩
/-- An own entry that is not kept, seen as plain memory. -/
theorem anew_cells {w0 w : World} {G : Gs} {S S2 : List Ow} {r : Env} {gs ks : List Nat} (hR : Rel w0 G S r w) (hl : gs.length = S2.length) (hgs : ∀ i, i < S2.length → r.blk (ks.getD i 0) = gs[i]?) (hk : ks.length = S2.length) (j : Nat) {t : TypeId} {us : List Value} (hj : S[j]? = some (.cells t (us.map .v))) (hn : memB j ks = false) :
    ∃ b, r.blk j = some b ∧ ∀ (off : Nat) (xs : List Value), (∀ (k : Nat) (u : Value), xs[k]? = some u → us[off + k]? = some u) → CellsAt w (Gs.flat ⟨gs, []⟩) b off xs := by
  obtain ⟨b, vs, e1, e2, e3⟩ := hR.own j _ hj
  obtain rfl := denL_vals_inv e3
  refine ⟨b, e1, fun off xs hx => ⟨(hR.new j b e1).1, fun hm => ?_, fun k u hu => by simp [World.cell?, e2, hx k u hu]⟩⟩
  rcases hm with hm | hm
  · cases hm
  · have hm : b ∈ gs := by simpa [Gs.flat] using hm
    obtain ⟨i, hi⟩ := List.getElem?_of_mem hm
    have hil : i < S2.length := by
      rw [← hl]
      rcases Nat.lt_or_ge i gs.length with h1 | h1
      · exact h1
      · rw [List.getElem?_eq_none h1] at hi; cases hi
    have := hgs i hil
    rw [hi] at this
    have hji := hR.inj _ _ b this e1
    have hmem : j ∈ ks := by
      rw [← hji, List.getD_eq_getElem?_getD, List.getElem?_eq_getElem (by omega)]
      exact List.getElem_mem _
    rw [memB_of hmem] at hn
    cases hn
theorem slot_plain {r r2 : Env} {f : Fr} {a : Act} (hf : FDen r f a) (d : Nat) {i off b : Nat} (h : f.get d = .p (.c (.ref i off))) (hb : r.blk i = some b) : AV.den r2 (one (.pointer (some ⟨b, off, none⟩))) (a.tmps.getD d undef) := by
  have := hf d
  rw [h] at this
  obtain ⟨b', hb', hu⟩ := den_ref this
  rw [hb] at hb'; injection hb' with hb'; subst hb'
  rw [hu]; exact den_one _ _
theorem slot_moved {r r2 : Env} {f : Fr} {a : Act} (hf : FDen r f a) (d : Nat) {i j off : Nat} (h : f.get d = .p (.c (.ref i off))) (hb : ∀ b, r.blk i = some b → r2.blk j = some b) : AV.den r2 (.p (.c (.ref j off))) (a.tmps.getD d undef) := by
  have := hf d
  rw [h] at this
  obtain ⟨b', hb', hu⟩ := den_ref this
  rw [hu]; exact den_mk_ref (hb b' hb')
theorem slot_same {r r2 : Env} {f : Fr} {a : Act} (hf : FDen r f a) (d : Nat) {x : Value} (h : (f.get d).val = some x) : AV.den r2 (AV.of x) (a.tmps.getD d undef) := by
  rw [AV.val_den h (hf d)]; exact AV.of_den r2 x
/-- A frame, slot by slot. -/
def FrDen (r : Env) (a : Act) : Fr → Prop
  | [] => True
  | (d, x) :: f => x.den r (a.tmps.getD d undef) ∧ FrDen r a f
theorem frDen {r : Env} {a : Act} : ∀ {f : Fr}, FrDen r a f → FDen r f a
  | [], _ => fun k => by simp [Fr.get, AV.den, Pc.den, CV.den]
  | (d, x) :: f, h => fun k => by
    simp only [Fr.get]
    split
    · rename_i hk; have := Nat.eq_of_beq_eq_true hk; subst this; exact h.1
    · exact frDen h.2 k
end Go.Proofs.Ytmjfgnnefcimiaa
namespace Go.Proofs.Ytmjfgnnefcimiaa
open Go.RowKit

theorem renL_vals (σ : Nat → Nat) : ∀ us : List Value, renL σ (us.map CV.v) = us.map CV.v
  | [] => rfl
  | u :: us => by simp only [List.map_cons, renL, CV.ren, renL_vals σ us]
/-- Objects in new memory. -/
structure NewObjs (w w' : World) (gs : List Nat) (U : List Ow) : Prop where
  at_ : ObjsAt w' gs U
  fresh : ∀ g ∈ gs, w.heap.size ≤ g
  below : Below w.heap.size w w'
def envNew (r : Env) (n : Nat) (gs : List Nat) : Env := ⟨fun i => if i < n then r.blk i else gs[i - n]?, r.val⟩
theorem Rel.newObjs {w0 : World} {G : Gs} {S U V : List Ow} {r : Env} {w w' : World} {gs : List Nat} (hR : Rel w0 G S r w) (h : NewObjs w w' gs U) (hsh : ShAll S.length U V) (hob : ObAll U.length U) : Rel w0 G (S ++ V) (envNew r S.length gs) w' ∧ r.le (envNew r S.length gs) := by
  have hVl := hsh.length
  have hUl := h.at_.len
  have hfrom : ∀ i b, i < U.length → (envOf gs).blk i = some b → (envNew r S.length gs).blk (S.length + i) = some b := fun i b _ hb => by
    show (if S.length + i < S.length then _ else gs[S.length + i - S.length]?) = some b
    rw [if_neg (by omega), show S.length + i - S.length = i by omega]; exact hb
  refine hR.snocs h.below V (envNew r S.length gs) (fun i hi => ⟨if_pos hi, rfl⟩) (fun i x hi hx => ?_) (fun i j x hi hj hx hy => ?_) (fun i hi => ?_) (fun j o hj => ?_)
  · have hx : (if i < S.length then r.blk i else gs[i - S.length]?) = some x := hx
    rw [if_neg (by omega)] at hx
    have hm := List.mem_of_getElem? hx
    exact ⟨h.fresh x hm, h.at_.lt x hm⟩
  · have hx : (if i < S.length then r.blk i else gs[i - S.length]?) = some x := hx
    have hy : (if j < S.length then r.blk j else gs[j - S.length]?) = some x := hy
    rw [if_neg (by omega)] at hx hy
    have := h.at_.nodup _ _ x hx hy
    omega
  · have hlt : ¬ i < S.length := by omega
    refine ⟨?_, hR.outV i (by omega)⟩
    show (if i < S.length then r.blk i else gs[i - S.length]?) = none
    rw [if_neg hlt, List.getElem?_eq_none (by omega)]
  · obtain ⟨o', h1, h2⟩ := hsh.get' j hj
    have h3 := h.at_.own j o' h1
    have h4 := hob o' (List.mem_of_getElem? h1)
    have hjl : j < U.length := by
      rcases Nat.lt_or_ge j U.length with h5 | h5
      · exact h5
      · rw [List.getElem?_eq_none h5] at h1; cases h1
    cases o' with
    | cells t l =>
      cases o with
      | cells t' l' =>
        obtain ⟨rfl, rfl⟩ := h2
        obtain ⟨b, us, e1, e2, e3⟩ := h3
        exact ⟨b, us, hfrom j b hjl e1, e2, sh_denL (n := U.length) hfrom h4 e3⟩
      | row => exact h2.elim
      | ext => exact h2.elim
      | view => exact h2.elim
      | gone => exact h2.elim
    | row => exact h4.elim
    | ext => exact h4.elim
    | view => exact h4.elim
    | gone => exact h4.elim
/-- A call that hands back the address of the first of objects in new memory. -/
theorem call_newObjs {P : Program} {w0 : World} {G : Gs} {fid : FuncId} {args : List AV} {xs : List Value} {S : List Ow} {K : AV → List Ow → Prop} (U V : List Ow) (hx : avals args = some xs) (hok : fnOk P fid = true) (hsh : ShAll S.length U V) (hob : ObAll U.length U)
    (h : ∀ r w, Rel w0 G S r w → Calls P fid xs.toArray w fun e w' => ∃ g gs, e = .returned (.pointer (some ⟨g, 0, none⟩)) ∧ NewObjs w w' (g :: gs) U) (hK : K (.p (.c (.ref S.length 0))) (S ++ V)) : CallS P w0 G fid args S K := by
  refine ⟨hok, fun r w us hR hd => ?_⟩
  obtain rfl := avals_den hx hd
  refine (h r w hR).mono fun e w' ⟨g, gs, he, hn⟩ => ?_
  obtain ⟨h1, h2⟩ := hR.newObjs hn hsh hob
  refine ⟨_, _, _, _, he, den_mk_ref ?_, h1, h2, hK⟩
  show (if S.length < S.length then r.blk S.length else (g :: gs)[S.length - S.length]?) = some g
  rw [if_neg (by omega), Nat.sub_self]; rfl
/-- The end of a function that hands back the address of the first of objects that it has made. -/
theorem fin_newObjs {w0 : World} {S : List Ow} {R : Ending → World → Prop} (k : Nat) (U V : List Ow) (hpos : 0 < U.length) (hS : ∀ i, i < U.length → S[k + i]? = V[i]?) (hsh : ShAll k U V) (hob : ObAll U.length U)
    (h : ∀ w g gs, NewObjs w0 w (g :: gs) U → R (.returned (.pointer (some ⟨g, 0, none⟩))) w) : Fin w0 Gs.nil S (.p (.c (.ref k 0))) R := by
  refine ⟨fun r w u hR hd => ?_⟩
  obtain ⟨g, hg, rfl⟩ := den_ref hd
  have hnew : ∀ i b, r.blk i = some b → w0.heap.size ≤ b := fun i b hb => by
    rcases Nat.lt_or_ge b w0.heap.size with h1 | h1
    · exact absurd ((hR.new i b hb).2 h1) (by simp)
    · exact h1
  have hown : ∀ i, i < U.length → ∃ b t l, U[i]? = some (.cells t l) ∧ r.blk (k + i) = some b ∧ ∃ us : List Value, w.heap[b]? = some (.cells us.toArray t (0, 0)) ∧ denL r (l.map (CV.sh k)) us := fun i hi => by
    have hu := List.getElem?_eq_getElem hi
    obtain ⟨o', h1, h2⟩ := hsh.get i hu
    have h3 := hR.own (k + i) o' (by rw [hS i hi, h1])
    have h4 := hob _ (List.getElem_mem hi)
    cases ho : U[i] with
    | cells t l =>
      rw [ho] at h2 hu
      cases o' with
      | cells t' l' =>
        obtain ⟨rfl, rfl⟩ := h2
        obtain ⟨b, us, e1, e2, e3⟩ := h3
        exact ⟨b, t, l, hu, e1, us, e2, e3⟩
      | row => exact h2.elim
      | ext => exact h2.elim
      | view => exact h2.elim
      | gone => exact h2.elim
    | row => rw [ho] at h4; exact h4.elim
    | ext => rw [ho] at h4; exact h4.elim
    | view => rw [ho] at h4; exact h4.elim
    | gone => rw [ho] at h4; exact h4.elim
  obtain ⟨gs, hgl, hgs⟩ : ∃ gs : List Nat, gs.length = U.length ∧ ∀ i, i < U.length → gs[i]? = r.blk (k + i) := by
    refine ⟨(List.range U.length).map fun i => (r.blk (k + i)).getD 0, by simp, fun i hi => ?_⟩
    obtain ⟨b, _, _, _, hb, _⟩ := hown i hi
    rw [List.getElem?_map, List.getElem?_range hi, hb]
    simp [hb]
  have hto : ∀ i b, i < U.length → r.blk (k + i) = some b → (envOf gs).blk i = some b := fun i b hi hb => by
    show gs[i]? = some b
    rw [hgs i hi]; exact hb
  have hin : ∀ (i b : Nat), gs[i]? = some b → i < U.length ∧ r.blk (k + i) = some b := fun i b hb => by
    have hi : i < U.length := by
      rcases Nat.lt_or_ge i U.length with h1 | h1
      · exact h1
      · rw [List.getElem?_eq_none (by omega)] at hb; cases hb
    exact ⟨hi, by rw [← hgs i hi]; exact hb⟩
  have hmem : ∀ b, b ∈ gs → ∃ i, i < U.length ∧ r.blk (k + i) = some b := fun b hb => by
    obtain ⟨i, hi⟩ := List.getElem?_of_mem hb
    exact ⟨i, hin i b hi⟩
  have hU : NewObjs w0 w gs U := by
    refine ⟨⟨hgl.symm, fun i j b hi hj => ?_, fun b hb => ?_, fun i o ho => ?_⟩, fun b hb => ?_, hR.toBelow⟩
    · have := hR.inj _ _ b (hin i b hi).2 (hin j b hj).2
      omega
    · obtain ⟨i, _, hi⟩ := hmem b hb
      exact (hR.new _ b hi).1
    · have hi : i < U.length := by
        rcases Nat.lt_or_ge i U.length with h1 | h1
        · exact h1
        · rw [List.getElem?_eq_none h1] at ho; cases ho
      obtain ⟨b, t, l, e1, e2, us, e3, e4⟩ := hown i hi
      rw [ho] at e1; injection e1 with e1; subst e1
      exact ⟨b, us, hto i b hi e2, e3, denL_sh (n := U.length) hto (hob _ (List.mem_of_getElem? ho)) e4⟩
    · obtain ⟨i, _, hi⟩ := hmem b hb
      exact hnew _ b hi
  cases gs with
  | nil => simp at hgl; omega
  | cons g' gs =>
    have := hto 0 g hpos (by simpa using hg)
    have : g' = g := by injection this
    subst this
    exact h w g' gs hU
/-- Objects among the own entries. -/
theorem Rel.objsAt {w0 : World} {G : Gs} {S : List Ow} {r : Env} {w : World} (hR : Rel w0 G S r w) (k : Nat) (U V : List Ow) (hpos : 0 < U.length) (hS : ∀ i, i < U.length → S[k + i]? = V[i]?) (hsh : ShAll k U V) (hob : ObAll U.length U) : ∃ g gs, r.blk k = some g ∧ ObjsAt w (g :: gs) U := by
  have hown : ∀ i, i < U.length → ∃ b t l, U[i]? = some (.cells t l) ∧ r.blk (k + i) = some b ∧ ∃ us : List Value, w.heap[b]? = some (.cells us.toArray t (0, 0)) ∧ denL r (l.map (CV.sh k)) us := fun i hi => by
    have hu := List.getElem?_eq_getElem hi
    obtain ⟨o', h1, h2⟩ := hsh.get i hu
    have h3 := hR.own (k + i) o' (by rw [hS i hi, h1])
    have h4 := hob _ (List.getElem_mem hi)
    cases ho : U[i] with
    | cells t l =>
      rw [ho] at h2 hu
      cases o' with
      | cells t' l' =>
        obtain ⟨rfl, rfl⟩ := h2
        obtain ⟨b, us, e1, e2, e3⟩ := h3
        exact ⟨b, t, l, hu, e1, us, e2, e3⟩
      | row => exact h2.elim
      | ext => exact h2.elim
      | view => exact h2.elim
      | gone => exact h2.elim
    | row => rw [ho] at h4; exact h4.elim
    | ext => rw [ho] at h4; exact h4.elim
    | view => rw [ho] at h4; exact h4.elim
    | gone => rw [ho] at h4; exact h4.elim
  obtain ⟨gs, hgl, hgs⟩ : ∃ gs : List Nat, gs.length = U.length ∧ ∀ i, i < U.length → gs[i]? = r.blk (k + i) := by
    refine ⟨(List.range U.length).map fun i => (r.blk (k + i)).getD 0, by simp, fun i hi => ?_⟩
    obtain ⟨b, _, _, _, hb, _⟩ := hown i hi
    rw [List.getElem?_map, List.getElem?_range hi, hb]
    simp [hb]
  have hto : ∀ i b, i < U.length → r.blk (k + i) = some b → (envOf gs).blk i = some b := fun i b hi hb => by
    show gs[i]? = some b
    rw [hgs i hi]; exact hb
  have hin : ∀ (i b : Nat), gs[i]? = some b → i < U.length ∧ r.blk (k + i) = some b := fun i b hb => by
    have hi : i < U.length := by
      rcases Nat.lt_or_ge i U.length with h1 | h1
      · exact h1
      · rw [List.getElem?_eq_none (by omega)] at hb; cases hb
    exact ⟨hi, by rw [← hgs i hi]; exact hb⟩
  have hU : ObjsAt w gs U := by
    refine ⟨hgl.symm, fun i j b hi hj => ?_, fun b hb => ?_, fun i o ho => ?_⟩
    · have := hR.inj _ _ b (hin i b hi).2 (hin j b hj).2
      omega
    · obtain ⟨i, hi⟩ := List.getElem?_of_mem hb
      exact (hR.new _ b (hin i b hi).2).1
    · have hi : i < U.length := by
        rcases Nat.lt_or_ge i U.length with h1 | h1
        · exact h1
        · rw [List.getElem?_eq_none h1] at ho; cases ho
      obtain ⟨b, t, l, e1, e2, us, e3, e4⟩ := hown i hi
      rw [ho] at e1; injection e1 with e1; subst e1
      exact ⟨b, us, hto i b hi e2, e3, denL_sh (n := U.length) hto (hob _ (List.mem_of_getElem? ho)) e4⟩
  cases gs with
  | nil => simp at hgl; omega
  | cons g gs =>
    refine ⟨g, gs, ?_, hU⟩
    have := hgs 0 hpos
    rw [Nat.add_zero] at this
    rw [← this]; rfl
theorem ObjsAt.later {w w' : World} {gs : List Nat} {U : List Ow} (hob : ObAll U.length U) (h : ObjsAt w gs U) (hs : w.heap.size ≤ w'.heap.size) (hk : ∀ g ∈ gs, w'.heap[g]? = w.heap[g]?) : ObjsAt w' gs U :=
  ⟨h.len, h.nodup, fun g hg => Nat.lt_of_lt_of_le (h.lt g hg) hs, fun i o ho => by
    have h1 := h.own i o ho
    have h2 := hob o (List.mem_of_getElem? ho)
    cases o with
    | cells t l =>
      obtain ⟨b, us, e1, e2, e3⟩ := h1
      exact ⟨b, us, e1, by rw [hk b (List.mem_of_getElem? (show gs[i]? = some b from e1))]; exact e2, e3⟩
    | row => exact h2.elim
    | ext => exact h2.elim
    | view => exact h2.elim
    | gone => exact h2.elim⟩
theorem ObjsAt.below {w w' : World} {gs : List Nat} {U : List Ow} (hob : ObAll U.length U) (h : ObjsAt w gs U) (hB : Below w.heap.size w w') : ObjsAt w' gs U :=
  h.later hob hB.size fun g hg => hB.block g (h.lt g hg)
end Go.Proofs.Ytmjfgnnefcimiaa
namespace Go.Proofs.Ytmjfgnnefcimiaa
open Go.RowKit

/-- A memory in own entries k and behind, and more. -/
abbrev memL (k n p : Nat) (M : MemP) (T : List Ow) : List Ow :=
  .cells 95 [.sl (k + 1) 0 n n, .sl (k + 2) 0 n n, .sl (k + 3) 0 n n, .sl (k + 4) 0 n n, .sl (k + 5) 0 p p, .v (.bool false)] ::
   .cells 5 (M.dV.map .v) :: .cells 5 (M.iV.map .v) :: .cells 5 (M.odV.map .v) :: .cells 5 (M.oiV.map .v) :: .cells 3 (M.rV.map .v) :: T
theorem memL_sub {n p : Nat} {M : MemP} {T : List Ow} : ∀ (i : Nat) (o : Ow), (memS 0 n p M)[i]? = some o → (memL 0 n p M T)[i]? = some o := sub_append (T := T)
theorem memL_six {n p : Nat} {M : MemP} {T : List Ow} : ∀ (i : Nat), i < 6 → (memL 0 n p M T)[0 + i]? = (memS 0 n p M)[i]? := fun i hi => by
  rw [Nat.zero_add]
  exact List.getElem?_append_left (l₁ := memS 0 n p M) (l₂ := T) hi
theorem grp_memT (g g1 g2 g3 g4 g5 n p : Nat) (M : MemP) (T : List Ow) (hT : sbnd (6 + T.length) T = true) : grpOk ⟨[g, g1, g2, g3, g4, g5], []⟩ (memL 0 n p M T) = true := by
  have hl : (memL 0 n p M T).length = 6 + T.length := by simp; omega
  have hb : ∀ i, i < 6 → Nat.blt i (6 + T.length) = true := fun i hi => by rw [Nat.blt_eq]; omega
  unfold grpOk
  rw [hl, show Nat.ble (Gs.mk [g, g1, g2, g3, g4, g5] []).fix.length (6 + T.length) = true from Nat.ble_eq_true_of_le (by show 6 ≤ _; omega)]
  show sbnd (6 + T.length) (memL 0 n p M T) = true
  simp only [sbnd, Ow.bnd, bndL_vals, bndL, CV.bnd, Nat.zero_add, hb 1 (by omega), hb 2 (by omega), hb 3 (by omega), hb 4 (by omega), hb 5 (by omega)]
  exact hT
def valV (v at_ : Int) (ok : Bool) : Value := .agg #[.int .u32 v, .int .u32 at_, .bool ok]
/-- The first of k addresses from a + i on that lacks a right. -/
def MemP.bad (M : MemP) (a r : Int) : Nat → Nat → Option Int
  | _, 0 => none
  | i, k + 1 => if M.right ((a + i) % 4294967296) r = true then M.bad a r (i + 1) k else some ((a + i) % 4294967296)
def checkV (x : Option Int) : Value := match x with | none => valV 0 0 true | some y => valV 0 y false
theorem bad_step (M : MemP) (a r : Int) {i m : Nat} (h : i < m) : M.bad a r i (m - i) = if M.right ((a + i) % 4294967296) r = true then M.bad a r (i + 1) (m - (i + 1)) else some ((a + i) % 4294967296) := by
  obtain ⟨k, hk⟩ : ∃ k, m - i = k + 1 := ⟨m - i - 1, by omega⟩
  rw [hk, show m - (i + 1) = k by omega]; rfl
set_option maxRecDepth 100000 in
theorem mem_check (M : MemP) (n p : Nat) (a r : Int) (m : Nat) (w : World) (g : Nat) (gs : List Nat) (hU : ObjsAt w (g :: gs) (memS 0 n p M)) (hM : M.ok n p) (_ha : word a) (hr : r = 1 ∨ r = 2 ∨ r = 4) (hm : 1 ≤ m ∧ m ≤ 4) :
    Calls Try.prog 97 #[.pointer (some ⟨g, 0, none⟩), .int .u32 a, .int .i64 (m : Int), .int .i64 r] w fun e w' => e = .returned (checkV (M.bad a r 0 m)) ∧ ObjsAt w' (g :: gs) (memS 0 n p M) ∧ GrownBys w w' (g :: gs) := by
  obtain ⟨g0, g1, g2, g3, g4, g5, hg⟩ := six_blocks hU
  injection hg with hg0 hgs
  subst hgs; subst hg0
  refine calls_objs [.p (.c (.ref 0 0)), one (.int .u32 a), one (.int .i64 (m : Int)), one (.int .i64 r)] [.pointer (some ⟨g, 0, none⟩), .int .u32 a, .int .i64 (m : Int), .int .i64 r] Try.func97 Try.ntmps97 rfl (by simp) hU ⟨_, _, rfl, den_mk_ref rfl, avdenL_of [.int .u32 a, .int .i64 (m : Int), .int .i64 r]⟩ ?_
  conv => whnf
  refine ⟨decide ((m : Int) > 4), fun _ => ?_, ?_⟩
  · conv => whnf
    exact ⟨rfl, rfl, rfl, rfl, grp_memT g g1 g2 g3 g4 g5 n p M [.cells 119 [.v (.int .u32 0), .v (.int .u32 0), .v (.bool false)]] rfl⟩
  conv => whnf
  refine ⟨fun hc => absurd hc (by simp [cmb]; omega), fun _ => ?_⟩
  conv => whnf
  refine ⟨{ i : Nat // i ≤ m ∧ M.bad a r 0 m = M.bad a r i (m - i) }, fun x => [(0, .p (.c (.ref 0 0))), (1, one (.int .u32 a)), (2, one (.int .i64 (m : Int))), (3, one (.int .i64 r)), (8, .p (.c (.ref 6 0))), (9, one (.int .i64 (x.1 : Int)))], fun x => memL 0 n p M [.cells 119 [.v (.int .u32 0), .v (.int .u32 0), .v (.bool false)]], fun x => m - x.1,
    ⟨⟨0, by omega, rfl⟩, ent_same rfl (aI rfl (aI rfl (aI rfl (aI rfl (aI rfl (aI rfl trivial)))))) (aI ((aI rfl (Or.inl rfl))) (aI ((aI rfl (Or.inl rfl))) (aI ((aI rfl (Or.inl rfl))) (aI ((aI rfl (Or.inl rfl))) (aI ((aI rfl (Or.inl rfl))) (aI ((aI rfl (Or.inl rfl))) (aI ((aI rfl (Or.inl rfl))) trivial)))))))⟩, fun x => ?_⟩
  obtain ⟨i, hi, hbad⟩ := x
  dsimp only
  conv => whnf
  refine ⟨fun hc => ?_, fun hc => ?_⟩
  · have hlt : i < m := by simpa using hc
    rw [bad_step M a r hlt] at hbad
    conv => whnf
    refine ⟨(i : Int), by rw [wr32]; omega, ?_⟩
    conv => whnf
    refine ⟨(a + i) % 4294967296, wr32 _, ?_⟩
    conv => whnf
    refine call_memR (pre := []) (suf := [one (.int .u32 ((a + i) % 4294967296)), one (.int .i64 r)]) 0 n p M (.bool (M.right ((a + i) % 4294967296) r)) memL_six rfl rfl (by kernel_rfl) (fun w' g gs hk hU => mem_right M n p _ r w' g gs hU hM (by unfold word; omega) hr) ?_
    conv => whnf
    refine ⟨fun hb => ?_, fun hb => ?_⟩
    · have hb' : M.right ((a + i) % 4294967296) r = false := by simpa using hb
      rw [hb', if_neg (by decide)] at hbad
      conv => whnf
      refine ⟨(i : Int), by rw [wr32]; omega, ?_⟩
      conv => whnf
      refine ⟨(a + i) % 4294967296, wr32 _, ?_⟩
      conv => whnf
      refine ⟨_, _, ent_refl, ?_⟩
      conv => whnf
      exact fin_objs rfl rfl memL_sub (memS_ob n p M) fun w' h1 h2 => ⟨by rw [hbad]; rfl, h1, h2⟩
    · have hb' : M.right ((a + i) % 4294967296) r = true := by simpa using hb
      rw [if_pos hb'] at hbad
      conv => whnf
      refine ⟨_, wr64 (by omega), ?_⟩
      conv => whnf
      exact ⟨⟨i + 1, by omega, hbad⟩, ent_same rfl (aI rfl (aI rfl (aI rfl (aI rfl (aI rfl (aI rfl trivial)))))) (aI ((aI rfl (Or.inl rfl))) (aI ((aI rfl (Or.inl rfl))) (aI ((aI rfl (Or.inl rfl))) (aI ((aI rfl (Or.inl rfl))) (aI ((aI rfl (Or.inl rfl))) (aI ((aI rfl (Or.inl rfl))) (aI ((aI rfl (Or.inl rfl))) trivial))))))), by show m - (i + 1) < m - i; omega⟩
  · have hie : i = m := by simp at hc; omega
    subst hie
    rw [Nat.sub_self] at hbad
    conv => whnf
    refine ⟨_, _, ent_refl, ?_⟩
    conv => whnf
    exact fin_objs rfl rfl memL_sub (memS_ob n p M) fun w' h1 h2 => ⟨by rw [hbad]; rfl, h1, h2⟩
end Go.Proofs.Ytmjfgnnefcimiaa
namespace Go.Proofs.Ytmjfgnnefcimiaa
open Go.RowKit

theorem objs_later {w w' : World} {gs : List Nat} {U : List Ow} {n : Nat} (hob : ObAll n U) (h : ObjsAt w gs U) (hB : Below w.heap.size w w') : ObjsAt w' gs U := by
  refine ⟨h.len, h.nodup, fun g hg => Nat.lt_of_lt_of_le (h.lt g hg) hB.size, fun i o ho => ?_⟩
  have k := h.own i o ho
  have hb := hob o (List.mem_of_getElem? ho)
  cases o with
  | cells t l =>
    obtain ⟨b, us, e1, e2, e3⟩ := k
    exact ⟨b, us, e1, by rw [hB.block b (h.lt b (List.mem_of_getElem? (show gs[i]? = some b from e1)))]; exact e2, e3⟩
  | row => exact hb.elim
  | ext => exact hb.elim
  | view => exact hb.elim
  | gone => exact hb.elim
section
variable {w0 : World} {S : List Ow} {K : AV → List Ow → Prop} {fid : FuncId} {args : List AV} {P : Program}
/-- A call that reads an old memory. -/
theorem call_memP {us : List Value} {g n p : Nat} {gs : List Nat} {M : MemP} {X : Value} (hx : avals args = some us) (hok : fnOk P fid = true) (hU : ObjsAt w0 (g :: gs) (memS 0 n p M))
    (h : ∀ w, ObjsAt w (g :: gs) (memS 0 n p M) → Calls P fid us.toArray w fun e w' => e = .returned X ∧ ObjsAt w' (g :: gs) (memS 0 n p M) ∧ GrownBys w w' (g :: gs)) (hK : K (AV.of X) S) : CallS P w0 Gs.nil fid args S K := by
  refine call_con hx hok (fun r w hR => ?_) hK
  have hU' := objs_later (memS_ob n p M) hU hR.toBelow
  exact (h w hU').mono fun e w' ⟨h1, h2, h3⟩ => ⟨h1, objs_below (memS_ob n p M) hU' h2 h3⟩
end
end Go.Proofs.Ytmjfgnnefcimiaa
namespace Go.Proofs.Ytmjfgnnefcimiaa
open Go.RowKit

def MemP.code (M : MemP) (x : Int) : Int := (M.image[x.toNat]?).getD 0
set_option maxRecDepth 100000 in
theorem mem_code (M : MemP) (n p : Nat) (a : Int) (w : World) (g : Nat) (gs : List Nat) (hU : ObjsAt w (g :: gs) (memS 0 n p M)) (hM : M.ok n p) (ha : word a) (hlt : a < (n : Int)) :
    Calls Try.prog 67 #[.pointer (some ⟨g, 0, none⟩), .int .u32 a] w fun e w' => e = .returned (.int .u8 (M.code a)) ∧ ObjsAt w' (g :: gs) (memS 0 n p M) ∧ GrownBys w w' (g :: gs) := by
  obtain ⟨g0, g1, g2, g3, g4, g5, hg⟩ := six_blocks hU
  injection hg with hg0 hgs
  subst hgs; subst hg0
  have hw : 0 ≤ a ∧ a < 4294967296 := ha
  obtain ⟨y, hy⟩ : ∃ y, M.image[a.toNat]? = some y := ⟨_, List.getElem?_eq_getElem (by rw [hM.li]; omega)⟩
  have hget : (List.map CV.v M.iV)[a.toNat]? = some (.v (byteV (M.code a))) := by
    unfold MemP.iV MemP.code; rw [List.getElem?_map, List.getElem?_map, hy]; rfl
  refine calls_objs [.p (.c (.ref 0 0)), one (.int .u32 a)] [.pointer (some ⟨g, 0, none⟩), .int .u32 a] Try.func67 Try.ntmps67 rfl (by simp) hU ⟨_, _, rfl, den_mk_ref rfl, avdenL_of [.int .u32 a]⟩ ?_
  conv => whnf
  refine call_memR (pre := []) (suf := [one (.int .u32 a)]) 0 n p M (.bool (decide (a < (n : Int)))) (fun i hi => by rw [Nat.zero_add]) rfl rfl (by kernel_rfl) (fun w' g gs hk hU => mem_in M n p a w' g gs hU hM ha) ?_
  conv => whnf
  refine ⟨fun hc => absurd hc (by simp; omega), fun _ => ?_⟩
  conv => whnf
  refine ⟨fun hc => absurd hc (by decide), fun _ => ?_⟩
  conv => whnf
  refine ⟨⟨by omega, by omega⟩, ?_⟩
  conv => whnf
  rw [show (List.map CV.v M.iV)[0 + a.toNat * tsz Try.prog 5]? = some (.v (byteV (M.code a))) by show (List.map CV.v M.iV)[0 + a.toNat * 1]? = _; rw [Nat.zero_add, Nat.mul_one]; exact hget]
  conv => whnf
  exact fin_objs rfl rfl (fun i o h => h) (memS_ob n p M) fun w' h1 h2 => ⟨rfl, h1, h2⟩
end Go.Proofs.Ytmjfgnnefcimiaa
namespace Go.Proofs.Ytmjfgnnefcimiaa
open Go.RowKit

theorem call_repeat {mu : Blk → Nat} (hmu : ∀ b, b.ok → (onceP b).ops ≠ b.ops → mu (onceP b) < mu b) {w0 : World} {S : List Ow} {K : AV → List Ow → Prop} (i : Nat) (b : Blk) {φ : Option Addr → Prop} {A1 A2 A3 : Option Addr} {c1 c2 c3 : Nat} {t : TypeId} (hi : S[i]? = some (.cells t [.clo (.func 17) [], .clo (.func 18) [], .clo (.func 19) []])) (hb : b.ok)
    (h1 : SlAt w0 w0.heap.size A1 (b.at_.map (.int .u32))) (h2 : SlAt w0 w0.heap.size A2 (b.pages.map (.int .i64))) (h3 : OpsAt w0 w0.heap.size A3 b.ops) (hc3 : b.ops.length ≤ c3) (hm3 : c3 ≤ maxLen) (hv : validB b = true) (hφ : ∀ A, Fresh w0.heap.size A ∨ A = A3 → φ A)
    (hK : K (.p (.agg [.v (.slice A1 b.at_.length c1), .v (.slice A2 b.pages.length c2), .row S.length])) (S ++ [.view φ (optN (mu b) b).ops.length ((optN (mu b) b).ops.flatMap opC)])) :
    CallS Try.prog w0 Gs.nil 51 [.p (.agg [.v (.slice A1 b.at_.length c1), .v (.slice A2 b.pages.length c2), .v (.slice A3 b.ops.length c3)]), .p (.c (.sl i 0 3 3))] S K := by
  refine ⟨by kernel_rfl, fun r w us hR hd => ?_⟩
  obtain ⟨u1, l1, rfl, d1, u2, l2, rfl, d2, d3⟩ := hd
  obtain rfl : l2 = [] := d3
  obtain rfl := AV.val_den (x := .agg #[.slice A1 b.at_.length c1, .slice A2 b.pages.length c2, .slice A3 b.ops.length c3]) rfl d1
  simp only [AV.den, Pc.den, CV.den] at d2
  obtain ⟨bp, hbp, rfl⟩ := d2
  obtain ⟨bp', us, e1, e2, e3⟩ := hR.own i _ hi
  rw [hbp] at e1; injection e1 with e1; subst e1
  have hus : us = passV := by
    simp only [denL, CV.den] at e3
    obtain ⟨x1, y1, rfl, ⟨z1, rfl, rfl⟩, x2, y2, rfl, ⟨z2, rfl, rfl⟩, x3, y3, rfl, ⟨z3, rfl, rfl⟩, rfl⟩ := e3
    rfl
  subst hus
  have hpv : SlAt w w.heap.size (some ⟨bp, 0, none⟩) passV := fun j u hj => ⟨bp, 0, rfl, (hR.new i bp hbp).1, by simp [World.cell?, e2, hj]⟩
  refine (repeat_walk mu hmu b A1 A2 A3 c1 c2 c3 bp w hb (sl_later h1 hR.toBelow) (sl_later h2 hR.toBelow) (sl_later h3 hR.toBelow) hc3 hm3 hpv).mono fun e w' ⟨A', c', he, ho, k1, k2, k3, hB⟩ => ?_
  refine ⟨.p (.agg [.v (.slice A1 b.at_.length c1), .v (.slice A2 b.pages.length c2), .row S.length]), _, _, r.set S.length none (some (.slice A' (optN (mu b) b).ops.length c')), he, ⟨[.slice A1 b.at_.length c1, .slice A2 b.pages.length c2, .slice A' (optN (mu b) b).ops.length c'], rfl, ?_⟩,
    hR.snoc (o := .view φ (optN (mu b) b).ops.length ((optN (mu b) b).ops.flatMap opC)) hB (b := none) nofun ⟨A', c', by simp [Env.set], k1, ⟨k2, hφ _ ?_⟩, by simp [Env.set], fun j u hj => ?_⟩, hR.le_new _ _, hK⟩
  · simp only [denL, CV.den]
    exact ⟨_, _, rfl, rfl, _, _, rfl, rfl, _, _, rfl, by simp [Env.set], rfl⟩
  · rcases k3 with k3 | k3
    · exact .inl fun b off sp hA => Nat.le_trans hR.size (k3 b off sp hA)
    · exact .inr k3
  · obtain ⟨b', off, e4, e5, e6⟩ := ho j u hj
    refine ⟨b', off, e4, e5, fun q hq => ?_, e6⟩
    simp only [Env.set] at hq
    split at hq
    · cases hq
    · rcases k3 with k3 | rfl
      · have := k3 b' off none e4
        have := (hR.new q b' hq).1
        omega
      · have h5 := ops_lt (e4 ▸ h3) (valid_pos hv).1
        exact absurd ((hR.new q b' hq).2 h5) (by simp)
def optAll (mu : Blk → Nat) (b : Blk) : List BOp := if validB b then (optN (mu b) b).ops else b.ops
set_option maxRecDepth 100000 in
theorem opt_pass {mu : Blk → Nat} (hmu : ∀ b, b.ok → (onceP b).ops ≠ b.ops → mu (onceP b) < mu b) : Pass Try.prog 20 (optAll mu) := by
  intro b A1 A2 A3 c1 c2 c3 w hb h1 h2 h3 hc3 hm3
  refine calls_val [.agg #[.slice A1 b.at_.length c1, .slice A2 b.pages.length c2, .slice A3 b.ops.length c3]] Try.func20 Try.ntmps20 rfl (by simp) ?_
  conv => whnf
  refine call_con rfl (by kernel_rfl) (fun r w' hR => valid_ir A1 A2 A3 c1 c2 c3 b w' hb (sl_later h2 hR.toBelow) (sl_later h3 hR.toBelow)) ?_
  conv => whnf
  refine ⟨fun hn => ?_, fun hn => ?_⟩
  · have hv : validB b = false := by simpa using hn
    have hF : optAll mu b = b.ops := by unfold optAll; rw [hv]; rfl
    conv => whnf
    refine fin_val rfl fun w' hB => ⟨A3, c3, by rw [hF], by rw [hF]; exact sl_later h3 hB, by rw [hF]; exact hc3, hm3, .inr rfl, hB⟩
  have hv : validB b = true := by simpa using hn
  have hF : optAll mu b = (optN (mu b) b).ops := by unfold optAll; rw [hv]; rfl
  conv => whnf
  refine call_repeat hmu (φ := fun A => Fresh w.heap.size A ∨ A = A3) 2 b rfl hb h1 h2 h3 hc3 hm3 hv (fun A h => h) ?_
  conv => whnf
  refine fin_view (i := 3) (l := (optN (mu b) b).ops) rfl rfl rfl fun w' A c e1 e2 e3 e4 e5 => ?_
  rw [hF]
  exact ⟨A, c, rfl, e1, e2, e3, e4, e5⟩
end Go.Proofs.Ytmjfgnnefcimiaa
namespace Go.Proofs.Ytmjfgnnefcimiaa
open Go.RowKit

theorem cut_ops {l : List BOp} {i k n : Nat} {o : BOp} (h : l[i]? = some o) (hk : k = i * 5) (hn : n = 5) : cut (List.map CV.v (List.flatMap opC l)) k n = some ((opC o).map .v) := by
  subst hk; subst hn
  have hlt : i < l.length := by
    rcases Nat.lt_or_ge i l.length with h1 | h1
    · exact h1
    · rw [List.getElem?_eq_none h1] at h; cases h
  unfold cut
  have : Nat.ble (i * 5 + 5) (List.map CV.v (List.flatMap opC l)).length = true := Nat.ble_eq_true_of_le (by rw [List.length_map, ops_length]; omega)
  rw [this]
  show some (((List.flatMap opC l).map CV.v).drop (i * 5) |>.take 5) = _
  rw [← List.map_drop, ← List.map_take, ops_cut h]
theorem ops_setAt {l : List BOp} {i k : Nat} (o : BOp) (hk : k = i * 5) (h : i < l.length) : setAll (l.flatMap opC) k (opC o) = (l.set i o).flatMap opC := by subst hk; exact ops_set o h
/-- The replacing under way. -/
structure ReplSt (a g : List Int) (n : Nat) where
  i : Nat
  l : List BOp
  hl : l.length = n
  hi : i ≤ n
  ok : MadeOk ⟨a, g, l⟩
set_option maxRecDepth 100000 in
theorem made15_walk (A : Option Addr) (m c : Nat) (xs : List Int) (w : World) (hs : SlAt w w.heap.size A (xs.map (.int .i64))) (hl : xs.length = m) (hm : m ≤ 1000000) :
    Calls Try.prog 35 #[.slice A m c] w fun e w' => ∃ b v1 v2 v3, MadeOk b ∧ e = .returned (.agg #[v1, v2, v3]) ∧ Rows3 w.heap.size w' v1 v2 v3 b ∧ Below w.heap.size w w' := by
  refine calls_satq [.slice A m c] Try.func35 Try.ntmps35 rfl (by simp) ?_
  refine satq_seq ?_
  conv => whnf
  refine satq_seq ?_
  conv => whnf
  refine call_blk MadeOk (by kernel_rfl) (fun r w' us hR hd => ?_) fun b hb => ?_
  · obtain rfl := avals_den (xs := [.slice A m c]) rfl hd
    exact made12_walk A m c xs w' (sl_later hs hR.toBelow) hl hm
  conv => whnf
  refine satq_in ?_
  refine satq_seq ?_
  conv => whnf
  refine satq_block ?_
  refine satq_loop (α := ReplSt b.at_ b.pages b.ops.length) (fun x => [(0, one (.slice A m c)), (2, .p (.c (.ref 0 0))), (3, .p (.c (.ref 4 0))), (4, one (.int .i64 (x.i : Int)))])
    (fun x => [.cells 32 [.v (.slice none 0 0), .v (.slice none 0 0), .v (.slice none 0 0)], .row 24 1 b.at_.length (b.at_.map (.int .u32)), .row 3 1 b.pages.length (b.pages.map (.int .i64)), .row 53 5 b.ops.length (x.l.flatMap opC), .cells 32 [.row 1, .row 2, .row 3]])
    (fun x => b.ops.length - x.i) ⟨0, b.ops, rfl, by omega, hb⟩ (ent_same rfl (aI rfl (aI rfl (aI rfl (aI rfl trivial)))) (aI ((aI rfl (Or.inl rfl))) (aI ((aI rfl (aI rfl (aI rfl rfl)))) (aI ((aI rfl (aI rfl (aI rfl rfl)))) (aI ((aI rfl (aI rfl (aI rfl rfl)))) (aI ((aI rfl (Or.inl rfl))) trivial)))))) fun x => ?_
  obtain ⟨i, l, hll, hi, ok⟩ := x
  dsimp only
  refine satq_seq ?_
  conv => whnf
  refine ⟨fun hc => ?_, fun hc => ?_⟩
  · have hlt : i < b.ops.length := by simpa using hc
    obtain ⟨o, ho⟩ : ∃ o, l[i]? = some o := ⟨_, List.getElem?_eq_getElem (by omega)⟩
    conv => whnf
    refine satq_mid (α := { y : ReplSt b.at_ b.pages b.ops.length // y.i = i }) (fun y => [(0, one (.slice A m c)), (2, .p (.c (.ref 0 0))), (3, .p (.c (.ref 4 0))), (4, one (.int .i64 (i : Int)))])
      (fun y => [.cells 32 [.v (.slice none 0 0), .v (.slice none 0 0), .v (.slice none 0 0)], .row 24 1 b.at_.length (b.at_.map (.int .u32)), .row 3 1 b.pages.length (b.pages.map (.int .i64)), .row 53 5 b.ops.length (y.1.l.flatMap opC), .cells 32 [.row 1, .row 2, .row 3]]) ?_ fun y => ?_
    · refine satq_block ?_
      refine satq_seq ?_
      conv => whnf
      refine satq_mid (α := Int) (fun y => [(0, one (.slice A m c)), (2, .p (.c (.ref 0 0))), (3, .p (.c (.ref 4 0))), (4, one (.int .i64 (i : Int))), (5, one (.int .i64 y))])
        (fun y => [.cells 32 [.v (.slice none 0 0), .v (.slice none 0 0), .v (.slice none 0 0)], .row 24 1 b.at_.length (b.at_.map (.int .u32)), .row 3 1 b.pages.length (b.pages.map (.int .i64)), .row 53 5 b.ops.length (l.flatMap opC), .cells 32 [.row 1, .row 2, .row 3]]) ?_ fun n => ?_
      · refine satq_vc ?_
        conv => whnf
        refine ⟨fun ht => ?_, fun _ => ?_⟩
        · have hlt2 : (i : Int) < (m : Int) := by simpa using ht
          obtain ⟨x, hx⟩ : ∃ x, xs[m - 1 - i]? = some x := ⟨_, List.getElem?_eq_getElem (by omega)⟩
          obtain ⟨bb, off, rfl, e2, e3⟩ := hs (m - 1 - i) (.int .i64 x) (by rw [List.getElem?_map, hx]; rfl)
          conv => whnf
          refine ⟨_, wr64 (by omega), ?_⟩
          conv => whnf
          refine ⟨_, wr64 (by omega), ?_⟩
          conv => whnf
          refine ⟨⟨by omega, by omega⟩, ?_⟩
          conv => whnf
          refine ⟨.int .i64 x, cells_one e2 (by simp) (by rw [show off + ((m : Int) - 1 - (i : Int)).toNat * tsz Try.prog 3 = off + (m - 1 - i) from congrArg (off + ·) ((Nat.mul_one _).trans (by omega))]; exact e3), ?_⟩
          conv => whnf
          refine ⟨_, rfl, ?_⟩
          conv => whnf
          exact atq_mid _ (ent_same rfl (aI rfl (aI rfl (aI rfl (aI rfl (aI rfl trivial))))) (aI ((aI rfl (Or.inl rfl))) (aI ((aI rfl (aI rfl (aI rfl rfl)))) (aI ((aI rfl (aI rfl (aI rfl rfl)))) (aI ((aI rfl (aI rfl (aI rfl rfl)))) (aI ((aI rfl (Or.inl rfl))) trivial))))))
        · conv => whnf
          exact atq_mid 0 (ent_same rfl (aI rfl (aI rfl (aI rfl (aI rfl (aI rfl trivial))))) (aI ((aI rfl (Or.inl rfl))) (aI ((aI rfl (aI rfl (aI rfl rfl)))) (aI ((aI rfl (aI rfl (aI rfl rfl)))) (aI ((aI rfl (aI rfl (aI rfl rfl)))) (aI ((aI rfl (Or.inl rfl))) trivial))))))
      refine satq_seq ?_
      conv => whnf
      refine ⟨⟨by omega, by omega⟩, ?_⟩
      conv => whnf
      rw [cut_ops ho]
      rotate_left
      · show (i : Int).toNat * 5 = i * 5; rw [Int.toNat_natCast]
      · rfl
      conv => whnf
      have hof : formedB o = true := valid_formed ok.valid o (List.mem_of_getElem? ho)
      refine satq_seq ?_
      conv => whnf
      refine call_con rfl (by kernel_rfl) (fun r w' hR => pure_ref o w') ?_
      conv => whnf
      refine satq_seq ?_
      conv => whnf
      refine ⟨fun _ => ?_, fun hp => ?_⟩
      · conv => whnf
        refine atq_exit ?_
        exact atq_mid ⟨⟨i, l, hll, hi, ok⟩, rfl⟩ (ent_drop (aI rfl (aI rfl (aI rfl (aI rfl trivial)))) (aI ((aI rfl (Or.inl rfl))) (aI ((aI rfl (aI rfl (aI rfl rfl)))) (aI ((aI rfl (aI rfl (aI rfl rfl)))) (aI ((aI rfl (aI rfl (aI rfl rfl)))) (aI ((aI rfl (Or.inl rfl))) trivial))))) rfl rfl)
      have hp : pureB o = true := by simpa using hp
      conv => whnf
      refine satq_seq ?_
      conv => whnf
      refine ⟨by omega, _, rfl, ?_⟩
      conv => whnf
      refine satq_block ?_
      refine satq_seq ?_
      conv => whnf
      refine satq_cond rfl (fun _ => ?_) (fun _ => ?_)
      · refine satq_vc ?_
        conv => whnf
        refine ⟨by omega, _, rfl, ?_⟩
        conv => whnf
        refine ⟨by omega, _, rfl, ?_⟩
        conv => whnf
        refine ⟨_, wr32 _, ?_⟩
        conv => whnf
        refine ⟨⟨by omega, by omega⟩, ?_⟩
        conv => whnf
        refine ⟨?_, ?_⟩
        · show (i : Int).toNat * 5 + 5 ≤ (l.flatMap opC).length
          rw [ops_length]; omega
        conv => whnf
        refine atq_block (atq_block ?_)
        exact atq_mid ⟨⟨i, l.set i ⟨1, o.d, 0, 0, ((IntKind.i64.wrap (n.tdiv 5)).tmod 3) % 4294967296⟩, by simpa using hll, hi, made_repl ok ho hp (repl_const hof hp _) ⟨mid_small (by dsimp only; omega), (ok.ok.ops o (List.mem_of_getElem? ho)).d, mid0, mid0, word_mod _⟩⟩, rfl⟩ (ent_drop (aI rfl (aI rfl (aI rfl (aI rfl trivial)))) (aI ((aI rfl (Or.inl rfl))) (aI ((aI rfl (aI rfl (aI rfl rfl)))) (aI ((aI rfl (aI rfl (aI rfl rfl)))) (aI ((aI rfl (aI rfl (aI rfl (by exact ops_setAt (l := l) (⟨1, o.d, 0, 0, (IntKind.i64.wrap (n.tdiv 5)).tmod 3 % 4294967296⟩ : BOp) (congrArg (· * 5) (Int.toNat_natCast i)) (by omega)))))) (aI ((aI rfl (Or.inl rfl))) trivial))))) rfl rfl)
      refine satq_seq ?_
      conv => whnf
      refine satq_cond rfl (fun _ => ?_) (fun _ => ?_)
      · refine satq_seq ?_
        conv => whnf
        refine call_row rfl (by kernel_rfl) (fun r w' hR => reads_ref o w') ?_
        conv => whnf
        refine satq_vc ?_
        conv => whnf
        refine ⟨fun hn => ?_, fun _ => ?_⟩
        · have hn : 0 < (reads o).length := by simpa using hn
          obtain ⟨v, rl, hrd⟩ : ∃ v rl, reads o = v :: rl := by
            cases hr : reads o with
            | nil => rw [hr] at hn; simp at hn
            | cons v rl => exact ⟨v, rl, rfl⟩
          rw [hrd]
          conv => whnf
          refine sat_tail 10 mixed (by kernel_rfl) ?_
          conv => whnf
          refine ⟨⟨by omega, by simp⟩, ?_⟩
          conv => whnf
          refine ⟨⟨by omega, by omega⟩, ?_⟩
          conv => whnf
          refine ⟨?_, ?_⟩
          · show (i : Int).toNat * 5 + 5 ≤ (l.flatMap opC).length
            rw [ops_length]; omega
          conv => whnf
          refine atq_block (atq_block ?_)
          exact atq_mid ⟨⟨i, l.set i ⟨2, o.d, v, 0, 0⟩, by simpa using hll, hi, made_repl ok ho hp (repl_move hof hp (by rw [hrd]; simp)) ⟨mid_small (by dsimp only; omega), (ok.ok.ops o (List.mem_of_getElem? ho)).d, field_mid (reads_field hof (by rw [hrd]; simp)), mid0, word0⟩⟩, rfl⟩ (ent_drop (aI rfl (aI rfl (aI rfl (aI rfl trivial)))) (aI ((aI rfl (Or.inl rfl))) (aI ((aI rfl (aI rfl (aI rfl rfl)))) (aI ((aI rfl (aI rfl (aI rfl rfl)))) (aI ((aI rfl (aI rfl (aI rfl (by exact ops_setAt (l := l) (⟨2, o.d, v, 0, 0⟩ : BOp) (congrArg (· * 5) (Int.toNat_natCast i)) (by omega)))))) (aI ((aI rfl (Or.inl rfl))) trivial))))) rfl rfl)
        · conv => whnf
          refine atq_block (atq_block ?_)
          exact atq_mid ⟨⟨i, l, hll, hi, ok⟩, rfl⟩ (ent_drop (aI rfl (aI rfl (aI rfl (aI rfl trivial)))) (aI ((aI rfl (Or.inl rfl))) (aI ((aI rfl (aI rfl (aI rfl rfl)))) (aI ((aI rfl (aI rfl (aI rfl rfl)))) (aI ((aI rfl (aI rfl (aI rfl rfl)))) (aI ((aI rfl (Or.inl rfl))) trivial))))) rfl rfl)
      · refine satq_skip ?_
        refine atq_block (atq_block ?_)
        exact atq_mid ⟨⟨i, l, hll, hi, ok⟩, rfl⟩ (ent_drop (aI rfl (aI rfl (aI rfl (aI rfl trivial)))) (aI ((aI rfl (Or.inl rfl))) (aI ((aI rfl (aI rfl (aI rfl rfl)))) (aI ((aI rfl (aI rfl (aI rfl rfl)))) (aI ((aI rfl (aI rfl (aI rfl rfl)))) (aI ((aI rfl (Or.inl rfl))) trivial))))) rfl rfl)
    obtain ⟨y, hy⟩ := y
    dsimp only
    refine satq_vc ?_
    conv => whnf
    have hbl := hb.len
    refine ⟨_, wr64 (by omega), ?_⟩
    conv => whnf
    exact atq_next ⟨i + 1, y.l, y.hl, by omega, y.ok⟩ (ent_same rfl (aI rfl (aI rfl (aI rfl (aI rfl trivial)))) (aI ((aI rfl (Or.inl rfl))) (aI ((aI rfl (aI rfl (aI rfl rfl)))) (aI ((aI rfl (aI rfl (aI rfl rfl)))) (aI ((aI rfl (aI rfl (aI rfl rfl)))) (aI ((aI rfl (Or.inl rfl))) trivial)))))) (by show b.ops.length - (i + 1) < b.ops.length - i; omega)
  · have hli : i = b.ops.length := by simp at hc; omega
    conv => whnf
    refine atq_out (atq_exit (atq_on ?_))
    refine satq_vc ?_
    conv => whnf
    refine atq_ret ?_
    conv => whnf
    refine fin_rows3 1 2 3 ⟨b.at_, b.pages, l⟩ (by omega) (by omega) (by omega) (.inl ⟨rfl, rfl⟩) (.inl ⟨rfl, rfl⟩) (.inl ⟨rfl, by rw [hll]; rfl⟩) fun w' v1 v2 v3 h3 hB => ⟨_, v1, v2, v3, ok, rfl, h3, hB⟩
end Go.Proofs.Ytmjfgnnefcimiaa
