/- Drawn regions over objects: what is taken first, trees of orders, and sets of what has come: each state between is known, in whatever order it was come to. Walks: memories that are old, and only read. Walks: the reference's memory: Code. Walks: a new memory. Walks: the variables and the memory of an evaluation that are described. Walks: two memories with the same content are the same. Walks: the formats of Q's instructions in the reference. Walks: the reference's validity of an instruction of Q. Walks: the reference's memory: Sync, Pages, RightsOf, Page, Fetch. The reference's machine: its objects; New. Walks: the reference's memory: Load. A drawn region of four loads, four calls in a row, four boxes in any order between them, and the four stores: by what has come. Walks: the reference's validity of an instruction of Q; its word. A call after which one own entry is another one: what named it is forgotten. A call after which the walk starts anew, with whatever own entries are chosen. Walks: the reference's memory: Store. Walks: the reference's memory: SetCode, Sync, Fetch, Pages, RightsOf, Page. -/
import Derived.Lib.SlicesCompact
import Derived.Shelf.Sort.Plain
import Derived.Shelf.Slices.CompactI
import Derived.Shelf.Slices.In.SortNone
import Derived.Sort.OwnSortedInts
import Derived.Lib.OwnBridge
import Derived.Test.YtnhdcclpjildjaaGreatL1
import Derived.Test.YtnhdcclpjildjaaGreatL10
import Derived.Test.YtnhdcclpjildjaaGreatL11
import Derived.Test.YtnhdcclpjildjaaGreatL3
import Derived.Test.YtnhdcclpjildjaaGreatL4
import Derived.Test.YtnhdcclpjildjaaGreatL5
import Derived.Test.YtnhdcclpjildjaaGreatL6
import Derived.Test.YtnhdcclpjildjaaGreatL7
import Derived.Test.YtnhdcclpjildjaaGreatL8
import Derived.Test.YtnhdcclpjildjaaGreatL9
namespace Go.Proofs.YtnhdcclpjildjaaGreat
open Go.RowKit
/-- Old memory that is not in G is as it was. -/
structure Held (W : World) (G : Gs) (w : World) : Prop where
  os : w.os = W.os
  tape : w.tape = W.tape
  output : w.output = W.output
  size : W.heap.size ≤ w.heap.size
  old : ∀ k, k < W.heap.size → k ∉ G → w.heap[k]? = W.heap[k]?
def Gs.flat (G : Gs) : Gs := ⟨[], G.fix ++ G.ext⟩
theorem flat_mem {G : Gs} {b : Nat} : b ∈ G.flat ↔ b ∈ G := by
  constructor
  · rintro (h | h)
    · cases h
    · exact List.mem_append.1 h
  · intro h; exact .inr (List.mem_append.2 h)
theorem Rel.held {W : World} {G : Gs} {S : List Ow} {r : Env} {w : World} (h : Rel W G S r w) : Held W G w := ⟨h.os, h.tape, h.output, h.size, h.old⟩
theorem Held.rel {W : World} {G : Gs} {w : World} (h : Held W G w) : Rel W G.flat [] Env.none w :=
  ⟨h.os, h.tape, h.output, h.size, fun k hk hn => h.old k hk (fun hm => hn (flat_mem.2 hm)), by simp, nofun, nofun, fun _ _ => rfl, fun _ _ => rfl, (by intro i g h; simp [Gs.flat] at h)⟩
/-- What a slot holds, if it names no own entry. -/
def plainAV (x : AV) : AV := match x.fx (fun _ => false) with | true => x | false => .p (.c .any)
def plainG : Fr → Fr
  | [] => []
  | (d, x) :: f => (d, plainAV x) :: plainG f
theorem plainG_den {r : Env} {f : Fr} {a : Act} (hf : FDen r f a) : FDen Env.none (plainG f) a := by
  have key : ∀ f : Fr, ∀ k u, (f.get k).den r u → ((plainG f).get k).den Env.none u := by
    intro f
    induction f with
    | nil => intro k u _; simp [plainG, Fr.get, AV.den, Pc.den, CV.den]
    | cons p f ih =>
      obtain ⟨d, x⟩ := p
      intro k u h
      unfold plainG
      cases hk : Nat.beq d k <;> simp only [Fr.get, hk] at h ⊢
      · exact ih k u h
      · unfold plainAV
        cases hx : x.fx (fun _ => false)
        · simp [AV.den, Pc.den, CV.den]
        · exact AV.den_fx (ok := fun _ => false) (fun i b hi => by cases hi) hx h
  exact fun k => key f k _ (hf k)
section
variable (P : Program) (W : World) (G : Gs) (N : Nd)
/-- What is taken first: it yields the same whatever comes before it. -/
def firstG (f : Fr) (T : List Ow) (o : Oper) (K : AV → Prop) : Prop :=
  match o.op with
  | .move x => forceAV (f.ev x) K
  | .assign x => forceAV (f.ev x) K
  | .fieldAddr s x k => (match f.ev x with
    | .p (.c (.ref i off)) => (match fldOff P s k with | some n => K (.p (.c (.ref i (off + n)))) | none => False)
    | _ => (match opTy P o.op with | true => qop P W G.flat [] (plainG f) o K | false => False))
  | .nilCheck x => (match f.ev x with
    | .p (.c (.ref i off)) => K (.p (.c (.ref i off)))
    | _ => (match opTy P o.op with | true => qop P W G.flat [] (plainG f) o K | false => False))
  | .build t parts => buildK P T f t parts K
  | _ => (match opTy P o.op with | true => qop P W G.flat [] (plainG f) o K | false => False)
def trG (ops : Array Oper) (l : List Oper) : Tr → Fr → List Ow → (Fr → List Ow → Prop) → Prop
  | .done, f, T, K => K f T
  | .no, _, _, _ => True
  | .q i t, f, T, K => (match l[i]? with
    | none => False
    | some o => (match dstOk N.n o.dst with
      | false => False
      | true => (match guardOf ops f o with
        | some true => firstG P W G f T o fun v => f.putK o.dst v fun f' => trG ops l t f' T K
        | some false => f.putK o.dst (.p (.c .any)) fun f' => trG ops l t f' T K
        | none => False)))
  | .alt i t more, f, T, K => (match l[i]? with
    | none => False
    | some o => (match guardOf ops f o with
        | some true => opK P W G N o f T fun f' T' => trG ops l t f' T' K
        | _ => False)) ∧ trG ops l more f T K
end
section
variable {P : Program} {W : World} {G : Gs} {N : Nd} {ops : Array Oper} {l : List Oper}
theorem firstG_sound {f : Fr} {T : List Ow} {o : Oper} {K : AV → Prop} (h : firstG P W G f T o K) {r : Env} {w : World} (hR : Rel W G T r w) {a : Act} (hf : FDen r f a) :
    ∃ v u, K v ∧ v.den r u ∧ ∀ w', Held W G w' → (execOp a.eval o).run P w' = .ok (.value u) w' := by
  have plain : (match opTy P o.op with | true => qop P W G.flat [] (plainG f) o K | false => False) → ∃ v u, K v ∧ v.den r u ∧ ∀ w', Held W G w' → (execOp a.eval o).run P w' = .ok (.value u) w' := fun h => by
    split at h
    · rename_i hty
      obtain ⟨v, u, hK, hden, hrun⟩ := qop_held h hty rfl (D := Held W G) (fun w hw => hw.rel) hR.held (plainG_den hf)
      exact ⟨v, u, hK, AV.den_mono ⟨(fun i b h => by cases h), (fun i b h => by cases h)⟩ _ _ hden, hrun⟩
    · exact h.elim
  unfold firstG at h
  split at h
  · rename_i x hop
    exact ⟨_, _, forceAV_iff.1 h, hf.ev x, fun w' _ => by simp [execOp, hop]⟩
  · rename_i x hop
    exact ⟨_, _, forceAV_iff.1 h, hf.ev x, fun w' _ => by simp [execOp, hop]⟩
  · rename_i s x k hop
    split at h
    · rename_i i off he
      split at h
      · rename_i n hn
        have hx := hf.ev x
        rw [he] at hx
        obtain ⟨b, hb, hu⟩ := den_ref hx
        exact ⟨_, _, h, den_mk_ref hb, fun w' _ => by simp [execOp, hop, hu, run_fieldAt hn]⟩
      · exact h.elim
    · exact plain h
  · rename_i x hop
    split at h
    · rename_i i off he
      have hx := hf.ev x
      rw [he] at hx
      obtain ⟨b, hb, hu⟩ := den_ref hx
      exact ⟨_, _, h, den_mk_ref hb, fun w' _ => by simp [execOp, hop, hu]⟩
    · exact plain h
  · rename_i t parts hop
    obtain ⟨v, u, hK, hd, hrun⟩ := buildK_sound hR hf h
    exact ⟨v, u, hK, hd, fun w' _ => by simp [execOp, hop, hrun w']⟩
  · exact plain h
theorem trG_sound (hl : ∀ i : Nat, l[i]? = ops[i]?) (hns : Region.noSelect ops = true) {K : Fr → List Ow → Prop} {Q : Exit → Act → World → Prop} (hQ0 : ∀ c a w, ¬ Q (.panic c) a w) (hQ : ∀ f T a w, K f T → Good W G N f T a w → Q .normal a w) :
    ∀ (t : Tr) (inner : Bool) (listed : Array Bool) (f : Fr) (T : List Ow) (n : Nat), t.ok ops inner listed = true → t.depth ≤ n → trG P W G N ops l t f T K → ∀ a w, Good W G N f T a w →
      (inner = false → wpAnyH P .any ops Q (Held W G) n listed a w) ∧
      (∀ m, n = m + 1 → ∀ i ∈ t.alts, wpOp P ops Q i (fun a' w' => Held W G w' ∧ wpAnyH P .any ops Q (Held W G) m (listed.setIfInBounds i true) a' w') a w)
  | .done, inner, listed, f, T, n, hB, _, h, a, w, hg => by
    refine ⟨fun _ => wpAnyH_done (by simp [Tr.ok] at hB; exact hB.2) (hQ f T a w h hg) _, fun m _ i hi => by cases hi⟩
  | .no, inner, listed, f, T, n, hB, _, h, a, w, hg => by
    refine ⟨fun he => ?_, fun m _ i hi => by cases hi⟩
    simp [Tr.ok] at hB; rw [hB] at he; cases he
  | .q i t, inner, listed, f, T, n, hB, hn, h, a, w, hg => by
    refine ⟨fun _ => ?_, fun m _ i hi => by cases hi⟩
    simp only [Tr.ok, Bool.and_eq_true] at hB
    obtain ⟨⟨⟨_, hB1⟩, hB2⟩, hB3⟩ := hB
    simp only [Tr.depth] at hn
    obtain ⟨n, rfl⟩ : ∃ k, n = k + 1 := ⟨n - 1, by omega⟩
    unfold trG at h
    split at h
    · exact h.elim
    · rename_i o ho
      rw [hl] at ho
      split at h
      · exact h.elim
      · rename_i hdst
        obtain ⟨r, hR, hf, hN, hd⟩ := hg
        split at h
        · rename_i hgd
          have hw := guard_wanted hf hgd
          obtain ⟨v, u, hK, hden, hrun⟩ := firstG_sound h hR hf
          have hK := putK_iff.1 hK
          refine wpAnyH_take (v := u) ho hns hB1 hB2 (fun c a w h => absurd h (hQ0 c _ w)) (.inl ⟨hw, hrun⟩) hR.held ?_
          exact (trG_sound hl hns hQ0 hQ t false _ _ T n hB3 (by omega) hK _ w ⟨r, hR, hf.put hden (by rw [hN]; exact hdst), (put_size a _ _).trans hN, (put_defers a _ _).trans hd⟩).1 rfl
        · rename_i hgd
          have hw := guard_wanted hf hgd
          have hK := putK_iff.1 h
          refine wpAnyH_take (v := undef) ho hns hB1 hB2 (fun c a w h => absurd h (hQ0 c _ w)) (.inr ⟨hw, rfl⟩) hR.held ?_
          exact (trG_sound hl hns hQ0 hQ t false _ _ T n hB3 (by omega) hK _ w ⟨r, hR, hf.putAny _ (by rw [hN]; exact hdst), (put_size a _ _).trans hN, (put_defers a _ _).trans hd⟩).1 rfl
        · exact h.elim
  | .alt i t more, inner, listed, f, T, n, hB, hn, h, a, w, hg => by
    simp only [Tr.ok, Bool.and_eq_true] at hB
    obtain ⟨⟨hB1, hB2⟩, hB3⟩ := hB
    simp only [Tr.depth] at hn
    unfold trG at h
    obtain ⟨h1, h2⟩ := h
    have all : ∀ m, n = m + 1 → ∀ j ∈ (Tr.alt i t more).alts, wpOp P ops Q j (fun a' w' => Held W G w' ∧ wpAnyH P .any ops Q (Held W G) m (listed.setIfInBounds j true) a' w') a w := by
      intro m hm j hj
      simp only [Tr.alts, List.mem_cons] at hj
      rcases hj with rfl | hj
      · split at h1
        · exact h1.elim
        · rename_i o ho
          rw [hl] at ho
          obtain ⟨r, hR, hf, hN, hd⟩ := hg
          split at h1
          · rename_i hgd
            have hw := guard_wanted hf hgd
            unfold wpOp
            simp only [ho, hw, if_true]
            refine .inl (se_wp ((opK_sound h1).out r a w hR hf hN hd (fun a' w' => Held W G w' ∧ wpAnyH P .any ops Q (Held W G) m (listed.setIfInBounds j true) a' w') Q fun f' T' a' w' hk hg' => ?_) fun _ _ h => h)
            refine ⟨?_, (trG_sound hl hns hQ0 hQ t false _ f' T' m hB2 (by omega) hk a' w' hg').1 rfl⟩
            obtain ⟨r', hR', _⟩ := hg'
            exact hR'.held
          · exact h1.elim
      · exact (trG_sound hl hns hQ0 hQ more true listed f T n hB3 (by omega) h2 a w hg).2 m hm j hj
    refine ⟨fun he => ?_, all⟩
    obtain ⟨m, rfl⟩ : ∃ k, n = k + 1 := ⟨n - 1, by omega⟩
    have hr : Region.ready .any ops listed = (Tr.alt i t more).alts := by
      rw [he] at hB1
      simpa [Tr.alts] using hB1
    exact wpAnyH_all hr (by simp [Tr.alts]) (all m rfl)
/-- A drawn region, by the tree of its orders. -/
theorem sat_anyG {id : Nat} {l : List Oper} {f : Fr} {S : List Ow} {K : Exit → Fr → List Ow → Prop} (t : Tr) (hm : P.follows .mixedOrders = true) (hns : Region.noSelect l.toArray = true) (hB : (t.ok l.toArray false (Array.replicate l.toArray.size false) && Nat.ble t.depth l.length) = true)
    (h : trG P W G N l.toArray l t f S (K .normal)) : Sat none P W G N (.region id l.toArray true) f S K := by
  refine ⟨fun n a w ⟨r, hR, hf, hN, hd⟩ => wpIn_wide.2 ?_⟩
  simp only [Bool.and_eq_true] at hB
  refine Code.wp_mono (Q := fun e a w => match e with | .normal => PostK W G N K .normal a w | _ => False) (fun e a w h => by cases e <;> first | exact h | exact h.elim) (wp_region_held (S := Held W G) hm ?_)
  have := (trG_sound (P := P) (W := W) (N := N) (Q := fun e a w => match e with | .normal => PostK W G N K .normal a w | _ => False) (fun i => by simp) hns (fun c a w h => h) (fun f T a w hk hg => ⟨f, T, hk, hg⟩) t false _ f S l.length hB.1 (Nat.le_of_ble_eq_true hB.2) h a w.drew ⟨r, hR.drew, hf, hN, hd⟩).1 rfl
  simpa using this
end
/-- What may come up in a state: all have come; number i is taken first; one of these, each with the state that it leads to. -/
inductive Nx (α : Type) where
  | done
  | q (i : Nat) (y : α)
  | alts (l : List (Nat × α))
/-- The states as they should be: what has come, what may come up. -/
structure DagOk {α : Type} (ops : Array Oper) (listed : α → Array Bool) (nx : α → Nx α) (left : α → Nat) (x : α) : Prop where
  done : nx x = .done → Region.ready .any ops (listed x) = []
  q : ∀ i y, nx x = .q i y → Region.free .any ops (listed x) i = true ∧ (Region.ready .any ops (listed x)).contains i = true ∧ listed y = (listed x).setIfInBounds i true ∧ left y < left x
  alts : ∀ l, nx x = .alts l → Region.ready .any ops (listed x) = l.map Prod.fst ∧ l ≠ [] ∧ ∀ p ∈ l, listed p.2 = (listed x).setIfInBounds p.1 true ∧ left p.2 < left x
section
variable (P : Program) (W : World) (G : Gs) (N : Nd) {α : Type}
end
section
variable {P : Program} {W : World} {G : Gs} {N : Nd} {ops : Array Oper} {l : List Oper} {α : Type}
end
/-- The memory seen anew: the own entries are what may be turned from here on. -/
theorem rel_anew {w0 : World} {G : Gs} {S : List Ow} {r : Env} {w : World} (h : Rel w0 G S r w) (hc : cellsS S = true) : ∃ gs : List Nat, gs.length = S.length ∧ (∀ i, r.blk i = gs[i]?) ∧ Rel w ⟨gs, []⟩ S r w := by
  have hblk : ∀ i, i < S.length → ∃ b, r.blk i = some b := fun i hi => by
    have ho := h.own i _ (List.getElem?_eq_getElem hi)
    have hm : (match S[i] with | .cells _ _ => true | _ => false) = true := by
      unfold cellsS at hc
      exact List.all_eq_true.1 hc _ (List.getElem_mem hi)
    cases hs : S[i] with
    | cells t l => rw [hs] at ho; obtain ⟨b, us, e, _⟩ := ho; exact ⟨b, e⟩
    | row => rw [hs] at hm; cases hm
    | ext => rw [hs] at hm; cases hm
    | view => rw [hs] at hm; cases hm
    | gone => rw [hs] at hm; cases hm
  have hgs : ∀ i, r.blk i = ((List.range S.length).map fun i => (r.blk i).getD 0)[i]? := fun i => by
    rcases Nat.lt_or_ge i S.length with h1 | h1
    · obtain ⟨b, hb⟩ := hblk i h1
      rw [List.getElem?_map, List.getElem?_range h1, hb]; simp [hb]
    · rw [h.outB i h1, List.getElem?_eq_none (by simpa using h1)]
  refine ⟨(List.range S.length).map fun i => (r.blk i).getD 0, by simp, hgs, rel_base h (fun i g hg => by rw [hgs i]; exact hg) fun i b hb => .inl ?_⟩
  rw [hgs i] at hb
  exact List.mem_of_getElem? hb
/-- Some own entries (by number) are kept as what may be turned; the others are plain memory from here on. -/
theorem satq_anew {P : Program} {w0 : World} {G : Gs} {N : Nd} {d : Code} {f : Fr} {S : List Ow} {Q : Exit → Act → World → Prop} (S2 : List Ow) (ks : List Nat) (hS : RLe S (fun i => ks.getD i 0) S2 ks) (hb : sbnd S2.length S2 = true) (hi : injB S ks = true) (hG : idB G.fix.length ks 0 = true) (hGl : Nat.ble G.fix.length S2.length = true) (hc : cellsS S2 = true)
    (h : ∀ r w (gs : List Nat), Rel w0 G S r w → gs.length = S2.length → (∀ i, i < S2.length → r.blk (ks.getD i 0) = gs[i]?) → (∀ e f S, AtQ w0 G N e f S Q → AtQ w ⟨gs, []⟩ N e f S Q) → ∃ f2, (∀ a r2, (∀ i, r2.blk i = gs[i]?) → FDen r f a → FDen r2 f2 a) ∧ SatQ P w ⟨gs, []⟩ N d f2 S2 Q) : SatQ P w0 G N d f S Q :=
  ⟨fun a w ⟨r, hR, hf, hN, hd⟩ => by
    have h1 := rel_ren hR ks hS hb hi hG hGl
    obtain ⟨gs, hl, hgs, hR2⟩ := rel_anew h1 hc
    have hback : ∀ e f S, AtQ w0 G N e f S Q → AtQ w ⟨gs, []⟩ N e f S Q := fun e f' S' hq => ⟨fun a' w' ⟨r', hR', hf', hN', hd'⟩ =>
      hq.out a' w' ⟨r', rel_back h1 hR' (fun b hb => by
        rcases hb with hb | hb
        · obtain ⟨i, hi⟩ := List.getElem?_of_mem hb
          exact ⟨i, by rw [hgs i]; exact hi⟩
        · cases hb) (fun i g hg => by rw [← hgs i]; exact h1.first i g hg), hf', hN', hd'⟩⟩
    obtain ⟨f2, hf2, hsat⟩ := h r w gs hR hl (fun i hi => by rw [← hgs i, comp_blk hi]) hback
    exact hsat.out a w ⟨_, hR2, hf2 a _ hgs hf, hN, hd⟩⟩
theorem unflat {w : World} {G : Gs} {b off : Nat} {xs : List Value} (h : CellsAt w G.flat b off xs) : CellsAt w G b off xs := ⟨h.1, fun hm => h.2.1 (flat_mem.2 hm), h.2.2⟩
/-- An own entry that is not kept, seen as plain memory. -/
theorem anew_cells {w0 w : World} {G : Gs} {S S2 : List Ow} {r : Env} {gs ks : List Nat} (hR : Rel w0 G S r w) (hl : gs.length = S2.length) (hgs : ∀ i, i < S2.length → r.blk (ks.getD i 0) = gs[i]?) (hk : ks.length = S2.length) (j : Nat) {t : TypeId} {us : List Value} (hj : S[j]? = some (.cells t (us.map .v))) (hn : memB j ks = false) :
    ∃ b, r.blk j = some b ∧ ∀ (off : Nat) (xs : List Value), (∀ (k : Nat) (u : Value), xs[k]? = some u → us[off + k]? = some u) → CellsAt w (Gs.flat ⟨gs, []⟩) b off xs := by
  obtain ⟨b, vs, e1, e2, e3⟩ := hR.own j _ hj
  obtain rfl := denL_vals_inv e3
  refine ⟨b, e1, fun off xs hx => ⟨(hR.new j b e1).1, fun hm => ?_, fun k u hu => by simp [World.cell?, e2, hx k u hu]⟩⟩
  rcases hm with hm | hm
  · cases hm
  · have hm : b ∈ gs := by simpa [Gs.flat] using hm
    obtain ⟨i, hi⟩ := List.getElem?_of_mem hm
    have hil : i < S2.length := by
      rw [← hl]
      rcases Nat.lt_or_ge i gs.length with h1 | h1
      · exact h1
      · rw [List.getElem?_eq_none h1] at hi; cases hi
    have := hgs i hil
    rw [hi] at this
    have hji := hR.inj _ _ b this e1
    have hmem : j ∈ ks := by
      rw [← hji, List.getD_eq_getElem?_getD, List.getElem?_eq_getElem (by omega)]
      exact List.getElem_mem _
    rw [memB_of hmem] at hn
    cases hn
theorem slot_plain {r r2 : Env} {f : Fr} {a : Act} (hf : FDen r f a) (d : Nat) {i off b : Nat} (h : f.get d = .p (.c (.ref i off))) (hb : r.blk i = some b) : AV.den r2 (one (.pointer (some ⟨b, off, none⟩))) (a.tmps.getD d undef) := by
  have := hf d
  rw [h] at this
  obtain ⟨b', hb', hu⟩ := den_ref this
  rw [hb] at hb'; injection hb' with hb'; subst hb'
  rw [hu]; exact den_one _ _
theorem slot_moved {r r2 : Env} {f : Fr} {a : Act} (hf : FDen r f a) (d : Nat) {i j off : Nat} (h : f.get d = .p (.c (.ref i off))) (hb : ∀ b, r.blk i = some b → r2.blk j = some b) : AV.den r2 (.p (.c (.ref j off))) (a.tmps.getD d undef) := by
  have := hf d
  rw [h] at this
  obtain ⟨b', hb', hu⟩ := den_ref this
  rw [hu]; exact den_mk_ref (hb b' hb')
theorem slot_same {r r2 : Env} {f : Fr} {a : Act} (hf : FDen r f a) (d : Nat) {x : Value} (h : (f.get d).val = some x) : AV.den r2 (AV.of x) (a.tmps.getD d undef) := by
  rw [AV.val_den h (hf d)]; exact AV.of_den r2 x
/-- A frame, slot by slot. -/
def FrDen (r : Env) (a : Act) : Fr → Prop
  | [] => True
  | (d, x) :: f => x.den r (a.tmps.getD d undef) ∧ FrDen r a f
theorem frDen {r : Env} {a : Act} : ∀ {f : Fr}, FrDen r a f → FDen r f a
  | [], _ => fun k => by simp [Fr.get, AV.den, Pc.den, CV.den]
  | (d, x) :: f, h => fun k => by
    simp only [Fr.get]
    split
    · rename_i hk; have := Nat.eq_of_beq_eq_true hk; subst this; exact h.1
    · exact frDen h.2 k
end Go.Proofs.YtnhdcclpjildjaaGreat
namespace Go.Proofs.YtnhdcclpjildjaaGreat
open Go.RowKit

theorem objs_later {w w' : World} {gs : List Nat} {U : List Ow} {n : Nat} (hob : ObAll n U) (h : ObjsAt w gs U) (hB : Below w.heap.size w w') : ObjsAt w' gs U := by
  refine ⟨h.len, h.nodup, fun g hg => Nat.lt_of_lt_of_le (h.lt g hg) hB.size, fun i o ho => ?_⟩
  have k := h.own i o ho
  have hb := hob o (List.mem_of_getElem? ho)
  cases o with
  | cells t l =>
    obtain ⟨b, us, e1, e2, e3⟩ := k
    exact ⟨b, us, e1, by rw [hB.block b (h.lt b (List.mem_of_getElem? (show gs[i]? = some b from e1)))]; exact e2, e3⟩
  | row => exact hb.elim
  | ext => exact hb.elim
  | view => exact hb.elim
  | gone => exact hb.elim
section
variable {w0 : World} {S : List Ow} {K : AV → List Ow → Prop} {fid : FuncId} {args : List AV} {P : Program}
/-- A call that reads an old memory. -/
theorem call_memP {us : List Value} {g n p : Nat} {gs : List Nat} {M : MemP} {X : Value} (hx : avals args = some us) (hok : fnOk P fid = true) (hU : ObjsAt w0 (g :: gs) (memS 0 n p M))
    (h : ∀ w, ObjsAt w (g :: gs) (memS 0 n p M) → Calls P fid us.toArray w fun e w' => e = .returned X ∧ ObjsAt w' (g :: gs) (memS 0 n p M) ∧ GrownBys w w' (g :: gs)) (hK : K (AV.of X) S) : CallS P w0 Gs.nil fid args S K := by
  refine call_con hx hok (fun r w hR => ?_) hK
  have hU' := objs_later (memS_ob n p M) hU hR.toBelow
  exact (h w hU').mono fun e w' ⟨h1, h2, h3⟩ => ⟨h1, objs_below (memS_ob n p M) hU' h2 h3⟩
end
end Go.Proofs.YtnhdcclpjildjaaGreat
namespace Go.Proofs.YtnhdcclpjildjaaGreat
open Go.RowKit

def MemP.code (M : MemP) (x : Int) : Int := (M.image[x.toNat]?).getD 0
end Go.Proofs.YtnhdcclpjildjaaGreat
namespace Go.Proofs.YtnhdcclpjildjaaGreat
open Go.RowKit

def MemP.zero (p : Nat) : MemP := ⟨List.replicate (256 * p) 0, List.replicate (256 * p) 0, List.replicate (256 * p) 0, List.replicate (256 * p) 0, List.replicate p 0, [], [], [], [], []⟩
end Go.Proofs.YtnhdcclpjildjaaGreat
namespace Go.Proofs.YtnhdcclpjildjaaGreat
open Go.RowKit

/-- Rights of three pages, a seed, and 19 variables. -/
structure SetP where
  r0 : Int
  r1 : Int
  r2 : Int
  fill : Int
  vars : List Int
structure SetP.ok (x : SetP) : Prop where
  fill : word x.fill
  len : x.vars.length = 19
  word : ∀ v ∈ x.vars, word v
def SetP.all (x : SetP) : List Int := x.vars ++ List.replicate 9 0
def SetP.right (x : SetP) : Nat → Int
  | 0 => x.r0
  | 1 => x.r1
  | _ => x.r2
end Go.Proofs.YtnhdcclpjildjaaGreat
namespace Go.Proofs.YtnhdcclpjildjaaGreat
open Go.RowKit

/-- A memory, seen as plain memory. -/
structure MemAt (w : World) (g n p : Nat) (M : MemP) (g1 g5 : Nat) : Prop where
  data : CellsAt w Gs.nil g 0 [.slice (some ⟨g1, 0, none⟩) n (n + M.td.length)]
  rights : CellsAt w Gs.nil g 4 [.slice (some ⟨g5, 0, none⟩) p (p + M.tr.length)]
  dat : ∀ (i : Nat) (x : Int), M.data[i]? = some x → CellsAt w Gs.nil g1 (0 + (i : Int).toNat * 1) [byteV x]
  rig : ∀ (i : Nat) (x : Int), M.rights[i]? = some x → CellsAt w Gs.nil g5 (0 + (i : Int).toNat * 1) [intV x]
end Go.Proofs.YtnhdcclpjildjaaGreat
namespace Go.Proofs.YtnhdcclpjildjaaGreat
open Go.RowKit

abbrev qiL (i : QI) : List Value := [intV i.op, intV i.d, intV i.a, intV i.b, .int .u32 i.imm]
abbrev qiV (i : QI) : Value := .agg #[intV i.op, intV i.d, intV i.a, intV i.b, .int .u32 i.imm]
abbrev formV (f : QForm) : Value := .agg #[.bool f.is, .bool f.d, .bool f.a, .bool f.b, .bool f.signed, intV f.bits, .int .u32 f.most]
theorem ops64 {op : Int} (h : 0 ≤ op ∧ op < 64) : op = 0 ∨ op = 1 ∨ op = 2 ∨ op = 3 ∨ op = 4 ∨ op = 5 ∨ op = 6 ∨ op = 7 ∨ op = 8 ∨ op = 9 ∨ op = 10 ∨ op = 11 ∨ op = 12 ∨ op = 13 ∨ op = 14 ∨ op = 15 ∨ op = 16 ∨ op = 17 ∨ op = 18 ∨ op = 19 ∨ op = 20 ∨ op = 21 ∨ op = 22 ∨ op = 23 ∨ op = 24 ∨ op = 25 ∨ op = 26 ∨ op = 27 ∨ op = 28 ∨ op = 29 ∨ op = 30 ∨ op = 31 ∨ op = 32 ∨ op = 33 ∨ op = 34 ∨ op = 35 ∨ op = 36 ∨ op = 37 ∨ op = 38 ∨ op = 39 ∨ op = 40 ∨ op = 41 ∨ op = 42 ∨ op = 43 ∨ op = 44 ∨ op = 45 ∨ op = 46 ∨ op = 47 ∨ op = 48 ∨ op = 49 ∨ op = 50 ∨ op = 51 ∨ op = 52 ∨ op = 53 ∨ op = 54 ∨ op = 55 ∨ op = 56 ∨ op = 57 ∨ op = 58 ∨ op = 59 ∨ op = 60 ∨ op = 61 ∨ op = 62 ∨ op = 63 := by omega
set_option maxRecDepth 100000 in
set_option maxHeartbeats 4000000 in
theorem of_ref (op : Int) (w : World) (h : 0 ≤ op ∧ op < 64) : Calls Tryz.prog 51 #[intV op] w fun e w' => e = .returned (formV (qForm op)) ∧ Below w.heap.size w w' := by
  rcases ops64 h with rfl | rfl | rfl | rfl | rfl | rfl | rfl | rfl | rfl | rfl | rfl | rfl | rfl | rfl | rfl | rfl | rfl | rfl | rfl | rfl | rfl | rfl | rfl | rfl | rfl | rfl | rfl | rfl | rfl | rfl | rfl | rfl | rfl | rfl | rfl | rfl | rfl | rfl | rfl | rfl | rfl | rfl | rfl | rfl | rfl | rfl | rfl | rfl | rfl | rfl | rfl | rfl | rfl | rfl | rfl | rfl | rfl | rfl | rfl | rfl | rfl | rfl | rfl | rfl
  all_goals
    refine calls_valN [intV _] Tryz.func51 Tryz.ntmps51 rfl (by simp) ?_
    conv => whnf
    repeat (first | (refine ⟨fun _ => ?_, (fun h => absurd h (by decide))⟩; (conv => whnf)) | (refine ⟨(fun h => absurd h (by decide)), fun _ => ?_⟩; (conv => whnf)))
    exact fin_val rfl fun w' hB => ⟨rfl, hB⟩
end Go.Proofs.YtnhdcclpjildjaaGreat
namespace Go.Proofs.YtnhdcclpjildjaaGreat
open Go.RowKit

set_option maxRecDepth 100000 in
theorem reg_ref (n : Int) (u : Bool) (w : World) : Calls Tryz.prog 91 #[intV n, .bool u] w fun e w' => e = .returned (.bool (regB n u)) ∧ Below w.heap.size w w' := by
  refine calls_valN [intV n, .bool u] Tryz.func91 Tryz.ntmps91 rfl (by simp) ?_
  conv => whnf
  refine ⟨fun h1 => ?_, fun h1 => ?_⟩
  · conv => whnf
    (repeat (first | (refine ⟨fun _ => ?_, (fun h => Bool.noConfusion (show true = false from h))⟩; (conv => whnf)) | (refine ⟨fun _ => ?_, (fun h => Bool.noConfusion (show false = true from h))⟩; (conv => whnf)) | (refine ⟨(fun h => Bool.noConfusion (show false = true from h)), fun _ => ?_⟩; (conv => whnf)) | (refine ⟨(fun h => Bool.noConfusion (show true = false from h)), fun _ => ?_⟩; (conv => whnf)) | (refine ⟨fun _ => ?_, (fun h => absurd h (by decide))⟩; (conv => whnf)) | (refine ⟨(fun h => absurd h (by decide)), fun _ => ?_⟩; (conv => whnf))))
    cases u with
    | false =>
      conv => whnf
      (repeat (first | (refine ⟨fun _ => ?_, (fun h => Bool.noConfusion (show true = false from h))⟩; (conv => whnf)) | (refine ⟨fun _ => ?_, (fun h => Bool.noConfusion (show false = true from h))⟩; (conv => whnf)) | (refine ⟨(fun h => Bool.noConfusion (show false = true from h)), fun _ => ?_⟩; (conv => whnf)) | (refine ⟨(fun h => Bool.noConfusion (show true = false from h)), fun _ => ?_⟩; (conv => whnf)) | (refine ⟨fun _ => ?_, (fun h => absurd h (by decide))⟩; (conv => whnf)) | (refine ⟨(fun h => absurd h (by decide)), fun _ => ?_⟩; (conv => whnf))))
      refine fin_val rfl fun w' hB => ⟨?_, hB⟩
      have hn : n ≠ 0 := by simpa using h1
      simp [regB, hn]
    | true =>
      conv => whnf
      (repeat (first | (refine ⟨fun _ => ?_, (fun h => Bool.noConfusion (show true = false from h))⟩; (conv => whnf)) | (refine ⟨fun _ => ?_, (fun h => Bool.noConfusion (show false = true from h))⟩; (conv => whnf)) | (refine ⟨(fun h => Bool.noConfusion (show false = true from h)), fun _ => ?_⟩; (conv => whnf)) | (refine ⟨(fun h => Bool.noConfusion (show true = false from h)), fun _ => ?_⟩; (conv => whnf)) | (refine ⟨fun _ => ?_, (fun h => absurd h (by decide))⟩; (conv => whnf)) | (refine ⟨(fun h => absurd h (by decide)), fun _ => ?_⟩; (conv => whnf))))
      generalize hz : decide (n > 0) = z
      have hn : n ≠ 0 := by simpa using h1
      cases z with
      | false =>
        conv => whnf
        (repeat (first | (refine ⟨fun _ => ?_, (fun h => Bool.noConfusion (show true = false from h))⟩; (conv => whnf)) | (refine ⟨fun _ => ?_, (fun h => Bool.noConfusion (show false = true from h))⟩; (conv => whnf)) | (refine ⟨(fun h => Bool.noConfusion (show false = true from h)), fun _ => ?_⟩; (conv => whnf)) | (refine ⟨(fun h => Bool.noConfusion (show true = false from h)), fun _ => ?_⟩; (conv => whnf)) | (refine ⟨fun _ => ?_, (fun h => absurd h (by decide))⟩; (conv => whnf)) | (refine ⟨(fun h => absurd h (by decide)), fun _ => ?_⟩; (conv => whnf))))
        refine fin_val rfl fun w' hB => ⟨?_, hB⟩
        have : ¬ 0 < n := by simpa using hz
        simp [regB, hn, this]
      | true =>
        conv => whnf
        (repeat (first | (refine ⟨fun _ => ?_, (fun h => Bool.noConfusion (show true = false from h))⟩; (conv => whnf)) | (refine ⟨fun _ => ?_, (fun h => Bool.noConfusion (show false = true from h))⟩; (conv => whnf)) | (refine ⟨(fun h => Bool.noConfusion (show false = true from h)), fun _ => ?_⟩; (conv => whnf)) | (refine ⟨(fun h => Bool.noConfusion (show true = false from h)), fun _ => ?_⟩; (conv => whnf)) | (refine ⟨fun _ => ?_, (fun h => absurd h (by decide))⟩; (conv => whnf)) | (refine ⟨(fun h => absurd h (by decide)), fun _ => ?_⟩; (conv => whnf))))
        refine fin_val rfl fun w' hB => ⟨?_, hB⟩
        have : 0 < n := by simpa using hz
        simp [regB, hn, this]
  · conv => whnf
    (repeat (first | (refine ⟨fun _ => ?_, (fun h => Bool.noConfusion (show true = false from h))⟩; (conv => whnf)) | (refine ⟨fun _ => ?_, (fun h => Bool.noConfusion (show false = true from h))⟩; (conv => whnf)) | (refine ⟨(fun h => Bool.noConfusion (show false = true from h)), fun _ => ?_⟩; (conv => whnf)) | (refine ⟨(fun h => Bool.noConfusion (show true = false from h)), fun _ => ?_⟩; (conv => whnf)) | (refine ⟨fun _ => ?_, (fun h => absurd h (by decide))⟩; (conv => whnf)) | (refine ⟨(fun h => absurd h (by decide)), fun _ => ?_⟩; (conv => whnf))))
    refine fin_val rfl fun w' hB => ⟨?_, hB⟩
    have hn : n = 0 := by simpa using h1
    simp [regB, hn]
end Go.Proofs.YtnhdcclpjildjaaGreat
namespace Go.Proofs.YtnhdcclpjildjaaGreat
open Go.RowKit

def MemP.rightsAt (M : MemP) (q : Nat) : Int := (M.rights[q]?).getD 0
def MemP.page (M : MemP) (q : Nat) : List Int := (M.data.drop (256 * q)).take 256
end Go.Proofs.YtnhdcclpjildjaaGreat
namespace Go.Proofs.YtnhdcclpjildjaaGreat
open Go.RowKit

abbrev cpuT : TypeId := 42
/-- A machine: its state, and its memory. -/
abbrev cpuU (k : Nat) (us : List Value) (n p : Nat) (M : MemP) : List Ow := .cells cpuT (us.map .v ++ [.ref (k + 1) 0]) :: memS (k + 1) n p M
theorem cpuU_ob (us : List Value) (n p : Nat) (M : MemP) : ObAll 7 (cpuU 0 us n p M) := by
  intro o ho
  simp only [memS, List.mem_cons, List.not_mem_nil, or_false] at ho
  rcases ho with rfl | rfl | rfl | rfl | rfl | rfl | rfl
  · intro c hc
    rcases List.mem_append.1 hc with hc | hc
    · exact ob_vals 7 _ c hc
    · simp at hc; subst hc; rfl
  · intro c hc
    simp only [List.mem_cons, List.not_mem_nil, or_false] at hc
    rcases hc with rfl | rfl | rfl | rfl | rfl | rfl <;> rfl
  · exact ob_vals 7 _
  · exact ob_vals 7 _
  · exact ob_vals 7 _
  · exact ob_vals 7 _
  · exact ob_vals 7 _
abbrev u32V (x : Int) : Value := .int .u32 x
end Go.Proofs.YtnhdcclpjildjaaGreat
namespace Go.Proofs.YtnhdcclpjildjaaGreat
open Go.RowKit

theorem bad_none {M : MemP} {a r : Int} : ∀ {i k : Nat}, M.bad a r i k = none → ∀ j, i ≤ j → j < i + k → M.right ((a + j) % 4294967296) r = true
  | i, 0, _, j, h1, h2 => by omega
  | i, k + 1, h, j, h1, h2 => by
    unfold MemP.bad at h
    split at h
    · rename_i hr
      by_cases e : j = i
      · rw [e]; exact hr
      · exact bad_none h j (by omega) (by omega)
    · cases h
theorem right_lt {M : MemP} {a r : Int} (h : M.right a r = true) : a < (M.data.length : Int) := by
  unfold MemP.right at h
  simp only [Bool.and_eq_true, decide_eq_true_eq] at h
  exact h.1
def MemP.get (M : MemP) (x : Int) : Int := (M.data[x.toNat]?).getD 0
/-- The word of k bytes from a + i on. -/
def MemP.load (M : MemP) (a : Int) : Nat → Nat → Int
  | _, 0 => 0
  | i, k + 1 => (M.load a (i + 1) k * 256 + M.get ((a + i) % 4294967296)) % 4294967296
def MemP.loadV (M : MemP) (a : Int) (m : Nat) : Value := match M.bad a 1 0 m with | none => valV (M.load a 0 m) 0 true | some y => valV 0 y false
theorem load_step (M : MemP) (a : Int) {i m : Nat} (h : i < m) : M.load a i (m - i) = (M.load a (i + 1) (m - (i + 1)) * 256 + M.get ((a + i) % 4294967296)) % 4294967296 := by
  obtain ⟨k, hk⟩ : ∃ k, m - i = k + 1 := ⟨m - i - 1, by omega⟩
  rw [hk, show m - (i + 1) = k by omega]; rfl
theorem load_word (M : MemP) (a : Int) (i k : Nat) : word (M.load a i k) := by
  cases k with
  | zero => exact word0
  | succ k => exact word_mod _
theorem get_byte {M : MemP} {n p : Nat} (hM : M.ok n p) {x : Int} (h0 : 0 ≤ x) (hx : x < (n : Int)) : (M.dV.map CV.v)[x.toNat]? = some (.v (byteV (M.get x))) ∧ 0 ≤ M.get x ∧ M.get x < 256 := by
  obtain ⟨y, hy⟩ : ∃ y, M.data[x.toNat]? = some y := ⟨_, List.getElem?_eq_getElem (by rw [hM.ld]; omega)⟩
  have hb := hM.db y (List.mem_of_getElem? hy)
  unfold MemP.get
  rw [hy]
  exact ⟨tail_at hy, hb⟩
set_option maxRecDepth 100000 in
theorem mem_load (M : MemP) (n p : Nat) (a : Int) (m : Nat) (w : World) (g : Nat) (gs : List Nat) (hU : ObjsAt w (g :: gs) (memS 0 n p M)) (hM : M.ok n p) (ha : word a) (hm : 1 ≤ m ∧ m ≤ 4) :
    Calls Tryz.prog 55 #[.pointer (some ⟨g, 0, none⟩), .int .u32 a, .int .i64 (m : Int)] w fun e w' => e = .returned (M.loadV a m) ∧ ObjsAt w' (g :: gs) (memS 0 n p M) ∧ GrownBys w w' (g :: gs) := by
  obtain ⟨g0, g1, g2, g3, g4, g5, hg⟩ := six_blocks hU
  injection hg with hg0 hgs
  subst hgs; subst hg0
  refine calls_objs [.p (.c (.ref 0 0)), one (.int .u32 a), one (.int .i64 (m : Int))] [.pointer (some ⟨g, 0, none⟩), .int .u32 a, .int .i64 (m : Int)] Tryz.func55 Tryz.ntmps55 rfl (by simp) hU ⟨_, _, rfl, den_mk_ref rfl, avdenL_of [.int .u32 a, .int .i64 (m : Int)]⟩ ?_
  conv => whnf
  refine call_memR (pre := []) (suf := [one (.int .u32 a), one (.int .i64 (m : Int)), one (.int .i64 1)]) 0 n p M (checkV (M.bad a 1 0 m)) memL_six rfl rfl (by kernel_rfl) (fun w' g gs hk hU => mem_check M n p a 1 m w' g gs hU hM ha (.inl rfl) hm) ?_
  cases hbad : M.bad a 1 0 m with
  | some y =>
    conv => whnf
    refine ⟨fun hc => absurd hc (by decide), fun _ => ?_⟩
    conv => whnf
    exact fin_objs rfl rfl memL_sub (memS_ob n p M) fun w' h1 h2 => ⟨by unfold MemP.loadV; rw [hbad]; rfl, h1, h2⟩
  | none =>
    conv => whnf
    refine ⟨fun _ => ?_, fun hc => absurd hc (by decide)⟩
    conv => whnf
    refine ⟨_, wr64 (by omega), ?_⟩
    conv => whnf
    have e0 : M.load a m (m - m) = 0 := by rw [Nat.sub_self]; rfl
    refine ⟨{ i : Nat // i ≤ m }, fun x => [(0, .p (.c (.ref 0 0))), (1, one (.int .u32 a)), (6, .p (.c (.ref 6 0))), (7, .p (.c (.ref 7 0))), (8, one (.int .i64 ((x.1 : Int) - 1)))], fun x => memL 0 n p M [.cells 120 [.v (.int .u32 0), .v (.int .u32 0), .v (.bool false)], .cells 120 [.v (.int .u32 (M.load a x.1 (m - x.1))), .v (.int .u32 0), .v (.bool true)]], fun x => x.1,
      ⟨⟨m, by omega⟩, ent_same rfl (aI rfl (aI rfl (aI rfl (aI rfl (aI rfl trivial))))) (aI ((aI rfl (Or.inl rfl))) (aI ((aI rfl (Or.inl rfl))) (aI ((aI rfl (Or.inl rfl))) (aI ((aI rfl (Or.inl rfl))) (aI ((aI rfl (Or.inl rfl))) (aI ((aI rfl (Or.inl rfl))) (aI ((aI rfl (Or.inl rfl))) (aI ((aI rfl (Or.inl (by rw [e0])))) trivial))))))))⟩, fun x => ?_⟩
    obtain ⟨i, hi⟩ := x
    dsimp only
    conv => whnf
    refine ⟨fun hc => ?_, fun hc => ?_⟩
    · have hpos : 0 < i := by simp at hc; omega
      obtain ⟨k, rfl⟩ : ∃ k, i = k + 1 := ⟨i - 1, by omega⟩
      have hk : k < m := by omega
      have hx := right_lt (bad_none hbad k (by omega) (by omega))
      rw [hM.ld] at hx
      have hx0 : 0 ≤ (a + (k : Int)) % 4294967296 := by omega
      obtain ⟨hget, hb0, hb1⟩ := get_byte hM hx0 hx
      have hst := load_step M a hk
      have hlw : word (M.load a (k + 1) (m - (k + 1))) := load_word M a _ _
      rw [show (((k + 1 : Nat) : Int) - 1) = (k : Int) by omega]
      have hl0 : 0 ≤ M.load a (k + 1) (m - (k + 1)) := hlw.1
      conv => whnf
      refine sat_tail 16 mixed (by kernel_rfl) ?_
      conv => whnf
      refine ⟨_, wr32 _, ?_⟩
      conv => whnf
      refine ⟨(k : Int), by rw [wr32]; omega, ?_⟩
      conv => whnf
      refine ⟨(a + (k : Int)) % 4294967296, wr32 _, ?_⟩
      conv => whnf
      refine ⟨⟨by omega, by omega⟩, ?_⟩
      conv => whnf
      rw [show (List.map CV.v M.dV)[0 + ((a + (k : Int)) % 4294967296).toNat * tsz Tryz.prog 5]? = some (.v (byteV (M.get ((a + k) % 4294967296)))) by show (List.map CV.v M.dV)[0 + ((a + (k : Int)) % 4294967296).toNat * 1]? = _; rw [Nat.zero_add, Nat.mul_one]; exact hget]
      conv => whnf
      refine ⟨M.get ((a + k) % 4294967296), by rw [wr32]; omega, ?_⟩
      conv => whnf
      refine ⟨M.load a k (m - k), by rw [wr32, hst]; omega, ?_⟩
      conv => whnf
      refine ⟨_, wr64 (by omega), ?_⟩
      conv => whnf
      exact ⟨⟨k, by omega⟩, ent_same rfl (aI rfl (aI rfl (aI rfl (aI rfl (aI rfl trivial))))) (aI ((aI rfl (Or.inl rfl))) (aI ((aI rfl (Or.inl rfl))) (aI ((aI rfl (Or.inl rfl))) (aI ((aI rfl (Or.inl rfl))) (aI ((aI rfl (Or.inl rfl))) (aI ((aI rfl (Or.inl rfl))) (aI ((aI rfl (Or.inl rfl))) (aI ((aI rfl (Or.inl rfl))) trivial)))))))), by show k < k + 1; omega⟩
    · have hi0 : i = 0 := by simp at hc; omega
      subst hi0
      conv => whnf
      refine ⟨_, _, ent_refl, ?_⟩
      conv => whnf
      exact fin_objs rfl rfl memL_sub (memS_ob n p M) fun w' h1 h2 => ⟨by unfold MemP.loadV; rw [hbad]; rfl, h1, h2⟩
end Go.Proofs.YtnhdcclpjildjaaGreat
namespace Go.Proofs.YtnhdcclpjildjaaGreat
open Go.RowKit
inductive K5 where
  | k0 | k1 | k2 | k3 | k4
/-- Loads taken; then calls made and boxes there; then stores made. -/
inductive KSt where
  | l0 | l1 | l2 | l3
  | c (k : K5) (a b c d : Bool)
  | s1 | s2 | s3 | s4
def K5.ge : K5 → Nat → Bool
  | .k0, _ => false
  | .k1, i => Nat.beq i 0
  | .k2, i => Nat.blt i 2
  | .k3, i => Nat.blt i 3
  | .k4, _ => true
def K5.left : K5 → Nat
  | .k0 => 4
  | .k1 => 3
  | .k2 => 2
  | .k3 => 1
  | .k4 => 0
def KSt.listed : KSt → Array Bool
  | .l0 => #[false, false, false, false, false, false, false, false, false, false, false, false, false, false, false, false]
  | .l1 => #[true, false, false, false, false, false, false, false, false, false, false, false, false, false, false, false]
  | .l2 => #[true, false, true, false, false, false, false, false, false, false, false, false, false, false, false, false]
  | .l3 => #[true, false, true, false, true, false, false, false, false, false, false, false, false, false, false, false]
  | .c k a b e d => #[true, k.ge 0, true, k.ge 1, true, k.ge 2, true, k.ge 3, a, b, e, d, false, false, false, false]
  | .s1 => #[true, true, true, true, true, true, true, true, true, true, true, true, true, false, false, false]
  | .s2 => #[true, true, true, true, true, true, true, true, true, true, true, true, true, true, false, false]
  | .s3 => #[true, true, true, true, true, true, true, true, true, true, true, true, true, true, true, false]
  | .s4 => #[true, true, true, true, true, true, true, true, true, true, true, true, true, true, true, true]
def KSt.calls (a b e d : Bool) : K5 → List (Nat × KSt)
  | .k0 => [(1, .c .k1 a b e d)]
  | .k1 => [(3, .c .k2 a b e d)]
  | .k2 => [(5, .c .k3 a b e d)]
  | .k3 => [(7, .c .k4 a b e d)]
  | .k4 => []
def KSt.box (i : Nat) (y : KSt) : Bool → List (Nat × KSt)
  | false => [(i, y)]
  | true => []
def KSt.last : K5 → Bool → Bool → Bool → Bool → List (Nat × KSt)
  | .k4, true, true, true, true => [(12, .s1)]
  | _, _, _, _, _ => []
def KSt.nx : KSt → Nx KSt
  | .l0 => .q 0 .l1
  | .l1 => .q 2 .l2
  | .l2 => .q 4 .l3
  | .l3 => .q 6 (.c .k0 false false false false)
  | .c k a b e d => .alts (KSt.calls a b e d k ++ (KSt.box 8 (.c k true b e d) a ++ (KSt.box 9 (.c k a true e d) b ++ (KSt.box 10 (.c k a b true d) e ++ (KSt.box 11 (.c k a b e true) d ++ KSt.last k a b e d)))))
  | .s1 => .alts [(13, .s2)]
  | .s2 => .alts [(14, .s3)]
  | .s3 => .alts [(15, .s4)]
  | .s4 => .done
def bleft : Bool → Nat
  | true => 0
  | false => 1
def KSt.left : KSt → Nat
  | .l0 => 16
  | .l1 => 15
  | .l2 => 14
  | .l3 => 13
  | .c k a b e d => 4 + k.left + bleft a + bleft b + bleft e + bleft d
  | .s1 => 3
  | .s2 => 2
  | .s3 => 1
  | .s4 => 0
section
variable (P : Program) (W : World) (G : Gs) (N : Nd) {α : Type}
end
section
variable {P : Program} {W : World} {G : Gs} {N : Nd} {l : List Oper} {T : KSt → Fr} {U : KSt → List Ow}
end
end Go.Proofs.YtnhdcclpjildjaaGreat
namespace Go.Proofs.YtnhdcclpjildjaaGreat
open Go.RowKit

structure FOk (f : QForm) : Prop where
  bits : f.bits = 0 ∨ f.bits = 18 ∨ f.bits = 22
  most : 0 ≤ f.most ∧ f.most ≤ 4
  sgn : f.signed = true → 0 < f.bits ∧ f.most = 0
theorem form_ok (op : Int) : FOk (qForm op) := by
  obtain ⟨h1, h2, h3, h4, _⟩ := qForm_cases op
  exact ⟨h1, ⟨h2, h3⟩, h4⟩
theorem shl1 {b : Nat} (h : b = 18 ∨ b = 22) : IntKind.u32.wrap (1 * 2 ^ (min (b : Int).toNat IntKind.u32.bits)) = 2 ^ b := by
  rcases h with rfl | rfl <;> rfl
theorem conv64 {b : Nat} (h : b = 18 ∨ b = 22) : IntKind.u64.wrap (b : Int) = (b : Int) := by
  rcases h with rfl | rfl <;> rfl
set_option maxRecDepth 100000 in
set_option maxHeartbeats 1000000 in
theorem valid_ref03 (i : QI) (w : World) (h : 0 ≤ i.op ∧ i.op < 64) (hi : word i.imm) : Calls Tryz.prog 64 #[qiV i] w fun e w' => e = .returned (.bool (validQ i)) ∧ Below w.heap.size w w' := by
  refine calls_valN [qiV i] Tryz.func64 Tryz.ntmps64 rfl (by simp) ?_
  conv => whnf
  refine call_con rfl (by kernel_rfl) (fun r w' _ => of_ref i.op w' h) ?_
  have hf := form_ok i.op
  unfold validQ
  generalize qForm i.op = f at hf
  conv => whnf
  have e1 : ∀ (n : Int) (u : Bool), regB n u = true ∨ regB n u = false := fun n u => by cases regB n u <;> simp
  refine ⟨fun h1 => ?_, fun h1 => ?_⟩
  · conv => whnf
    refine fin_val rfl fun w' hB => ⟨?_, hB⟩
    have : f.is = false := by simpa using h1
    rw [this]; rfl
  have his : f.is = true := by simpa using h1
  conv => whnf
  refine call_con rfl (by kernel_rfl) (fun r w' _ => reg_ref i.d f.d w') ?_
  conv => whnf
  refine call_con rfl (by kernel_rfl) (fun r w' _ => reg_ref i.a f.a w') ?_
  conv => whnf
  refine call_con rfl (by kernel_rfl) (fun r w' _ => reg_ref i.b f.b w') ?_
  rw [his]
  generalize regB i.d f.d = x1
  generalize regB i.a f.a = x2
  generalize regB i.b f.b = x3
  cases x1 <;> cases x2 <;> cases x3 <;> ((conv => whnf); (repeat (first | (refine ⟨fun _ => ?_, (fun h => Bool.noConfusion (show true = false from h))⟩; (conv => whnf)) | (refine ⟨fun _ => ?_, (fun h => Bool.noConfusion (show false = true from h))⟩; (conv => whnf)) | (refine ⟨(fun h => Bool.noConfusion (show false = true from h)), fun _ => ?_⟩; (conv => whnf)) | (refine ⟨(fun h => Bool.noConfusion (show true = false from h)), fun _ => ?_⟩; (conv => whnf)) | (refine ⟨fun _ => ?_, (fun h => absurd h (by decide))⟩; (conv => whnf)) | (refine ⟨(fun h => absurd h (by decide)), fun _ => ?_⟩; (conv => whnf)))))
  all_goals first | exact fin_val rfl fun w' hB => ⟨rfl, hB⟩ | skip
  obtain ⟨is, fd, fa, fb, fs, fbits, fmost⟩ := f
  obtain ⟨hb, hm, hs⟩ := hf
  dsimp only at hb hm hs his ⊢
  rcases hb with rfl | hb
  · (repeat (first | (refine ⟨fun _ => ?_, (fun h => Bool.noConfusion (show true = false from h))⟩; (conv => whnf)) | (refine ⟨fun _ => ?_, (fun h => Bool.noConfusion (show false = true from h))⟩; (conv => whnf)) | (refine ⟨(fun h => Bool.noConfusion (show false = true from h)), fun _ => ?_⟩; (conv => whnf)) | (refine ⟨(fun h => Bool.noConfusion (show true = false from h)), fun _ => ?_⟩; (conv => whnf)) | (refine ⟨fun _ => ?_, (fun h => absurd h (by decide))⟩; (conv => whnf)) | (refine ⟨(fun h => absurd h (by decide)), fun _ => ?_⟩; (conv => whnf))))
    conv => whnf
    exact fin_val rfl fun w' hB => ⟨rfl, hB⟩
  have hb0 : ¬ fbits = 0 := by omega
  refine ⟨fun hc => absurd hc (by simp; omega), fun _ => ?_⟩
  conv => whnf
  cases fs with
  | true =>
    (repeat (first | (refine ⟨fun _ => ?_, (fun h => Bool.noConfusion (show true = false from h))⟩; (conv => whnf)) | (refine ⟨fun _ => ?_, (fun h => Bool.noConfusion (show false = true from h))⟩; (conv => whnf)) | (refine ⟨(fun h => Bool.noConfusion (show false = true from h)), fun _ => ?_⟩; (conv => whnf)) | (refine ⟨(fun h => Bool.noConfusion (show true = false from h)), fun _ => ?_⟩; (conv => whnf)) | (refine ⟨fun _ => ?_, (fun h => absurd h (by decide))⟩; (conv => whnf)) | (refine ⟨(fun h => absurd h (by decide)), fun _ => ?_⟩; (conv => whnf))))
    conv => whnf
    refine call_con rfl (by kernel_rfl) (fun r w' _ => fits_ref i.imm fbits w' hi (.inr hb)) ?_
    conv => whnf
    refine fin_val rfl fun w' hB => ⟨?_, hB⟩
    simp [immB, hb0]
  | false =>
    (repeat (first | (refine ⟨fun _ => ?_, (fun h => Bool.noConfusion (show true = false from h))⟩; (conv => whnf)) | (refine ⟨fun _ => ?_, (fun h => Bool.noConfusion (show false = true from h))⟩; (conv => whnf)) | (refine ⟨(fun h => Bool.noConfusion (show false = true from h)), fun _ => ?_⟩; (conv => whnf)) | (refine ⟨(fun h => Bool.noConfusion (show true = false from h)), fun _ => ?_⟩; (conv => whnf)) | (refine ⟨fun _ => ?_, (fun h => absurd h (by decide))⟩; (conv => whnf)) | (refine ⟨(fun h => absurd h (by decide)), fun _ => ?_⟩; (conv => whnf))))
    conv => whnf
    refine ⟨fun hc => ?_, fun hc => ?_⟩
    · conv => whnf
      refine fin_val rfl fun w' hB => ⟨?_, hB⟩
      have : 0 < fmost := by simpa using hc
      simp [immB, hb0, this]
    · conv => whnf
      refine ⟨_, conv64 hb, ?_⟩
      conv => whnf
      refine ⟨by omega, _, shl1 hb, ?_⟩
      conv => whnf
      refine fin_val rfl fun w' hB => ⟨?_, hB⟩
      have : ¬ 0 < fmost := by simpa using hc
      simp [immB, hb0, this]
end Go.Proofs.YtnhdcclpjildjaaGreat
namespace Go.Proofs.YtnhdcclpjildjaaGreat
open Go.RowKit

/-- A call whose result is a new state of the call's memory. -/
structure KillS (P : Program) (w0 : World) (G : Gs) (fid : FuncId) (args : List AV) (f : Fr) (S : List Ow) (K : AV → Fr → List Ow → Prop) : Prop where
  ok : fnOk P fid = true
  out : ∀ r w us, Rel w0 G S r w → avdenL r args us → Calls P fid us.toArray w fun e w' => ∃ u x f2 S2 r2, e = .returned u ∧ Rel w0 G S2 r2 w' ∧ (∀ a, FDen r f a → FDen r2 f2 a) ∧ x.den r2 u ∧ K x f2 S2
section
variable {P : Program} {w0 : World} {G : Gs} {N : Nd} {c d : Code} {f : Fr} {S : List Ow} {Q : Exit → Act → World → Prop}
end
end Go.Proofs.YtnhdcclpjildjaaGreat
namespace Go.Proofs.YtnhdcclpjildjaaGreat
open Go.RowKit

structure JmpG (P : Program) (w0 : World) (G : Gs) (fid : FuncId) (args : List AV) (f : Fr) (S : List Ow) (K : AV → World → Gs → Fr → List Ow → Prop) : Prop where
  ok : fnOk P fid = true
  out : ∀ r w us, Rel w0 G S r w → avdenL r args us → Calls P fid us.toArray w fun e w' => ∃ u x w2 G2 f2 S2 r2, e = .returned u ∧ Rel w2 G2 S2 r2 w' ∧ (∀ a, FDen r f a → FDen r2 f2 a) ∧ x.den r2 u ∧ K x w2 G2 f2 S2
section
variable {P : Program} {w0 : World} {G : Gs} {N : Nd} {c d : Code} {f : Fr} {S : List Ow} {Q : Exit → Act → World → Prop}
end
end Go.Proofs.YtnhdcclpjildjaaGreat
namespace Go.Proofs.YtnhdcclpjildjaaGreat
open Go.RowKit

theorem ble_no {n k : Nat} (h : k < n) : Nat.ble n k = false := by
  cases e : Nat.ble n k
  · rfl
  · exact absurd (Nat.le_of_ble_eq_true e) (by omega)
def MemP.put (M : MemP) (y v : Int) : MemP := { M with data := M.data.set y.toNat v }
def MemP.store (a : Int) : Nat → Nat → Int → MemP → MemP
  | _, 0, _, M => M
  | i, k + 1, x, M => MemP.store a (i + 1) k (x / 256) (M.put ((a + i) % 4294967296) (x % 256))
def MemP.storeM (M : MemP) (a : Int) (m : Nat) (x : Int) : MemP := match M.bad a 2 0 m with | none => MemP.store a 0 m x M | some _ => M
theorem store_step (M : MemP) (a x : Int) {i m : Nat} (h : i < m) : MemP.store a i (m - i) x M = MemP.store a (i + 1) (m - (i + 1)) (x / 256) (M.put ((a + i) % 4294967296) (x % 256)) := by
  obtain ⟨k, hk⟩ : ∃ k, m - i = k + 1 := ⟨m - i - 1, by omega⟩
  rw [hk, show m - (i + 1) = k by omega]; rfl
theorem put_ok {M : MemP} {n p : Nat} (hM : M.ok n p) (y : Int) {v : Int} (hv : 0 ≤ v ∧ v < 256) : (M.put y v).ok n p :=
  ⟨by show (M.data.set y.toNat v).length = n; rw [List.length_set]; exact hM.ld, hM.li, hM.lr, hM.lod, hM.loi, hM.np, hM.pmax, fun z hz => by
    rcases List.mem_or_eq_of_mem_set hz with h | h
    · exact hM.db z h
    · rw [h]; exact hv, hM.ib, hM.rb⟩
theorem store_ok {n p : Nat} (a : Int) : ∀ (i k : Nat) (x : Int) {M : MemP}, M.ok n p → 0 ≤ x → (MemP.store a i k x M).ok n p
  | _, 0, _, M, h, _ => h
  | i, k + 1, x, M, h, hx => store_ok a (i + 1) k (x / 256) (put_ok h _ (by omega)) (by omega)
theorem storeM_ok {M : MemP} {n p : Nat} (hM : M.ok n p) (a : Int) (m : Nat) {x : Int} (hx : 0 ≤ x) : (M.storeM a m x).ok n p := by
  unfold MemP.storeM
  split
  · exact store_ok a 0 m x hM hx
  · exact hM
theorem set_vals (us : List Value) (i : Nat) (u : Value) : setAll (us.map CV.v) i [.v u] = (us.set i u).map CV.v := by
  show (us.map CV.v).set i (.v u) = _
  rw [List.map_set]
theorem put_dV (M : MemP) {y : Int} (v : Int) (h : y.toNat < M.data.length) : M.dV.set y.toNat (byteV v) = (M.put y v).dV := tail_set h
set_option maxRecDepth 100000 in
theorem mem_store (M : MemP) (n p : Nat) (a : Int) (m : Nat) (x : Int) (w : World) (g : Nat) (gs : List Nat) (hU : ObjsAt w (g :: gs) (memS 0 n p M)) (hM : M.ok n p) (ha : word a) (hm : 1 ≤ m ∧ m ≤ 4) (hx : word x) :
    Calls Tryz.prog 56 #[.pointer (some ⟨g, 0, none⟩), .int .u32 a, .int .i64 (m : Int), .int .u32 x] w fun e w' => e = .returned (checkV (M.bad a 2 0 m)) ∧ ObjsAt w' (g :: gs) (memS 0 n p (M.storeM a m x)) ∧ GrownBys w w' (g :: gs) := by
  obtain ⟨g0, g1, g2, g3, g4, g5, hg⟩ := six_blocks hU
  injection hg with hg0 hgs
  subst hgs; subst hg0
  refine calls_objs [.p (.c (.ref 0 0)), one (.int .u32 a), one (.int .i64 (m : Int)), one (.int .u32 x)] [.pointer (some ⟨g, 0, none⟩), .int .u32 a, .int .i64 (m : Int), .int .u32 x] Tryz.func56 Tryz.ntmps56 rfl (by simp) hU ⟨_, _, rfl, den_mk_ref rfl, avdenL_of [.int .u32 a, .int .i64 (m : Int), .int .u32 x]⟩ ?_
  conv => whnf
  refine call_memR (pre := []) (suf := [one (.int .u32 a), one (.int .i64 (m : Int)), one (.int .i64 2)]) 0 n p M (checkV (M.bad a 2 0 m)) memL_six rfl rfl (by kernel_rfl) (fun w' g gs hk hU => mem_check M n p a 2 m w' g gs hU hM ha (.inr (.inl rfl)) hm) ?_
  cases hbad : M.bad a 2 0 m with
  | some y =>
    conv => whnf
    refine ⟨fun hc => absurd hc (by decide), fun _ => ?_⟩
    conv => whnf
    exact fin_objs rfl rfl memL_sub (memS_ob n p M) fun w' h1 h2 => ⟨rfl, by unfold MemP.storeM; rw [hbad]; exact h1, h2⟩
  | none =>
    conv => whnf
    refine ⟨fun _ => ?_, fun hc => absurd hc (by decide)⟩
    conv => whnf
    refine ⟨{ y : Nat × Int × MemP // y.1 ≤ m ∧ y.2.2.ok n p ∧ word y.2.1 ∧ MemP.store a 0 m x M = MemP.store a y.1 (m - y.1) y.2.1 y.2.2 }, fun y => [(0, .p (.c (.ref 0 0))), (1, one (.int .u32 a)), (2, one (.int .i64 (m : Int))), (3, one (.int .u32 y.1.2.1)), (8, .p (.c (.ref 6 0))), (9, .p (.c (.ref 7 0))), (10, one (.int .i64 (y.1.1 : Int)))], fun y => memL 0 n p y.1.2.2 [.cells 120 [.v (.int .u32 0), .v (.int .u32 0), .v (.bool false)], .cells 120 [.v (.int .u32 0), .v (.int .u32 0), .v (.bool true)]], fun y => m - y.1.1,
      ⟨⟨(0, x, M), by show 0 ≤ m; omega, hM, hx, rfl⟩, ent_same rfl (aI rfl (aI rfl (aI rfl (aI rfl (aI rfl (aI rfl (aI rfl trivial))))))) (aI ((aI rfl (Or.inl rfl))) (aI ((aI rfl (Or.inl rfl))) (aI ((aI rfl (Or.inl rfl))) (aI ((aI rfl (Or.inl rfl))) (aI ((aI rfl (Or.inl rfl))) (aI ((aI rfl (Or.inl rfl))) (aI ((aI rfl (Or.inl rfl))) (aI ((aI rfl (Or.inl rfl))) trivial))))))))⟩, fun y => ?_⟩
    obtain ⟨⟨i, z, Q⟩, hi, hQ, hz, heq⟩ := y
    dsimp only at hi hQ hz heq ⊢
    conv => whnf
    refine ⟨fun hc => ?_, fun hc => ?_⟩
    · have hlt : i < m := by simpa using hc
      have hidx := right_lt (bad_none hbad i (by omega) (by omega))
      rw [hM.ld] at hidx
      have hx0 : 0 ≤ (a + (i : Int)) % 4294967296 := by omega
      have hz' : 0 ≤ z ∧ z < 4294967296 := hz
      have hnp := hM.np
      have hlen : n ≤ (List.map CV.v Q.dV).length := tail_le hQ.ld
      conv => whnf
      refine ⟨(i : Int), by rw [wr32]; omega, ?_⟩
      conv => whnf
      refine ⟨(a + (i : Int)) % 4294967296, wr32 _, ?_⟩
      conv => whnf
      refine ⟨z % 256, rfl, ?_⟩
      conv => whnf
      refine ⟨⟨by omega, by omega⟩, ?_⟩
      conv => whnf
      rw [show Nat.ble (0 + ((a + (i : Int)) % 4294967296).toNat * tsz Tryz.prog 5 + [CV.v (Value.int IntKind.u8 (z % 256))].length) (List.map CV.v Q.dV).length = true from Nat.ble_eq_true_of_le (by refine Nat.le_trans ?_ hlen; show 0 + _ * 1 + 1 ≤ n; omega)]
      conv => whnf
      rw [show Nat.ble (List.map CV.v Q.dV).length 8 = false from ble_no (by omega)]
      conv => whnf
      refine ⟨by decide, z / 256, by rw [Int.tdiv_eq_ediv_of_nonneg hz'.1, wr32]; omega, ?_⟩
      conv => whnf
      refine ⟨_, wr64 (by omega), ?_⟩
      conv => whnf
      have hset : setAll (List.map CV.v Q.dV) (0 + ((a + (i : Int)) % 4294967296).toNat * tsz Tryz.prog 5) [CV.v (Value.int IntKind.u8 (z % 256))] = List.map CV.v (Q.put ((a + (i : Int)) % 4294967296) (z % 256)).dV := by
        rw [set_vals, ← put_dV Q _ (by rw [hQ.ld]; omega)]
        show List.map CV.v (Q.dV.set (0 + ((a + (i : Int)) % 4294967296).toNat * 1) _) = _
        rw [Nat.zero_add, Nat.mul_one]
      exact ⟨⟨(i + 1, z / 256, Q.put ((a + (i : Int)) % 4294967296) (z % 256)), by show i + 1 ≤ m; omega, put_ok hQ _ (by omega), (by show 0 ≤ z / 256 ∧ z / 256 < 4294967296; omega), by rw [heq, store_step Q a z hlt]⟩, ent_same rfl (aI rfl (aI rfl (aI rfl (aI rfl (aI rfl (aI rfl (aI rfl trivial))))))) (aI ((aI rfl (Or.inl rfl))) (aI ((aI rfl (Or.inl hset))) (aI ((aI rfl (Or.inl rfl))) (aI ((aI rfl (Or.inl rfl))) (aI ((aI rfl (Or.inl rfl))) (aI ((aI rfl (Or.inl rfl))) (aI ((aI rfl (Or.inl rfl))) (aI ((aI rfl (Or.inl rfl))) trivial)))))))), by show m - (i + 1) < m - i; omega⟩
    · have hie : i = m := by simp at hc; omega
      subst hie
      rw [Nat.sub_self] at heq
      conv => whnf
      refine ⟨_, _, ent_refl, ?_⟩
      conv => whnf
      exact fin_objs rfl rfl memL_sub (memS_ob n p Q) fun w' h1 h2 => ⟨rfl, by unfold MemP.storeM; rw [hbad]; show ObjsAt w' _ (memS 0 n p (MemP.store a 0 i x M)); rw [heq]; exact h1, h2⟩
end Go.Proofs.YtnhdcclpjildjaaGreat
namespace Go.Proofs.YtnhdcclpjildjaaGreat
open Go.RowKit

def MemP.setI (M : MemP) (i : Nat) (v : Int) : MemP := { M with image := M.image.set i v }
def MemP.syncTo (M : MemP) (b : Nat) : Nat → MemP
  | 0 => M
  | j + 1 => (M.syncTo b j).setI (b + j) (M.get ((b + j : Nat) : Int))
theorem setI_ok {M : MemP} {n p : Nat} (hM : M.ok n p) (i : Nat) {v : Int} (hv : 0 ≤ v ∧ v < 256) : (M.setI i v).ok n p := by
  refine ⟨hM.ld, by show (M.image.set i v).length = n; rw [List.length_set]; exact hM.li, hM.lr, hM.lod, hM.loi, hM.np, hM.pmax, hM.db, fun x hx => ?_, hM.rb⟩
  rcases List.mem_or_eq_of_mem_set hx with h | h
  · exact hM.ib x h
  · rw [h]; exact hv
theorem syncTo_ok {M : MemP} {n p : Nat} (hM : M.ok n p) (b : Nat) : ∀ j, (M.syncTo b j).ok n p
  | 0 => hM
  | j + 1 => setI_ok (syncTo_ok hM b j) _ (by
      unfold MemP.get
      cases h : M.data[((b + j : Nat) : Int).toNat]? with
      | none => simp
      | some x => exact hM.db x (List.mem_of_getElem? h))
theorem syncTo_data (M : MemP) (b : Nat) : ∀ j, (M.syncTo b j).data = M.data ∧ (M.syncTo b j).rights = M.rights ∧ (M.syncTo b j).oldData = M.oldData ∧ (M.syncTo b j).oldImage = M.oldImage
  | 0 => ⟨rfl, rfl, rfl, rfl⟩
  | j + 1 => syncTo_data M b j
theorem setI_iV (M : MemP) {i : Nat} (v : Int) (h : i < M.image.length) : M.iV.set i (byteV v) = (M.setI i v).iV := tail_set h
end Go.Proofs.YtnhdcclpjildjaaGreat
