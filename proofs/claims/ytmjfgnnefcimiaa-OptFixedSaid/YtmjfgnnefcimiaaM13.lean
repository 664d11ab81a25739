/- Drawn regions in whatever order, over states that are known part by part: some operations are taken first, for the others each order is gone through. Functions that turn one block of their caller's and hand back a new row; walks cut in two. Walks: the maker of blocks: an instruction. Walks piece by piece: loops, conditions, regions whose guards are known; nil cells as rows; three rows handed back. Plain: the blocks that the maker makes are valid. Walks: the maker of blocks: Made of layer 12. Plain: an operation that only writes a variable, replaced by one that writes the same variable: the block stays valid. -/
import Derived.Test.YtmjfgnnefcimiaaM12
namespace Go.Proofs.Ytmjfgnnefcimiaa
open Go.RowKit
/-- How the orders are gone through: all have come; number i is taken first; number i comes up, or else what follows; nothing else comes up. -/
inductive Tr where
  | done
  | q (i : Nat) (t : Tr)
  | alt (i : Nat) (t more : Tr)
  | no
def Tr.alts : Tr → List Nat
  | .alt i _ more => i :: more.alts
  | _ => []
def Tr.depth : Tr → Nat
  | .done => 0
  | .no => 0
  | .q _ t => t.depth + 1
  | .alt _ t more => max (t.depth + 1) more.depth
def Tr.ok (ops : Array Oper) : Tr → Bool → Array Bool → Bool
  | .done, inner, listed => !inner && (Region.ready .any ops listed).isEmpty
  | .q i t, inner, listed => !inner && Region.free .any ops listed i && (Region.ready .any ops listed).contains i && t.ok ops false (listed.setIfInBounds i true)
  | .alt i t more, inner, listed => (inner || Region.ready .any ops listed == i :: more.alts) && t.ok ops false (listed.setIfInBounds i true) && more.ok ops true listed
  | .no, inner, _ => inner
section
variable (P : Program) (W : World) (N : Nd)
/-- What is taken first: it yields the same whatever comes before it. -/
def firstK (f : Fr) (T : List Ow) (o : Oper) (K : AV → Prop) : Prop :=
  match o.op with
  | .move x => forceAV (f.ev x) K
  | .assign x => forceAV (f.ev x) K
  | .fieldAddr s x k => (match f.ev x with
    | .p (.c (.ref i off)) => (match fldOff P s k with | some n => K (.p (.c (.ref i (off + n)))) | none => False)
    | _ => (match opTy P o.op with | true => qop P W Gs.nil [] (plainF f) o K | false => False))
  | .build t parts => buildK P T f t parts K
  | _ => (match opTy P o.op with | true => qop P W Gs.nil [] (plainF f) o K | false => False)
def trK (ops : Array Oper) (l : List Oper) : Tr → Fr → List Ow → (Fr → List Ow → Prop) → Prop
  | .done, f, T, K => K f T
  | .no, _, _, _ => True
  | .q i t, f, T, K => (match l[i]? with
    | none => False
    | some o => (match dstOk N.n o.dst with
      | false => False
      | true => (match guardOf ops f o with
        | some true => firstK P W f T o fun v => f.putK o.dst v fun f' => trK ops l t f' T K
        | some false => f.putK o.dst (.p (.c .any)) fun f' => trK ops l t f' T K
        | none => False)))
  | .alt i t more, f, T, K => (match l[i]? with
    | none => False
    | some o => (match guardOf ops f o with
        | some true => opK P W Gs.nil N o f T fun f' T' => trK ops l t f' T' K
        | _ => False)) ∧ trK ops l more f T K
end
section
variable {P : Program} {W : World} {N : Nd} {ops : Array Oper} {l : List Oper}
theorem firstK_sound {f : Fr} {T : List Ow} {o : Oper} {K : AV → Prop} (h : firstK P W f T o K) {r : Env} {w : World} (hR : Rel W Gs.nil T r w) {a : Act} (hf : FDen r f a) :
    ∃ v u, K v ∧ v.den r u ∧ ∀ w', Below W.heap.size W w' → (execOp a.eval o).run P w' = .ok (.value u) w' := by
  have plain : (match opTy P o.op with | true => qop P W Gs.nil [] (plainF f) o K | false => False) → ∃ v u, K v ∧ v.den r u ∧ ∀ w', Below W.heap.size W w' → (execOp a.eval o).run P w' = .ok (.value u) w' := fun h => by
    split at h
    · rename_i hty
      obtain ⟨v, u, hK, hden, hrun⟩ := qop_sound h hty (rel_none W) (plain_den hf)
      exact ⟨v, u, hK, AV.den_mono ⟨(fun i b h => by cases h), (fun i b h => by cases h)⟩ _ _ hden, hrun⟩
    · exact h.elim
  unfold firstK at h
  split at h
  · rename_i x hop
    exact ⟨_, _, forceAV_iff.1 h, hf.ev x, fun w' _ => by simp [execOp, hop]⟩
  · rename_i x hop
    exact ⟨_, _, forceAV_iff.1 h, hf.ev x, fun w' _ => by simp [execOp, hop]⟩
  · rename_i s x k hop
    split at h
    · rename_i i off he
      split at h
      · rename_i n hn
        have hx := hf.ev x
        rw [he] at hx
        obtain ⟨b, hb, hu⟩ := den_ref hx
        exact ⟨_, _, h, den_mk_ref hb, fun w' _ => by simp [execOp, hop, hu, run_fieldAt hn]⟩
      · exact h.elim
    · exact plain h
  · rename_i t parts hop
    obtain ⟨v, u, hK, hd, hrun⟩ := buildK_sound hR hf h
    exact ⟨v, u, hK, hd, fun w' _ => by simp [execOp, hop, hrun w']⟩
  · exact plain h
theorem trK_sound (hl : ∀ i : Nat, l[i]? = ops[i]?) (hns : Region.noSelect ops = true) {K : Fr → List Ow → Prop} {Q : Exit → Act → World → Prop} (hQ0 : ∀ c a w, ¬ Q (.panic c) a w) (hQ : ∀ f T a w, K f T → Good W Gs.nil N f T a w → Q .normal a w) :
    ∀ (t : Tr) (inner : Bool) (listed : Array Bool) (f : Fr) (T : List Ow) (n : Nat), t.ok ops inner listed = true → t.depth ≤ n → trK P W N ops l t f T K → ∀ a w, Good W Gs.nil N f T a w →
      (inner = false → wpAnyH P .any ops Q (fun w' => Below W.heap.size W w') n listed a w) ∧
      (∀ m, n = m + 1 → ∀ i ∈ t.alts, wpOp P ops Q i (fun a' w' => Below W.heap.size W w' ∧ wpAnyH P .any ops Q (fun w' => Below W.heap.size W w') m (listed.setIfInBounds i true) a' w') a w)
  | .done, inner, listed, f, T, n, hB, _, h, a, w, hg => by
    refine ⟨fun _ => wpAnyH_done (by simp [Tr.ok] at hB; exact hB.2) (hQ f T a w h hg) _, fun m _ i hi => by cases hi⟩
  | .no, inner, listed, f, T, n, hB, _, h, a, w, hg => by
    refine ⟨fun he => ?_, fun m _ i hi => by cases hi⟩
    simp [Tr.ok] at hB; rw [hB] at he; cases he
  | .q i t, inner, listed, f, T, n, hB, hn, h, a, w, hg => by
    refine ⟨fun _ => ?_, fun m _ i hi => by cases hi⟩
    simp only [Tr.ok, Bool.and_eq_true] at hB
    obtain ⟨⟨⟨_, hB1⟩, hB2⟩, hB3⟩ := hB
    simp only [Tr.depth] at hn
    obtain ⟨n, rfl⟩ : ∃ k, n = k + 1 := ⟨n - 1, by omega⟩
    unfold trK at h
    split at h
    · exact h.elim
    · rename_i o ho
      rw [hl] at ho
      split at h
      · exact h.elim
      · rename_i hdst
        obtain ⟨r, hR, hf, hN, hd⟩ := hg
        split at h
        · rename_i hgd
          have hw := guard_wanted hf hgd
          obtain ⟨v, u, hK, hden, hrun⟩ := firstK_sound h hR hf
          have hK := putK_iff.1 hK
          refine wpAnyH_take (v := u) ho hns hB1 hB2 (fun c a w h => absurd h (hQ0 c _ w)) (.inl ⟨hw, hrun⟩) hR.toBelow ?_
          exact (trK_sound hl hns hQ0 hQ t false _ _ T n hB3 (by omega) hK _ w ⟨r, hR, hf.put hden (by rw [hN]; exact hdst), (put_size a _ _).trans hN, (put_defers a _ _).trans hd⟩).1 rfl
        · rename_i hgd
          have hw := guard_wanted hf hgd
          have hK := putK_iff.1 h
          refine wpAnyH_take (v := undef) ho hns hB1 hB2 (fun c a w h => absurd h (hQ0 c _ w)) (.inr ⟨hw, rfl⟩) hR.toBelow ?_
          exact (trK_sound hl hns hQ0 hQ t false _ _ T n hB3 (by omega) hK _ w ⟨r, hR, hf.putAny _ (by rw [hN]; exact hdst), (put_size a _ _).trans hN, (put_defers a _ _).trans hd⟩).1 rfl
        · exact h.elim
  | .alt i t more, inner, listed, f, T, n, hB, hn, h, a, w, hg => by
    simp only [Tr.ok, Bool.and_eq_true] at hB
    obtain ⟨⟨hB1, hB2⟩, hB3⟩ := hB
    simp only [Tr.depth] at hn
    unfold trK at h
    obtain ⟨h1, h2⟩ := h
    have all : ∀ m, n = m + 1 → ∀ j ∈ (Tr.alt i t more).alts, wpOp P ops Q j (fun a' w' => Below W.heap.size W w' ∧ wpAnyH P .any ops Q (fun w' => Below W.heap.size W w') m (listed.setIfInBounds j true) a' w') a w := by
      intro m hm j hj
      simp only [Tr.alts, List.mem_cons] at hj
      rcases hj with rfl | hj
      · split at h1
        · exact h1.elim
        · rename_i o ho
          rw [hl] at ho
          obtain ⟨r, hR, hf, hN, hd⟩ := hg
          split at h1
          · rename_i hgd
            have hw := guard_wanted hf hgd
            unfold wpOp
            simp only [ho, hw, if_true]
            refine .inl (se_wp ((opK_sound h1).out r a w hR hf hN hd (fun a' w' => Below W.heap.size W w' ∧ wpAnyH P .any ops Q (fun w' => Below W.heap.size W w') m (listed.setIfInBounds j true) a' w') Q fun f' T' a' w' hk hg' => ?_) fun _ _ h => h)
            refine ⟨?_, (trK_sound hl hns hQ0 hQ t false _ f' T' m hB2 (by omega) hk a' w' hg').1 rfl⟩
            obtain ⟨r', hR', _⟩ := hg'
            exact hR'.toBelow
          · exact h1.elim
      · exact (trK_sound hl hns hQ0 hQ more true listed f T n hB3 (by omega) h2 a w hg).2 m hm j hj
    refine ⟨fun he => ?_, all⟩
    obtain ⟨m, rfl⟩ : ∃ k, n = k + 1 := ⟨n - 1, by omega⟩
    have hr : Region.ready .any ops listed = (Tr.alt i t more).alts := by
      rw [he] at hB1
      simpa [Tr.alts] using hB1
    exact wpAnyH_all hr (by simp [Tr.alts]) (all m rfl)
/-- A drawn region, by the tree of its orders. -/
theorem sat_any {id : Nat} {l : List Oper} {f : Fr} {S : List Ow} {K : Exit → Fr → List Ow → Prop} (t : Tr) (hm : P.follows .mixedOrders = true) (hns : Region.noSelect l.toArray = true) (hB : (t.ok l.toArray false (Array.replicate l.toArray.size false) && Nat.ble t.depth l.length) = true)
    (h : trK P W N l.toArray l t f S (K .normal)) : Sat none P W Gs.nil N (.region id l.toArray true) f S K := by
  refine ⟨fun n a w ⟨r, hR, hf, hN, hd⟩ => wpIn_wide.2 ?_⟩
  simp only [Bool.and_eq_true] at hB
  refine Code.wp_mono (Q := fun e a w => match e with | .normal => PostK W Gs.nil N K .normal a w | _ => False) (fun e a w h => by cases e <;> first | exact h | exact h.elim) (wp_region_held (S := fun w' => Below W.heap.size W w') hm ?_)
  have := (trK_sound (P := P) (W := W) (N := N) (Q := fun e a w => match e with | .normal => PostK W Gs.nil N K .normal a w | _ => False) (fun i => by simp) hns (fun c a w h => h) (fun f T a w hk hg => ⟨f, T, hk, hg⟩) t false _ f S l.length hB.1 (Nat.le_of_ble_eq_true hB.2) h a w.drew ⟨r, hR.drew, hf, hN, hd⟩).1 rfl
  simpa using this
end
end Go.Proofs.Ytmjfgnnefcimiaa
namespace Go.Proofs.Ytmjfgnnefcimiaa
open Go.RowKit
section
variable {w0 : World} {G : Gs} {S : List Ow} {r : Env} {w : World}
/-- The block of own entry i turned, and a new entry. -/
theorem Rel.snocG (h : Rel w0 G S r w) {i g : Nat} (hi : r.blk i = some g) {w' : World} (hg : w.grownBy w' (some g)) {o1 o : Ow} {b : Option Nat} {v : Option Value} (hnb : ∀ x, b = some x → w.heap.size ≤ x ∧ x < w'.heap.size) (ho1 : o1.holds (r.set S.length b v) w' i) (ho : o.holds (r.set S.length b v) w' S.length) :
    Rel w0 G (S.set i o1 ++ [o]) (r.set S.length b v) w' := by
  have hle := h.le_new b v
  have hil := h.lt_of_blk hi
  have hlen : (S.set i o1).length = S.length := by simp
  refine ⟨hg.os.trans h.os, hg.tape.trans h.tape, hg.output.trans h.output, Nat.le_trans h.size hg.size, fun k hk hkG => ?_, fun j o' hj => ?_, fun a c x hx hy => ?_, fun a x hx => ?_, fun a ha => ?_, fun a ha => ?_, fun a x hx => hle.blk _ _ (h.first a x hx)⟩
  · rw [hg.block k (Nat.lt_of_lt_of_le hk h.size) (fun e => by injection e with e; subst e; exact hkG ((h.new i k hi).2 hk))]
    exact h.old k hk hkG
  · rcases get_snoc hj with ⟨h1, h2⟩ | ⟨h1, h2⟩
    · by_cases hij : i = j
      · subst hij
        rw [List.getElem?_set_self hil] at h2
        injection h2 with h2; subst h2; exact ho1
      · rw [List.getElem?_set_ne hij] at h2
        refine Ow.holds_block (Ow.holds_mono hle (h.own j o' h2) (by simp only [Env.set]; rw [if_neg (by omega)]) (fun k x hk => ?_)) (fun x hx => ?_) hg.size (fun x hx hno => hg.block x hx (fun e => by injection e with e; subst e; exact hno i (hle.blk _ _ hi)))
        · simp only [Env.set] at hk
          split at hk
          · exact .inr (hnb x hk).1
          · exact .inl hk
        · simp only [Env.set] at hx
          rw [if_neg (by omega)] at hx
          exact hg.block x (h.new j x hx).1 (fun e => by injection e with e; subst e; exact hij (h.inj i j _ hi hx))
    · rw [hlen] at h1
      subst h1; subst h2; exact ho
  · simp only [Env.set] at hx hy
    split at hx <;> split at hy
    · omega
    · have h1 := (hnb x hx).1
      have h2 := (h.new _ _ hy).1
      omega
    · have h1 := (hnb x hy).1
      have h2 := (h.new _ _ hx).1
      omega
    · exact h.inj _ _ _ hx hy
  · simp only [Env.set] at hx
    split at hx
    · refine ⟨(hnb x hx).2, fun hlt => ?_⟩
      have := (hnb x hx).1
      have := h.size
      omega
    · exact ⟨Nat.lt_of_lt_of_le (h.new a x hx).1 hg.size, (h.new a x hx).2⟩
  · simp only [List.length_append, hlen, List.length_cons, List.length_nil] at ha
    simp only [Env.set]; rw [if_neg (by omega)]; exact h.outB a (by omega)
  · simp only [List.length_append, hlen, List.length_cons, List.length_nil] at ha
    simp only [Env.set]; rw [if_neg (by omega)]; exact h.outV a (by omega)
end
theorem own_new {w' : World} {B : Nat} {e : TypeId} {size n : Nat} {v : Value} {ys : List Value} (hown : w'.ownsRow B e size v n ys) : ∀ x, v.ownBlock = some x → B ≤ x ∧ x < w'.heap.size := by
  intro x hx
  rcases hown.2 with ⟨h1, _⟩ | ⟨g, cap, cur, h1, hg, hh, _⟩
  · rw [h1] at hx; cases hx
  · rw [h1] at hx; simp [Value.ownBlock] at hx; subst hx
    refine ⟨hg, ?_⟩
    rcases Nat.lt_or_ge g w'.heap.size with h2 | h2
    · exact h2
    · rw [Array.getElem?_eq_none h2] at hh; cases hh
theorem call_own_row {P : Program} {w0 : World} {G : Gs} {fid : FuncId} {S : List Ow} {K : AV → List Ow → Prop} {t : TypeId} {us : List Value} {args : List AV} {xs : List Value} (ety : TypeId) (size : Nat) (post : Nat → List Value → List Value → Prop) (i : Nat) (hi : S[i]? = some (.cells t (us.map .v))) (hx : avals args = some xs) (hok : fnOk P fid = true)
    (h : ∀ w g, OldKeep w0 G w g → w.heap[g]? = some (.cells us.toArray t (0, 0)) → Calls P fid (.pointer (some ⟨g, 0, none⟩) :: xs).toArray w fun e w' => ∃ v n ys us', post n ys us' ∧ e = .returned v ∧ w'.ownsRow w.heap.size ety size v n ys ∧ w'.heap[g]? = some (.cells us'.toArray t (0, 0)) ∧ w.grownBy w' (some g))
    (hK : ∀ n ys us', post n ys us' → K (.p (.c (.row S.length))) (S.set i (.cells t (us'.map .v)) ++ [.row ety size n ys])) : CallS P w0 G fid (.p (.c (.ref i 0)) :: args) S K := by
  refine ⟨hok, fun r w vs hR hd => ?_⟩
  obtain ⟨u1, l1, rfl, d1, d2⟩ := hd
  obtain rfl := avals_den hx d2
  obtain ⟨g, hb, rfl⟩ := den_ref d1
  obtain ⟨b', us1, e1, e2, e3⟩ := hR.own i _ hi
  rw [hb] at e1; injection e1 with e1; subst e1
  obtain rfl := denL_vals_inv e3
  refine (h w g (hR.oldKeep hb) e2).mono fun e w' ⟨v, n, ys, us', hp, he, hown, hg, hgr⟩ => ?_
  exact ⟨.p (.c (.row S.length)), v, _, r.set S.length v.ownBlock (some v), he, by simp [AV.den, Pc.den, CV.den, Env.set], hR.snocG (o1 := .cells t (us'.map .v)) (o := .row ety size n ys) hb hgr (own_new hown) ⟨g, us', (hR.le_new _ _).blk _ _ hb, hg, denL_vals us'⟩ ⟨v, by simp [Env.set], by simp [Env.set], own_base hown (Nat.zero_le _)⟩, hR.le_new _ _, hK n ys us' hp⟩
theorem fin_own_row {w0 : World} {g j : Nat} {S : List Ow} {t e : TypeId} {us : List Value} {size n : Nat} {xs : List Value} {R : Ending → World → Prop} (h0 : S[0]? = some (.cells t (us.map .v))) (hj : S[j]? = some (.row e size n xs)) (hj0 : 0 < j)
    (h : ∀ w v, w.heap[g]? = some (.cells us.toArray t (0, 0)) → w0.grownBy w (some g) → w.ownsRow w0.heap.size e size v n xs → R (.returned v) w) : Fin w0 ⟨[g], []⟩ S (.p (.c (.row j))) R := by
  refine ⟨fun r w u hR hd => ?_⟩
  have hu := den_row hd
  obtain ⟨b, us', e1, e2, e3⟩ := hR.own 0 _ h0
  have hfirst := hR.first 0 g rfl
  rw [hfirst] at e1; injection e1 with e1; subst e1
  obtain rfl := denL_vals_inv e3
  obtain ⟨v, f1, f2, f3⟩ := hR.own j _ hj
  rw [hu] at f1; injection f1 with f1; subst f1
  refine h w u e2 hR.grown ⟨f3.1, ?_⟩
  rcases f3.2 with h1 | ⟨b', cap, cur, h1, _, h2⟩
  · exact .inl h1
  · refine .inr ⟨b', cap, cur, h1, ?_, h2⟩
    have hb : r.blk j = some b' := by rw [← f2, h1]; rfl
    rcases Nat.lt_or_ge b' w0.heap.size with h3 | h3
    · have h4 := (hR.new j b' hb).2 h3
      rcases h4 with h4 | h4
      · simp at h4; subst h4
        have := hR.inj 0 j _ hfirst hb
        omega
      · cases h4
    · exact h3
section
variable {P : Program} {w0 : World} {G : Gs} {N : Nat} {c d : Code} {f : Fr} {S : List Ow} {Q : Exit → Act → World → Prop} {fn : Func} {R : Ending → World → Prop}
theorem calls_own_satq {fid : FuncId} {w : World} {g : Nat} {t : TypeId} {us : List Value} (xs : List Value) (hf : P.funcs[fid]? = some fn) (hN : fn.ntmps = N) (hb : fn.body = some c) (hle : xs.length + 1 ≤ N) (hg : w.heap[g]? = some (.cells us.toArray t (0, 0)))
    (h : SatQ P w ⟨[g], []⟩ ⟨N, []⟩ c (argFr (.p (.c (.ref 0 0)) :: xs.map fun x => AV.of x) 0) [.cells t (us.map .v)] (bodyPostM Fence.wide 10 P fn R)) : Calls P fid (.pointer (some ⟨g, 0, none⟩) :: xs).toArray w R := by
  refine callsIn_wide.1 (callsIn_of_wp_marks (n := 10) hf hb trivial (h.out _ w ⟨envOne g, rel_own1 w hg, fun i => ?_, by simp; omega, rfl⟩))
  refine argFr_get (r := envOne g) (.p (.c (.ref 0 0)) :: xs.map fun x => AV.of x) (.pointer (some ⟨g, 0, none⟩) :: xs) 0 ⟨_, _, rfl, den_mk_ref (by simp [envOne]), avdenL_of xs⟩ (fun j u hj => ?_) i
  rw [Nat.zero_add, Array.getD_eq_getD_getElem?, Array.getElem?_append_left (by simp; rcases Nat.lt_or_ge j (xs.length + 1) with h1 | h1; exact h1; rw [List.getElem?_eq_none (by simpa using h1)] at hj; cases hj)]
  have : (Value.pointer (some ⟨g, 0, none⟩) :: xs).toArray[j]? = some u := by simpa using hj
  rw [this]; rfl
/-- A walk cut in two: what follows is shown once, from states of one kind. -/
theorem satq_cut {α : Type} {N : Nd} (T : α → Fr) (U : α → List Ow) (hc : vc none P w0 G N c f S fun e f S => match e with | .normal => ∃ y, Ent w0 G N f S (T y) (U y) | e => AtQ w0 G N e f S Q) (hd : ∀ y, SatQ P w0 G N d (T y) (U y) Q) : SatQ P w0 G N (.seq c d) f S Q :=
  ⟨fun a w hg => wpIn_seq (wpIn_mono ((vc_sound (ro := none) c f S _ hc).out 10 a w hg) fun e a' w' ⟨f', S', hk, hg'⟩ => by
    cases e with
    | normal => obtain ⟨y, hy⟩ := hk; exact (hd y).out a' w' (hy.out a' w' hg')
    | exit id => exact hk.out a' w' hg'
    | goto l => exact hk.out a' w' hg'
    | ret => exact hk.out a' w' hg'
    | panic ch => exact hk.out a' w' hg'
    | outgrown => exact hk.out a' w' hg')⟩
theorem satq_as {N : Nd} {f' : Fr} {S' : List Ow} (h : Ent w0 G N f S f' S') (k : SatQ P w0 G N d f' S' Q) : SatQ P w0 G N d f S Q := ⟨fun a w hg => k.out a w (h.out a w hg)⟩
end
end Go.Proofs.Ytmjfgnnefcimiaa
namespace Go.Proofs.Ytmjfgnnefcimiaa
open Go.RowKit

theorem wrC_set (W i : Nat) {t : Nat} (h : t < 8) : setAll (killL i (List.map CV.v (wrC W))) t [CV.v (Value.bool true)] = (wrC (W ||| 2 ^ (20 + t))).map .v := by
  have e : ∀ j, (W ||| 2 ^ (20 + t)).testBit j = (W.testBit j || decide (20 + t = j)) := fun j => by rw [Nat.testBit_or, Nat.testBit_two_pow]
  simp only [wrC, e]
  rcases t with _ | _ | _ | _ | _ | _ | _ | _ | t <;> first | (exfalso; omega) | (simp [setAll, killL, CV.kill, CV.names])
/-- The first loop under way. -/
structure Ins1 (k0 : Int) where
  n : Int
  l : List BOp
  W : Nat
  k : Int
  hn : 0 ≤ n ∧ n ≤ 3
  hb : BodyOk l W false
  hl : (l.length : Int) + n ≤ 3
  hk : k0 ≤ k ∧ k + 8 * n ≤ k0 + 24
/-- Between the loops. -/
structure Ins2 (k0 : Int) where
  l : List BOp
  W : Nat
  ch : Bool
  k : Int
  hb : BodyOk l W ch
  hl : l.length ≤ 4
  hk : k0 ≤ k ∧ k ≤ k0 + 40
/-- The second loop under way. -/
structure Ins3 (k0 : Int) (W : Nat) where
  n : Int
  l : List BOp
  ch : Bool
  k : Int
  hn : 0 ≤ n ∧ n ≤ 3
  hb : BodyOk l W ch
  hl : (l.length : Int) + n ≤ 7
  hk : k0 ≤ k ∧ k + 8 * n ≤ k0 + 24
set_option maxRecDepth 100000 in
theorem instruction_walk (A : Option Addr) (m c : Nat) (xs : List Int) (k : Int) (g : Nat) (w : World) (hs : SlOld w ⟨[g], []⟩ A (xs.map (.int .i64))) (hl : xs.length = m) (hm : m ≤ 1000000) (hk : 0 ≤ k ∧ k < 900000)
    (hg : w.heap[g]? = some (.cells (mkC A m c k).toArray 124 (0, 0))) :
    Calls Try.prog 93 #[.pointer (some ⟨g, 0, none⟩)] w fun e w' => ∃ v n ys us', (∃ (l : List BOp) (W : Nat) (ch : Bool) (k' : Int), BodyOk l W ch ∧ n = l.length ∧ ys = l.flatMap opC ∧ l.length ≤ 10 ∧ us' = mkC A m c k' ∧ 0 ≤ k' ∧ k' ≤ k + 200) ∧ e = .returned v ∧ w'.ownsRow w.heap.size 53 5 v n ys ∧ w'.heap[g]? = some (.cells us'.toArray 124 (0, 0)) ∧ w.grownBy w' (some g) := by
  refine calls_own_satq [] Try.func93 Try.ntmps93 rfl (by simp) hg ?_
  refine satq_seq ?_
  conv => whnf
  refine satq_seq ?_
  conv => whnf
  refine satq_seq ?_
  conv => whnf
  refine satq_seq ?_
  conv => whnf
  refine call_take 0 rfl hs hl hm (by omega) (by omega) fun n0 n00 n01 => ?_
  conv => whnf
  refine ⟨Ins1 (k + 1), fun x => [(0, .p (.c (.ref 0 0))), (3, .p (.c (.row 2))), (4, .p (.c (.ref 1 0))), (5, one (.int .i64 x.n))],
    fun x => [.cells 124 ((mkC A m c x.k).map .v), .cells 133 ((wrC x.W).map .v), .row 53 5 x.l.length (x.l.flatMap opC)],
    fun x => x.n.toNat, ⟨⟨n0, [], 0, k + 1, by omega, BodyOk.nil, by simp; omega, by omega⟩, ent_trans (ent_row 3 53 5 rfl) (ent_same rfl (And.intro (rfl) (And.intro (rfl) (And.intro (rfl) (And.intro (rfl) trivial)))) (And.intro ((And.intro rfl (Or.inl rfl))) (And.intro ((And.intro rfl (Or.inl (by simp)))) (And.intro ((And.intro rfl (And.intro rfl (And.intro (rfl) (rfl))))) trivial))))⟩, fun x => ?_⟩
  · obtain ⟨n, l, W, k1, hn, hb, hll, hk1⟩ := x
    dsimp only
    conv => whnf
    refine ⟨fun hc => ?_, fun hc => ?_⟩
    · have hpos : 0 < n := by simpa using hc
      conv => whnf
      refine call_take 0 rfl hs hl hm (by omega) (by omega) fun t t0 t1 => ?_
      conv => whnf
      refine call_source 0 W rfl rfl hs hl hm (by omega) fun a ha => ?_
      conv => whnf
      refine call_take 0 rfl hs hl hm (by omega) (by omega) fun s s0 s1 => ?_
      conv => whnf
      refine ⟨fun _ => ?_, fun _ => ?_⟩
      · conv => whnf
        refine ⟨_, wr64 (by omega), ?_⟩
        conv => whnf
        refine call_word 0 rfl hs hl hm (by omega) fun z hz => ?_
        conv => whnf
        refine appK_sound rfl ?_ rfl
        conv => whnf
        refine ⟨by omega, ?_⟩
        conv => whnf
        refine ⟨fun _ => ?_, fun hf => absurd hf (by simp; omega)⟩
        conv => whnf
        refine ⟨⟨by omega, by omega⟩, ?_⟩
        conv => whnf
        rw [show 0 + t.toNat * tsz Try.prog 4 = t.toNat from (Nat.zero_add _).trans (Nat.mul_one _), show Nat.ble (t.toNat + [CV.v (Value.bool true)].length) (killL 2 (List.map CV.v (wrC W))).length = true from Nat.ble_eq_true_of_le (by show t.toNat + 1 ≤ 8; omega), wrC_set W 2 (by omega)]
        conv => whnf
        refine ⟨_, wr64 (by omega), ?_⟩
        conv => whnf
        exact ⟨⟨n - 1, l ++ [⟨1, 20 + t, 0, 0, z⟩], W ||| 2 ^ (20 + t).toNat, k1 + 1 + 1 + 1 + 2, by omega, (hb.const (d := 20 + t) ⟨by omega, by omega, by omega⟩ hz).is (if_pos (by omega)) (by simp; omega), by simp; omega, by omega⟩, ent_drop (And.intro (rfl) (And.intro (rfl) (And.intro (rfl) (And.intro (rfl) trivial)))) (And.intro ((And.intro rfl (Or.inl rfl))) (And.intro ((And.intro rfl (Or.inl (congrArg (fun z => List.map CV.v (wrC (Nat.lor W (2 ^ z)))) (show 20 + t.toNat = (20 + t).toNat by omega))))) (And.intro ((And.intro rfl (And.intro rfl (And.intro (by simp) (by simp [opC]))))) trivial))) rfl rfl, by show (n - 1).toNat < n.toNat; omega⟩
      conv => whnf
      refine ⟨fun _ => ?_, fun _ => ?_⟩
      · conv => whnf
        refine call_take 0 rfl hs hl hm (by omega) (by omega) fun q q0 q1 => ?_
        conv => whnf
        refine ⟨_, wr64 (by omega), ?_⟩
        conv => whnf
        refine ⟨_, wr64 (by omega), ?_⟩
        conv => whnf
        refine call_word 0 rfl hs hl hm (by omega) fun z hz => ?_
        conv => whnf
        refine appK_sound rfl ?_ rfl
        conv => whnf
        refine ⟨by omega, ?_⟩
        conv => whnf
        refine ⟨fun _ => ?_, fun hf => absurd hf (by simp; omega)⟩
        conv => whnf
        refine ⟨⟨by omega, by omega⟩, ?_⟩
        conv => whnf
        rw [show 0 + t.toNat * tsz Try.prog 4 = t.toNat from (Nat.zero_add _).trans (Nat.mul_one _), show Nat.ble (t.toNat + [CV.v (Value.bool true)].length) (killL 2 (List.map CV.v (wrC W))).length = true from Nat.ble_eq_true_of_le (by show t.toNat + 1 ≤ 8; omega), wrC_set W 2 (by omega)]
        conv => whnf
        refine ⟨_, wr64 (by omega), ?_⟩
        conv => whnf
        exact ⟨⟨n - 1, l ++ [⟨16 + q, 20 + t, a, 0, z⟩], W ||| 2 ^ (20 + t).toNat, k1 + 1 + 1 + 1 + 1 + 2, by omega, hb.load (d := 20 + t) ⟨by omega, by omega⟩ ⟨by omega, by omega⟩ ha hz rfl, by simp; omega, by omega⟩, ent_drop (And.intro (rfl) (And.intro (rfl) (And.intro (rfl) (And.intro (rfl) trivial)))) (And.intro ((And.intro rfl (Or.inl rfl))) (And.intro ((And.intro rfl (Or.inl (congrArg (fun z => List.map CV.v (wrC (Nat.lor W (2 ^ z)))) (show 20 + t.toNat = (20 + t).toNat by omega))))) (And.intro ((And.intro rfl (And.intro rfl (And.intro (by simp) (by simp [opC]))))) trivial))) rfl rfl, by show (n - 1).toNat < n.toNat; omega⟩
      conv => whnf
      refine ⟨fun _ => ?_, fun _ => ?_⟩
      · conv => whnf
        refine appK_sound rfl ?_ rfl
        conv => whnf
        refine ⟨by omega, ?_⟩
        conv => whnf
        refine ⟨fun hf => absurd hf (by decide), fun _ => ?_⟩
        conv => whnf
        refine ⟨_, wr64 (by omega), ?_⟩
        conv => whnf
        exact ⟨⟨n - 1, l ++ [⟨21, 0, a, 0, 0⟩], W, k1 + 1 + 1 + 1, by omega, hb.guard ha rfl, by simp; omega, by omega⟩, ent_drop (And.intro (rfl) (And.intro (rfl) (And.intro (rfl) (And.intro (rfl) trivial)))) (And.intro ((And.intro rfl (Or.inl rfl))) (And.intro ((And.intro rfl (Or.inl rfl))) (And.intro ((And.intro rfl (And.intro rfl (And.intro (by simp) (by simp [opC]))))) trivial))) rfl rfl, by show (n - 1).toNat < n.toNat; omega⟩
      conv => whnf
      refine call_source 0 W rfl rfl hs hl hm (by omega) fun b hb' => ?_
      conv => whnf
      refine call_take 0 rfl hs hl hm (by omega) (by omega) fun q q0 q1 => ?_
      conv => whnf
      refine ⟨_, wr64 (by omega), ?_⟩
      conv => whnf
      refine ⟨_, wr64 (by omega), ?_⟩
      conv => whnf
      refine appK_sound rfl ?_ rfl
      conv => whnf
      · refine ⟨by omega, ?_⟩
        conv => whnf
        refine ⟨fun _ => ?_, fun hf => absurd hf (by simp; omega)⟩
        conv => whnf
        refine ⟨⟨by omega, by omega⟩, ?_⟩
        conv => whnf
        rw [show 0 + t.toNat * tsz Try.prog 4 = t.toNat from (Nat.zero_add _).trans (Nat.mul_one _), show Nat.ble (t.toNat + [CV.v (Value.bool true)].length) (killL 2 (List.map CV.v (wrC W))).length = true from Nat.ble_eq_true_of_le (by show t.toNat + 1 ≤ 8; omega), wrC_set W 2 (by omega)]
        conv => whnf
        refine ⟨_, wr64 (by omega), ?_⟩
        conv => whnf
        exact ⟨⟨n - 1, l ++ [⟨3 + q, 20 + t, a, b, 0⟩], W ||| 2 ^ (20 + t).toNat, k1 + 1 + 1 + 1 + 1 + 1, by omega, (hb.bin (c := 3 + q) (d := 20 + t) ⟨by omega, by omega⟩ ⟨by omega, by omega, by omega⟩ ha hb').is (if_pos (by omega)) (by simp; omega), by simp; omega, by omega⟩, ent_drop (And.intro (rfl) (And.intro (rfl) (And.intro (rfl) (And.intro (rfl) trivial)))) (And.intro ((And.intro rfl (Or.inl rfl))) (And.intro ((And.intro rfl (Or.inl (congrArg (fun z => List.map CV.v (wrC (Nat.lor W (2 ^ z)))) (show 20 + t.toNat = (20 + t).toNat by omega))))) (And.intro ((And.intro rfl (And.intro rfl (And.intro (by simp) (by simp [opC]))))) trivial))) rfl rfl, by show (n - 1).toNat < n.toNat; omega⟩
    · conv => whnf
      refine ⟨_, _, ent_refl, ?_⟩
      conv => whnf
      refine satq_cut (α := Ins2 k) (fun y => [(0, .p (.c (.ref 0 0))), (3, .p (.c (.row 2))), (4, .p (.c (.ref 1 0)))])
        (fun y => [.cells 124 ((mkC A m c y.k).map .v), .cells 133 ((wrC y.W).map .v), .row 53 5 y.l.length (y.l.flatMap opC)]) ?_ fun y => ?_
      · conv => whnf
        refine call_take 0 rfl hs hl hm (by omega) (by omega) fun s s0 s1 => ?_
        conv => whnf
        refine ⟨fun _ => ?_, fun _ => ?_⟩
        · conv => whnf
          refine call_source 0 W rfl rfl hs hl hm (by omega) fun a ha => ?_
          conv => whnf
          refine call_source 0 W rfl rfl hs hl hm (by omega) fun b hb' => ?_
          conv => whnf
          refine call_take 0 rfl hs hl hm (by omega) (by omega) fun q q0 q1 => ?_
          conv => whnf
          refine ⟨_, wr64 (by omega), ?_⟩
          conv => whnf
          refine call_word 0 rfl hs hl hm (by omega) fun z hz => ?_
          conv => whnf
          refine appK_sound rfl ?_ rfl
          conv => whnf
          refine ⟨by omega, ?_⟩
          conv => whnf
          exact ⟨⟨l ++ [⟨18 + q, 0, a, b, z⟩], W, true, k1 + 1 + 1 + 1 + 1 + 2, hb.store (c := 18 + q) ⟨by omega, by omega⟩ ha hb' hz rfl, by simp; omega, by omega⟩, ent_drop (And.intro (rfl) (And.intro (rfl) (And.intro (rfl) trivial))) (And.intro ((And.intro rfl (Or.inl rfl))) (And.intro ((And.intro rfl (Or.inl rfl))) (And.intro ((And.intro rfl (And.intro rfl (And.intro (by simp) (by simp [opC]))))) trivial))) rfl rfl⟩
        · conv => whnf
          exact ⟨⟨l, W, false, k1 + 1, hb, by omega, by omega⟩, ent_drop (And.intro (rfl) (And.intro (rfl) (And.intro (rfl) trivial))) (And.intro ((And.intro rfl (Or.inl rfl))) (And.intro ((And.intro rfl (Or.inl rfl))) (And.intro ((And.intro rfl (And.intro rfl (And.intro (rfl) (rfl))))) trivial))) rfl rfl⟩
      obtain ⟨l2, W2, ch2, k2, hb2, hl2, hk2⟩ := y
      dsimp only
      refine satq_seq ?_
      conv => whnf
      refine call_take 0 rfl hs hl hm (by omega) (by omega) fun n2 n20 n21 => ?_
      conv => whnf
      refine ⟨Ins3 (k2 + 1) W2, fun x => [(0, .p (.c (.ref 0 0))), (3, .p (.c (.row 2))), (4, .p (.c (.ref 1 0))), (11, one (.int .i64 x.n))],
        fun x => [.cells 124 ((mkC A m c x.k).map .v), .cells 133 ((wrC W2).map .v), .row 53 5 x.l.length (x.l.flatMap opC)],
        fun x => x.n.toNat, ⟨⟨n2, l2, ch2, k2 + 1, by omega, hb2, by omega, by omega⟩, ent_same rfl (And.intro (rfl) (And.intro (rfl) (And.intro (rfl) (And.intro (rfl) trivial)))) (And.intro ((And.intro rfl (Or.inl rfl))) (And.intro ((And.intro rfl (Or.inl rfl))) (And.intro ((And.intro rfl (And.intro rfl (And.intro (rfl) (rfl))))) trivial)))⟩, fun x => ?_⟩
      obtain ⟨n, l, ch, k1, hn, hb, hll, hk1⟩ := x
      dsimp only
      conv => whnf
      refine ⟨fun hc => ?_, fun hc => ?_⟩
      · have hpos : 0 < n := by simpa using hc
        conv => whnf
        refine call_take 0 rfl hs hl hm (by omega) (by omega) fun t t0 t1 => ?_
        conv => whnf
        refine call_source 0 W2 rfl rfl hs hl hm (by omega) fun a ha => ?_
        conv => whnf
        refine call_take 0 rfl hs hl hm (by omega) (by omega) fun s s0 s1 => ?_
        conv => whnf
        refine ⟨fun _ => ?_, fun _ => ?_⟩
        · conv => whnf
          refine call_word 0 rfl hs hl hm (by omega) fun z hz => ?_
          conv => whnf
          refine appK_sound rfl ?_ rfl
          conv => whnf
          (refine ⟨by omega, ?_⟩; (conv => whnf); refine ⟨_, wr64 (by omega), ?_⟩; (conv => whnf); exact ⟨⟨n - 1, l ++ [⟨1, t, 0, 0, z⟩], ch || decide (t < 20), k1 + 1 + 1 + 1 + 2, by omega, (hb.const (d := t) ⟨by omega, by omega, by omega⟩ hz).is (if_neg (by omega)) rfl, by simp; omega, by omega⟩, ent_drop (And.intro (rfl) (And.intro (rfl) (And.intro (rfl) (And.intro (rfl) trivial)))) (And.intro ((And.intro rfl (Or.inl rfl))) (And.intro ((And.intro rfl (Or.inl rfl))) (And.intro ((And.intro rfl (And.intro rfl (And.intro (by simp) (by simp [opC]))))) trivial))) rfl rfl, by show (n - 1).toNat < n.toNat; omega⟩)
        conv => whnf
        refine ⟨fun _ => ?_, fun _ => ?_⟩
        · conv => whnf
          refine appK_sound rfl ?_ rfl
          conv => whnf
          (refine ⟨by omega, ?_⟩; (conv => whnf); refine ⟨_, wr64 (by omega), ?_⟩; (conv => whnf); exact ⟨⟨n - 1, l ++ [⟨2, t, a, 0, 0⟩], ch || decide (t < 20), k1 + 1 + 1 + 1, by omega, (hb.move (d := t) ⟨by omega, by omega, by omega⟩ ha).is (if_neg (by omega)) rfl, by simp; omega, by omega⟩, ent_drop (And.intro (rfl) (And.intro (rfl) (And.intro (rfl) (And.intro (rfl) trivial)))) (And.intro ((And.intro rfl (Or.inl rfl))) (And.intro ((And.intro rfl (Or.inl rfl))) (And.intro ((And.intro rfl (And.intro rfl (And.intro (by simp) (by simp [opC]))))) trivial))) rfl rfl, by show (n - 1).toNat < n.toNat; omega⟩)
        conv => whnf
        refine call_source 0 W2 rfl rfl hs hl hm (by omega) fun b hb' => ?_
        conv => whnf
        refine call_take 0 rfl hs hl hm (by omega) (by omega) fun q q0 q1 => ?_
        conv => whnf
        refine ⟨_, wr64 (by omega), ?_⟩
        conv => whnf
        refine appK_sound rfl ?_ rfl
        conv => whnf
        (refine ⟨by omega, ?_⟩; (conv => whnf); refine ⟨_, wr64 (by omega), ?_⟩; (conv => whnf); exact ⟨⟨n - 1, l ++ [⟨3 + q, t, a, b, 0⟩], ch || decide (t < 20), k1 + 1 + 1 + 1 + 1 + 1, by omega, (hb.bin (c := 3 + q) (d := t) ⟨by omega, by omega⟩ ⟨by omega, by omega, by omega⟩ ha hb').is (if_neg (by omega)) rfl, by simp; omega, by omega⟩, ent_drop (And.intro (rfl) (And.intro (rfl) (And.intro (rfl) (And.intro (rfl) trivial)))) (And.intro ((And.intro rfl (Or.inl rfl))) (And.intro ((And.intro rfl (Or.inl rfl))) (And.intro ((And.intro rfl (And.intro rfl (And.intro (by simp) (by simp [opC]))))) trivial))) rfl rfl, by show (n - 1).toNat < n.toNat; omega⟩)
      · conv => whnf
        refine ⟨_, _, ent_refl, ?_⟩
        conv => whnf
        refine satq_vc ?_
        conv => whnf
        refine atq_ret ?_
        conv => whnf
        exact fin_own_row (us := mkC A m c k1) rfl rfl (by omega) fun w' v e1 e2 e3 => ⟨v, _, _, _, ⟨l, W2, ch, k1, hb, rfl, rfl, by omega, rfl, by omega, by omega⟩, rfl, e3, e1, e2⟩
end Go.Proofs.Ytmjfgnnefcimiaa
namespace Go.Proofs.Ytmjfgnnefcimiaa
open Go.RowKit
/-- A list of operations whose guards are known. -/
def guardedK (P : Program) (W : World) (G : Gs) (N : Nd) (ops : Array Oper) : List Oper → Fr → List Ow → (Fr → List Ow → Prop) → Prop
  | [], f, S, K => K f S
  | o :: l, f, S, K => (match guardOf ops f o with
    | some true => opK P W G N o f S fun f' S' => guardedK P W G N ops l f' S' K
    | some false => (match dstOk N.n o.dst with
      | true => f.putK o.dst (.p (.c .any)) fun f' => guardedK P W G N ops l f' S K
      | false => False)
    | none => False)
section
variable {P : Program} {w0 : World} {G : Gs} {N : Nd} {c d : Code} {f : Fr} {S : List Ow} {Q : Exit → Act → World → Prop}
theorem guardedK_sound {ops : Array Oper} {Q : Act → World → Prop} : ∀ (l : List Oper) (f : Fr) (S : List Ow) (K : Fr → List Ow → Prop), guardedK P w0 G N ops l f S K → (∀ f' S' a' w', K f' S' → Good w0 G N f' S' a' w' → Q a' w') →
    ∀ a w, Good w0 G N f S a w → seL P ops Q l a w
  | [], f, S, K, h, hK, a, w, hg => hK _ _ _ _ h hg
  | o :: l, f, S, K, h, hK, a, w, hg => by
    obtain ⟨r, hR, hf, hN, hd⟩ := hg
    unfold guardedK at h
    split at h
    · rename_i hgd
      have hw := guard_wanted hf hgd
      unfold seL
      rw [if_pos hw]
      exact (opK_sound h).out r a w hR hf hN hd _ (fun _ _ _ => True) fun f' S' a' w' hk hg' => guardedK_sound l f' S' K hk hK a' w' hg'
    · rename_i hgd
      have hw := guard_wanted hf hgd
      split at h
      · rename_i hdst
        have hk := putK_iff.1 h
        unfold seL
        rw [if_neg (by rw [hw]; decide)]
        exact guardedK_sound l _ S K hk hK _ w ⟨r, hR, hf.putAny _ (by rw [hN]; exact hdst), (put_size a _ _).trans hN, (put_defers a _ _).trans hd⟩
      · exact h.elim
    · exact h.elim
theorem satq_region {id : Nat} {ops : Array Oper} (h : guardedK P w0 G N ops ops.toList f S fun f' S' => AtQ w0 G N .normal f' S' Q) : SatQ P w0 G N (.region id ops false) f S Q :=
  ⟨fun a w hg => wpIn_region_list (seL_wpIn none 10 (guardedK_sound _ f S _ h (fun _f' _S' a' w' hk hg' => hk.out a' w' hg') a w hg))⟩
theorem satq_cond {x : Operand} {t : Bool} (ht : f.ev x = one (.bool t)) (h1 : t = true → SatQ P w0 G N c f S Q) (h2 : t = false → SatQ P w0 G N d f S Q) : SatQ P w0 G N (.cond x c d) f S Q := by
  refine ⟨fun a w hg => ?_⟩
  obtain ⟨r, hR, hf, hN, hd⟩ := hg
  have hc := hf.ev x
  rw [ht] at hc
  have hc := den_v hc
  exact wpIn_cond_split hc (fun e => (h1 e).out a w ⟨r, hR, hf, hN, hd⟩) (fun e => (h2 e).out a w ⟨r, hR, hf, hN, hd⟩)
theorem satq_skip (h : AtQ w0 G N .normal f S Q) : SatQ P w0 G N .skip f S Q := ⟨fun a w hg => wpIn_skip (h.out a w hg)⟩
/-- Ahead of what follows. -/
theorem atq_on {d : Code} (h : SatQ P w0 G N d f S Q) : AtQ w0 G N .normal f S (Exit.then (d.wpIn Fence.wide 10 P Q) Q) := ⟨fun a w hg => h.out a w hg⟩
theorem atq_pass {e : Exit} (he : e ≠ .normal) (h : AtQ w0 G N e f S Q) {Q' : Act → World → Prop} : AtQ w0 G N e f S (Exit.then Q' Q) := ⟨fun a w hg => by
  cases e with
  | normal => exact absurd rfl he
  | exit id => exact h.out a w hg
  | goto l => exact h.out a w hg
  | ret => exact h.out a w hg
  | panic ch => exact h.out a w hg
  | outgrown => exact h.out a w hg⟩
theorem atq_exit {id : Nat} (h : AtQ w0 G N .normal f S Q) : AtQ w0 G N (.exit id) f S (Exit.inBlock id Q) := ⟨fun a w hg => by
  show (if id = id then Q .normal a w else _)
  rw [if_pos rfl]; exact h.out a w hg⟩
theorem atq_block {id : Nat} (h : AtQ w0 G N .normal f S Q) : AtQ w0 G N .normal f S (Exit.inBlock id Q) := ⟨fun a w hg => h.out a w hg⟩
theorem atq_as {e : Exit} {f' : Fr} {S' : List Ow} (h : Ent w0 G N f S f' S') (k : AtQ w0 G N e f' S' Q) : AtQ w0 G N e f S Q := ⟨fun a w hg => k.out a w (h.out a w hg)⟩
/-- A walk cut in two: what follows is shown once, from states of one kind. -/
def MidQ {α : Type} (w0 : World) (G : Gs) (N : Nd) (T : α → Fr) (U : α → List Ow) (Q : Exit → Act → World → Prop) : Exit → Act → World → Prop := fun e a w => match e with
  | .normal => ∃ y, Good w0 G N (T y) (U y) a w
  | e => Q e a w
theorem satq_mid {α : Type} (T : α → Fr) (U : α → List Ow) (hc : SatQ P w0 G N c f S (MidQ w0 G N T U Q)) (hd : ∀ y, SatQ P w0 G N d (T y) (U y) Q) : SatQ P w0 G N (.seq c d) f S Q :=
  satq_in ⟨fun a w hg => wpIn_mono (hc.out a w hg) fun e a' w' hq => by
    cases e with
    | normal => obtain ⟨y, hy⟩ := hq; exact (hd y).out a' w' hy
    | exit id => exact hq
    | goto l => exact hq
    | ret => exact hq
    | panic ch => exact hq
    | outgrown => exact hq⟩
theorem atq_mid {α : Type} {T : α → Fr} {U : α → List Ow} (y : α) (h : Ent w0 G N f S (T y) (U y)) : AtQ w0 G N .normal f S (MidQ w0 G N T U Q) := ⟨fun a w hg => ⟨y, h.out a w hg⟩⟩
theorem atq_mid_exit {α : Type} {T : α → Fr} {U : α → List Ow} {id : Nat} (h : AtQ w0 G N (.exit id) f S Q) : AtQ w0 G N (.exit id) f S (MidQ w0 G N T U Q) := ⟨fun a w hg => h.out a w hg⟩
/-- What a round of a loop comes to. -/
def RoundQ {α : Type} (w0 : World) (G : Gs) (N : Nd) (T : α → Fr) (U : α → List Ow) (m : α → Nat) (n : Nat) (Q : Exit → Act → World → Prop) : Exit → Act → World → Prop := fun e a w => match e with
  | .normal => ∃ y, Good w0 G N (T y) (U y) a w ∧ m y < n
  | e => Q e a w
theorem atq_next {α : Type} {T : α → Fr} {U : α → List Ow} {m : α → Nat} {n : Nat} (y : α) (h : Ent w0 G N f S (T y) (U y)) (hm : m y < n) : AtQ w0 G N .normal f S (RoundQ w0 G N T U m n Q) := ⟨fun a w hg => ⟨y, h.out a w hg, hm⟩⟩
theorem atq_out {α : Type} {T : α → Fr} {U : α → List Ow} {m : α → Nat} {n : Nat} {id : Nat} (h : AtQ w0 G N (.exit id) f S Q) : AtQ w0 G N (.exit id) f S (RoundQ w0 G N T U m n Q) := ⟨fun a w hg => h.out a w hg⟩
theorem satq_loop {α : Type} (T : α → Fr) (U : α → List Ow) (m : α → Nat) (x0 : α) (h0 : Ent w0 G N f S (T x0) (U x0)) (hround : ∀ x, SatQ P w0 G N c (T x) (U x) (RoundQ w0 G N T U m (m x) Q)) : SatQ P w0 G N (.loop c) f S Q := by
  refine ⟨fun a w hg => ?_⟩
  intro b k cs hro hb hr
  have key : ∀ (n : Nat) (x : α), m x = n → ∀ a w, Good w0 G N (T x) (U x) a w → ∃ e a' w', Q e a' w' ∧ ArrivesIn (Machine.fenced P Fence.wide) P (lone (b.atR a (.code c :: .inLoop c :: k)) cs w) b k cs e a' w' := by
    intro n
    induction n using Nat.strongRecOn with
    | _ n ih =>
      intro x hx a w hg
      obtain ⟨e, a', w', hq, harr⟩ := (hround x).out a w hg b (.inLoop c :: k) cs hro hb hr
      cases e with
      | normal =>
        obtain ⟨y, hgy, hlt⟩ := hq
        obtain ⟨e2, a2, w2, hq2, harr2⟩ := ih (m y) (by omega) y rfl a' w' hgy
        exact ⟨e2, a2, w2, hq2, .of_steps (StepsIn.trans harr (.one (fenced_calm hb hr rfl) stepR_inLoop)) harr2⟩
      | exit id => exact ⟨_, a', w', hq, .pass (x := .inLoop c) rfl (fun _ _ => .inl (by simp)) harr⟩
      | goto l => exact ⟨_, a', w', hq, .pass (x := .inLoop c) rfl (fun _ _ => .inl (by simp)) harr⟩
      | ret => exact ⟨_, a', w', hq, .pass (x := .inLoop c) rfl (fun _ _ => .inl (by simp)) harr⟩
      | panic ch => exact ⟨_, a', w', hq, .pass (x := .inLoop c) rfl (fun _ _ => .inl (by simp)) harr⟩
      | outgrown => exact ⟨_, a', w', hq, .pass (x := .inLoop c) rfl (fun _ _ => .inl (by simp)) harr⟩
  obtain ⟨e, a', w', hq, harr⟩ := key _ x0 rfl a w (h0.out a w hg)
  exact ⟨e, a', w', hq, .of_steps (.one (fenced_calm hb hr rfl) stepR_loop) harr⟩
/-- A cell that holds nil is a row of the call's own, of no elements. -/
theorem ent_cellrow (i j : Nat) (e : TypeId) (size : Nat) {t : TypeId} {l : List CV} {f' : Fr} (hi : S[i]? = some (.cells t l)) (hj : l[j]? = some (.v (.slice none 0 0))) (hf : FLe f f') : Ent w0 G N f S f' (S.set i (.cells t (l.set j (.row S.length))) ++ [.row e size 0 []]) := ⟨fun a w ⟨r, hR, hd, hN, hdf⟩ => by
  obtain ⟨b, us, h1, h2, h3⟩ := hR.own i _ hi
  have hle := hR.le_new none (some (.slice none 0 0))
  have hil := hR.lt_of_blk h1
  have hR2 := hR.snoc (o := .row e size 0 []) (Below.refl _ _) (b := none) (v := some (.slice none 0 0)) nofun ⟨.slice none 0 0, by simp [Env.set], by simp [Env.set, Value.ownBlock], by simp, .inl ⟨rfl, rfl⟩⟩
  refine ⟨r.set S.length none (some (.slice none 0 0)), ?_, hf.den (hd.mono hle), hN, hdf⟩
  obtain ⟨u, hu, hdu⟩ := denL_at h3 hj
  simp only [CV.den] at hdu; subst hdu
  have hus : us = us.set j (.slice none 0 0) := by
    refine List.ext_getElem? fun k => ?_
    rw [List.getElem?_set]
    split
    · rename_i hk; subst hk
      split
      · exact hu
      · rename_i hlt; rw [List.getElem?_eq_none (by omega)] at hu; cases hu
    · rfl
  have := rel_setSame hR2 (i := i) (o := .cells t (l.set j (.row S.length))) ⟨b, us, hle.blk _ _ h1, h2, by rw [hus]; exact denL_set j (denL_mono hle _ _ h3) (by simp [CV.den, Env.set])⟩
  rwa [List.set_append_left _ _ hil] at this⟩
end
/-- Several new entries at once. -/
theorem Rel.snocs {w0 : World} {G : Gs} {S : List Ow} {r : Env} {w w' : World} (h : Rel w0 G S r w) (hb : Below w.heap.size w w') (T : List Ow) (r' : Env) (hle : ∀ i, i < S.length → r'.blk i = r.blk i ∧ r'.val i = r.val i) (hnb : ∀ i x, S.length ≤ i → r'.blk i = some x → w.heap.size ≤ x ∧ x < w'.heap.size) (hinj : ∀ i j x, S.length ≤ i → S.length ≤ j → r'.blk i = some x → r'.blk j = some x → i = j)
    (hout : ∀ i, S.length + T.length ≤ i → r'.blk i = none ∧ r'.val i = none) (ho : ∀ (j : Nat) (o : Ow), T[j]? = some o → o.holds r' w' (S.length + j)) : Rel w0 G (S ++ T) r' w' ∧ r.le r' := by
  have h' := h.below hb
  have hleB : ∀ i x, r.blk i = some x → r'.blk i = some x := fun i x hx => by
    rcases Nat.lt_or_ge i S.length with h1 | h1
    · rw [(hle i h1).1]; exact hx
    · rw [h.outB i h1] at hx; cases hx
  have hleV : ∀ i x, r.val i = some x → r'.val i = some x := fun i x hx => by
    rcases Nat.lt_or_ge i S.length with h1 | h1
    · rw [(hle i h1).2]; exact hx
    · rw [h.outV i h1] at hx; cases hx
  have hle' : r.le r' := ⟨hleB, hleV⟩
  refine ⟨⟨h'.os, h'.tape, h'.output, h'.size, h'.old, fun i o' hi => ?_, fun i j x hx hy => ?_, fun i x hx => ?_, fun i hi => ?_, fun i hi => ?_, fun i g hg => hleB i g (h.first i g hg)⟩, hle'⟩
  · rcases Nat.lt_or_ge i S.length with h1 | h1
    · rw [List.getElem?_append_left h1] at hi
      refine Ow.holds_block (Ow.holds_mono hle' (h.own i o' hi) (hle i h1).1 (fun k x hk => ?_)) (fun x hx => hb.block x ?_) hb.size (fun x hx _ => hb.block x hx)
      · rcases Nat.lt_or_ge k S.length with h2 | h2
        · left; rw [← (hle k h2).1]; exact hk
        · exact .inr (hnb k x h2 hk).1
      · rw [(hle i h1).1] at hx; exact (h.new i x hx).1
    · rw [List.getElem?_append_right h1] at hi
      have := ho (i - S.length) o' hi
      rwa [show S.length + (i - S.length) = i by omega] at this
  · rcases Nat.lt_or_ge i S.length with h1 | h1 <;> rcases Nat.lt_or_ge j S.length with h2 | h2
    · rw [(hle i h1).1] at hx; rw [(hle j h2).1] at hy; exact h.inj _ _ _ hx hy
    · rw [(hle i h1).1] at hx
      have := (h.new i x hx).1
      have := (hnb j x h2 hy).1
      omega
    · rw [(hle j h2).1] at hy
      have := (h.new j x hy).1
      have := (hnb i x h1 hx).1
      omega
    · exact hinj i j x h1 h2 hx hy
  · rcases Nat.lt_or_ge i S.length with h1 | h1
    · rw [(hle i h1).1] at hx; exact h'.new i x hx
    · have := hnb i x h1 hx
      refine ⟨this.2, fun hlt => ?_⟩
      have := h.size
      omega
  · exact (hout i (by simpa using hi)).1
  · exact (hout i (by simpa using hi)).2
/-- Three rows handed back in new memory. -/
structure Rows3 (B : Nat) (w' : World) (v1 v2 v3 : Value) (b : Blk) : Prop where
  at_ : w'.ownsRow B 24 1 v1 b.at_.length (b.at_.map (.int .u32))
  pages : w'.ownsRow B 3 1 v2 b.pages.length (b.pages.map (.int .i64))
  ops : w'.ownsRow B 53 5 v3 b.ops.length (b.ops.flatMap opC)
  d12 : ∀ x, v1.ownBlock = some x → v2.ownBlock ≠ some x
  d13 : ∀ x, v1.ownBlock = some x → v3.ownBlock ≠ some x
  d23 : ∀ x, v2.ownBlock = some x → v3.ownBlock ≠ some x
def env3 (r : Env) (n : Nat) (v1 v2 v3 : Value) : Env := ⟨fun i => if i < n then r.blk i else if i = n then v1.ownBlock else if i = n + 1 then v2.ownBlock else if i = n + 2 then v3.ownBlock else Option.none, fun i => if i < n then r.val i else if i = n then some v1 else if i = n + 1 then some v2 else if i = n + 2 then some v3 else Option.none⟩
theorem env3_hi {r : Env} {n : Nat} {v1 v2 v3 : Value} {i x : Nat} (hi : n ≤ i) (h : (env3 r n v1 v2 v3).blk i = some x) : (i = n ∧ v1.ownBlock = some x) ∨ (i = n + 1 ∧ v2.ownBlock = some x) ∨ (i = n + 2 ∧ v3.ownBlock = some x) := by
  simp only [env3] at h
  rw [if_neg (by omega)] at h
  split at h
  · exact .inl ⟨‹_›, h⟩
  · split at h
    · exact .inr (.inl ⟨‹_›, h⟩)
    · split at h
      · exact .inr (.inr ⟨‹_›, h⟩)
      · cases h
/-- What three rows are that a call hands back. -/
abbrev blkRows (b : Blk) : List Ow := [.row 24 1 b.at_.length (b.at_.map (.int .u32)), .row 3 1 b.pages.length (b.pages.map (.int .i64)), .row 53 5 b.ops.length (b.ops.flatMap opC)]
theorem Rel.rows3 {w0 : World} {G : Gs} {S : List Ow} {r : Env} {w w' : World} (h : Rel w0 G S r w) (hb : Below w.heap.size w w') {v1 v2 v3 : Value} {b : Blk} (h3 : Rows3 w.heap.size w' v1 v2 v3 b) : Rel w0 G (S ++ blkRows b) (env3 r S.length v1 v2 v3) w' ∧ r.le (env3 r S.length v1 v2 v3) ∧ (env3 r S.length v1 v2 v3).val S.length = some v1 ∧ (env3 r S.length v1 v2 v3).val (S.length + 1) = some v2 ∧ (env3 r S.length v1 v2 v3).val (S.length + 2) = some v3 := by
  have hv1 : (env3 r S.length v1 v2 v3).val S.length = some v1 := by simp [env3]
  have hv2 : (env3 r S.length v1 v2 v3).val (S.length + 1) = some v2 := by simp only [env3]; rw [if_neg (by omega), if_neg (by omega), if_pos trivial]
  have hv3 : (env3 r S.length v1 v2 v3).val (S.length + 2) = some v3 := by simp only [env3]; rw [if_neg (by omega), if_neg (by omega), if_neg (by omega), if_pos trivial]
  have hb1 : (env3 r S.length v1 v2 v3).blk S.length = v1.ownBlock := by simp [env3]
  have hb2 : (env3 r S.length v1 v2 v3).blk (S.length + 1) = v2.ownBlock := by simp only [env3]; rw [if_neg (by omega), if_neg (by omega), if_pos trivial]
  have hb3 : (env3 r S.length v1 v2 v3).blk (S.length + 2) = v3.ownBlock := by simp only [env3]; rw [if_neg (by omega), if_neg (by omega), if_neg (by omega), if_pos trivial]
  have := h.snocs hb (blkRows b) (env3 r S.length v1 v2 v3) (fun i hi => by simp only [env3]; rw [if_pos hi, if_pos hi]; exact ⟨rfl, rfl⟩) (fun i x hi hx => ?_) (fun i j x hi hj hx hy => ?_) (fun i hi => ?_) (fun j o hj => ?_)
  · exact ⟨this.1, this.2, hv1, hv2, hv3⟩
  · rcases env3_hi hi hx with ⟨_, e⟩ | ⟨_, e⟩ | ⟨_, e⟩
    · exact own_new h3.at_ x e
    · exact own_new h3.pages x e
    · exact own_new h3.ops x e
  · rcases env3_hi hi hx with ⟨e1, e⟩ | ⟨e1, e⟩ | ⟨e1, e⟩ <;> rcases env3_hi hj hy with ⟨e2, e'⟩ | ⟨e2, e'⟩ | ⟨e2, e'⟩
    · omega
    · exact absurd e' (h3.d12 x e)
    · exact absurd e' (h3.d13 x e)
    · exact absurd e (h3.d12 x e')
    · omega
    · exact absurd e' (h3.d23 x e)
    · exact absurd e (h3.d13 x e')
    · exact absurd e (h3.d23 x e')
    · omega
  · simp only [List.length_cons, List.length_nil] at hi
    simp only [env3]
    rw [if_neg (by omega), if_neg (by omega), if_neg (by omega), if_neg (by omega), if_neg (by omega), if_neg (by omega), if_neg (by omega), if_neg (by omega)]
    exact ⟨rfl, rfl⟩
  · rcases j with _ | _ | _ | j
    · simp at hj; subst hj; exact ⟨v1, hv1, hb1.symm, own_base h3.at_ (Nat.zero_le _)⟩
    · simp at hj; subst hj; exact ⟨v2, hv2, hb2.symm, own_base h3.pages (Nat.zero_le _)⟩
    · simp at hj; subst hj; exact ⟨v3, hv3, hb3.symm, own_base h3.ops (Nat.zero_le _)⟩
    · simp at hj
/-- A call that hands back a block in new memory: as rows. -/
theorem call_blk {P : Program} {w0 : World} {G : Gs} {fid : FuncId} {args : List AV} {S : List Ow} {K : AV → List Ow → Prop} (post : Blk → Prop) (hok : fnOk P fid = true)
    (h : ∀ r w us, Rel w0 G S r w → avdenL r args us → Calls P fid us.toArray w fun en w' => ∃ b v1 v2 v3, post b ∧ en = .returned (.agg #[v1, v2, v3]) ∧ Rows3 w.heap.size w' v1 v2 v3 b ∧ Below w.heap.size w w')
    (hK : ∀ b, post b → K (.p (.agg [.row S.length, .row (S.length + 1), .row (S.length + 2)])) (S ++ blkRows b)) : CallS P w0 G fid args S K := by
  refine ⟨hok, fun r w us hR hd => ?_⟩
  refine (h r w us hR hd).mono fun en w' ⟨b, v1, v2, v3, hp, he, h3, hB⟩ => ?_
  obtain ⟨k1, k2, k3, k4, k5⟩ := hR.rows3 hB h3
  refine ⟨.p (.agg [.row S.length, .row (S.length + 1), .row (S.length + 2)]), _, _, _, he, ⟨[v1, v2, v3], rfl, ?_⟩, k1, k2, hK b hp⟩
  simp only [denL, CV.den]
  exact ⟨_, _, rfl, k3, _, _, rfl, k4, _, _, rfl, k5, rfl⟩
/-- A slice that is a row, or all of a built one. -/
def RowLike (S : List Ow) (x : CV) (i : Nat) (e : TypeId) (size n : Nat) (xs : List Value) : Prop :=
  (x = .row i ∧ S[i]? = some (.row e size n xs)) ∨ (x = .sl i 0 n n ∧ S[i]? = some (.cells e (xs.map .v)) ∧ xs.length = n * size ∧ n ≤ maxLen)
theorem rowLike_at {w0 w : World} {S : List Ow} {r : Env} (hR : Rel w0 Gs.nil S r w) {x : CV} {i : Nat} {e : TypeId} {size n : Nat} {xs : List Value} (h : RowLike S x i e size n xs) {u : Value} (hd : x.den r u) : w.ownsRow w0.heap.size e size u n xs ∧ u.ownBlock = r.blk i := by
  have hnew : ∀ g, r.blk i = some g → w0.heap.size ≤ g := fun g hg => by
    rcases Nat.lt_or_ge g w0.heap.size with h3 | h3
    · have := (hR.new i g hg).2 h3; simp at this
    · exact h3
  rcases h with ⟨rfl, hi⟩ | ⟨rfl, hi, hl, hn⟩
  · simp only [CV.den] at hd
    obtain ⟨v, f1, f2, f3⟩ := hR.own i _ hi
    rw [hd] at f1; injection f1 with f1; subst f1
    refine ⟨⟨f3.1, ?_⟩, f2⟩
    rcases f3.2 with h1 | ⟨b', cap, cur, h1, _, h2⟩
    · exact .inl h1
    · exact .inr ⟨b', cap, cur, h1, hnew b' (by rw [← f2, h1]; rfl), h2⟩
  · simp only [CV.den] at hd
    obtain ⟨b, hb, rfl⟩ := hd
    obtain ⟨b', us, e1, e2, e3⟩ := hR.own i _ hi
    rw [hb] at e1; injection e1 with e1; subst e1
    obtain rfl := denL_vals_inv e3
    exact ⟨⟨hl, .inr ⟨b, n, us.toArray, rfl, hnew b hb, e2, Nat.le_refl _, hn, by simpa using hl, by simp [← hl]⟩⟩, hb.symm⟩
/-- The end of a function that hands back a block in new memory. -/
theorem fin_rows3 {w0 : World} {S : List Ow} {x1 x2 x3 : CV} {R : Ending → World → Prop} (i1 i2 i3 : Nat) (b : Blk) (h12 : i1 ≠ i2) (h13 : i1 ≠ i3) (h23 : i2 ≠ i3) (h1 : RowLike S x1 i1 24 1 b.at_.length (b.at_.map (.int .u32))) (h2 : RowLike S x2 i2 3 1 b.pages.length (b.pages.map (.int .i64))) (h3 : RowLike S x3 i3 53 5 b.ops.length (b.ops.flatMap opC))
    (h : ∀ w v1 v2 v3, Rows3 w0.heap.size w v1 v2 v3 b → Below w0.heap.size w0 w → R (.returned (.agg #[v1, v2, v3])) w) : Fin w0 Gs.nil S (.p (.agg [x1, x2, x3])) R := by
  refine ⟨fun r w u hR hd => ?_⟩
  obtain ⟨us, rfl, hl⟩ := den_agg hd
  simp only [denL] at hl
  obtain ⟨u1, l1, rfl, d1, u2, l2, rfl, d2, u3, l3, rfl, d3, rfl⟩ := hl
  obtain ⟨o1, b1⟩ := rowLike_at hR h1 d1
  obtain ⟨o2, b2⟩ := rowLike_at hR h2 d2
  obtain ⟨o3, b3⟩ := rowLike_at hR h3 d3
  refine h w u1 u2 u3 ⟨o1, o2, o3, fun x hx hy => ?_, fun x hx hy => ?_, fun x hx hy => ?_⟩ hR.toBelow
  · rw [b1] at hx; rw [b2] at hy; exact h12 (hR.inj _ _ _ hx hy)
  · rw [b1] at hx; rw [b3] at hy; exact h13 (hR.inj _ _ _ hx hy)
  · rw [b2] at hx; rw [b3] at hy; exact h23 (hR.inj _ _ _ hx hy)
end Go.Proofs.Ytmjfgnnefcimiaa
namespace Go.Proofs.Ytmjfgnnefcimiaa
open Go.RowKit

/-- The operations ahead of the last ones: i marks. -/
structure PreOk (ops : List BOp) (i W : Nat) (ch : Bool) : Prop where
  run : ckL ⟨0, 0, false⟩ ops = some ⟨i, W, ch⟩
  all : ∀ o ∈ ops, o.ok ∧ o.code ≠ 23
  head : (i = 0 ∧ ops = []) ∨ ∃ o l, ops = o :: l ∧ o.code = 20
theorem PreOk.nil : PreOk [] 0 0 false := ⟨rfl, nofun, .inl ⟨rfl, rfl⟩⟩
theorem ckNext_exit {s : Ck} {o : BOp} (h : o.code ≠ 23) (x : Bool) : ckNext s o false x = ckNext s o false false := by
  unfold ckNext placedB
  have : (o.code == 23) = false := by rw [beq_eq_false_iff_ne]; exact h
  rw [this]; rfl
theorem ckRun_pre : ∀ {l : List BOp} {s s' : Ck} {rest : List BOp}, ckL s l = some s' → (∀ o ∈ l, o.code ≠ 23) → rest ≠ [] → ckRun s (l ++ rest) = ckRun s' rest
  | [], s, s', rest, h, _, _ => by injection h with h; subst h; rfl
  | o :: l, s, s', rest, h, hc, hr => by
    simp only [ckL] at h
    split at h
    · rename_i s1 h1
      have ih := ckRun_pre h (fun p hp => hc p (by simp [hp])) hr
      show (match ckNext s o (l ++ rest).isEmpty _ with | some s' => ckRun s' (l ++ rest) | none => none) = _
      have he : (l ++ rest).isEmpty = false := by cases l <;> cases rest <;> simp_all
      rw [he, ckNext_exit (hc o (by simp)), h1]
      exact ih
    · cases h
theorem ckNext_mark (i W : Nat) (ch : Bool) : ckNext ⟨i, W, ch⟩ ⟨20, 0, 0, 0, (i : Int)⟩ false false = some ⟨i + 1, 0, false⟩ := by
  have h1 : formedB ⟨20, 0, 0, 0, (i : Int)⟩ = true := rfl
  have h2 : placedB ⟨i, W, ch⟩ ⟨20, 0, 0, 0, (i : Int)⟩ false false = true := by cases ch <;> rfl
  unfold ckNext
  rw [h1, h2]
  simp
theorem PreOk.mark {ops : List BOp} {i W : Nat} {ch : Bool} (h : PreOk ops i W ch) (hi : i < 1000) : PreOk (ops ++ [⟨20, 0, 0, 0, (i : Int)⟩]) (i + 1) 0 false := by
  refine ⟨?_, fun o ho => ?_, .inr ?_⟩
  · rw [ckL_append, h.run]
    show (match ckNext _ _ false false with | some s' => ckL s' [] | none => none) = _
    rw [ckNext_mark]; rfl
  · rcases List.mem_append.1 ho with ho | ho
    · exact h.all o ho
    · simp at ho; subst ho
      exact ⟨⟨mid_small (by dsimp only; omega), mid0, mid0, mid0, by unfold word; dsimp only; omega⟩, by dsimp only; omega⟩
  · rcases h.head with ⟨_, h1⟩ | ⟨o, l, h1, h2⟩
    · subst h1; exact ⟨_, [], rfl, rfl⟩
    · subst h1; exact ⟨o, _, rfl, h2⟩
theorem PreOk.body {ops l : List BOp} {i W : Nat} {ch : Bool} (h : PreOk ops i 0 false) (hb : BodyOk l W ch) (hi : 0 < i) : PreOk (ops ++ l) i W ch := by
  refine ⟨?_, fun o ho => ?_, .inr ?_⟩
  · rw [ckL_append, h.run]; exact hb.run i
  · rcases List.mem_append.1 ho with ho | ho
    · exact h.all o ho
    · have := hb.all o ho
      refine ⟨this.1, ?_⟩
      have h2 := this.2
      unfold bodyC at h2
      rw [decide_eq_true_eq] at h2
      omega
  · rcases h.head with ⟨h0, _⟩ | ⟨o, l', h1, h2⟩
    · omega
    · subst h1; exact ⟨o, _, rfl, h2⟩
/-- The last operations of a block. -/
structure TailOk (t : List BOp) (ch : Bool) : Prop where
  run : ∀ (i W : Nat), ckRun ⟨i, W, ch⟩ t = some ⟨i, W, ch⟩
  all : ∀ o ∈ t, o.ok
  ne : t ≠ []
theorem tail_exit {n : Int} (hn : word n) (ch : Bool) : TailOk [⟨24, 0, 0, 0, n⟩] ch := by
  refine ⟨fun i W => ?_, fun o ho => ?_, by simp⟩
  · cases ch <;> rfl
  · simp at ho; subst ho
    exact ⟨mid_small (by dsimp only; omega), mid0, mid0, mid0, hn⟩
theorem guest_src {a : Int} (h : 0 ≤ a ∧ a < 19) : fieldB true a = true := by unfold fieldB; rw [if_pos rfl, decide_eq_true_eq]; omega
theorem tail_var {a : Int} (ha : 0 ≤ a ∧ a < 19) (ch : Bool) : TailOk [⟨25, 0, a, 0, 0⟩] ch := by
  refine ⟨fun i W => ?_, fun o ho => ?_, by simp⟩
  · have h1 : formedB ⟨25, 0, a, 0, 0⟩ = true := by
      show (isOp 25 && fieldB false 0 && fieldB true a && fieldB false 0 && (false || true)) = true
      rw [guest_src ha]; rfl
    have h2 : placedB ⟨i, W, ch⟩ ⟨25, 0, a, 0, 0⟩ true false = true := by cases ch <;> rfl
    have h3 : (reads ⟨25, 0, a, 0, 0⟩).all (readB ⟨i, W, ch⟩) = true := by
      show ([a].all (readB ⟨i, W, ch⟩)) = true
      have : a < 20 := by omega
      simp [readB, this]
    show (match ckNext ⟨i, W, ch⟩ ⟨25, 0, a, 0, 0⟩ true false with | some s' => ckRun s' [] | none => none) = _
    unfold ckNext
    rw [h1, h2, h3]
    show some (Ck.mk i W (ch || (false || false))) = _
    simp
  · simp at ho; subst ho
    exact ⟨mid_small (by dsimp only; omega), mid0, mid_small (by dsimp only; omega), mid0, word0⟩
theorem tail_if {a n m : Int} (ha : 0 ≤ a ∧ a < 19) (hn : word n) (hm : word m) (ch : Bool) : TailOk [⟨23, 0, a, 0, n⟩, ⟨24, 0, 0, 0, m⟩] ch := by
  refine ⟨fun i W => ?_, fun o ho => ?_, by simp⟩
  · have h1 : formedB ⟨23, 0, a, 0, n⟩ = true := by
      show (isOp 23 && fieldB false 0 && fieldB true a && fieldB false 0 && (true || _)) = true
      rw [guest_src ha]; rfl
    have h2 : placedB ⟨i, W, ch⟩ ⟨23, 0, a, 0, n⟩ false true = true := by cases ch <;> rfl
    have h3 : (reads ⟨23, 0, a, 0, n⟩).all (readB ⟨i, W, ch⟩) = true := by
      show ([a].all (readB ⟨i, W, ch⟩)) = true
      have : a < 20 := by omega
      simp [readB, this]
    show (match ckNext ⟨i, W, ch⟩ ⟨23, 0, a, 0, n⟩ false true with | some s' => ckRun s' [⟨24, 0, 0, 0, m⟩] | none => none) = _
    have h4 : ckNext ⟨i, W, ch⟩ ⟨23, 0, a, 0, n⟩ false true = some ⟨i, W, ch⟩ := by
      unfold ckNext
      rw [h1, h2, h3]
      show some (Ck.mk i W (ch || (false || false))) = _
      simp
    rw [h4]
    exact (tail_exit hm ch).run i W
  · simp at ho
    rcases ho with rfl | rfl
    · exact ⟨mid_small (by dsimp only; omega), mid0, mid_small (by dsimp only; omega), mid0, hn⟩
    · exact ⟨mid_small (by dsimp only; omega), mid0, mid0, mid0, hm⟩
theorem tail_slow : TailOk [⟨22, 0, 0, 0, 0⟩] false := by
  refine ⟨fun i W => rfl, fun o ho => ?_, by simp⟩
  simp at ho; subst ho
  exact ⟨mid_small (by dsimp only; omega), mid0, mid0, mid0, word0⟩
/-- What the maker hands back. -/
structure MadeOk (b : Blk) : Prop where
  ok : b.ok
  valid : validB b = true
  len : b.ops.length ≤ 200
  lp : b.pages.length ≤ 10
theorem made_ok {ats : List Int} {p : Int} {ops t : List BOp} {i W : Nat} {ch : Bool} (h : PreOk ops i W ch) (ht : TailOk t ch) (hi : 1 ≤ i) (hats : ∀ x ∈ ats, word x) (hatl : ats.length = i) (hi2 : i ≤ 64) (hp : 0 ≤ p ∧ p < 4096) (hlen : ops.length + t.length ≤ 200) : MadeOk ⟨ats, [p], ops ++ t⟩ := by
  refine ⟨⟨hats, fun x hx => ?_, fun o ho => ?_, ?_, ?_, ?_⟩, ?_, by simp; omega, by show 1 ≤ 10; omega⟩
  · simp at hx; subst hx; unfold mid; omega
  · rcases List.mem_append.1 ho with ho | ho
    · exact (h.all o ho).1
    · exact ht.all o ho
  · show ats.length ≤ _; omega
  · show 1 ≤ _; omega
  · show (ops ++ t).length ≤ _; simp; omega
  · obtain ⟨o, l, h1, h2⟩ : ∃ o l, ops = o :: l ∧ o.code = 20 := by
      rcases h.head with ⟨h0, _⟩ | h0
      · omega
      · exact h0
    have hrun : ckRun ⟨0, 0, false⟩ (ops ++ t) = some ⟨i, W, ch⟩ := by rw [ckRun_pre h.run (fun o ho => (h.all o ho).2) ht.ne]; exact ht.run i W
    unfold validB
    dsimp only
    rw [hrun]
    have hpos : 1 ≤ (ops ++ t).length := by rw [h1]; simp
    have hh : headerB ⟨ats, [p], ops ++ t⟩ = true := by
      unfold headerB
      dsimp only
      have e1 : pagesFrom none [p] = true := by
        show (decide (0 ≤ p ∧ p < 4096) && true && true) = true
        simp; omega
      have e2 : decide (1 ≤ ats.length ∧ ats.length ≤ 64) = true := by rw [decide_eq_true_eq]; omega
      have e3 : decide (1 ≤ (ops ++ t).length ∧ (ops ++ t).length ≤ 2000) = true := by rw [decide_eq_true_eq]; simp at hpos ⊢; omega
      rw [e1, e2, e3, h1]
      simp [h2]
    rw [hh]
    simp [hatl]
end Go.Proofs.Ytmjfgnnefcimiaa
namespace Go.Proofs.Ytmjfgnnefcimiaa
open Go.RowKit

theorem call_instr {w0 : World} {G : Gs} {S : List Ow} {K : AV → List Ow → Prop} (i : Nat) {A : Option Addr} {m c : Nat} {xs : List Int} {k : Int} (hi : S[i]? = some (.cells 124 ((mkC A m c k).map .v))) (hs : SlOld w0 G A (xs.map (.int .i64))) (hl : xs.length = m) (hm : m ≤ 1000000) (hk : 0 ≤ k ∧ k < 900000)
    (hK : ∀ (l : List BOp) (W : Nat) (ch : Bool) (k' : Int), BodyOk l W ch → l.length ≤ 10 → 0 ≤ k' → k' ≤ k + 200 → K (.p (.c (.row S.length))) (S.set i (.cells 124 ((mkC A m c k').map .v)) ++ [.row 53 5 l.length (l.flatMap opC)])) : CallS Try.prog w0 G 93 [.p (.c (.ref i 0))] S K := by
  refine call_own_row 53 5 (fun n ys us' => ∃ (l : List BOp) (W : Nat) (ch : Bool) (k' : Int), BodyOk l W ch ∧ n = l.length ∧ ys = l.flatMap opC ∧ l.length ≤ 10 ∧ us' = mkC A m c k' ∧ 0 ≤ k' ∧ k' ≤ k + 200) i hi (xs := []) rfl (by kernel_rfl) (fun w g ho hg => instruction_walk A m c xs k g w (ho A _ hs) hl hm hk hg) ?_
  rintro n ys us' ⟨l, W, ch, k', hb, rfl, rfl, hll, rfl, h0, h1⟩
  exact hK l W ch k' hb hll h0 h1
theorem ops_one (l : List BOp) : ∀ u ∈ l.flatMap opC, u.oneCell' = true := fun u hu => by
  obtain ⟨o, _, ho⟩ := List.mem_flatMap.1 hu
  exact opC_one u ho
/-- The instructions under way. -/
structure MadeSt (n : Int) (k0 : Int) where
  i : Nat
  ats : List Int
  ops : List BOp
  W : Nat
  ch : Bool
  k : Int
  hi : (i : Int) ≤ n
  hats : ∀ x ∈ ats, word x
  hatl : ats.length = i
  pre : PreOk ops i W ch
  hlen : ops.length ≤ 11 * i
  hk : 0 ≤ k ∧ k ≤ k0 + 210 * i
set_option maxRecDepth 100000 in
theorem made12_walk (A : Option Addr) (m c : Nat) (xs : List Int) (w : World) (hs : SlAt w w.heap.size A (xs.map (.int .i64))) (hl : xs.length = m) (hm : m ≤ 1000000) :
    Calls Try.prog 68 #[.slice A m c] w fun e w' => ∃ b v1 v2 v3, MadeOk b ∧ e = .returned (.agg #[v1, v2, v3]) ∧ Rows3 w.heap.size w' v1 v2 v3 b ∧ Below w.heap.size w w' := by
  have hs0 : SlOld w Gs.nil A (xs.map (.int .i64)) := fun j u hj => by
    obtain ⟨b, off, e1, e2, e3⟩ := hs j u hj
    exact ⟨b, off, e1, e2, by simp, e3⟩
  refine calls_satq [.slice A m c] Try.func68 Try.ntmps68 rfl (by simp) ?_
  refine satq_seq ?_
  conv => whnf
  refine satq_seq ?_
  conv => whnf
  refine satq_seq ?_
  conv => whnf
  refine call_take 1 rfl hs0 hl hm (by omega) (by omega) fun z z0 z1 => ?_
  conv => whnf
  refine ⟨1 + z, wr64 (by omega), ?_⟩
  conv => whnf
  refine satq_seq ?_
  conv => whnf
  refine call_take 1 rfl hs0 hl hm (by omega) (by omega) fun y y0 y1 => ?_
  conv => whnf
  refine ⟨y, by rw [wr32]; omega, ?_⟩
  conv => whnf
  refine ⟨y * 8, by rw [wr32]; omega, ?_⟩
  conv => whnf
  refine satq_seq ?_
  conv => whnf
  refine ⟨by omega, y * 8 / 256, by rw [Int.tdiv_eq_ediv_of_nonneg (by omega), wr32]; omega, ?_⟩
  conv => whnf
  refine ⟨y * 8 / 256, wr64 (by omega), ?_⟩
  conv => whnf
  obtain ⟨n, hn, hn0, hn1⟩ : ∃ n, n = 1 + z ∧ 1 ≤ n ∧ n ≤ 12 := ⟨_, rfl, by omega, by omega⟩
  rw [← hn]
  obtain ⟨at0, hat, hat0, hat1⟩ : ∃ a, a = y * 8 ∧ 0 ≤ a ∧ a < 4096 := ⟨_, rfl, by omega, by omega⟩
  rw [← hat]
  obtain ⟨p, hp, hp0, hp1⟩ : ∃ p, p = at0 / 256 ∧ 0 ≤ p ∧ p < 4096 := ⟨_, rfl, by omega, by omega⟩
  rw [← hp]
  clear hn hat hp
  refine satq_in ?_
  refine satq_seq ?_
  conv => whnf
  refine satq_block ?_
  refine satq_loop (α := MadeSt n 2) (fun x => [(2, .p (.c (.ref 0 0))), (3, .p (.c (.ref 1 0))), (4, one (.int .i64 n)), (5, one (.int .u32 at0)), (6, .p (.c (.ref 3 0))), (7, one (.int .i64 (x.i : Int)))])
    (fun x => [.cells 32 [.v (.slice none 0 0), .v (.slice none 0 0), .v (.slice none 0 0)], .cells 124 ((mkC A m c x.k).map .v), .cells 3 [.v (.int .i64 p)], .cells 32 [.row 4, .sl 2 0 1 1, .row 5], .row 24 1 x.ats.length (x.ats.map (.int .u32)), .row 53 5 x.ops.length (x.ops.flatMap opC)])
    (fun x => (n - x.i).toNat) ⟨0, [], [], 0, false, 2, by omega, nofun, rfl, PreOk.nil, by simp, by omega⟩
    (ent_trans (ent_cellrow 3 0 24 1 rfl rfl (f' := [(2, .p (.c (.ref 0 0))), (3, .p (.c (.ref 1 0))), (4, one (.int .i64 n)), (5, one (.int .u32 at0)), (6, .p (.c (.ref 3 0))), (7, one (.int .i64 0))]) (And.intro (rfl) (And.intro (rfl) (And.intro (rfl) (And.intro (rfl) (And.intro (rfl) (And.intro (rfl) trivial))))))) (ent_trans (ent_cellrow 3 2 53 5 rfl rfl (f' := [(2, .p (.c (.ref 0 0))), (3, .p (.c (.ref 1 0))), (4, one (.int .i64 n)), (5, one (.int .u32 at0)), (6, .p (.c (.ref 3 0))), (7, one (.int .i64 0))]) (And.intro (rfl) (And.intro (rfl) (And.intro (rfl) (And.intro (rfl) (And.intro (rfl) (And.intro (rfl) trivial))))))) (ent_same rfl (And.intro (rfl) (And.intro (rfl) (And.intro (rfl) (And.intro (rfl) (And.intro (rfl) (And.intro (rfl) trivial)))))) (And.intro ((And.intro rfl (Or.inl rfl))) (And.intro ((And.intro rfl (Or.inl rfl))) (And.intro ((And.intro rfl (Or.inl rfl))) (And.intro ((And.intro rfl (Or.inl rfl))) (And.intro ((And.intro rfl (And.intro rfl (And.intro (rfl) (rfl))))) (And.intro ((And.intro rfl (And.intro rfl (And.intro (rfl) (rfl))))) trivial))))))))) fun x => ?_
  obtain ⟨i, ats, ops, W, ch, k, hi, hats, hatl, pre, hlen, hk⟩ := x
  dsimp only
  refine satq_seq ?_
  conv => whnf
  refine ⟨fun hc => ?_, fun hc => ?_⟩
  · have hlt : (i : Int) < n := by simpa using hc
    conv => whnf
    refine satq_mid (α := { y : MadeSt n 2 // y.i = i + 1 }) (fun y => [(2, .p (.c (.ref 0 0))), (3, .p (.c (.ref 1 0))), (4, one (.int .i64 n)), (5, one (.int .u32 at0)), (6, .p (.c (.ref 3 0))), (7, one (.int .i64 (i : Int)))])
      (fun y => [.cells 32 [.v (.slice none 0 0), .v (.slice none 0 0), .v (.slice none 0 0)], .cells 124 ((mkC A m c y.1.k).map .v), .cells 3 [.v (.int .i64 p)], .cells 32 [.row 4, .sl 2 0 1 1, .row 5], .row 24 1 y.1.ats.length (y.1.ats.map (.int .u32)), .row 53 5 y.1.ops.length (y.1.ops.flatMap opC)]) ?_ fun y => ?_
    · refine satq_block ?_
      refine satq_seq ?_
      conv => whnf
      refine ⟨_, wr64 (by omega), ?_⟩
      conv => whnf
      refine ⟨_, wr32 _, ?_⟩
      conv => whnf
      refine ⟨_, wr32 _, ?_⟩
      conv => whnf
      refine appK_sound rfl ?_ rfl
      conv => whnf
      refine ⟨by omega, ?_⟩
      conv => whnf
      refine satq_seq ?_
      conv => whnf
      refine ⟨(i : Int), by rw [wr32]; omega, ?_⟩
      conv => whnf
      refine appK_sound rfl ?_ rfl
      conv => whnf
      refine ⟨by omega, ?_⟩
      conv => whnf
      obtain ⟨ats2, hats2⟩ : ∃ l, l = ats ++ [(at0 + 4 * (i : Int) % 4294967296) % 4294967296] := ⟨_, rfl⟩
      have hatsw : ∀ x ∈ ats2, word x := by
        intro x hx
        rw [hats2] at hx
        rcases List.mem_append.1 hx with hx | hx
        · exact hats x hx
        · simp at hx; subst hx; exact word_mod _
      have hatsl : ats2.length = i + 1 := by rw [hats2]; simp [hatl]
      have pre2 := pre.mark (by omega)
      refine satq_mid (α := { y : Int × Bool // k ≤ y.1 ∧ y.1 ≤ k + 1 }) (fun y => [(2, .p (.c (.ref 0 0))), (3, .p (.c (.ref 1 0))), (4, one (.int .i64 n)), (5, one (.int .u32 at0)), (6, .p (.c (.ref 3 0))), (7, one (.int .i64 (i : Int))), (55, one (.bool y.1.2))])
        (fun y => [.cells 32 [.v (.slice none 0 0), .v (.slice none 0 0), .v (.slice none 0 0)], .cells 124 ((mkC A m c y.1.1).map .v), .cells 3 [.v (.int .i64 p)], .cells 32 [.row 4, .sl 2 0 1 1, .row 5], .row 24 1 ats2.length (ats2.map (.int .u32)), .row 53 5 (ops ++ [(⟨20, 0, 0, 0, (i : Int)⟩ : BOp)]).length ((ops ++ [(⟨20, 0, 0, 0, (i : Int)⟩ : BOp)]).flatMap opC)]) ?_ fun y => ?_
      · refine satq_region ?_
        conv => whnf
        refine ⟨_, wr64 (by omega), ?_⟩
        conv => whnf
        by_cases hlast : (i : Int) < n - 1
        · rw [decide_eq_true hlast]
          conv => whnf
          exact atq_mid ⟨(k, true), by dsimp only; omega⟩ (ent_drop (And.intro (rfl) (And.intro (rfl) (And.intro (rfl) (And.intro (rfl) (And.intro (rfl) (And.intro (rfl) (And.intro (rfl) trivial))))))) (And.intro ((And.intro rfl (Or.inl rfl))) (And.intro ((And.intro rfl (Or.inl rfl))) (And.intro ((And.intro rfl (Or.inl rfl))) (And.intro ((And.intro rfl (Or.inl rfl))) (And.intro ((And.intro rfl (And.intro rfl (And.intro (by rw [hats2]; simp) (by rw [hats2]; simp))))) (And.intro ((And.intro rfl (And.intro rfl (And.intro (by simp) (by simp [opC]))))) trivial)))))) rfl rfl)
        · rw [decide_eq_false hlast]
          conv => whnf
          refine call_take 1 rfl hs0 hl hm (by omega) (by omega) fun q q0 q1 => ?_
          conv => whnf
          exact atq_mid ⟨(k + 1, decide (q > 0)), by dsimp only; omega⟩ (ent_drop (And.intro (rfl) (And.intro (rfl) (And.intro (rfl) (And.intro (rfl) (And.intro (rfl) (And.intro (rfl) (And.intro (rfl) trivial))))))) (And.intro ((And.intro rfl (Or.inl rfl))) (And.intro ((And.intro rfl (Or.inl rfl))) (And.intro ((And.intro rfl (Or.inl rfl))) (And.intro ((And.intro rfl (Or.inl rfl))) (And.intro ((And.intro rfl (And.intro rfl (And.intro (by rw [hats2]; simp) (by rw [hats2]; simp))))) (And.intro ((And.intro rfl (And.intro rfl (And.intro (by simp) (by simp [opC]))))) trivial)))))) rfl rfl)
      obtain ⟨⟨k2, bd⟩, hk2⟩ := y
      dsimp only at hk2 ⊢
      refine satq_vc ?_
      conv => whnf
      refine ⟨fun _ => ?_, fun _ => ?_⟩
      · conv => whnf
        refine sat_any (.q 0 (.q 2 (.alt 1 (.alt 3 (.alt 4 (.q 5 (.alt 6 .done .no)) .no) .no) (.alt 3 (.alt 1 (.alt 4 (.q 5 (.alt 6 .done .no)) .no) .no) .no)))) mixed (by kernel_rfl) (by kernel_rfl) ?_
        conv => whnf
        refine ⟨?_, ?_, trivial⟩
        · conv => whnf
          refine ⟨?_, trivial⟩
          conv => whnf
          refine call_instr 1 rfl hs0 hl hm (by omega) fun l W' ch' k' hb hll h0 h1 => ?_
          conv => whnf
          refine ⟨?_, trivial⟩
          conv => whnf
          refine appK_sound rfl ?_ rfl
          conv => whnf
          refine ⟨rfl, ops_one l, ?_⟩
          conv => whnf
          refine ⟨by simp; omega, ?_⟩
          conv => whnf
          refine ⟨?_, trivial⟩
          conv => whnf
          refine atq_block ?_
          exact atq_mid ⟨⟨i + 1, ats2, (ops ++ [(⟨20, 0, 0, 0, (i : Int)⟩ : BOp)]) ++ l, W', ch', k', by omega, hatsw, hatsl, pre2.body hb (by omega), by simp; omega, by omega⟩, rfl⟩ (ent_drop (And.intro (rfl) (And.intro (rfl) (And.intro (rfl) (And.intro (rfl) (And.intro (rfl) (And.intro (rfl) trivial)))))) (And.intro ((And.intro rfl (Or.inl rfl))) (And.intro ((And.intro rfl (Or.inl rfl))) (And.intro ((And.intro rfl (Or.inl rfl))) (And.intro ((And.intro rfl (Or.inl rfl))) (And.intro ((And.intro rfl (And.intro rfl (And.intro (rfl) (rfl))))) (And.intro ((And.intro rfl (And.intro rfl (And.intro (by simp; omega) (by simp [opC]))))) trivial)))))) rfl rfl)
        · conv => whnf
          refine call_instr 1 rfl hs0 hl hm (by omega) fun l W' ch' k' hb hll h0 h1 => ?_
          conv => whnf
          refine ⟨?_, trivial⟩
          conv => whnf
          refine ⟨?_, trivial⟩
          conv => whnf
          refine appK_sound rfl ?_ rfl
          conv => whnf
          refine ⟨rfl, ops_one l, ?_⟩
          conv => whnf
          refine ⟨by simp; omega, ?_⟩
          conv => whnf
          refine ⟨?_, trivial⟩
          conv => whnf
          refine atq_block ?_
          exact atq_mid ⟨⟨i + 1, ats2, (ops ++ [(⟨20, 0, 0, 0, (i : Int)⟩ : BOp)]) ++ l, W', ch', k', by omega, hatsw, hatsl, pre2.body hb (by omega), by simp; omega, by omega⟩, rfl⟩ (ent_drop (And.intro (rfl) (And.intro (rfl) (And.intro (rfl) (And.intro (rfl) (And.intro (rfl) (And.intro (rfl) trivial)))))) (And.intro ((And.intro rfl (Or.inl rfl))) (And.intro ((And.intro rfl (Or.inl rfl))) (And.intro ((And.intro rfl (Or.inl rfl))) (And.intro ((And.intro rfl (Or.inl rfl))) (And.intro ((And.intro rfl (And.intro rfl (And.intro (rfl) (rfl))))) (And.intro ((And.intro rfl (And.intro rfl (And.intro (by simp; omega) (by simp [opC]))))) trivial)))))) rfl rfl)
      · conv => whnf
        refine atq_block ?_
        exact atq_mid ⟨⟨i + 1, ats2, _, 0, false, k2, by omega, hatsw, hatsl, pre2, by simp; omega, by omega⟩, rfl⟩ (ent_same rfl (And.intro (rfl) (And.intro (rfl) (And.intro (rfl) (And.intro (rfl) (And.intro (rfl) (And.intro (rfl) trivial)))))) (And.intro ((And.intro rfl (Or.inl rfl))) (And.intro ((And.intro rfl (Or.inl rfl))) (And.intro ((And.intro rfl (Or.inl rfl))) (And.intro ((And.intro rfl (Or.inl rfl))) (And.intro ((And.intro rfl (And.intro rfl (And.intro (rfl) (rfl))))) (And.intro ((And.intro rfl (And.intro rfl (And.intro (rfl) (rfl))))) trivial)))))))
    obtain ⟨y, hy⟩ := y
    dsimp only
    refine satq_vc ?_
    conv => whnf
    refine ⟨_, wr64 (by omega), ?_⟩
    conv => whnf
    exact atq_next y (ent_same rfl (And.intro (rfl) (And.intro (rfl) (And.intro (rfl) (And.intro (rfl) (And.intro (rfl) (And.intro ((by show one _ = one _; rw [hy]; rfl)) trivial)))))) (And.intro ((And.intro rfl (Or.inl rfl))) (And.intro ((And.intro rfl (Or.inl rfl))) (And.intro ((And.intro rfl (Or.inl rfl))) (And.intro ((And.intro rfl (Or.inl rfl))) (And.intro ((And.intro rfl (And.intro rfl (And.intro (rfl) (rfl))))) (And.intro ((And.intro rfl (And.intro rfl (And.intro (rfl) (rfl))))) trivial))))))) (by rw [hy]; omega)
  · have hlt : (i : Int) = n := by simp at hc; omega
    conv => whnf
    refine atq_out (atq_exit (atq_on ?_))
    refine satq_seq ?_
    conv => whnf
    refine call_take 1 rfl hs0 hl hm (by omega) (by omega) fun q q0 q1 => ?_
    conv => whnf
    refine ⟨q, by rw [wr32]; omega, ?_⟩
    conv => whnf
    refine ⟨q * 4, by rw [wr32]; omega, ?_⟩
    conv => whnf
    have hnx : word (q * 4) := by unfold word; omega
    refine satq_mid (α := { y : List Int × List BOp // MadeOk ⟨y.1, [p], y.2⟩ }) (fun y => [(2, .p (.c (.ref 0 0))), (6, .p (.c (.ref 3 0)))])
      (fun y => [.cells 32 [.v (.slice none 0 0), .v (.slice none 0 0), .v (.slice none 0 0)], .gone, .cells 3 [.v (.int .i64 p)], .cells 32 [.row 4, .sl 2 0 1 1, .row 5], .row 24 1 y.1.1.length (y.1.1.map (.int .u32)), .row 53 5 y.1.2.length (y.1.2.flatMap opC)]) ?_ fun y => ?_
    · refine satq_seq ?_
      conv => whnf
      refine call_take 1 rfl hs0 hl hm (by omega) (by omega) fun s s0 s1 => ?_
      conv => whnf
      refine satq_block ?_
      refine satq_seq ?_
      conv => whnf
      refine satq_cond rfl (fun _ => ?_) (fun _ => ?_)
      · refine satq_vc ?_
        conv => whnf
        refine ⟨(i : Int), by rw [wr32]; omega, ?_⟩
        conv => whnf
        refine appK_sound rfl ?_ rfl
        conv => whnf
        refine ⟨by omega, ?_⟩
        conv => whnf
        refine ⟨_, wr64 (by omega), ?_⟩
        conv => whnf
        refine ⟨_, wr32 _, ?_⟩
        conv => whnf
        refine ⟨_, wr32 _, ?_⟩
        conv => whnf
        refine appK_sound rfl ?_ rfl
        conv => whnf
        refine ⟨by omega, ?_⟩
        conv => whnf
        refine atq_block ?_
        exact atq_mid ⟨(ats ++ [(at0 + 4 * n % 4294967296) % 4294967296], (ops ++ [(⟨20, 0, 0, 0, (i : Int)⟩ : BOp)]) ++ [⟨22, 0, 0, 0, 0⟩]), made_ok (pre.mark (by omega)) tail_slow (by omega) (fun x hx => by
          rcases List.mem_append.1 hx with hx | hx
          · exact hats x hx
          · simp at hx; subst hx; exact word_mod _) (by simp [hatl]) (by omega) ⟨hp0, hp1⟩ (by simp; omega)⟩ (ent_drop (And.intro (rfl) (And.intro (rfl) trivial)) (And.intro ((And.intro rfl (Or.inl rfl))) (And.intro ((by trivial)) (And.intro ((And.intro rfl (Or.inl rfl))) (And.intro ((And.intro rfl (Or.inl rfl))) (And.intro ((And.intro rfl (And.intro rfl (And.intro (by simp) (by simp))))) (And.intro ((And.intro rfl (And.intro rfl (And.intro (by simp) (by simp [opC, hlt]))))) trivial)))))) rfl rfl)
      · refine satq_seq ?_
        conv => whnf
        refine satq_cond rfl (fun _ => ?_) (fun _ => ?_)
        · refine satq_vc ?_
          refine sat_any (.q 0 (.q 2 (.alt 1 (.alt 3 (.q 4 (.alt 5 (.alt 6 (.q 7 (.alt 8 .done .no)) .no) .no)) .no) (.alt 3 (.q 4 (.alt 1 (.alt 5 (.alt 6 (.q 7 (.alt 8 .done .no)) .no) .no) (.alt 5 (.alt 1 (.alt 6 (.q 7 (.alt 8 .done .no)) .no) .no) .no))) .no)))) mixed (by kernel_rfl) (by kernel_rfl) ?_
          conv => whnf
          refine ⟨?_, ?_, trivial⟩
          · conv => whnf
            refine ⟨?_, trivial⟩
            conv => whnf
            refine call_take 1 rfl hs0 hl hm (by omega) (by omega) fun a a0 a1 => ?_
            conv => whnf
            refine ⟨?_, trivial⟩
            conv => whnf
            refine ⟨?_, trivial⟩
            conv => whnf
            refine appK_sound rfl ?_ rfl
            conv => whnf
            refine ⟨by omega, ?_⟩
            conv => whnf
            refine ⟨?_, trivial⟩
            conv => whnf
            refine atq_block ?_
            exact atq_mid ⟨(ats, ops ++ [⟨25, 0, a, 0, 0⟩]), made_ok pre (tail_var ⟨a0, a1⟩ ch) (by omega) hats hatl (by omega) ⟨hp0, hp1⟩ (by simp; omega)⟩ (ent_drop (And.intro (rfl) (And.intro (rfl) trivial)) (And.intro ((And.intro rfl (Or.inl rfl))) (And.intro ((by trivial)) (And.intro ((And.intro rfl (Or.inl rfl))) (And.intro ((And.intro rfl (Or.inl rfl))) (And.intro ((And.intro rfl (And.intro rfl (And.intro (rfl) (rfl))))) (And.intro ((And.intro rfl (And.intro rfl (And.intro (by simp) (by simp [opC]))))) trivial)))))) rfl rfl)
          · conv => whnf
            refine call_take 1 rfl hs0 hl hm (by omega) (by omega) fun a a0 a1 => ?_
            conv => whnf
            refine ⟨?_, ?_, trivial⟩
            · conv => whnf
              refine ⟨?_, trivial⟩
              conv => whnf
              refine ⟨?_, trivial⟩
              conv => whnf
              refine appK_sound rfl ?_ rfl
              conv => whnf
              refine ⟨by omega, ?_⟩
              conv => whnf
              refine ⟨?_, trivial⟩
              conv => whnf
              refine atq_block ?_
              exact atq_mid ⟨(ats, ops ++ [⟨25, 0, a, 0, 0⟩]), made_ok pre (tail_var ⟨a0, a1⟩ ch) (by omega) hats hatl (by omega) ⟨hp0, hp1⟩ (by simp; omega)⟩ (ent_drop (And.intro (rfl) (And.intro (rfl) trivial)) (And.intro ((And.intro rfl (Or.inl rfl))) (And.intro ((by trivial)) (And.intro ((And.intro rfl (Or.inl rfl))) (And.intro ((And.intro rfl (Or.inl rfl))) (And.intro ((And.intro rfl (And.intro rfl (And.intro (rfl) (rfl))))) (And.intro ((And.intro rfl (And.intro rfl (And.intro (by simp) (by simp [opC]))))) trivial)))))) rfl rfl)
            · conv => whnf
              refine ⟨?_, trivial⟩
              conv => whnf
              refine ⟨?_, trivial⟩
              conv => whnf
              refine appK_sound rfl ?_ rfl
              conv => whnf
              refine ⟨by omega, ?_⟩
              conv => whnf
              refine ⟨?_, trivial⟩
              conv => whnf
              refine atq_block ?_
              exact atq_mid ⟨(ats, ops ++ [⟨25, 0, a, 0, 0⟩]), made_ok pre (tail_var ⟨a0, a1⟩ ch) (by omega) hats hatl (by omega) ⟨hp0, hp1⟩ (by simp; omega)⟩ (ent_drop (And.intro (rfl) (And.intro (rfl) trivial)) (And.intro ((And.intro rfl (Or.inl rfl))) (And.intro ((by trivial)) (And.intro ((And.intro rfl (Or.inl rfl))) (And.intro ((And.intro rfl (Or.inl rfl))) (And.intro ((And.intro rfl (And.intro rfl (And.intro (rfl) (rfl))))) (And.intro ((And.intro rfl (And.intro rfl (And.intro (by simp) (by simp [opC]))))) trivial)))))) rfl rfl)
        · refine satq_mid (α := Bool) (fun y => [(2, .p (.c (.ref 0 0))), (3, .p (.c (.ref 1 0))), (4, one (.int .i64 n)), (5, one (.int .u32 at0)), (6, .p (.c (.ref 3 0))), (8, one (.int .u32 (q * 4))), (106, one (.bool y))]) (fun y => [.cells 32 [.v (.slice none 0 0), .v (.slice none 0 0), .v (.slice none 0 0)], .cells 124 ((mkC A m c (k + 1 + 1)).map .v), .cells 3 [.v (.int .i64 p)], .cells 32 [.row 4, .sl 2 0 1 1, .row 5], .row 24 1 ats.length (ats.map (.int .u32)), .row 53 5 ops.length (ops.flatMap opC)]) ?_ fun y => ?_
          · refine satq_seq ?_
            conv => whnf
            refine satq_cond rfl (fun h => ?_) (fun h => ?_)
            · refine satq_skip ?_
              exact atq_mid true (ent_same rfl (And.intro (rfl) (And.intro (rfl) (And.intro (rfl) (And.intro (rfl) (And.intro (rfl) (And.intro (rfl) (And.intro ((by show one _ = one _; rw [h])) trivial))))))) (And.intro ((And.intro rfl (Or.inl rfl))) (And.intro ((And.intro rfl (Or.inl rfl))) (And.intro ((And.intro rfl (Or.inl rfl))) (And.intro ((And.intro rfl (Or.inl rfl))) (And.intro ((And.intro rfl (And.intro rfl (And.intro (rfl) (rfl))))) (And.intro ((And.intro rfl (And.intro rfl (And.intro (rfl) (rfl))))) trivial)))))))
            · refine satq_vc ?_
              conv => whnf
              exact atq_mid (s == 3) (ent_same rfl (And.intro (rfl) (And.intro (rfl) (And.intro (rfl) (And.intro (rfl) (And.intro (rfl) (And.intro (rfl) (And.intro (rfl) trivial))))))) (And.intro ((And.intro rfl (Or.inl rfl))) (And.intro ((And.intro rfl (Or.inl rfl))) (And.intro ((And.intro rfl (Or.inl rfl))) (And.intro ((And.intro rfl (Or.inl rfl))) (And.intro ((And.intro rfl (And.intro rfl (And.intro (rfl) (rfl))))) (And.intro ((And.intro rfl (And.intro rfl (And.intro (rfl) (rfl))))) trivial)))))))
          refine satq_cond rfl (fun _ => ?_) (fun _ => ?_)
          · refine satq_vc ?_
            refine sat_any (.q 0 (.q 2 (.q 4 (.q 6 (.q 7 (.q 8 (.q 9 (.q 10 (.q 11 (.alt 1 (.alt 3 (.q 5 (.alt 12 (.alt 13 (.q 14 (.alt 15 .done .no)) .no) .no)) .no) (.alt 3 (.q 5 (.alt 1 (.alt 12 (.alt 13 (.q 14 (.alt 15 .done .no)) .no) .no) (.alt 12 (.alt 1 (.alt 13 (.q 14 (.alt 15 .done .no)) .no) .no) .no))) .no))))))))))) mixed (by kernel_rfl) (by kernel_rfl) ?_
            conv => whnf
            refine ⟨_, wr64 (by omega), ?_⟩
            conv => whnf
            refine ⟨_, wr32 _, ?_⟩
            conv => whnf
            refine ⟨_, wr32 _, ?_⟩
            conv => whnf
            refine ⟨?_, ?_, trivial⟩
            · conv => whnf
              refine ⟨?_, trivial⟩
              conv => whnf
              refine call_take 1 rfl hs0 hl hm (by omega) (by omega) fun a a0 a1 => ?_
              conv => whnf
              refine ⟨?_, trivial⟩
              conv => whnf
              refine ⟨?_, trivial⟩
              conv => whnf
              refine appK_sound rfl ?_ rfl
              conv => whnf
              refine ⟨by omega, ?_⟩
              conv => whnf
              refine ⟨?_, trivial⟩
              conv => whnf
              refine atq_block ?_
              exact atq_mid ⟨(ats, ops ++ [⟨23, 0, a, 0, q * 4⟩, ⟨24, 0, 0, 0, (at0 + 4 * n % 4294967296) % 4294967296⟩]), made_ok pre (tail_if ⟨a0, a1⟩ hnx (word_mod _) ch) (by omega) hats hatl (by omega) ⟨hp0, hp1⟩ (by simp; omega)⟩ (ent_drop (And.intro (rfl) (And.intro (rfl) trivial)) (And.intro ((And.intro rfl (Or.inl rfl))) (And.intro ((by trivial)) (And.intro ((And.intro rfl (Or.inl rfl))) (And.intro ((And.intro rfl (Or.inl rfl))) (And.intro ((And.intro rfl (And.intro rfl (And.intro (rfl) (rfl))))) (And.intro ((And.intro rfl (And.intro rfl (And.intro (by simp) (by simp [opC]))))) trivial)))))) rfl rfl)
            · conv => whnf
              refine call_take 1 rfl hs0 hl hm (by omega) (by omega) fun a a0 a1 => ?_
              conv => whnf
              refine ⟨?_, ?_, trivial⟩
              · conv => whnf
                refine ⟨?_, trivial⟩
                conv => whnf
                refine ⟨?_, trivial⟩
                conv => whnf
                refine appK_sound rfl ?_ rfl
                conv => whnf
                refine ⟨by omega, ?_⟩
                conv => whnf
                refine ⟨?_, trivial⟩
                conv => whnf
                refine atq_block ?_
                exact atq_mid ⟨(ats, ops ++ [⟨23, 0, a, 0, q * 4⟩, ⟨24, 0, 0, 0, (at0 + 4 * n % 4294967296) % 4294967296⟩]), made_ok pre (tail_if ⟨a0, a1⟩ hnx (word_mod _) ch) (by omega) hats hatl (by omega) ⟨hp0, hp1⟩ (by simp; omega)⟩ (ent_drop (And.intro (rfl) (And.intro (rfl) trivial)) (And.intro ((And.intro rfl (Or.inl rfl))) (And.intro ((by trivial)) (And.intro ((And.intro rfl (Or.inl rfl))) (And.intro ((And.intro rfl (Or.inl rfl))) (And.intro ((And.intro rfl (And.intro rfl (And.intro (rfl) (rfl))))) (And.intro ((And.intro rfl (And.intro rfl (And.intro (by simp) (by simp [opC]))))) trivial)))))) rfl rfl)
              · conv => whnf
                refine ⟨?_, trivial⟩
                conv => whnf
                refine ⟨?_, trivial⟩
                conv => whnf
                refine appK_sound rfl ?_ rfl
                conv => whnf
                refine ⟨by omega, ?_⟩
                conv => whnf
                refine ⟨?_, trivial⟩
                conv => whnf
                refine atq_block ?_
                exact atq_mid ⟨(ats, ops ++ [⟨23, 0, a, 0, q * 4⟩, ⟨24, 0, 0, 0, (at0 + 4 * n % 4294967296) % 4294967296⟩]), made_ok pre (tail_if ⟨a0, a1⟩ hnx (word_mod _) ch) (by omega) hats hatl (by omega) ⟨hp0, hp1⟩ (by simp; omega)⟩ (ent_drop (And.intro (rfl) (And.intro (rfl) trivial)) (And.intro ((And.intro rfl (Or.inl rfl))) (And.intro ((by trivial)) (And.intro ((And.intro rfl (Or.inl rfl))) (And.intro ((And.intro rfl (Or.inl rfl))) (And.intro ((And.intro rfl (And.intro rfl (And.intro (rfl) (rfl))))) (And.intro ((And.intro rfl (And.intro rfl (And.intro (by simp) (by simp [opC]))))) trivial)))))) rfl rfl)
          · refine satq_vc ?_
            conv => whnf
            refine appK_sound rfl ?_ rfl
            conv => whnf
            refine ⟨by omega, ?_⟩
            conv => whnf
            refine atq_block ?_
            exact atq_mid ⟨(ats, ops ++ [⟨24, 0, 0, 0, q * 4⟩]), made_ok pre (tail_exit hnx ch) (by omega) hats hatl (by omega) ⟨hp0, hp1⟩ (by simp; omega)⟩ (ent_drop (And.intro (rfl) (And.intro (rfl) trivial)) (And.intro ((And.intro rfl (Or.inl rfl))) (And.intro ((by trivial)) (And.intro ((And.intro rfl (Or.inl rfl))) (And.intro ((And.intro rfl (Or.inl rfl))) (And.intro ((And.intro rfl (And.intro rfl (And.intro (rfl) (rfl))))) (And.intro ((And.intro rfl (And.intro rfl (And.intro (by simp) (by simp [opC]))))) trivial)))))) rfl rfl)
    obtain ⟨⟨ats2, ops2⟩, hy⟩ := y
    dsimp only at hy ⊢
    refine satq_vc ?_
    conv => whnf
    refine atq_ret ?_
    conv => whnf
    refine fin_rows3 4 2 5 ⟨ats2, [p], ops2⟩ (by omega) (by omega) (by omega) (.inl ⟨rfl, rfl⟩) (.inr ⟨rfl, rfl, rfl, by show (1 : Nat) ≤ maxLen; decide⟩) (.inl ⟨rfl, rfl⟩) fun w' v1 v2 v3 h3 hB => ⟨_, v1, v2, v3, hy, rfl, h3, hB⟩
end Go.Proofs.Ytmjfgnnefcimiaa
namespace Go.Proofs.Ytmjfgnnefcimiaa
open Go.RowKit

/-- What may stand for an operation that only writes a variable. -/
structure ReplOk (o p : BOp) : Prop where
  formed : formedB p = true
  code : 1 ≤ p.code ∧ p.code ≤ 15
  writes : writes p = writes o
  reads : ∀ v ∈ reads p, v ∈ Go.Proofs.Ytmjfgnnefcimiaa.reads o
theorem pure_code {o : BOp} (hp : pureB o = true) : 1 ≤ o.code ∧ o.code ≤ 15 ∧ writes o = o.d := by
  unfold pureB writes at hp
  simp only [Bool.and_eq_true, decide_eq_true_eq] at hp
  obtain ⟨h1, h2⟩ := hp
  split at h1
  · rename_i hd
    have hd' : 1 ≤ o.code ∧ o.code ≤ 17 := by unfold hasD at hd; simpa using hd
    have hl : leaves o.code = false := by simpa using h2
    unfold leaves at hl; rw [decide_eq_false_iff_not] at hl
    exact ⟨by omega, by omega, by unfold writes; rw [if_pos hd]⟩
  · omega
theorem ckNext_repl {s s' : Ck} {o p : BOp} {x y : Bool} (hp : pureB o = true) (hr : ReplOk o p) (h : ckNext s o x y = some s') : ckNext s p x y = some s' := by
  obtain ⟨c1, c2, _⟩ := pure_code hp
  obtain ⟨f1, ⟨d1, d2⟩, e1, e2⟩ := hr
  have code_facts : ∀ c : Int, 1 ≤ c ∧ c ≤ 15 → endsB c = false ∧ (c == 23) = false ∧ leaves c = false ∧ (c == 20) = false ∧ stores c = false := fun c hc => by
    refine ⟨?_, ?_, ?_, ?_, ?_⟩
    · unfold endsB; rw [decide_eq_false_iff_not]; omega
    · rw [beq_eq_false_iff_ne]; omega
    · unfold leaves; rw [decide_eq_false_iff_not]; omega
    · rw [beq_eq_false_iff_ne]; omega
    · unfold stores; rw [decide_eq_false_iff_not]; omega
  obtain ⟨k1, k2, k3, k4, k5⟩ := code_facts o.code ⟨c1, c2⟩
  obtain ⟨j1, j2, j3, j4, j5⟩ := code_facts p.code ⟨d1, d2⟩
  have hpl : ∀ q : BOp, endsB q.code = false → (q.code == 23) = false → leaves q.code = false → placedB s q x y = (false == x) := fun q q1 q2 q3 => by
    unfold placedB; rw [q1, q2, q3]; simp
  unfold ckNext at h ⊢
  rw [hpl o k1 k2 k3, k4, k5] at h
  rw [hpl p j1 j2 j3, f1, j4, j5, e1]
  have hf : formedB o = true ∧ (false == x) = true := by
    by_cases hc : (formedB o && (false == x)) = true
    · simpa using hc
    · rw [if_neg hc] at h; cases h
  rw [hf.1, hf.2] at h
  rw [hf.2]
  simp only [Bool.and_self, if_true, Bool.false_eq_true, if_false] at h ⊢
  by_cases hr : (reads o).all (readB s) = true
  · rw [if_pos hr] at h
    rw [if_pos (by rw [List.all_eq_true] at hr ⊢; exact fun v hv => hr v (e2 v hv))]
    exact h
  · rw [if_neg hr] at h; cases h
theorem ckRun_repl : ∀ {l : List BOp} {s s' : Ck} {i : Nat} {o p : BOp}, ckRun s l = some s' → l[i]? = some o → pureB o = true → ReplOk o p → ckRun s (l.set i p) = some s'
  | [], s, s', i, o, p, h, hi, _, _ => by simp at hi
  | q :: l, s, s', 0, o, p, h, hi, hp, hr => by
    simp at hi; subst hi
    simp only [List.set_cons_zero, ckRun] at h ⊢
    split at h
    · rename_i s1 h1
      rw [ckNext_repl hp hr h1]; exact h
    · cases h
  | q :: l, s, s', i + 1, o, p, h, hi, hp, hr => by
    have hi' : l[i]? = some o := by simpa using hi
    have h : (match ckNext s q l.isEmpty (exitNext l) with | some s' => ckRun s' l | none => none) = some s' := h
    rw [List.set_cons_succ]
    show (match ckNext s q (l.set i p).isEmpty (exitNext (l.set i p)) with | some s' => ckRun s' (l.set i p) | none => none) = some s'
    have e1 : (l.set i p).isEmpty = l.isEmpty := by cases l <;> cases i <;> rfl
    have e2 : exitNext (l.set i p) = exitNext l := by
      cases l with
      | nil => rfl
      | cons a l =>
        cases i with
        | zero =>
          simp at hi'; subst hi'
          have := pure_code hp
          have := hr.code
          show (p.code == 24) = (a.code == 24)
          rw [beq_eq_false_iff_ne.2 (by omega), beq_eq_false_iff_ne.2 (by omega)]
        | succ i => rfl
    rw [e1, e2]
    split at h
    · exact ckRun_repl h hi' hp hr
    · cases h
def headMark (l : List BOp) : Bool := match l with | [] => false | o :: _ => o.code == 20
theorem made_repl {a g : List Int} {l : List BOp} {i : Nat} {o p : BOp} (h : MadeOk ⟨a, g, l⟩) (hi : l[i]? = some o) (hp : pureB o = true) (hr : ReplOk o p) (hok : p.ok) : MadeOk ⟨a, g, l.set i p⟩ := by
  have hlen : (l.set i p).length = l.length := List.length_set
  obtain ⟨h1, h2, h3, h5⟩ := h
  refine ⟨⟨h1.at_, h1.pages, fun q hq => ?_, h1.lat, h1.lpages, ?_⟩, ?_, ?_, h5⟩
  · rcases List.mem_or_eq_of_mem_set hq with hq | rfl
    · exact h1.ops q hq
    · exact hok
  · show (l.set i p).length ≤ _; rw [hlen]; exact h1.lops
  · unfold validB at h2 ⊢
    simp only [Bool.and_eq_true] at h2 ⊢
    obtain ⟨h2, h4⟩ := h2
    refine ⟨?_, ?_⟩
    · unfold headerB at h2 ⊢
      dsimp only at h2 ⊢
      rw [hlen]
      have e : headMark (l.set i p) = headMark l := by
        cases l with
        | nil => rfl
        | cons q l =>
          cases i with
          | zero =>
            simp at hi; subst hi
            have := pure_code hp
            have := hr.code
            show (p.code == 20) = (q.code == 20)
            rw [beq_eq_false_iff_ne.2 (by omega), beq_eq_false_iff_ne.2 (by omega)]
          | succ i => rfl
      have h2 : (pagesFrom none g && decide (1 ≤ a.length ∧ a.length ≤ 64) && decide (1 ≤ l.length ∧ l.length ≤ 2000) && headMark l) = true := h2
      show (pagesFrom none g && decide (1 ≤ a.length ∧ a.length ≤ 64) && decide (1 ≤ l.length ∧ l.length ≤ 2000) && headMark (l.set i p)) = true
      rw [e]; exact h2
    · split at h4
      · rename_i s hs
        have hs2 : ckRun ⟨0, 0, false⟩ (l.set i p) = some s := ckRun_repl hs hi hp hr
        rw [hs2]; exact h4
      · cases h4
  · show (l.set i p).length ≤ _; rw [hlen]; exact h3
theorem pure_formed_d {o : BOp} (hf : formedB o = true) (hp : pureB o = true) : 0 ≤ o.d ∧ o.d < 28 ∧ o.d ≠ 19 := by
  obtain ⟨c1, c2, _⟩ := pure_code hp
  unfold formedB at hf
  simp only [Bool.and_eq_true] at hf
  have hd : fieldB (hasD o.code) o.d = true := hf.1.1.1.2
  have hD : hasD o.code = true := by unfold hasD; rw [decide_eq_true_eq]; omega
  rw [hD] at hd
  unfold fieldB at hd
  rw [if_pos rfl, decide_eq_true_eq] at hd
  exact hd
theorem repl_const {o : BOp} (hf : formedB o = true) (hp : pureB o = true) (n : Int) : ReplOk o ⟨1, o.d, 0, 0, n⟩ := by
  obtain ⟨c1, c2, hw⟩ := pure_code hp
  refine ⟨?_, by dsimp only; omega, by rw [hw]; rfl, nofun⟩
  show (isOp 1 && fieldB true o.d && fieldB false 0 && fieldB false 0 && (true || _)) = true
  have : fieldB true o.d = true := by unfold fieldB; rw [if_pos rfl, decide_eq_true_eq]; exact pure_formed_d hf hp
  rw [this]; rfl
theorem reads_field {o : BOp} (hf : formedB o = true) {v : Int} (hv : v ∈ reads o) : fieldB true v = true := by
  unfold formedB at hf
  simp only [Bool.and_eq_true] at hf
  unfold reads at hv
  rcases List.mem_append.1 hv with hv | hv
  · split at hv
    · rename_i hA
      have := hf.1.1.2
      rw [hA] at this
      simp at hv; subst hv; exact this
    · cases hv
  · split at hv
    · rename_i hB
      simp only [Bool.and_eq_true] at hB
      have := hf.1.2
      rw [hB.1] at this
      simp at hv; subst hv; exact this
    · cases hv
theorem repl_move {o : BOp} (hf : formedB o = true) (hp : pureB o = true) {v : Int} (hv : v ∈ reads o) : ReplOk o ⟨2, o.d, v, 0, 0⟩ := by
  obtain ⟨c1, c2, hw⟩ := pure_code hp
  refine ⟨?_, by dsimp only; omega, by rw [hw]; rfl, fun u hu => ?_⟩
  · show (isOp 2 && fieldB true o.d && fieldB true v && fieldB false 0 && (false || true)) = true
    have : fieldB true o.d = true := by unfold fieldB; rw [if_pos rfl, decide_eq_true_eq]; exact pure_formed_d hf hp
    rw [this, reads_field hf hv]; rfl
  · have : u ∈ [v] := hu
    simp at this; subst this; exact hv
theorem field_mid {v : Int} (h : fieldB true v = true) : mid v := by
  unfold fieldB at h; rw [if_pos rfl, decide_eq_true_eq] at h
  unfold mid; omega
end Go.Proofs.Ytmjfgnnefcimiaa
