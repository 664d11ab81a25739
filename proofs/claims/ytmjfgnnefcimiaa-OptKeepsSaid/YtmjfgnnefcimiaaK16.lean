/- Plain: the masks of live variables, in the order in which they are found. Plain: the blocks that the maker makes are valid. Plain: live variables, as the reference finds them; what Dead leaves is needed. One operation's law holds; lists of operations, regions. Plain: the measure that the fixpoint loop of the optimizer makes smaller. Plain: an operation that only writes a variable, replaced by one that writes the same variable: the block stays valid. Plain: copies, as the reference finds them; in the result of Copies nothing reads a copy. -/
import Derived.Test.YtmjfgnnefcimiaaK1
import Derived.Test.YtmjfgnnefcimiaaK10
import Derived.Test.YtmjfgnnefcimiaaK11
import Derived.Test.YtmjfgnnefcimiaaK15
import Derived.Test.YtmjfgnnefcimiaaK3
import Derived.Test.YtmjfgnnefcimiaaK4
namespace Go.Proofs.Ytmjfgnnefcimiaa
open Go.RowKit

/-- The variables that are live before each operation. -/
def liveL : List BOp → List Nat
  | [] => []
  | o :: l => beforeM o ((liveL l).headD 0) :: liveL l
def liveAll (b : Blk) : List Nat := if validB b then liveL b.ops else []
theorem liveL_length : ∀ l : List BOp, (liveL l).length = l.length
  | [] => rfl
  | o :: l => by simp [liveL, liveL_length l]
/-- The state of the loop: what is live, and what has been written. -/
structure LiveS where
  live : Nat
  row : List Nat
def liveStep (s : LiveS) (x : Nat × BOp) : LiveS := ⟨beforeM x.2 s.live, s.row.set x.1 (beforeM x.2 s.live)⟩
def liveRun (n : Nat) (l : List (Nat × BOp)) : LiveS := l.foldl liveStep ⟨0, List.replicate n 0⟩
theorem liveRun_snoc (n : Nat) (l : List (Nat × BOp)) (x : Nat × BOp) : liveRun n (l ++ [x]) = liveStep (liveRun n l) x := by unfold liveRun; rw [List.foldl_append]; rfl
theorem liveFold_length : ∀ (l : List (Nat × BOp)) (s : LiveS), (l.foldl liveStep s).row.length = s.row.length
  | [], s => rfl
  | x :: l, s => by have := liveFold_length l (liveStep s x); simpa [liveStep] using this
theorem liveRun_length (n : Nat) (l : List (Nat × BOp)) : (liveRun n l).row.length = n := by have := liveFold_length l ⟨0, List.replicate n 0⟩; simpa [liveRun] using this
theorem liveFold_lt : ∀ {l : List (Nat × BOp)} {s : LiveS}, s.live < 4294967296 → (∀ x ∈ l, formedB x.2 = true) → (l.foldl liveStep s).live < 4294967296
  | [], s, h, _ => h
  | x :: l, s, h, hf => liveFold_lt (l := l) (beforeM_lt h (hf x (by simp))) fun y hy => hf y (by simp [hy])
theorem liveRun_lt (n : Nat) {l : List (Nat × BOp)} (hf : ∀ x ∈ l, formedB x.2 = true) : (liveRun n l).live < 4294967296 := liveFold_lt (by show (0 : Nat) < 4294967296; omega) hf
/-- All places, the last first. -/
theorem liveRun_all (l : List BOp) : ∀ {xs : List (Nat × BOp)}, (∀ x ∈ xs, l[x.1]? = some x.2) → xs.map (·.1) = (List.range l.length).reverse → (liveRun l.length xs).row = liveL l := by
  have key : ∀ (k : Nat) {xs : List (Nat × BOp)}, k ≤ l.length → (∀ x ∈ xs, l[x.1]? = some x.2) → xs.map (·.1) = ((List.range l.length).drop (l.length - k)).reverse → liveRun l.length xs = ⟨((liveL (l.drop (l.length - k))).headD 0), List.replicate (l.length - k) 0 ++ liveL (l.drop (l.length - k))⟩ := by
    intro k
    induction k with
    | zero =>
      intro xs _ _ hxs
      rw [Nat.sub_zero, List.drop_eq_nil_of_le (by simp)] at hxs
      have : xs = [] := by simpa using hxs
      subst this
      rw [Nat.sub_zero, List.drop_eq_nil_of_le (Nat.le_refl _)]
      simp [liveRun, liveL]
    | succ k ih =>
      intro xs hk hx hxs
      have hlt : l.length - (k + 1) < l.length := by omega
      rw [List.drop_eq_getElem_cons (by simpa using hlt), show l.length - (k + 1) + 1 = l.length - k by omega] at hxs
      simp only [List.getElem_range, List.reverse_cons] at hxs
      obtain ⟨ys, y, rfl⟩ : ∃ ys y, xs = ys ++ [y] := by
        rcases List.eq_nil_or_concat xs with h | ⟨ys, y, h⟩
        · subst h; have := congrArg List.length hxs; simp at this
        · exact ⟨ys, y, by simpa using h⟩
      rw [List.map_append, List.map_singleton] at hxs
      have h2 := List.append_inj' hxs rfl
      have hy : y.1 = l.length - (k + 1) := by simpa using h2.2
      have hyl := hx y (by simp)
      rw [hy] at hyl
      rw [liveRun_snoc, ih (by omega) (fun x hx' => hx x (by simp [hx'])) h2.1]
      rw [List.drop_eq_getElem_cons hlt, show l.length - (k + 1) + 1 = l.length - k by omega]
      have e : l[l.length - (k + 1)] = y.2 := by rw [List.getElem?_eq_getElem hlt] at hyl; injection hyl
      rw [e]
      simp only [liveL, liveStep, hy, List.headD_cons]
      congr 1
      rw [show l.length - k = l.length - (k + 1) + 1 by omega, List.replicate_succ', List.append_assoc, List.set_append_right _ _ (by simp)]
      simp
  intro xs hx hxs
  have := key l.length (xs := xs) (Nat.le_refl _) hx (by rw [Nat.sub_self]; exact hxs)
  rw [this]; simp
def natV (x : Nat) : Value := .int .u32 (x : Int)
theorem setAll_ints {l : List Nat} {k : Nat} (v : Nat) : setAll (l.map natV) k [.int .u32 (v : Int)] = (l.set k v).map natV := by
  simp only [setAll, List.map_set]; rfl
theorem zero_row (n : Nat) : (madeCells (Value.int .u32 0).cells (n * 1)).toList = (List.replicate n 0).map natV := by
  refine List.ext_getElem? fun i => ?_
  simp only [madeCells, Value.cells, Array.getElem?_toList, Array.getElem?_map, List.getElem?_map, List.getElem?_replicate, Nat.mul_one]
  by_cases h : i < n <;> simp [h, natV, Nat.mod_one]
end Go.Proofs.Ytmjfgnnefcimiaa
namespace Go.Proofs.Ytmjfgnnefcimiaa
open Go.RowKit

/-- The operations ahead of the last ones: i marks. -/
structure PreOk (ops : List BOp) (i W : Nat) (ch : Bool) : Prop where
  run : ckL ⟨0, 0, false⟩ ops = some ⟨i, W, ch⟩
  all : ∀ o ∈ ops, o.ok ∧ o.code ≠ 23
  head : (i = 0 ∧ ops = []) ∨ ∃ o l, ops = o :: l ∧ o.code = 20
theorem PreOk.nil : PreOk [] 0 0 false := ⟨rfl, nofun, .inl ⟨rfl, rfl⟩⟩
theorem ckNext_exit {s : Ck} {o : BOp} (h : o.code ≠ 23) (x : Bool) : ckNext s o false x = ckNext s o false false := by
  unfold ckNext placedB
  have : (o.code == 23) = false := by rw [beq_eq_false_iff_ne]; exact h
  rw [this]; rfl
theorem ckRun_pre : ∀ {l : List BOp} {s s' : Ck} {rest : List BOp}, ckL s l = some s' → (∀ o ∈ l, o.code ≠ 23) → rest ≠ [] → ckRun s (l ++ rest) = ckRun s' rest
  | [], s, s', rest, h, _, _ => by injection h with h; subst h; rfl
  | o :: l, s, s', rest, h, hc, hr => by
    simp only [ckL] at h
    split at h
    · rename_i s1 h1
      have ih := ckRun_pre h (fun p hp => hc p (by simp [hp])) hr
      show (match ckNext s o (l ++ rest).isEmpty _ with | some s' => ckRun s' (l ++ rest) | none => none) = _
      have he : (l ++ rest).isEmpty = false := by cases l <;> cases rest <;> simp_all
      rw [he, ckNext_exit (hc o (by simp)), h1]
      exact ih
    · cases h
theorem ckNext_mark (i W : Nat) (ch : Bool) : ckNext ⟨i, W, ch⟩ ⟨20, 0, 0, 0, (i : Int)⟩ false false = some ⟨i + 1, 0, false⟩ := by
  have h1 : formedB ⟨20, 0, 0, 0, (i : Int)⟩ = true := rfl
  have h2 : placedB ⟨i, W, ch⟩ ⟨20, 0, 0, 0, (i : Int)⟩ false false = true := by cases ch <;> rfl
  unfold ckNext
  rw [h1, h2]
  simp
theorem PreOk.mark {ops : List BOp} {i W : Nat} {ch : Bool} (h : PreOk ops i W ch) (hi : i < 1000) : PreOk (ops ++ [⟨20, 0, 0, 0, (i : Int)⟩]) (i + 1) 0 false := by
  refine ⟨?_, fun o ho => ?_, .inr ?_⟩
  · rw [ckL_append, h.run]
    show (match ckNext _ _ false false with | some s' => ckL s' [] | none => none) = _
    rw [ckNext_mark]; rfl
  · rcases List.mem_append.1 ho with ho | ho
    · exact h.all o ho
    · simp at ho; subst ho
      exact ⟨⟨mid_small (by dsimp only; omega), mid0, mid0, mid0, by unfold word; dsimp only; omega⟩, by dsimp only; omega⟩
  · rcases h.head with ⟨_, h1⟩ | ⟨o, l, h1, h2⟩
    · subst h1; exact ⟨_, [], rfl, rfl⟩
    · subst h1; exact ⟨o, _, rfl, h2⟩
theorem PreOk.body {ops l : List BOp} {i W : Nat} {ch : Bool} (h : PreOk ops i 0 false) (hb : BodyOk l W ch) (hi : 0 < i) : PreOk (ops ++ l) i W ch := by
  refine ⟨?_, fun o ho => ?_, .inr ?_⟩
  · rw [ckL_append, h.run]; exact hb.run i
  · rcases List.mem_append.1 ho with ho | ho
    · exact h.all o ho
    · have := hb.all o ho
      refine ⟨this.1, ?_⟩
      have h2 := this.2
      unfold bodyC at h2
      rw [decide_eq_true_eq] at h2
      omega
  · rcases h.head with ⟨h0, _⟩ | ⟨o, l', h1, h2⟩
    · omega
    · subst h1; exact ⟨o, _, rfl, h2⟩
/-- The last operations of a block. -/
structure TailOk (t : List BOp) (ch : Bool) : Prop where
  run : ∀ (i W : Nat), ckRun ⟨i, W, ch⟩ t = some ⟨i, W, ch⟩
  all : ∀ o ∈ t, o.ok
  ne : t ≠ []
theorem tail_exit {n : Int} (hn : word n) (ch : Bool) : TailOk [⟨24, 0, 0, 0, n⟩] ch := by
  refine ⟨fun i W => ?_, fun o ho => ?_, by simp⟩
  · cases ch <;> rfl
  · simp at ho; subst ho
    exact ⟨mid_small (by dsimp only; omega), mid0, mid0, mid0, hn⟩
theorem guest_src {a : Int} (h : 0 ≤ a ∧ a < 19) : fieldB true a = true := by unfold fieldB; rw [if_pos rfl, decide_eq_true_eq]; omega
theorem tail_var {a : Int} (ha : 0 ≤ a ∧ a < 19) (ch : Bool) : TailOk [⟨25, 0, a, 0, 0⟩] ch := by
  refine ⟨fun i W => ?_, fun o ho => ?_, by simp⟩
  · have h1 : formedB ⟨25, 0, a, 0, 0⟩ = true := by
      show (isOp 25 && fieldB false 0 && fieldB true a && fieldB false 0 && (false || true)) = true
      rw [guest_src ha]; rfl
    have h2 : placedB ⟨i, W, ch⟩ ⟨25, 0, a, 0, 0⟩ true false = true := by cases ch <;> rfl
    have h3 : (reads ⟨25, 0, a, 0, 0⟩).all (readB ⟨i, W, ch⟩) = true := by
      show ([a].all (readB ⟨i, W, ch⟩)) = true
      have : a < 20 := by omega
      simp [readB, this]
    show (match ckNext ⟨i, W, ch⟩ ⟨25, 0, a, 0, 0⟩ true false with | some s' => ckRun s' [] | none => none) = _
    unfold ckNext
    rw [h1, h2, h3]
    show some (Ck.mk i W (ch || (false || false))) = _
    simp
  · simp at ho; subst ho
    exact ⟨mid_small (by dsimp only; omega), mid0, mid_small (by dsimp only; omega), mid0, word0⟩
theorem tail_if {a n m : Int} (ha : 0 ≤ a ∧ a < 19) (hn : word n) (hm : word m) (ch : Bool) : TailOk [⟨23, 0, a, 0, n⟩, ⟨24, 0, 0, 0, m⟩] ch := by
  refine ⟨fun i W => ?_, fun o ho => ?_, by simp⟩
  · have h1 : formedB ⟨23, 0, a, 0, n⟩ = true := by
      show (isOp 23 && fieldB false 0 && fieldB true a && fieldB false 0 && (true || _)) = true
      rw [guest_src ha]; rfl
    have h2 : placedB ⟨i, W, ch⟩ ⟨23, 0, a, 0, n⟩ false true = true := by cases ch <;> rfl
    have h3 : (reads ⟨23, 0, a, 0, n⟩).all (readB ⟨i, W, ch⟩) = true := by
      show ([a].all (readB ⟨i, W, ch⟩)) = true
      have : a < 20 := by omega
      simp [readB, this]
    show (match ckNext ⟨i, W, ch⟩ ⟨23, 0, a, 0, n⟩ false true with | some s' => ckRun s' [⟨24, 0, 0, 0, m⟩] | none => none) = _
    have h4 : ckNext ⟨i, W, ch⟩ ⟨23, 0, a, 0, n⟩ false true = some ⟨i, W, ch⟩ := by
      unfold ckNext
      rw [h1, h2, h3]
      show some (Ck.mk i W (ch || (false || false))) = _
      simp
    rw [h4]
    exact (tail_exit hm ch).run i W
  · simp at ho
    rcases ho with rfl | rfl
    · exact ⟨mid_small (by dsimp only; omega), mid0, mid_small (by dsimp only; omega), mid0, hn⟩
    · exact ⟨mid_small (by dsimp only; omega), mid0, mid0, mid0, hm⟩
theorem tail_slow : TailOk [⟨22, 0, 0, 0, 0⟩] false := by
  refine ⟨fun i W => rfl, fun o ho => ?_, by simp⟩
  simp at ho; subst ho
  exact ⟨mid_small (by dsimp only; omega), mid0, mid0, mid0, word0⟩
/-- What the maker hands back. -/
structure MadeOk (b : Blk) : Prop where
  ok : b.ok
  valid : validB b = true
  len : b.ops.length ≤ 200
  lp : b.pages.length ≤ 10
theorem made_ok {ats : List Int} {p : Int} {ops t : List BOp} {i W : Nat} {ch : Bool} (h : PreOk ops i W ch) (ht : TailOk t ch) (hi : 1 ≤ i) (hats : ∀ x ∈ ats, word x) (hatl : ats.length = i) (hi2 : i ≤ 64) (hp : 0 ≤ p ∧ p < 4096) (hlen : ops.length + t.length ≤ 200) : MadeOk ⟨ats, [p], ops ++ t⟩ := by
  refine ⟨⟨hats, fun x hx => ?_, fun o ho => ?_, ?_, ?_, ?_⟩, ?_, by simp; omega, by show 1 ≤ 10; omega⟩
  · simp at hx; subst hx; unfold mid; omega
  · rcases List.mem_append.1 ho with ho | ho
    · exact (h.all o ho).1
    · exact ht.all o ho
  · show ats.length ≤ _; omega
  · show 1 ≤ _; omega
  · show (ops ++ t).length ≤ _; simp; omega
  · obtain ⟨o, l, h1, h2⟩ : ∃ o l, ops = o :: l ∧ o.code = 20 := by
      rcases h.head with ⟨h0, _⟩ | h0
      · omega
      · exact h0
    have hrun : ckRun ⟨0, 0, false⟩ (ops ++ t) = some ⟨i, W, ch⟩ := by rw [ckRun_pre h.run (fun o ho => (h.all o ho).2) ht.ne]; exact ht.run i W
    unfold validB
    dsimp only
    rw [hrun]
    have hpos : 1 ≤ (ops ++ t).length := by rw [h1]; simp
    have hh : headerB ⟨ats, [p], ops ++ t⟩ = true := by
      unfold headerB
      dsimp only
      have e1 : pagesFrom none [p] = true := by
        show (decide (0 ≤ p ∧ p < 4096) && true && true) = true
        simp; omega
      have e2 : decide (1 ≤ ats.length ∧ ats.length ≤ 64) = true := by rw [decide_eq_true_eq]; omega
      have e3 : decide (1 ≤ (ops ++ t).length ∧ (ops ++ t).length ≤ 2000) = true := by rw [decide_eq_true_eq]; simp at hpos ⊢; omega
      rw [e1, e2, e3, h1]
      simp [h2]
    rw [hh]
    simp [hatl]
end Go.Proofs.Ytmjfgnnefcimiaa
namespace Go.Proofs.Ytmjfgnnefcimiaa
open Go.RowKit

/-- Whether a variable is live before the first of these operations. -/
def liveAtL : List BOp → Int → Bool
  | [], _ => false
  | o :: l, v => if memI v (reads o) || (observesB o && decide (v < 19)) then true else if writes o == v then false else liveAtL l v
theorem liveAtL_cons (o : BOp) (l : List BOp) (v : Int) : liveAtL (o :: l) v = (memI v (reads o) || (observesB o && decide (v < 19)) || (liveAtL l v && !(writes o == v))) := by
  show (if _ then _ else _) = _
  split
  · rename_i h; rw [h]; rfl
  · rename_i h
    have h' : (memI v (reads o) || (observesB o && decide (v < 19))) = false := by simpa using h
    rw [h', Bool.false_or]
    split
    · rename_i h2; rw [h2]; simp
    · rename_i h2; rw [show (writes o == v) = false by simpa using h2]; simp
theorem setM_bit (m k j : Nat) : (setM m k).testBit j = (m.testBit j || decide (k = j)) := by unfold setM; rw [Nat.testBit_or, Nat.testBit_two_pow]
theorem readsM_bit : ∀ (l : List Int) (m : Nat) (v : Nat), (∀ x ∈ l, 0 ≤ x) → (readsM m l).testBit v = (m.testBit v || memI (v : Int) l)
  | [], m, v, _ => by simp [readsM, memI]
  | x :: l, m, v, h => by
    have hx := h x (by simp)
    show (readsM (setM m x.toNat) l).testBit v = _
    rw [readsM_bit l _ v (fun y hy => h y (by simp [hy])), setM_bit]
    unfold memI
    rw [List.any_cons, Bool.or_assoc]
    congr 2
    rw [Bool.eq_iff_iff]; simp; omega
theorem clrM_bit {m d v : Nat} (hd : d < 32) (hv : v < 32) : (clrM m d).testBit v = (m.testBit v && !decide (d = v)) := by
  unfold clrM
  rw [Nat.testBit_and]
  have : (4294967295 - 2 ^ d).testBit v = !decide (d = v) := by
    have e : 4294967295 - 2 ^ d = 2 ^ 32 - (2 ^ d + 1) := by omega
    have h2 : 2 ^ d < 2 ^ 32 := Nat.pow_lt_pow_right (by omega) hd
    rw [e, Nat.testBit_two_pow_sub_succ h2, Nat.testBit_two_pow]
    simp [hv]
  rw [this]
theorem low19_bit (v : Nat) : (524287 : Nat).testBit v = decide (v < 19) := by
  rw [show (524287 : Nat) = 2 ^ 19 - 1 from rfl, Nat.testBit_two_pow_sub_one]
theorem writes_lt {o : BOp} (hf : formedB o = true) : writes o < 28 := by
  have := writes_var hf
  exact this
theorem beforeM_bit {o : BOp} (hf : formedB o = true) (m : Nat) {v : Nat} (hv : v < 28) : (beforeM o m).testBit v = (memI (v : Int) (reads o) || (observesB o && decide ((v : Int) < 19)) || (m.testBit v && !(writes o == (v : Int)))) := by
  have hr : ∀ x ∈ reads o, 0 ≤ x := fun x hx => (reads_var hf x hx).1
  have hw := writes_lt hf
  have hc : (if 0 ≤ writes o then clrM m (writes o).toNat else m).testBit v = (m.testBit v && !(writes o == (v : Int))) := by
    split
    · rename_i h0
      rw [clrM_bit (by omega) (by omega)]
      congr 2
      rw [Bool.eq_iff_iff]; simp; omega
    · rename_i h0
      have : (writes o == (v : Int)) = false := by rw [beq_eq_false_iff_ne]; omega
      rw [this]; simp
  have h19 : decide ((v : Int) < 19) = decide (v < 19) := by rw [decide_eq_decide]; omega
  unfold beforeM
  split
  · rename_i ho
    rw [Nat.testBit_or, readsM_bit _ _ _ hr, hc, low19_bit, ho, h19]
    cases memI (v : Int) (reads o) <;> cases decide (v < 19) <;> simp
  · rename_i ho
    have ho' : observesB o = false := by simpa using ho
    rw [readsM_bit _ _ _ hr, hc, ho']
    cases memI (v : Int) (reads o) <;> simp
/-- The mask says what is live. -/
def MaskIs (m : Nat) (l : List BOp) : Prop := ∀ v : Nat, v < 28 → m.testBit v = liveAtL l (v : Int)
theorem mask_nil : MaskIs 0 [] := fun v _ => by simp [liveAtL]
theorem mask_cons {o : BOp} (hf : formedB o = true) {m : Nat} {l : List BOp} (h : MaskIs m l) : MaskIs (beforeM o m) (o :: l) := fun v hv => by rw [beforeM_bit hf m hv, liveAtL_cons, h v hv]
end Go.Proofs.Ytmjfgnnefcimiaa
namespace Go.Proofs.Ytmjfgnnefcimiaa
open Go.RowKit

section
variable {P : Program} {w0 : World} {G : Gs} {N : Nd} {o : Oper} {f : Fr} {S : List Ow} {K : Fr → List Ow → Prop}
variable {r : Env} {a : Act} {w : World} {next : Act → World → Prop} {Q : Exit → Act → World → Prop}

theorem good_value (_hR : Rel w0 G S r w) (hf : FDen r f a) (hN : a.tmps.size = N.n) (hd : a.defers = N.ds) (hdst : dstOk N.n o.dst = true) {v : AV} {u : Value} {S' : List Ow} {r' : Env} {w' : World} (hv : v.den r' u) (hR' : Rel w0 G S' r' w') (hle : r.le r') :
    Good w0 G N (f.put o.dst v) S' (a.put o.dst u) w' :=
  ⟨r', hR', (hf.mono hle).put hv (by rw [hN]; exact hdst), (put_size a _ _).trans hN, (put_defers a _ _).trans hd⟩
theorem alloc_new_holds (r : Env) (w : World) (n : Nat) (t : TypeId) {l : List CV} {us : List Value} (h : denL (r.set n (some w.heap.size) none) l us) : (Ow.cells t l).holds (r.set n (some w.heap.size) none) (w.alloc (.cells us.toArray t)) n :=
  ⟨w.heap.size, us, by simp [Env.set], heap_alloc_new w _, h⟩
theorem good_alloc (hR : Rel w0 G S r w) (hf : FDen r f a) (hN : a.tmps.size = N.n) (hd : a.defers = N.ds) (hdst : dstOk N.n o.dst = true) {t : TypeId} {l : List CV} {us : List Value} (hl : denL r l us) :
    Good w0 G N (f.put o.dst (.p (.c (.ref S.length 0)))) (S ++ [.cells t l]) (a.put o.dst (.pointer (some ⟨w.heap.size, 0, none⟩))) (w.alloc (.cells us.toArray t)) := by
  have hle := hR.le_new (some w.heap.size) none
  refine good_value hR hf hN hd hdst (r' := r.set S.length (some w.heap.size) none) (den_mk_ref (by simp [Env.set])) (hR.snoc ((Below.refl _ _).alloc (Nat.le_refl _) _) (fun x hx => by injection hx with hx; subst hx; simp) (alloc_new_holds r w _ t (denL_mono hle _ _ hl))) hle

theorem allocK_sound {t : TypeId} (hop : o.op = .alloc t) (h : allocK P o f S t K) (hdst : dstOk N.n o.dst = true) (hR : Rel w0 G S r w) (hf : FDen r f a) (hN : a.tmps.size = N.n) (hd : a.defers = N.ds)
    (hK : ∀ f' S' a' w', K f' S' → Good w0 G N f' S' a' w' → next a' w') : Oper.se P o a w next := by
  unfold allocK at h
  split at h
  · rename_i i hi
    split at h
    · rename_i z hz
      rw [forceS_iff, lenK_iff, forceL_iff, putK_iff] at h
      have hrun : (execOp a.eval o).run P w = .ok (.value (.pointer (some ⟨w.heap.size, 0, none⟩))) (w.alloc (.cells z.cells t)) := by
        simp [execOp, hop, Instr.alloc, zeroValue, typeInfo, hi, hz, newVar, newRow]
      exact wp_of_value hrun (hK _ _ _ _ h (by have := good_alloc (o := o) (t := t) hR hf hN hd hdst (denL_vals (r := r) z.cells.toList); simpa using this))
    · exact h.elim
  · exact h.elim
theorem boxK_sound {t : TypeId} {x : Operand} (hop : o.op = .box t x) (h : boxK o f S t (f.ev x) K) (hdst : dstOk N.n o.dst = true) (hR : Rel w0 G S r w) (hf : FDen r f a) (hN : a.tmps.size = N.n) (hd : a.defers = N.ds)
    (hK : ∀ f' S' a' w', K f' S' → Good w0 G N f' S' a' w' → next a' w') : Oper.se P o a w next := by
  unfold boxK at h
  split at h
  · rename_i l hl
    rw [lenK_iff, forceL_iff, putK_iff] at h
    have hrun : (execOp a.eval o).run P w = .ok (.value (.pointer (some ⟨w.heap.size, 0, none⟩))) (w.alloc (.cells (a.eval x).cells t)) := by
      simp [execOp, hop, Instr.box, newVar, newRow]
    exact wp_of_value hrun (hK _ _ _ _ h (by have := good_alloc (o := o) (t := t) hR hf hN hd hdst (okCells_den hR hl (hf.ev x)); simpa using this))
  · exact h.elim
theorem storeK_sound {t : TypeId} {x y : Operand} (hop : o.op = .store t x y) (h : storeK P o f S t (f.ev x) (f.ev y) K) (hdst : dstOk N.n o.dst = true) (hR : Rel w0 G S r w) (hf : FDen r f a) (hN : a.tmps.size = N.n) (hd : a.defers = N.ds)
    (hK : ∀ f' S' a' w', K f' S' → Good w0 G N f' S' a' w' → next a' w') : Oper.se P o a w next := by
  unfold storeK at h
  split at h
  · rename_i i off hx
    have hxd := hf.ev x
    rw [hx] at hxd
    obtain ⟨b, hb, hu⟩ := den_ref hxd
    split at h
    · rename_i cs hcs
      have hdc := okCells_den hR hcs (hf.ev y)
      have hlen := denL_length hdc
      split at h
      · rename_i inf hinf
        split at h
        · rename_i hsz
          have e1 : cs.length = inf.size := Nat.eq_of_beq_eq_true hsz
          split at h
          · rename_i hones
            have hone := onesL_one hR hones hdc
            have hil : i < S.length := by
              rcases Nat.lt_or_ge i S.length with h1 | h1
              · exact h1
              · rw [hR.outB i h1] at hb; cases hb
            have hrun : ∀ w', (storeCells ⟨b, off, none⟩ (a.eval y).cells.toList 0).run P w = .ok () w' → (execOp a.eval o).run P w = .ok .skip w' := fun w' h' => by
              have hz : ¬ (a.eval y).cells.size ≠ inf.size := by rw [← Array.length_toList, hlen, e1]; simp
              simp only [execOp, hop, Instr.storeAt, hu, Instr.sureAddr, storeVar, Sem.run_bind, Sem.run_pure, Result.andThen_ok, run_sizeOf P t w hinf, if_neg hz, h']
            split at h
            · rename_i t' l hS
              split at h
              · rename_i hle
                rw [forceS_iff, forceL_iff, putK_iff] at h
                obtain ⟨b', us, h1, h2, h3⟩ := hR.own i _ hS
                rw [hb] at h1; injection h1 with h1; subst h1
                have hll := denL_length h3
                have e2 := Nat.le_of_ble_eq_true hle
                obtain ⟨w', hr, hg, hbl⟩ := run_storeCells (P := P) (a.eval y).cells.toList (i := 0) (off := off) h2 hone (by omega)
                refine wp_of_skip (hrun w' hr) (hK _ _ _ _ h ?_)
                refine good_value hR hf hN hd hdst (by simp [AV.den, Pc.den, CV.den]) (hR.setBlock hb hg ⟨b, _, hb, hbl, ?_⟩ hil) (Env.le.refl r)
                exact denL_setAll _ hdc h3
              · exact h.elim
            · rename_i e size n xs hS
              split at h
              · rename_i us hus
                obtain ⟨hle, h⟩ := h
                rw [forceL_iff, putK_iff] at h
                have hv := valsOf_spec hus hdc
                obtain ⟨v, h1, h2, h3⟩ := hR.own i _ hS
                obtain ⟨hxl, h4⟩ := h3
                rcases h4 with ⟨hvn, hn0⟩ | ⟨g, cap, cur, hvg, hg0, hh, hnc, hcm, hcs', htk⟩
                · rw [hvn, hb] at h2; cases h2
                · have hgb : g = b := by rw [hvg, hb] at h2; simpa [Value.ownBlock] using h2
                  subst hgb
                  have hcl : cur.toList.length = cap * size := by simpa using hcs'
                  have hnm : n * size ≤ cap * size := Nat.mul_le_mul_right size hnc
                  obtain ⟨w', hr, hg, hbl⟩ := run_storeCells (P := P) (a.eval y).cells.toList (i := 0) (off := off) (cs := cur.toList) (by simpa using hh) hone (by rw [hv]; omega)
                  refine wp_of_skip (hrun w' hr) (hK _ _ _ _ h ?_)
                  refine good_value hR hf hN hd hdst (by simp [AV.den, Pc.den, CV.den]) (hR.setBlock hb hg ⟨v, h1, h2, by rw [setAll_length]; exact hxl, .inr ⟨g, cap, (setAll cur.toList off us).toArray, hvg, hg0, by rw [hbl, hv]; simp, hnc, hcm, by simp [setAll_length, hcl], ?_⟩⟩ hil) (Env.le.refl r)
                  have hsplit : cur.toList = xs ++ cur.toList.drop (n * size) := by rw [← htk]; exact (List.take_append_drop _ _).symm
                  rw [List.toList_toArray, hsplit, setAll_take us xs off hle _ (Nat.le_refl _), List.take_append_of_le_length (by rw [setAll_length]; omega), List.take_of_length_le (by rw [setAll_length]; omega)]
              · exact h.elim
            · exact h.elim
          · exact h.elim
        · exact h.elim
      · exact h.elim
    · exact h.elim
  · exact h.elim
theorem denL_any (r : Env) : ∀ us : List Value, denL r (List.replicate us.length .any) us
  | [] => by simp [denL]
  | u :: us => by simp only [List.length_cons, List.replicate_succ, denL]; exact ⟨u, us, rfl, by simp only [CV.den], denL_any r us⟩
theorem bsliceK_sound {t : TypeId} {n : Nat} {parts : Array (Nat × Operand)} (hop : o.op = .buildSlice t n parts) (h : bsliceK P o f S t n parts K) (hdst : dstOk N.n o.dst = true) (hR : Rel w0 G S r w) (hf : FDen r f a) (hN : a.tmps.size = N.n) (hd : a.defers = N.ds)
    (hK : ∀ f' S' a' w', K f' S' → Good w0 G N f' S' a' w' → next a' w') : Oper.se P o a w next := by
  unfold bsliceK at h
  split at h
  · rename_i e ht
    split at h
    · rename_i i hi
      split at h
      · rename_i z hz
        split at h
        · rename_i hzs
          split at h
          · rename_i hle
            split at h
            · rename_i l hl
              rw [forceL_iff, lenK_iff, forceL_iff, putK_iff] at h
              have e1 : z.cells.size = i.size := Nat.eq_of_beq_eq_true hzs
              have e2 : n * i.size ≤ 16777216 := Nat.le_of_ble_eq_true hle
              have hlen : ∀ zero : Array Value, ((Array.range (n * i.size)).map (zero[· % zero.size]!)).toList.length = n * i.size := fun zero => by simp
              have hany : ∀ zero : Array Value, denL r (List.replicate (n * i.size) .any) ((Array.range (n * i.size)).map (zero[· % zero.size]!)).toList := fun zero => by
                have := denL_any r ((Array.range (n * i.size)).map (zero[· % zero.size]!)).toList
                rwa [hlen zero] at this
              have hrun : ∃ vs : List Value, denL r l vs ∧ (execOp a.eval o).run P w = .ok (.value (.slice (some ⟨w.heap.size, 0, none⟩) n n)) (w.alloc (.cells vs.toArray e)) := by
                have e3 : (parts.map fun (i, x) => (i, a.eval x)).toList = parts.toList.map fun p => (p.1, a.eval p.2) := by simp
                by_cases h0 : n * i.size = 0
                · obtain ⟨vs, hv, hdv⟩ := fillK_sound hR hf parts.toList _ l _ hl (hany #[])
                  refine ⟨vs, hdv, ?_⟩
                  simp only [execOp, hop, Instr.buildSlice, underlying, Sem.run_bind, run_program, Result.andThen_ok, ht, Sem.run_pure, run_sizeOf P e w hi, e3]
                  rw [if_neg (by omega), if_pos h0]
                  have hv' : Instr.fill (fun k => some (k * i.size, i.size)) ((Array.range (n * i.size)).map ((#[] : Array Value)[· % (#[] : Array Value).size]!)) (parts.toList.map fun p => (p.1, a.eval p.2)) = some vs.toArray := by
                    rw [← hv, Array.toArray_toList]
                  simp only [Sem.run_bind, Sem.run_pure, Result.andThen_ok]
                  rw [hv']
                  simp [newRow]
                · obtain ⟨vs, hv, hdv⟩ := fillK_sound hR hf parts.toList _ l _ hl (hany z.cells)
                  refine ⟨vs, hdv, ?_⟩
                  simp only [execOp, hop, Instr.buildSlice, underlying, Sem.run_bind, run_program, Result.andThen_ok, ht, Sem.run_pure, run_sizeOf P e w hi, e3]
                  rw [if_neg (by omega), if_neg h0]
                  simp only [zeroValue, typeInfo, Sem.run_bind, run_program, Result.andThen_ok, hi, hz, Sem.run_pure]
                  have hv' : Instr.fill (fun k => some (k * i.size, i.size)) ((Array.range (n * i.size)).map (z.cells[· % z.cells.size]!)) (parts.toList.map fun p => (p.1, a.eval p.2)) = some vs.toArray := by
                    rw [← hv, Array.toArray_toList]
                  rw [hv']
                  simp [newRow]
              obtain ⟨vs, hdv, hrun⟩ := hrun
              refine wp_of_value hrun (hK _ _ _ _ h ?_)
              have hle := hR.le_new (some w.heap.size) none
              refine good_value hR hf hN hd hdst (r' := r.set S.length (some w.heap.size) none) ?_ (hR.snoc ((Below.refl _ _).alloc (Nat.le_refl _) _) (fun x hx => by injection hx with hx; subst hx; simp) (alloc_new_holds r w _ e (denL_mono hle _ _ hdv))) hle
              simp only [AV.den, Pc.den, CV.den]
              exact ⟨w.heap.size, by simp [Env.set], rfl⟩
            · exact h.elim
          · exact h.elim
        · exact h.elim
      · exact h.elim
    · exact h.elim
  · exact h.elim
theorem avdenL_of {r : Env} : ∀ us : List Value, avdenL r (us.map fun c => AV.of c) us
  | [] => rfl
  | u :: us => ⟨u, us, rfl, AV.of_den r u, avdenL_of us⟩
theorem callK_sound {fn : Operand} {args : Array Operand} {tys : Array TypeId} (hop : o.op = .call ⟨.value fn, args, tys⟩) (h : callK P w0 G o f S (f.ev fn) args.toList K) (hdst : dstOk N.n o.dst = true) (hR : Rel w0 G S r w) (hf : FDen r f a) (hN : a.tmps.size = N.n) (hd : a.defers = N.ds)
    (hK : ∀ f' S' a' w', K f' S' → Good w0 G N f' S' a' w' → next a' w') : Oper.se P o a w next := by
  have hfn := hf.ev fn
  unfold callK at h
  split at h
  · rename_i fid cap he
    rw [he] at hfn
    obtain ⟨us, hu, hcap⟩ := den_clo hfn
    rw [evL_iff] at h
    obtain ⟨hok, hc⟩ := h
    have hrun : (execOp a.eval o).run P w = .ok (.enter fid ((args.map a.eval) ++ us.toArray)) w := by
      simp [execOp, hop, resolve, Deferred.ofValue, hu, invoke, run_callFunc hok]
    refine wp_of_enter hrun ?_
    have := hc r w ((args.toList.map a.eval) ++ us) hR (avdenL_append (avdenL_ev hf _) (avdenL_cap hcap))
    rw [show ((args.toList.map a.eval) ++ us).toArray = (args.map a.eval) ++ us.toArray by apply Array.ext'; simp] at this
    refine Calls.mono this fun e w' ⟨v, u, S', r', he, hv, hR', hle, hKv⟩ => ⟨u, he, hK _ _ _ _ (putK_iff.1 hKv) (good_value hR hf hN hd hdst hv hR' hle)⟩
  · rename_i fid first cap he
    rw [he] at hfn
    have hu := den_v hfn
    split at h
    · rename_i hfst
      have ef : first = #[] := Array.ext' hfst
      rw [evL_iff] at h
      obtain ⟨hok, hc⟩ := h
      have hrun : (execOp a.eval o).run P w = .ok (.enter fid ((args.map a.eval) ++ cap)) w := by
        simp [execOp, hop, resolve, Deferred.ofValue, hu, ef, invoke, run_callFunc hok]
      refine wp_of_enter hrun ?_
      have := hc r w ((args.toList.map a.eval) ++ cap.toList) hR (avdenL_append (avdenL_ev hf _) (avdenL_of _))
      rw [show ((args.toList.map a.eval) ++ cap.toList).toArray = (args.map a.eval) ++ cap by apply Array.ext'; simp] at this
      refine Calls.mono this fun e w' ⟨v, u, S', r', he, hv, hR', hle, hKv⟩ => ⟨u, he, hK _ _ _ _ (putK_iff.1 hKv) (good_value hR hf hN hd hdst hv hR' hle)⟩
    · exact h.elim
  · exact h.elim
theorem qopK_sound (h : match opTy P o.op with | true => qop P w0 G S f o fun v => (f.putK o.dst v fun f' => K f' S) | false => False) (hdst : dstOk N.n o.dst = true) (hR : Rel w0 G S r w) (hf : FDen r f a) (hN : a.tmps.size = N.n) (hd : a.defers = N.ds)
    (hK : ∀ f' S' a' w', K f' S' → Good w0 G N f' S' a' w' → next a' w') : Oper.se P o a w next := by
  split at h
  · rename_i hty
    obtain ⟨v, u, hKv, hv, hrun⟩ := qop_sound h hty hR hf
    exact wp_of_value (hrun w (Below.refl _ _)) (hK _ _ _ _ (putK_iff.1 hKv) (good_value hR hf hN hd hdst hv hR (Env.le.refl r)))
  · exact h.elim
theorem opK_sound (h : opK P w0 G N o f S K) : OpS P w0 G N o f S K := by
  refine ⟨?_⟩
  intro r a w hR hf hN hd next Q hK
  unfold opK at h
  split at h
  · exact h.elim
  · rename_i hdst
    split at h
    · rename_i t hop; exact allocK_sound hop h hdst hR hf hN hd hK
    · rename_i t x hop; exact boxK_sound hop h hdst hR hf hN hd hK
    · rename_i t x y hop; exact storeK_sound hop h hdst hR hf hN hd hK
    · rename_i t n parts hop; exact bsliceK_sound hop h hdst hR hf hN hd hK
    · rename_i fn args tys hop; exact callK_sound hop h hdst hR hf hN hd hK
    all_goals first | exact qopK_sound h hdst hR hf hN hd hK | exact h.out r a w hR hf hN hd next Q hK
end
end Go.Proofs.Ytmjfgnnefcimiaa
namespace Go.Proofs.Ytmjfgnnefcimiaa
open Go.RowKit

def rankW (o : BOp) : Nat := if isBin o.code then 3 else if o.code == 2 || o.code == 23 || o.code == 25 then 2 else 1
theorem rankW_pos (o : BOp) : 0 < rankW o := by unfold rankW; split; omega; split <;> omega
def wL : List BOp → Nat
  | [] => 0
  | o :: l => rankW o + wL l
theorem wL_append : ∀ l m : List BOp, wL (l ++ m) = wL l + wL m
  | [], m => by simp [wL]
  | o :: l, m => by simp [wL, wL_append l m]; omega
theorem wL_reverse : ∀ l : List BOp, wL l.reverse = wL l
  | [] => rfl
  | o :: l => by rw [List.reverse_cons, wL_append, wL_reverse l]; simp [wL]; omega
theorem rank_const (d n : Int) : rankW ⟨1, d, 0, 0, n⟩ = 1 := rfl
theorem foldB_w {f : Int → Option Int} {o : BOp} (h : (foldB f o).2 = true) : (foldB f o).1 = o ∨ rankW (foldB f o).1 < rankW o := by
  unfold foldB at h ⊢
  have hbin : isBin o.code = true → rankW o = 3 := fun hb => by unfold rankW; rw [if_pos hb]
  have htwo : o.code = 2 → rankW o = 2 := fun hc => by unfold rankW; rw [hc]; rfl
  have h23 : o.code = 23 → rankW o = 2 := fun hc => by unfold rankW; rw [hc]; rfl
  have h25 : o.code = 25 → rankW o = 2 := fun hc => by unfold rankW; rw [hc]; rfl
  by_cases c1 : (o.code == 2 && (f o.a).isSome) = true
  · rw [if_pos c1]; right
    simp only [Bool.and_eq_true, beq_iff_eq] at c1
    rw [htwo c1.1, rank_const]; omega
  rw [if_neg c1] at h ⊢
  by_cases c2 : (isBin o.code && (f o.a).isSome && (f o.b).isSome) = true
  · rw [if_pos c2]; right
    simp only [Bool.and_eq_true] at c2
    rw [hbin c2.1.1, rank_const]; omega
  rw [if_neg c2] at h ⊢
  by_cases c3 : ((f o.b).isSome && (f o.b).getD 0 == 0 && memI o.code [3, 4, 6, 7, 8, 9, 10]) = true
  · rw [if_pos c3]; right
    simp only [Bool.and_eq_true] at c3
    have hm := c3.2
    simp only [memI, List.any_cons, List.any_nil, Bool.or_false, Bool.or_eq_true, beq_iff_eq] at hm
    rw [hbin (by unfold isBin; rw [decide_eq_true_eq]; omega)]
    show (2 : Nat) < 3
    omega
  rw [if_neg c3] at h ⊢
  by_cases c4 : (o.code == 21 && (f o.a).isSome && (f o.a).getD 0 != 0) = true
  · rw [if_pos c4] at h; cases h
  rw [if_neg c4] at h ⊢
  by_cases c5 : (o.code == 23 && (f o.a).isSome) = true
  · rw [if_pos c5]; right
    simp only [Bool.and_eq_true, beq_iff_eq] at c5
    rw [h23 c5.1]; show (1 : Nat) < 2; omega
  rw [if_neg c5] at h ⊢
  by_cases c6 : (o.code == 25 && (f o.a).isSome) = true
  · rw [if_pos c6]; right
    simp only [Bool.and_eq_true, beq_iff_eq] at c6
    rw [h25 c6.1]; show (1 : Nat) < 2; omega
  rw [if_neg c6]; left; rfl
theorem foldRun_w : ∀ (l : List BOp) (f : Int → Option Int), foldRun f l = l ∨ wL (foldRun f l) < wL l
  | [], f => .inl rfl
  | o :: l, f => by
    have hpos := rankW_pos o
    unfold foldRun
    by_cases hk : (foldB (foldMark f o) o).2 = true
    · rw [if_pos hk]
      have h1 := foldB_w hk
      generalize (foldB (foldMark f o) o).1 = p at h1 ⊢
      by_cases hx : (p.code == 24) = true
      · rw [if_pos hx]
        cases l with
        | nil =>
          rcases h1 with rfl | h1
          · exact .inl rfl
          · right; simp only [wL]; omega
        | cons q l =>
          right
          have := rankW_pos q
          rcases h1 with rfl | h1
          · simp only [wL]; omega
          · simp only [wL]; omega
      · rw [if_neg hx]
        rcases foldRun_w l (foldUpd (foldMark f o) p) with h2 | h2
        · rcases h1 with rfl | h1
          · left; rw [h2]
          · right; rw [h2]; simp only [wL]; omega
        · right
          rcases h1 with rfl | h1
          · simp only [wL]; omega
          · simp only [wL]; omega
    · rw [if_neg hk]
      right
      rcases foldRun_w l (foldMark f o) with h2 | h2
      · rw [h2]; simp only [wL]; omega
      · simp only [wL]; omega
theorem deadFold_w : ∀ (l : List BOp) (s : DeadS), ∃ m, (l.foldl deadStep s).out = s.out ++ m ∧ (m = l ∨ wL m < wL l)
  | [], s => ⟨[], by simp, .inl rfl⟩
  | o :: l, s => by
    have hpos := rankW_pos o
    simp only [List.foldl_cons]
    obtain ⟨m, h1, h2⟩ := deadFold_w l (deadStep s o)
    by_cases hd : deadB o s.live = true
    · have he : deadStep s o = s := if_pos hd
      rw [he] at h1 ⊢
      refine ⟨m, h1, .inr ?_⟩
      rcases h2 with rfl | h2
      · simp only [wL]; omega
      · simp only [wL]; omega
    · have he : deadStep s o = ⟨beforeM o s.live, s.out ++ [o]⟩ := if_neg hd
      rw [he] at h1 ⊢
      refine ⟨o :: m, by rw [h1]; simp, ?_⟩
      rcases h2 with rfl | h2
      · exact .inl rfl
      · right; simp only [wL]; omega
theorem dead_w (l : List BOp) : (deadRun l.reverse).out.reverse = l ∨ wL (deadRun l.reverse).out.reverse < wL l := by
  obtain ⟨m, h1, h2⟩ := deadFold_w l.reverse ⟨0, []⟩
  have h3 : (deadRun l.reverse).out = m := by unfold deadRun; rw [h1]; rfl
  rw [h3]
  rcases h2 with rfl | h2
  · left; simp
  · right; rw [wL_reverse]; rwa [wL_reverse] at h2

/-! Copies: where an operand's value was written. -/
def reach : List Int → Int → Nat
  | [], _ => 0
  | d :: pre, v => if d = v ∧ 0 ≤ v then pre.length + 1 else reach pre v
theorem reach_le : ∀ (pre : List Int) (v : Int), reach pre v ≤ pre.length
  | [], v => Nat.le_refl _
  | d :: pre, v => by
    unfold reach
    have := reach_le pre v
    split <;> simp <;> omega
theorem reach_neg {d : Int} (h : d < 0) (pre : List Int) (v : Int) : reach (d :: pre) v = reach pre v := by
  show (if _ then _ else _) = _
  rw [if_neg (by omega)]
theorem reach_ne {d v : Int} (h : v ≠ d) (pre : List Int) : reach (d :: pre) v = reach pre v := by
  show (if _ then _ else _) = _
  rw [if_neg (fun e => h e.1.symm)]
theorem reach_self {d : Int} (h : 0 ≤ d) (pre : List Int) : reach (d :: pre) d = pre.length + 1 := by
  show (if _ then _ else _) = _
  rw [if_pos ⟨rfl, h⟩]
def pL : List Int → List BOp → Nat
  | _, [] => 0
  | pre, o :: l => reach pre o.a + reach pre o.b + pL (writes o :: pre) l
theorem pL_le : ∀ (l : List BOp) (pre : List Int) (n : Nat), pre.length + l.length ≤ n → pL pre l ≤ l.length * (2 * n)
  | [], pre, n, _ => by simp [pL]
  | o :: l, pre, n, h => by
    have h1 := reach_le pre o.a
    have h2 := reach_le pre o.b
    have h3 := pL_le l (writes o :: pre) n (by simp at h ⊢; omega)
    simp only [List.length_cons] at h ⊢
    simp only [pL]
    rw [Nat.add_mul, Nat.one_mul]
    omega
def InvS (pre : List Int) (s : Int → Option Int) : Prop := ∀ v w, s v = some w → reach pre w < reach pre v
theorem InvS_mark {pre : List Int} {s : Int → Option Int} (h : InvS pre s) (o : BOp) : InvS pre (copyMark s o) := by
  intro v w hv
  unfold copyMark at hv
  split at hv
  · obtain ⟨h1, _⟩ := Option.filter_eq_some_iff.1 hv
    unfold fdel at h1
    split at h1
    · cases h1
    · exact h v w h1
  · exact h v w hv
theorem InvS_upd {pre : List Int} {s : Int → Option Int} (h : InvS pre s) {p : BOp} (hp : copySkip p = false) : InvS (writes p :: pre) (copyUpd s p) := by
  intro v w hv
  unfold copyUpd at hv
  split at hv
  · rename_i hd
    rw [reach_neg hd, reach_neg hd]; exact h v w hv
  rename_i hd
  have hkill : ∀ v w, copyKill s (writes p) v = some w → reach (writes p :: pre) w < reach (writes p :: pre) v := by
    intro v w hv
    obtain ⟨h1, h2⟩ := Option.filter_eq_some_iff.1 hv
    unfold mdel at h1
    split at h1
    · cases h1
    · rename_i hne
      rw [reach_ne (by simpa using h2), reach_ne hne]; exact h v w h1
  split at hv
  · rename_i hc
    unfold mput at hv
    split at hv
    · rename_i hvd
      injection hv with hv; subst hv
      have hwd : writes p = p.d := by unfold writes; rw [show p.code = 2 by simpa using hc]; rfl
      have hne : p.a ≠ writes p := by
        intro e
        unfold copySkip at hp
        rw [hc, e, hwd] at hp
        simp at hp
      rw [hvd, reach_ne hne, reach_self (by omega)]
      have := reach_le pre p.a
      omega
    · exact hkill v w hv
  · exact hkill v w hv
theorem origS_lt {pre : List Int} {s : Int → Option Int} (h : InvS pre s) (has : Bool) (v : Int) : origS s has v = v ∨ reach pre (origS s has v) < reach pre v := by
  unfold origS
  split
  · rename_i hc
    simp only [Bool.and_eq_true] at hc
    obtain ⟨w, hw⟩ := Option.isSome_iff_exists.1 hc.2
    right; rw [hw]; exact h v w hw
  · exact .inl rfl
theorem origS_le {pre : List Int} {s : Int → Option Int} (h : InvS pre s) (has : Bool) (v : Int) : reach pre (origS s has v) ≤ reach pre v := by
  rcases origS_lt h has v with h | h
  · rw [h]; exact Nat.le_refl _
  · omega
theorem copyRun_w : ∀ (l : List BOp) (s : Int → Option Int) (pre : List Int), InvS pre s → wL (copyRun s l) < wL l ∨ (wL (copyRun s l) = wL l ∧ (pL pre (copyRun s l) < pL pre l ∨ copyRun s l = l))
  | [], s, pre, h => .inr ⟨rfl, .inr rfl⟩
  | o :: l, s, pre, h => by
    have hpos := rankW_pos o
    have hm := InvS_mark h o
    unfold copyRun
    by_cases hs : copySkip (copyOp (copyMark s o) o) = true
    · rw [if_pos hs]
      left
      rcases copyRun_w l (copyMark s o) pre hm with h1 | ⟨h1, _⟩
      · simp only [wL]; omega
      · simp only [wL]; omega
    · rw [if_neg hs]
      have hs' : copySkip (copyOp (copyMark s o) o) = false := by simpa using hs
      have hi := InvS_upd hm hs'
      have hr : rankW (copyOp (copyMark s o) o) = rankW o := rfl
      have hw : writes (copyOp (copyMark s o) o) = writes o := rfl
      have ha := origS_lt hm (memI o.a (reads o) && o.code != 20) o.a
      have hb := origS_lt hm (twoB o.code) o.b
      rcases copyRun_w l (copyUpd (copyMark s o) (copyOp (copyMark s o) o)) _ hi with h1 | ⟨h1, h2⟩
      · left; simp only [wL, hr]; omega
      · right
        refine ⟨by simp only [wL, hr, h1], ?_⟩
        simp only [pL, hw] at h2 ⊢
        show reach pre (origS (copyMark s o) (memI o.a (reads o) && o.code != 20) o.a) + reach pre (origS (copyMark s o) (twoB o.code) o.b) + _ < _ ∨ _
        have hle : pL (writes o :: pre) (copyRun (copyUpd (copyMark s o) (copyOp (copyMark s o) o)) l) ≤ pL (writes o :: pre) l := by
          rcases h2 with h2 | h2
          · omega
          · rw [h2]; exact Nat.le_refl _
        rcases ha with ha | ha
        · rcases hb with hb | hb
          · rcases h2 with h2 | h2
            · left; rw [ha, hb]; omega
            · right
              rw [h2]
              have : copyOp (copyMark s o) o = o := by
                show BOp.mk _ _ _ _ _ = o
                rw [ha, hb]
              rw [this]
          · left; rw [ha]; omega
        · left
          have := origS_le hm (twoB o.code) o.b
          omega
def muO (l : List BOp) : Nat := wL l * 2000000000001 + pL [] l
theorem mu_of_w {l m : List BOp} (hm : m.length ≤ 1000000) (h : wL m < wL l) : muO m < muO l := by
  have h1 := pL_le m [] 1000000 (by simpa using hm)
  have h2 : m.length * (2 * 1000000) ≤ 1000000 * (2 * 1000000) := Nat.mul_le_mul_right _ hm
  unfold muO
  omega
theorem fold_mu {b : Blk} (hb : b.ok) : foldAll b = b.ops ∨ muO (foldAll b) < muO b.ops := by
  have hlen := Nat.le_trans (foldAll_length b) hb.lops
  unfold foldAll at hlen ⊢
  split
  · rename_i hv
    rw [if_pos hv] at hlen
    rcases foldRun_w b.ops noneF with h | h
    · exact .inl h
    · exact .inr (mu_of_w hlen h)
  · exact .inl rfl
theorem copy_mu {b : Blk} (hb : b.ok) : copyAll b = b.ops ∨ muO (copyAll b) < muO b.ops := by
  have hlen := Nat.le_trans (copyAll_length b) hb.lops
  unfold copyAll at hlen ⊢
  split
  · rename_i hv
    rw [if_pos hv] at hlen
    rcases copyRun_w b.ops noneF [] (by intro v w h; cases h) with h | ⟨h1, h2⟩
    · exact .inr (mu_of_w hlen h)
    · rcases h2 with h2 | h2
      · right; unfold muO; rw [h1]; omega
      · exact .inl h2
  · exact .inl rfl
theorem dead_mu {b : Blk} (hb : b.ok) : deadAll b = b.ops ∨ muO (deadAll b) < muO b.ops := by
  have hlen := Nat.le_trans (deadAll_length b) hb.lops
  unfold deadAll at hlen ⊢
  split
  · rename_i hv
    rw [if_pos hv] at hlen
    rcases dead_w b.ops with h | h
    · exact .inl h
    · exact .inr (mu_of_w hlen h)
  · exact .inl rfl
def muB (b : Blk) : Nat := muO b.ops
/-- Each round of the fixpoint loop that changes the block makes the measure smaller. -/
theorem once_mu (b : Blk) (hb : b.ok) (h : (onceP b).ops ≠ b.ops) : muB (onceP b) < muB b := by
  have h1 := fold_mu hb
  have h2 := copy_mu (foldP_ok hb)
  have h3 := dead_mu (copyP_ok (foldP_ok hb))
  have e2 : (foldP b).ops = foldAll b := rfl
  have e3 : (copyP (foldP b)).ops = copyAll (foldP b) := rfl
  have e4 : (onceP b).ops = deadAll (copyP (foldP b)) := rfl
  unfold muB
  rw [e4] at h ⊢
  rw [e2] at h2
  rw [e3] at h3
  rcases h1 with h1 | h1
  · rcases h2 with h2 | h2
    · rcases h3 with h3 | h3
      · exact absurd (h3.trans (h2.trans h1)) h
      · rw [h2, h1] at h3; exact h3
    · rcases h3 with h3 | h3
      · rw [h3]; rw [h1] at h2; exact h2
      · rw [h1] at h2; omega
  · rcases h2 with h2 | h2
    · rcases h3 with h3 | h3
      · rw [h3, h2]; exact h1
      · rw [h2] at h3; omega
    · rcases h3 with h3 | h3
      · rw [h3]; omega
      · omega
end Go.Proofs.Ytmjfgnnefcimiaa
namespace Go.Proofs.Ytmjfgnnefcimiaa
open Go.RowKit

/-- What may stand for an operation that only writes a variable. -/
structure ReplOk (o p : BOp) : Prop where
  formed : formedB p = true
  code : 1 ≤ p.code ∧ p.code ≤ 15
  writes : writes p = writes o
  reads : ∀ v ∈ reads p, v ∈ Go.Proofs.Ytmjfgnnefcimiaa.reads o
theorem pure_code {o : BOp} (hp : pureB o = true) : 1 ≤ o.code ∧ o.code ≤ 15 ∧ writes o = o.d := by
  unfold pureB writes at hp
  simp only [Bool.and_eq_true, decide_eq_true_eq] at hp
  obtain ⟨h1, h2⟩ := hp
  split at h1
  · rename_i hd
    have hd' : 1 ≤ o.code ∧ o.code ≤ 17 := by unfold hasD at hd; simpa using hd
    have hl : leaves o.code = false := by simpa using h2
    unfold leaves at hl; rw [decide_eq_false_iff_not] at hl
    exact ⟨by omega, by omega, by unfold writes; rw [if_pos hd]⟩
  · omega
theorem ckNext_repl {s s' : Ck} {o p : BOp} {x y : Bool} (hp : pureB o = true) (hr : ReplOk o p) (h : ckNext s o x y = some s') : ckNext s p x y = some s' := by
  obtain ⟨c1, c2, _⟩ := pure_code hp
  obtain ⟨f1, ⟨d1, d2⟩, e1, e2⟩ := hr
  have code_facts : ∀ c : Int, 1 ≤ c ∧ c ≤ 15 → endsB c = false ∧ (c == 23) = false ∧ leaves c = false ∧ (c == 20) = false ∧ stores c = false := fun c hc => by
    refine ⟨?_, ?_, ?_, ?_, ?_⟩
    · unfold endsB; rw [decide_eq_false_iff_not]; omega
    · rw [beq_eq_false_iff_ne]; omega
    · unfold leaves; rw [decide_eq_false_iff_not]; omega
    · rw [beq_eq_false_iff_ne]; omega
    · unfold stores; rw [decide_eq_false_iff_not]; omega
  obtain ⟨k1, k2, k3, k4, k5⟩ := code_facts o.code ⟨c1, c2⟩
  obtain ⟨j1, j2, j3, j4, j5⟩ := code_facts p.code ⟨d1, d2⟩
  have hpl : ∀ q : BOp, endsB q.code = false → (q.code == 23) = false → leaves q.code = false → placedB s q x y = (false == x) := fun q q1 q2 q3 => by
    unfold placedB; rw [q1, q2, q3]; simp
  unfold ckNext at h ⊢
  rw [hpl o k1 k2 k3, k4, k5] at h
  rw [hpl p j1 j2 j3, f1, j4, j5, e1]
  have hf : formedB o = true ∧ (false == x) = true := by
    by_cases hc : (formedB o && (false == x)) = true
    · simpa using hc
    · rw [if_neg hc] at h; cases h
  rw [hf.1, hf.2] at h
  rw [hf.2]
  simp only [Bool.and_self, if_true, Bool.false_eq_true, if_false] at h ⊢
  by_cases hr : (reads o).all (readB s) = true
  · rw [if_pos hr] at h
    rw [if_pos (by rw [List.all_eq_true] at hr ⊢; exact fun v hv => hr v (e2 v hv))]
    exact h
  · rw [if_neg hr] at h; cases h
theorem ckRun_repl : ∀ {l : List BOp} {s s' : Ck} {i : Nat} {o p : BOp}, ckRun s l = some s' → l[i]? = some o → pureB o = true → ReplOk o p → ckRun s (l.set i p) = some s'
  | [], s, s', i, o, p, h, hi, _, _ => by simp at hi
  | q :: l, s, s', 0, o, p, h, hi, hp, hr => by
    simp at hi; subst hi
    simp only [List.set_cons_zero, ckRun] at h ⊢
    split at h
    · rename_i s1 h1
      rw [ckNext_repl hp hr h1]; exact h
    · cases h
  | q :: l, s, s', i + 1, o, p, h, hi, hp, hr => by
    have hi' : l[i]? = some o := by simpa using hi
    have h : (match ckNext s q l.isEmpty (exitNext l) with | some s' => ckRun s' l | none => none) = some s' := h
    rw [List.set_cons_succ]
    show (match ckNext s q (l.set i p).isEmpty (exitNext (l.set i p)) with | some s' => ckRun s' (l.set i p) | none => none) = some s'
    have e1 : (l.set i p).isEmpty = l.isEmpty := by cases l <;> cases i <;> rfl
    have e2 : exitNext (l.set i p) = exitNext l := by
      cases l with
      | nil => rfl
      | cons a l =>
        cases i with
        | zero =>
          simp at hi'; subst hi'
          have := pure_code hp
          have := hr.code
          show (p.code == 24) = (a.code == 24)
          rw [beq_eq_false_iff_ne.2 (by omega), beq_eq_false_iff_ne.2 (by omega)]
        | succ i => rfl
    rw [e1, e2]
    split at h
    · exact ckRun_repl h hi' hp hr
    · cases h
def headMark (l : List BOp) : Bool := match l with | [] => false | o :: _ => o.code == 20
theorem made_repl {a g : List Int} {l : List BOp} {i : Nat} {o p : BOp} (h : MadeOk ⟨a, g, l⟩) (hi : l[i]? = some o) (hp : pureB o = true) (hr : ReplOk o p) (hok : p.ok) : MadeOk ⟨a, g, l.set i p⟩ := by
  have hlen : (l.set i p).length = l.length := List.length_set
  obtain ⟨h1, h2, h3, h5⟩ := h
  refine ⟨⟨h1.at_, h1.pages, fun q hq => ?_, h1.lat, h1.lpages, ?_⟩, ?_, ?_, h5⟩
  · rcases List.mem_or_eq_of_mem_set hq with hq | rfl
    · exact h1.ops q hq
    · exact hok
  · show (l.set i p).length ≤ _; rw [hlen]; exact h1.lops
  · unfold validB at h2 ⊢
    simp only [Bool.and_eq_true] at h2 ⊢
    obtain ⟨h2, h4⟩ := h2
    refine ⟨?_, ?_⟩
    · unfold headerB at h2 ⊢
      dsimp only at h2 ⊢
      rw [hlen]
      have e : headMark (l.set i p) = headMark l := by
        cases l with
        | nil => rfl
        | cons q l =>
          cases i with
          | zero =>
            simp at hi; subst hi
            have := pure_code hp
            have := hr.code
            show (p.code == 20) = (q.code == 20)
            rw [beq_eq_false_iff_ne.2 (by omega), beq_eq_false_iff_ne.2 (by omega)]
          | succ i => rfl
      have h2 : (pagesFrom none g && decide (1 ≤ a.length ∧ a.length ≤ 64) && decide (1 ≤ l.length ∧ l.length ≤ 2000) && headMark l) = true := h2
      show (pagesFrom none g && decide (1 ≤ a.length ∧ a.length ≤ 64) && decide (1 ≤ l.length ∧ l.length ≤ 2000) && headMark (l.set i p)) = true
      rw [e]; exact h2
    · split at h4
      · rename_i s hs
        have hs2 : ckRun ⟨0, 0, false⟩ (l.set i p) = some s := ckRun_repl hs hi hp hr
        rw [hs2]; exact h4
      · cases h4
  · show (l.set i p).length ≤ _; rw [hlen]; exact h3
theorem pure_formed_d {o : BOp} (hf : formedB o = true) (hp : pureB o = true) : 0 ≤ o.d ∧ o.d < 28 ∧ o.d ≠ 19 := by
  obtain ⟨c1, c2, _⟩ := pure_code hp
  unfold formedB at hf
  simp only [Bool.and_eq_true] at hf
  have hd : fieldB (hasD o.code) o.d = true := hf.1.1.1.2
  have hD : hasD o.code = true := by unfold hasD; rw [decide_eq_true_eq]; omega
  rw [hD] at hd
  unfold fieldB at hd
  rw [if_pos rfl, decide_eq_true_eq] at hd
  exact hd
theorem repl_const {o : BOp} (hf : formedB o = true) (hp : pureB o = true) (n : Int) : ReplOk o ⟨1, o.d, 0, 0, n⟩ := by
  obtain ⟨c1, c2, hw⟩ := pure_code hp
  refine ⟨?_, by dsimp only; omega, by rw [hw]; rfl, nofun⟩
  show (isOp 1 && fieldB true o.d && fieldB false 0 && fieldB false 0 && (true || _)) = true
  have : fieldB true o.d = true := by unfold fieldB; rw [if_pos rfl, decide_eq_true_eq]; exact pure_formed_d hf hp
  rw [this]; rfl
theorem reads_field {o : BOp} (hf : formedB o = true) {v : Int} (hv : v ∈ reads o) : fieldB true v = true := by
  unfold formedB at hf
  simp only [Bool.and_eq_true] at hf
  unfold reads at hv
  rcases List.mem_append.1 hv with hv | hv
  · split at hv
    · rename_i hA
      have := hf.1.1.2
      rw [hA] at this
      simp at hv; subst hv; exact this
    · cases hv
  · split at hv
    · rename_i hB
      simp only [Bool.and_eq_true] at hB
      have := hf.1.2
      rw [hB.1] at this
      simp at hv; subst hv; exact this
    · cases hv
theorem repl_move {o : BOp} (hf : formedB o = true) (hp : pureB o = true) {v : Int} (hv : v ∈ reads o) : ReplOk o ⟨2, o.d, v, 0, 0⟩ := by
  obtain ⟨c1, c2, hw⟩ := pure_code hp
  refine ⟨?_, by dsimp only; omega, by rw [hw]; rfl, fun u hu => ?_⟩
  · show (isOp 2 && fieldB true o.d && fieldB true v && fieldB false 0 && (false || true)) = true
    have : fieldB true o.d = true := by unfold fieldB; rw [if_pos rfl, decide_eq_true_eq]; exact pure_formed_d hf hp
    rw [this, reads_field hf hv]; rfl
  · have : u ∈ [v] := hu
    simp at this; subst this; exact hv
theorem field_mid {v : Int} (h : fieldB true v = true) : mid v := by
  unfold fieldB at h; rw [if_pos rfl, decide_eq_true_eq] at h
  unfold mid; omega
end Go.Proofs.Ytmjfgnnefcimiaa
namespace Go.Proofs.Ytmjfgnnefcimiaa
open Go.RowKit

/-- The variable of which v is a copy behind these operations, the last first; or -1. m: a mark has been passed; sk: what has been passed. -/
def copyF : Bool → List BOp → List BOp → Int → Int
  | _, [], _, _ => -1
  | m, o :: r, sk, v => if writes o = v then (if o.code ≠ 2 ∨ o.a = v then -1 else if m = true ∧ (20 ≤ v ∨ 20 ≤ o.a) then -1 else if (sk.any fun p => writes p == o.a) = true then -1 else o.a) else copyF (m || o.code == 20) r (o :: sk) v
def copyR (r : List BOp) (v : Int) : Int := copyF false r [] v
/-- The map says what is a copy; its values are no copies. -/
structure CopyIs (s : Int → Option Int) (r : List BOp) : Prop where
  fm : ∀ o ∈ r, o.code = 2 → 0 ≤ o.a
  some_ : ∀ v w, 0 ≤ v → v < 28 → s v = some w → copyR r v = w ∧ 0 ≤ w ∧ w < 28
  none_ : ∀ v, 0 ≤ v → v < 28 → s v = none → copyR r v < 0
  flat : ∀ v w, s v = some w → s w = none
theorem copyMark_not (s : Int → Option Int) {o : BOp} (ho : o.code ≠ 20) : copyMark s o = s := by unfold copyMark; rw [if_neg (by simpa using ho)]
end Go.Proofs.Ytmjfgnnefcimiaa
