/- Plain: the operations of an instruction, checked one after the other. Plain: the program's check of validity and the reference's agree. Lists of operations with '&&' and '||'; code; loops; functions. The optimizer as plain functions: the passes until nothing changes. Plain: the masks of live variables, in the order in which they are found. Plain: the blocks that the maker makes are valid. Code and functions, over states that are known part by part. -/
import Derived.Test.YtmjfgnnefcimiaaK1
import Derived.Test.YtmjfgnnefcimiaaK13
import Derived.Test.YtmjfgnnefcimiaaK14
import Derived.Test.YtmjfgnnefcimiaaK16
import Derived.Test.YtmjfgnnefcimiaaK17
import Derived.Test.YtmjfgnnefcimiaaK3
import Derived.Test.YtmjfgnnefcimiaaK4
import Derived.Test.YtmjfgnnefcimiaaK5
import Derived.Test.YtmjfgnnefcimiaaK6
namespace Go.Proofs.Ytmjfgnnefcimiaa
open Go.RowKit

def ckL : Ck → List BOp → Option Ck
  | s, [] => some s
  | s, o :: l => match ckNext s o false false with | some s' => ckL s' l | none => none
theorem ckL_append : ∀ (l m : List BOp) (s : Ck), ckL s (l ++ m) = (ckL s l).bind fun s' => ckL s' m
  | [], m, s => rfl
  | o :: l, m, s => by
    simp only [List.cons_append, ckL]
    split
    · rename_i s' _; exact ckL_append l m s'
    · rfl
def bodyC (c : Int) : Bool := decide ((1 ≤ c ∧ c ≤ 19) ∨ c = 21)
/-- The operations of an instruction, behind its mark: what has been written; whether a guest variable or the memory has. -/
structure BodyOk (l : List BOp) (W : Nat) (ch : Bool) : Prop where
  run : ∀ m, ckL ⟨m, 0, false⟩ l = some ⟨m, W, ch⟩
  all : ∀ o ∈ l, o.ok ∧ bodyC o.code = true
theorem BodyOk.nil : BodyOk [] 0 false := ⟨fun _ => rfl, nofun⟩
def nextW (W : Nat) (o : BOp) : Nat := if 20 ≤ writes o then W ||| 2 ^ (writes o).toNat else W
def nextCh (ch : Bool) (o : BOp) : Bool := ch || (stores o.code || decide (0 ≤ writes o ∧ writes o < 20))
def srcI (W : Nat) (v : Int) : Prop := 0 ≤ v ∧ v < 28 ∧ v ≠ 19 ∧ (v < 20 ∨ W.testBit v.toNat = true)
theorem BodyOk.snoc {l : List BOp} {W : Nat} {ch : Bool} {o : BOp} (h : BodyOk l W ch) (ho : o.ok) (hc : bodyC o.code = true) (hf : formedB o = true) (hlv : leaves o.code = true → ch = false) (hr : ∀ v ∈ reads o, srcI W v) : BodyOk (l ++ [o]) (nextW W o) (nextCh ch o) := by
  refine ⟨fun m => ?_, fun p hp => ?_⟩
  · rw [ckL_append, h.run m]
    show (match ckNext ⟨m, W, ch⟩ o false false with | some s' => ckL s' [] | none => none) = _
    have hc' : (1 ≤ o.code ∧ o.code ≤ 19) ∨ o.code = 21 := by simpa [bodyC] using hc
    have hpl : placedB ⟨m, W, ch⟩ o false false = true := by
      unfold placedB
      have h1 : endsB o.code = false := by unfold endsB; rw [decide_eq_false_iff_not]; omega
      have h2 : (o.code == 23) = false := by rw [beq_eq_false_iff_ne]; omega
      rw [h1, h2]
      cases hl : leaves o.code
      · rfl
      · rw [hlv hl]; rfl
    have hrd : (reads o).all (readB ⟨m, W, ch⟩) = true := by
      rw [List.all_eq_true]
      intro v hv
      unfold readB
      rcases (hr v hv).2.2.2 with h1 | h1
      · simp [h1]
      · simp [h1]
    unfold ckNext
    rw [hf, hpl, hrd]
    have h20 : (o.code == 20) = false := by rw [beq_eq_false_iff_ne]; omega
    rw [h20]
    rfl
  · rcases List.mem_append.1 hp with hp | hp
    · exact h.all p hp
    · simp at hp; subst hp; exact ⟨ho, hc⟩
theorem mid_small {x : Int} (h : -1000 ≤ x ∧ x ≤ 1000) : mid x := by unfold mid; omega
theorem BodyOk.is {l : List BOp} {W W' : Nat} {ch ch' : Bool} (h : BodyOk l W ch) (hW : W = W') (hc : ch = ch') : BodyOk l W' ch' := by subst hW; subst hc; exact h
/-- The kinds of operations that the maker writes. -/
theorem BodyOk.const {l : List BOp} {W : Nat} {ch : Bool} (h : BodyOk l W ch) {d n : Int} (hd : 0 ≤ d ∧ d < 28 ∧ d ≠ 19) (hn : word n) : BodyOk (l ++ [⟨1, d, 0, 0, n⟩]) (if 20 ≤ d then W ||| 2 ^ d.toNat else W) (ch || decide (d < 20)) := by
  refine (h.snoc (o := ⟨1, d, 0, 0, n⟩) ⟨mid_small (by dsimp only; omega), mid_small (by dsimp only; omega), mid0, mid0, hn⟩ rfl ?_ (fun h => by cases h) (fun v hv => by cases hv)).is rfl ?_
  · show (isOp 1 && fieldB true d && fieldB false 0 && fieldB false 0 && (true || _)) = true
    have : fieldB true d = true := by unfold fieldB; rw [if_pos rfl, decide_eq_true_eq]; omega
    rw [this]; rfl
  · unfold nextCh
    show (ch || (false || decide (0 ≤ d ∧ d < 20))) = _
    rw [Bool.false_or]; congr 1; rw [decide_eq_decide]; omega
theorem src_field {W : Nat} {v : Int} (h : srcI W v) : fieldB true v = true := by unfold fieldB; rw [if_pos rfl, decide_eq_true_eq]; exact ⟨h.1, h.2.1, h.2.2.1⟩
theorem BodyOk.move {l : List BOp} {W : Nat} {ch : Bool} (h : BodyOk l W ch) {d a : Int} (hd : 0 ≤ d ∧ d < 28 ∧ d ≠ 19) (ha : srcI W a) : BodyOk (l ++ [⟨2, d, a, 0, 0⟩]) (if 20 ≤ d then W ||| 2 ^ d.toNat else W) (ch || decide (d < 20)) := by
  have ha' := ha
  obtain ⟨a1, a2, a3, a4⟩ := ha
  refine (h.snoc (o := ⟨2, d, a, 0, 0⟩) ⟨mid_small (by dsimp only; omega), mid_small (by dsimp only; omega), mid_small (by dsimp only; omega), mid0, word0⟩ rfl ?_ (fun h => by cases h) (fun v hv => ?_)).is rfl ?_
  · show (isOp 2 && fieldB true d && fieldB true a && fieldB false 0 && (false || true)) = true
    have : fieldB true d = true := by unfold fieldB; rw [if_pos rfl, decide_eq_true_eq]; omega
    rw [this, src_field ha']; rfl
  · have : v ∈ [a] := hv
    simp at this; subst this; exact ha'
  · unfold nextCh
    show (ch || (false || decide (0 ≤ d ∧ d < 20))) = _
    rw [Bool.false_or]; congr 1; rw [decide_eq_decide]; omega
theorem reads_two {c a b d n : Int} {v : Int} (h : v ∈ reads ⟨c, d, a, b, n⟩) : v = a ∨ v = b := by
  unfold reads at h
  rcases List.mem_append.1 h with h | h
  · split at h
    · left; simpa using h
    · cases h
  · split at h
    · right; simpa using h
    · cases h
theorem BodyOk.bin {l : List BOp} {W : Nat} {ch : Bool} (h : BodyOk l W ch) {c d a b : Int} (hc : 3 ≤ c ∧ c ≤ 15) (hd : 0 ≤ d ∧ d < 28 ∧ d ≠ 19) (ha : srcI W a) (hb : srcI W b) : BodyOk (l ++ [⟨c, d, a, b, 0⟩]) (if 20 ≤ d then W ||| 2 ^ d.toNat else W) (ch || decide (d < 20)) := by
  have ha' := ha
  have hb' := hb
  obtain ⟨a1, a2, a3, a4⟩ := ha
  obtain ⟨b1, b2, b3, b4⟩ := hb
  have hD : hasD c = true := by unfold hasD; rw [decide_eq_true_eq]; omega
  have hA : hasA c = true := by unfold hasA; rw [decide_eq_true_eq]; omega
  have hB : hasB c = true := by unfold hasB; rw [decide_eq_true_eq]; omega
  have hI : isOp c = true := by unfold isOp; rw [decide_eq_true_eq]; omega
  have hL : leaves c = false := by unfold leaves; rw [decide_eq_false_iff_not]; omega
  have hS : stores c = false := by unfold stores; rw [decide_eq_false_iff_not]; omega
  have hw : writes ⟨c, d, a, b, 0⟩ = d := by unfold writes; rw [if_pos hD]
  refine (h.snoc (o := ⟨c, d, a, b, 0⟩) ⟨mid_small (by dsimp only; omega), mid_small (by dsimp only; omega), mid_small (by dsimp only; omega), mid_small (by dsimp only; omega), word0⟩ (by unfold bodyC; rw [decide_eq_true_eq]; dsimp only; omega) ?_ (fun h => by rw [hL] at h; cases h) (fun v hv => ?_)).is ?_ ?_
  · unfold formedB
    dsimp only
    rw [hI, hD, hA, hB, src_field ha', src_field hb']
    have : fieldB true d = true := by unfold fieldB; rw [if_pos rfl, decide_eq_true_eq]; omega
    rw [this]; simp
  · rcases reads_two hv with rfl | rfl
    · exact ha'
    · exact hb'
  · unfold nextW; rw [hw]
  · unfold nextCh
    rw [hw]
    dsimp only
    rw [hS, Bool.false_or]; congr 1; rw [decide_eq_decide]; omega
theorem BodyOk.load {l : List BOp} {W : Nat} {ch : Bool} (h : BodyOk l W ch) {c d a n : Int} (hc : 16 ≤ c ∧ c ≤ 17) (hd : 20 ≤ d ∧ d < 28) (ha : srcI W a) (hn : word n) (hch : ch = false) : BodyOk (l ++ [⟨c, d, a, 0, n⟩]) (W ||| 2 ^ d.toNat) ch := by
  have ha' := ha
  obtain ⟨a1, a2, a3, a4⟩ := ha
  have hD : hasD c = true := by unfold hasD; rw [decide_eq_true_eq]; omega
  have hA : hasA c = true := by unfold hasA; rw [decide_eq_true_eq]; omega
  have hB : hasB c = false := by unfold hasB; rw [decide_eq_false_iff_not]; omega
  have hNn : hasN c = true := by unfold hasN; rw [decide_eq_true_eq]; omega
  have hI : isOp c = true := by unfold isOp; rw [decide_eq_true_eq]; omega
  have hS : stores c = false := by unfold stores; rw [decide_eq_false_iff_not]; omega
  have hw : writes ⟨c, d, a, 0, n⟩ = d := by unfold writes; rw [if_pos hD]
  refine (h.snoc (o := ⟨c, d, a, 0, n⟩) ⟨mid_small (by dsimp only; omega), mid_small (by dsimp only; omega), mid_small (by dsimp only; omega), mid0, hn⟩ (by unfold bodyC; rw [decide_eq_true_eq]; dsimp only; omega) ?_ (fun _ => hch) (fun v hv => ?_)).is ?_ ?_
  · unfold formedB
    dsimp only
    rw [hI, hD, hA, hB, src_field ha', hNn]
    have : fieldB true d = true := by unfold fieldB; rw [if_pos rfl, decide_eq_true_eq]; omega
    rw [this]; rfl
  · unfold reads at hv
    dsimp only at hv
    rw [hA, hB] at hv
    simp at hv; subst hv; exact ha'
  · unfold nextW; rw [hw, if_pos hd.1]
  · unfold nextCh
    rw [hw]
    dsimp only
    rw [hS, Bool.false_or]
    have : decide (0 ≤ d ∧ d < 20) = false := by rw [decide_eq_false_iff_not]; omega
    rw [this, Bool.or_false]
theorem BodyOk.guard {l : List BOp} {W : Nat} {ch : Bool} (h : BodyOk l W ch) {a : Int} (ha : srcI W a) (hch : ch = false) : BodyOk (l ++ [⟨21, 0, a, 0, 0⟩]) W ch := by
  have ha' := ha
  obtain ⟨a1, a2, a3, a4⟩ := ha
  refine (h.snoc (o := ⟨21, 0, a, 0, 0⟩) ⟨mid_small (by dsimp only; omega), mid0, mid_small (by dsimp only; omega), mid0, word0⟩ rfl ?_ (fun _ => hch) (fun v hv => ?_)).is rfl ?_
  · show (isOp 21 && fieldB false 0 && fieldB true a && fieldB false 0 && (false || true)) = true
    rw [src_field ha']; rfl
  · have : v ∈ [a] := hv
    simp at this; subst this; exact ha'
  · unfold nextCh
    show (ch || (false || false)) = _
    simp
theorem BodyOk.store {l : List BOp} {W : Nat} {ch : Bool} (h : BodyOk l W ch) {c a b n : Int} (hc : 18 ≤ c ∧ c ≤ 19) (ha : srcI W a) (hb : srcI W b) (hn : word n) (hch : ch = false) : BodyOk (l ++ [⟨c, 0, a, b, n⟩]) W true := by
  have ha' := ha
  have hb' := hb
  obtain ⟨a1, a2, a3, a4⟩ := ha
  obtain ⟨b1, b2, b3, b4⟩ := hb
  have hD : hasD c = false := by unfold hasD; rw [decide_eq_false_iff_not]; omega
  have hA : hasA c = true := by unfold hasA; rw [decide_eq_true_eq]; omega
  have hB : hasB c = true := by unfold hasB; rw [decide_eq_true_eq]; omega
  have hNn : hasN c = true := by unfold hasN; rw [decide_eq_true_eq]; omega
  have hI : isOp c = true := by unfold isOp; rw [decide_eq_true_eq]; omega
  have hS : stores c = true := by unfold stores; rw [decide_eq_true_eq]; omega
  have hw : writes ⟨c, 0, a, b, n⟩ = -1 := by unfold writes; rw [if_neg (by rw [hD]; decide)]
  refine (h.snoc (o := ⟨c, 0, a, b, n⟩) ⟨mid_small (by dsimp only; omega), mid0, mid_small (by dsimp only; omega), mid_small (by dsimp only; omega), hn⟩ (by unfold bodyC; rw [decide_eq_true_eq]; dsimp only; omega) ?_ (fun _ => hch) (fun v hv => ?_)).is ?_ ?_
  · unfold formedB
    dsimp only
    rw [hI, hD, hA, hB, src_field ha', src_field hb', hNn]; rfl
  · rcases reads_two hv with rfl | rfl
    · exact ha'
    · exact hb'
  · unfold nextW; rw [hw]; rfl
  · unfold nextCh
    dsimp only
    rw [hS]; simp
end Go.Proofs.Ytmjfgnnefcimiaa
namespace Go.Proofs.Ytmjfgnnefcimiaa
open Go.RowKit

/-- The operations of the instruction under way. -/
def segA (acc : List BOp) (o : BOp) : List BOp := if o.code = 20 then [o] else acc ++ [o]
def segF (l : List BOp) : List BOp := l.foldl segA []
def ordB (acc : List BOp) (o : BOp) : Bool := (reads o).all (knownB acc) && (!leaves o.code || freeB acc)
def run2 : Nat → List BOp → List BOp → Option Nat
  | m, _, [] => some m
  | m, acc, o :: l => match shapeStep m o l with | some m' => (if (o.code == 20 || ordB acc o) = true then run2 m' (segA acc o) l else none) | none => none
theorem take_succ_of {l : List BOp} {k : Nat} {o : BOp} (h : l[k]? = some o) : l.take (k + 1) = l.take k ++ [o] := by rw [List.take_add_one, h]; rfl
theorem seg_eq {l : List BOp} : ∀ (i : Nat) {o : BOp}, l[i]? = some o → o.code ≠ 20 → seg l i = segF (l.take i)
  | 0, o, h, hc => by simp [seg, segF]
  | k + 1, o, h, hc => by
    have hk : k < l.length := by
      rcases Nat.lt_or_ge (k + 1) l.length with h1 | h1
      · omega
      · rw [List.getElem?_eq_none h1] at h; cases h
    obtain ⟨p, hp⟩ : ∃ p, l[k]? = some p := ⟨_, List.getElem?_eq_getElem hk⟩
    have hlen : (l.take k).length = k := by rw [List.length_take]; omega
    have hf : firstI l (k + 1) = firstI l k := by
      show (if _ then _ else _) = _
      rw [if_neg (by rw [h]; simpa using hc)]
    have hs : segF (l.take (k + 1)) = segA (segF (l.take k)) p := by unfold segF; rw [take_succ_of hp, List.foldl_append]; rfl
    rw [hs]
    unfold seg
    rw [hf, take_succ_of hp]
    unfold segA
    by_cases hpc : p.code = 20
    · rw [if_pos hpc]
      have hfk : firstI l k = (k : Int) := by
        cases k with
        | zero => show (if _ then _ else _) = _; rw [if_pos (by rw [hp]; simp [hpc])]; rfl
        | succ k => show (if _ then _ else _) = _; rw [if_pos (by rw [hp]; simp [hpc])]
      rw [hfk, Int.toNat_natCast, List.drop_append, hlen, Nat.sub_self, List.drop_eq_nil_of_le (by omega)]; rfl
    · rw [if_neg hpc]
      have ih := seg_eq k hp hpc
      unfold seg at ih
      have hle := firstI_le l k
      rw [List.drop_append_of_le_length (by rw [hlen]; omega), ih]
theorem ordered_all {l : List BOp} : orderedAll l = true ↔ ∀ i o, l[i]? = some o → (o.code == 20 || ordB (segF (l.take i)) o) = true := by
  unfold orderedAll
  rw [List.all_eq_true]
  have key : ∀ i o, l[i]? = some o → orderedB l i o = (o.code == 20 || ordB (segF (l.take i)) o) := fun i o ho => by
    by_cases hc : o.code = 20
    · have h1 : (o.code == 20) = true := by simp [hc]
      rw [h1, Bool.true_or]
      unfold orderedB
      have e1 : reads o = [] := by unfold reads; rw [hc]; rfl
      have e2 : leaves o.code = false := by rw [hc]; rfl
      rw [e1, e2]; rfl
    · have h1 : (o.code == 20) = false := by simp [hc]
      rw [h1, Bool.false_or]
      unfold orderedB ordB
      rw [seg_eq i ho hc]
  constructor
  · intro h i o ho
    have hi : i < l.length := by
      rcases Nat.lt_or_ge i l.length with h1 | h1
      · exact h1
      · rw [List.getElem?_eq_none h1] at ho; cases ho
    have := h i (List.mem_range.2 hi)
    rw [ho] at this
    rw [← key i o ho]; exact this
  · intro h i hi
    cases ho : l[i]? with
    | none => rfl
    | some o => show orderedB l i o = true; rw [key i o ho]; exact h i o ho
open Classical in
theorem run2_eq : ∀ (l pre : List BOp) (m : Nat), run2 m (segF pre) l = if (∀ i o, l[i]? = some o → (o.code == 20 || ordB (segF (pre ++ l.take i)) o) = true) then shapeRun m l else none
  | [], pre, m => by rw [if_pos (by intro i o h; simp at h)]; rfl
  | o :: l, pre, m => by
    have ih := fun m' => run2_eq l (pre ++ [o]) m'
    have hseg : segF (pre ++ [o]) = segA (segF pre) o := by unfold segF; rw [List.foldl_append]; rfl
    show (match shapeStep m o l with | some m' => (if (o.code == 20 || ordB (segF pre) o) = true then run2 m' (segA (segF pre) o) l else none) | none => none) = _
    have hiff : (∀ i q, (o :: l)[i]? = some q → (q.code == 20 || ordB (segF (pre ++ (o :: l).take i)) q) = true) ↔ ((o.code == 20 || ordB (segF pre) o) = true ∧ ∀ i q, l[i]? = some q → (q.code == 20 || ordB (segF (pre ++ [o] ++ l.take i)) q) = true) := by
      constructor
      · intro h
        refine ⟨by simpa using h 0 o rfl, fun i q hq => ?_⟩
        have := h (i + 1) q (by simpa using hq)
        simpa using this
      · rintro ⟨h1, h2⟩ i q hq
        cases i with
        | zero => simp at hq; subst hq; simpa using h1
        | succ i => simpa using h2 i q (by simpa using hq)
    show _ = if _ then (match shapeStep m o l with | some m' => shapeRun m' l | none => none) else none
    cases hst : shapeStep m o l with
    | none => simp
    | some m' =>
      show (if _ then run2 m' (segA (segF pre) o) l else none) = if _ then shapeRun m' l else none
      rw [← hseg, ih m']
      by_cases h1 : (o.code == 20 || ordB (segF pre) o) = true
      · rw [if_pos h1]
        by_cases h2 : ∀ i q, l[i]? = some q → (q.code == 20 || ordB (segF (pre ++ [o] ++ l.take i)) q) = true
        · rw [if_pos h2, if_pos (hiff.2 ⟨h1, h2⟩)]
        · rw [if_neg h2, if_neg (fun h => h2 (hiff.1 h).2)]
      · rw [if_neg h1, if_neg (fun h => h1 (hiff.1 h).1)]
/-- The state of the check, and the instruction under way. -/
structure CkRel (s : Ck) (m : Nat) (acc : List BOp) : Prop where
  marks : s.marks = m
  bits : ∀ v : Nat, 20 ≤ v → v < 28 → s.written.testBit v = acc.any fun p => writes p == (v : Int)
  ch : s.changed = !freeB acc
theorem reads_all {s : Ck} {m : Nat} {acc : List BOp} (h : CkRel s m acc) {o : BOp} (hf : formedB o = true) : (reads o).all (readB s) = (reads o).all (knownB acc) := by
  have : ∀ v ∈ reads o, readB s v = knownB acc v := fun v hv => by
    obtain ⟨v0, v1⟩ := reads_var hf v hv
    unfold readB knownB
    by_cases h20 : v < 20
    · simp [h20]
    · have := h.bits v.toNat (by omega) (by omega)
      rw [this, show ((v.toNat : Nat) : Int) = v by omega]
  rw [Bool.eq_iff_iff, List.all_eq_true, List.all_eq_true]
  exact ⟨fun h v hv => by rw [← this v hv]; exact h v hv, fun h v hv => by rw [this v hv]; exact h v hv⟩
theorem ck_run2 : ∀ (l : List BOp) (s : Ck) (m : Nat) (acc : List BOp), CkRel s m acc → (ckRun s l).map (·.marks) = run2 m acc l
  | [], s, m, acc, h => by show some s.marks = some m; rw [h.marks]
  | o :: l, s, m, acc, h => by
    have ihl := ck_run2 l
    show Option.map _ (match ckNext s o l.isEmpty (exitNext l) with | some s' => ckRun s' l | none => none) = match shapeStep m o l with | some m' => (if (o.code == 20 || ordB acc o) = true then run2 m' (segA acc o) l else none) | none => none
    by_cases hf' : formedB o = false
    · unfold ckNext shapeStep
      rw [hf']; rfl
    have hf : formedB o = true := by simpa using hf'
    by_cases hp' : ((endsB o.code == l.isEmpty) && !(o.code == 23 && !exitNext l)) = false
    · unfold ckNext shapeStep placedB
      rw [hp', hf, Bool.false_and, Bool.and_false]
      have : (true && (endsB o.code == l.isEmpty) && !(o.code == 23 && !exitNext l)) = false := by rw [Bool.true_and]; exact hp'
      rw [this]; rfl
    have hp : ((endsB o.code == l.isEmpty) && !(o.code == 23 && !exitNext l)) = true := by rwa [Bool.not_eq_false] at hp'
    have hsh : shapeStep m o l = if o.code == 20 then (if o.n == (m : Int) then some (m + 1) else none) else some m := by
      unfold shapeStep
      rw [if_pos (by rw [hf, Bool.true_and]; exact hp)]
    rw [hsh]
    by_cases hc : o.code = 20
    · have hc' : (o.code == 20) = true := by simp [hc]
      have hl : leaves o.code = false := by rw [hc]; rfl
      have hck : ckNext s o l.isEmpty (exitNext l) = if o.n == (s.marks : Int) then some ⟨s.marks + 1, 0, false⟩ else none := by
        unfold ckNext placedB
        rw [hf, hp, hl, hc']; rfl
      rw [hck, h.marks, hc']
      simp only [if_true, Bool.true_or]
      by_cases hn : (o.n == (m : Int)) = true
      · rw [if_pos hn, if_pos hn]
        refine ihl _ _ _ ⟨rfl, fun v v0 v1 => ?_, ?_⟩
        · unfold segA
          rw [if_pos hc]
          have hw : writes o = -1 := by unfold writes; rw [hc]; rfl
          have : (writes o == (v : Int)) = false := by rw [hw, beq_eq_false_iff_ne]; omega
          simp [this]
        · unfold segA freeB
          rw [if_pos hc]
          have hw : writes o = -1 := by unfold writes; rw [hc]; rfl
          simp [hw, hc]
      · rw [if_neg hn, if_neg hn]; rfl
    · have hc' : (o.code == 20) = false := by simp [hc]
      rw [hc']
      simp only [Bool.false_eq_true, if_false, Bool.false_or]
      have hck : ckNext s o l.isEmpty (exitNext l) = if ordB acc o = true then some ⟨s.marks, if 20 ≤ writes o then s.written ||| 2 ^ (writes o).toNat else s.written, s.changed || (stores o.code || decide (0 ≤ writes o ∧ writes o < 20))⟩ else none := by
        unfold ckNext placedB ordB
        rw [hf, hp, hc', reads_all h hf, h.ch]
        cases leaves o.code <;> cases freeB acc <;> cases (reads o).all (knownB acc) <;> rfl
      rw [hck]
      by_cases ho : ordB acc o = true
      · rw [if_pos ho, if_pos ho]
        refine ihl _ _ _ ⟨h.marks, fun v v0 v1 => ?_, ?_⟩
        · unfold segA
          rw [if_neg hc, List.any_append, ← h.bits v v0 v1]
          simp only [List.any_cons, List.any_nil, Bool.or_false]
          split
          · rename_i hw
            rw [Nat.testBit_or, Nat.testBit_two_pow]
            congr 1
            rw [Bool.eq_iff_iff]; simp; omega
          · rename_i hw
            have : (writes o == (v : Int)) = false := by rw [beq_eq_false_iff_ne]; omega
            rw [this, Bool.or_false]
        · unfold segA
          rw [if_neg hc]
          show (s.changed || _) = !(List.all (acc ++ [o]) _)
          rw [List.all_append, h.ch]
          have h19 : writes o ≠ 19 := by
            unfold writes
            split
            · rename_i hD
              unfold formedB at hf
              simp only [Bool.and_eq_true] at hf
              have hd := hf.1.1.1.2
              rw [hD] at hd
              unfold fieldB at hd
              rw [if_pos rfl, decide_eq_true_eq] at hd
              exact hd.2.2
            · omega
          have e : (stores o.code || decide (0 ≤ writes o ∧ writes o < 20)) = (decide (0 ≤ writes o ∧ writes o ≤ 18) || o.code == 18 || o.code == 19) := by
            unfold stores
            rw [Bool.eq_iff_iff]
            simp
            omega
          rw [e]
          unfold freeB
          simp only [List.all_cons, List.all_nil, Bool.and_true, Bool.not_and, Bool.not_not]
      · rw [if_neg ho, if_neg ho]; rfl
/-- The two checks agree. -/
theorem valid_same (b : Blk) : validR b = validB b := by
  unfold validR validB
  cases headerB b
  · rfl
  have h1 := ck_run2 b.ops ⟨0, 0, false⟩ 0 [] ⟨rfl, fun v _ _ => by simp, rfl⟩
  have h2 := run2_eq b.ops [] 0
  have h3 := ordered_all (l := b.ops)
  rw [show segF [] = [] from rfl] at h2
  rw [h2] at h1
  simp only [List.nil_append] at h1
  by_cases ho : orderedAll b.ops = true
  · rw [if_pos (h3.1 ho)] at h1
    rw [ho]
    cases hs : ckRun ⟨0, 0, false⟩ b.ops with
    | none => rw [hs] at h1; rw [← h1]; rfl
    | some s => rw [hs] at h1; rw [← h1]; rfl
  · rw [if_neg (fun h => ho (h3.2 h))] at h1
    have ho' : orderedAll b.ops = false := by simpa using ho
    rw [ho']
    cases hs : ckRun ⟨0, 0, false⟩ b.ops with
    | none => cases shapeRun 0 b.ops <;> rfl
    | some s => rw [hs] at h1; cases h1
end Go.Proofs.Ytmjfgnnefcimiaa
namespace Go.Proofs.Ytmjfgnnefcimiaa
open Go.RowKit

section
variable {P : Program} {w0 : World} {G : Gs} {N : Nd} {ops : Array Oper}
theorem onTop_agree {n : Nat} {r : Env} {f f' : Fr} {grp : List Oper} {d : Nat} {x : Bool} {a : Act} (hfx : f.get d = one (.bool x)) (htop : onTop (dstsOf grp) ((d, one (.bool x)) :: f) (putN grp) f') (hf : FDen r f' a) (hb : f.bnd n = true) : FDen (r.upto n) (putsAny grp f) a := by
  intro k
  rcases putsAny_get grp f k with h | ⟨h1, h2⟩
  · rw [h]; simp [AV.den, Pc.den, CV.den]
  · rw [h1]
    have e1 := onTop_get _ _ htop k h2
    have e2 := hf k
    rw [e1] at e2
    simp only [Fr.get] at e2
    split at e2
    · rename_i hk
      have := Nat.eq_of_beq_eq_true hk; subst this
      rw [hfx]
      exact AV.den_agree (Env.upto_agree n r) _ _ rfl e2
    · exact AV.den_agree (Env.upto_agree n r) _ _ (Fr.bnd_get k hb) e2
end
theorem sbnd_get {n : Nat} : ∀ {S : List Ow} {i : Nat} {o : Ow}, sbnd n S = true → S[i]? = some o → o.bnd n = true
  | [], i, o, _, h => by simp at h
  | x :: S, i, o, hb, h => by
    simp only [sbnd] at hb
    split at hb
    · rename_i hx
      cases i with
      | zero => simp at h; subst h; exact hx
      | succ i => exact sbnd_get hb (by simpa using h)
    · cases hb
section
variable {P : Program} {w0 : World} {G : Gs} {N : Nd} {ops : Array Oper}
theorem opsK_sound {Q : Act → World → Prop} : ∀ (n : Nat) (l : List Oper) (f : Fr) (S : List Ow) (K : Fr → List Ow → Prop), opsK P w0 G N ops n l f S K → (∀ f' S' a' w', K f' S' → Good w0 G N f' S' a' w' → Q a' w') →
    ∀ a w, Good w0 G N f S a w → seL P ops Q l a w
  | _, [], f, S, K, h, hK, a, w, hg => by cases ‹Nat› <;> exact hK _ _ _ _ h hg
  | 0, o :: l, f, S, K, h, hK, a, w, hg => h.elim
  | n + 1, o :: l, f, S, K, h, hK, a, w, hg => by
    unfold opsK at h
    have hsplit : ∀ {j d : Nat} {pol x : Bool}, o.guard = some (j, pol) → slotOf ops j = some d → f.get d = one (.bool x) →
        ((x = pol → opK P w0 G N o ((d, one (.bool pol)) :: f) S fun f' S' => opsK P w0 G N ops n l f' S' K) ∧
          (x = (!pol) → match dstOk N.n o.dst with | true => (Fr.putK ((d, one (.bool (!pol))) :: f) o.dst (.p (.c .any)) fun f' => opsK P w0 G N ops n l f' S K) | false => False)) → seL P ops Q (o :: l) a w := by
      intro j d pol x hg' hs hfx ⟨h1, h2⟩
      by_cases hx : x = pol
      · obtain ⟨r, hR, hf, hN, hd⟩ := hg.known (d := d) (x := one (.bool pol)) (by rw [hfx, hx])
        refine step_do ?_ ((opK_sound (h1 hx)).out r a w hR hf hN hd _ (fun _ _ _ => True) fun f' S' a' w' hk hgd => opsK_sound n l f' S' K hk hK a' w' hgd)
        rw [wanted_some hg', yielded_of hf hs (get_cons_self d _ f)]; simp
      · have hx' : x = !pol := by cases x <;> cases pol <;> simp_all
        have h2 := h2 hx'
        obtain ⟨r, hR, hf, hN, hd⟩ := hg.known (d := d) (x := one (.bool (!pol))) (by rw [hfx, hx'])
        split at h2
        · rename_i hdst
          refine step_not ?_ (opsK_sound n l _ S K (putK_iff.1 h2) hK _ _ ⟨r, hR, hf.putAny undef (by rw [hN]; exact hdst), (put_size a _ _).trans hN, (put_defers a _ _).trans hd⟩)
          rw [wanted_some hg', yielded_of hf hs (get_cons_self d _ f)]; cases pol <;> simp
        · exact h2.elim
    split at h
    · rename_i hgd
      obtain ⟨r, hR, hf, hN, hd⟩ := hg
      exact step_do (wanted_none hgd _) ((opK_sound h).out r a w hR hf hN hd _ (fun _ _ _ => True) fun f' S' a' w' hk hg' => opsK_sound n l f' S' K hk hK a' w' hg')
    · rename_i j pol hgd
      split at h
      · exact h.elim
      · rename_i d hs
        split at h
        · rename_i x hfx
          split at h
          · rename_i grp p rem hspan
            split at h
            · rename_i b hpick
              split at h
              · rename_i hD hpd hmem
                have hmem := memN_not hmem
                obtain ⟨y, hy, hrest⟩ := h
                rw [putsAnyK_iff, putK_iff] at hrest
                have hall : ∀ o ∈ grp, o.guard = some (j, pol) := fun o' ho' => spanG_all j pol (o :: l) o' (by rw [hspan]; exact ho')
                have happ : grp ++ p :: rem = o :: l := by have := spanG_append j pol (o :: l); rw [hspan] at this; exact this
                rw [← happ]
                by_cases hx : x = pol
                · have h1 := hy hx
                  refine seqK_sound hs grp _ S _ hall h1 ?_ a w (hg.known (d := d) (x := one (.bool pol)) (by rw [hfx, hx]))
                  rintro f' S' a' w' ⟨htop, htake, hb, hbnd, hgrp⟩ ⟨r', hR', hf', hN', hd'⟩
                  subst hx
                  have hS : S.length ≤ S'.length := by
                    have := congrArg List.length htake
                    simp at this; omega
                  have hfd := onTop_agree (grp := grp) hfx htop hf' hbnd
                  have hR2 : Rel w0 G S' r' w' := hR'
                  have eb : a'.eval (.tmp b) = .bool y := by have := hf' b; rw [hb] at this; exact den_v this
                  have ed : a'.eval (.tmp d) = .bool x := by
                    have h2 := hf' d
                    rw [onTop_get _ _ htop d hmem, get_cons_self] at h2
                    exact den_v h2
                  obtain ⟨hpg, hprun⟩ := pick_run (P := P) hpick (a := a') ed (fun _ => eb) w'
                  refine step_do (wanted_none hpg _) (wp_of_value hprun ?_)
                  refine opsK_sound n rem _ S K hrest hK _ _ ⟨r'.upto S.length, ?_, hfd.put (den_one _ _) (by rw [hN']; exact hpd), (put_size a' _ _).trans hN', (put_defers a' _ _).trans hd'⟩
                  unfold grpOk at hgrp
                  split at hgrp
                  · rename_i hG
                    refine hR2.upto rfl hS (Nat.le_of_ble_eq_true hG) fun i o' ho' => ?_
                    have hil : i < S.length := by
                      rcases Nat.lt_or_ge i S.length with h1 | h1
                      · exact h1
                      · rw [List.getElem?_eq_none h1] at ho'; cases ho'
                    have ho2 : S'[i]? = some o' := by rw [← htake, List.getElem?_take] at ho'; rw [if_pos hil] at ho'; exact ho'
                    exact Ow.holds_agree (hR2.own i o' ho2) (Env.upto_agree _ _) (sbnd_get hgrp ho') hil (Env.upto_blk _ _)
                  · cases hgrp
                · refine allDst_put grp hD hs hall hx hfx hmem hg fun a' hg' => ?_
                  obtain ⟨r', hR', hf', hN', hd'⟩ := hg'
                  have ed : a'.eval (.tmp d) = .bool x := by
                    have h2 := hf' d
                    rw [putsAny_far grp f d hmem, hfx] at h2
                    exact den_v h2
                  obtain ⟨hpg, hprun⟩ := pick_run (P := P) (y := y) hpick (a := a') ed (fun e => absurd e hx) w
                  refine step_do (wanted_none hpg _) (wp_of_value hprun ?_)
                  exact opsK_sound n rem _ S K hrest hK _ _ ⟨r', hR', hf'.put (den_one _ _) (by rw [hN']; exact hpd), (put_size a' _ _).trans hN', (put_defers a' _ _).trans hd'⟩
              · exact h.elim
            · exact hsplit hgd hs hfx h
          · exact hsplit hgd hs hfx h
        · exact h.elim
end
end Go.Proofs.Ytmjfgnnefcimiaa
namespace Go.Proofs.Ytmjfgnnefcimiaa
open Go.RowKit

theorem foldRun_ok : ∀ {l : List BOp} {f : Int → Option Int}, wordsF f → (∀ o ∈ l, o.ok) → ∀ p ∈ foldRun f l, p.ok
  | [], f, _, _, p, hp => by cases hp
  | o :: l, f, hf, hl, p, hp => by
    have h1 := foldB_ok (foldMark_words (o := o) hf) (hl o (by simp))
    have h2 := foldMark_words (o := o) hf
    have hl2 : ∀ q ∈ l, q.ok := fun q hq => hl q (by simp [hq])
    unfold foldRun at hp
    split at hp
    · rcases List.mem_cons.1 hp with rfl | hp
      · exact h1
      · split at hp
        · cases hp
        · exact foldRun_ok (foldUpd_words h2 h1) hl2 p hp
    · exact foldRun_ok h2 hl2 p hp
theorem copyRun_ok : ∀ {l : List BOp} {f : Int → Option Int}, midF f → (∀ o ∈ l, o.ok) → ∀ p ∈ copyRun f l, p.ok
  | [], f, _, _, p, hp => by cases hp
  | o :: l, f, hf, hl, p, hp => by
    have h2 := midF_mark hf o
    have h1 := copyOp_ok h2 (hl o (by simp))
    have hl2 : ∀ q ∈ l, q.ok := fun q hq => hl q (by simp [hq])
    unfold copyRun at hp
    split at hp
    · exact copyRun_ok h2 hl2 p hp
    · rcases List.mem_cons.1 hp with rfl | hp
      · exact h1
      · exact copyRun_ok (midF_upd h2 h1) hl2 p hp
theorem deadFold_mem : ∀ {l : List BOp} {s : DeadS} {p : BOp}, p ∈ (l.foldl deadStep s).out → p ∈ s.out ∨ p ∈ l
  | [], s, p, h => .inl h
  | o :: l, s, p, h => by
    rcases deadFold_mem (l := l) h with h | h
    · unfold deadStep at h
      split at h
      · exact .inl h
      · rcases List.mem_append.1 h with h | h
        · exact .inl h
        · right; simp at h; simp [h]
    · right; simp [h]
theorem deadAll_mem {b : Blk} {p : BOp} (h : p ∈ deadAll b) : p ∈ b.ops := by
  unfold deadAll at h
  split at h
  · have := deadFold_mem (List.mem_reverse.1 h)
    simpa using this
  · exact h
def foldP (b : Blk) : Blk := ⟨b.at_, b.pages, foldAll b⟩
def copyP (b : Blk) : Blk := ⟨b.at_, b.pages, copyAll b⟩
def deadP (b : Blk) : Blk := ⟨b.at_, b.pages, deadAll b⟩
theorem foldAll_length (b : Blk) : (foldAll b).length ≤ b.ops.length := by
  unfold foldAll; split
  · exact foldRun_length _ _
  · exact Nat.le_refl _
theorem copyAll_length (b : Blk) : (copyAll b).length ≤ b.ops.length := by
  unfold copyAll; split
  · exact copyRun_length _ _
  · exact Nat.le_refl _
theorem deadAll_length (b : Blk) : (deadAll b).length ≤ b.ops.length := by
  unfold deadAll; split
  · have := deadRun_length b.ops.reverse; simpa using this
  · exact Nat.le_refl _
theorem foldP_ok {b : Blk} (h : b.ok) : (foldP b).ok := ⟨h.at_, h.pages, fun o ho => by
  simp only [foldP, foldAll] at ho
  split at ho
  · exact foldRun_ok wordsF_none h.ops o ho
  · exact h.ops o ho, h.lat, h.lpages, Nat.le_trans (foldAll_length b) h.lops⟩
theorem copyP_ok {b : Blk} (h : b.ok) : (copyP b).ok := ⟨h.at_, h.pages, fun o ho => by
  simp only [copyP, copyAll] at ho
  split at ho
  · exact copyRun_ok midF_none h.ops o ho
  · exact h.ops o ho, h.lat, h.lpages, Nat.le_trans (copyAll_length b) h.lops⟩
theorem deadP_ok {b : Blk} (h : b.ok) : (deadP b).ok := ⟨h.at_, h.pages, fun o ho => h.ops o (deadAll_mem ho), h.lat, h.lpages, Nat.le_trans (deadAll_length b) h.lops⟩
theorem fold_nil {b : Blk} (h : b.ops = []) : foldAll b = [] := List.eq_nil_of_length_eq_zero (by have := foldAll_length b; rw [h] at this; simpa using this)
theorem copy_nil {b : Blk} (h : b.ops = []) : copyAll b = [] := List.eq_nil_of_length_eq_zero (by have := copyAll_length b; rw [h] at this; simpa using this)
theorem dead_nil {b : Blk} (h : b.ops = []) : deadAll b = [] := List.eq_nil_of_length_eq_zero (by have := deadAll_length b; rw [h] at this; simpa using this)
def onceP (b : Blk) : Blk := deadP (copyP (foldP b))
theorem onceP_ok {b : Blk} (h : b.ok) : (onceP b).ok := deadP_ok (copyP_ok (foldP_ok h))
/-- The passes in turn, n rounds at most, until nothing changes. -/
def optN : Nat → Blk → Blk
  | 0, b => b
  | n + 1, b => if (onceP b).ops = b.ops then b else optN n (onceP b)
theorem optN_same {b : Blk} (h : (onceP b).ops = b.ops) (n : Nat) : optN n b = b := by
  cases n with
  | zero => rfl
  | succ n => exact if_pos h
theorem optN_fuel {mu : Blk → Nat} (hmu : ∀ b, b.ok → (onceP b).ops ≠ b.ops → mu (onceP b) < mu b) : ∀ (n m : Nat) {b : Blk}, b.ok → mu b ≤ n → mu b ≤ m → optN n b = optN m b
  | n, m, b, hb, hn, hm => by
    by_cases h : (onceP b).ops = b.ops
    · rw [optN_same h, optN_same h]
    · have hlt := hmu b hb h
      obtain ⟨n, rfl⟩ : ∃ k, n = k + 1 := ⟨n - 1, by omega⟩
      obtain ⟨m, rfl⟩ : ∃ k, m = k + 1 := ⟨m - 1, by omega⟩
      show (if _ then _ else optN n (onceP b)) = (if _ then _ else optN m (onceP b))
      rw [if_neg h, if_neg h]
      exact optN_fuel hmu n m (onceP_ok hb) (by omega) (by omega)
theorem optN_step {mu : Blk → Nat} (hmu : ∀ b, b.ok → (onceP b).ops ≠ b.ops → mu (onceP b) < mu b) {b : Blk} (hb : b.ok) (h : (onceP b).ops ≠ b.ops) : optN (mu b) b = optN (mu (onceP b)) (onceP b) := by
  have hlt := hmu b hb h
  obtain ⟨n, hn⟩ : ∃ k, mu b = k + 1 := ⟨mu b - 1, by omega⟩
  rw [hn]
  show (if _ then _ else optN n (onceP b)) = _
  rw [if_neg h]
  exact optN_fuel hmu _ _ (onceP_ok hb) (by omega) (by omega)
def passN : Nat → Blk → Blk
  | 0, b => b
  | 1, b => foldP b
  | 2, b => copyP (foldP b)
  | _, b => onceP b
end Go.Proofs.Ytmjfgnnefcimiaa
namespace Go.Proofs.Ytmjfgnnefcimiaa
open Go.RowKit

/-- The variables that are live before each operation. -/
def liveL : List BOp → List Nat
  | [] => []
  | o :: l => beforeM o ((liveL l).headD 0) :: liveL l
def liveAll (b : Blk) : List Nat := if validB b then liveL b.ops else []
theorem liveL_length : ∀ l : List BOp, (liveL l).length = l.length
  | [] => rfl
  | o :: l => by simp [liveL, liveL_length l]
/-- The state of the loop: what is live, and what has been written. -/
structure LiveS where
  live : Nat
  row : List Nat
def liveStep (s : LiveS) (x : Nat × BOp) : LiveS := ⟨beforeM x.2 s.live, s.row.set x.1 (beforeM x.2 s.live)⟩
def liveRun (n : Nat) (l : List (Nat × BOp)) : LiveS := l.foldl liveStep ⟨0, List.replicate n 0⟩
theorem liveRun_snoc (n : Nat) (l : List (Nat × BOp)) (x : Nat × BOp) : liveRun n (l ++ [x]) = liveStep (liveRun n l) x := by unfold liveRun; rw [List.foldl_append]; rfl
theorem liveFold_length : ∀ (l : List (Nat × BOp)) (s : LiveS), (l.foldl liveStep s).row.length = s.row.length
  | [], s => rfl
  | x :: l, s => by have := liveFold_length l (liveStep s x); simpa [liveStep] using this
theorem liveRun_length (n : Nat) (l : List (Nat × BOp)) : (liveRun n l).row.length = n := by have := liveFold_length l ⟨0, List.replicate n 0⟩; simpa [liveRun] using this
theorem liveFold_lt : ∀ {l : List (Nat × BOp)} {s : LiveS}, s.live < 4294967296 → (∀ x ∈ l, formedB x.2 = true) → (l.foldl liveStep s).live < 4294967296
  | [], s, h, _ => h
  | x :: l, s, h, hf => liveFold_lt (l := l) (beforeM_lt h (hf x (by simp))) fun y hy => hf y (by simp [hy])
theorem liveRun_lt (n : Nat) {l : List (Nat × BOp)} (hf : ∀ x ∈ l, formedB x.2 = true) : (liveRun n l).live < 4294967296 := liveFold_lt (by show (0 : Nat) < 4294967296; omega) hf
/-- All places, the last first. -/
theorem liveRun_all (l : List BOp) : ∀ {xs : List (Nat × BOp)}, (∀ x ∈ xs, l[x.1]? = some x.2) → xs.map (·.1) = (List.range l.length).reverse → (liveRun l.length xs).row = liveL l := by
  have key : ∀ (k : Nat) {xs : List (Nat × BOp)}, k ≤ l.length → (∀ x ∈ xs, l[x.1]? = some x.2) → xs.map (·.1) = ((List.range l.length).drop (l.length - k)).reverse → liveRun l.length xs = ⟨((liveL (l.drop (l.length - k))).headD 0), List.replicate (l.length - k) 0 ++ liveL (l.drop (l.length - k))⟩ := by
    intro k
    induction k with
    | zero =>
      intro xs _ _ hxs
      rw [Nat.sub_zero, List.drop_eq_nil_of_le (by simp)] at hxs
      have : xs = [] := by simpa using hxs
      subst this
      rw [Nat.sub_zero, List.drop_eq_nil_of_le (Nat.le_refl _)]
      simp [liveRun, liveL]
    | succ k ih =>
      intro xs hk hx hxs
      have hlt : l.length - (k + 1) < l.length := by omega
      rw [List.drop_eq_getElem_cons (by simpa using hlt), show l.length - (k + 1) + 1 = l.length - k by omega] at hxs
      simp only [List.getElem_range, List.reverse_cons] at hxs
      obtain ⟨ys, y, rfl⟩ : ∃ ys y, xs = ys ++ [y] := by
        rcases List.eq_nil_or_concat xs with h | ⟨ys, y, h⟩
        · subst h; have := congrArg List.length hxs; simp at this
        · exact ⟨ys, y, by simpa using h⟩
      rw [List.map_append, List.map_singleton] at hxs
      have h2 := List.append_inj' hxs rfl
      have hy : y.1 = l.length - (k + 1) := by simpa using h2.2
      have hyl := hx y (by simp)
      rw [hy] at hyl
      rw [liveRun_snoc, ih (by omega) (fun x hx' => hx x (by simp [hx'])) h2.1]
      rw [List.drop_eq_getElem_cons hlt, show l.length - (k + 1) + 1 = l.length - k by omega]
      have e : l[l.length - (k + 1)] = y.2 := by rw [List.getElem?_eq_getElem hlt] at hyl; injection hyl
      rw [e]
      simp only [liveL, liveStep, hy, List.headD_cons]
      congr 1
      rw [show l.length - k = l.length - (k + 1) + 1 by omega, List.replicate_succ', List.append_assoc, List.set_append_right _ _ (by simp)]
      simp
  intro xs hx hxs
  have := key l.length (xs := xs) (Nat.le_refl _) hx (by rw [Nat.sub_self]; exact hxs)
  rw [this]; simp
def natV (x : Nat) : Value := .int .u32 (x : Int)
theorem setAll_ints {l : List Nat} {k : Nat} (v : Nat) : setAll (l.map natV) k [.int .u32 (v : Int)] = (l.set k v).map natV := by
  simp only [setAll, List.map_set]; rfl
theorem zero_row (n : Nat) : (madeCells (Value.int .u32 0).cells (n * 1)).toList = (List.replicate n 0).map natV := by
  refine List.ext_getElem? fun i => ?_
  simp only [madeCells, Value.cells, Array.getElem?_toList, Array.getElem?_map, List.getElem?_map, List.getElem?_replicate, Nat.mul_one]
  by_cases h : i < n <;> simp [h, natV, Nat.mod_one]
end Go.Proofs.Ytmjfgnnefcimiaa
namespace Go.Proofs.Ytmjfgnnefcimiaa
open Go.RowKit

/-- The operations ahead of the last ones: i marks. -/
structure PreOk (ops : List BOp) (i W : Nat) (ch : Bool) : Prop where
  run : ckL ⟨0, 0, false⟩ ops = some ⟨i, W, ch⟩
  all : ∀ o ∈ ops, o.ok ∧ o.code ≠ 23
  head : (i = 0 ∧ ops = []) ∨ ∃ o l, ops = o :: l ∧ o.code = 20
theorem PreOk.nil : PreOk [] 0 0 false := ⟨rfl, nofun, .inl ⟨rfl, rfl⟩⟩
theorem ckNext_exit {s : Ck} {o : BOp} (h : o.code ≠ 23) (x : Bool) : ckNext s o false x = ckNext s o false false := by
  unfold ckNext placedB
  have : (o.code == 23) = false := by rw [beq_eq_false_iff_ne]; exact h
  rw [this]; rfl
theorem ckRun_pre : ∀ {l : List BOp} {s s' : Ck} {rest : List BOp}, ckL s l = some s' → (∀ o ∈ l, o.code ≠ 23) → rest ≠ [] → ckRun s (l ++ rest) = ckRun s' rest
  | [], s, s', rest, h, _, _ => by injection h with h; subst h; rfl
  | o :: l, s, s', rest, h, hc, hr => by
    simp only [ckL] at h
    split at h
    · rename_i s1 h1
      have ih := ckRun_pre h (fun p hp => hc p (by simp [hp])) hr
      show (match ckNext s o (l ++ rest).isEmpty _ with | some s' => ckRun s' (l ++ rest) | none => none) = _
      have he : (l ++ rest).isEmpty = false := by cases l <;> cases rest <;> simp_all
      rw [he, ckNext_exit (hc o (by simp)), h1]
      exact ih
    · cases h
theorem ckNext_mark (i W : Nat) (ch : Bool) : ckNext ⟨i, W, ch⟩ ⟨20, 0, 0, 0, (i : Int)⟩ false false = some ⟨i + 1, 0, false⟩ := by
  have h1 : formedB ⟨20, 0, 0, 0, (i : Int)⟩ = true := rfl
  have h2 : placedB ⟨i, W, ch⟩ ⟨20, 0, 0, 0, (i : Int)⟩ false false = true := by cases ch <;> rfl
  unfold ckNext
  rw [h1, h2]
  simp
theorem PreOk.mark {ops : List BOp} {i W : Nat} {ch : Bool} (h : PreOk ops i W ch) (hi : i < 1000) : PreOk (ops ++ [⟨20, 0, 0, 0, (i : Int)⟩]) (i + 1) 0 false := by
  refine ⟨?_, fun o ho => ?_, .inr ?_⟩
  · rw [ckL_append, h.run]
    show (match ckNext _ _ false false with | some s' => ckL s' [] | none => none) = _
    rw [ckNext_mark]; rfl
  · rcases List.mem_append.1 ho with ho | ho
    · exact h.all o ho
    · simp at ho; subst ho
      exact ⟨⟨mid_small (by dsimp only; omega), mid0, mid0, mid0, by unfold word; dsimp only; omega⟩, by dsimp only; omega⟩
  · rcases h.head with ⟨_, h1⟩ | ⟨o, l, h1, h2⟩
    · subst h1; exact ⟨_, [], rfl, rfl⟩
    · subst h1; exact ⟨o, _, rfl, h2⟩
theorem PreOk.body {ops l : List BOp} {i W : Nat} {ch : Bool} (h : PreOk ops i 0 false) (hb : BodyOk l W ch) (hi : 0 < i) : PreOk (ops ++ l) i W ch := by
  refine ⟨?_, fun o ho => ?_, .inr ?_⟩
  · rw [ckL_append, h.run]; exact hb.run i
  · rcases List.mem_append.1 ho with ho | ho
    · exact h.all o ho
    · have := hb.all o ho
      refine ⟨this.1, ?_⟩
      have h2 := this.2
      unfold bodyC at h2
      rw [decide_eq_true_eq] at h2
      omega
  · rcases h.head with ⟨h0, _⟩ | ⟨o, l', h1, h2⟩
    · omega
    · subst h1; exact ⟨o, _, rfl, h2⟩
/-- The last operations of a block. -/
structure TailOk (t : List BOp) (ch : Bool) : Prop where
  run : ∀ (i W : Nat), ckRun ⟨i, W, ch⟩ t = some ⟨i, W, ch⟩
  all : ∀ o ∈ t, o.ok
  ne : t ≠ []
theorem tail_exit {n : Int} (hn : word n) (ch : Bool) : TailOk [⟨24, 0, 0, 0, n⟩] ch := by
  refine ⟨fun i W => ?_, fun o ho => ?_, by simp⟩
  · cases ch <;> rfl
  · simp at ho; subst ho
    exact ⟨mid_small (by dsimp only; omega), mid0, mid0, mid0, hn⟩
theorem guest_src {a : Int} (h : 0 ≤ a ∧ a < 19) : fieldB true a = true := by unfold fieldB; rw [if_pos rfl, decide_eq_true_eq]; omega
theorem tail_var {a : Int} (ha : 0 ≤ a ∧ a < 19) (ch : Bool) : TailOk [⟨25, 0, a, 0, 0⟩] ch := by
  refine ⟨fun i W => ?_, fun o ho => ?_, by simp⟩
  · have h1 : formedB ⟨25, 0, a, 0, 0⟩ = true := by
      show (isOp 25 && fieldB false 0 && fieldB true a && fieldB false 0 && (false || true)) = true
      rw [guest_src ha]; rfl
    have h2 : placedB ⟨i, W, ch⟩ ⟨25, 0, a, 0, 0⟩ true false = true := by cases ch <;> rfl
    have h3 : (reads ⟨25, 0, a, 0, 0⟩).all (readB ⟨i, W, ch⟩) = true := by
      show ([a].all (readB ⟨i, W, ch⟩)) = true
      have : a < 20 := by omega
      simp [readB, this]
    show (match ckNext ⟨i, W, ch⟩ ⟨25, 0, a, 0, 0⟩ true false with | some s' => ckRun s' [] | none => none) = _
    unfold ckNext
    rw [h1, h2, h3]
    show some (Ck.mk i W (ch || (false || false))) = _
    simp
  · simp at ho; subst ho
    exact ⟨mid_small (by dsimp only; omega), mid0, mid_small (by dsimp only; omega), mid0, word0⟩
theorem tail_if {a n m : Int} (ha : 0 ≤ a ∧ a < 19) (hn : word n) (hm : word m) (ch : Bool) : TailOk [⟨23, 0, a, 0, n⟩, ⟨24, 0, 0, 0, m⟩] ch := by
  refine ⟨fun i W => ?_, fun o ho => ?_, by simp⟩
  · have h1 : formedB ⟨23, 0, a, 0, n⟩ = true := by
      show (isOp 23 && fieldB false 0 && fieldB true a && fieldB false 0 && (true || _)) = true
      rw [guest_src ha]; rfl
    have h2 : placedB ⟨i, W, ch⟩ ⟨23, 0, a, 0, n⟩ false true = true := by cases ch <;> rfl
    have h3 : (reads ⟨23, 0, a, 0, n⟩).all (readB ⟨i, W, ch⟩) = true := by
      show ([a].all (readB ⟨i, W, ch⟩)) = true
      have : a < 20 := by omega
      simp [readB, this]
    show (match ckNext ⟨i, W, ch⟩ ⟨23, 0, a, 0, n⟩ false true with | some s' => ckRun s' [⟨24, 0, 0, 0, m⟩] | none => none) = _
    have h4 : ckNext ⟨i, W, ch⟩ ⟨23, 0, a, 0, n⟩ false true = some ⟨i, W, ch⟩ := by
      unfold ckNext
      rw [h1, h2, h3]
      show some (Ck.mk i W (ch || (false || false))) = _
      simp
    rw [h4]
    exact (tail_exit hm ch).run i W
  · simp at ho
    rcases ho with rfl | rfl
    · exact ⟨mid_small (by dsimp only; omega), mid0, mid_small (by dsimp only; omega), mid0, hn⟩
    · exact ⟨mid_small (by dsimp only; omega), mid0, mid0, mid0, hm⟩
theorem tail_slow : TailOk [⟨22, 0, 0, 0, 0⟩] false := by
  refine ⟨fun i W => rfl, fun o ho => ?_, by simp⟩
  simp at ho; subst ho
  exact ⟨mid_small (by dsimp only; omega), mid0, mid0, mid0, word0⟩
/-- What the maker hands back. -/
structure MadeOk (b : Blk) : Prop where
  ok : b.ok
  valid : validB b = true
  len : b.ops.length ≤ 200
  lp : b.pages.length ≤ 10
theorem made_ok {ats : List Int} {p : Int} {ops t : List BOp} {i W : Nat} {ch : Bool} (h : PreOk ops i W ch) (ht : TailOk t ch) (hi : 1 ≤ i) (hats : ∀ x ∈ ats, word x) (hatl : ats.length = i) (hi2 : i ≤ 64) (hp : 0 ≤ p ∧ p < 4096) (hlen : ops.length + t.length ≤ 200) : MadeOk ⟨ats, [p], ops ++ t⟩ := by
  refine ⟨⟨hats, fun x hx => ?_, fun o ho => ?_, ?_, ?_, ?_⟩, ?_, by simp; omega, by show 1 ≤ 10; omega⟩
  · simp at hx; subst hx; unfold mid; omega
  · rcases List.mem_append.1 ho with ho | ho
    · exact (h.all o ho).1
    · exact ht.all o ho
  · show ats.length ≤ _; omega
  · show 1 ≤ _; omega
  · show (ops ++ t).length ≤ _; simp; omega
  · obtain ⟨o, l, h1, h2⟩ : ∃ o l, ops = o :: l ∧ o.code = 20 := by
      rcases h.head with ⟨h0, _⟩ | h0
      · omega
      · exact h0
    have hrun : ckRun ⟨0, 0, false⟩ (ops ++ t) = some ⟨i, W, ch⟩ := by rw [ckRun_pre h.run (fun o ho => (h.all o ho).2) ht.ne]; exact ht.run i W
    unfold validB
    dsimp only
    rw [hrun]
    have hpos : 1 ≤ (ops ++ t).length := by rw [h1]; simp
    have hh : headerB ⟨ats, [p], ops ++ t⟩ = true := by
      unfold headerB
      dsimp only
      have e1 : pagesFrom none [p] = true := by
        show (decide (0 ≤ p ∧ p < 4096) && true && true) = true
        simp; omega
      have e2 : decide (1 ≤ ats.length ∧ ats.length ≤ 64) = true := by rw [decide_eq_true_eq]; omega
      have e3 : decide (1 ≤ (ops ++ t).length ∧ (ops ++ t).length ≤ 2000) = true := by rw [decide_eq_true_eq]; simp at hpos ⊢; omega
      rw [e1, e2, e3, h1]
      simp [h2]
    rw [hh]
    simp [hatl]
end Go.Proofs.Ytmjfgnnefcimiaa
namespace Go.Proofs.Ytmjfgnnefcimiaa
open Go.RowKit

section
variable (ro : Option Nat) (P : Program) (w0 : World) (G : Gs) (N : Nd)
def PostK (K : Exit → Fr → List Ow → Prop) : Exit → Act → World → Prop := fun e a w => ∃ f S, K e f S ∧ Good w0 G N f S a w
/-- What is to be shown of a piece of code, whatever world and frame of this kind. -/
structure Sat (c : Code) (f : Fr) (S : List Ow) (K : Exit → Fr → List Ow → Prop) : Prop where
  out : ∀ n a w, Good w0 G N f S a w → c.wpIn (fenceR ro) n P (PostK w0 G N K) a w
/-- The one state is a state of the other kind. -/
structure Ent (f : Fr) (S : List Ow) (f' : Fr) (S' : List Ow) : Prop where
  out : ∀ a w, Good w0 G N f S a w → Good w0 G N f' S' a w
def LoopS (vcb : Fr → List Ow → (Exit → Fr → List Ow → Prop) → Prop) (f : Fr) (S : List Ow) (K : Exit → Fr → List Ow → Prop) : Prop :=
  ∃ (α : Type) (T : α → Fr) (U : α → List Ow) (m : α → Nat), (∃ x, Ent w0 G N f S (T x) (U x)) ∧
    ∀ x, vcb (T x) (U x) fun e f' S' => match e with | .normal => ∃ y, Ent w0 G N f' S' (T y) (U y) ∧ m y < m x | e => ∃ f2 S2, Ent w0 G N f' S' f2 S2 ∧ K e f2 S2
def vc : Code → Fr → List Ow → (Exit → Fr → List Ow → Prop) → Prop
  | .skip, f, S, K => K .normal f S
  | .region id ops draw, f, S, K => (match draw with
    | false => opsK P w0 G N ops ops.toList.length ops.toList f S (K .normal)
    | true => Sat ro P w0 G N (.region id ops true) f S K)
  | .seq a b, f, S, K => vc a f S fun e f' S' => match e with | .normal => vc b f' S' K | e => K e f' S'
  | .cond c x y, f, S, K => (match f.ev c with
    | .p (.c (.v (.bool t))) => (t = true → vc x f S K) ∧ (t = false → vc y f S K)
    | _ => False)
  | .block id body, f, S, K => vc body f S fun e f' S' => match e with
    | .exit id' => (match Nat.beq id' id with | true => K .normal f' S' | false => K (.exit id') f' S')
    | e => K e f' S'
  | .loop body, f, S, K => LoopS w0 G N (vc body) f S K
  | .exit id, f, S, K => K (.exit id) f S
  | .ret, f, S, K => K .ret f S
  | c, f, S, K => Sat ro P w0 G N c f S K
end
section
variable {ro : Option Nat} {P : Program} {w0 : World} {G : Gs} {N : Nd}
theorem vc_sound : ∀ (c : Code) (f : Fr) (S : List Ow) (K : Exit → Fr → List Ow → Prop), vc ro P w0 G N c f S K → Sat ro P w0 G N c f S K
  | .skip, f, S, K, h => ⟨fun n a w hg => wpIn_skip ⟨f, S, h, hg⟩⟩
  | .region id ops draw, f, S, K, h => by
    cases draw with
    | false => exact ⟨fun n a w hg => wpIn_region_list (seL_wpIn ro n (opsK_sound _ _ f S _ h (fun f' S' a' w' hk hg' => ⟨f', S', hk, hg'⟩) a w hg))⟩
    | true => exact h
  | .seq x y, f, S, K, h => ⟨fun n a w hg => wpIn_seq (wpIn_mono ((vc_sound x f S _ h).out n a w hg) (fun e a' w' ⟨f', S', hk, hg'⟩ => by
      cases e with
      | normal => exact (vc_sound y f' S' K hk).out n a' w' hg'
      | exit id => exact ⟨f', S', hk, hg'⟩
      | goto l => exact ⟨f', S', hk, hg'⟩
      | ret => exact ⟨f', S', hk, hg'⟩
      | panic ch => exact ⟨f', S', hk, hg'⟩
      | outgrown => exact ⟨f', S', hk, hg'⟩))⟩
  | .cond c x y, f, S, K, h => ⟨fun n a w hg => by
      unfold vc at h
      split at h
      · rename_i t ht
        obtain ⟨r, hR, hf, hN, hd⟩ := hg
        have hc := hf.ev c
        rw [ht] at hc
        have hc := den_v hc
        refine wpIn_cond_split hc (fun e => (vc_sound x f S K (h.1 e)).out n a w ⟨r, hR, hf, hN, hd⟩) (fun e => (vc_sound y f S K (h.2 e)).out n a w ⟨r, hR, hf, hN, hd⟩)
      · exact h.elim⟩
  | .block id c, f, S, K, h => ⟨fun n a w hg => wpIn_block (wpIn_mono ((vc_sound c f S _ h).out n a w hg) (fun e a' w' ⟨f', S', hk, hg'⟩ => by
      cases e with
      | exit id' =>
        simp only [Exit.inBlock]
        by_cases hi : id' = id
        · subst hi; simp only [Nat.beq_refl] at hk; rw [if_pos rfl]; exact ⟨f', S', hk, hg'⟩
        · have hb : Nat.beq id' id = false := by
            cases h2 : Nat.beq id' id
            · rfl
            · exact absurd (Nat.eq_of_beq_eq_true h2) hi
          simp only [hb] at hk; rw [if_neg hi]; exact ⟨f', S', hk, hg'⟩
      | normal => exact ⟨f', S', hk, hg'⟩
      | goto l => exact ⟨f', S', hk, hg'⟩
      | ret => exact ⟨f', S', hk, hg'⟩
      | panic ch => exact ⟨f', S', hk, hg'⟩
      | outgrown => exact ⟨f', S', hk, hg'⟩))⟩
  | .loop c, f, S, K, h => ⟨fun nn a w hg => by
      obtain ⟨α, T, U, m, ⟨x0, h0⟩, hround⟩ := h
      intro b k cs hro hb hr
      have key : ∀ (n : Nat) (x : α), m x = n → ∀ a w, Good w0 G N (T x) (U x) a w → ∃ e a' w', PostK w0 G N K e a' w' ∧ ArrivesIn (Machine.fenced P (fenceR ro)) P (lone (b.atR a (.code c :: .inLoop c :: k)) cs w) b k cs e a' w' := by
        intro n
        induction n using Nat.strongRecOn with
        | _ n ih =>
          intro x hx a w hg
          obtain ⟨e, a', w', ⟨f', S', hk, hg'⟩, harr⟩ := (vc_sound c (T x) (U x) _ (hround x)).out nn a w hg b (.inLoop c :: k) cs hro hb hr
          cases e with
          | normal =>
            obtain ⟨y, hent, hlt⟩ := hk
            obtain ⟨e2, a2, w2, hq2, harr2⟩ := ih (m y) (by omega) y rfl a' w' (hent.out a' w' hg')
            exact ⟨e2, a2, w2, hq2, .of_steps (StepsIn.trans harr (.one (fenced_calm hb hr rfl) stepR_inLoop)) harr2⟩
          | exit id => obtain ⟨f2, S2, hent, hk2⟩ := hk; exact ⟨_, a', w', ⟨f2, S2, hk2, hent.out a' w' hg'⟩, .pass (x := .inLoop c) rfl (fun _ _ => .inl (by simp)) harr⟩
          | goto l => obtain ⟨f2, S2, hent, hk2⟩ := hk; exact ⟨_, a', w', ⟨f2, S2, hk2, hent.out a' w' hg'⟩, .pass (x := .inLoop c) rfl (fun _ _ => .inl (by simp)) harr⟩
          | ret => obtain ⟨f2, S2, hent, hk2⟩ := hk; exact ⟨_, a', w', ⟨f2, S2, hk2, hent.out a' w' hg'⟩, .pass (x := .inLoop c) rfl (fun _ _ => .inl (by simp)) harr⟩
          | panic ch => obtain ⟨f2, S2, hent, hk2⟩ := hk; exact ⟨_, a', w', ⟨f2, S2, hk2, hent.out a' w' hg'⟩, .pass (x := .inLoop c) rfl (fun _ _ => .inl (by simp)) harr⟩
          | outgrown => obtain ⟨f2, S2, hent, hk2⟩ := hk; exact ⟨_, a', w', ⟨f2, S2, hk2, hent.out a' w' hg'⟩, .pass (x := .inLoop c) rfl (fun _ _ => .inl (by simp)) harr⟩
      obtain ⟨e, a', w', hq, harr⟩ := key _ x0 rfl a w (h0.out a w hg)
      exact ⟨e, a', w', hq, .of_steps (.one (fenced_calm hb hr rfl) stepR_loop) harr⟩⟩
  | .exit id, f, S, K, h => ⟨fun n a w hg => wpIn_exit ⟨f, S, h, hg⟩⟩
  | .ret, f, S, K, h => ⟨fun n a w hg => wpIn_ret ⟨f, S, h, hg⟩⟩
  | .rangeFunc _ _ _ _, f, S, K, h => h
  | .scope _, f, S, K, h => h
  | .label _, f, S, K, h => h
  | .goto _, f, S, K, h => h
  | .refuse _, f, S, K, h => h
end
end Go.Proofs.Ytmjfgnnefcimiaa
