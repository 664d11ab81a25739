/- In the result of Fold no operation is left that could be evaluated by known values: for every input, without any condition. -/
import Derived.Test.YtmjfgnnefcimiaaK1
import Derived.Test.YtmjfgnnefcimiaaK12
import Derived.Test.YtmjfgnnefcimiaaK13
import Derived.Test.YtmjfgnnefcimiaaK14
import Derived.Test.YtmjfgnnefcimiaaK15
import Derived.Test.YtmjfgnnefcimiaaK16
import Derived.Test.YtmjfgnnefcimiaaK17
import Derived.Test.YtmjfgnnefcimiaaK18
import Derived.Test.YtmjfgnnefcimiaaK19
import Derived.Test.YtmjfgnnefcimiaaK20
import Derived.Test.YtmjfgnnefcimiaaK21
import Derived.Test.YtmjfgnnefcimiaaK22
import Derived.Test.YtmjfgnnefcimiaaK23
import Derived.Test.YtmjfgnnefcimiaaK24
import Derived.Test.YtmjfgnnefcimiaaK26
import Derived.Test.YtmjfgnnefcimiaaK27
import Derived.Test.YtmjfgnnefcimiaaK28
import Derived.Test.YtmjfgnnefcimiaaK29
import Derived.Test.YtmjfgnnefcimiaaK3
import Derived.Test.YtmjfgnnefcimiaaK5
import Derived.Test.YtmjfgnnefcimiaaK6
namespace Go.Proofs.Ytmjfgnnefcimiaa
open Go.RowKit

section
variable {w0 : World} {S : List Ow} {K : AV → List Ow → Prop} {b : Blk} {A1 A2 A3 : Option Addr} {n1 n2 n3 c1 c2 c3 : Nat}
/-- A pass over a block in plain memory. -/
theorem call_pass_pl {P : Program} {fid : FuncId} {F : Blk → List BOp} (hp : Pass P fid F) (hok : fnOk P fid = true) (hb : b.ok) (h0 : b.ops = [] → F b = []) (hn1 : b.at_.length = n1) (hn2 : b.pages.length = n2) (hn3 : b.ops.length = n3)
    (h1 : SlAt w0 w0.heap.size A1 (b.at_.map (.int .u32))) (h2 : SlAt w0 w0.heap.size A2 (b.pages.map (.int .i64))) (h3 : OpsAt w0 w0.heap.size A3 b.ops) (hc3 : n3 ≤ c3) (hm3 : c3 ≤ maxLen)
    (hK : K (.p (.agg [.v (.slice A1 n1 c1), .v (.slice A2 n2 c2), .row S.length])) (S ++ [.view viewT (F b).length ((F b).flatMap opC)])) :
    CallS P w0 Gs.nil fid [.p (.agg [.v (.slice A1 n1 c1), .v (.slice A2 n2 c2), .v (.slice A3 n3 c3)])] S K := by
  subst hn1; subst hn2; subst hn3
  refine ⟨hok, fun r w us hR hd => ?_⟩
  obtain ⟨u1, l1, rfl, d1, d2⟩ := hd
  obtain rfl : l1 = [] := d2
  obtain rfl := AV.val_den (x := .agg #[.slice A1 b.at_.length c1, .slice A2 b.pages.length c2, .slice A3 b.ops.length c3]) rfl d1
  refine (hp b A1 A2 A3 c1 c2 c3 w hb (sl_later h1 hR.toBelow) (sl_later h2 hR.toBelow) (sl_later h3 hR.toBelow) hc3 hm3).mono fun e w' ⟨A', c', he, ho, k1, k2, k3, hB⟩ => ?_
  refine ⟨.p (.agg [.v (.slice A1 b.at_.length c1), .v (.slice A2 b.pages.length c2), .row S.length]), _, _, r.set S.length none (some (.slice A' (F b).length c')), he, ⟨[.slice A1 b.at_.length c1, .slice A2 b.pages.length c2, .slice A' (F b).length c'], rfl, ?_⟩,
    hR.snoc (o := .view viewT (F b).length ((F b).flatMap opC)) hB (b := none) nofun ⟨A', c', by simp [Env.set], k1, ⟨k2, trivial⟩, by simp [Env.set], fun j u hj => ?_⟩, hR.le_new _ _, hK⟩
  · simp only [denL, CV.den]
    exact ⟨_, _, rfl, rfl, _, _, rfl, rfl, _, _, rfl, by simp [Env.set], rfl⟩
  · obtain ⟨b', off, e4, e5, e6⟩ := ho j u hj
    refine ⟨b', off, e4, e5, fun q hq => ?_, e6⟩
    simp only [Env.set] at hq
    split at hq
    · cases hq
    · rcases k3 with k3 | rfl
      · have := k3 b' off none e4
        have := (hR.new q b' hq).1
        omega
      · have hpos : 0 < b.ops.length := by
          rcases Nat.eq_zero_or_pos b.ops.length with h | h
          · rw [h0 (List.eq_nil_of_length_eq_zero h)] at hj; simp at hj
          · exact h
        have h5 := ops_lt (e4 ▸ h3) hpos
        exact absurd ((hR.new q b' hq).2 h5) (by simp)
/-- A call whose argument is a block with its operations in a view. -/
theorem call_blkV {fid : FuncId} (i : Nat) {φ : Option Addr → Prop} {n : Nat} {xs : List Value} {x : Value} {s1 s2 : Value} (hi : S[i]? = some (.view φ n xs)) (hok : fnOk Try.prog fid = true)
    (h : ∀ r w A c, Rel w0 Gs.nil S r w → SlAt w w.heap.size A xs → n ≤ c → c ≤ maxLen → Calls Try.prog fid #[.agg #[s1, s2, .slice A n c]] w fun e w' => e = .returned x ∧ Below w.heap.size w w') (hK : K (AV.of x) S) :
    CallS Try.prog w0 Gs.nil fid [.p (.agg [.v s1, .v s2, .row i])] S K := by
  refine callS_val x hok (fun r w us hR hd => ?_) hK
  obtain ⟨u1, l1, rfl, d1, d2⟩ := hd
  obtain rfl : l1 = [] := d2
  obtain ⟨us, rfl, hl'⟩ := den_agg d1
  simp only [denL, CV.den] at hl'
  obtain ⟨u1, l1, rfl, rfl, u2, l2, rfl, rfl, u3, l3, rfl, e3, rfl⟩ := hl'
  obtain ⟨A, c, rfl, s, k1, k2, _⟩ := viewAt hR hi e3
  exact h r w A c hR s k1 k2
theorem call_blkV2 {fid : FuncId} (i : Nat) {φ : Option Addr → Prop} {n : Nat} {xs : List Value} {x : Value} {s1 s2 t1 t2 t3 : Value} (hi : S[i]? = some (.view φ n xs)) (hok : fnOk Try.prog fid = true)
    (h : ∀ r w A c, Rel w0 Gs.nil S r w → SlAt w w.heap.size A xs → n ≤ c → c ≤ maxLen → Calls Try.prog fid #[.agg #[t1, t2, t3], .agg #[s1, s2, .slice A n c]] w fun e w' => e = .returned x ∧ Below w.heap.size w w') (hK : K (AV.of x) S) :
    CallS Try.prog w0 Gs.nil fid [.p (.agg [.v t1, .v t2, .v t3]), .p (.agg [.v s1, .v s2, .row i])] S K := by
  refine callS_val x hok (fun r w us hR hd => ?_) hK
  obtain ⟨u1, l1, rfl, d1, u2, l2, rfl, d2, d3⟩ := hd
  obtain rfl : l2 = [] := d3
  obtain rfl := AV.val_den (x := .agg #[t1, t2, t3]) rfl d1
  obtain ⟨us, rfl, hl'⟩ := den_agg d2
  simp only [denL, CV.den] at hl'
  obtain ⟨u1, l1, rfl, rfl, u2, l2, rfl, rfl, u3, l3, rfl, e3, rfl⟩ := hl'
  obtain ⟨A, c, rfl, s, k1, k2, _⟩ := viewAt hR hi e3
  exact h r w A c hR s k1 k2
end
theorem sameB_self (b : Blk) : sameB b b = true := by simp [sameB]
end Go.Proofs.Ytmjfgnnefcimiaa
namespace Go.Proofs.Ytmjfgnnefcimiaa
open Go.RowKit

/-- The known value of a variable behind these operations, the last first. -/
def knownR : List BOp → Int → Option Int
  | [], _ => none
  | o :: r, v => if o.code == 20 && decide (20 ≤ v) then none else if writes o == v then (if o.code == 1 then some o.n else none) else knownR r v
/-- Whether an operation could be evaluated. -/
def evalB (r : List BOp) (o : BOp) : Bool := decide (0 < (reads o).length) && (reads o).all (fun v => (knownR r v).isSome) && (o.code == 2 || (decide (3 ≤ o.code) && decide (o.code ≤ 15)) || o.code == 23 || o.code == 25 || (o.code == 21 && (knownR r o.a).getD 0 != 0))
def foldedR : List BOp → List BOp → Bool
  | _, [] => true
  | r, o :: l => !evalB r o && foldedR (o :: r) l
def foldedL (l : List BOp) : Bool := foldedR [] l
/-- The map says what is known. -/
def KnownIs (f : Int → Option Int) (r : List BOp) : Prop := ∀ v : Int, 0 ≤ v → v < 28 → f v = knownR r v
theorem known_nil : KnownIs noneF [] := fun _ _ _ => rfl
theorem known_upd {f : Int → Option Int} {r : List BOp} (h : KnownIs f r) {p : BOp} (hp : p.code ≠ 20) (hd : p.code = 1 → 0 ≤ p.d) : KnownIs (foldUpd f p) (p :: r) := by
  intro v v0 v1
  have h20 : (p.code == 20) = false := by simp [hp]
  show _ = if _ then _ else _
  rw [h20, Bool.false_and, if_neg (by decide)]
  unfold foldUpd
  by_cases h1 : p.code = 1
  · have e1 : (p.code == 1) = true := by simp [h1]
    have hw : writes p = p.d := by unfold writes; rw [h1]; rfl
    have := hd h1
    rw [if_pos e1, if_pos e1, if_pos (by omega)]
    unfold mput mdel
    by_cases hv : v = writes p
    · rw [if_pos hv, if_pos (by simp [hv])]
    · rw [if_neg hv, if_neg hv, if_neg (by simpa using (fun e => hv e.symm))]
      exact h v v0 v1
  · have e1 : (p.code == 1) = false := by simp [h1]
    have n1 : ¬ (p.code == 1) = true := by simp [h1]
    rw [if_neg n1, if_neg n1]
    by_cases hw : 0 ≤ writes p
    · rw [if_pos hw]
      unfold mdel
      by_cases hv : v = writes p
      · rw [if_pos hv, if_pos (show (writes p == v) = true by simp [hv])]
      · rw [if_neg hv, if_neg (show ¬ (writes p == v) = true by simpa using (fun e => hv e.symm))]
        exact h v v0 v1
    · rw [if_neg hw, if_neg (show ¬ (writes p == v) = true by simp; omega)]
      exact h v v0 v1
theorem known_mark {f : Int → Option Int} {r : List BOp} (h : KnownIs f r) {o : BOp} (ho : o.code = 20) : KnownIs (foldMark f o) (o :: r) := by
  intro v v0 v1
  have h20 : (o.code == 20) = true := by simp [ho]
  have hw : writes o = -1 := by unfold writes; rw [ho]; rfl
  show _ = if _ then _ else _
  unfold foldMark
  rw [if_pos h20, h20, Bool.true_and]
  unfold fdel
  by_cases hv : 20 ≤ v
  · rw [if_pos ⟨hv, by omega⟩, if_pos (by simpa using hv)]
  · rw [if_neg (by omega), if_neg (by simpa using hv), if_neg (by rw [hw]; simp; omega)]
    exact h v v0 v1
theorem foldB_mark (f : Int → Option Int) {o : BOp} (ho : o.code = 20) : foldB f o = (o, true) := by
  unfold foldB
  have hb : isBin o.code = false := by rw [ho]; rfl
  have hm : memI o.code [3, 4, 6, 7, 8, 9, 10] = false := by rw [ho]; rfl
  rw [hb, hm, ho]
  simp
theorem foldMark_not (f : Int → Option Int) {o : BOp} (ho : o.code ≠ 20) : foldMark f o = f := by unfold foldMark; rw [if_neg (by simpa using ho)]
/-- What replaces an operation cannot be evaluated. -/
theorem foldB_not {f : Int → Option Int} {r : List BOp} (h : KnownIs f r) {o : BOp} (hf : formedB o = true) : evalB r (foldB f o).1 = false ∨ (foldB f o).2 = false := by
  have hk : ∀ v ∈ reads o, f v = knownR r v := fun v hv => h v (reads_var hf v hv).1 (reads_var hf v hv).2
  have hA : hasA o.code = true → o.a ∈ reads o := fun hA => by unfold reads; rw [hA]; simp
  have hnil : ∀ p : BOp, reads p = [] → evalB r p = false := fun p hp => by unfold evalB; rw [hp]; simp
  have hone : ∀ p : BOp, ∀ v, v ∈ reads p → (knownR r v).isSome = false → evalB r p = false := fun p v hv hn => by
    unfold evalB
    have : (reads p).all (fun v => (knownR r v).isSome) = false := by
      rw [List.all_eq_false]
      exact ⟨v, hv, by rw [hn]; decide⟩
    rw [this]; simp
  unfold foldB
  by_cases c1 : (o.code == 2 && (f o.a).isSome) = true
  · rw [if_pos c1]; exact .inl (hnil _ rfl)
  rw [if_neg c1]
  by_cases c2 : (isBin o.code && (f o.a).isSome && (f o.b).isSome) = true
  · rw [if_pos c2]; exact .inl (hnil _ rfl)
  rw [if_neg c2]
  by_cases c3 : ((f o.b).isSome && (f o.b).getD 0 == 0 && memI o.code [3, 4, 6, 7, 8, 9, 10]) = true
  · rw [if_pos c3]
    left
    simp only [Bool.and_eq_true] at c3
    have hm := c3.2
    simp only [memI, List.any_cons, List.any_nil, Bool.or_false, Bool.or_eq_true, beq_iff_eq] at hm
    have hbin : isBin o.code = true := by unfold isBin; rw [decide_eq_true_eq]; omega
    have hA' : hasA o.code = true := by unfold hasA; rw [decide_eq_true_eq]; omega
    refine hone ⟨2, o.d, o.a, 0, 0⟩ o.a (by show o.a ∈ [o.a]; simp) ?_
    rw [← hk o.a (hA hA')]
    rw [hbin, c3.1.1] at c2
    simpa using c2
  rw [if_neg c3]
  by_cases c4 : (o.code == 21 && (f o.a).isSome && (f o.a).getD 0 != 0) = true
  · rw [if_pos c4]; exact .inr rfl
  rw [if_neg c4]
  by_cases c5 : (o.code == 23 && (f o.a).isSome) = true
  · rw [if_pos c5]; exact .inl (hnil _ rfl)
  rw [if_neg c5]
  by_cases c6 : (o.code == 25 && (f o.a).isSome) = true
  · rw [if_pos c6]; exact .inl (hnil _ rfl)
  rw [if_neg c6]
  left
  by_cases e2 : o.code = 2
  · refine hone o o.a (hA (by rw [e2]; rfl)) ?_
    rw [← hk o.a (hA (by rw [e2]; rfl))]
    rw [e2] at c1; simpa using c1
  by_cases e3 : 3 ≤ o.code ∧ o.code ≤ 15
  · have hbin : isBin o.code = true := by unfold isBin; rw [decide_eq_true_eq]; omega
    have hA' : hasA o.code = true := by unfold hasA; rw [decide_eq_true_eq]; omega
    have hB' : hasB o.code = true := by unfold hasB; rw [decide_eq_true_eq]; omega
    rw [hbin, Bool.true_and] at c2
    by_cases hfa : (f o.a).isSome = true
    · rw [hfa, Bool.true_and] at c2
      have hb : o.b ∈ reads o := by
        unfold reads
        rw [hA', hB']
        by_cases hba : o.b = o.a
        · rw [hba]; simp
        · have : (o.b == o.a) = false := by simp [hba]
          rw [this]; simp
      refine hone o o.b hb ?_
      rw [← hk o.b hb]; simpa using c2
    · refine hone o o.a (hA hA') ?_
      rw [← hk o.a (hA hA')]; simpa using hfa
  by_cases e23 : o.code = 23
  · refine hone o o.a (hA (by rw [e23]; rfl)) ?_
    rw [← hk o.a (hA (by rw [e23]; rfl))]
    rw [e23] at c5; simpa using c5
  by_cases e25 : o.code = 25
  · refine hone o o.a (hA (by rw [e25]; rfl)) ?_
    rw [← hk o.a (hA (by rw [e25]; rfl))]
    rw [e25] at c6; simpa using c6
  unfold evalB
  have f2 : (o.code == 2) = false := by simp [e2]
  have f3 : (decide (3 ≤ o.code) && decide (o.code ≤ 15)) = false := by
    rw [Bool.and_eq_false_iff, decide_eq_false_iff_not, decide_eq_false_iff_not]; omega
  have f23 : (o.code == 23) = false := by simp [e23]
  have f25 : (o.code == 25) = false := by simp [e25]
  rw [f2, f3, f23, f25]
  simp only [Bool.false_or]
  by_cases e21 : o.code = 21
  · have hA' : hasA o.code = true := by rw [e21]; rfl
    have ha := hA hA'
    by_cases hfa : (f o.a).isSome = true
    · have : ((f o.a).getD 0 != 0) = false := by
        rw [e21, hfa] at c4
        simpa using c4
      rw [← hk o.a ha, this]; simp
    · exact (by
        have hz : (reads o).all (fun v => (knownR r v).isSome) = false := by
          rw [List.all_eq_false]
          exact ⟨o.a, ha, by rw [← hk o.a ha]; exact hfa⟩
        rw [hz]; simp)
  · have : (o.code == 21) = false := by simp [e21]
    rw [this]; simp
theorem foldB_code {f : Int → Option Int} {o : BOp} (hf : formedB o = true) (hk : (foldB f o).2 = true) (ho : o.code ≠ 20) : (foldB f o).1.code ≠ 20 ∧ ((foldB f o).1.code = 1 → 0 ≤ (foldB f o).1.d) := by
  have hd : hasD o.code = true → 0 ≤ o.d := fun hD => by
    unfold formedB at hf
    simp only [Bool.and_eq_true] at hf
    have := hf.1.1.1.2
    rw [hD] at this
    unfold fieldB at this
    rw [if_pos rfl, decide_eq_true_eq] at this
    exact this.1
  unfold foldB at hk ⊢
  by_cases c1 : (o.code == 2 && (f o.a).isSome) = true
  · rw [if_pos c1]
    simp only [Bool.and_eq_true, beq_iff_eq] at c1
    exact ⟨by dsimp only; omega, fun _ => hd (by rw [c1.1]; rfl)⟩
  rw [if_neg c1] at hk ⊢
  by_cases c2 : (isBin o.code && (f o.a).isSome && (f o.b).isSome) = true
  · rw [if_pos c2]
    simp only [Bool.and_eq_true] at c2
    have hb := c2.1.1
    unfold isBin at hb
    rw [decide_eq_true_eq] at hb
    exact ⟨by dsimp only; omega, fun _ => hd (by unfold hasD; rw [decide_eq_true_eq]; omega)⟩
  rw [if_neg c2] at hk ⊢
  split at hk
  · rename_i c3
    rw [if_pos c3]; exact ⟨by dsimp only; omega, fun h => by dsimp only at h; omega⟩
  rename_i c3
  rw [if_neg c3]
  split at hk
  · cases hk
  rename_i c4
  rw [if_neg c4]
  split at hk
  · rename_i c5
    rw [if_pos c5]; exact ⟨by dsimp only; omega, fun h => by dsimp only at h; omega⟩
  rename_i c5
  rw [if_neg c5]
  split at hk
  · rename_i c6
    rw [if_pos c6]; exact ⟨by dsimp only; omega, fun h => by dsimp only at h; omega⟩
  rename_i c6
  rw [if_neg c6]
  exact ⟨ho, fun h => hd (by dsimp only at h; rw [h]; rfl)⟩
theorem foldRun_folded : ∀ (l : List BOp) (f : Int → Option Int) (r : List BOp), (∀ o ∈ l, formedB o = true) → KnownIs f r → foldedR r (foldRun f l) = true
  | [], f, r, _, _ => rfl
  | o :: l, f, r, hl, h => by
    have hf := hl o (by simp)
    have hl' : ∀ p ∈ l, formedB p = true := fun p hp => hl p (by simp [hp])
    unfold foldRun
    by_cases ho : o.code = 20
    · have hkm := known_mark h ho
      rw [foldB_mark _ ho]
      dsimp only
      rw [if_pos rfl, if_neg (by rw [ho]; decide)]
      show (!evalB r o && foldedR (o :: r) _) = true
      have he : evalB r o = false := by unfold evalB reads; rw [ho]; rfl
      rw [he]
      have hu : foldUpd (foldMark f o) o = foldMark f o := by
        unfold foldUpd
        have hw : writes o = -1 := by unfold writes; rw [ho]; rfl
        rw [if_neg (by rw [ho]; decide), if_neg (by omega)]
      rw [hu]
      exact foldRun_folded l _ (o :: r) hl' hkm
    · rw [foldMark_not f ho]
      by_cases hk : (foldB f o).2 = true
      · rw [if_pos hk]
        have hn : evalB r (foldB f o).1 = false := by
          rcases foldB_not h hf with h1 | h1
          · exact h1
          · rw [hk] at h1; cases h1
        obtain ⟨hc1, hc2⟩ := foldB_code (f := f) hf hk ho
        show (!evalB r (foldB f o).1 && foldedR _ _) = true
        rw [hn]
        by_cases hx : ((foldB f o).1.code == 24) = true
        · rw [if_pos hx]; rfl
        · rw [if_neg hx]
          exact foldRun_folded l _ _ hl' (known_upd h hc1 hc2)
      · rw [if_neg hk]
        exact foldRun_folded l f r hl' h
/-- In the result of Fold nothing is left that could be evaluated. -/
theorem fold_law {b : Blk} (hv : validB b = true) : foldedL (foldAll b) = true := by
  unfold foldAll
  rw [if_pos hv]
  exact foldRun_folded b.ops noneF [] (valid_formed hv) known_nil
theorem foldRun_code : ∀ (l : List BOp) (f : Int → Option Int), (∀ o ∈ l, formedB o = true) → ∀ p ∈ foldRun f l, 1 ≤ p.code ∧ p.code ≤ 25
  | [], f, _, p, hp => by cases hp
  | o :: l, f, hl, p, hp => by
    have hf := hl o (by simp)
    have hl' : ∀ p ∈ l, formedB p = true := fun p hp => hl p (by simp [hp])
    have ho : 1 ≤ o.code ∧ o.code ≤ 25 := by
      unfold formedB at hf
      simp only [Bool.and_eq_true] at hf
      have := hf.1.1.1.1
      unfold isOp at this
      rwa [decide_eq_true_eq] at this
    have hc : (foldB (foldMark f o) o).2 = true → 1 ≤ (foldB (foldMark f o) o).1.code ∧ (foldB (foldMark f o) o).1.code ≤ 25 := fun hk => by
      unfold foldB at hk ⊢
      split at hk
      · rename_i c; rw [if_pos c]; dsimp only; omega
      rename_i c; rw [if_neg c]
      split at hk
      · rename_i c; rw [if_pos c]; dsimp only; omega
      rename_i c; rw [if_neg c]
      split at hk
      · rename_i c; rw [if_pos c]; dsimp only; omega
      rename_i c; rw [if_neg c]
      split at hk
      · cases hk
      rename_i c; rw [if_neg c]
      split at hk
      · rename_i c; rw [if_pos c]; dsimp only; omega
      rename_i c; rw [if_neg c]
      split at hk
      · rename_i c; rw [if_pos c]; dsimp only; omega
      rename_i c; rw [if_neg c]
      exact ho
    unfold foldRun at hp
    split at hp
    · rename_i hk
      rcases List.mem_cons.1 hp with rfl | hp
      · exact hc hk
      · split at hp
        · cases hp
        · exact foldRun_code l _ hl' p hp
    · exact foldRun_code l _ hl' p hp
theorem fold_codes {b : Blk} (hv : validB b = true) : ∀ p ∈ foldAll b, 1 ≤ p.code ∧ p.code ≤ 25 := by
  unfold foldAll
  rw [if_pos hv]
  exact foldRun_code b.ops noneF (valid_formed hv)
end Go.Proofs.Ytmjfgnnefcimiaa
namespace Go.Proofs.Ytmjfgnnefcimiaa
open Go.RowKit

theorem temporary_ref (v : Int) (w : World) : Calls Try.prog 84 #[.int .i64 v] w fun e w' => e = .returned (.bool (decide (20 ≤ v))) ∧ Below w.heap.size w w' := by
  refine calls_val [.int .i64 v] Try.func84 Try.ntmps84 rfl (by simp) ?_
  conv => whnf
  exact fin_val rfl fun w' hB => ⟨rfl, hB⟩
theorem take_rev {l : List BOp} {k : Nat} {o : BOp} (h : l[k]? = some o) : (l.take (k + 1)).reverse = o :: (l.take k).reverse := by rw [take_succ_of h, List.reverse_append]; rfl
def knownV (k : Option Int) : Value := .agg #[.int .u32 (k.getD 0), .bool k.isSome]
set_option maxRecDepth 100000 in
theorem knownAt_walk (l : List BOp) (A1 A2 A3 : Option Addr) (n1 n2 c1 c2 c3 i : Nat) (v : Int) (w : World) (h3 : OpsAt w w.heap.size A3 l) (hl : l.length ≤ 1000000) (hi : i ≤ l.length) :
    Calls Try.prog 56 #[.agg #[.slice A1 n1 c1, .slice A2 n2 c2, .slice A3 l.length c3], .int .i64 (i : Int), .int .i64 v] w fun e w' => e = .returned (knownV (knownR (l.take i).reverse v)) ∧ Below w.heap.size w w' := by
  refine calls_val [.agg #[.slice A1 n1 c1, .slice A2 n2 c2, .slice A3 l.length c3], .int .i64 (i : Int), .int .i64 v] Try.func56 Try.ntmps56 rfl (by simp) ?_
  conv => whnf
  refine ⟨_, wr64 (by omega), ?_⟩
  conv => whnf
  refine ⟨{ m : Nat // m ≤ i ∧ knownR (l.take i).reverse v = knownR (l.take m).reverse v }, fun x => [(2, one (.int .i64 v)), (3, .p (.c (.ref 0 0))), (6, .p (.c (.ref 1 0))), (7, one (.int .i64 ((x.1 : Int) - 1)))], fun x => [.cells 32 [.v (.slice A1 n1 c1), .v (.slice A2 n2 c2), .v (.slice A3 l.length c3)], .cells 80 [.v (.int .u32 0), .v (.bool false)]], fun x => x.1,
    ⟨⟨i, Nat.le_refl _, rfl⟩, ent_same rfl (aI rfl (aI rfl (aI rfl (aI rfl trivial)))) (aI ((aI rfl (Or.inl rfl))) (aI ((aI rfl (Or.inl rfl))) trivial))⟩, fun x => ?_⟩
  obtain ⟨m, hm, hml⟩ := x
  dsimp only
  conv => whnf
  refine ⟨fun hc => ?_, fun hc => ?_⟩
  · have hpos : 0 < m := by simp at hc; omega
    obtain ⟨k, rfl⟩ : ∃ k, m = k + 1 := ⟨m - 1, by omega⟩
    rw [show (((k + 1 : Nat) : Int) - 1) = (k : Int) by omega]
    obtain ⟨o, ho⟩ : ∃ o, l[k]? = some o := ⟨_, List.getElem?_eq_getElem (by omega)⟩
    rw [take_rev ho] at hml
    have hstep : knownR (o :: (l.take k).reverse) v = if (o.code == 20 && decide (20 ≤ v)) = true then none else if (writes o == v) = true then (if (o.code == 1) = true then some o.n else none) else knownR (l.take k).reverse v := rfl
    obtain ⟨bb, off, rfl⟩ := ops_addr h3 (by omega)
    conv => whnf
    refine ⟨⟨by omega, by omega⟩, ?_⟩
    conv => whnf
    refine ⟨opC o, cells_op h3 (by simp) ho, rfl, ?_⟩
    conv => whnf
    refine ⟨decide (20 ≤ v), fun _ => ?_, ?_⟩
    · conv => whnf
      refine call_con rfl (by kernel_rfl) (fun r w' hR => temporary_ref v w') ?_
      conv => whnf
      exact ⟨rfl, rfl, rfl, rfl, rfl⟩
    conv => whnf
    refine ⟨fun h1 => ?_, fun h1 => ?_⟩
    · conv => whnf
      refine ⟨_, _, ent_refl, ?_⟩
      conv => whnf
      exact fin_val rfl fun w' hB => ⟨by rw [hml, hstep, if_pos (show (o.code == 20 && decide (20 ≤ v)) = true from h1)]; rfl, hB⟩
    rw [if_neg (show ¬ (o.code == 20 && decide (20 ≤ v)) = true by rw [show (o.code == 20 && decide (20 ≤ v)) = false from h1]; decide)] at hstep
    conv => whnf
    refine call_con rfl (by kernel_rfl) (fun r w' hR => writes_ref o w') ?_
    conv => whnf
    refine ⟨fun h2 => ?_, fun h2 => ?_⟩
    · rw [if_pos h2] at hstep
      conv => whnf
      refine ⟨fun h4 => ?_, fun h4 => ?_⟩
      · conv => whnf
        refine ⟨_, _, ent_refl, ?_⟩
        conv => whnf
        exact fin_val rfl fun w' hB => ⟨by rw [hml, hstep, if_pos h4]; rfl, hB⟩
      · conv => whnf
        refine ⟨_, _, ent_refl, ?_⟩
        conv => whnf
        exact fin_val rfl fun w' hB => ⟨by rw [hml, hstep, if_neg (by rw [h4]; decide)]; rfl, hB⟩
    rw [if_neg (by rw [h2]; decide)] at hstep
    conv => whnf
    refine ⟨_, wr64 (by omega), ?_⟩
    conv => whnf
    exact ⟨⟨k, by omega, by rw [hml, hstep]⟩, ent_drop (aI rfl (aI rfl (aI rfl (aI rfl trivial)))) (aI ((aI rfl (Or.inl rfl))) (aI ((aI rfl (Or.inl rfl))) trivial)) rfl rfl, by show k < k + 1; omega⟩
  · have hm0 : m = 0 := by simp at hc; omega
    subst hm0
    conv => whnf
    refine ⟨_, _, ent_refl, ?_⟩
    conv => whnf
    exact fin_val rfl fun w' hB => ⟨by rw [hml]; rfl, hB⟩
/-- The codes of operations that are evaluated. -/
def evC (c : Int) (n : Int) : Bool := c == 2 || (decide (3 ≤ c) && decide (c ≤ 15)) || c == 23 || c == 25 || (c == 21 && n != 0)
theorem code_cases {c : Int} (h : 1 ≤ c ∧ c ≤ 25) : c = 1 ∨ c = 2 ∨ c = 3 ∨ c = 4 ∨ c = 5 ∨ c = 6 ∨ c = 7 ∨ c = 8 ∨ c = 9 ∨ c = 10 ∨ c = 11 ∨ c = 12 ∨ c = 13 ∨ c = 14 ∨ c = 15 ∨ c = 16 ∨ c = 17 ∨ c = 18 ∨ c = 19 ∨ c = 20 ∨ c = 21 ∨ c = 22 ∨ c = 23 ∨ c = 24 ∨ c = 25 := by omega
theorem foldedR_at : ∀ (l pre : List BOp) (i : Nat) {o : BOp}, l[i]? = some o → foldedR ((l.take i).reverse ++ pre) (l.drop i) = (!evalB ((l.take i).reverse ++ pre) o && foldedR ((l.take (i + 1)).reverse ++ pre) (l.drop (i + 1)))
  | [], pre, i, o, h => by simp at h
  | x :: l, pre, 0, o, h => by simp at h; subst h; rfl
  | x :: l, pre, i + 1, o, h => by
    have := foldedR_at l (x :: pre) i (o := o) (by simpa using h)
    simpa using this
set_option maxRecDepth 100000 in
theorem folded_walk (l : List BOp) (A1 A2 A3 : Option Addr) (n1 n2 c1 c2 c3 : Nat) (w : World) (h3 : OpsAt w w.heap.size A3 l) (hl : l.length ≤ 1000000) (hcode : ∀ o ∈ l, 1 ≤ o.code ∧ o.code ≤ 25) :
    Calls Try.prog 24 #[.agg #[.slice A1 n1 c1, .slice A2 n2 c2, .slice A3 l.length c3]] w fun e w' => e = .returned (.bool (foldedL l)) ∧ Below w.heap.size w w' := by
  refine calls_satq [.agg #[.slice A1 n1 c1, .slice A2 n2 c2, .slice A3 l.length c3]] Try.func24 Try.ntmps24 rfl (by simp) ?_
  refine satq_seq ?_
  conv => whnf
  refine satq_in ?_
  refine satq_seq ?_
  conv => whnf
  refine satq_block ?_
  refine satq_loop (α := { j : Nat // j ≤ l.length ∧ foldedL l = foldedR (l.take j).reverse (l.drop j) }) (fun x => [(1, .p (.c (.ref 0 0))), (3, one (.int .i64 (x.1 : Int)))]) (fun x => [.cells 32 [.v (.slice A1 n1 c1), .v (.slice A2 n2 c2), .v (.slice A3 l.length c3)]]) (fun x => l.length - x.1)
    ⟨0, by omega, rfl⟩ (ent_same rfl (aI rfl (aI rfl trivial)) (aI ((aI rfl (Or.inl rfl))) trivial)) fun x => ?_
  obtain ⟨j, hj, hjl⟩ := x
  dsimp only
  refine satq_seq ?_
  conv => whnf
  refine ⟨fun hc => ?_, fun hc => ?_⟩
  · have hlt : j < l.length := by simpa using hc
    obtain ⟨o, ho⟩ : ∃ o, l[j]? = some o := ⟨_, List.getElem?_eq_getElem hlt⟩
    have hstep := foldedR_at l [] j ho
    rw [List.append_nil, List.append_nil] at hstep
    obtain ⟨bb, off, rfl⟩ := ops_addr h3 (by omega)
    have hrl := reads_len o
    have hoc := hcode o (List.mem_of_getElem? ho)
    conv => whnf
    refine satq_mid (α := { u : Unit // evalB (l.take j).reverse o = false }) (fun _ => [(1, .p (.c (.ref 0 0))), (3, one (.int .i64 (j : Int)))]) (fun _ => [.cells 32 [.v (.slice A1 n1 c1), .v (.slice A2 n2 c2), .v (.slice (some ⟨bb, off, none⟩) l.length c3)]]) ?_ fun y => ?_
    · refine satq_block ?_
      refine satq_seq ?_
      conv => whnf
      refine ⟨⟨by omega, by omega⟩, ?_⟩
      conv => whnf
      refine ⟨opC o, cells_op h3 (by simp) ho, rfl, ?_⟩
      conv => whnf
      refine satq_seq ?_
      conv => whnf
      refine call_row rfl (by kernel_rfl) (fun r w' hR => reads_ref o w') ?_
      conv => whnf
      refine satq_seq ?_
      conv => whnf
      refine satq_mid (α := Unit) (fun _ => [(1, .p (.c (.ref 0 0))), (3, one (.int .i64 (j : Int))), (4, .p (.c (.ref 1 0))), (6, one (.bool (decide (0 < (reads o).length) && (reads o).all fun v => (knownR (l.take j).reverse v).isSome)))])
        (fun _ => [.cells 32 [.v (.slice A1 n1 c1), .v (.slice A2 n2 c2), .v (.slice (some ⟨bb, off, none⟩) l.length c3)], .cells 53 ((opC o).map .v)]) ?_ fun _ => ?_
      · refine satq_seq ?_
        conv => whnf
        refine satq_block ?_
        refine satq_loop (α := { k : Nat // k ≤ (reads o).length }) (fun x => [(1, .p (.c (.ref 0 0))), (3, one (.int .i64 (j : Int))), (4, .p (.c (.ref 1 0))), (5, .p (.c (.row 2))), (6, one (.bool (decide (0 < (reads o).length) && ((reads o).take x.1).all fun v => (knownR (l.take j).reverse v).isSome))), (7, one (.int .i64 (x.1 : Int)))])
          (fun x => [.cells 32 [.v (.slice A1 n1 c1), .v (.slice A2 n2 c2), .v (.slice (some ⟨bb, off, none⟩) l.length c3)], .cells 53 ((opC o).map .v), .row 3 1 (reads o).length ((reads o).map (.int .i64))]) (fun x => (reads o).length - x.1)
          ⟨0, by omega⟩ (ent_same rfl (aI rfl (aI rfl (aI rfl (aI rfl (aI ((by show one _ = one _; simp)) (aI rfl trivial)))))) (aI ((aI rfl (Or.inl rfl))) (aI ((aI rfl (Or.inl rfl))) (aI ((aI rfl (aI rfl (aI rfl rfl)))) trivial)))) fun x => ?_
        obtain ⟨k, hk⟩ := x
        dsimp only
        refine satq_seq ?_
        conv => whnf
        refine ⟨fun hc => ?_, fun hc => ?_⟩
        · have hlt2 : k < (reads o).length := by simpa using hc
          obtain ⟨v, hv⟩ : ∃ v, (reads o)[k]? = some v := ⟨_, List.getElem?_eq_getElem hlt2⟩
          conv => whnf
          refine satq_mid (α := Unit) (fun _ => [(1, .p (.c (.ref 0 0))), (3, one (.int .i64 (j : Int))), (4, .p (.c (.ref 1 0))), (5, .p (.c (.row 2))), (6, one (.bool (decide (0 < (reads o).length) && ((reads o).take (k + 1)).all fun v => (knownR (l.take j).reverse v).isSome))), (7, one (.int .i64 (k : Int)))])
            (fun _ => [.cells 32 [.v (.slice A1 n1 c1), .v (.slice A2 n2 c2), .v (.slice (some ⟨bb, off, none⟩) l.length c3)], .cells 53 ((opC o).map .v), .row 3 1 (reads o).length ((reads o).map (.int .i64))]) ?_ fun _ => ?_
          · refine satq_block ?_
            have hnext : (decide (0 < (reads o).length) && ((reads o).take (k + 1)).all fun v => (knownR (l.take j).reverse v).isSome) = ((decide (0 < (reads o).length) && ((reads o).take k).all fun v => (knownR (l.take j).reverse v).isSome) && (knownR (l.take j).reverse v).isSome) := by
              rw [List.take_add_one, hv, List.all_append, ← Bool.and_assoc]; simp
            rw [hnext]
            generalize (decide (0 < (reads o).length) && ((reads o).take k).all fun v => (knownR (l.take j).reverse v).isSome) = x
            refine satq_vc ?_
            refine sat_quiet mixed (by kernel_rfl) ?_
            cases x with
            | true =>
              conv => whnf
              (refine ⟨fun _ => ?_, (fun h => absurd h (by decide))⟩; (conv => whnf))
              (refine ⟨fun _ => ?_, (fun h => absurd h (by decide))⟩; (conv => whnf))
              (refine ⟨fun _ => ?_, (fun h => absurd h (by decide))⟩; (conv => whnf))
              (refine ⟨fun _ => ?_, (fun h => absurd h (by decide))⟩; (conv => whnf))
              (refine ⟨fun _ => ?_, (fun h => absurd h (by decide))⟩; (conv => whnf))
              refine ⟨⟨by omega, by omega⟩, ?_⟩
              conv => whnf
              (refine ⟨fun _ => ?_, (fun h => absurd h (by decide))⟩; (conv => whnf))
              rw [show (List.map CV.v (List.map (Value.int IntKind.i64) (reads o)))[(k : Int).toNat * tsz Try.prog 3]? = some (.v (.int .i64 v)) by
                rw [show (k : Int).toNat * tsz Try.prog 3 = k from (Nat.mul_one _).trans (Int.toNat_natCast k), List.getElem?_map, List.getElem?_map, hv]; rfl]
              conv => whnf
              (refine ⟨fun _ => ?_, (fun h => absurd h (by decide))⟩; (conv => whnf))
              refine q_con (xs := [.agg #[.slice A1 n1 c1, .slice A2 n2 c2, .slice (some ⟨bb, off, none⟩) l.length c3], .int .i64 (j : Int), .int .i64 v]) rfl (by kernel_rfl) (fun r w' hR => knownAt_walk l A1 A2 (some ⟨bb, off, none⟩) n1 n2 c1 c2 c3 j v w' (sl_later h3 hR.toBelow) hl hj) ?_
              conv => whnf
              (refine ⟨fun _ => ?_, (fun h => absurd h (by decide))⟩; (conv => whnf))
              refine atq_block ?_
              exact atq_mid () (ent_same rfl (aI rfl (aI rfl (aI rfl (aI rfl (aI rfl (aI rfl trivial)))))) (aI ((aI rfl (Or.inl rfl))) (aI ((aI rfl (Or.inl rfl))) (aI ((aI rfl (aI rfl (aI rfl rfl)))) trivial))))
            | false =>
              conv => whnf
              (refine ⟨(fun h => absurd h (by decide)), fun _ => ?_⟩; (conv => whnf))
              (refine ⟨(fun h => absurd h (by decide)), fun _ => ?_⟩; (conv => whnf))
              (refine ⟨(fun h => absurd h (by decide)), fun _ => ?_⟩; (conv => whnf))
              (refine ⟨(fun h => absurd h (by decide)), fun _ => ?_⟩; (conv => whnf))
              (refine ⟨(fun h => absurd h (by decide)), fun _ => ?_⟩; (conv => whnf))
              (refine ⟨(fun h => absurd h (by decide)), fun _ => ?_⟩; (conv => whnf))
              (refine ⟨(fun h => absurd h (by decide)), fun _ => ?_⟩; (conv => whnf))
              (refine ⟨(fun h => absurd h (by decide)), fun _ => ?_⟩; (conv => whnf))
              refine atq_block ?_
              exact atq_mid () (ent_same rfl (aI rfl (aI rfl (aI rfl (aI rfl (aI rfl (aI rfl trivial)))))) (aI ((aI rfl (Or.inl rfl))) (aI ((aI rfl (Or.inl rfl))) (aI ((aI rfl (aI rfl (aI rfl rfl)))) trivial))))
          refine satq_vc ?_
          conv => whnf
          refine ⟨_, wr64 (by omega), ?_⟩
          conv => whnf
          exact atq_next ⟨k + 1, by omega⟩ (ent_same rfl (aI rfl (aI rfl (aI rfl (aI rfl (aI rfl (aI rfl trivial)))))) (aI ((aI rfl (Or.inl rfl))) (aI ((aI rfl (Or.inl rfl))) (aI ((aI rfl (aI rfl (aI rfl rfl)))) trivial)))) (by show (reads o).length - (k + 1) < (reads o).length - k; omega)
        · have hke : k = (reads o).length := by simp at hc; omega
          subst hke
          conv => whnf
          refine atq_out (atq_exit ?_)
          exact atq_mid () (ent_drop (aI rfl (aI rfl (aI rfl (aI ((by show one _ = one _; rw [List.take_length])) trivial)))) (aI ((aI rfl (Or.inl rfl))) (aI ((aI rfl (Or.inl rfl))) trivial)) rfl rfl)
      refine satq_seq ?_
      conv => whnf
      refine call_con (xs := [.agg #[.slice A1 n1 c1, .slice A2 n2 c2, .slice (some ⟨bb, off, none⟩) l.length c3], .int .i64 (j : Int), .int .i64 o.a]) rfl (by kernel_rfl) (fun r w' hR => knownAt_walk l A1 A2 (some ⟨bb, off, none⟩) n1 n2 c1 c2 c3 j o.a w' (sl_later h3 hR.toBelow) hl hj) ?_
      conv => whnf
      have hev : evalB (l.take j).reverse o = ((decide (0 < (reads o).length) && (reads o).all fun v => (knownR (l.take j).reverse v).isSome) && evC o.code ((knownR (l.take j).reverse o.a).getD 0)) := rfl
      rw [hev]
      generalize hx : (decide (0 < (reads o).length) && (reads o).all fun v => (knownR (l.take j).reverse v).isSome) = x
      generalize hna : (knownR (l.take j).reverse o.a).getD 0 = na
      rw [hx, hna] at hev
      refine satq_mid (α := Unit) (fun _ => [(1, .p (.c (.ref 0 0))), (3, one (.int .i64 (j : Int))), (83, one (.bool (x && evC o.code na)))]) (fun _ => [.cells 32 [.v (.slice A1 n1 c1), .v (.slice A2 n2 c2), .v (.slice (some ⟨bb, off, none⟩) l.length c3)]]) ?_ fun _ => ?_
      · refine satq_regionU ?_
        cases x with
        | false =>
          conv => whnf
          repeat (refine ⟨(fun h => absurd h (by decide)), fun _ => ?_⟩; (conv => whnf))
          exact atq_mid () (ent_drop (aI rfl (aI rfl (aI rfl trivial))) (aI ((aI rfl (Or.inl rfl))) trivial) rfl rfl)
        | true =>
          clear hev hstep ho hjl hx hna
          obtain ⟨oc, od, oa, ob, on⟩ := o
          dsimp only at hoc ⊢
          rcases code_cases hoc with rfl | rfl | rfl | rfl | rfl | rfl | rfl | rfl | rfl | rfl | rfl | rfl | rfl | rfl | rfl | rfl | rfl | rfl | rfl | rfl | rfl | rfl | rfl | rfl | rfl
          all_goals ((conv => whnf); repeat (first | (refine ⟨fun _ => ?_, (fun h => Bool.noConfusion (show true = false from h))⟩; (conv => whnf)) | (refine ⟨(fun h => Bool.noConfusion (show false = true from h)), fun _ => ?_⟩; (conv => whnf))))
          all_goals exact atq_mid () (ent_drop (aI rfl (aI rfl (aI rfl trivial))) (aI ((aI rfl (Or.inl rfl))) trivial) rfl rfl)
      refine satq_cond rfl (fun h => ?_) (fun h => ?_)
      · refine satq_vc ?_
        conv => whnf
        refine atq_up (atq_ret (R := fun e w' => e = .returned (.bool (foldedL l)) ∧ Below w.heap.size w w') ?_) (by exact fun _ _ h => h)
        conv => whnf
        exact fin_val rfl fun w' hB => ⟨by rw [hjl, hstep, hev, h]; rfl, hB⟩
      · refine satq_skip ?_
        refine atq_block ?_
        exact atq_mid ⟨(), by rw [h]⟩ (ent_same rfl (aI rfl (aI rfl trivial)) (aI ((aI rfl (Or.inl rfl))) trivial))
    refine satq_vc ?_
    conv => whnf
    refine ⟨_, wr64 (by omega), ?_⟩
    conv => whnf
    exact atq_next ⟨j + 1, by omega, by rw [hjl, hstep, y.2]; rfl⟩ (ent_same rfl (aI rfl (aI rfl trivial)) (aI ((aI rfl (Or.inl rfl))) trivial)) (by show l.length - (j + 1) < l.length - j; omega)
  · have hje : j = l.length := by simp at hc; omega
    subst hje
    rw [List.drop_length] at hjl
    conv => whnf
    refine atq_out (atq_exit (atq_on ?_))
    refine satq_vc ?_
    conv => whnf
    refine atq_ret ?_
    conv => whnf
    exact fin_val rfl fun w' hB => ⟨by rw [hjl]; rfl, hB⟩
end Go.Proofs.Ytmjfgnnefcimiaa
namespace Go.Proofs.Ytmjfgnnefcimiaa
open Go.RowKit

set_option maxRecDepth 100000 in
theorem folded_law (A : Option Addr) (n c : Nat) (xs : List Int) (q0 q1 q2 : Int) (w : World) (hs : SlAt w w.heap.size A (xs.map (.int .i64))) (hl : xs.length = n) (hnc : n ≤ c) :
    Calls Try.prog 7 #[.slice A n c, .agg #[.int .i64 q0, .int .i64 q1, .int .i64 q2]] w fun e w' => e = .returned (.bool true) ∧ Below w.heap.size w w' := by
  refine calls_satq [.slice A n c, .agg #[.int .i64 q0, .int .i64 q1, .int .i64 q2]] Try.func7 Try.ntmps7 rfl (by simp) ?_
  refine satq_seq ?_
  conv => whnf
  refine satq_seq ?_
  conv => whnf
  refine call_con rfl (by kernel_rfl) (fun r w' hR => sanity_law w') ?_
  conv => whnf
  refine satq_restart fun r w1 hR => ?_
  obtain ⟨g3, us3, b3, d3, k3⟩ := own_cellsAt hR 0 rfl
  obtain rfl := denL_vals_inv (us := [.int .i64 q0, .int .i64 q1, .int .i64 q2]) d3
  have hB0 := hR.toBelow
  refine ⟨slotFr [(0, .slice A n c), (3, .pointer (some ⟨g3, 0, none⟩)), (5, .bool true)], fun a hf => slots_den ⟨slot_val hf rfl, slot_ref hf 3 rfl b3, slot_val hf rfl, trivial⟩, ?_⟩
  have hs1 := sl_later hs hB0
  clear hR b3 d3
  refine satq_mid (α := { y : Blk // TurnOk y }) (fun y => [(5, one (.bool true)), (6, .p (.c (.ref 3 0)))]) (fun y => blkRows y.1 ++ [.cells 32 [.row 0, .row 1, .row 2]]) ?_ fun y => ?_
  · refine satq_vc ?_
    refine sat_any (.q 0 (.q 2 (.alt 1 (.alt 3 (.alt 4 (.alt 5 .done .no) .no) (.alt 4 (.alt 3 (.alt 5 .done .no) .no) .no)) (.alt 4 (.alt 1 (.alt 3 (.alt 5 .done .no) .no) .no) .no)))) mixed (by kernel_rfl) (by kernel_rfl) ?_
    conv => whnf
    refine ⟨_, k3, rfl, ?_⟩
    conv => whnf
    refine ⟨?_, ?_, trivial⟩
    · conv => whnf
      refine call_blk MadeOk (by kernel_rfl) (fun r w' us hR hd => ?_) fun b hb => ?_
      · obtain rfl := avals_den (xs := [.slice A n c]) rfl hd
        exact made_walk A n c xs w' (sl_later hs1 hR.toBelow) hl hnc
      conv => whnf
      refine ⟨?_, ?_, trivial⟩
      · conv => whnf
        refine call_turned 0 1 2 b q0 q1 q2 rfl rfl rfl hb fun y hy => ?_
        conv => whnf
        refine ⟨?_, trivial⟩
        conv => whnf
        refine ⟨?_, trivial⟩
        conv => whnf
        exact atq_mid ⟨y, hy⟩ (ent_ren [3, 4, 5, 6] (aI rfl (aI rfl trivial)) (aI ((Exists.intro _ (aI rfl (aI rfl (aI rfl (aI rfl rfl)))))) (aI ((Exists.intro _ (aI rfl (aI rfl (aI rfl (aI rfl rfl)))))) (aI ((Exists.intro _ (aI rfl (aI rfl (aI rfl (aI rfl rfl)))))) (aI ((Exists.intro _ (aI rfl (aI rfl (Or.inl rfl))))) trivial)))) rfl rfl rfl rfl rfl)
      · conv => whnf
        refine ⟨?_, trivial⟩
        conv => whnf
        refine call_turned 0 1 2 b q0 q1 q2 rfl rfl rfl hb fun y hy => ?_
        conv => whnf
        refine ⟨?_, trivial⟩
        conv => whnf
        exact atq_mid ⟨y, hy⟩ (ent_ren [4, 5, 6, 3] (aI rfl (aI rfl trivial)) (aI ((Exists.intro _ (aI rfl (aI rfl (aI rfl (aI rfl rfl)))))) (aI ((Exists.intro _ (aI rfl (aI rfl (aI rfl (aI rfl rfl)))))) (aI ((Exists.intro _ (aI rfl (aI rfl (aI rfl (aI rfl rfl)))))) (aI ((Exists.intro _ (aI rfl (aI rfl (Or.inl rfl))))) trivial)))) rfl rfl rfl rfl rfl)
    · conv => whnf
      refine ⟨?_, trivial⟩
      conv => whnf
      refine call_blk MadeOk (by kernel_rfl) (fun r w' us hR hd => ?_) fun b hb => ?_
      · obtain rfl := avals_den (xs := [.slice A n c]) rfl hd
        exact made_walk A n c xs w' (sl_later hs1 hR.toBelow) hl hnc
      conv => whnf
      refine ⟨?_, trivial⟩
      conv => whnf
      refine call_turned 1 2 3 b q0 q1 q2 rfl rfl rfl hb fun y hy => ?_
      conv => whnf
      refine ⟨?_, trivial⟩
      conv => whnf
      exact atq_mid ⟨y, hy⟩ (ent_ren [4, 5, 6, 0] (aI rfl (aI rfl trivial)) (aI ((Exists.intro _ (aI rfl (aI rfl (aI rfl (aI rfl rfl)))))) (aI ((Exists.intro _ (aI rfl (aI rfl (aI rfl (aI rfl rfl)))))) (aI ((Exists.intro _ (aI rfl (aI rfl (aI rfl (aI rfl rfl)))))) (aI ((Exists.intro _ (aI rfl (aI rfl (Or.inl rfl))))) trivial)))) rfl rfl rfl rfl rfl)
  obtain ⟨b, hb⟩ := y
  dsimp only
  refine satq_restart fun r w2 hR => ?_
  obtain ⟨g6, A1, c1, A2, c2, A3, c3, b6, k6, s1, s2, s3, m1, m2⟩ := own_blkRows hR 3 0 1 2 b rfl rfl rfl rfl
  have hB1 : Below w.heap.size w w2 := hB0.trans (hR.toBelow.mono hB0.size)
  refine ⟨slotFr [(5, .bool true), (6, .pointer (some ⟨g6, 0, none⟩))], fun a hf => slots_den ⟨slot_val hf rfl, slot_ref hf 6 rfl b6, trivial⟩, ?_⟩
  clear hR b6 k3 hs1 hs
  refine satq_seq ?_
  conv => whnf
  refine ⟨_, k6, rfl, ?_⟩
  conv => whnf
  refine call_pass_pl fold_pass (by kernel_rfl) hb.ok fold_nil rfl rfl rfl s1 s2 s3 m1 m2 ?_
  conv => whnf
  refine satq_seq ?_
  conv => whnf
  refine ⟨_, k6, rfl, ?_⟩
  conv => whnf
  refine call_con rfl (by kernel_rfl) (fun r w' hR => valid_ref A1 A2 A3 c1 c2 c3 b w' hb.ok (sl_later s2 hR.toBelow) (sl_later s3 hR.toBelow)) ?_
  rw [valid_same]
  conv => whnf
  refine ⟨fun hv => ?_, fun hv => ?_⟩
  · have hv : validB b = false := by simpa using hv
    have hF : foldAll b = b.ops := by unfold foldAll; rw [hv]; rfl
    rw [hF]
    conv => whnf
    refine ⟨true, fun _ => ?_, ?_⟩
    · conv => whnf
      refine ⟨_, k6, rfl, ?_⟩
      conv => whnf
      refine call_blkV2 (x := .bool true) 0 rfl (by kernel_rfl) (fun r w' A4 c4 hR h4 e1 e2 => ?_) ?_
      · refine (same_ref A1 A2 A3 A1 A2 A4 c1 c2 c3 c1 c2 c4 b b w' hb.ok.lat hb.ok.lpages hb.ok.lops (sl_later s1 hR.toBelow) (sl_later s2 hR.toBelow) (sl_later s3 hR.toBelow) (sl_later s1 hR.toBelow) (sl_later s2 hR.toBelow) h4).mono fun e w'' ⟨h, hB⟩ => ⟨?_, hB⟩
        rw [h, sameB_self]
      conv => whnf
      exact ⟨rfl, rfl, rfl, rfl, rfl⟩
    conv => whnf
    refine atq_ret ?_
    conv => whnf
    exact fin_val rfl fun w' hB => ⟨rfl, hB1.trans (hB.mono hB1.size)⟩
  conv => whnf
  refine satq_vc ?_
  conv => whnf
  refine ⟨true, fun _ => ?_, ?_⟩
  · conv => whnf
    refine call_blkV (x := .bool true) 0 rfl (by kernel_rfl) (fun r w' A4 c4 hR h4 e1 e2 => ?_) ?_
    · refine (folded_walk (foldAll b) A1 A2 A4 b.at_.length b.pages.length c1 c2 c4 w' h4 (Nat.le_trans (foldAll_length b) hb.ok.lops) (fold_codes (by simpa using hv))).mono fun e w'' ⟨h, hB⟩ => ⟨?_, hB⟩
      rw [h, fold_law (by simpa using hv)]
    conv => whnf
    exact ⟨rfl, rfl, rfl, rfl, rfl⟩
  conv => whnf
  refine atq_ret ?_
  conv => whnf
  exact fin_val rfl fun w' hB => ⟨rfl, hB1.trans (hB.mono hB1.size)⟩
end Go.Proofs.Ytmjfgnnefcimiaa
namespace Go.Proofs.Ytmjfgnnefcimiaa
open Go.ChangeShapes Go.WideShapes Go.ChangeAt Go.RowKit

set_option maxRecDepth 100000 in
theorem optFolded_lifted (os : Os) (started : os.Started) (H : Type) (enc : TypeId × Value → H) :
    ReturnsInHanded {} Try.checked os 7 .any (Rows.optFoldedSpec.pre6 enc Try.prog Try.f7 Rows.optFoldedRow.domain false) (Rows.optFoldedSpec.post enc Try.prog Try.f7 false true false false) := by
  refine returnsInHanded_of_change (C := Try.checked) ownK started (by kernel_rfl) Try.func7
    (ChangeSpec.witness6 (enc := enc) (C := Try.checked) false ⟨#[], #[.slice none 0 0, .agg #[.int .i64 0, .int .i64 0, .int .i64 0]], []⟩ 8 (by kernel_rfl) (by kernel_rfl) (by kernel_rfl) (by kernel_rfl)) ?_
  intro W base args ds gs before hval0 hW hcnd _
  have hval : ∀ (j : Nat) t v, Try.f7.params[j]? = some t → args[j]? = some v → Value.okWide Try.prog W .any base t v := hval0
  have hW' := hW
  obtain ⟨p, q, hA0, hV, rfl, hfz, hnd⟩ := hW
  have hA : DataW.TrodAll enc Try.prog W 0 (fun _ => true) true Try.f7.params.toList args.toList ds p := hA0
  rw [Try.params7] at hA hval
  obtain ⟨v0, vs0, d0, ds0, p0, q0, hargs, rfl, rfl, h0, r0⟩ := trodAll_cons hA
  obtain ⟨v1, vs1, d1, ds1, p1, q1, rfl, rfl, rfl, h1, r1⟩ := trodAll_cons r0
  obtain ⟨rfl, rfl, rfl⟩ := trodAll_nil r1
  obtain rfl : args = #[v0, v1] := by cases args; simp_all
  obtain ⟨rfl, rfl⟩ := trodVars_none hV
  obtain ⟨a0, len0, cap0, rfl⟩ := okWide_slice Try.underlying22 (hval 0 22 v0 rfl rfl)
  have k0 := h0
  have k1 := h1
  have lt0 : ∀ x ∈ p0, x.block < W.heap.size := by obtain ⟨m, hm⟩ := k0; exact DataW.trod_lt m _ _ _ hm
  have lt1 : ∀ x ∈ p1, x.block < W.heap.size := by obtain ⟨m, hm⟩ := k1; exact DataW.trod_lt m _ _ _ hm
  obtain ⟨xs, w0, hl, hnc⟩ := open_sl h0
  obtain ⟨x, y, z, rfl⟩ := open_q (hval 1 23 v1 rfl rfl) h1
  clear hA0 hval0
  refine (folded_law a0 len0 cap0 xs x y z W w0 hl hnc).mono fun e W' ⟨he, bel⟩ => ?_
  subst he
  exact ⟨_, rfl, _, _, _, [], _, [], hW', trodAll_mk1 (shut_bool Try.underlying4 _), (trodAll_cons_mk (Below.trod laidOutP (by kernel_rfl) (of_decide_eq_true (by kernel_rfl)) k0 bel lt0) (trodAll_cons_mk (Below.trod laidOutP (by kernel_rfl) (of_decide_eq_true (by kernel_rfl)) k1 bel lt1) trodAll_mk0)), rfl, bel.frame _, fun h => by cases h⟩
theorem optFolded_holds : Rows.OptFoldedSaid :=
  OpenClaim.holds_of_wide 7 Try.f7 rfl rfl rfl rfl rfl rfl rfl ⟨rfl, rfl, rfl, rfl, rfl⟩ rfl rfl rfl rfl rfl (by kernel_rfl) Try.func7 (by kernel_rfl)
    (of_decide_eq_true (by kernel_rfl)) (by unfold Func.isWrapper; first | (rw [if_pos (by decide +kernel)]; kernel_rfl) | (rw [if_neg (by decide +kernel)]; exact ⟨rfl, rfl⟩))
    (fun os started H enc _ => optFolded_lifted os started H enc)
end Go.Proofs.Ytmjfgnnefcimiaa
#print axioms Go.Proofs.Ytmjfgnnefcimiaa.optFolded_holds
