/- For every valid block, the result of Dead is valid, not longer and equivalent: for every input, without any condition. -/
import Derived.Test.YtmjfgnnefcimiaaM1
import Derived.Test.YtmjfgnnefcimiaaM13
import Derived.Test.YtmjfgnnefcimiaaM14
import Derived.Test.YtmjfgnnefcimiaaM15
import Derived.Test.YtmjfgnnefcimiaaM16
import Derived.Test.YtmjfgnnefcimiaaM17
import Derived.Test.YtmjfgnnefcimiaaM18
import Derived.Test.YtmjfgnnefcimiaaM19
import Derived.Test.YtmjfgnnefcimiaaM20
import Derived.Test.YtmjfgnnefcimiaaM21
import Derived.Test.YtmjfgnnefcimiaaM22
import Derived.Test.YtmjfgnnefcimiaaM23
import Derived.Test.YtmjfgnnefcimiaaM24
import Derived.Test.YtmjfgnnefcimiaaM25
import Derived.Test.YtmjfgnnefcimiaaM27
import Derived.Test.YtmjfgnnefcimiaaM28
import Derived.Test.YtmjfgnnefcimiaaM29
import Derived.Test.YtmjfgnnefcimiaaM3
import Derived.Test.YtmjfgnnefcimiaaM30
import Derived.Test.YtmjfgnnefcimiaaM31
import Derived.Test.YtmjfgnnefcimiaaM32
import Derived.Test.YtmjfgnnefcimiaaM33
import Derived.Test.YtmjfgnnefcimiaaM34
import Derived.Test.YtmjfgnnefcimiaaM5
import Derived.Test.YtmjfgnnefcimiaaM6
import Derived.Test.YtmjfgnnefcimiaaM7
namespace Go.Proofs.Ytmjfgnnefcimiaa
open Go.RowKit

theorem liveAtL_cons (o : BOp) (l : List BOp) (v : Int) : liveAtL (o :: l) v = (memI v (reads o) || (observesB o && decide (v < 19)) || (liveAtL l v && !(writes o == v))) := by
  show (if _ then _ else _) = _
  split
  · rename_i h; rw [h]; rfl
  · rename_i h
    have h' : (memI v (reads o) || (observesB o && decide (v < 19))) = false := by simpa using h
    rw [h', Bool.false_or]
    split
    · rename_i h2; rw [h2]; simp
    · rename_i h2; rw [show (writes o == v) = false by simpa using h2]; simp
theorem setM_bit (m k j : Nat) : (setM m k).testBit j = (m.testBit j || decide (k = j)) := by unfold setM; rw [Nat.testBit_or, Nat.testBit_two_pow]
theorem readsM_bit : ∀ (l : List Int) (m : Nat) (v : Nat), (∀ x ∈ l, 0 ≤ x) → (readsM m l).testBit v = (m.testBit v || memI (v : Int) l)
  | [], m, v, _ => by simp [readsM, memI]
  | x :: l, m, v, h => by
    have hx := h x (by simp)
    show (readsM (setM m x.toNat) l).testBit v = _
    rw [readsM_bit l _ v (fun y hy => h y (by simp [hy])), setM_bit]
    unfold memI
    rw [List.any_cons, Bool.or_assoc]
    congr 2
    rw [Bool.eq_iff_iff]; simp; omega
theorem clrM_bit {m d v : Nat} (hd : d < 32) (hv : v < 32) : (clrM m d).testBit v = (m.testBit v && !decide (d = v)) := by
  unfold clrM
  rw [Nat.testBit_and]
  have : (4294967295 - 2 ^ d).testBit v = !decide (d = v) := by
    have e : 4294967295 - 2 ^ d = 2 ^ 32 - (2 ^ d + 1) := by omega
    have h2 : 2 ^ d < 2 ^ 32 := Nat.pow_lt_pow_right (by omega) hd
    rw [e, Nat.testBit_two_pow_sub_succ h2, Nat.testBit_two_pow]
    simp [hv]
  rw [this]
theorem low19_bit (v : Nat) : (524287 : Nat).testBit v = decide (v < 19) := by
  rw [show (524287 : Nat) = 2 ^ 19 - 1 from rfl, Nat.testBit_two_pow_sub_one]
theorem writes_lt {o : BOp} (hf : formedB o = true) : writes o < 28 := by
  have := writes_var hf
  exact this
theorem beforeM_bit {o : BOp} (hf : formedB o = true) (m : Nat) {v : Nat} (hv : v < 28) : (beforeM o m).testBit v = (memI (v : Int) (reads o) || (observesB o && decide ((v : Int) < 19)) || (m.testBit v && !(writes o == (v : Int)))) := by
  have hr : ∀ x ∈ reads o, 0 ≤ x := fun x hx => (reads_var hf x hx).1
  have hw := writes_lt hf
  have hc : (if 0 ≤ writes o then clrM m (writes o).toNat else m).testBit v = (m.testBit v && !(writes o == (v : Int))) := by
    split
    · rename_i h0
      rw [clrM_bit (by omega) (by omega)]
      congr 2
      rw [Bool.eq_iff_iff]; simp; omega
    · rename_i h0
      have : (writes o == (v : Int)) = false := by rw [beq_eq_false_iff_ne]; omega
      rw [this]; simp
  have h19 : decide ((v : Int) < 19) = decide (v < 19) := by rw [decide_eq_decide]; omega
  unfold beforeM
  split
  · rename_i ho
    rw [Nat.testBit_or, readsM_bit _ _ _ hr, hc, low19_bit, ho, h19]
    cases memI (v : Int) (reads o) <;> cases decide (v < 19) <;> simp
  · rename_i ho
    have ho' : observesB o = false := by simpa using ho
    rw [readsM_bit _ _ _ hr, hc, ho']
    cases memI (v : Int) (reads o) <;> simp
/-- The mask says what is live. -/
def MaskIs (m : Nat) (l : List BOp) : Prop := ∀ v : Nat, v < 28 → m.testBit v = liveAtL l (v : Int)
theorem mask_nil : MaskIs 0 [] := fun v _ => by simp [liveAtL]
theorem mask_cons {o : BOp} (hf : formedB o = true) {m : Nat} {l : List BOp} (h : MaskIs m l) : MaskIs (beforeM o m) (o :: l) := fun v hv => by rw [beforeM_bit hf m hv, liveAtL_cons, h v hv]
end Go.Proofs.Ytmjfgnnefcimiaa
namespace Go.Proofs.Ytmjfgnnefcimiaa
open Go.RowKit

section
variable {w0 : World} {S : List Ow} {K : AV → List Ow → Prop} {b : Blk} {A1 A2 A3 : Option Addr} {n1 n2 n3 c1 c2 c3 : Nat}
/-- A pass over a block in plain memory. -/
theorem call_pass_pl {P : Program} {fid : FuncId} {F : Blk → List BOp} (hp : Pass P fid F) (hok : fnOk P fid = true) (hb : b.ok) (h0 : b.ops = [] → F b = []) (hn1 : b.at_.length = n1) (hn2 : b.pages.length = n2) (hn3 : b.ops.length = n3)
    (h1 : SlAt w0 w0.heap.size A1 (b.at_.map (.int .u32))) (h2 : SlAt w0 w0.heap.size A2 (b.pages.map (.int .i64))) (h3 : OpsAt w0 w0.heap.size A3 b.ops) (hc3 : n3 ≤ c3) (hm3 : c3 ≤ maxLen)
    (hK : K (.p (.agg [.v (.slice A1 n1 c1), .v (.slice A2 n2 c2), .row S.length])) (S ++ [.view viewT (F b).length ((F b).flatMap opC)])) :
    CallS P w0 Gs.nil fid [.p (.agg [.v (.slice A1 n1 c1), .v (.slice A2 n2 c2), .v (.slice A3 n3 c3)])] S K := by
  subst hn1; subst hn2; subst hn3
  refine ⟨hok, fun r w us hR hd => ?_⟩
  obtain ⟨u1, l1, rfl, d1, d2⟩ := hd
  obtain rfl : l1 = [] := d2
  obtain rfl := AV.val_den (x := .agg #[.slice A1 b.at_.length c1, .slice A2 b.pages.length c2, .slice A3 b.ops.length c3]) rfl d1
  refine (hp b A1 A2 A3 c1 c2 c3 w hb (sl_later h1 hR.toBelow) (sl_later h2 hR.toBelow) (sl_later h3 hR.toBelow) hc3 hm3).mono fun e w' ⟨A', c', he, ho, k1, k2, k3, hB⟩ => ?_
  refine ⟨.p (.agg [.v (.slice A1 b.at_.length c1), .v (.slice A2 b.pages.length c2), .row S.length]), _, _, r.set S.length none (some (.slice A' (F b).length c')), he, ⟨[.slice A1 b.at_.length c1, .slice A2 b.pages.length c2, .slice A' (F b).length c'], rfl, ?_⟩,
    hR.snoc (o := .view viewT (F b).length ((F b).flatMap opC)) hB (b := none) nofun ⟨A', c', by simp [Env.set], k1, ⟨k2, trivial⟩, by simp [Env.set], fun j u hj => ?_⟩, hR.le_new _ _, hK⟩
  · simp only [denL, CV.den]
    exact ⟨_, _, rfl, rfl, _, _, rfl, rfl, _, _, rfl, by simp [Env.set], rfl⟩
  · obtain ⟨b', off, e4, e5, e6⟩ := ho j u hj
    refine ⟨b', off, e4, e5, fun q hq => ?_, e6⟩
    simp only [Env.set] at hq
    split at hq
    · cases hq
    · rcases k3 with k3 | rfl
      · have := k3 b' off none e4
        have := (hR.new q b' hq).1
        omega
      · have hpos : 0 < b.ops.length := by
          rcases Nat.eq_zero_or_pos b.ops.length with h | h
          · rw [h0 (List.eq_nil_of_length_eq_zero h)] at hj; simp at hj
          · exact h
        have h5 := ops_lt (e4 ▸ h3) hpos
        exact absurd ((hR.new q b' hq).2 h5) (by simp)
end
theorem sameB_self (b : Blk) : sameB b b = true := by simp [sameB]
end Go.Proofs.Ytmjfgnnefcimiaa
namespace Go.Proofs.Ytmjfgnnefcimiaa
open Go.RowKit

theorem ck_mark {s : Ck} {o : BOp} {x y : Bool} (hf : formedB o = true) (hp : placedB s o x y = true) (hc : o.code = 20) (hn : o.n = (s.marks : Int)) : ckNext s o x y = some ⟨s.marks + 1, 0, false⟩ := by
  unfold ckNext
  rw [if_pos (by rw [hf, hp]; rfl), if_pos (by simp [hc]), if_pos (by simp [hn])]
theorem ck_op {s : Ck} {o : BOp} {x y : Bool} (hf : formedB o = true) (hp : placedB s o x y = true) (hc : o.code ≠ 20) (hr : ∀ v ∈ reads o, readB s v = true) :
    ckNext s o x y = some ⟨s.marks, if 20 ≤ writes o then s.written ||| 2 ^ (writes o).toNat else s.written, s.changed || (stores o.code || decide (0 ≤ writes o ∧ writes o < 20))⟩ := by
  unfold ckNext
  rw [if_pos (by rw [hf, hp]; rfl), if_neg (by simpa using hc), if_pos (List.all_eq_true.2 hr)]
theorem ck_cons {s s1 : Ck} {o : BOp} {l : List BOp} (h : ckNext s o l.isEmpty (exitNext l) = some s1) : ckRun s (o :: l) = ckRun s1 l := by
  show (match ckNext s o l.isEmpty (exitNext l) with | some s' => ckRun s' l | none => none) = _
  rw [h]
theorem placed_parts {s : Ck} {o : BOp} {x y : Bool} : placedB s o x y = true ↔ endsB o.code = x ∧ (o.code = 23 → y = true) ∧ (leaves o.code = true → s.changed = false) := by
  unfold placedB
  simp only [Bool.and_eq_true, Bool.not_eq_true', Bool.and_eq_false_iff, beq_iff_eq, Bool.not_eq_false', beq_eq_false_iff_ne]
  constructor
  · rintro ⟨⟨h1, h2⟩, h3⟩
    refine ⟨h1, fun e => ?_, fun e => ?_⟩
    · rcases h2 with h2 | h2
      · exact absurd e h2
      · exact h2
    · rcases h3 with h3 | h3
      · rw [e] at h3; cases h3
      · exact h3
  · rintro ⟨h1, h2, h3⟩
    refine ⟨⟨h1, ?_⟩, ?_⟩
    · by_cases e : o.code = 23
      · exact .inr (h2 e)
      · exact .inl e
    · by_cases e : leaves o.code = true
      · exact .inr (h3 e)
      · exact .inl (by simpa using e)
theorem header_of {b : Blk} {l : List BOp} (h : headerB b = true) (h1 : 1 ≤ l.length) (h2 : l.length ≤ b.ops.length) (h3 : ∀ o, b.ops.head? = some o → o.code = 20 → ∃ p, l.head? = some p ∧ p.code = 20) : headerB ⟨b.at_, b.pages, l⟩ = true := by
  unfold headerB at h ⊢
  simp only [Bool.and_eq_true, decide_eq_true_eq] at h ⊢
  obtain ⟨⟨⟨k1, k2⟩, k3⟩, k4⟩ := h
  refine ⟨⟨⟨k1, k2⟩, by show 1 ≤ l.length ∧ l.length ≤ 2000; omega⟩, ?_⟩
  cases hb : b.ops with
  | nil => rw [hb] at k4; cases k4
  | cons o r =>
    rw [hb] at k4
    obtain ⟨p, hp, hc⟩ := h3 o (by rw [hb]; rfl) (by simpa using k4)
    cases l with
    | nil => cases hp
    | cons q m => injection hp with hp; subst hp; simp [hc]

/-! Fold. -/
theorem ck_empty {l : List BOp} (h : l.isEmpty = true) : l = [] := List.isEmpty_iff.1 h
theorem valid_of {b : Blk} {l : List BOp} (hv : validB b = true) (hne : b.ops ≠ [] → l ≠ []) (hlen : l.length ≤ b.ops.length) (hhead : ∀ o r, b.ops = o :: r → o.code = 20 → ∃ p, l.head? = some p ∧ p.code = 20) (hck : ∀ s1, ckRun ⟨0, 0, false⟩ b.ops = some s1 → ∃ s2, ckRun ⟨0, 0, false⟩ l = some s2 ∧ s2.marks = s1.marks) : validB ⟨b.at_, b.pages, l⟩ = true := by
  obtain ⟨h1, s, h2, h3⟩ := valid_parts.1 hv
  obtain ⟨s2, k1, k2⟩ := hck s h2
  have hpos := (valid_pos hv).1
  have hb : b.ops ≠ [] := fun e => by rw [e] at hpos; simp at hpos
  refine valid_parts.2 ⟨header_of h1 ?_ hlen (fun o ho hc => ?_), s2, k1, by rw [k2, h3]⟩
  · have := hne hb
    cases l with
    | nil => exact absurd rfl this
    | cons _ _ => simp
  · cases hbo : b.ops with
    | nil => exact absurd hbo hb
    | cons q r => rw [hbo] at ho; injection ho with ho; subst ho; exact hhead _ r hbo hc
end Go.Proofs.Ytmjfgnnefcimiaa
namespace Go.Proofs.Ytmjfgnnefcimiaa
open Go.RowKit

def ckAfter (s : Ck) (o : BOp) : Ck := ⟨s.marks, if 20 ≤ writes o then s.written ||| 2 ^ (writes o).toNat else s.written, s.changed || (stores o.code || decide (0 ≤ writes o ∧ writes o < 20))⟩
theorem readB_after (s : Ck) (o : BOp) (v : Int) : readB (ckAfter s o) v = (readB s v || decide (20 ≤ v ∧ writes o = v)) := by
  unfold readB ckAfter
  rw [Bool.eq_iff_iff]
  simp only [Bool.or_eq_true, decide_eq_true_eq]
  by_cases h : v < 20
  · simp [h]
  · split
    · rename_i hw
      rw [Nat.testBit_or, Nat.testBit_two_pow]
      simp only [Bool.or_eq_true, decide_eq_true_eq]
      constructor
      · rintro (h1 | h1 | h1)
        · exact .inl (.inl h1)
        · exact .inl (.inr h1)
        · right; omega
      · rintro ((h1 | h1) | h1)
        · exact .inl h1
        · exact .inr (.inl h1)
        · right; right; rw [h1.2]
    · rename_i hw
      constructor
      · intro h1; exact .inl h1
      · rintro (h1 | h1)
        · exact h1
        · omega
theorem mem_reads {o : BOp} {v : Int} : v ∈ reads o ↔ (hasA o.code = true ∧ v = o.a) ∨ (hasB o.code = true ∧ v = o.b ∧ o.b ≠ o.a) := by
  unfold reads
  rw [List.mem_append]
  constructor
  · rintro (h | h)
    · split at h
      · rename_i hA; exact .inl ⟨hA, by simpa using h⟩
      · cases h
    · split at h
      · rename_i hB; simp at hB; exact .inr ⟨hB.1, by simpa using h, hB.2⟩
      · cases h
  · rintro (⟨h1, h2⟩ | ⟨h1, h2, h3⟩)
    · left; rw [h1, h2]; simp
    · right; rw [if_pos (by rw [h1]; simp [h3]), h2]; simp
theorem hasA_of_B {c : Int} (h : hasB c = true) : hasA c = true := by
  unfold hasB at h; unfold hasA; rw [decide_eq_true_eq] at h ⊢; omega
theorem reads_b {o : BOp} (h : hasB o.code = true) : o.b ∈ reads o := by
  by_cases e : o.b = o.a
  · exact mem_reads.2 (.inl ⟨hasA_of_B h, e⟩)
  · exact mem_reads.2 (.inr ⟨h, rfl, e⟩)
/-! Dead. -/
def rD (l : List BOp) : List BOp := (deadRun l.reverse).out.reverse
def mD (l : List BOp) : Nat := (deadRun l.reverse).live
theorem rD_cons (o : BOp) (l : List BOp) : rD (o :: l) = if deadB o (mD l) = true then rD l else o :: rD l := by
  unfold rD mD
  rw [List.reverse_cons, deadRun_snoc]
  unfold deadStep
  split <;> simp
theorem mD_cons (o : BOp) (l : List BOp) : mD (o :: l) = if deadB o (mD l) = true then mD l else beforeM o (mD l) := by
  unfold mD
  rw [List.reverse_cons, deadRun_snoc]
  unfold deadStep
  split <;> simp
theorem mD_is : ∀ (l : List BOp), (∀ o ∈ l, formedB o = true) → MaskIs (mD l) (rD l)
  | [], _ => mask_nil
  | o :: l, h => by
    have ih := mD_is l fun p hp => h p (by simp [hp])
    rw [mD_cons, rD_cons]
    split
    · exact ih
    · exact mask_cons (h o (by simp)) ih
theorem dead_not {o : BOp} (hf : formedB o = true) {l : List BOp} (hl : ∀ p ∈ l, formedB p = true) (hd : deadB o (mD l) = true) : pureB o = true ∧ writes o = o.d ∧ liveAtL (rD l) o.d = false := by
  unfold deadB at hd
  simp only [Bool.and_eq_true, Bool.not_eq_true'] at hd
  obtain ⟨d0, d1⟩ := pure_formed_d hf hd.1
  refine ⟨hd.1, ?_, ?_⟩
  · have := hd.1
    unfold pureB writes at this
    unfold writes
    split at this
    · rename_i h; rw [if_pos h]
    · simp at this
  · have := mD_is l hl o.d.toNat (by omega)
    rw [hd.2, show ((o.d.toNat : Nat) : Int) = o.d by omega] at this
    exact this.symm
theorem dead_follows : ∀ (l : List BOp) {s s1 : Ck}, ckRun s l = some s1 → (rD l).isEmpty = l.isEmpty
  | [], _, _, _ => rfl
  | o :: l, s, s1, h => by
    obtain ⟨s2, h1, h2⟩ := ck_uncons h
    rw [rD_cons]
    split
    · rename_i hk
      rw [dead_follows l h2]
      cases l with
      | nil =>
        have he := (placed_parts.1 (ck_step h1).2.1).1
        unfold deadB at hk
        simp only [Bool.and_eq_true] at hk
        have := pure_code hk.1
        unfold endsB at he
        change decide _ = true at he
        rw [decide_eq_true_eq] at he
        omega
      | cons _ _ => rfl
    · rfl
theorem dead_exit {l : List BOp} (h : exitNext l = true) : exitNext (rD l) = true := by
  cases l with
  | nil => cases h
  | cons o l =>
    have hc : o.code = 24 := by simpa [exitNext] using h
    rw [rD_cons, if_neg (fun hk => by
      unfold deadB at hk
      simp only [Bool.and_eq_true] at hk
      have := pure_code hk.1
      omega)]
    show (o.code == 24) = true
    rw [hc]; rfl
theorem dead_ck : ∀ (l : List BOp) {s s' s1 : Ck}, DeadSim s s' (rD l) → ckRun s l = some s1 → ∃ s2, ckRun s' (rD l) = some s2 ∧ s2.marks = s1.marks
  | [], s, s', s1, hS, h => by
    injection h with h; subst h; exact ⟨s', rfl, hS.marks⟩
  | o :: l, s, s', s1, hS, h => by
    obtain ⟨s2, h1, h2⟩ := ck_uncons h
    obtain ⟨hf, hp, hm, ho⟩ := ck_step h1
    have hfl := run_formed h2
    obtain ⟨p1, p2, p3⟩ := placed_parts.1 hp
    rw [rD_cons] at hS ⊢
    by_cases hd : deadB o (mD l) = true
    · rw [if_pos hd] at hS ⊢
      obtain ⟨d1, d2, d3⟩ := dead_not hf hfl hd
      have hc := pure_code d1
      obtain ⟨hr, e2⟩ := ho (by omega)
      have e2 : s2 = ckAfter s o := e2
      refine dead_ck l (s' := s') ⟨by rw [e2]; exact hS.marks, fun v hl hv => ?_, fun hc' => by rw [e2]; show (s.changed || _) = true; rw [hS.ch hc']; rfl⟩ h2
      rw [e2, readB_after, Bool.or_eq_true, decide_eq_true_eq] at hv
      rcases hv with hv | ⟨_, hv⟩
      · exact hS.known v hl hv
      · rw [← hv, d2, d3] at hl; cases hl
    · rw [if_neg hd] at hS ⊢
      have hpl : placedB s' o (rD l).isEmpty (exitNext (rD l)) = true :=
        placed_parts.2 ⟨by rw [dead_follows l h2]; exact p1, fun e => dead_exit (p2 e), fun e => by
          have := p3 e
          cases hc' : s'.changed
          · rfl
          · rw [hS.ch hc'] at this; cases this⟩
      by_cases hc : o.code = 20
      · obtain ⟨e1, e2⟩ := hm hc
        rw [ck_cons (ck_mark hf hpl hc (by rw [hS.marks]; exact e1)), hS.marks, ← e2]
        exact dead_ck l ⟨rfl, fun _ _ h => h, fun h => h⟩ h2
      · obtain ⟨hr, e2⟩ := ho hc
        have e2 : s2 = ckAfter s o := e2
        have hrp : ∀ v ∈ reads o, readB s' v = true := fun v hv => hS.known v (by
          rw [liveAtL_cons]
          have : memI v (reads o) = true := by unfold memI; rw [List.any_eq_true]; exact ⟨v, hv, by simp⟩
          rw [this]; rfl) (hr v hv)
        have hst : ckNext s' o (rD l).isEmpty (exitNext (rD l)) = some (ckAfter s' o) := ck_op hf hpl hc hrp
        rw [ck_cons hst]
        refine dead_ck l ⟨by rw [e2]; exact hS.marks, fun v hl hv => ?_, fun hc' => ?_⟩ h2
        · rw [e2, readB_after] at hv
          rw [readB_after]
          rw [Bool.or_eq_true, decide_eq_true_eq] at hv ⊢
          by_cases hw : 20 ≤ v ∧ writes o = v
          · exact .inr hw
          · rcases hv with hv | hv
            · left
              by_cases h20 : v < 20
              · unfold readB; simp [h20]
              · refine hS.known v ?_ hv
                rw [liveAtL_cons, hl]
                have : (writes o == v) = false := by rw [beq_eq_false_iff_ne]; intro e; exact hw ⟨by omega, e⟩
                rw [this]; simp
            · exact absurd hv hw
        · rw [e2]
          have hc' : (s'.changed || (stores o.code || decide (0 ≤ writes o ∧ writes o < 20))) = true := hc'
          show (s.changed || (stores o.code || decide (0 ≤ writes o ∧ writes o < 20))) = true
          rw [Bool.or_eq_true] at hc' ⊢
          rcases hc' with h | h
          · exact .inl (hS.ch h)
          · exact .inr h
theorem dead_valid {b : Blk} (hv : validB b = true) : validB (deadP b) = true := by
  unfold deadP deadAll
  rw [if_pos hv]
  obtain ⟨_, s, h2, _⟩ := valid_parts.1 hv
  show validB ⟨b.at_, b.pages, rD b.ops⟩ = true
  refine valid_of hv (fun hb => ?_) ?_ (fun o r hb hc => ?_) (fun s1 h => dead_ck b.ops ⟨rfl, fun _ _ h => h, fun h => h⟩ h)
  · intro he
    have := dead_follows b.ops h2
    rw [he] at this
    exact hb (ck_empty this.symm)
  · have := deadAll_length b
    unfold deadAll at this
    rw [if_pos hv] at this
    exact this
  · rw [hb, rD_cons, if_neg (fun hk => by
      unfold deadB at hk
      simp only [Bool.and_eq_true] at hk
      have := pure_code hk.1
      omega)]
    exact ⟨o, rfl, hc⟩

/-! The result of Opt. -/
end Go.Proofs.Ytmjfgnnefcimiaa
namespace Go.Proofs.Ytmjfgnnefcimiaa
open Go.RowKit

/-- What an operation does to the variables: at most it sets the one that it writes. -/
theorem applyP_vs {o : BOp} (hf : formedB o = true) (vs : List Int) (M : MemP) : (applyP o vs M).vs = vs ∨ (hasD o.code = true ∧ writes o = o.d ∧ ∃ x, (applyP o vs M).vs = vs.set o.d.toNat x) := by
  have hD : hasD o.code = true → writes o = o.d := fun h => (formed_d hf h).2.2
  have hd : 1 ≤ o.code → o.code ≤ 17 → hasD o.code = true := fun h1 h2 => by unfold hasD; rw [decide_eq_true_eq]; exact ⟨h1, h2⟩
  unfold applyP
  split
  · rename_i h; have := hd (by omega) (by omega); exact .inr ⟨this, hD this, _, rfl⟩
  split
  · rename_i h; have := hd (by omega) (by omega); exact .inr ⟨this, hD this, _, rfl⟩
  split
  · rename_i h; have := hd (by omega) (by omega)
    split
    · exact .inr ⟨this, hD this, _, rfl⟩
    · exact .inl rfl
  split
  · exact .inl rfl
  split
  · exact .inl rfl
  split
  · exact .inl rfl
  split
  · rename_i h
    have h' : 3 ≤ o.code ∧ o.code ≤ 15 := by unfold isBin at h; simpa using h
    have := hd (by omega) (by omega); exact .inr ⟨this, hD this, _, rfl⟩
  · exact .inl rfl
theorem applyP_other {o : BOp} (hf : formedB o = true) (vs : List Int) (M : MemP) {v : Int} (hv : 0 ≤ v) (hne : writes o ≠ v) : getV (applyP o vs M).vs v = getV vs v := by
  rcases applyP_vs hf vs M with h | ⟨h1, h2, x, h⟩
  · rw [h]
  · rw [h]
    have := formed_d' hf
    exact getV_set_ne this.1 hv (fun e => hne (by rw [h2, e]))
theorem applyP_none {o : BOp} (h : o.code = 20 ∨ o.code = 23) (vs : List Int) (M : MemP) : applyP o vs M = ⟨vs, true, M⟩ := by
  have hb : ¬ isBin o.code = true := by unfold isBin; rw [decide_eq_true_eq]; omega
  unfold applyP; rw [if_neg (by omega), if_neg (by omega), if_neg (by omega), if_neg (by omega), if_neg (by omega), if_neg (by omega), if_neg hb]
/-! Fold. -/
/-! Copies. -/
end Go.Proofs.Ytmjfgnnefcimiaa
namespace Go.Proofs.Ytmjfgnnefcimiaa
open Go.RowKit

theorem getV_eq {vs us : List Int} (h1 : vs.length = 28) (h2 : us.length = 28) {k : Nat} (hk : k < 28) (h : getV vs (k : Int) = getV us (k : Int)) : vs[k]? = us[k]? := by
  unfold getV at h
  rw [Int.toNat_natCast, List.getElem?_eq_getElem (by omega), List.getElem?_eq_getElem (by omega)] at h
  rw [List.getElem?_eq_getElem (by omega), List.getElem?_eq_getElem (by omega)]
  simpa using h
theorem guests_eq {vs us : List Int} (h1 : vs.length = 28) (h2 : us.length = 28) (h : ∀ v : Nat, v < 19 → getV vs (v : Int) = getV us (v : Int)) : guestsL vs = guestsL us := by
  unfold guestsL
  rw [h1, h2]
  congr 1
  refine List.ext_getElem? fun k => ?_
  rw [List.getElem?_take, List.getElem?_take]
  split
  · rename_i hk; exact getV_eq h1 h2 (by omega) (h k hk)
  · rfl
theorem memI_reads_a {o : BOp} (hA : hasA o.code = true) : memI o.a (reads o) = true := by
  unfold memI; rw [List.any_eq_true]; exact ⟨o.a, mem_reads.2 (.inl ⟨hA, rfl⟩), by simp⟩
theorem memI_reads_b {o : BOp} (hB : hasB o.code = true) : memI o.b (reads o) = true := by
  unfold memI; rw [List.any_eq_true]; exact ⟨o.b, reads_b hB, by simp⟩
theorem bit_of {o : BOp} (hf : formedB o = true) {m : Nat} {v : Int} (h0 : 0 ≤ v) (h1 : v < 28) (h : (memI v (reads o) || (observesB o && decide (v < 19)) || (m.testBit v.toNat && !(writes o == v))) = true) : (beforeM o m).testBit v.toNat = true := by
  rw [beforeM_bit hf m (by omega), Int.toNat_of_nonneg h0]; exact h
theorem step_same {o : BOp} (hf : formedB o = true) {m : Nat} {vs us : List Int} (hv : VarsOk vs) (hu : VarsOk us) (h : Agree (beforeM o m) vs us) (M : MemP) : StepSame o m vs us M := by
  have ha := formed_a hf
  have hb := formed_b hf
  have hd := formed_d' hf
  have eA : hasA o.code = true → getV us o.a = getV vs o.a := fun hA => by
    have := h o.a.toNat (by omega) (bit_of hf ha.1 ha.2 (by rw [memI_reads_a hA]; rfl))
    rw [Int.toNat_of_nonneg ha.1] at this; exact this.symm
  have eB : hasB o.code = true → getV us o.b = getV vs o.b := fun hB => by
    have := h o.b.toNat (by omega) (bit_of hf hb.1 hb.2 (by rw [memI_reads_b hB]; rfl))
    rw [Int.toNat_of_nonneg hb.1] at this; exact this.symm
  have keep : ∀ v : Nat, v < 28 → m.testBit v = true → writes o ≠ (v : Int) → getV vs (v : Int) = getV us (v : Int) := fun v hv hm hw => by
    refine h v hv ?_
    have := bit_of (v := (v : Int)) hf (m := m) (by omega) (by omega) (by rw [Int.toNat_natCast, hm, show (writes o == (v : Int)) = false by simpa using hw]; simp)
    rwa [Int.toNat_natCast] at this
  have same : writes o < 0 → Agree m vs us := fun hw v hv hm => keep v hv hm (by omega)
  have setA : ∀ x : Int, writes o = o.d → Agree m (vs.set o.d.toNat x) (us.set o.d.toNat x) := fun x hw v hv' hm => by
    by_cases e : (v : Int) = o.d
    · rw [e, getV_set hv hd, getV_set hu hd]
    · rw [getV_set_ne hd.1 (by omega) e, getV_set_ne hd.1 (by omega) e]
      exact keep v hv' hm (fun h => e (by rw [← h, hw]))
  have wD : 1 ≤ o.code → o.code ≤ 17 → writes o = o.d := fun h1 h2 => (formed_d hf (by unfold hasD; rw [decide_eq_true_eq]; exact ⟨h1, h2⟩)).2.2
  have wN : ¬ (1 ≤ o.code ∧ o.code ≤ 17) → writes o < 0 := fun hn => by
    have : hasD o.code = false := by unfold hasD; rw [decide_eq_false_iff_not]; exact hn
    unfold writes; rw [this]; exact (by decide : (-1 : Int) < 0)
  have gs : observesB o = true → guestsL us = guestsL vs := fun ho => by
    refine guests_eq hu.len hv.len fun v hv19 => ?_
    have := h v (by omega) (by
      have := bit_of (v := (v : Int)) hf (m := m) (by omega) (by omega) (by rw [ho]; simp; omega)
      rwa [Int.toNat_natCast] at this)
    exact this.symm
  by_cases c1 : o.code = 1
  · exact ⟨eA, by rw [applyP_const c1, applyP_const c1], by rw [applyP_const c1, applyP_const c1], fun _ => by rw [applyP_const c1, applyP_const c1]; exact setA _ (wD (by omega) (by omega)), gs⟩
  by_cases c2 : o.code = 2
  · have hA : hasA o.code = true := by rw [c2]; rfl
    exact ⟨eA, by rw [applyP_move c2, applyP_move c2], by rw [applyP_move c2, applyP_move c2], fun _ => by rw [applyP_move c2, applyP_move c2, eA hA]; exact setA _ (wD (by omega) (by omega)), gs⟩
  by_cases c3 : isBin o.code = true
  · have h' : 3 ≤ o.code ∧ o.code ≤ 15 := by unfold isBin at c3; simpa using c3
    have hA : hasA o.code = true := by unfold hasA; rw [decide_eq_true_eq]; omega
    have hB : hasB o.code = true := by unfold hasB; rw [decide_eq_true_eq]; omega
    exact ⟨eA, by rw [applyP_bin c3, applyP_bin c3], by rw [applyP_bin c3, applyP_bin c3], fun _ => by rw [applyP_bin c3, applyP_bin c3, eA hA, eB hB]; exact setA _ (wD (by omega) (by omega)), gs⟩
  by_cases c4 : o.code = 16 ∨ o.code = 17
  · have hA : hasA o.code = true := by unfold hasA; rw [decide_eq_true_eq]; omega
    have e : ∀ ws : List Int, applyP o ws M = (match M.bad ((getV ws o.a + o.n) % 4294967296) 1 0 (szN o.code) with
        | none => ⟨ws.set o.d.toNat (M.load ((getV ws o.a + o.n) % 4294967296) 0 (szN o.code)), true, M⟩
        | some _ => ⟨ws, false, M⟩) := fun ws => by
      unfold applyP; rw [if_neg c1, if_neg c2, if_pos c4]
      cases M.bad ((getV ws o.a + o.n) % 4294967296) 1 0 (szN o.code) <;> rfl
    have ho : observesB o = true := by
      have : leaves o.code = true := by unfold leaves; rw [decide_eq_true_eq]; omega
      unfold observesB; rw [this]; rfl
    have e1 := e vs
    have e2 := e us
    rw [eA hA] at e2
    cases hbad : M.bad ((getV vs o.a + o.n) % 4294967296) 1 0 (szN o.code) with
    | none =>
      rw [hbad] at e1 e2
      exact ⟨eA, by rw [e1, e2], by rw [e1, e2], fun _ => by rw [e1, e2]; exact setA _ (wD (by omega) (by omega)), gs⟩
    | some y =>
      rw [hbad] at e1 e2
      exact ⟨eA, by rw [e1, e2], by rw [e1, e2], fun hst => (by rw [e1] at hst; cases hst), gs⟩
  have hw : writes o < 0 := wN (by
    unfold isBin at c3
    rw [decide_eq_true_eq] at c3
    omega)
  have hs := same hw
  by_cases c5 : o.code = 18 ∨ o.code = 19
  · have hA : hasA o.code = true := by unfold hasA; rw [decide_eq_true_eq]; omega
    have hB : hasB o.code = true := by unfold hasB; rw [decide_eq_true_eq]; omega
    have e : ∀ ws : List Int, applyP o ws M = ⟨ws, (M.bad ((getV ws o.a + o.n) % 4294967296) 2 0 (szN o.code)).isNone, M.storeM ((getV ws o.a + o.n) % 4294967296) (szN o.code) (getV ws o.b)⟩ := fun ws => by
      unfold applyP; rw [if_neg c1, if_neg c2, if_neg c4, if_pos c5]
    have e1 := e vs
    have e2 := e us
    rw [eA hA, eB hB] at e2
    exact ⟨eA, by rw [e1, e2], by rw [e1, e2], fun _ => by rw [e1, e2]; exact hs, gs⟩
  by_cases c6 : o.code = 21
  · have hA : hasA o.code = true := by rw [c6]; rfl
    have e1 := applyP_guard c6 vs M
    have e2 := applyP_guard c6 us M
    rw [eA hA] at e2
    exact ⟨eA, by rw [e1, e2], by rw [e1, e2], fun _ => by rw [e1, e2]; exact hs, gs⟩
  have e : ∀ ws : List Int, applyP o ws M = ⟨ws, !decide (o.code = 22), M⟩ := fun ws => by
    unfold applyP
    rw [if_neg c1, if_neg c2, if_neg c4, if_neg c5, if_neg c6]
    by_cases c7 : o.code = 22
    · rw [if_pos c7]; simp [c7]
    · rw [if_neg c7, if_neg c3]; simp [c7]
  have e1 := e vs
  have e2 := e us
  exact ⟨eA, by rw [e1, e2], by rw [e1, e2], fun _ => by rw [e1, e2]; exact hs, gs⟩
theorem leaves_of {o : BOp} (_hf : formedB o = true) {vs : List Int} {M : MemP} (h : ¬ (applyP o vs M).stays = true) : leaves o.code = true := by
  unfold leaves
  rw [decide_eq_true_eq]
  by_cases c1 : o.code = 1
  · rw [applyP_const c1] at h; exact absurd rfl h
  by_cases c2 : o.code = 2
  · rw [applyP_move c2] at h; exact absurd rfl h
  by_cases c3 : isBin o.code = true
  · rw [applyP_bin c3] at h; exact absurd rfl h
  by_cases c4 : 16 ≤ o.code ∧ o.code ≤ 19 ∨ o.code = 21 ∨ o.code = 22
  · exact c4
  exfalso
  refine h ?_
  unfold applyP
  rw [if_neg c1, if_neg c2, if_neg (by omega), if_neg (by omega), if_neg (by omega), if_neg (by omega), if_neg c3]
/-- A block's rest over variables of which those agree that are live: one step. -/
theorem evalL_step {ats : List Int} {o : BOp} {l r : List BOp} {i : Int} {vs us : List Int} {M : MemP} (hf : formedB o = true) (ho : o.ok) {m : Nat} (hv : VarsOk vs) (hu : VarsOk us) (h : Agree (beforeM o m) vs us)
    (ih : ∀ (j : Int) (vs us : List Int) (Q : MemP), VarsOk vs → VarsOk us → Agree m vs us → evalL ats r j us Q = evalL ats l j vs Q) : evalL ats (o :: r) i us M = evalL ats (o :: l) i vs M := by
  have hs := step_same hf hv hu h M
  show (if _ then _ else _) = (if _ then _ else _)
  by_cases c1 : o.code = 24
  · rw [if_pos (.inl c1), if_pos (.inl c1), hs.guests (by unfold observesB; rw [c1]; rfl)]
  by_cases c2 : o.code = 25
  · have hn : ∀ ws : List Int, ¬ (o.code = 24 ∨ (o.code = 23 ∧ getV ws o.a ≠ 0)) := by
      rintro ws (h | ⟨h, _⟩) <;> omega
    rw [if_neg (hn us), if_neg (hn vs), if_pos c2, if_pos c2, hs.guests (by unfold observesB; rw [c2]; rfl), hs.a (by rw [c2]; rfl)]
  by_cases c3 : o.code = 23
  · rw [hs.a (by rw [c3]; rfl)]
    by_cases c4 : getV vs o.a = 0
    · have hn : ¬ (o.code = 24 ∨ (o.code = 23 ∧ getV vs o.a ≠ 0)) := by
        rintro (h | ⟨_, h⟩)
        · exact c1 h
        · exact h c4
      rw [if_neg hn, if_neg hn, if_neg c2, if_neg c2, hs.stays]
      have hst : (applyP o vs M).stays = true := by rw [applyP_none (.inr c3)]
      rw [if_pos hst, if_pos hst, hs.mem]
      exact ih _ _ _ _ (applyP_ok hv ho.n) (applyP_ok hu ho.n) (hs.agree hst)
    · rw [if_pos (.inr ⟨c3, c4⟩), if_pos (.inr ⟨c3, c4⟩), hs.guests (by unfold observesB; rw [c3]; rfl)]
  · have hn : ∀ ws : List Int, ¬ (o.code = 24 ∨ (o.code = 23 ∧ getV ws o.a ≠ 0)) := by
      rintro ws (h | ⟨h, _⟩)
      · exact c1 h
      · exact c3 h
    rw [if_neg (hn us), if_neg (hn vs), if_neg c2, if_neg c2, hs.stays, hs.mem]
    by_cases hst : (applyP o vs M).stays = true
    · rw [if_pos hst, if_pos hst]
      exact ih _ _ _ _ (applyP_ok hv ho.n) (applyP_ok hu ho.n) (hs.agree hst)
    · rw [if_neg hst, if_neg hst]
      have hob : observesB o = true := by
        have : leaves o.code = true := leaves_of hf hst
        unfold observesB; rw [this]; rfl
      rw [hs.guests hob]
theorem dead_eval (ats : List Int) : ∀ (l : List BOp) (i : Int) (vs us : List Int) (M : MemP), (∀ o ∈ l, formedB o = true) → (∀ o ∈ l, o.ok) → VarsOk vs → VarsOk us → Agree (mD l) vs us → evalL ats (rD l) i us M = evalL ats l i vs M
  | [], _, _, _, _, _, _, _, _, _ => rfl
  | o :: l, i, vs, us, M, hf, hok, hv, hu, h => by
    have hfo := hf o (by simp)
    have hoo := hok o (by simp)
    have hfl : ∀ p ∈ l, formedB p = true := fun p hp => hf p (by simp [hp])
    have hol : ∀ p ∈ l, p.ok := fun p hp => hok p (by simp [hp])
    have ih := fun (j : Int) (vs us : List Int) (Q : MemP) (h1 : VarsOk vs) (h2 : VarsOk us) (h3 : Agree (mD l) vs us) => dead_eval ats l j vs us Q hfl hol h1 h2 h3
    rw [rD_cons]
    rw [mD_cons] at h
    by_cases hd : deadB o (mD l) = true
    · rw [if_pos hd] at h ⊢
      obtain ⟨hp, hw, _⟩ := dead_not hfo hfl hd
      obtain ⟨k1, k2, _⟩ := pure_code hp
      have hbit : (mD l).testBit o.d.toNat = false := by
        unfold deadB at hd
        simp only [Bool.and_eq_true] at hd
        simpa using hd.2
      have hst : (applyP o vs M).stays = true ∧ (applyP o vs M).mem = M := by
        by_cases c1 : o.code = 1
        · rw [applyP_const c1]; exact ⟨rfl, rfl⟩
        by_cases c2 : o.code = 2
        · rw [applyP_move c2]; exact ⟨rfl, rfl⟩
        · rw [applyP_bin (by unfold isBin; rw [decide_eq_true_eq]; omega)]; exact ⟨rfl, rfl⟩
      rw [evalL_go (by omega) (by omega) hst.1, hst.2, show markI o i = i from if_neg (by omega)]
      refine ih _ _ _ _ (applyP_ok hv hoo.n) hu fun v hv28 hm => ?_
      have hne : writes o ≠ (v : Int) := fun e => by
        rw [hw] at e
        rw [e, Int.toNat_natCast, hm] at hbit
        cases hbit
      rw [applyP_other hfo vs M (by omega) hne]
      exact h v hv28 hm
    · rw [if_neg hd] at h ⊢
      exact evalL_step hfo hoo hv hu h ih
theorem dead_same {b : Blk} (hb : b.ok) (hv : validB b = true) {vs : List Int} (hvs : VarsOk vs) (M : MemP) : evalBlk (deadP b) vs M = evalBlk b vs M := by
  unfold evalBlk
  rw [if_pos (dead_valid hv), if_pos hv]
  show evalL b.at_ (deadAll b) 0 vs M = _
  unfold deadAll
  rw [if_pos hv]
  exact dead_eval b.at_ b.ops 0 vs vs M (valid_formed hv) hb.ops hvs hvs fun _ _ _ => rfl
end Go.Proofs.Ytmjfgnnefcimiaa
namespace Go.Proofs.Ytmjfgnnefcimiaa
open Go.RowKit

set_option maxRecDepth 100000 in
set_option maxHeartbeats 1000000 in
theorem alike_walk (b c : Blk) (x : SetP) (A1 A2 A3 B1 B2 B3 : Option Addr) (c1 c2 c3 d1 d2 d3 : Nat) (w : World) (hb : b.ok) (hc : c.ok) (hvb : validB b = true) (hvc : validB c = true) (hx : x.ok) (hB : BlkAt w b A1 A2 A3) (hC : BlkAt w c B1 B2 B3) (heq : evalBlk c x.all (setupM x) = evalBlk b x.all (setupM x)) (hlen : (evalBlk b x.all (setupM x)).out.vars.length = 28) (hmem : (evalBlk b x.all (setupM x)).mem.ok 768 3) :
    Calls Try.prog 36 #[.agg #[.slice A1 b.at_.length c1, .slice A2 b.pages.length c2, .slice A3 b.ops.length c3], .agg #[.slice B1 c.at_.length d1, .slice B2 c.pages.length d2, .slice B3 c.ops.length d3], setV x] w fun e w' => e = .returned (.bool true) ∧ Below w.heap.size w w' := by
  have hvs := all_ok hx
  refine calls_satq [.agg #[.slice A1 b.at_.length c1, .slice A2 b.pages.length c2, .slice A3 b.ops.length c3], .agg #[.slice B1 c.at_.length d1, .slice B2 c.pages.length d2, .slice B3 c.ops.length d3], setV x] Try.func36 Try.ntmps36 rfl (by simp) ?_
  refine satq_seq ?_
  conv => whnf
  refine satq_restart fun r w1 hR => ?_
  obtain ⟨g3, us3, e3, f3, k3⟩ := own_cellsAt hR 0 rfl
  obtain rfl := denL_vals_inv (us := [.slice A1 b.at_.length c1, .slice A2 b.pages.length c2, .slice A3 b.ops.length c3]) f3
  obtain ⟨g4, us4, e4, f4, k4⟩ := own_cellsAt hR 1 rfl
  obtain rfl := denL_vals_inv (us := [.slice B1 c.at_.length d1, .slice B2 c.pages.length d2, .slice B3 c.ops.length d3]) f4
  obtain ⟨g5, us5, e5, f5, k5⟩ := own_cellsAt hR 2 rfl
  obtain rfl := denL_vals_inv (us := setL x) f5
  have hB0 := hR.toBelow
  refine ⟨slotFr [(3, .pointer (some ⟨g3, 0, none⟩)), (4, .pointer (some ⟨g4, 0, none⟩)), (5, .pointer (some ⟨g5, 0, none⟩))], fun a hf => slots_den ⟨slot_ref hf 3 rfl e3, slot_ref hf 4 rfl e4, slot_ref hf 5 rfl e5, trivial⟩, ?_⟩
  have hB1 := hB.later hB0
  have hC1 := hC.later hB0
  clear hR e3 e4 e5 f3 f4 f5
  refine satq_mid (α := Unit) (fun _ => [(3, one (.pointer (some ⟨g3, 0, none⟩))), (4, one (.pointer (some ⟨g4, 0, none⟩))), (5, one (.pointer (some ⟨g5, 0, none⟩))), (7, .p (.c (.ref 0 0))), (8, .p (.c (.ref 6 0)))]) (fun _ => memS 0 768 3 (setupM x) ++ memS 6 768 3 (setupM x)) ?_ fun _ => ?_
  · refine satq_vc ?_
    refine sat_anyG (.q 0 (.q 2 (.alt 1 (.alt 3 (.q 4 (.q 5 .done)) .no) .no))) mixed (by kernel_rfl) (by kernel_rfl) ?_
    conv => whnf
    refine ⟨setL x, k5, setL_length hx, ?_⟩
    conv => whnf
    refine ⟨setL x, k5, setL_length hx, ?_⟩
    conv => whnf
    refine ⟨?_, trivial⟩
    conv => whnf
    refine call_newObjs (xs := [setV x]) (memS 0 768 3 (setupM x)) (memS 0 768 3 (setupM x)) (avals_set x) (by kernel_rfl) (memS_sh 0 768 3 _) (memS_ob 768 3 _) (fun r w' hR => setup_mem x w' hx) ?_
    conv => whnf
    refine ⟨?_, trivial⟩
    conv => whnf
    refine call_newObjs (xs := [setV x]) (memS 0 768 3 (setupM x)) (memS 6 768 3 (setupM x)) (avals_set x) (by kernel_rfl) (memS_sh 6 768 3 _) (memS_ob 768 3 _) (fun r w' hR => setup_mem x w' hx) ?_
    conv => whnf
    exact atq_mid () (ent_same rfl (aI rfl (aI rfl (aI rfl (aI rfl (aI rfl trivial))))) (aI ((aI rfl (Or.inl rfl))) (aI ((aI rfl (Or.inl rfl))) (aI ((aI rfl (Or.inl rfl))) (aI ((aI rfl (Or.inl rfl))) (aI ((aI rfl (Or.inl rfl))) (aI ((aI rfl (Or.inl rfl))) (aI ((aI rfl (Or.inl rfl))) (aI ((aI rfl (Or.inl rfl))) (aI ((aI rfl (Or.inl rfl))) (aI ((aI rfl (Or.inl rfl))) (aI ((aI rfl (Or.inl rfl))) (aI ((aI rfl (Or.inl rfl))) trivial)))))))))))))
  · refine satq_vc ?_
    refine sat_anyG (.q 0 (.q 1 (.q 3 (.q 5 (.q 6 (.q 8 (.alt 2 (.alt 4 (.alt 7 (.alt 9 (.alt 10 (.q 11 (.q 12 (.q 13 (.alt 14 (.q 15 (.q 16 .done)) .no)))) .no) .no) .no) .no) .no))))))) mixed (by kernel_rfl) (by kernel_rfl) ?_
    conv => whnf
    refine ⟨_, k3, rfl, ?_⟩
    conv => whnf
    refine ⟨setL x, k5, setL_length hx, ?_⟩
    conv => whnf
    refine ⟨_, k4, rfl, ?_⟩
    conv => whnf
    refine ⟨setL x, k5, setL_length hx, ?_⟩
    conv => whnf
    refine ⟨?_, trivial⟩
    conv => whnf
    refine call_con (xs := [setV x]) (x := varsV x.all) (avals_set x) (by kernel_rfl) (fun r w' hR => vars_walk x w' hx) ?_
    conv => whnf
    refine ⟨?_, trivial⟩
    conv => whnf
    refine call_memW (pre := [.p (.agg [.v (.slice A1 b.at_.length c1), .v (.slice A2 b.pages.length c2), .v (.slice A3 b.ops.length c3)]), .p (.agg (varsC x.all))]) (suf := []) 0 768 3 (setupM x) (evalBlk b x.all (setupM x)).mem (outV (evalBlk b x.all (setupM x)).out) (fun i hi => ?_) (avals_blk_vars _ _ _ _) rfl (by kernel_rfl) (fun w' g gs hk hU => eval_walk b x.all 768 3 (setupM x) A1 A2 A3 c1 c2 c3 w' g gs hU setupM_ok hb hvb hvs (slAt_keeps hk hB1.at_) (slAt_keeps hk hB1.pages) (slAt_keeps hk hB1.ops)) ?_
    · exact mem2_get 0 768 3 _ _ i hi
    conv => whnf
    refine ⟨?_, trivial⟩
    conv => whnf
    refine call_con (xs := [setV x]) (x := varsV x.all) (avals_set x) (by kernel_rfl) (fun r w' hR => vars_walk x w' hx) ?_
    conv => whnf
    refine ⟨?_, trivial⟩
    conv => whnf
    refine call_memW (pre := [.p (.agg [.v (.slice B1 c.at_.length d1), .v (.slice B2 c.pages.length d2), .v (.slice B3 c.ops.length d3)]), .p (.agg (varsC x.all))]) (suf := []) 6 768 3 (setupM x) (evalBlk c x.all (setupM x)).mem (outV (evalBlk c x.all (setupM x)).out) (fun i hi => ?_) (avals_blk_vars _ _ _ _) rfl (by kernel_rfl) (fun w' g gs hk hU => eval_walk c x.all 768 3 (setupM x) B1 B2 B3 d1 d2 d3 w' g gs hU setupM_ok hc hvc hvs (slAt_keeps hk hC1.at_) (slAt_keeps hk hC1.pages) (slAt_keeps hk hC1.ops)) ?_
    · have : i = 0 ∨ i = 1 ∨ i = 2 ∨ i = 3 ∨ i = 4 ∨ i = 5 := by omega
      rcases this with rfl | rfl | rfl | rfl | rfl | rfl <;> rfl
    rw [heq]
    conv => whnf
    refine ⟨?_, trivial⟩
    conv => whnf
    refine q_eql_out (evalBlk b x.all (setupM x)).out hlen rfl rfl rfl ?_
    conv => whnf
    refine ⟨?_, trivial⟩
    conv => whnf
    refine call_mem2 0 6 768 3 (evalBlk b x.all (setupM x)).mem hmem (fun i hi => ?_) (fun i hi => ?_) ?_
    · have : i = 0 ∨ i = 1 ∨ i = 2 ∨ i = 3 ∨ i = 4 ∨ i = 5 := by omega
      rcases this with rfl | rfl | rfl | rfl | rfl | rfl <;> rfl
    · have : i = 0 ∨ i = 1 ∨ i = 2 ∨ i = 3 ∨ i = 4 ∨ i = 5 := by omega
      rcases this with rfl | rfl | rfl | rfl | rfl | rfl <;> rfl
    conv => whnf
    refine atq_ret ?_
    conv => whnf
    exact fin_val rfl fun w' hB => ⟨rfl, hB0.trans (hB.mono hB0.size)⟩
end Go.Proofs.Ytmjfgnnefcimiaa
namespace Go.Proofs.Ytmjfgnnefcimiaa
open Go.RowKit

theorem avals_two_set (s1 s2 s3 t1 t2 t3 : Value) (x : SetP) : avals [.p (.agg [.v s1, .v s2, .v s3]), .p (.agg [.v t1, .v t2, .v t3]), .p (.agg ((setL x).map .v))] = some [.agg #[s1, s2, s3], .agg #[t1, t2, t3], setV x] := by
  simp only [avals, AV.val, Pc.val, valL_vals, valL, CV.val]
set_option maxRecDepth 100000 in
set_option maxHeartbeats 1000000 in
theorem sound_walk (b c : Blk) (x : SetP) (A1 A2 A3 B3 : Option Addr) (c1 c2 c3 d3 : Nat) (w : World) (hb : b.ok) (hc : c.ok) (hvb : validB b = true) (hvc : validB c = true) (hat : c.at_ = b.at_) (hpg : c.pages = b.pages) (hle : c.ops.length ≤ b.ops.length) (hx : x.ok) (hB : BlkAt w b A1 A2 A3) (hC : OpsAt w w.heap.size B3 c.ops) (heq : evalBlk c x.all (setupM x) = evalBlk b x.all (setupM x)) (hlen : (evalBlk b x.all (setupM x)).out.vars.length = 28) (hmem : (evalBlk b x.all (setupM x)).mem.ok 768 3) :
    Calls Try.prog 16 #[.agg #[.slice A1 b.at_.length c1, .slice A2 b.pages.length c2, .slice A3 b.ops.length c3], .agg #[.slice A1 b.at_.length c1, .slice A2 b.pages.length c2, .slice B3 c.ops.length d3], setV x] w fun e w' => e = .returned (.bool true) ∧ Below w.heap.size w w' := by
  refine calls_satq [.agg #[.slice A1 b.at_.length c1, .slice A2 b.pages.length c2, .slice A3 b.ops.length c3], .agg #[.slice A1 b.at_.length c1, .slice A2 b.pages.length c2, .slice B3 c.ops.length d3], setV x] Try.func16 Try.ntmps16 rfl (by simp) ?_
  refine satq_seq ?_
  conv => whnf
  refine satq_restart fun r w1 hR => ?_
  obtain ⟨g3, us3, e3, f3, k3⟩ := own_cellsAt hR 0 rfl
  obtain rfl := denL_vals_inv (us := [.slice A1 b.at_.length c1, .slice A2 b.pages.length c2, .slice A3 b.ops.length c3]) f3
  obtain ⟨g4, us4, e4, f4, k4⟩ := own_cellsAt hR 1 rfl
  obtain rfl := denL_vals_inv (us := [.slice A1 b.at_.length c1, .slice A2 b.pages.length c2, .slice B3 c.ops.length d3]) f4
  obtain ⟨g5, us5, e5, f5, k5⟩ := own_cellsAt hR 2 rfl
  obtain rfl := denL_vals_inv (us := setL x) f5
  have hB0 := hR.toBelow
  refine ⟨slotFr [(3, .pointer (some ⟨g3, 0, none⟩)), (4, .pointer (some ⟨g4, 0, none⟩)), (5, .pointer (some ⟨g5, 0, none⟩))], fun a hf => slots_den ⟨slot_ref hf 3 rfl e3, slot_ref hf 4 rfl e4, slot_ref hf 5 rfl e5, trivial⟩, ?_⟩
  have hB1 := hB.later hB0
  have hC1 := sl_later hC hB0
  clear hR e3 e4 e5 f3 f4 f5
  have part : ∀ {g : Nat} {s1 s2 s3 : Value}, CellsAt w1 Gs.nil g 0 [s1, s2, s3] → CellsAt w1 Gs.nil g 0 [s1] ∧ CellsAt w1 Gs.nil g 1 [s2] ∧ CellsAt w1 Gs.nil g 2 [s3] := fun {g s1 s2 s3} h =>
    ⟨cells_one h.1 h.2.1 (h.2.2 0 s1 rfl), cells_one h.1 h.2.1 (h.2.2 1 s2 rfl), cells_one h.1 h.2.1 (h.2.2 2 s3 rfl)⟩
  obtain ⟨p41, p42, p43⟩ := part k4
  obtain ⟨p31, p32, p33⟩ := part k3
  refine satq_vc ?_
  conv => whnf
  refine ⟨_, p41, ?_⟩
  conv => whnf
  refine ⟨_, p42, ?_⟩
  conv => whnf
  refine ⟨_, p33, ?_⟩
  conv => whnf
  refine ⟨_, k4, rfl, ?_⟩
  conv => whnf
  refine call_con (x := .bool true) rfl (by kernel_rfl) (fun r w' hR => ?_) ?_
  · have := valid_ref A1 A2 B3 c1 c2 d3 c w' hc (by rw [hpg]; exact sl_later hB1.pages hR.toBelow) (sl_later hC1 hR.toBelow)
    rw [valid_same, hvc, hat, hpg] at this
    exact this
  conv => whnf
  refine ⟨true, fun _ => ?_, ?_⟩
  · conv => whnf
    refine ⟨_, k3, rfl, ?_⟩
    conv => whnf
    refine call_con (x := .bool true) rfl (by kernel_rfl) (fun r w' hR => ?_) ?_
    · have := same_ref A1 A2 A3 A1 A2 A3 c1 c2 c3 c1 c2 c3 b b w' hb.lat hb.lpages hb.lops (sl_later hB1.at_ hR.toBelow) (sl_later hB1.pages hR.toBelow) (sl_later hB1.ops hR.toBelow) (sl_later hB1.at_ hR.toBelow) (sl_later hB1.pages hR.toBelow) (sl_later hB1.ops hR.toBelow)
      rw [sameB_self] at this
      exact this
    conv => whnf
    exact ⟨rfl, rfl, rfl, rfl, rfl⟩
  conv => whnf
  refine ⟨true, fun _ => ?_, ?_⟩
  · conv => whnf
    refine ⟨_, p43, ?_⟩
    conv => whnf
    refine ⟨_, p33, ?_⟩
    conv => whnf
    rw [show decide ((c.ops.length : Int) ≤ (b.ops.length : Int)) = true by simp; omega]
    exact ⟨rfl, rfl, rfl, rfl, rfl⟩
  conv => whnf
  refine ⟨true, fun _ => ?_, ?_⟩
  · conv => whnf
    refine ⟨_, k3, rfl, ?_⟩
    conv => whnf
    refine ⟨_, k4, rfl, ?_⟩
    conv => whnf
    refine ⟨setL x, k5, setL_length hx, ?_⟩
    conv => whnf
    refine call_con (x := .bool true) (avals_two_set _ _ _ _ _ _ x) (by kernel_rfl) (fun r w' hR => ?_) ?_
    · have := alike_walk b c x A1 A2 A3 A1 A2 B3 c1 c2 c3 c1 c2 d3 w' hb hc hvb hvc hx (hB1.later hR.toBelow) ⟨by rw [hat]; exact sl_later hB1.at_ hR.toBelow, by rw [hpg]; exact sl_later hB1.pages hR.toBelow, sl_later hC1 hR.toBelow⟩ heq hlen hmem
      rw [hat, hpg] at this
      exact this
    conv => whnf
    exact ⟨rfl, rfl, rfl, rfl, rfl⟩
  conv => whnf
  refine atq_ret ?_
  conv => whnf
  exact fin_val rfl fun w' hB => ⟨rfl, hB0.trans (hB.mono hB0.size)⟩
end Go.Proofs.Ytmjfgnnefcimiaa
namespace Go.Proofs.Ytmjfgnnefcimiaa
open Go.RowKit

/-- sound, of a block whose operations lie in a view. -/
theorem call_sound {w0 : World} {S : List Ow} {K : AV → List Ow → Prop} {φ : Option Addr → Prop} (i : Nat) (b : Blk) (l : List BOp) (x : SetP) (A1 A2 A3 : Option Addr) (c1 c2 c3 n1 n2 n3 : Nat) (hb : b.ok) (hvb : validB b = true) (hx : x.ok) (hB : BlkAt w0 b A1 A2 A3) (hn1 : b.at_.length = n1) (hn2 : b.pages.length = n2) (hn3 : b.ops.length = n3)
    (hl : OptOk b l) (hle : l.length ≤ b.ops.length) (hi : S[i]? = some (.view φ l.length (l.flatMap opC))) (hK : K (one (.bool true)) S) :
    CallS Try.prog w0 Gs.nil 16 [.p (.agg [.v (.slice A1 n1 c1), .v (.slice A2 n2 c2), .v (.slice A3 n3 c3)]), .p (.agg [.v (.slice A1 n1 c1), .v (.slice A2 n2 c2), .row i]), .p (.agg ((setL x).map .v))] S K := by
  subst hn1; subst hn2; subst hn3
  refine callS_val (.bool true) (by kernel_rfl) (fun r w us hR hd => ?_) hK
  obtain ⟨u1, l1, rfl, d1, u2, l2, rfl, d2, u3, l3, rfl, d3, d4⟩ := hd
  obtain rfl : l3 = [] := d4
  obtain rfl := AV.val_den (x := .agg #[.slice A1 b.at_.length c1, .slice A2 b.pages.length c2, .slice A3 b.ops.length c3]) rfl d1
  obtain rfl := AV.val_den (val_agg _) d3
  obtain ⟨us, rfl, hl'⟩ := den_agg d2
  simp only [denL, CV.den] at hl'
  obtain ⟨u1, l1, rfl, rfl, u2, l2, rfl, rfl, u3, l3, rfl, e3, rfl⟩ := hl'
  obtain ⟨A, c, rfl, s, k1, k2, _⟩ := viewAt hR hi e3
  obtain ⟨h1, h2⟩ := evalBlk_ok hb (all_ok hx) (setupM_ok (x := x))
  exact sound_walk b ⟨b.at_, b.pages, l⟩ x A1 A2 A3 A c1 c2 c3 c w hb hl.ok hvb hl.valid rfl rfl hle hx (hB.later hR.toBelow) s (hl.same _ _ (all_ok hx)) h1 h2
theorem dead_ok {b : Blk} (hb : b.ok) (hv : validB b = true) : OptOk b (deadAll b) := ⟨dead_valid hv, deadP_ok hb, fun _ M h => dead_same hb hv h M⟩
end Go.Proofs.Ytmjfgnnefcimiaa
namespace Go.Proofs.Ytmjfgnnefcimiaa
open Go.RowKit

set_option maxRecDepth 100000 in
theorem deads_law (A : Option Addr) (n c : Nat) (xs : List Int) (x : SetP) (w : World) (hs : SlAt w w.heap.size A (xs.map (.int .i64))) (hl : xs.length = n) (hnc : n ≤ c) (hx : x.ok) :
    Calls Try.prog 5 #[.slice A n c, setV x] w fun e w' => e = .returned (.bool true) ∧ Below w.heap.size w w' := by
  refine calls_satq [.slice A n c, setV x] Try.func5 Try.ntmps5 rfl (by simp) ?_
  refine satq_seq ?_
  conv => whnf
  refine satq_seq ?_
  conv => whnf
  refine call_con rfl (by kernel_rfl) (fun r w' hR => sanity_law w') ?_
  conv => whnf
  refine satq_cut (α := { b : Blk // MadeOk b }) (fun b => [(3, .p (.c (.ref 3 0))), (5, one (.bool true)), (6, .p (.c (.ref 4 0)))]) (fun b => blkRows b.1 ++ [.cells 27 ((setL x).map .v), .cells 32 [.row 0, .row 1, .row 2]]) ?_ fun b => ?_
  · conv => whnf
    refine call_blk MadeOk (by kernel_rfl) (fun r w' us hR hd => ?_) fun b hb => ?_
    · obtain rfl := avals_den (xs := [.slice A n c]) rfl hd
      exact made_walk A n c xs w' (sl_later hs hR.toBelow) hl hnc
    conv => whnf
    exact ⟨⟨b, hb⟩, ent_ren [1, 2, 3, 0, 4] (aI rfl (aI rfl (aI rfl trivial))) (aI ((Exists.intro _ (aI rfl (aI rfl (aI rfl (aI rfl rfl)))))) (aI ((Exists.intro _ (aI rfl (aI rfl (aI rfl (aI rfl rfl)))))) (aI ((Exists.intro _ (aI rfl (aI rfl (aI rfl (aI rfl rfl)))))) (aI ((Exists.intro _ (aI rfl (aI rfl (Or.inl (renL_vals _ _).symm))))) (aI ((Exists.intro _ (aI rfl (aI rfl (Or.inl rfl))))) trivial))))) rfl (by simp only [blkRows, List.cons_append, List.nil_append, sbnd, Ow.bnd, bndL_vals, bndL, CV.bnd]; rfl) rfl rfl rfl⟩
  obtain ⟨b, hb⟩ := b
  dsimp only
  refine satq_restart fun r w2 hR => ?_
  obtain ⟨g6, A1, c1, A2, c2, A3, c3, b6, k6, s1, s2, s3, m1, m2⟩ := own_blkRows hR 4 0 1 2 b rfl rfl rfl rfl
  obtain ⟨g3, us3, e3, f3, k3⟩ := own_cellsAt hR 3 rfl
  obtain rfl := denL_vals_inv (us := setL x) f3
  have hB1 : Below w.heap.size w w2 := hR.toBelow
  refine ⟨slotFr [(3, .pointer (some ⟨g3, 0, none⟩)), (5, .bool true), (6, .pointer (some ⟨g6, 0, none⟩))], fun a hf => slots_den ⟨slot_ref hf 3 rfl e3, slot_val hf rfl, slot_ref hf 6 rfl b6, trivial⟩, ?_⟩
  clear hR b6 e3 f3
  refine satq_vc ?_
  refine sat_anyG (.q 0 (.q 1 (.q 2 (.q 3 (.q 5 (.alt 4 (.alt 6 (.q 7 (.q 8 .done)) .no) .no)))))) mixed (by kernel_rfl) (by kernel_rfl) ?_
  conv => whnf
  refine ⟨_, k6, rfl, ?_⟩
  conv => whnf
  refine ⟨_, k6, rfl, ?_⟩
  conv => whnf
  refine ⟨setL x, k3, setL_length hx, ?_⟩
  conv => whnf
  refine ⟨?_, trivial⟩
  conv => whnf
  refine call_pass_pl dead_pass (by kernel_rfl) hb.ok dead_nil rfl rfl rfl s1 s2 s3 m1 m2 ?_
  conv => whnf
  refine ⟨?_, trivial⟩
  conv => whnf
  refine call_sound 0 b (deadAll b) x A1 A2 A3 c1 c2 c3 _ _ _ hb.ok hb.valid hx ⟨s1, s2, s3⟩ rfl rfl rfl (dead_ok hb.ok hb.valid) (deadAll_length b) rfl ?_
  conv => whnf
  refine atq_ret ?_
  conv => whnf
  exact fin_val rfl fun w' hB => ⟨rfl, hB1.trans (hB.mono hB1.size)⟩
end Go.Proofs.Ytmjfgnnefcimiaa
namespace Go.Proofs.Ytmjfgnnefcimiaa
open Go.ChangeShapes Go.WideShapes Go.ChangeAt Go.RowKit

set_option maxRecDepth 100000 in
theorem optDead_lifted (os : Os) (started : os.Started) (H : Type) (enc : TypeId × Value → H) :
    ReturnsInHanded {} Try.checked os 5 .any (Rows.optDeadSpec.pre6 enc Try.prog Try.f5 Rows.optDeadRow.domain false) (Rows.optDeadSpec.post enc Try.prog Try.f5 false true false false) := by
  refine returnsInHanded_of_change (C := Try.checked) ownK started (by kernel_rfl) Try.func5
    (ChangeSpec.witness6 (enc := enc) (C := Try.checked) false ⟨#[], #[.slice none 0 0, setV ⟨0, 0, 0, 0, List.replicate 19 0⟩], []⟩ 8 (by kernel_rfl) (by kernel_rfl) (by kernel_rfl) (by kernel_rfl)) ?_
  intro W base args ds gs before hval0 hW hcnd _
  have hval : ∀ (j : Nat) t v, Try.f5.params[j]? = some t → args[j]? = some v → Value.okWide Try.prog W .any base t v := hval0
  have hW' := hW
  obtain ⟨p, q, hA0, hV, rfl, hfz, hnd⟩ := hW
  have hA : DataW.TrodAll enc Try.prog W 0 (fun _ => true) true Try.f5.params.toList args.toList ds p := hA0
  rw [Try.params5] at hA hval
  obtain ⟨v0, vs0, d0, ds0, p0, q0, hargs, rfl, rfl, h0, r0⟩ := trodAll_cons hA
  obtain ⟨v1, vs1, d1, ds1, p1, q1, rfl, rfl, rfl, h1, r1⟩ := trodAll_cons r0
  obtain ⟨rfl, rfl, rfl⟩ := trodAll_nil r1
  obtain rfl : args = #[v0, v1] := by cases args; simp_all
  obtain ⟨rfl, rfl⟩ := trodVars_none hV
  obtain ⟨a0, len0, cap0, rfl⟩ := okWide_slice Try.underlying22 (hval 0 22 v0 rfl rfl)
  have k0 := h0
  have k1 := h1
  have lt0 : ∀ x ∈ p0, x.block < W.heap.size := by obtain ⟨m, hm⟩ := k0; exact DataW.trod_lt m _ _ _ hm
  have lt1 : ∀ x ∈ p1, x.block < W.heap.size := by obtain ⟨m, hm⟩ := k1; exact DataW.trod_lt m _ _ _ hm
  obtain ⟨xs, w0, hl, hnc⟩ := open_sl h0
  obtain ⟨x, rfl, hx⟩ := open_x (hval 1 27 v1 rfl rfl) h1
  clear hA0 hval0
  refine (deads_law a0 len0 cap0 xs x W w0 hl hnc hx).mono fun e W' ⟨he, bel⟩ => ?_
  subst he
  exact ⟨_, rfl, _, _, _, [], _, [], hW', trodAll_mk1 (shut_bool Try.underlying4 _), (trodAll_cons_mk (Below.trod laidOutP (by kernel_rfl) (of_decide_eq_true (by kernel_rfl)) k0 bel lt0) (trodAll_cons_mk (Below.trod laidOutP (by kernel_rfl) (of_decide_eq_true (by kernel_rfl)) k1 bel lt1) trodAll_mk0)), rfl, bel.frame _, fun h => by cases h⟩
theorem optDead_holds : Rows.OptDeadSaid :=
  OpenClaim.holds_of_wide 5 Try.f5 rfl rfl rfl rfl rfl rfl rfl ⟨rfl, rfl, rfl, rfl, rfl⟩ rfl rfl rfl rfl rfl (by kernel_rfl) Try.func5 (by kernel_rfl)
    (of_decide_eq_true (by kernel_rfl)) (by unfold Func.isWrapper; first | (rw [if_pos (by decide +kernel)]; kernel_rfl) | (rw [if_neg (by decide +kernel)]; exact ⟨rfl, rfl⟩))
    (fun os started H enc _ => optDead_lifted os started H enc)
end Go.Proofs.Ytmjfgnnefcimiaa
#print axioms Go.Proofs.Ytmjfgnnefcimiaa.optDead_holds
